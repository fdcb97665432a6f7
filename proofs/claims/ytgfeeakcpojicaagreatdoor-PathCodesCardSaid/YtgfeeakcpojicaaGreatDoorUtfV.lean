/- What a row of the utf chapter lists, opened: the two sentinels and Go's two tables. -/
import Derived.Test.YtgfeeakcpojicaaGreatDoorUtfW
import Derived.Test.YtgfeeakcpojicaaGreatDoorRows
import Derived.Test.YtgfeeakcpojicaaGreatDoorShelf
import Derived.Lib.LaidU8T
import Derived.PinnedBridge
import Derived.Stop.LaidErr
import Derived.Stop.Joined
import Derived.LaidMore
import Derived.LaidLaws
import Derived.Lay
import Derived.SevenTiedAt
import Derived.ProofKit
import Derived.OpenShut
namespace Go.Proofs.YtgfeeakcpojicaaGreatDoor
open Go.RowKit Go.Shelf Go.Lib

theorem laidMet_drop {P : Program} {W : World} : ∀ (k : Nat) {l : List (String × DataW Unit)}, laidMet P l W → laidMet P (l.drop k) W
  | 0, _, h => h
  | _ + 1, [], h => h
  | k + 1, _ :: _, h => laidMet_drop k h.tail

set_option maxRecDepth 100000 in
/-- A sentinel on the list: its cell, the block behind it, its text. -/
theorem sentinel_of {n : String} {g : Nat} {text : List UInt8} {r : List (String × DataW Unit)} {W : World} (h : laidMet Tryz.prog ((n, .iface "*errors.errorString" (.ptr (.agg [.lit (.string text)]))) :: r) W)
    (hg : Tryz.prog.globalNamed n = some g) (ht : (Tryz.prog.globals[g]?).map (·.type) = some 63)
    (hi : ∃ ms, Tryz.prog.underlying 63 = some (.interface ms)) (hrow : ∀ u, Tryz.prog.typeName? 3 u = some "*errors.errorString" → u = 167)
    (he : ∃ f : Field, Tryz.prog.underlying 169 = some (.struct #[f]) ∧ f.type = 9 ∧ f.offset = 0) (hc : Tryz.prog.cellsOf 169 = 1) (hcs : Tryz.prog.cellsOf 9 = 1) :
    ∃ a : Addr, W.cell? ⟨g, 0, none⟩ = some (.iface 167 (.pointer (some a))) ∧ (∃ c t, W.heap[a.block]? = some (.cells c t (0, 0))) ∧ ∃ s : ByteArray, W.cell? a = some (.string s) ∧ s.data.toList = text := by
  obtain ⟨ms, hi⟩ := hi
  obtain ⟨f, he, hft, hfo⟩ := he
  obtain ⟨ps, ⟨g0, t0, cs0, f0, p0, q0, hg0, ht0, hv0, hd0, _, e0⟩, _, hrows⟩ := h
  obtain rfl := Option.some.inj (hg.symm.trans hg0)
  obtain rfl := Option.some.inj (ht.symm.trans ht0)
  subst e0
  obtain ⟨l0⟩ := cs0
  have ok0 : ∀ u v, l0 = [.iface u v] → Value.okWide Tryz.prog W .any 0 u v := fun u v e => by
    subst e
    exact (hrows g 0 (by simp [MemPlace.row])).2 u v (by simpa using World.var?_cell hg0 hv0 0)
  obtain ⟨a0, s0, rfl, hc0, hs0, hz0, rfl⟩ := errorString_of_trod hi hrow Tryz.underlying167 he hft hfo Tryz.underlying9 hc hcs hd0 ok0
  obtain ⟨c0, t0, hb0⟩ := (hrows a0.block a0.off (by simp [MemPlace.row])).1
  refine ⟨a0, ?_, ⟨c0, t0, hb0⟩, s0, hc0, hs0⟩
  simpa using World.var?_cell hg0 hv0 0

set_option maxRecDepth 100000 in
theorem u8extra : U8Extra Tryz.prog Tryz.lays196_ren := { n3 := by kernel_rfl, n4 := by kernel_rfl, y3 := by kernel_rfl, y4 := by kernel_rfl, c5 := by kernel_rfl, c119 := by kernel_rfl, c138 := by kernel_rfl }
theorem es_star : "*" ++ "errors.errorString" = "*errors.errorString" := by decide
set_option maxRecDepth 100000 in
theorem es_row (u : TypeId) (h : Tryz.prog.typeName? 3 u = some "*errors.errorString") : u = 167 :=
  typeName_ptr_named (nm := "errors.errorString") (by rw [es_star]; kernel_rfl) (by kernel_rfl) (by decide) u (by rw [es_star]; exact h)
theorem es_iface : ∃ ms, Tryz.prog.underlying 63 = some (.interface ms) := ⟨_, Tryz.underlying63⟩
theorem es_struct : ∃ f : Field, Tryz.prog.underlying 169 = some (.struct #[f]) ∧ f.type = 9 ∧ f.offset = 0 := ⟨_, Tryz.underlying169, rfl, rfl⟩
set_option maxRecDepth 100000 in
theorem es_cells : Tryz.prog.cellsOf 169 = 1 := by kernel_rfl
set_option maxRecDepth 100000 in
theorem es_string : Tryz.prog.cellsOf 9 = 1 := by kernel_rfl
set_option maxRecDepth 100000 in
theorem gT : Tryz.prog.globalNamed "targum/utf.errText" = some 3 := by kernel_rfl
set_option maxRecDepth 100000 in
theorem gQ : Tryz.prog.globalNamed "targum/utf.errQuote" = some 0 := by kernel_rfl
set_option maxRecDepth 100000 in
theorem tT : (Tryz.prog.globals[3]?).map (·.type) = some 63 := by kernel_rfl
set_option maxRecDepth 100000 in
theorem tQ : (Tryz.prog.globals[0]?).map (·.type) = some 63 := by kernel_rfl

/-- A list of laid variables in which the utf chapter's four stand. -/
structure UtfLaid (l : List (String × DataW Unit)) : Prop where
  eT : ∃ k r, l.drop k = ("targum/utf.errText", .iface "*errors.errorString" (.ptr (.agg [.lit (.string [110, 111, 32, 116, 101, 120, 116])]))) :: r
  eQ : ∃ k r, l.drop k = ("targum/utf.errQuote", .iface "*errors.errorString" (.ptr (.agg [.lit (.string [110, 111, 32, 113, 117, 111, 116, 97, 116, 105, 111, 110])]))) :: r
  ra : ("unicode/utf8.acceptRanges", acceptData) ∈ l
  fi : ("unicode/utf8.first", firstData) ∈ l

theorem uw_of_laid {l : List (String × DataW Unit)} (hl : UtfLaid l) {W : World} (h : laidMet Tryz.prog l W) : ∃ aT aQ, UW W aT aQ := by
  obtain ⟨kT, rT, eT⟩ := hl.eT
  obtain ⟨kQ, rQ, eQ⟩ := hl.eQ
  have hT := laidMet_drop kT h
  have hQ := laidMet_drop kQ h
  rw [eT] at hT
  rw [eQ] at hQ
  obtain ⟨aT, cT, bT, sT, dT, xT⟩ := sentinel_of hT gT tT es_iface es_row es_struct es_cells es_string
  obtain ⟨aQ, cQ, bQ, sQ, dQ, xQ⟩ := sentinel_of hQ gQ tQ es_iface es_row es_struct es_cells es_string
  refine ⟨aT, aQ, cT, cQ, ?_, bT, bQ, ?_⟩
  · rintro rfl
    rw [dT] at dQ
    cases dQ
    rw [xT] at xQ
    cases xQ
  · obtain ⟨ps, hv, _, _⟩ := h
    exact utf8Tabs_of_readsT (U8Types.of196 Tryz.lays196) u8extra (LaidVars_reads hv _ _ hl.fi) (LaidVars_reads hv _ _ hl.ra)

theorem wf_u16 {a : Int} (h : (Lit.int .u16 a).wf = true) : 0 ≤ a ∧ a < 65536 := by
  simp [Lit.wf, IntKind.min, IntKind.max, IntKind.signed, IntKind.bits] at h
  omega
theorem wf_u8 {a : Int} (h : (Lit.int .u8 a).wf = true) : 0 ≤ a ∧ a < 256 := by
  simp [Lit.wf, IntKind.min, IntKind.max, IntKind.signed, IntKind.bits] at h
  omega
theorem wf_i32 {a : Int} (h : (Lit.int .i32 a).wf = true) : -2147483648 ≤ a ∧ a < 2147483648 := by
  simp [Lit.wf, IntKind.min, IntKind.max, IntKind.signed, IntKind.bits] at h
  omega
theorem wf_i64 {a : Int} (h : (Lit.int .i64 a).wf = true) : -9223372036854775808 ≤ a ∧ a < 9223372036854775808 := by
  simp [Lit.wf, IntKind.min, IntKind.max, IntKind.signed, IntKind.bits] at h
  omega
end Go.Proofs.YtgfeeakcpojicaaGreatDoor
