/- The texts LaidV, TreeV, CbV, CsV, ArgV, put together. -/
import Derived.Test.YtflkmhgbinlfiaaGreatDoorPn01
import Derived.Test.YtflkmhgbinlfiaaGreatDoorRows
import Derived.Test.YtflkmhgbinlfiaaGreatDoorPn13
import Derived.Lib.LaidU8T
import Derived.PinnedBridge
import Derived.Stop.LaidErr
import Derived.Stop.Joined
import Derived.LaidMore
import Derived.LaidLaws
import Derived.Lay
import Derived.SevenTiedAt
import Derived.ProofKit
import Derived.OpenShut
import Derived.Lib.LaidTab
import Derived.Test.YtflkmhgbinlfiaaGreatDoorPn02
import Derived.Deep.Slices
import Derived.ChangeArms
import Derived.WideShapes
import Derived.Test.YtflkmhgbinlfiaaGreatDoorPn16
import Derived.Test.YtflkmhgbinlfiaaGreatDoorPn44
import Derived.LaidHandle
namespace Go.Proofs.YtflkmhgbinlfiaaGreatDoor
open Go.RowKit Go.Shelf Go.Lib

theorem laidMet_drop {P : Program} {W : World} : ∀ (k : Nat) {l : List (String × DataW Unit)}, laidMet P l W → laidMet P (l.drop k) W
  | 0, _, h => h
  | _ + 1, [], h => h
  | k + 1, _ :: _, h => laidMet_drop k h.tail

set_option maxRecDepth 100000 in
/-- A sentinel on the list: its cell, the block behind it, its text. -/
theorem sentinel_of {n : String} {g : Nat} {text : List UInt8} {r : List (String × DataW Unit)} {W : World} (h : laidMet Tryz.prog ((n, .iface "*errors.errorString" (.ptr (.agg [.lit (.string text)]))) :: r) W)
    (hg : Tryz.prog.globalNamed n = some g) (ht : (Tryz.prog.globals[g]?).map (·.type) = some 53)
    (hi : ∃ ms, Tryz.prog.underlying 53 = some (.interface ms)) (hrow : ∀ u, Tryz.prog.typeName? 3 u = some "*errors.errorString" → u = 277)
    (he : ∃ f : Field, Tryz.prog.underlying 279 = some (.struct #[f]) ∧ f.type = 9 ∧ f.offset = 0) (hc : Tryz.prog.cellsOf 279 = 1) (hcs : Tryz.prog.cellsOf 9 = 1) :
    ∃ a : Addr, W.cell? ⟨g, 0, none⟩ = some (.iface 277 (.pointer (some a))) ∧ (∃ c t, W.heap[a.block]? = some (.cells c t (0, 0))) ∧ ∃ s : ByteArray, W.cell? a = some (.string s) ∧ s.data.toList = text := by
  obtain ⟨ms, hi⟩ := hi
  obtain ⟨f, he, hft, hfo⟩ := he
  obtain ⟨ps, ⟨g0, t0, cs0, f0, p0, q0, hg0, ht0, hv0, hd0, _, e0⟩, _, hrows⟩ := h
  obtain rfl := Option.some.inj (hg.symm.trans hg0)
  obtain rfl := Option.some.inj (ht.symm.trans ht0)
  subst e0
  obtain ⟨l0⟩ := cs0
  have ok0 : ∀ u v, l0 = [.iface u v] → Value.okWide Tryz.prog W .any 0 u v := fun u v e => by
    subst e
    exact (hrows g 0 (by simp [MemPlace.row])).2 u v (by simpa using World.var?_cell hg0 hv0 0)
  obtain ⟨a0, s0, rfl, hc0, hs0, hz0, rfl⟩ := errorString_of_trod hi hrow Tryz.underlying277 he hft hfo Tryz.underlying9 hc hcs hd0 ok0
  obtain ⟨c0, t0, hb0⟩ := (hrows a0.block a0.off (by simp [MemPlace.row])).1
  refine ⟨a0, ?_, ⟨c0, t0, hb0⟩, s0, hc0, hs0⟩
  simpa using World.var?_cell hg0 hv0 0

set_option maxRecDepth 100000 in
theorem u8extra : U8Extra Tryz.prog Tryz.lays196_ren := { n3 := by kernel_rfl, n4 := by kernel_rfl, y3 := by kernel_rfl, y4 := by kernel_rfl, c5 := by kernel_rfl, c119 := by kernel_rfl, c138 := by kernel_rfl }
theorem es_star : "*" ++ "errors.errorString" = "*errors.errorString" := by decide
set_option maxRecDepth 100000 in
theorem es_row (u : TypeId) (h : Tryz.prog.typeName? 3 u = some "*errors.errorString") : u = 277 :=
  typeName_ptr_named (nm := "errors.errorString") (by rw [es_star]; kernel_rfl) (by kernel_rfl) (by decide) u (by rw [es_star]; exact h)
theorem es_iface : ∃ ms, Tryz.prog.underlying 53 = some (.interface ms) := ⟨_, Tryz.underlying53⟩
theorem es_struct : ∃ f : Field, Tryz.prog.underlying 279 = some (.struct #[f]) ∧ f.type = 9 ∧ f.offset = 0 := ⟨_, Tryz.underlying279, rfl, rfl⟩
set_option maxRecDepth 100000 in
theorem es_cells : Tryz.prog.cellsOf 279 = 1 := by kernel_rfl
set_option maxRecDepth 100000 in
theorem es_string : Tryz.prog.cellsOf 9 = 1 := by kernel_rfl
theorem wf_i64 {a : Int} (h : (Lit.int .i64 a).wf = true) : -9223372036854775808 ≤ a ∧ a < 9223372036854775808 := by
  simp [Lit.wf, IntKind.min, IntKind.max, IntKind.signed, IntKind.bits] at h
  omega
theorem cell_block_lt {w : World} {a : Addr} {v : Value} (h : w.cell? a = some v) : a.block < w.heap.size := by
  unfold World.cell? at h
  cases hh : w.heap[a.block]? with
  | none => rw [hh] at h; cases h
  | some o => exact (Array.getElem?_eq_some_iff.1 hh).1
set_option maxRecDepth 100000 in
/-- A sentinel on the list: its variable holds an interface value. -/
theorem sentinel_var {n : String} {g : Nat} {text : List UInt8} {r : List (String × DataW Unit)} {W : World} (h : laidMet Tryz.prog ((n, .iface "*errors.errorString" (.ptr (.agg [.lit (.string text)]))) :: r) W)
    (hg : Tryz.prog.globalNamed n = some g) (ht : (Tryz.prog.globals[g]?).map (·.type) = some 53) : ∃ tp p, W.var? Tryz.prog n = some #[.iface tp p] := by
  obtain ⟨ms, hi⟩ := es_iface
  obtain ⟨f, he, hft, hfo⟩ := es_struct
  obtain ⟨ps, ⟨g0, t0, cs0, f0, p0, q0, hg0, ht0, hv0, hd0, _, e0⟩, _, hrows⟩ := h
  obtain rfl := Option.some.inj (hg.symm.trans hg0)
  obtain rfl := Option.some.inj (ht.symm.trans ht0)
  subst e0
  obtain ⟨l0⟩ := cs0
  have ok0 : ∀ u v, l0 = [.iface u v] → Value.okWide Tryz.prog W .any 0 u v := fun u v e => by
    subst e
    exact (hrows g 0 (by simp [MemPlace.row])).2 u v (by simpa using World.var?_cell hg0 hv0 0)
  obtain ⟨a0, s0, rfl, hc0, hs0, hz0, rfl⟩ := errorString_of_trod hi es_row Tryz.underlying277 he hft hfo Tryz.underlying9 es_cells es_string hd0 ok0
  exact ⟨_, _, hv0⟩
set_option maxRecDepth 100000 in
theorem gR : Tryz.prog.globalNamed "strconv.ErrRange" = some 6 := by kernel_rfl
set_option maxRecDepth 100000 in
theorem tR : (Tryz.prog.globals[6]?).map (·.type) = some 53 := by kernel_rfl
end Go.Proofs.YtflkmhgbinlfiaaGreatDoor
namespace Go.Proofs.YtflkmhgbinlfiaaGreatDoor
open Go.RowKit Go.Shelf Go.Lib

theorem wf_n64 {n : Int} (h : (Lit.int .u64 n).wf = true) : 0 ≤ n ∧ n < 18446744073709551616 := by
  simp [Lit.wf, IntKind.min, IntKind.max, IntKind.signed, IntKind.bits] at h
  omega

section
variable {H : Type} {enc : TypeId × Value → H} {w : World} {base : Nat} {sp : Nat → Bool} {held : Bool}


end
end Go.Proofs.YtflkmhgbinlfiaaGreatDoor
namespace Go.Proofs.YtflkmhgbinlfiaaGreatDoor
open Go.RowKit Go.Shelf Go.Lib

set_option maxRecDepth 100000 in
theorem gTr : Tryz.prog.globalNamed "targum/tree.errTree" = some 0 := by kernel_rfl
set_option maxRecDepth 100000 in
theorem gFo : Tryz.prog.globalNamed "targum/tree.errForm" = some 1 := by kernel_rfl
set_option maxRecDepth 100000 in
theorem tTr : (Tryz.prog.globals[0]?).map (·.type) = some 53 := by kernel_rfl
set_option maxRecDepth 100000 in
theorem tFo : (Tryz.prog.globals[1]?).map (·.type) = some 53 := by kernel_rfl

/-- A list of laid variables in which the gate's five stand. -/
structure GateLaid (l : List (String × DataW Unit)) : Prop where
  eT : ∃ k r, l.drop k = ("targum/tree.errTree", .iface "*errors.errorString" (.ptr (.agg [.lit (.string [110, 111, 32, 116, 114, 101, 101])]))) :: r
  eF : ∃ k r, l.drop k = ("targum/tree.errForm", .iface "*errors.errorString" (.ptr (.agg [.lit (.string [110, 111, 32, 115, 117, 99, 104, 32, 102, 111, 114, 109])]))) :: r
  ra : ("unicode/utf8.acceptRanges", acceptData) ∈ l
  fi : ("unicode/utf8.first", firstData) ∈ l
  eR : ∃ k r, l.drop k = ("strconv.ErrRange", .iface "*errors.errorString" (.ptr (.agg [.lit (.string [118, 97, 108, 117, 101, 32, 111, 117, 116, 32, 111, 102, 32, 114, 97, 110, 103, 101])]))) :: r

theorem gw_of_laid {l : List (String × DataW Unit)} (hl : GateLaid l) {W : World} (h : laidMet Tryz.prog l W) : ∃ aT aF, GW W aT aF := by
  obtain ⟨kT, rT, eT⟩ := hl.eT
  obtain ⟨kF, rF, eF⟩ := hl.eF
  obtain ⟨kR, rR, eR⟩ := hl.eR
  have hT := laidMet_drop kT h
  have hF := laidMet_drop kF h
  have hR := laidMet_drop kR h
  rw [eT] at hT
  rw [eF] at hF
  rw [eR] at hR
  obtain ⟨aT, cT, bT, sT, dT, xT⟩ := sentinel_of hT gTr tTr es_iface es_row es_struct es_cells es_string
  obtain ⟨aF, cF, bF, sF, dF, xF⟩ := sentinel_of hF gFo tFo es_iface es_row es_struct es_cells es_string
  refine ⟨aT, aF, cT, cF, ?_, bT, bF, ?_, sentinel_var hR gR tR⟩
  · rintro rfl
    rw [dT] at dF
    cases dF
    rw [xT] at xF
    cases xF
  · obtain ⟨ps, hv, _, _⟩ := h
    exact utf8Tabs_of_readsT (U8Types.of196 Tryz.lays196) u8extra (LaidVars_reads hv _ _ hl.fi) (LaidVars_reads hv _ _ hl.ra)
end Go.Proofs.YtflkmhgbinlfiaaGreatDoor
namespace Go.Proofs.YtflkmhgbinlfiaaGreatDoor
open Go.RowKit Go.Shelf Go.Lib

/-- The list, the handle left out. -/
noncomputable abbrev plainL : List (String × DataW Unit) := [("math/bits.deBruijn32tab", Rows.laid_math_bits_deBruijn32tab), ("math/bits.deBruijn64tab", Rows.laid_math_bits_deBruijn64tab), ("internal/strconv.uint64pow10", Rows.laid_internal_strconv_uint64pow10), ("unicode/utf8.acceptRanges", Rows.laid_unicode_utf8_acceptRanges), ("strconv.ErrRange", Rows.laid_strconv_ErrRange), ("strconv.ErrSyntax", Rows.laid_strconv_ErrSyntax), ("targum/tree.errTree", Rows.laid_targum_tree_errTree), ("targum/tree.errForm", Rows.laid_targum_tree_errForm), ("unicode/utf8.first", Rows.laid_unicode_utf8_first)]
noncomputable abbrev allL10 : List (String × DataW Unit) := [("math/bits.deBruijn32tab", Rows.laid_math_bits_deBruijn32tab), ("math/bits.deBruijn64tab", Rows.laid_math_bits_deBruijn64tab), ("internal/strconv.uint64pow10", Rows.laid_internal_strconv_uint64pow10), ("unicode/utf8.acceptRanges", Rows.laid_unicode_utf8_acceptRanges), ("errors.errorType", Rows.laid_errors_errorType), ("strconv.ErrRange", Rows.laid_strconv_ErrRange), ("strconv.ErrSyntax", Rows.laid_strconv_ErrSyntax), ("targum/tree.errTree", Rows.laid_targum_tree_errTree), ("targum/tree.errForm", Rows.laid_targum_tree_errForm), ("unicode/utf8.first", Rows.laid_unicode_utf8_first)]
set_option maxRecDepth 100000 in
theorem hand_parts {W : World} (h : laidMetH Tryz.prog allL10 W) : laidMet Tryz.prog plainL W ∧ handlesMet Tryz.prog [("errors.errorType", Rows.laid_errors_errorType)] W := by
  have e1 : (allL10.filter fun x => x.2.handleName?.isSome) = [("errors.errorType", Rows.laid_errors_errorType)] := by kernel_rfl
  have e2 : (allL10.filter fun x => x.2.handleName?.isNone) = plainL := by kernel_rfl
  unfold laidMetH at h
  rw [e1, e2] at h
  exact h
set_option maxRecDepth 100000 in
theorem hand_et : Tryz.prog.globalNamed "errors.errorType" = some 2 := by kernel_rfl
set_option maxRecDepth 100000 in
theorem hand_rt : (Tryz.prog.cutTypes.find? (·.1 == "internal/reflectlite.rtype")).map (·.2) = some 119 := by kernel_rfl
set_option maxRecDepth 100000 in
theorem hand_size : Tryz.prog.types.size = 312 := by kernel_rfl
set_option maxRecDepth 100000 in
theorem hand_row : ((List.range 312).filter fun t => Tryz.prog.rowNamed t [101, 114, 114, 111, 114]) = [53] := by kernel_rfl
set_option maxRecDepth 100000 in
theorem hand_ty {W : World} (h : handlesMet Tryz.prog [("errors.errorType", Rows.laid_errors_errorType)] W) : ErrTy W := by
  obtain ⟨name, u, ty, e1, e2, e3, e4, e5⟩ := h _ (List.mem_singleton.2 rfl)
  have en : name = [101, 114, 114, 111, 114] := (Option.some.inj e1).symm
  subst en
  obtain rfl := Option.some.inj (hand_rt.symm.trans e2)
  have hm : ty ∈ (List.range 312).filter fun t => Tryz.prog.rowNamed t [101, 114, 114, 111, 114] := List.mem_filter.2 ⟨List.mem_range.2 (by rw [← hand_size]; exact e3), e4⟩
  rw [hand_row] at hm
  obtain rfl := List.mem_singleton.1 hm
  have hh : typeHandle Tryz.prog 53 = .pointer (some ⟨11, 53, none⟩) := by kernel_rfl
  rw [hh] at e5
  simpa using World.var?_cell hand_et e5 0
set_option maxRecDepth 100000 in
theorem plain_gate : GateLaid plainL where
  eT := ⟨6, _, rfl⟩
  eF := ⟨7, _, rfl⟩
  ra := by
    rw [show (acceptData : DataW Unit) = Rows.laid_unicode_utf8_acceptRanges from by kernel_rfl]
    exact .tail _ (.tail _ (.tail _ (.head _)))
  fi := by
    rw [show (firstData : DataW Unit) = Rows.laid_unicode_utf8_first from by kernel_rfl]
    exact .tail _ (.tail _ (.tail _ (.tail _ (.tail _ (.tail _ (.tail _ (.tail _ (.head _))))))))
  eR := ⟨4, _, rfl⟩
set_option maxRecDepth 100000 in
theorem pow_g : Tryz.prog.globalNamed "internal/strconv.uint64pow10" = some 8 := by kernel_rfl
set_option maxRecDepth 100000 in
theorem pow_t : (Tryz.prog.globals[8]?).map (·.type) = some 272 := by kernel_rfl
set_option maxRecDepth 100000 in
theorem pow_u : Tryz.prog.cellsOf 25 = 1 := by kernel_rfl
set_option maxRecDepth 100000 in
theorem pow_c : Tryz.prog.cellsOf 272 = 20 := by kernel_rfl
set_option maxRecDepth 100000 in
theorem rw_of_laid {W : World} (h : laidMetH Tryz.prog allL10 W) : ∃ aT aF, RW W aT aF := by
  obtain ⟨h1, h2⟩ := hand_parts h
  obtain ⟨aT, aF, hg⟩ := gw_of_laid plain_gate h1
  have h3 := laidMet_drop 2 h1
  exact ⟨aT, aF, hg, tabIs_of_head pow_g pow_t Tryz.underlying272 Tryz.underlying25 pow_u pow_c h3, hand_ty h2⟩

/-- The world of the door, the handle laid; then all else. -/
noncomputable def handW (os : Os) : World :=
  let w0 := World.holding Tryz.prog os ⟨#[], #[], []⟩
  { w0 with heap := w0.heap.modify 2 fun
      | .cells _ t frozen => .cells #[.iface 119 (.agg #[.pointer (some ⟨11, 53, none⟩)])] t frozen
      | o => o }
noncomputable def laidH (os : Os) : World := (handW os).layVars Tryz.prog plainL
theorem laidH_os (os : Os) : (laidH os).os = os := World.layVars_os _ _ _
set_option maxRecDepth 100000 in
theorem laidH_met (os : Os) (args : Array Value) : laidMetH Tryz.prog allL10 ((laidH os).forCall (fun _ _ => 0) ⟨#[], args, []⟩).memory := by
  refine laidMetH_of_parts ?_ ?_
  · have e2 : (allL10.filter fun x => x.2.handleName?.isNone) = plainL := by kernel_rfl
    rw [e2]
    have e3 : (plainL.filter fun x => (plainL.map (·.1)).contains x.1) = plainL := List.filter_eq_self.2 fun x hx => List.contains_iff_mem.2 (List.mem_map.2 ⟨x, hx, rfl⟩)
    have e4 : (plainL.filter fun x => !(plainL.map (·.1)).contains x.1) = [] := List.filter_eq_nil_iff.2 fun x hx => by rw [List.contains_iff_mem.2 (List.mem_map.2 ⟨x, hx, rfl⟩)]; simp
    have h : laidMet Tryz.prog plainL (laidH os) := laidMet_layVars (w0 := handW os) (plainL.map (·.1)) [] (by rw [e3]; rfl) (by rw [e3]; kernel_rfl) (by rw [e3]; kernel_rfl) (by rw [e4]; exact LaidIn.none)
    exact h.of_heap (by simp [World.memory, World.forCall, Input.heap])
  · kernel_rfl
set_option maxRecDepth 100000 in
theorem laidH_shaped (os : Os) (args : Array Value) : ((laidH os).forCall (fun _ _ => 0) ⟨#[], args, []⟩).Shaped Tryz.prog := World.shaped_of_ZipB (by kernel_rfl) (by kernel_rfl)
end Go.Proofs.YtflkmhgbinlfiaaGreatDoor
namespace Go.Proofs.YtflkmhgbinlfiaaGreatDoor
open Go.RowKit Go.Shelf Go.Lib

theorem choose_list {α : Type} {p : Nat → α → Prop} : ∀ (n : Nat), (∀ i, i < n → ∃ s, p i s) → ∃ l : List α, l.length = n ∧ ∀ i (h : i < l.length), p i l[i]
  | 0, _ => ⟨[], rfl, fun i h => by simp at h⟩
  | n + 1, h => by
    obtain ⟨l, hl, hp⟩ := choose_list n (fun i hi => h i (by omega))
    obtain ⟨s, hs⟩ := h n (by omega)
    refine ⟨l ++ [s], by simp [hl], fun i hi => ?_⟩
    rw [List.getElem_append]
    split
    · exact hp i _
    · have : i = n := by simp at hi; omega
      subst this
      simpa [hl] using hs
/-- The slice .slice A n c holds ints. -/
structure IntsAt (W : World) (B : Nat) (A : Option Addr) (n : Nat) (l : List Int) : Prop where
  len : n = l.length
  at_ : ∀ k (h : k < l.length), ∃ ad, A = some ad ∧ ad.block < B ∧ W.cell? (ad.add k) = some (Value.int .i64 l[k]) ∧ (-9223372036854775808 ≤ l[k] ∧ l[k] < 9223372036854775808)
theorem IntsAt.below {W W' : World} {B n : Nat} {A : Option Addr} {l : List Int} (h : IntsAt W B A n l) {m : Nat} (hb : Below m W W') (hm : B ≤ m) : IntsAt W' B A n l :=
  ⟨h.len, fun k hk => by
    obtain ⟨ad, e, hlt, hc, ho⟩ := h.at_ k hk
    exact ⟨ad, e, hlt, (hb.cell (by rw [add_block]; omega)).trans hc, ho⟩⟩
section
variable {H : Type} {enc : TypeId × Value → H} {w : World} {base : Nat} {sp : Nat → Bool} {held : Bool}
set_option maxRecDepth 100000 in
theorem celInts : Tryz.prog.cellsOf 3 = 1 := by kernel_rfl
set_option maxRecDepth 100000 in
theorem open_ints {W : World} {r : Reach} {b0 : Nat} {v : Value} {d : DataW H} {ps : List MemPlace} (hval : Value.okWide Tryz.prog W r b0 44 v) (hd : DataW.Trod enc Tryz.prog w base sp held 44 v d ps) :
    ∃ A n c l, v = .slice A n c ∧ n ≤ 9223372036854775807 ∧ IntsAt w w.heap.size A n l := by
  obtain ⟨a, len, cap, rfl⟩ := Go.WideShapes.okWide_slice Tryz.underlying44 hval
  obtain ⟨fuel, hf⟩ := hd
  rcases Go.Deep.open_slice1 Tryz.underlying44 celInts hf with ⟨e, _⟩ | ⟨a', len', cap', m, n, V, D, Pl, e, hb, hl, hm, hmm, _, hx⟩
  · simp [Value.cells] at e
    obtain ⟨rfl, rfl, rfl⟩ := e
    exact ⟨none, 0, 0, [], rfl, by omega, rfl, fun k h => by simp at h⟩
  · simp [Value.cells] at e
    obtain ⟨rfl, rfl, rfl⟩ := e
    have hlm : len ≤ m := by rw [hmm]; split <;> omega
    obtain ⟨l, hl1, hl2⟩ := choose_list (p := fun i (x : Int) => w.cell? (a'.add i) = some (Value.int .i64 x) ∧ (-9223372036854775808 ≤ x ∧ x < 9223372036854775808)) len (fun i hi => by
      obtain ⟨h1, h2⟩ := hx i (by omega)
      obtain ⟨x, e0, _, w0⟩ := DataW.trod_int Tryz.underlying3 h2
      rw [List.cons.injEq] at e0
      exact ⟨x, by rw [h1, e0.1], wf_i64 w0⟩)
    refine ⟨some a', len, cap, l, rfl, by simp [maxLen] at hm; omega, hl1.symm, fun k hk => ?_⟩
    obtain ⟨h1, h2⟩ := hl2 k hk
    exact ⟨a', rfl, cell_block_lt (a := a'.add k) h1 |> fun h => by rwa [add_block] at h, h1, h2⟩
end
/-- The slice .slice A n c holds strings. -/
structure StrsAt (W : World) (B : Nat) (A : Option Addr) (n : Nat) (l : List ByteArray) : Prop where
  len : n = l.length
  at_ : ∀ k (h : k < l.length), ∃ ad, A = some ad ∧ ad.block < B ∧ W.cell? (ad.add k) = some (Value.string l[k]) ∧ l[k].size ≤ 9223372036854775807
theorem StrsAt.below {W W' : World} {B n : Nat} {A : Option Addr} {l : List ByteArray} (h : StrsAt W B A n l) {m : Nat} (hb : Below m W W') (hm : B ≤ m) : StrsAt W' B A n l :=
  ⟨h.len, fun k hk => by
    obtain ⟨ad, e, hlt, hc, ho⟩ := h.at_ k hk
    exact ⟨ad, e, hlt, (hb.cell (by rw [add_block]; omega)).trans hc, ho⟩⟩
section
variable {H : Type} {enc : TypeId × Value → H} {w : World} {base : Nat} {sp : Nat → Bool} {held : Bool}
end
end Go.Proofs.YtflkmhgbinlfiaaGreatDoor
