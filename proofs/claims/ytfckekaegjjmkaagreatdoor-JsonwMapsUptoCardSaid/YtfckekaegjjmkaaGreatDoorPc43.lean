/- The texts JwMP, LaidV, ArgV, put together. -/
import Derived.Test.YtfckekaegjjmkaaGreatDoorPc42
import Derived.Test.YtfckekaegjjmkaaGreatDoorPc33
import Derived.Test.YtfckekaegjjmkaaGreatDoorPc01
import Derived.Test.YtfckekaegjjmkaaGreatDoorRows
import Derived.Test.YtfckekaegjjmkaaGreatDoorPc06
import Derived.Lib.LaidU8T
import Derived.PinnedBridge
import Derived.Stop.LaidErr
import Derived.Stop.Joined
import Derived.LaidMore
import Derived.LaidLaws
import Derived.Lay
import Derived.SevenTiedAt
import Derived.ProofKit
import Derived.OpenShut
import Derived.Lib.LaidTab
import Derived.Deep.Slices
import Derived.ChangeArms
import Derived.WideShapes
namespace Go.Proofs.YtfckekaegjjmkaaGreatDoor
open Go.RowKit Go.Shelf

/-- The map that the law makes. -/
abbrev outM (g : List Tr) : Tr := .nd { zeroO with kind := 8 } g
/-- Its members: keys, each with the same tree. -/
def rowsK (t : Tr) : List (List UInt8) → List Tr
  | [] => []
  | k :: ks => strT 5 k :: t :: rowsK t ks
theorem rowsK_len (t : Tr) : ∀ (ks : List (List UInt8)), (rowsK t ks).length = 2 * ks.length
  | [] => rfl
  | k :: ks => by
    rw [rowsK, List.length_cons, List.length_cons, rowsK_len t ks, List.length_cons]
    omega
theorem rowsK_key (t : Tr) : ∀ (ks : List (List UInt8)) (j : Nat) (h : j < ks.length), (rowsK t ks)[2 * j]? = some (strT 5 ks[j])
  | [], _, h => by simp at h
  | k :: ks, 0, _ => rfl
  | k :: ks, j + 1, h => by
    have h1 := rowsK_key t ks j (by simpa using h)
    rw [show 2 * (j + 1) = 2 * j + 1 + 1 by omega, rowsK]
    simp only [List.getElem?_cons_succ, List.getElem_cons_succ]
    exact h1
theorem rowsK_snoc (t : Tr) (k : List UInt8) : ∀ (ks : List (List UInt8)), rowsK t (ks ++ [k]) = rowsK t ks ++ [strT 5 k, t]
  | [] => rfl
  | x :: ks => by
    rw [List.cons_append, rowsK, rowsK, rowsK_snoc t k ks]
    rfl
/-- Keys, all right and no two the same. -/
structure KeysOk (ks : List (List UInt8)) : Prop where
  right : ∀ k ∈ ks, k.length ≤ 400 ∧ Lib.validD k = true
  apart : ks.Nodup
theorem KeysOk.nil : KeysOk [] := ⟨fun k h => by simp at h, by simp⟩
theorem KeysOk.snoc {ks : List (List UInt8)} {k : List UInt8} (h : KeysOk ks) (h1 : k.length ≤ 400) (h2 : Lib.validD k = true) (h3 : k ∉ ks) : KeysOk (ks ++ [k]) := by
  constructor
  · intro x hx
    rcases List.mem_append.1 hx with hx | hx
    · exact h.right x hx
    · rw [List.mem_singleton.1 hx]
      exact ⟨h1, h2⟩
  · rw [List.nodup_append]
    refine ⟨h.apart, by simp, fun a ha b hb e => ?_⟩
    rw [List.mem_singleton.1 hb] at e
    rw [e] at ha
    exact h3 ha
theorem rowsK_apart (t : Tr) {ks : List (List UInt8)} (h : ks.Nodup) : KeysApart (rowsK t ks) := by
  have hl := rowsK_len t ks
  intro x y hx hy ex ey
  obtain ⟨a, rfl⟩ : ∃ a, x = 2 * a := ⟨x / 2, by omega⟩
  obtain ⟨b, rfl⟩ : ∃ b, y = 2 * b := ⟨y / 2, by omega⟩
  have ka := rowsK_key t ks a (by omega)
  have kb := rowsK_key t ks b (by omega)
  rw [List.getElem?_eq_getElem (by omega)] at ka kb
  rw [Option.some.inj ka, Option.some.inj kb]
  cases hs : sameT (strT 5 (ks[a]'(by omega))) (strT 5 (ks[b]'(by omega))) with
  | false => rfl
  | true =>
    have := str_inj (sameT_iff _ _ hs)
    exact absurd this.symm (List.pairwise_iff_getElem.1 h b a (by omega) (by omega) (by omega))
theorem rowsK_ok (t : Tr) (ha : allB t = true) (hf : fitT 1 flJ t = true) : ∀ (ks : List (List UInt8)), (∀ k ∈ ks, k.length ≤ 400 ∧ Lib.validD k = true) → allL (rowsK t ks) = true ∧ fitL 1 flJ (rowsK t ks) = true ∧ keysFit 1 (rowsK t ks) = true ∧ countL (rowsK t ks) = ks.length * (1 + t.count) ∧ depthL (rowsK t ks) ≤ max 1 t.depth
  | [], _ => by
    refine ⟨?_, ?_, ?_, ?_, ?_⟩
    · rw [rowsK, allL]
    · rw [rowsK, fitL]
    · rw [rowsK, keysFit]
    · rw [rowsK, countL]; simp
    · rw [rowsK, depthL]; exact Nat.zero_le _
  | k :: ks, h => by
    obtain ⟨h1, h2, h3, h4, h5⟩ := rowsK_ok t ha hf ks (fun x hx => h x (by simp [hx]))
    have hk := h k (by simp)
    have k1 := strT_ok k hk.1 hk.2
    refine ⟨?_, ?_, ?_, ?_, ?_⟩
    · rw [rowsK, allL, allL, k1.1, ha, h1]; rfl
    · rw [rowsK, fitL, fitL, hf, h2]
      unfold strT
      rw [fitT, fitL]
      simp [fitO]
    · rw [rowsK, keysFit, h3]
      rfl
    · rw [rowsK, countL, countL, h4, List.length_cons]
      have c1 : (strT 5 k).count = 1 := by unfold strT; rw [Tr.count, countL]
      rw [c1, Nat.add_mul]
      omega
    · rw [rowsK, depthL, depthL]
      have c1 : (strT 5 k).depth = 1 := by unfold strT; rw [Tr.depth, depthL]
      omega
/-- The map is right. -/
theorem map_ok {t : Tr} (ht : checkT 1 flJ t = 0) (hc : t.count ≤ 20) (hd : t.depth ≤ 15) {ks : List (List UInt8)} (hn : ks.length ≤ 10) (h : KeysOk ks) : checkT 1 flJ (outM (rowsK t ks)) = 0 := by
  obtain ⟨_, _, h3, h4⟩ := checkJ_ok ht
  obtain ⟨g1, g2, g3, g4, g5⟩ := rowsK_ok t h3 h4 ks h.right
  have hl := rowsK_len t ks
  have ho : ownB { zeroO with kind := 8 } (rowsK t ks) = true := by
    have hk : keysB (rowsK t ks) = true := by
      unfold keysB
      exact @decide_eq_true _ (Classical.propDecidable _) (rowsK_apart t h.apart)
    have he : (rowsK t ks).length % 2 = 0 := by omega
    simp [ownB, onlyB, hk, he]
  have hfo : fitO 1 flJ { zeroO with kind := 8 } (rowsK t ks) = true := by simp [fitO, g3]
  have hcc : (outM (rowsK t ks)).count ≤ 300 := by
    rw [Tr.count_eq]
    show 1 + countL (rowsK t ks) ≤ 300
    rw [g4]
    have := Nat.mul_le_mul hn (show 1 + t.count ≤ 21 by omega)
    omega
  have hdd : (outM (rowsK t ks)).depth ≤ 16 := by
    have hd' : (outM (rowsK t ks)).depth = 1 + depthL (rowsK t ks) := depth_node (outM (rowsK t ks))
    omega
  unfold checkT rightT
  rw [if_pos, if_pos]
  · rw [fitT, hfo, g2]; rfl
  · rw [allB, ho, g1, decide_eq_true hcc, decide_eq_true hdd]; rfl
/-- A key by itself. -/
theorem key_ok (s : ByteArray) : checkT 1 flJ (.nd { zeroO with kind := 5, s := s } []) = 0 ↔ s.size ≤ 400 ∧ Lib.validD s.data.toList = true := by
  constructor
  · intro h
    have h3 := (checkJ_ok h).2.2.1
    rw [allB, allL, Bool.and_true] at h3
    simp [ownB, onlyB] at h3
    exact h3
  · rintro ⟨h1, h2⟩
    have hd : (Tr.nd { zeroO with kind := 5, s := s } []).depth = 1 := by rw [Tr.depth, depthL]
    have hc : (Tr.nd { zeroO with kind := 5, s := s } []).count = 1 := by rw [Tr.count, countL]
    unfold checkT rightT
    rw [if_pos, if_pos]
    · rw [fitT, fitL]; simp [fitO]
    · rw [allB, allL, hc, hd]
      simp [ownB, onlyB, h1, h2]
/-- What the law puts together. -/
noncomputable abbrev memJ (t : Tr) (ks : List (List UInt8)) : List UInt8 := jsM quoteL false 1 true (rowsK t ks)
theorem memJ_nil (t : Tr) (ks : List (List UInt8)) : memJ t ks = [] ↔ ks = [] := by
  cases ks with
  | nil => exact ⟨fun _ => rfl, fun _ => by unfold memJ; rw [rowsK, jsM]⟩
  | cons k ks =>
    refine ⟨fun h => ?_, fun h => by cases h⟩
    unfold memJ at h
    rw [rowsK, jsM] at h
    have := congrArg List.length h
    simp at this
theorem memJ_snoc (t : Tr) (ks : List (List UInt8)) (k : List UInt8) : memJ t (ks ++ [k]) = memJ t ks ++ ((if ks = [] then [] else [44]) ++ (quoteL k ++ (58 :: jsT quoteL false 0 t))) := by
  unfold memJ
  rw [rowsK_snoc, rowsM_snoc quoteL false 1 (strT 5 k) t ks.length _ _ (rowsK_len t ks)]
  have e1 : (true = true ∧ rowsK t ks = []) ↔ ks = [] := by
    constructor
    · rintro ⟨_, h⟩
      have := rowsK_len t ks
      rw [h] at this
      exact List.length_eq_zero_iff.1 (by simp at this; omega)
    · rintro rfl
      exact ⟨rfl, rfl⟩
  have e2 : lineL false 1 = [] := rfl
  have e3 : gapL false = [] := rfl
  have e4 : jsT quoteL false 1 (strT 5 k) = quoteL k := by
    unfold strT
    rw [jsT]
    rfl
  rw [e2, e3, e4, plain_T quoteL t 1 0]
  by_cases h : ks = []
  · rw [if_pos (e1.2 h), if_pos h]; rfl
  · rw [if_neg (fun x => h (e1.1 x)), if_neg h]; rfl
theorem map_doc (t : Tr) (ks : List (List UInt8)) : jsT quoteL false 0 (outM (rowsK t ks)) = 123 :: (memJ t ks ++ [125]) := by
  rw [jsT, if_neg (by decide), if_neg (by decide), if_neg (by decide), if_neg (by decide), if_neg (by decide), if_pos rfl]
  split
  · rename_i h
    have : ks = [] := List.length_eq_zero_iff.1 (by rw [rowsK_len] at h; omega)
    rw [(memJ_nil t ks).2 this]
  · show 123 :: ((jsM quoteL false 1 true (rowsK t ks) ++ []) ++ [125]) = _
    rw [List.append_nil]
theorem key_doc (s : ByteArray) : (wroteJ false (.nd { zeroO with kind := 5, s := s } []) 0).data.toList = quoteL s.data.toList := by
  rw [wroteJ, if_pos rfl]
  show jsT quoteL false 0 (.nd { zeroO with kind := 5, s := s } []) = _
  rw [jsT]
  rfl
end Go.Proofs.YtfckekaegjjmkaaGreatDoor
namespace Go.Proofs.YtfckekaegjjmkaaGreatDoor
open Go.RowKit Go.Shelf Go.Lib

theorem laidMet_drop {P : Program} {W : World} : ∀ (k : Nat) {l : List (String × DataW Unit)}, laidMet P l W → laidMet P (l.drop k) W
  | 0, _, h => h
  | _ + 1, [], h => h
  | k + 1, _ :: _, h => laidMet_drop k h.tail

set_option maxRecDepth 100000 in
/-- A sentinel on the list: its cell, the block behind it, its text. -/
theorem sentinel_of {n : String} {g : Nat} {text : List UInt8} {r : List (String × DataW Unit)} {W : World} (h : laidMet Tryz.prog ((n, .iface "*errors.errorString" (.ptr (.agg [.lit (.string text)]))) :: r) W)
    (hg : Tryz.prog.globalNamed n = some g) (ht : (Tryz.prog.globals[g]?).map (·.type) = some 62)
    (hi : ∃ ms, Tryz.prog.underlying 62 = some (.interface ms)) (hrow : ∀ u, Tryz.prog.typeName? 3 u = some "*errors.errorString" → u = 289)
    (he : ∃ f : Field, Tryz.prog.underlying 291 = some (.struct #[f]) ∧ f.type = 9 ∧ f.offset = 0) (hc : Tryz.prog.cellsOf 291 = 1) (hcs : Tryz.prog.cellsOf 9 = 1) :
    ∃ a : Addr, W.cell? ⟨g, 0, none⟩ = some (.iface 289 (.pointer (some a))) ∧ (∃ c t, W.heap[a.block]? = some (.cells c t (0, 0))) ∧ ∃ s : ByteArray, W.cell? a = some (.string s) ∧ s.data.toList = text := by
  obtain ⟨ms, hi⟩ := hi
  obtain ⟨f, he, hft, hfo⟩ := he
  obtain ⟨ps, ⟨g0, t0, cs0, f0, p0, q0, hg0, ht0, hv0, hd0, _, e0⟩, _, hrows⟩ := h
  obtain rfl := Option.some.inj (hg.symm.trans hg0)
  obtain rfl := Option.some.inj (ht.symm.trans ht0)
  subst e0
  obtain ⟨l0⟩ := cs0
  have ok0 : ∀ u v, l0 = [.iface u v] → Value.okWide Tryz.prog W .any 0 u v := fun u v e => by
    subst e
    exact (hrows g 0 (by simp [MemPlace.row])).2 u v (by simpa using World.var?_cell hg0 hv0 0)
  obtain ⟨a0, s0, rfl, hc0, hs0, hz0, rfl⟩ := errorString_of_trod hi hrow Tryz.underlying289 he hft hfo Tryz.underlying9 hc hcs hd0 ok0
  obtain ⟨c0, t0, hb0⟩ := (hrows a0.block a0.off (by simp [MemPlace.row])).1
  refine ⟨a0, ?_, ⟨c0, t0, hb0⟩, s0, hc0, hs0⟩
  simpa using World.var?_cell hg0 hv0 0

set_option maxRecDepth 100000 in
theorem u8extra : U8Extra Tryz.prog Tryz.lays196_ren := { n3 := by kernel_rfl, n4 := by kernel_rfl, y3 := by kernel_rfl, y4 := by kernel_rfl, c5 := by kernel_rfl, c119 := by kernel_rfl, c138 := by kernel_rfl }
theorem es_star : "*" ++ "errors.errorString" = "*errors.errorString" := by decide
set_option maxRecDepth 100000 in
theorem es_row (u : TypeId) (h : Tryz.prog.typeName? 3 u = some "*errors.errorString") : u = 289 :=
  typeName_ptr_named (nm := "errors.errorString") (by rw [es_star]; kernel_rfl) (by kernel_rfl) (by decide) u (by rw [es_star]; exact h)
theorem es_iface : ∃ ms, Tryz.prog.underlying 62 = some (.interface ms) := ⟨_, Tryz.underlying62⟩
theorem es_struct : ∃ f : Field, Tryz.prog.underlying 291 = some (.struct #[f]) ∧ f.type = 9 ∧ f.offset = 0 := ⟨_, Tryz.underlying291, rfl, rfl⟩
set_option maxRecDepth 100000 in
theorem es_cells : Tryz.prog.cellsOf 291 = 1 := by kernel_rfl
set_option maxRecDepth 100000 in
theorem es_string : Tryz.prog.cellsOf 9 = 1 := by kernel_rfl
theorem wf_i64 {a : Int} (h : (Lit.int .i64 a).wf = true) : -9223372036854775808 ≤ a ∧ a < 9223372036854775808 := by
  simp [Lit.wf, IntKind.min, IntKind.max, IntKind.signed, IntKind.bits] at h
  omega
theorem cell_block_lt {w : World} {a : Addr} {v : Value} (h : w.cell? a = some v) : a.block < w.heap.size := by
  unfold World.cell? at h
  cases hh : w.heap[a.block]? with
  | none => rw [hh] at h; cases h
  | some o => exact (Array.getElem?_eq_some_iff.1 hh).1
set_option maxRecDepth 100000 in
/-- A sentinel on the list: its variable holds an interface value. -/
theorem sentinel_var {n : String} {g : Nat} {text : List UInt8} {r : List (String × DataW Unit)} {W : World} (h : laidMet Tryz.prog ((n, .iface "*errors.errorString" (.ptr (.agg [.lit (.string text)]))) :: r) W)
    (hg : Tryz.prog.globalNamed n = some g) (ht : (Tryz.prog.globals[g]?).map (·.type) = some 62) : ∃ tp p, W.var? Tryz.prog n = some #[.iface tp p] := by
  obtain ⟨ms, hi⟩ := es_iface
  obtain ⟨f, he, hft, hfo⟩ := es_struct
  obtain ⟨ps, ⟨g0, t0, cs0, f0, p0, q0, hg0, ht0, hv0, hd0, _, e0⟩, _, hrows⟩ := h
  obtain rfl := Option.some.inj (hg.symm.trans hg0)
  obtain rfl := Option.some.inj (ht.symm.trans ht0)
  subst e0
  obtain ⟨l0⟩ := cs0
  have ok0 : ∀ u v, l0 = [.iface u v] → Value.okWide Tryz.prog W .any 0 u v := fun u v e => by
    subst e
    exact (hrows g 0 (by simp [MemPlace.row])).2 u v (by simpa using World.var?_cell hg0 hv0 0)
  obtain ⟨a0, s0, rfl, hc0, hs0, hz0, rfl⟩ := errorString_of_trod hi es_row Tryz.underlying289 he hft hfo Tryz.underlying9 es_cells es_string hd0 ok0
  exact ⟨_, _, hv0⟩
set_option maxRecDepth 100000 in
theorem gR : Tryz.prog.globalNamed "strconv.ErrRange" = some 8 := by kernel_rfl
set_option maxRecDepth 100000 in
theorem tR : (Tryz.prog.globals[8]?).map (·.type) = some 62 := by kernel_rfl
end Go.Proofs.YtfckekaegjjmkaaGreatDoor
namespace Go.Proofs.YtfckekaegjjmkaaGreatDoor
open Go.RowKit Go.Shelf Go.Lib

theorem choose_list {α : Type} {p : Nat → α → Prop} : ∀ (n : Nat), (∀ i, i < n → ∃ s, p i s) → ∃ l : List α, l.length = n ∧ ∀ i (h : i < l.length), p i l[i]
  | 0, _ => ⟨[], rfl, fun i h => by simp at h⟩
  | n + 1, h => by
    obtain ⟨l, hl, hp⟩ := choose_list n (fun i hi => h i (by omega))
    obtain ⟨s, hs⟩ := h n (by omega)
    refine ⟨l ++ [s], by simp [hl], fun i hi => ?_⟩
    rw [List.getElem_append]
    split
    · exact hp i _
    · have : i = n := by simp at hi; omega
      subst this
      simpa [hl] using hs
/-- The slice .slice A n c holds ints. -/
structure IntsAt (W : World) (B : Nat) (A : Option Addr) (n : Nat) (l : List Int) : Prop where
  len : n = l.length
  at_ : ∀ k (h : k < l.length), ∃ ad, A = some ad ∧ ad.block < B ∧ W.cell? (ad.add k) = some (Value.int .i64 l[k]) ∧ (-9223372036854775808 ≤ l[k] ∧ l[k] < 9223372036854775808)
theorem IntsAt.below {W W' : World} {B n : Nat} {A : Option Addr} {l : List Int} (h : IntsAt W B A n l) {m : Nat} (hb : Below m W W') (hm : B ≤ m) : IntsAt W' B A n l :=
  ⟨h.len, fun k hk => by
    obtain ⟨ad, e, hlt, hc, ho⟩ := h.at_ k hk
    exact ⟨ad, e, hlt, (hb.cell (by rw [add_block]; omega)).trans hc, ho⟩⟩
section
variable {H : Type} {enc : TypeId × Value → H} {w : World} {base : Nat} {sp : Nat → Bool} {held : Bool}
end
/-- The slice .slice A n c holds strings. -/
structure StrsAt (W : World) (B : Nat) (A : Option Addr) (n : Nat) (l : List ByteArray) : Prop where
  len : n = l.length
  at_ : ∀ k (h : k < l.length), ∃ ad, A = some ad ∧ ad.block < B ∧ W.cell? (ad.add k) = some (Value.string l[k]) ∧ l[k].size ≤ 9223372036854775807
theorem StrsAt.below {W W' : World} {B n : Nat} {A : Option Addr} {l : List ByteArray} (h : StrsAt W B A n l) {m : Nat} (hb : Below m W W') (hm : B ≤ m) : StrsAt W' B A n l :=
  ⟨h.len, fun k hk => by
    obtain ⟨ad, e, hlt, hc, ho⟩ := h.at_ k hk
    exact ⟨ad, e, hlt, (hb.cell (by rw [add_block]; omega)).trans hc, ho⟩⟩
section
variable {H : Type} {enc : TypeId × Value → H} {w : World} {base : Nat} {sp : Nat → Bool} {held : Bool}
set_option maxRecDepth 100000 in
theorem celStrs : Tryz.prog.cellsOf 9 = 1 := by kernel_rfl
set_option maxRecDepth 100000 in
theorem open_strings {W : World} {r : Reach} {b0 : Nat} {v : Value} {d : DataW H} {ps : List MemPlace} (hval : Value.okWide Tryz.prog W r b0 36 v) (hd : DataW.Trod enc Tryz.prog w base sp held 36 v d ps) :
    ∃ A n c l, v = .slice A n c ∧ n ≤ 9223372036854775807 ∧ StrsAt w w.heap.size A n l := by
  obtain ⟨a, len, cap, rfl⟩ := Go.WideShapes.okWide_slice Tryz.underlying36 hval
  obtain ⟨fuel, hf⟩ := hd
  rcases Go.Deep.open_slice1 Tryz.underlying36 celStrs hf with ⟨e, _⟩ | ⟨a', len', cap', m, n, V, D, Pl, e, hb, hl, hm, hmm, _, hx⟩
  · simp [Value.cells] at e
    obtain ⟨rfl, rfl, rfl⟩ := e
    exact ⟨none, 0, 0, [], rfl, by omega, rfl, fun k h => by simp at h⟩
  · simp [Value.cells] at e
    obtain ⟨rfl, rfl, rfl⟩ := e
    have hlm : len ≤ m := by rw [hmm]; split <;> omega
    obtain ⟨l, hl1, hl2⟩ := choose_list (p := fun i (x : ByteArray) => w.cell? (a'.add i) = some (Value.string x) ∧ x.size ≤ 9223372036854775807) len (fun i hi => by
      obtain ⟨h1, h2⟩ := hx i (by omega)
      obtain ⟨x, e0, _, w0⟩ := DataW.trod_string Tryz.underlying9 h2
      rw [List.cons.injEq] at e0
      exact ⟨x, by rw [h1, e0.1], by simpa [maxLen] using w0⟩)
    refine ⟨some a', len, cap, l, rfl, by simp [maxLen] at hm; omega, hl1.symm, fun k hk => ?_⟩
    obtain ⟨h1, h2⟩ := hl2 k hk
    exact ⟨a', rfl, cell_block_lt (a := a'.add k) h1 |> fun h => by rwa [add_block] at h, h1, h2⟩
end
end Go.Proofs.YtfckekaegjjmkaaGreatDoor
