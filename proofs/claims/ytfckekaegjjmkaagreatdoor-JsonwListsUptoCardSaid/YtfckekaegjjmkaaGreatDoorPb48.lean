/- The texts LaidV, TreeV, TreeU, put together. -/
import Derived.Test.YtfckekaegjjmkaaGreatDoorPb01
import Derived.Test.YtfckekaegjjmkaaGreatDoorRows
import Derived.Test.YtfckekaegjjmkaaGreatDoorPb06
import Derived.Lib.LaidU8T
import Derived.PinnedBridge
import Derived.Stop.LaidErr
import Derived.Stop.Joined
import Derived.LaidMore
import Derived.LaidLaws
import Derived.Lay
import Derived.SevenTiedAt
import Derived.ProofKit
import Derived.OpenShut
import Derived.Lib.LaidTab
import Derived.Test.YtfckekaegjjmkaaGreatDoorPb03
import Derived.Deep.Slices
import Derived.ChangeArms
import Derived.WideShapes
namespace Go.Proofs.YtfckekaegjjmkaaGreatDoor
open Go.RowKit Go.Shelf Go.Lib

theorem laidMet_drop {P : Program} {W : World} : ∀ (k : Nat) {l : List (String × DataW Unit)}, laidMet P l W → laidMet P (l.drop k) W
  | 0, _, h => h
  | _ + 1, [], h => h
  | k + 1, _ :: _, h => laidMet_drop k h.tail

set_option maxRecDepth 100000 in
/-- A sentinel on the list: its cell, the block behind it, its text. -/
theorem sentinel_of {n : String} {g : Nat} {text : List UInt8} {r : List (String × DataW Unit)} {W : World} (h : laidMet Tryz.prog ((n, .iface "*errors.errorString" (.ptr (.agg [.lit (.string text)]))) :: r) W)
    (hg : Tryz.prog.globalNamed n = some g) (ht : (Tryz.prog.globals[g]?).map (·.type) = some 62)
    (hi : ∃ ms, Tryz.prog.underlying 62 = some (.interface ms)) (hrow : ∀ u, Tryz.prog.typeName? 3 u = some "*errors.errorString" → u = 289)
    (he : ∃ f : Field, Tryz.prog.underlying 291 = some (.struct #[f]) ∧ f.type = 9 ∧ f.offset = 0) (hc : Tryz.prog.cellsOf 291 = 1) (hcs : Tryz.prog.cellsOf 9 = 1) :
    ∃ a : Addr, W.cell? ⟨g, 0, none⟩ = some (.iface 289 (.pointer (some a))) ∧ (∃ c t, W.heap[a.block]? = some (.cells c t (0, 0))) ∧ ∃ s : ByteArray, W.cell? a = some (.string s) ∧ s.data.toList = text := by
  obtain ⟨ms, hi⟩ := hi
  obtain ⟨f, he, hft, hfo⟩ := he
  obtain ⟨ps, ⟨g0, t0, cs0, f0, p0, q0, hg0, ht0, hv0, hd0, _, e0⟩, _, hrows⟩ := h
  obtain rfl := Option.some.inj (hg.symm.trans hg0)
  obtain rfl := Option.some.inj (ht.symm.trans ht0)
  subst e0
  obtain ⟨l0⟩ := cs0
  have ok0 : ∀ u v, l0 = [.iface u v] → Value.okWide Tryz.prog W .any 0 u v := fun u v e => by
    subst e
    exact (hrows g 0 (by simp [MemPlace.row])).2 u v (by simpa using World.var?_cell hg0 hv0 0)
  obtain ⟨a0, s0, rfl, hc0, hs0, hz0, rfl⟩ := errorString_of_trod hi hrow Tryz.underlying289 he hft hfo Tryz.underlying9 hc hcs hd0 ok0
  obtain ⟨c0, t0, hb0⟩ := (hrows a0.block a0.off (by simp [MemPlace.row])).1
  refine ⟨a0, ?_, ⟨c0, t0, hb0⟩, s0, hc0, hs0⟩
  simpa using World.var?_cell hg0 hv0 0

set_option maxRecDepth 100000 in
theorem u8extra : U8Extra Tryz.prog Tryz.lays196_ren := { n3 := by kernel_rfl, n4 := by kernel_rfl, y3 := by kernel_rfl, y4 := by kernel_rfl, c5 := by kernel_rfl, c119 := by kernel_rfl, c138 := by kernel_rfl }
theorem es_star : "*" ++ "errors.errorString" = "*errors.errorString" := by decide
set_option maxRecDepth 100000 in
theorem es_row (u : TypeId) (h : Tryz.prog.typeName? 3 u = some "*errors.errorString") : u = 289 :=
  typeName_ptr_named (nm := "errors.errorString") (by rw [es_star]; kernel_rfl) (by kernel_rfl) (by decide) u (by rw [es_star]; exact h)
theorem es_iface : ∃ ms, Tryz.prog.underlying 62 = some (.interface ms) := ⟨_, Tryz.underlying62⟩
theorem es_struct : ∃ f : Field, Tryz.prog.underlying 291 = some (.struct #[f]) ∧ f.type = 9 ∧ f.offset = 0 := ⟨_, Tryz.underlying291, rfl, rfl⟩
set_option maxRecDepth 100000 in
theorem es_cells : Tryz.prog.cellsOf 291 = 1 := by kernel_rfl
set_option maxRecDepth 100000 in
theorem es_string : Tryz.prog.cellsOf 9 = 1 := by kernel_rfl
theorem wf_i64 {a : Int} (h : (Lit.int .i64 a).wf = true) : -9223372036854775808 ≤ a ∧ a < 9223372036854775808 := by
  simp [Lit.wf, IntKind.min, IntKind.max, IntKind.signed, IntKind.bits] at h
  omega
theorem cell_block_lt {w : World} {a : Addr} {v : Value} (h : w.cell? a = some v) : a.block < w.heap.size := by
  unfold World.cell? at h
  cases hh : w.heap[a.block]? with
  | none => rw [hh] at h; cases h
  | some o => exact (Array.getElem?_eq_some_iff.1 hh).1
set_option maxRecDepth 100000 in
/-- A sentinel on the list: its variable holds an interface value. -/
theorem sentinel_var {n : String} {g : Nat} {text : List UInt8} {r : List (String × DataW Unit)} {W : World} (h : laidMet Tryz.prog ((n, .iface "*errors.errorString" (.ptr (.agg [.lit (.string text)]))) :: r) W)
    (hg : Tryz.prog.globalNamed n = some g) (ht : (Tryz.prog.globals[g]?).map (·.type) = some 62) : ∃ tp p, W.var? Tryz.prog n = some #[.iface tp p] := by
  obtain ⟨ms, hi⟩ := es_iface
  obtain ⟨f, he, hft, hfo⟩ := es_struct
  obtain ⟨ps, ⟨g0, t0, cs0, f0, p0, q0, hg0, ht0, hv0, hd0, _, e0⟩, _, hrows⟩ := h
  obtain rfl := Option.some.inj (hg.symm.trans hg0)
  obtain rfl := Option.some.inj (ht.symm.trans ht0)
  subst e0
  obtain ⟨l0⟩ := cs0
  have ok0 : ∀ u v, l0 = [.iface u v] → Value.okWide Tryz.prog W .any 0 u v := fun u v e => by
    subst e
    exact (hrows g 0 (by simp [MemPlace.row])).2 u v (by simpa using World.var?_cell hg0 hv0 0)
  obtain ⟨a0, s0, rfl, hc0, hs0, hz0, rfl⟩ := errorString_of_trod hi es_row Tryz.underlying289 he hft hfo Tryz.underlying9 es_cells es_string hd0 ok0
  exact ⟨_, _, hv0⟩
set_option maxRecDepth 100000 in
theorem gR : Tryz.prog.globalNamed "strconv.ErrRange" = some 8 := by kernel_rfl
set_option maxRecDepth 100000 in
theorem tR : (Tryz.prog.globals[8]?).map (·.type) = some 62 := by kernel_rfl
end Go.Proofs.YtfckekaegjjmkaaGreatDoor
namespace Go.Proofs.YtfckekaegjjmkaaGreatDoor
open Go.RowKit Go.Shelf Go.Lib

theorem tree_choose {p : Nat → Tr → Prop} : ∀ (n : Nat), (∀ i, i < n → ∃ s, p i s) → ∃ l : List Tr, l.length = n ∧ ∀ i (h : i < l.length), p i l[i]
  | 0, _ => ⟨[], rfl, fun i h => by simp at h⟩
  | n + 1, h => by
    obtain ⟨l, hl, hp⟩ := tree_choose n (fun i hi => h i (by omega))
    obtain ⟨s, hs⟩ := h n (by omega)
    refine ⟨l ++ [s], by simp [hl], fun i hi => ?_⟩
    rw [List.getElem_append]
    split
    · exact hp i _
    · have : i = n := by simp at hi; omega
      subst this
      simpa [hl] using hs
theorem wf_n64 {n : Int} (h : (Lit.int .u64 n).wf = true) : 0 ≤ n ∧ n < 18446744073709551616 := by
  simp [Lit.wf, IntKind.min, IntKind.max, IntKind.signed, IntKind.bits] at h
  omega
set_option maxRecDepth 100000 in
theorem cNode : Tryz.prog.cellsOf 27 = 9 := by kernel_rfl

section
variable {H : Type} {enc : TypeId × Value → H} {w : World} {base : Nat} {sp : Nat → Bool} {held : Bool}

theorem bulk_one (d : DataW H) : 1 ≤ Rows.uptoBulk d := by
  cases d with
  | lit l => cases l <;> simp [Rows.uptoBulk]
  | _ => simp [Rows.uptoBulk]
theorem bulk_part {d : DataW H} {l : List (DataW H)} (h : d ∈ l) : Rows.uptoBulk d ≤ Rows.uptoBulkAll l := by
  induction l with
  | nil => cases h
  | cons x r ih =>
    simp only [Rows.uptoBulkAll]
    rcases List.mem_cons.1 h with rfl | h
    · omega
    · have := ih h
      omega
theorem bulk_append (l r : List (DataW H)) : Rows.uptoBulkAll (l ++ r) = Rows.uptoBulkAll l + Rows.uptoBulkAll r := by
  induction l with
  | nil => simp [Rows.uptoBulkAll]
  | cons x l ih => simp only [List.cons_append, Rows.uptoBulkAll, ih]; omega
theorem bulk_count (D : Nat → DataW H) : ∀ (n : Nat) (l : List Tr), l.length = n → (∀ i (h : i < l.length), l[i].count ≤ Rows.uptoBulk (D i)) → countL l ≤ Rows.uptoBulkAll ((List.range n).map D)
  | 0, l, hl, _ => by
    obtain rfl : l = [] := List.eq_nil_of_length_eq_zero hl
    simp [countL]
  | n + 1, l, hl, h => by
    have hn : n < l.length := by omega
    have e : l = l.take n ++ [l[n]] := by
      rw [← List.take_succ_eq_append_getElem hn, List.take_of_length_le (by omega)]
    have ih := bulk_count D n (l.take n) (by rw [List.length_take]; omega) (fun i hi => by
      rw [List.length_take] at hi
      rw [List.getElem_take]
      exact h i (by omega))
    rw [List.range_succ, List.map_append, bulk_append]
    have h1 := h n hn
    have h2 : countL l = countL (l.take n) + countL [l[n]] := by
      rw [← countL_append, ← e]
    rw [h2]
    simp only [countL, List.map_cons, List.map_nil, Rows.uptoBulkAll]
    omega

set_option maxHeartbeats 1000000 in
set_option maxRecDepth 100000 in
/-- What a tree's cells read as. -/
theorem open_node : ∀ (b fuel : Nat) (cs : List Value) (x : DataW H × List MemPlace), DataW.trod enc Tryz.prog w base sp held fuel 27 cs = some x → Rows.uptoBulk x.1 ≤ b →
    ∃ (t : Tr) (v : Value), cs = nodeCells t.own v ∧ ListAt w w.heap.size b t.kids v ∧ OwnOk t.own ∧ t.count ≤ Rows.uptoBulk x.1 := by
  intro b
  induction b with
  | zero =>
    intro fuel cs x _ hx
    have := bulk_one x.1
    omega
  | succ b ih =>
    intro fuel cs x h hb
    obtain ⟨xs, n, rfl, rfl, hl, hxl, hall⟩ := DataW.trod_struct Tryz.underlying27 h
    rw [cNode] at hl
    match cs, hl with
    | [c0, c1, c2, c3, c4, c5, c6, c7, c8], _ =>
      match xs, hxl with
      | [x0, x1, x2, x3, x4, x5, x6], _ =>
        have h0 := hall 0 _ rfl
        have h1 := hall 1 _ rfl
        have h2 := hall 2 _ rfl
        have h3 := hall 3 _ rfl
        have h4 := hall 4 _ rfl
        have h5 := hall 5 _ rfl
        have h6 := hall 6 _ rfl
        obtain ⟨kind, e0, _, w0⟩ := DataW.trod_int Tryz.underlying3 h0
        obtain ⟨bb, e1, _⟩ := DataW.trod_bool Tryz.underlying4 h1
        obtain ⟨u, e3, _, w3⟩ := DataW.trod_int Tryz.underlying24 h3
        obtain ⟨wd, e4, _, w4⟩ := DataW.trod_int Tryz.underlying3 h4
        obtain ⟨s, e5, _, w5⟩ := DataW.trod_string Tryz.underlying9 h5
        obtain ⟨ys, m, _, hx2, hl2, hyl, hall2⟩ := DataW.trod_struct Tryz.underlying23 h2
        match ys, hyl with
        | [y0, y1, y2], _ =>
          have g0 := hall2 0 _ rfl
          have g1 := hall2 1 _ rfl
          have g2 := hall2 2 _ rfl
          obtain ⟨neg, f0, _⟩ := DataW.trod_bool Tryz.underlying4 g0
          obtain ⟨dg, f1, _, v1⟩ := DataW.trod_string Tryz.underlying9 g1
          obtain ⟨ex, f2, _, v2⟩ := DataW.trod_int Tryz.underlying3 g2
          have e0 : [c0] = [_] := e0
          have e1 : [c1] = [_] := e1
          have e3 : [c5] = [_] := e3
          have e4 : [c6] = [_] := e4
          have e5 : [c7] = [_] := e5
          have f0 : [c2] = [_] := f0
          have f1 : [c3] = [_] := f1
          have f2 : [c4] = [_] := f2
          cases e0
          cases e1
          cases e3
          cases e4
          cases e5
          cases f0
          cases f1
          cases f2
          have hok : OwnOk ⟨kind, bb, neg, dg, ex, u, wd, s⟩ := ⟨by simpa [maxLen] using v1, by simpa [maxLen] using w5, wf_i64 w0, wf_i64 v2, wf_n64 w3, wf_i64 w4⟩
          have hbulk : Rows.uptoBulk x6.1 + 1 ≤ Rows.uptoBulk (DataW.agg ([x0, x1, x2, x3, x4, x5, x6].map (·.1))) := by
            simp only [Rows.uptoBulk, List.map_cons, List.map_nil, Rows.uptoBulkAll]
            omega
          have h6 : DataW.trod enc Tryz.prog w base sp held n 25 [c8] = some x6 := h6
          clear hall hall2 h h0 h1 h2 h3 h4 h5 g0 g1 g2 e1 e3 e4 e5 f0 f1 f2 w0 w3 w4 w5 v1 v2
          rcases Go.Deep.open_slice Tryz.underlying25 h6 with ⟨e6, _⟩ | ⟨a, len, cap, m', n', D, Pl, e6, hab, hlc, hm, hmm, hx6, hx⟩
          · cases e6
            refine ⟨.nd ⟨kind, bb, neg, dg, ex, u, wd, s⟩ [], .slice none 0 0, rfl, LAt.nil _ _ _ _ _, hok, ?_⟩
            rw [Tr.count_eq]
            show 1 + countL [] ≤ _
            rw [countL]
            exact bulk_one _
          · cases e6
            have hlm : len ≤ m' := by rw [hmm]; split <;> omega
            rw [cNode] at hx
            have hd6 : x6.1 = DataW.slice ((List.range len).map D) ((List.range (m' - len)).map fun j => D (len + j)) := by rw [hx6]
            rw [hd6] at hbulk
            have hb2 : Rows.uptoBulkAll ((List.range len).map D) + 2 ≤ Rows.uptoBulk (DataW.agg ([x0, x1, x2, x3, x4, x5, x6].map (·.1))) := by
              have : Rows.uptoBulk (DataW.slice ((List.range len).map D) ((List.range (m' - len)).map fun j => D (len + j))) = Rows.uptoBulkAll ((List.range len).map D) + Rows.uptoBulkAll ((List.range (m' - len)).map fun j => D (len + j)) + 1 := by simp only [Rows.uptoBulk]
              rw [this] at hbulk
              omega
            have hbD : ∀ i, i < len → Rows.uptoBulk (D i) ≤ b := fun i hi => by
              have h1 := bulk_part (d := D i) (l := (List.range len).map D) (List.mem_map.2 ⟨i, List.mem_range.2 hi, rfl⟩)
              have hb' : Rows.uptoBulk (DataW.agg ([x0, x1, x2, x3, x4, x5, x6].map (·.1))) ≤ b + 1 := hb
              omega
            obtain ⟨l, hll, hp⟩ := tree_choose (p := fun i t => ∃ v, (∀ j q, (nodeCells t.own v)[j]? = some q → w.cell? (a.add (i * 9 + j)) = some q) ∧ a.block < w.heap.size ∧ ListAt w w.heap.size b t.kids v ∧ OwnOk t.own ∧ t.count ≤ Rows.uptoBulk (D i)) len (fun i hi => by
              obtain ⟨cs', h1, h2⟩ := hx i (by omega)
              obtain ⟨t, v, e, h3, h4, h5⟩ := ih n' cs' (D i, Pl i) h2 (hbD i hi)
              subst e
              obtain ⟨_, hlen, hc⟩ := World.cells?_some h1
              have hcc : ∀ j q, (nodeCells t.own v)[j]? = some q → w.cell? (a.add (i * 9 + j)) = some q := fun j q hq => by
                have hj : j < 9 := (List.getElem?_eq_some_iff.1 hq).1
                rw [← add_add', hc j hj, hq]
              refine ⟨t, v, hcc, ?_, h3, h4, h5⟩
              have := cell_block_lt (hcc 0 _ rfl)
              rwa [add_block] at this)
            refine ⟨.nd ⟨kind, bb, neg, dg, ex, u, wd, s⟩ l, .slice (some a) len cap, rfl, ⟨some a, cap, by rw [← hll]; rfl, ⟨by show l.length ≤ _; simp [maxLen] at hm; omega, by show l.length ≤ _; omega⟩, fun i hi => ?_⟩, hok, ?_⟩
            · obtain ⟨v, g1, g2, g3, g4, _⟩ := hp i hi
              exact ⟨a, v, rfl, g2, g4, g1, g3⟩
            · rw [Tr.count_eq]
              show 1 + countL l ≤ Rows.uptoBulk (DataW.agg ([x0, x1, x2, x3, x4, x5, x6].map (·.1)))
              have := bulk_count D len l hll (fun i hi => by
                obtain ⟨_, _, _, _, _, g5⟩ := hp i hi
                exact g5)
              omega
end
end Go.Proofs.YtfckekaegjjmkaaGreatDoor
namespace Go.Proofs.YtfckekaegjjmkaaGreatDoor
open Go.RowKit Go.Shelf Go.Lib

section
variable {H : Type} {enc : TypeId × Value → H} {w : World} {base : Nat} {sp : Nat → Bool} {held : Bool}

set_option maxHeartbeats 1000000 in
set_option maxRecDepth 100000 in
theorem open_nodes {fuel : Nat} {cs : List Value} {x : DataW H × List MemPlace} (h : DataW.trod enc Tryz.prog w base sp held fuel 25 cs = some x) :
    ∃ (l : List Tr) (A : Option Addr) (n c : Nat), cs = [.slice A n c] ∧ l.length = n ∧ ListAt w w.heap.size (Rows.uptoBulk x.1 + 1) l (.slice A n c) ∧ countL l ≤ Rows.uptoBulk x.1 := by
  rcases Go.Deep.open_slice Tryz.underlying25 h with ⟨e6, _⟩ | ⟨a, len, cap, m', n', D, Pl, e6, hab, hlc, hm, hmm, hx6, hx⟩
  · exact ⟨[], none, 0, 0, e6, rfl, LAt.nil _ _ _ _ _, by rw [countL]; exact Nat.zero_le _⟩
  · have hlm : len ≤ m' := by rw [hmm]; split <;> omega
    rw [cNode] at hx
    have hd6 : x.1 = DataW.slice ((List.range len).map D) ((List.range (m' - len)).map fun j => D (len + j)) := by rw [hx6]
    have hb2 : Rows.uptoBulkAll ((List.range len).map D) ≤ Rows.uptoBulk x.1 := by
      rw [hd6]
      simp only [Rows.uptoBulk]
      omega
    have hbD : ∀ i, i < len → Rows.uptoBulk (D i) ≤ Rows.uptoBulk x.1 := fun i hi => by
      have h1 := bulk_part (d := D i) (l := (List.range len).map D) (List.mem_map.2 ⟨i, List.mem_range.2 hi, rfl⟩)
      omega
    obtain ⟨l, hll, hp⟩ := tree_choose (p := fun i t => ∃ v, (∀ j q, (nodeCells t.own v)[j]? = some q → w.cell? (a.add (i * 9 + j)) = some q) ∧ a.block < w.heap.size ∧ ListAt w w.heap.size (Rows.uptoBulk x.1) t.kids v ∧ OwnOk t.own ∧ t.count ≤ Rows.uptoBulk (D i)) len (fun i hi => by
      obtain ⟨cs', h1, h2⟩ := hx i (by omega)
      obtain ⟨t, v, e, h3, h4, h5⟩ := open_node (Rows.uptoBulk x.1) n' cs' (D i, Pl i) h2 (hbD i hi)
      subst e
      obtain ⟨_, hlen, hc⟩ := World.cells?_some h1
      have hcc : ∀ j q, (nodeCells t.own v)[j]? = some q → w.cell? (a.add (i * 9 + j)) = some q := fun j q hq => by
        have hj : j < 9 := (List.getElem?_eq_some_iff.1 hq).1
        rw [← add_add', hc j hj, hq]
      refine ⟨t, v, hcc, ?_, h3, h4, h5⟩
      have := cell_block_lt (hcc 0 _ rfl)
      rwa [add_block] at this)
    refine ⟨l, some a, len, cap, e6, hll, ⟨some a, cap, by rw [← hll], ⟨by simp [maxLen] at hm; omega, by omega⟩, fun i hi => ?_⟩, ?_⟩
    · obtain ⟨v, g1, g2, g3, g4, _⟩ := hp i (by omega)
      exact ⟨a, v, rfl, g2, g4, g1, g3⟩
    · have := bulk_count D len l hll (fun i hi => by
        obtain ⟨_, _, _, _, _, g5⟩ := hp i hi
        exact g5)
      omega
set_option maxRecDepth 100000 in
/-- The same for a value. -/
theorem open_trees {W : World} {r : Reach} {b0 : Nat} {v : Value} {d : DataW H} {ps : List MemPlace} (hval : Value.okWide Tryz.prog W r b0 25 v) (hd : DataW.Trod enc Tryz.prog w base sp held 25 v d ps) :
    ∃ (l : List Tr) (A : Option Addr) (n c : Nat), v = .slice A n c ∧ l.length = n ∧ ListAt w w.heap.size (Rows.uptoBulk d + 1) l (.slice A n c) ∧ countL l ≤ Rows.uptoBulk d := by
  obtain ⟨a, len, cap, rfl⟩ := Go.WideShapes.okWide_slice Tryz.underlying25 hval
  obtain ⟨fuel, hf⟩ := hd
  obtain ⟨l, A, n, c, e, h⟩ := open_nodes hf
  refine ⟨l, A, n, c, ?_, h⟩
  simpa [Value.cells] using e
end
end Go.Proofs.YtfckekaegjjmkaaGreatDoor
