/- The texts BuildW, GateK, put together. -/
import Derived.Test.YtffaefdnlgfdbaaGreatDoorPk01
import Derived.Test.YtffaefdnlgfdbaaGreatDoorChecked
import Derived.Test.YtffaefdnlgfdbaaGreatDoorPk06
import Derived.Lib.FrozenHead
import Derived.RegionCalls
import Derived.Test.YtffaefdnlgfdbaaGreatDoorPk05
/- strings.Builder's writers where the builder stands first in cborw's writer (its block is of that type): XBuild once more, over that type; String. -/
namespace Go.Proofs.YtffaefdnlgfdbaaGreatDoor
open Go.RowKit Go.Shelf

abbrev IsW (B b : Nat) (bs : List Value) (w : World) : Prop := Lib.IsBuilderF 58 5 B b bs w
abbrev AtW (B b : Nat) (bs : List Value) (w : World) : Prop := Lib.BuilderAtF 58 5 B b (.pointer (some ⟨b, 0, none⟩)) bs w
theorem AtW.is {B b : Nat} {bs : List Value} {w : World} (h : AtW B b bs w) : IsW B b bs w := .inr h

theorem sizeBuilderW : (Tryz.prog.info? 56).map (·.size) = some 2 := by kernel_rfl
theorem liesBuilderW : liesAt Tryz.prog Tryz.prog.depth 58 (2 / Tryz.prog.cellsOf 58) 0 56 1 = true := by kernel_rfl
theorem infoByteW : (Tryz.prog.info? 5).map (fun i => (i.zero, i.size, i.bytes)) = some (some (.int .u8 0), 1, 1) := by kernel_rfl

set_option maxRecDepth 100000 in
theorem wcheck_fresh (b : Nat) (w : World) (h0 : w.cell? ⟨b, 0, none⟩ = some (.pointer none)) (hsh : w.shape? b = some (58, 2)) (hfz : w.frozen? ⟨b, 0, none⟩ = false) :
    Calls Tryz.prog 127 #[.pointer (some ⟨b, 0, none⟩)] w fun e w' => e = .returned (.tuple #[]) ∧ w' = w.setCell ⟨b, 0, none⟩ (.pointer (some ⟨b, 0, none⟩)) := by
  obtain ⟨j, hj, hjs⟩ := Option.map_eq_some_iff.1 sizeBuilderW
  go_enter Tryz.func127, Tryz.ntmps127
  go_wp2
  rw [Lib.run_to_unsafe w ⟨b, 0, none⟩ Tryz.underlying53 Tryz.underlying167 hj (by rw [hjs]; decide) hsh (Nat.zero_lt_succ 1)]
  simp only [Result.andThen]
  rw [Oper.upon_value]
  go_wp2
  rw [run_callFunc_extern Tryz.func141 (by kernel_rfl) (by kernel_rfl) (by kernel_rfl) (e := Extern.AbiNoEscape.same) (by kernel_rfl)]
  rw [Lib.run_noEscape]
  simp only [Result.andThen]
  rw [Oper.upon_value]
  go_wp2
  rw [Lib.run_from_unsafe w ⟨b, 0, none⟩ Tryz.underlying167 Tryz.underlying53 hj hsh liesBuilderW]
  simp only [Result.andThen]
  rw [Oper.upon_value]
  go_wp2
  go_end0
  exact ⟨rfl, rfl⟩

set_option maxRecDepth 100000 in
theorem wcheck_used (b : Nat) (w : World) (h0 : w.cell? ⟨b, 0, none⟩ = some (.pointer (some ⟨b, 0, none⟩))) :
    Calls Tryz.prog 127 #[.pointer (some ⟨b, 0, none⟩)] w fun e w' => e = .returned (.tuple #[]) ∧ w' = w := by
  obtain ⟨j, hj, _⟩ := Option.map_eq_some_iff.1 sizeBuilderW
  go_enter Tryz.func127, Tryz.ntmps127
  go_wp2
  rw [Lib.run_neq_ptr_same w _ Tryz.underlying53 hj]
  go_wp2
  go_end0
  exact ⟨rfl, rfl⟩

theorem wb_check (B b : Nat) (bs : List Value) (w : World) (h : IsW B b bs w) :
    Calls Tryz.prog 127 #[.pointer (some ⟨b, 0, none⟩)] w fun e w' => e = .returned (.tuple #[]) ∧ (AtW B b bs w' ∧ Below B w w' ∧ Lib.OthersKept 5 (some b) w w') := by
  rcases h with h | h
  · refine (wcheck_fresh b w h.cell0 h.shape h.frozen0).mono ?_
    rintro e w' ⟨rfl, rfl⟩
    exact ⟨rfl, h.used _, (Below.refl B w).setCell (p := ⟨b, 0, none⟩) h.1 _, (Lib.OthersKept.refl _ _ w).setCell ⟨b, 0, none⟩ rfl _⟩
  · refine (wcheck_used b w h.cell0).mono ?_
    rintro e w' ⟨rfl, rfl⟩
    exact ⟨rfl, h, Below.refl B _, Lib.OthersKept.refl _ _ _⟩

set_option maxHeartbeats 2000000 in
set_option maxRecDepth 100000 in
theorem wb_WriteByte (B b : Nat) (bs : List Value) (c : Int) (w : World) (h : IsW B b bs w) (hlen : bs.length + 1 ≤ 140737488355328) (hBw : B ≤ w.heap.size) :
    Calls Tryz.prog 125 #[.pointer (some ⟨b, 0, none⟩), .int .u8 c] w fun e w' => e = .returned .nilIface ∧ (AtW B b (bs ++ [.int .u8 c]) w' ∧ Below B w w' ∧ Lib.OthersKept 5 (some b) w w') := by
  obtain ⟨i0, hi, hz0, hz1, hz2⟩ := info_parts infoByteW
  have HC := Lib.hid (wb_check B b bs w h)
  go_enter Tryz.func125, Tryz.ntmps125
  go_wp2_with fail
  refine HC.out.mono ?_
  rintro e w1 ⟨rfl, h1, hb1, hk1⟩
  obtain ⟨hB, v, hbk, hown, hne⟩ := h1
  have c0 : w1.cell? ⟨b, 0, none⟩ = some (.pointer (some ⟨b, 0, none⟩)) := by rw [Lib.cell_of_heap hbk]; rfl
  have c1 : w1.cell? ⟨b, 1, none⟩ = some v := by rw [Lib.cell_of_heap hbk]; rfl
  go_wp2_with (at_builtin; refine wpList_append_ownF _ rfl _ _ 54 rfl B 5 i0 (.int .u8 0) 1 1 Tryz.underlying54 hi hz0 hz1 hz2 rfl (by decide) _ _ _ rfl (hown.alloc _) ⟨w1.heap.size, 0, none⟩ 1 1 [.int .u8 c] rfl rfl ?c1 ?c2 ?c3 ?c4 ?c5 ?_)
  case c1 =>
    intro j u hj
    match j, hj with
    | 0, hj => simp at hj; subst hj; simp [Addr.add]
  case c2 => intro u hu; simp at hu; subst hu; rfl
  case c3 => unfold maxLen; omega
  case c4 => omega
  case c5 => have := hb1.size; simp; omega
  intro v' w2 hown' hgrow _
  have hlt : b < w1.heap.size := by
    rcases Nat.lt_or_ge b w1.heap.size with h' | h'
    · exact h'
    · simp [Array.getElem?_eq_none h'] at hbk
  have hb2 : w2.heap[b]? = some (.cells #[.pointer (some ⟨b, 0, none⟩), v] 58 (0, 0)) := by
    rw [hgrow.block b (by simp; omega) (fun e => hne e.symm), Lib.alloc_old w1 _ b hlt]
    exact hbk
  have d0 : w2.cell? ⟨b, 0, none⟩ = some (.pointer (some ⟨b, 0, none⟩)) := by rw [Lib.cell_of_heap hb2]; rfl
  have d1 : w2.cell? ⟨b, 1, none⟩ = some v := by rw [Lib.cell_of_heap hb2]; rfl
  have f1 : w2.frozen? ⟨b, 1, none⟩ = false := Lib.frozen_of_heap hb2 1
  obtain ⟨g, cap, rfl⟩ : ∃ g cap, v' = .slice (some ⟨g, 0, none⟩) (bs.length + 1) cap := by
    rcases hown'.2 with ⟨_, h0⟩ | ⟨g, cap, cur, fz, hv, _⟩
    · omega
    · exact ⟨g, cap, hv⟩
  go_wp2
  go_ret
  refine ⟨rfl, ?_, ?_, ((hk1.alloc _).grown hgrow (Lib.ownsRowF_kind (hown.alloc _))).setCell ⟨b, 1, none⟩ rfl _⟩
  · exact Lib.BuilderAtF.put (T := 58) (e := 5) hB hb2 (bs' := bs ++ [.int .u8 c]) (by simpa using hown') (by decide)
  · exact ((hb1.alloc (by have := hb1.size; omega) _).grown hgrow (by have := hb1.size; simp; omega) (fun k hk => (hown.lt k hk).1)).setCell (p := ⟨b, 1, none⟩) hB _

set_option maxHeartbeats 2000000 in
set_option maxRecDepth 100000 in
theorem wb_WriteString (B b : Nat) (bs : List Value) (s : ByteArray) (w : World) (h : IsW B b bs w) (hlen : bs.length + s.size ≤ 140737488355328) (hBw : B ≤ w.heap.size) :
    Calls Tryz.prog 107 #[.pointer (some ⟨b, 0, none⟩), .string s] w fun e w' => e = .returned (.tuple #[.int .i64 s.size, .nilIface]) ∧ (AtW B b (bs ++ Lib.strCells s) w' ∧ Below B w w' ∧ Lib.OthersKept 5 (some b) w w') := by
  obtain ⟨i0, hi, hz0, hz1, hz2⟩ := info_parts infoByteW
  have HC := Lib.hid (wb_check B b bs w h)
  go_enter Tryz.func107, Tryz.ntmps107
  go_wp2_with fail
  refine HC.out.mono ?_
  rintro e w1 ⟨rfl, h1, hb1, hk1⟩
  obtain ⟨hB, v, hbk, hown, hne⟩ := h1
  have c0 : w1.cell? ⟨b, 0, none⟩ = some (.pointer (some ⟨b, 0, none⟩)) := by rw [Lib.cell_of_heap hbk]; rfl
  have c1 : w1.cell? ⟨b, 1, none⟩ = some v := by rw [Lib.cell_of_heap hbk]; rfl
  go_wp2_with (at_builtin; refine Lib.wpList_append_own_stringF _ rfl _ _ 54 9 rfl B 5 i0 Tryz.underlying54 Tryz.underlying9 hi hz0 hz1 hz2 _ _ _ rfl hown s rfl ?c3 ?c4 ?c5 ?_)
  case c3 => unfold maxLen; omega
  case c4 => omega
  case c5 => have := hb1.size; omega
  intro v' w2 hown' hgrow _
  have hlt : b < w1.heap.size := by
    rcases Nat.lt_or_ge b w1.heap.size with h' | h'
    · exact h'
    · simp [Array.getElem?_eq_none h'] at hbk
  have hb2 : w2.heap[b]? = some (.cells #[.pointer (some ⟨b, 0, none⟩), v] 58 (0, 0)) := by
    rw [hgrow.block b hlt (fun e => hne e.symm)]
    exact hbk
  have d0 : w2.cell? ⟨b, 0, none⟩ = some (.pointer (some ⟨b, 0, none⟩)) := by rw [Lib.cell_of_heap hb2]; rfl
  have d1 : w2.cell? ⟨b, 1, none⟩ = some v := by rw [Lib.cell_of_heap hb2]; rfl
  have f1 : w2.frozen? ⟨b, 1, none⟩ = false := Lib.frozen_of_heap hb2 1
  obtain ⟨ao, n', cap, rfl⟩ : ∃ ao n' cap, v' = .slice ao n' cap := by
    rcases hown'.2 with ⟨hv, _⟩ | ⟨g, cap, cur, fz, hv, _⟩
    · exact ⟨_, _, _, hv⟩
    · exact ⟨_, _, _, hv⟩
  go_wp2
  go_ret2
  refine ⟨rfl, ?_, ?_, (hk1.grown hgrow (Lib.ownsRowF_kind hown)).setCell ⟨b, 1, none⟩ rfl _⟩
  · exact Lib.BuilderAtF.put (T := 58) (e := 5) hB hb2 (bs' := bs ++ Lib.strCells s) (by simpa [Lib.strCells_length] using hown') (by decide)
  · exact (hb1.grown hgrow (by have := hb1.size; omega) (fun k hk => (hown.lt k hk).1)).setCell (p := ⟨b, 1, none⟩) hB _

set_option maxHeartbeats 2000000 in
set_option maxRecDepth 100000 in
theorem wb_String (B b : Nat) (l : List UInt8) (w : World) (h : IsW B b (Lib.byteCells l) w) (h0 : l ≠ []) :
    Calls Tryz.prog 26 #[.pointer (some ⟨b, 0, none⟩)] w fun e w' => e = .returned (.string ⟨l.toArray⟩) ∧ Below B w w' := by
  obtain ⟨p, hAt⟩ : ∃ p, Lib.BuilderAtF 58 5 B b p (Lib.byteCells l) w := by
    rcases h with h | h
    · exact ⟨_, h⟩
    · exact ⟨_, h⟩
  obtain ⟨hB, v, hbk, hown, hne⟩ := hAt
  have hl0 : l.length ≠ 0 := by simpa using h0
  rw [Lib.byteCells_length] at hown
  obtain ⟨g, cap, cur, fz, rfl, hbg, hg, hfz, hnc, hcm, hcs, htake⟩ : ∃ g cap cur fz, v = .slice (some ⟨g, 0, none⟩) l.length cap ∧ B ≤ g ∧ w.heap[g]? = some (.cells cur 5 fz) ∧ fz.2 ≤ l.length * 1 ∧ l.length ≤ cap ∧ cap ≤ maxLen ∧ cur.size = cap * 1 ∧ cur.toList.take (l.length * 1) = Lib.byteCells l := by
    rcases hown.2 with ⟨_, hz⟩ | ⟨g, cap, cur, fz, hv, r⟩
    · exact absurd hz hl0
    · exact ⟨g, cap, cur, fz, hv, r⟩
  have c1 : w.drew.cell? ⟨b, 1, none⟩ = some (.slice (some ⟨g, 0, none⟩) l.length cap) := by
    have : w.drew.heap[b]? = some (.cells #[p, .slice (some ⟨g, 0, none⟩) l.length cap] 58 (0, 0)) := hbk
    rw [Lib.cell_of_heap this]
    rfl
  have hSD : (Builtin.unsafeSliceData_ #[54] 80 #[.slice (some ⟨g, 0, none⟩) l.length cap]).run Tryz.prog w.drew = .ok (.pointer (some ⟨g, 0, none⟩)) w.drew :=
    Lib.run_unsafeSliceData_row _ _ _ _ _ _ (by omega)
  have hUS : (Builtin.unsafeString_ #[80, 3] 9 #[.pointer (some ⟨g, 0, none⟩), .int .i64 l.length]).run Tryz.prog w.drew = .ok (.string ⟨l.toArray⟩) (w.drew.freeze ⟨g, 0, none⟩ l.length) := by
    refine Lib.run_unsafeString_row w.drew 80 3 9 5 Tryz.underlying80 (by kernel_rfl) g cur.size (by have hg' : w.drew.heap[g]? = some (.cells cur 5 fz) := hg; simp [World.shape?, hg']) l h0 (by omega) (by unfold maxLen at hcm; omega) ?_
    intro j x hx
    have := hown.cells (g := g) rfl j (.int .u8 x.toNat) (by simp [Lib.byteCells, hx])
    exact this
  go_enter Tryz.func26, Tryz.ntmps26
  go_wp2_with fail
  go_region
  all_goals (go_wp2_with fail; go_ret; exact ⟨rfl, Lib.below_freeze (Below.drew (Below.refl B w)) (p := ⟨g, 0, none⟩) hbg _⟩)
end Go.Proofs.YtffaefdnlgfdbaaGreatDoor
/- tree: keys. -/
namespace Go.Proofs.YtffaefdnlgfdbaaGreatDoor
open Go.RowKit Go.Shelf

/-- Every second one. -/
def evens : List Tr → List Tr
  | [] => []
  | [k] => [k]
  | k :: _ :: r => k :: evens r
theorem evens_drop (l : List Tr) (k : Nat) (h : k < l.length) : evens (l.drop k) = l[k] :: evens (l.drop (k + 2)) := by
  rw [List.drop_eq_getElem_cons h]
  by_cases h1 : k + 1 < l.length
  · rw [List.drop_eq_getElem_cons h1]
    rfl
  · rw [List.drop_eq_nil_of_le (by omega), List.drop_eq_nil_of_le (by omega)]
    rfl
theorem evens_length : ∀ l : List Tr, (evens l).length = (l.length + 1) / 2
  | [] => by simp [evens]
  | [k] => by simp [evens]
  | k :: k' :: r => by
    show (evens r).length + 1 = _
    rw [evens_length r]
    simp only [List.length_cons]
    omega
theorem evens_get : ∀ (l : List Tr) (i : Nat) (h : i < (evens l).length), ∃ h' : 2 * i < l.length, (evens l)[i] = l[2 * i]
  | [], i, h => absurd h (by simp [evens])
  | [k], i, h => by
    have : i = 0 := by simp [evens] at h; exact h
    subst this
    exact ⟨by simp, rfl⟩
  | k :: k' :: r, 0, h => ⟨by simp, rfl⟩
  | k :: k' :: r, i + 1, h => by
    have h1 : i < (evens r).length := by
      have : i + 1 < (evens r).length + 1 := h
      omega
    obtain ⟨h2, e⟩ := evens_get r i h1
    have h3 : 2 * (i + 1) < (k :: k' :: r).length := by
      simp only [List.length_cons]
      omega
    refine ⟨h3, ?_⟩
    show (evens r)[i] = _
    rw [e]
    simp only [Nat.mul_add, Nat.mul_one, List.getElem_cons_succ]

set_option maxHeartbeats 8000000 in
set_option maxRecDepth 100000 in
theorem tree_keys (l : List Tr) (A : Option Addr) (n c : Nat) (w : World) (B d : Nat) (hl : ListAt w B d l (.slice A n c)) (hB : B ≤ w.heap.size) (hn : l.length = n) (hc : n ≤ 1000000000000) :
    Calls Tryz.prog 68 #[.slice A n c] w fun e w' => (∃ A' n' c', e = .returned (.slice A' n' c') ∧ (evens l).length = n' ∧ ListAt w' w'.heap.size (d + 1) (evens l) (.slice A' n' c')) ∧ Below w.heap.size w w' := by
  obtain ⟨i0, hi, hz0, hz1, hz2⟩ := info_parts infoNode
  have HI := Lib.hid hi
  have HZ0 := Lib.hid hz0
  have HZ1 := Lib.hid hz1
  have HZ2 := Lib.hid hz2
  clear hi hz0 hz1 hz2
  have HL := Lib.hid hl
  have HN := Lib.hid hn
  have H0 := Lib.hid (show evens l = [] ++ evens (l.drop (2 * 0)) by simp)
  have hcI : (n : Int) ≤ 1000000000000 := by omega
  have hlen := hl.slice.1
  rw [hn] at hlen
  clear hl hn hc
  go_enter Tryz.func68, Tryz.ntmps68
  go_wp2_with fail
  go_loopw [3, 4] (fun v i wr => ∃ (j : Nat) (acc : List Tr) (xs : List Value), 2 * j ≤ n + 1 ∧ acc.length = j ∧ i = .int .i64 ((2 * j : Nat) : Int) ∧ wr.ownsRow w.heap.size 27 9 v j xs ∧ RowT wr (fun q => q < B) d acc xs ∧ Below w.heap.size w wr ∧ Hid (evens l = acc ++ evens (l.drop (2 * j)))) (fun _ i _ => n + 2 - (intOf i).toNat)
  case atStart => exact ⟨0, [], [], by omega, rfl, rfl, World.ownsRow_nil _ _ _ _, rfl, Below.refl _ _, H0⟩
  case round =>
    obtain ⟨j, acc, xs, hj, hacc, rfl, hown, hrow, hbw, hev⟩ := hrel
    clear H0
    obtain ⟨A', c', rfl⟩ := own_sliceT hown
    have hzw := hbw.size
    obtain ⟨k, hk⟩ : ∃ k, 2 * j = k := ⟨_, rfl⟩
    rw [hk] at hev hj ⊢
    by_cases hlt : k < n
    · have hkl : k < l.length := by rw [HN.out]; exact hlt
      obtain ⟨d', ad, y, hdd, rfl, hab, hok, hna, hkk⟩ := (HL.out.below hbw hB).at_ hkl
      have hev2 : evens l = (acc ++ [l[k]]) ++ evens (l.drop (k + 2)) := by
        rw [hev.out, evens_drop l k hkl, List.append_assoc]
        rfl
      obtain ⟨_, A1, c1, rfl⟩ := hkk.slice
      obtain ⟨n1, hn1⟩ : ∃ n1, l[k].kids.length = n1 := ⟨_, rfl⟩
      rw [hn1] at hkk hna
      have hone : RowT wr (fun q => q < B) d [l[k]] (nodeCells l[k].own (.slice A1 n1 c1)) := RowT.one hok (hkk.deeper (by omega))
      have hrow2 := RowT.append hone hrow
      obtain ⟨o1, ho1⟩ : ∃ o, l[k].own = o := ⟨_, rfl⟩
      rw [ho1] at hna hrow2
      obtain ⟨kind3, b3, neg3, dg3, ex3, u3, wd3, s3⟩ := o1
      unfold nodeCells at hrow2
      obtain ⟨k0, k1, k2, k3, k4, k5, k6, k7, k8⟩ := hna
      simp only [] at k0 k1 k2 k3 k4 k5 k6 k7 k8 hrow2
      have HR2 := Lib.hid hrow2
      have HE2 := Lib.hid hev2
      have HOWN := Lib.hid hown
      have y1 : (k : Int) < n := by omega
      have y2 : (k : Int) + 2 ≤ 2000000000000 := by omega
      have hq : ∀ q, (Value.slice A' j c').ownBlock = some q → w.heap.size ≤ q ∧ q < wr.heap.size := fun q e => ⟨(hown.lt q e).1, (hown.lt q e).2⟩
      have HQ := Lib.hid hq
      have hown2 : (wr.alloc (.cells #[.int .i64 kind3, .bool b3, .bool neg3, .string dg3, .int .i64 ex3, .int .u64 u3, .int .i64 wd3, .string s3, .slice A1 n1 c1] 27)).ownsRow w.heap.size 27 9 (.slice A' j c') j xs := hown.alloc _
      have c3 : j + 1 ≤ maxLen := by unfold maxLen; omega
      clear hlen
      have yj : (j : Int) ≤ 1000000000000 := by omega
      have HK := Lib.hid hk
      have HACC := Lib.hid hacc
      clear hev hev2 hkk hok hdd ho1 hn1 hone hrow hrow2 hown hq hk hacc
      go_wp2_with (at_builtin; refine wpList_append_lies _ rfl _ _ 25 rfl w.heap.size 27 i0 (.agg #[.int .i64 0, .bool false, .bool false, .string ⟨#[]⟩, .int .i64 0, .int .u64 0, .int .i64 0, .string ⟨#[]⟩, .slice none 0 0]) 9 104 Tryz.underlying25 HI.out HZ0.out HZ1.out HZ2.out rfl (by decide) _ _ _ rfl hown2 ⟨wr.heap.size, 0, none⟩ 1 1 [.int .i64 kind3, .bool b3, .bool neg3, .string dg3, .int .i64 ex3, .int .u64 u3, .int .i64 wd3, .string s3, .slice A1 n1 c1] rfl rfl (cells_newT _ [.int .i64 kind3, .bool b3, .bool neg3, .string dg3, .int .i64 ex3, .int .u64 u3, .int .i64 wd3, .string s3, .slice A1 n1 c1] _) (by intro u hu; simp at hu; rcases hu with rfl | rfl | rfl | rfl | rfl | rfl | rfl | rfl | rfl <;> rfl) (by decide) (by omega) (by omega) (by simp; omega) (wr.heap.size + 1) (by simp) ?_; intro g cap w4 hown4 hgrow hat hg4)
      have hbw4 : Below w.heap.size w w4 := (hbw.alloc hbw.size _).grown hgrow (by simp; omega) (fun q e => (HQ.out q e).1)
      have hkp : ∀ q, q < w.heap.size → w4.heap[q]? = wr.heap[q]? := fun q hq => (hbw4.block q hq).trans (hbw.block q hq).symm
      have hrow4 := HR2.out.keep (W' := w4) (fun q hq => hkp q (by omega))
      have HR4 := Lib.hid hrow4
      have HO4 := Lib.hid hown4
      clear hgrow hat hg4 hkp hrow4 hown4 hown2 HR2 HOWN HQ hbw k0 k1 k2 k3 k4 k5 k6 k7 k8
      go_wp2_with fail
      go_roundw
      case rel => exact ⟨j + 1, _, _, by have := HK.out; omega, by rw [List.length_append, HACC.out]; rfl, by have := HK.out; rw [show 2 * (j + 1) = k + 2 by omega]; go_num, HO4.out, HR4.out, hbw4, by have := HK.out; rw [show 2 * (j + 1) = k + 2 by omega]; exact HE2⟩
      case measure => simp [intOf]; omega
    · have y1 : ¬ (k : Int) < n := by omega
      have hfin : evens l = acc := by
        rw [hev.out, List.drop_eq_nil_of_le (by rw [HN.out]; omega)]
        exact List.append_nil _
      have hres : ListAt wr wr.heap.size (d + 1) acc (.slice A' j c') := hrow.list hown hacc.symm (by omega) (fun q hq => by omega) (fun a e => by
        subst e
        exact (hown.lt a.block rfl).2)
      have HFIN := Lib.hid hfin
      have HRES := Lib.hid hres
      have HACC := Lib.hid hacc
      clear hlen
      clear hown hrow hev hfin hres hk hacc
      go_wp2_with fail
      go_ret
      exact ⟨⟨_, _, _, rfl, by rw [HFIN.out]; exact HACC.out, by rw [HFIN.out]; exact HRES.out⟩, hbw⟩
end Go.Proofs.YtffaefdnlgfdbaaGreatDoor
