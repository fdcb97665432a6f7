/- The texts GateK, put together. -/
import Derived.Test.YtfckekaegjjmkaaGreatDoorPc04
import Derived.Test.YtfckekaegjjmkaaGreatDoorPc11
namespace Go.Proofs.YtfckekaegjjmkaaGreatDoor
open Go.RowKit Go.Shelf

/-- Every second one. -/
def evens : List Tr → List Tr
  | [] => []
  | [k] => [k]
  | k :: _ :: r => k :: evens r
theorem evens_drop (l : List Tr) (k : Nat) (h : k < l.length) : evens (l.drop k) = l[k] :: evens (l.drop (k + 2)) := by
  rw [List.drop_eq_getElem_cons h]
  by_cases h1 : k + 1 < l.length
  · rw [List.drop_eq_getElem_cons h1]
    rfl
  · rw [List.drop_eq_nil_of_le (by omega), List.drop_eq_nil_of_le (by omega)]
    rfl
theorem evens_length : ∀ l : List Tr, (evens l).length = (l.length + 1) / 2
  | [] => by simp [evens]
  | [k] => by simp [evens]
  | k :: k' :: r => by
    show (evens r).length + 1 = _
    rw [evens_length r]
    simp only [List.length_cons]
    omega
theorem evens_get : ∀ (l : List Tr) (i : Nat) (h : i < (evens l).length), ∃ h' : 2 * i < l.length, (evens l)[i] = l[2 * i]
  | [], i, h => absurd h (by simp [evens])
  | [k], i, h => by
    have : i = 0 := by simp [evens] at h; exact h
    subst this
    exact ⟨by simp, rfl⟩
  | k :: k' :: r, 0, h => ⟨by simp, rfl⟩
  | k :: k' :: r, i + 1, h => by
    have h1 : i < (evens r).length := by
      have : i + 1 < (evens r).length + 1 := h
      omega
    obtain ⟨h2, e⟩ := evens_get r i h1
    have h3 : 2 * (i + 1) < (k :: k' :: r).length := by
      simp only [List.length_cons]
      omega
    refine ⟨h3, ?_⟩
    show (evens r)[i] = _
    rw [e]
    simp only [Nat.mul_add, Nat.mul_one, List.getElem_cons_succ]

set_option maxHeartbeats 8000000 in
set_option maxRecDepth 100000 in
theorem tree_keys (l : List Tr) (A : Option Addr) (n c : Nat) (w : World) (B d : Nat) (hl : ListAt w B d l (.slice A n c)) (hB : B ≤ w.heap.size) (hn : l.length = n) (hc : n ≤ 1000000000000) :
    Calls Tryz.prog 99 #[.slice A n c] w fun e w' => (∃ A' n' c', e = .returned (.slice A' n' c') ∧ (evens l).length = n' ∧ ListAt w' w'.heap.size (d + 1) (evens l) (.slice A' n' c')) ∧ Below w.heap.size w w' := by
  obtain ⟨i0, hi, hz0, hz1, hz2⟩ := info_parts infoNode
  have HI := Lib.hid hi
  have HZ0 := Lib.hid hz0
  have HZ1 := Lib.hid hz1
  have HZ2 := Lib.hid hz2
  clear hi hz0 hz1 hz2
  have HL := Lib.hid hl
  have HN := Lib.hid hn
  have H0 := Lib.hid (show evens l = [] ++ evens (l.drop (2 * 0)) by simp)
  have hcI : (n : Int) ≤ 1000000000000 := by omega
  have hlen := hl.slice.1
  rw [hn] at hlen
  clear hl hn hc
  go_enter Tryz.func99, Tryz.ntmps99
  go_wp2_with fail
  go_loopw [3, 4] (fun v i wr => ∃ (j : Nat) (acc : List Tr) (xs : List Value), 2 * j ≤ n + 1 ∧ acc.length = j ∧ i = .int .i64 ((2 * j : Nat) : Int) ∧ wr.ownsRow w.heap.size 27 9 v j xs ∧ RowT wr (fun q => q < B) d acc xs ∧ Below w.heap.size w wr ∧ Hid (evens l = acc ++ evens (l.drop (2 * j)))) (fun _ i _ => n + 2 - (intOf i).toNat)
  case atStart => exact ⟨0, [], [], by omega, rfl, rfl, World.ownsRow_nil _ _ _ _, rfl, Below.refl _ _, H0⟩
  case round =>
    obtain ⟨j, acc, xs, hj, hacc, rfl, hown, hrow, hbw, hev⟩ := hrel
    clear H0
    obtain ⟨A', c', rfl⟩ := own_sliceT hown
    have hzw := hbw.size
    obtain ⟨k, hk⟩ : ∃ k, 2 * j = k := ⟨_, rfl⟩
    rw [hk] at hev hj ⊢
    by_cases hlt : k < n
    · have hkl : k < l.length := by rw [HN.out]; exact hlt
      obtain ⟨d', ad, y, hdd, rfl, hab, hok, hna, hkk⟩ := (HL.out.below hbw hB).at_ hkl
      have hev2 : evens l = (acc ++ [l[k]]) ++ evens (l.drop (k + 2)) := by
        rw [hev.out, evens_drop l k hkl, List.append_assoc]
        rfl
      obtain ⟨_, A1, c1, rfl⟩ := hkk.slice
      obtain ⟨n1, hn1⟩ : ∃ n1, l[k].kids.length = n1 := ⟨_, rfl⟩
      rw [hn1] at hkk hna
      have hone : RowT wr (fun q => q < B) d [l[k]] (nodeCells l[k].own (.slice A1 n1 c1)) := RowT.one hok (hkk.deeper (by omega))
      have hrow2 := RowT.append hone hrow
      obtain ⟨o1, ho1⟩ : ∃ o, l[k].own = o := ⟨_, rfl⟩
      rw [ho1] at hna hrow2
      obtain ⟨kind3, b3, neg3, dg3, ex3, u3, wd3, s3⟩ := o1
      unfold nodeCells at hrow2
      obtain ⟨k0, k1, k2, k3, k4, k5, k6, k7, k8⟩ := hna
      simp only [] at k0 k1 k2 k3 k4 k5 k6 k7 k8 hrow2
      have HR2 := Lib.hid hrow2
      have HE2 := Lib.hid hev2
      have HOWN := Lib.hid hown
      have y1 : (k : Int) < n := by omega
      have y2 : (k : Int) + 2 ≤ 2000000000000 := by omega
      have hq : ∀ q, (Value.slice A' j c').ownBlock = some q → w.heap.size ≤ q ∧ q < wr.heap.size := fun q e => ⟨(hown.lt q e).1, (hown.lt q e).2⟩
      have HQ := Lib.hid hq
      have hown2 : (wr.alloc (.cells #[.int .i64 kind3, .bool b3, .bool neg3, .string dg3, .int .i64 ex3, .int .u64 u3, .int .i64 wd3, .string s3, .slice A1 n1 c1] 27)).ownsRow w.heap.size 27 9 (.slice A' j c') j xs := hown.alloc _
      have c3 : j + 1 ≤ maxLen := by unfold maxLen; omega
      clear hlen
      have yj : (j : Int) ≤ 1000000000000 := by omega
      have HK := Lib.hid hk
      have HACC := Lib.hid hacc
      clear hev hev2 hkk hok hdd ho1 hn1 hone hrow hrow2 hown hq hk hacc
      go_wp2_with (at_builtin; refine wpList_append_lies _ rfl _ _ 25 rfl w.heap.size 27 i0 (.agg #[.int .i64 0, .bool false, .bool false, .string ⟨#[]⟩, .int .i64 0, .int .u64 0, .int .i64 0, .string ⟨#[]⟩, .slice none 0 0]) 9 104 Tryz.underlying25 HI.out HZ0.out HZ1.out HZ2.out rfl (by decide) _ _ _ rfl hown2 ⟨wr.heap.size, 0, none⟩ 1 1 [.int .i64 kind3, .bool b3, .bool neg3, .string dg3, .int .i64 ex3, .int .u64 u3, .int .i64 wd3, .string s3, .slice A1 n1 c1] rfl rfl (cells_newT _ [.int .i64 kind3, .bool b3, .bool neg3, .string dg3, .int .i64 ex3, .int .u64 u3, .int .i64 wd3, .string s3, .slice A1 n1 c1] _) (by intro u hu; simp at hu; rcases hu with rfl | rfl | rfl | rfl | rfl | rfl | rfl | rfl | rfl <;> rfl) (by decide) (by omega) (by omega) (by simp; omega) (wr.heap.size + 1) (by simp) ?_; intro g cap w4 hown4 hgrow hat hg4)
      have hbw4 : Below w.heap.size w w4 := (hbw.alloc hbw.size _).grown hgrow (by simp; omega) (fun q e => (HQ.out q e).1)
      have hkp : ∀ q, q < w.heap.size → w4.heap[q]? = wr.heap[q]? := fun q hq => (hbw4.block q hq).trans (hbw.block q hq).symm
      have hrow4 := HR2.out.keep (W' := w4) (fun q hq => hkp q (by omega))
      have HR4 := Lib.hid hrow4
      have HO4 := Lib.hid hown4
      clear hgrow hat hg4 hkp hrow4 hown4 hown2 HR2 HOWN HQ hbw k0 k1 k2 k3 k4 k5 k6 k7 k8
      go_wp2_with fail
      go_roundw
      case rel => exact ⟨j + 1, _, _, by have := HK.out; omega, by rw [List.length_append, HACC.out]; rfl, by have := HK.out; rw [show 2 * (j + 1) = k + 2 by omega]; go_num, HO4.out, HR4.out, hbw4, by have := HK.out; rw [show 2 * (j + 1) = k + 2 by omega]; exact HE2⟩
      case measure => simp [intOf]; omega
    · have y1 : ¬ (k : Int) < n := by omega
      have hfin : evens l = acc := by
        rw [hev.out, List.drop_eq_nil_of_le (by rw [HN.out]; omega)]
        exact List.append_nil _
      have hres : ListAt wr wr.heap.size (d + 1) acc (.slice A' j c') := hrow.list hown hacc.symm (by omega) (fun q hq => by omega) (fun a e => by
        subst e
        exact (hown.lt a.block rfl).2)
      have HFIN := Lib.hid hfin
      have HRES := Lib.hid hres
      have HACC := Lib.hid hacc
      clear hlen
      clear hown hrow hev hfin hres hk hacc
      go_wp2_with fail
      go_ret
      exact ⟨⟨_, _, _, rfl, by rw [HFIN.out]; exact HACC.out, by rw [HFIN.out]; exact HRES.out⟩, hbw⟩
end Go.Proofs.YtfckekaegjjmkaaGreatDoor
