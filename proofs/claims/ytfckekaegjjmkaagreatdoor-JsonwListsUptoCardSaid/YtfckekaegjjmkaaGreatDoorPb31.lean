/- The texts GateA, put together. -/
import Derived.Test.YtfckekaegjjmkaaGreatDoorPb04
import Derived.Test.YtfckekaegjjmkaaGreatDoorPb12
namespace Go.Proofs.YtfckekaegjjmkaaGreatDoor
open Go.RowKit Go.Shelf

set_option maxHeartbeats 2000000 in
set_option maxRecDepth 100000 in
theorem tree_Depth (d : Nat) : ∀ (t : Tr) (x : Value) (w : World) (B : Nat), ListAt w B d t.kids x → B ≤ w.heap.size → t.count ≤ 1000000000000 →
    Calls Tryz.prog 30 #[nodeV t.own x] w fun e w' => e = .returned (.int .i64 (t.depth : Nat)) ∧ Below w.heap.size w w' := by
  induction d using Nat.strongRecOn with
  | _ d ih =>
  intro t x w B hl hB hc
  obtain ⟨hlen, A, c, rfl⟩ := hl.slice
  have hdc := depth_count t
  rw [Tr.depth_eq] at hdc ⊢
  have hkc : ∀ l, t.kids = l → ∀ k (h : k < l.length), l[k].count ≤ 1000000000000 := by
    rintro _ rfl k h
    have := Tr.count_eq t
    have h1 := countL_take t.kids k h
    have h2 := countL_mono t.kids (k + 1)
    omega
  obtain ⟨l, hkl⟩ : ∃ l, t.kids = l := ⟨_, rfl⟩
  have hkc := hkc l hkl
  rw [hkl] at hl hlen hdc ⊢
  obtain ⟨n, hn⟩ : ∃ n, l.length = n := ⟨_, rfl⟩
  rw [hn] at hl hlen ⊢
  obtain ⟨⟨kind, b, neg, dg, ex, u, wd, s⟩, ho⟩ : ∃ o, t.own = o := ⟨_, rfl⟩
  rw [ho]
  unfold nodeV
  have HL := Lib.hid hl
  have IH := Lib.hid ih
  have HKC := Lib.hid hkc
  have hbx := (Below.refl w.heap.size w).alloc (Nat.le_refl _) (.cells #[.int .i64 kind, .bool b, .bool neg, .string dg, .int .i64 ex, .int .u64 u, .int .i64 wd, .string s, .slice A n c] 27)
  have hBx : Blk (w.alloc (.cells #[.int .i64 kind, .bool b, .bool neg, .string dg, .int .i64 ex, .int .u64 u, .int .i64 wd, .string s, .slice A n c] 27)) w.heap.size #[.int .i64 kind, .bool b, .bool neg, .string dg, .int .i64 ex, .int .u64 u, .int .i64 wd, .string s, .slice A n c] 27 := Blk.new _ _ _
  have hd2 : depthL l + 1 ≤ 1000000000000 := by omega
  clear hl ih ho hkl hkc hdc hc
  simp only []
  have hf0 := hBx.cell 8
  go_enter Tryz.func30, Tryz.ntmps30
  go_wp2_with fail
  go_loopw [3, 9] (fun m i wr => ∃ k : Nat, k ≤ n ∧ i = .int .i64 k ∧ m = .int .i64 ((depthL (l.take k) : Nat) : Int) ∧ Below w.heap.size w wr) (fun _ i _ => n - (intOf i).toNat)
  case atStart => exact ⟨0, by omega, rfl, rfl, hbx⟩
  case round =>
    obtain ⟨k, hk, rfl, rfl, hbw⟩ := hrel
    by_cases hlt : k < n
    · have hkl : k < l.length := by omega
      obtain ⟨d', ad, x', hdd, rfl, hab, hok, hna, hkk⟩ := (HL.out.below hbw hB).at_ hkl
      obtain ⟨_, A2, c2, rfl⟩ := hkk.slice
      obtain ⟨n2, hn2⟩ : ∃ n2, l[k].kids.length = n2 := ⟨_, rfl⟩
      rw [hn2] at hna hkk
      have htk := depthL_take l k hkl
      have hba : Below wr.heap.size wr (wr.alloc (.cells (cellsV l[k].own (.slice A2 n2 c2)) 27)) := (Below.refl _ _).alloc (Nat.le_refl _) _
      have hba2 := hbw.trans (hba.mono hbw.size)
      have hkb := Blk.new wr (cellsV l[k].own (.slice A2 n2 c2)) 27
      have HC := IH.out d' (by omega) l[k] (.slice A2 n2 c2) _ B (hkk.below hba (Nat.le_trans hB hbw.size)) (Nat.le_trans hB hba2.size) (HKC.out k hkl)
      obtain ⟨m0, hm0⟩ : ∃ m0, depthL (l.take k) = m0 := ⟨_, rfl⟩
      obtain ⟨m1, hm1⟩ : ∃ m1, l[k].depth = m1 := ⟨_, rfl⟩
      rw [hm0, hm1] at htk
      rw [hm1] at HC
      obtain ⟨⟨kind', b', neg', dg', ex', u', wd', s'⟩, ho'⟩ : ∃ o, l[k].own = o := ⟨_, rfl⟩
      rw [ho'] at HC hna hkb hba2
      unfold nodeV at HC
      unfold cellsV at HC hkb hba2
      obtain ⟨k0, k1, k2, k3, k4, k5, k6, k7, k8⟩ := hna
      simp only [] at k0 k1 k2 k3 k4 k5 k6 k7 k8 HC hkb hba2
      have z0 := hkb.cell 0
      have z1 := hkb.cell 1
      have z2 := hkb.cell 2
      have z3 := hkb.cell 3
      have z4 := hkb.cell 4
      have z5 := hkb.cell 5
      have z6 := hkb.cell 6
      have z7 := hkb.cell 7
      have z8 := hkb.cell 8
      have HC := Lib.hid HC
      have HT := Lib.hid htk
      rw [hm0]
      have y1 : (k : Int) < n := by omega
      have y2 : max (m0 : Int) (m1 : Int) = ((max m0 m1 : Nat) : Int) := by omega
      clear htk hm0 hm1 ho' hkk hok hdd hba hn2
      go_wp2_with fail
      refine HC.out.mono ?_
      rintro e w2 ⟨rfl, hb2⟩
      have hb3 := hba2.trans (hb2.mono hba2.size)
      clear hb2 HC hkb k0 k1 k2 k3 k4 k5 k6 k7 k8 z0 z1 z2 z3 z4 z5 z6 z7 z8
      go_wp2_with fail
      go_roundw
      case rel => exact ⟨k + 1, by omega, by go_num, by first | (rw [HT.out]; done) | (rw [HT.out]; exact congrArg (Value.int .i64) (by omega)), hb3⟩
      case measure => simp [intOf]; omega
    · obtain rfl : k = n := by omega
      have y1 : ¬ (k : Int) < k := by omega
      have hf : l.take k = l := by rw [← hn, List.take_length]
      rw [hf]
      clear hn hf
      go_wp2_with fail
      go_ret
      exact ⟨by go_num, hbw⟩
end Go.Proofs.YtfckekaegjjmkaaGreatDoor
