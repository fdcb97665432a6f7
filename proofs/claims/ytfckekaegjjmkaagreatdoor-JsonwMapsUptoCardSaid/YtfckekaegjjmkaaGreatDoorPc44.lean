/- The texts RtA, put together. -/
import Derived.Test.YtfckekaegjjmkaaGreatDoorPc04
import Derived.Test.YtfckekaegjjmkaaGreatDoorPc11
namespace Go.Proofs.YtfckekaegjjmkaaGreatDoor
open Go.RowKit Go.Shelf

set_option maxHeartbeats 2000000 in
set_option maxRecDepth 100000 in
theorem ref_Depth (d : Nat) : ∀ (t : Tr) (x : Value) (w : World) (B : Nat), ListAt w B d t.kids x → B ≤ w.heap.size → t.count ≤ 1000000000000 →
    Calls Tryz.prog 19 #[nodeV t.own x] w fun e w' => e = .returned (.int .i64 (t.depth : Nat)) ∧ Below w.heap.size w w' := by
  induction d using Nat.strongRecOn with
  | _ d ih =>
  intro t x w B hl hB hc
  obtain ⟨hlen, A, c, rfl⟩ := hl.slice
  have hdc := depth_count t
  rw [Tr.depth_eq] at hdc ⊢
  have hkc : ∀ l, t.kids = l → ∀ k (h : k < l.length), l[k].count ≤ 1000000000000 := by
    rintro _ rfl k h
    have := Tr.count_eq t
    have h1 := countL_take t.kids k h
    have h2 := countL_mono t.kids (k + 1)
    omega
  obtain ⟨l, hkl⟩ : ∃ l, t.kids = l := ⟨_, rfl⟩
  have hkc := hkc l hkl
  rw [hkl] at hl hlen hdc ⊢
  obtain ⟨n, hn⟩ : ∃ n, l.length = n := ⟨_, rfl⟩
  rw [hn] at hl hlen ⊢
  obtain ⟨⟨kind, b, neg, dg, ex, u, wd, s⟩, ho⟩ : ∃ o, t.own = o := ⟨_, rfl⟩
  rw [ho]
  unfold nodeV
  have HL := Lib.hid hl
  have IH := Lib.hid ih
  have HKC := Lib.hid hkc
  have hbx := (Below.refl w.heap.size w).alloc (Nat.le_refl _) (.cells #[.int .i64 kind, .bool b, .bool neg, .string dg, .int .i64 ex, .int .u64 u, .int .i64 wd, .string s, .slice A n c] 27)
  have hBx : Blk (w.alloc (.cells #[.int .i64 kind, .bool b, .bool neg, .string dg, .int .i64 ex, .int .u64 u, .int .i64 wd, .string s, .slice A n c] 27)) w.heap.size #[.int .i64 kind, .bool b, .bool neg, .string dg, .int .i64 ex, .int .u64 u, .int .i64 wd, .string s, .slice A n c] 27 := Blk.new _ _ _
  have hd2 : depthL l + 1 ≤ 1000000000000 := by omega
  clear hl ih ho hkl hkc hdc hc
  simp only []
  go_enter Tryz.func19, Tryz.ntmps19
  go_wp2_with fail
  go_loopw [3, 4] (fun m i wr => ∃ k : Nat, k ≤ n ∧ i = .int .i64 k ∧ m = .int .i64 ((depthL (l.take k) : Nat) : Int) ∧ Below w.heap.size w wr ∧ Blk wr w.heap.size #[.int .i64 kind, .bool b, .bool neg, .string dg, .int .i64 ex, .int .u64 u, .int .i64 wd, .string s, .slice A n c] 27) (fun _ i _ => n - (intOf i).toNat)
  case atStart => exact ⟨0, by omega, rfl, rfl, hbx, hBx⟩
  case round =>
    obtain ⟨k, hk, rfl, rfl, hbw, hbk⟩ := hrel
    have hfl : wr.cell? ⟨w.heap.size, 8, none⟩ = some (.slice A n c) := hbk.cell 8
    by_cases hlt : k < n
    · have hkl : k < l.length := by omega
      obtain ⟨d', ad, x', hdd, rfl, hab, hok, hna, hkk⟩ := (HL.out.below hbw hB).at_ hkl
      have htk := depthL_take l k hkl
      have HC := IH.out d' (by omega) l[k] x' wr B hkk (Nat.le_trans hB hbw.size) (HKC.out k hkl)
      obtain ⟨m0, hm0⟩ : ∃ m0, depthL (l.take k) = m0 := ⟨_, rfl⟩
      obtain ⟨m1, hm1⟩ : ∃ m1, l[k].depth = m1 := ⟨_, rfl⟩
      rw [hm0, hm1] at htk
      rw [hm1] at HC
      obtain ⟨⟨kind', b', neg', dg', ex', u', wd', s'⟩, ho'⟩ : ∃ o, l[k].own = o := ⟨_, rfl⟩
      rw [ho'] at HC hna
      unfold nodeV at HC
      obtain ⟨k0, k1, k2, k3, k4, k5, k6, k7, k8⟩ := hna
      simp only [] at k0 k1 k2 k3 k4 k5 k6 k7 k8 HC
      have HC := Lib.hid HC
      have HT := Lib.hid htk
      rw [hm0]
      have y1 : (k : Int) < n := by omega
      have y2 : max (m0 : Int) (m1 : Int) = ((max m0 m1 : Nat) : Int) := by omega
      clear htk hm0 hm1 ho' hkk hok hdd
      go_wp2_with fail
      refine HC.out.mono ?_
      rintro e w2 ⟨rfl, hb2⟩
      have hb3 := hbw.trans (hb2.mono hbw.size)
      have hbk2 := hbk.below hb2 hbk.lt
      clear hb2 HC hbk k0 k1 k2 k3 k4 k5 k6 k7 k8 hfl
      go_wp2_with fail
      go_roundw
      case rel => exact ⟨k + 1, by omega, by go_num, by first | (rw [HT.out]; done) | (rw [HT.out]; exact congrArg (Value.int .i64) (by omega)), hb3, hbk2⟩
      case measure => simp [intOf]; omega
    · obtain rfl : k = n := by omega
      have y1 : ¬ (k : Int) < k := by omega
      have hf : l.take k = l := by rw [← hn, List.take_length]
      rw [hf]
      clear hn hf
      go_wp2_with fail
      go_ret
      exact ⟨by go_num, hbw⟩

end Go.Proofs.YtfckekaegjjmkaaGreatDoor
