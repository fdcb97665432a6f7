/- path: digits. -/
import Derived.Test.YtgfeeakcpojicaaGreatDoorPathB
namespace Go.Proofs.YtgfeeakcpojicaaGreatDoor
open Go.RowKit Go.Shelf

def isDig (b : UInt8) : Bool := decide (48 ≤ b.toNat) && decide (b.toNat ≤ 57)
def digN (l : List UInt8) : Nat := (l.takeWhile isDig).length
theorem digN_cons_yes {b : UInt8} {l : List UInt8} (h : isDig b = true) : digN (b :: l) = digN l + 1 := by
  unfold digN
  rw [List.takeWhile_cons_of_pos h]
  rfl
theorem digN_cons_no {b : UInt8} {l : List UInt8} (h : isDig b = false) : digN (b :: l) = 0 := by
  unfold digN
  rw [List.takeWhile_cons_of_neg (by rw [h]; decide)]
  rfl
theorem decodeL_high {b : UInt8} (t : List UInt8) (h : 128 ≤ b.toNat) : 128 ≤ (Lib.decodeL (b :: t)).1 := by
  rw [Lib.decodeL_N]
  have hb : ((b :: t).getD 0 0).toNat = b.toNat := rfl
  rw [hb]
  generalize (b :: t).length = n
  generalize (UInt8.toNat ((b :: t).getD 1 0)) = b1
  generalize (UInt8.toNat ((b :: t).getD 2 0)) = b2
  generalize (UInt8.toNat ((b :: t).getD 3 0)) = b3
  unfold Lib.decodeN
  rw [if_neg (by omega)]
  repeat' split
  all_goals (simp only; omega)
theorem rune_digit (b : UInt8) (t : List UInt8) (h : isDig b = true) : Lib.decodeL (b :: t) = (b.toNat, 1) ∧ 48 ≤ b.toNat ∧ b.toNat ≤ 57 := by
  unfold isDig at h
  rw [Bool.and_eq_true, decide_eq_true_iff, decide_eq_true_iff] at h
  exact ⟨Lib.decodeL_ascii b t (by omega), h⟩
theorem rune_other (b : UInt8) (t : List UInt8) (h : isDig b = false) : (Lib.decodeL (b :: t)).1 < 48 ∨ 57 < (Lib.decodeL (b :: t)).1 := by
  unfold isDig at h
  rw [Bool.and_eq_false_iff, decide_eq_false_iff_not, decide_eq_false_iff_not] at h
  by_cases hb : b.toNat < 128
  · rw [Lib.decodeL_ascii b t hb]
    simp only
    omega
  · have := decodeL_high t (by omega : 128 ≤ b.toNat)
    omega

set_option maxHeartbeats 2000000 in
set_option maxRecDepth 100000 in
theorem path_digits (s : ByteArray) (hs : s.size ≤ 1000000000) (w : World) :
    Calls Tryz.prog 56 #[.string s] w fun e w' => e = .returned (.int .i64 (digN s.data.toList : Nat)) ∧ Below w.heap.size w w' := by
  go_enter Tryz.func56, Tryz.ntmps56
  go_wp2_with fail
  go_loopw [3] (fun v wr => ∃ k : Nat, k ≤ s.size ∧ v = .int .i64 k ∧ wr.heap[w.heap.size]? = some (.stringIter s k) ∧ Below w.heap.size w wr ∧ Hid (digN s.data.toList = k + digN (s.data.toList.drop k))) (fun _ wr => s.size - wr.iterPos w.heap.size)
  case atStart => exact ⟨0, by omega, rfl, World.iter_heap w s 0, (Below.refl _ w).alloc (Nat.le_refl _) _, Lib.hid (by rw [List.drop_zero, Nat.zero_add])⟩
  case round =>
    obtain ⟨k, hk, rfl, hit, hbw, hd⟩ := hrel
    have hsz : w.heap.size < wr.heap.size := (Array.getElem?_eq_some_iff.1 hit).1
    have hlen : s.data.toList.length = s.size := by simp
    by_cases hp : k < s.size
    · have hnx : ∀ ty, (Instr.next (.pointer (some ⟨w.heap.size, 0, none⟩)) true ty).run Tryz.prog wr = _ := fun ty => Lib.run_next_any_at wr w.heap.size s k ty hit hp
      have hdl := Lib.decodeL_drop s k
      rw [← hdl] at hnx
      have hdr := List.drop_eq_getElem_cons (l := s.data.toList) (i := k) (by rw [hlen]; exact hp)
      obtain ⟨b, hb⟩ : ∃ b, s.data.toList[k]'(by rw [hlen]; exact hp) = b := ⟨_, rfl⟩
      rw [hb] at hdr
      rw [hdr] at hnx hd
      have hit2 := Lib.iterAt_heap wr w.heap.size s k (k + (Lib.decodeL (b :: s.data.toList.drop (k + 1))).2) hit
      have hbw2 := Lib.below_iterAt hbw (k := w.heap.size) (Nat.le_refl _) s (k + (Lib.decodeL (b :: s.data.toList.drop (k + 1))).2)
      cases hg : isDig b with
      | true =>
        obtain ⟨h1, h2, h3⟩ := rune_digit b (s.data.toList.drop (k + 1)) hg
        have hd2 := hd.out
        rw [digN_cons_yes hg] at hd2
        have hd3 : digN s.data.toList = (k + 1) + digN (s.data.toList.drop (k + 1)) := by omega
        have HD := Lib.hid hd3
        rw [h1] at hnx hit2 hbw2
        simp only [] at hnx hit2 hbw2
        obtain ⟨c, hc⟩ : ∃ c, b.toNat = c := ⟨_, rfl⟩
        rw [hc] at hnx h2 h3
        have z1 : (48 : Int) ≤ c := by omega
        have z2 : (c : Int) ≤ 57 := by omega
        have z3 : (k : Int) < s.size := by omega
        clear hdl hdr hb hg h1 hd hd2 hd3 hc h2 h3 hlen
        generalize wr.iterAt w.heap.size s (k + 1) = W at hnx hit2 hbw2
        go_wp2_with fail
        go_roundw
        case rel => exact ⟨k + 1, by omega, by go_num, hit2, hbw2, HD⟩
        case measure =>
          simp only [World.iterPos, hit2, hit]
          omega
      | false =>
        have hr := rune_other b (s.data.toList.drop (k + 1)) hg
        have hd2 := hd.out
        rw [digN_cons_no hg, Nat.add_zero] at hd2
        have HD := Lib.hid hd2
        obtain ⟨⟨c, wd⟩, hck⟩ : ∃ ck, Lib.decodeL (b :: s.data.toList.drop (k + 1)) = ck := ⟨_, rfl⟩
        rw [hck] at hnx hit2 hbw2 hr
        simp only [] at hnx hit2 hbw2 hr
        clear hdl hdr hb hg hd hd2 hck hlen hit
        generalize wr.iterAt w.heap.size s (k + wd) = W at hnx hit2 hbw2
        rcases hr with hr | hr
        · have z1 : (c : Int) < 48 := by omega
          clear hr
          go_wp2_with fail
          go_ret
          exact ⟨by rw [HD.out]; rfl, hbw2⟩
        · have z1 : (48 : Int) ≤ c := by omega
          have z2 : (57 : Int) < c := by omega
          clear hr
          go_wp2_with fail
          go_ret
          exact ⟨by rw [HD.out]; rfl, hbw2⟩
    · have hnx : ∀ ty, (Instr.next (.pointer (some ⟨w.heap.size, 0, none⟩)) true ty).run Tryz.prog wr = _ := fun ty => Lib.run_next_end_at wr w.heap.size s k ty hit hp
      have hd2 := hd.out
      rw [List.drop_eq_nil_of_le (by rw [hlen]; omega)] at hd2
      have HD := Lib.hid (show digN s.data.toList = k from hd2)
      clear hd hd2 hlen
      go_wp2_with fail
      go_ret
      exact ⟨by rw [HD.out]; rfl, hbw⟩
end Go.Proofs.YtgfeeakcpojicaaGreatDoor
