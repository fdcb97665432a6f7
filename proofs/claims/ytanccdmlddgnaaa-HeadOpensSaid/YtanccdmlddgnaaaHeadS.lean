/- head.Read in plain words; shown, cut. -/
import Derived.Test.YtanccdmlddgnaaaHeadR
import Derived.Lib.Strings
import Derived.Outline
namespace Go.Proofs.Ytanccdmlddgnaaa
open Go.RowKit Go.Shelf

theorem str_eq (s : ByteArray) : s = ⟨s.data.toList.toArray⟩ := by
  apply ByteArray.ext
  simp
theorem str_extract (s : ByteArray) (a b : Nat) : s.extract a b = ⟨((s.data.toList.drop a).take (b - a)).toArray⟩ := by
  apply ByteArray.ext
  apply Array.toList_inj.1
  rw [Lib.extract_data]
theorem str_from (s : ByteArray) (a : Nat) : s.extract a s.size = ⟨(s.data.toList.drop a).toArray⟩ := by
  rw [str_extract]
  congr 2
  exact List.take_of_length_le (by simp)

theorem readL_cons (b : UInt8) (r : List UInt8) : readL (b :: r) =
    if b.toNat % 32 < 24 then ⟨b.toNat / 32, b.toNat % 32, b.toNat % 32, r, 0⟩
    else if b.toNat % 32 = 31 then ⟨b.toNat / 32, 31, 0, r, 0⟩
    else if 27 < b.toNat % 32 then ⟨0, 0, 0, b :: r, 101⟩
    else if r.length < 2 ^ (b.toNat % 32 - 24) then ⟨0, 0, 0, b :: r, 100⟩
    else ⟨b.toNat / 32, b.toNat % 32, beVal (r.take (2 ^ (b.toNat % 32 - 24))), r.drop (2 ^ (b.toNat % 32 - 24)), 0⟩ := rfl

theorem head_Read (s : ByteArray) (hs : s.size ≤ 9223372036854775807) (w : World) :
    Calls Try.prog 12 #[.string s] w fun e w' => e = .returned (readV (readL s.data.toList)) ∧ Below w.heap.size w w' := by
  by_cases h0 : 0 < s.size
  · obtain ⟨b, r, hl⟩ : ∃ b r, s.data.toList = b :: r := by
      cases h : s.data.toList with
      | nil =>
        have : s.data.toList.length = s.size := by simp
        rw [h] at this
        simp at this
        omega
      | cons b r => exact ⟨b, r, rfl⟩
    have hlen : s.size = r.length + 1 := by
      have : s.data.toList.length = s.size := by simp
      rw [hl] at this
      simpa using this.symm
    have hb0 : s[0] = b := by
      have : s.data.toList[0]? = some b := by rw [hl]; rfl
      rw [ByteArray.getElem_eq_getElem_data]
      have h2 : s.data[0]? = some b := by simpa using this
      exact (Array.getElem?_eq_some_iff.1 h2).2
    have hb : bits BinOp.and IntKind.u8 (s[0].toNat : Int) 31 = ((b.toNat % 32 : Nat) : Int) := by rw [hb0]; exact bits_info b
    have hm : (s[0].toNat : Int) / 32 = ((b.toNat / 32 : Nat) : Int) := by rw [hb0]; omega
    have hb256 := b.toNat_lt
    have hmaj : b.toNat / 32 ≤ 7 := by omega
    have hne : s.toList.isEmpty = false := by
      rw [ByteArray.toList_eq, hl]
      rfl
    have e1 : s.extract 1 s.size = ⟨r.toArray⟩ := by rw [str_from, hl]; rfl
    rw [hl, readL_cons]
    by_cases c1 : b.toNat % 32 < 24
    · refine (head_Read_small s h0 hs _ _ hb hm hmaj c1 hne w).mono fun e w' h => ?_
      rw [if_pos c1]
      rw [e1] at h
      exact h
    · rw [if_neg c1]
      by_cases c2 : b.toNat % 32 = 31
      · rw [c2] at hb
        refine (head_Read_open s h0 hs _ hb hm hmaj hne w).mono fun e w' h => ?_
        rw [if_pos c2]
        rw [e1] at h
        exact h
      · rw [if_neg c2]
        refine (head_Read_long s h0 hs _ _ hb hm hmaj (by omega) (by omega) hne w).mono fun e w' h => ?_
        have es : (⟨(b :: r).toArray⟩ : ByteArray) = s := by rw [← hl]
        obtain ⟨h | h | h, hw⟩ := h
        · obtain ⟨h27, hsz, rfl⟩ := h
          rw [if_neg (by omega), if_neg (by omega)]
          refine ⟨?_, hw⟩
          have e2 : (s.extract 1 s.size).extract (2 ^ (b.toNat % 32 - 24)) (s.size - 1) = ⟨(r.drop (2 ^ (b.toNat % 32 - 24))).toArray⟩ := by
            rw [e1, str_extract]
            congr 2
            exact List.take_of_length_le (by simp; omega)
          rw [e2]
          have e3 : argOf s (2 ^ (b.toNat % 32 - 24)) = beVal (r.take (2 ^ (b.toNat % 32 - 24))) := by
            unfold argOf
            rw [hl]
            rfl
          rw [e3]
          rfl
        · obtain ⟨rfl, h27, hsz⟩ := h
          refine ⟨?_, hw⟩
          rw [if_neg (by omega), if_pos (by omega)]
          unfold readV
          rw [es]
          rfl
        · obtain ⟨rfl, h27⟩ := h
          rw [if_pos h27]
          refine ⟨?_, hw⟩
          unfold readV
          rw [es]
          rfl
  · have h1 : s = ⟨#[]⟩ := by
      apply ByteArray.ext
      apply Array.eq_empty_of_size_eq_zero
      have : s.data.size = s.size := rfl
      omega
    subst h1
    exact head_Read_nil w

theorem shown_true (w : World) : Calls Try.prog 10 #[] w fun e w' => e = .returned (.bool true) ∧ Below w.heap.size w w' := by
  have m1 : (⟨(makeL 1 500).toArray⟩ : ByteArray) = ⟨#[57, 1, 244]⟩ := by decide +kernel
  have r1 : readV (readL [88, 24, 120]) = .tuple #[.int .i64 2, .int .i64 24, .int .u64 24, .string ⟨#[120]⟩, .int .i64 0] := rfl
  have r2 : readV (readL [28]) = .tuple #[.int .i64 0, .int .i64 0, .int .u64 0, .string ⟨#[28]⟩, .int .i64 101] := rfl
  have M := head_Make 1 500 (by decide) (by decide)
  have R1 := head_Read ⟨#[88, 24, 120]⟩ (by decide)
  have R2 := head_Read ⟨#[28]⟩ (by decide)
  rw [m1] at M
  rw [r1] at R1
  rw [r2] at R2
  have HM := Lib.hid M
  have HR1 := Lib.hid R1
  have HR2 := Lib.hid R2
  clear M R1 R2 m1 r1 r2
  go_enter Try.func10, Try.ntmps10
  go_wp2_with fail
  refine (HM.out _).mono ?_
  rintro e w1 ⟨rfl, hb1⟩
  go_wp2_with fail
  refine (HR1.out _).mono ?_
  rintro e w2 ⟨rfl, hb2⟩
  go_wp2_with fail
  refine (HR2.out _).mono ?_
  rintro e w3 ⟨rfl, hb3⟩
  have hb := (hb1.trans (hb2.mono hb1.size)).trans (hb3.mono (Nat.le_trans hb1.size hb2.size))
  go_wp2_with fail
  go_ret
  exact ⟨rfl, hb⟩

theorem cut_40 (s : ByteArray) (w : World) : Calls Try.prog 13 #[.string s] w fun e w' => e = .returned (.string ⟨(s.data.toList.take 40).toArray⟩) ∧ w = w' := by
  have hlen : s.data.toList.length = s.size := by simp
  by_cases h : 40 < s.size
  · have h1 := Lib.hid (str_extract s 0 40)
    go_enter Try.func13, Try.ntmps13
    go_wp2
    go_ret
    exact ⟨congrArg (fun x => Ending.returned (.string x)) h1.out, rfl⟩
  · have h1 := Lib.hid (show s = ⟨(s.data.toList.take 40).toArray⟩ by rw [List.take_of_length_le (by omega)])
    go_enter Try.func13, Try.ntmps13
    go_wp2
    go_ret
    exact ⟨congrArg (fun x => Ending.returned (.string x)) h1.out, rfl⟩
end Go.Proofs.Ytanccdmlddgnaaa
