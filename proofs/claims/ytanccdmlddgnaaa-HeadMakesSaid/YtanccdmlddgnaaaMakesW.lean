/- targumref10.Read in plain words; the walk of the law HeadMakes. -/
import Derived.Test.YtanccdmlddgnaaaHeadH
import Derived.Test.YtanccdmlddgnaaaMoreW
namespace Go.Proofs.Ytanccdmlddgnaaa
open Go.RowKit Go.Shelf

theorem ref_Read_nil (w : World) :
    Calls Try.prog 17 #[.string ⟨#[]⟩] w fun e w' => e = .returned (.tuple #[.int .i64 0, .int .i64 0, .int .u64 0, .string ⟨#[]⟩, .int .i64 100]) ∧ Below w.heap.size w w' := by
  go_enter Try.func17, Try.ntmps17
  go_wp2_with fail
  refine bodyPost_ret (v := .tuple #[.int .i64 0, .int .i64 0, .int .u64 0, .string ⟨#[]⟩, .int .i64 100]) (by simp [results, Try.results17, go_sem]) rfl ⟨rfl, Below.refl _ _⟩

theorem ref_Read (s : ByteArray) (hs : s.size ≤ 9223372036854775807) (w : World) :
    Calls Try.prog 17 #[.string s] w fun e w' => e = .returned (readV (readL s.data.toList)) ∧ Below w.heap.size w w' := by
  by_cases h0 : 0 < s.size
  · obtain ⟨b, r, hl⟩ : ∃ b r, s.data.toList = b :: r := by
      cases h : s.data.toList with
      | nil =>
        have : s.data.toList.length = s.size := by simp
        rw [h] at this
        simp at this
        omega
      | cons b r => exact ⟨b, r, rfl⟩
    have hlen : s.size = r.length + 1 := by
      have : s.data.toList.length = s.size := by simp
      rw [hl] at this
      simpa using this.symm
    have hb0 : s[0] = b := by
      have : s.data.toList[0]? = some b := by rw [hl]; rfl
      rw [ByteArray.getElem_eq_getElem_data]
      have h2 : s.data[0]? = some b := by simpa using this
      exact (Array.getElem?_eq_some_iff.1 h2).2
    have hb : (s[0].toNat : Int) % 32 = ((b.toNat % 32 : Nat) : Int) := by rw [hb0]; omega
    have hm : (s[0].toNat : Int) / 32 = ((b.toNat / 32 : Nat) : Int) := by rw [hb0]; omega
    have hb256 := b.toNat_lt
    have hne : s.toList.isEmpty = false := by
      rw [ByteArray.toList_eq, hl]
      rfl
    have e1 : s.extract 1 s.size = ⟨r.toArray⟩ := by rw [str_from, hl]; rfl
    have es : (⟨(b :: r).toArray⟩ : ByteArray) = s := by rw [← hl]
    rw [hl, readL_cons]
    refine (ref_Read_pos s h0 hs _ _ hb hm (by omega) hne w).mono fun e w' h => ?_
    obtain ⟨h | h | h | h | h, hw⟩ := h
    · obtain ⟨c1, rfl⟩ := h
      rw [if_pos c1, e1]
      exact ⟨rfl, hw⟩
    · obtain ⟨c1, rfl⟩ := h
      rw [if_neg (by omega), if_pos c1, e1, c1]
      exact ⟨rfl, hw⟩
    · obtain ⟨c1, c2, rfl⟩ := h
      rw [if_neg (by omega), if_neg c2, if_pos c1]
      refine ⟨?_, hw⟩
      unfold readV
      rw [es]
      rfl
    · obtain ⟨c1, c2, c3, rfl⟩ := h
      unfold pw at c3
      rw [if_neg (by omega), if_neg (by omega), if_neg (by omega), if_pos (by omega)]
      refine ⟨?_, hw⟩
      unfold readV
      rw [es]
      rfl
    · obtain ⟨c1, c2, c3, rfl⟩ := h
      unfold pw at c3 ⊢
      rw [if_neg (by omega), if_neg (by omega), if_neg (by omega), if_neg (by omega)]
      refine ⟨?_, hw⟩
      have e2 : s.extract (2 ^ (b.toNat % 32 - 24) + 1) s.size = ⟨(r.drop (2 ^ (b.toNat % 32 - 24))).toArray⟩ := by
        rw [str_from, hl]; rfl
      have e3 : argOf s (2 ^ (b.toNat % 32 - 24)) = beVal (r.take (2 ^ (b.toNat % 32 - 24))) := by
        unfold argOf
        rw [hl]
        rfl
      rw [e2, e3]
      rfl
  · have h1 : s = ⟨#[]⟩ := by
      apply ByteArray.ext
      apply Array.eq_empty_of_size_eq_zero
      have : s.data.size = s.size := rfl
      omega
    subst h1
    exact ref_Read_nil w

set_option maxRecDepth 100000 in
set_option maxHeartbeats 2000000 in
theorem makes_walk (maj n : Int) (s : ByteArray) (info : Int) (_w0 : (Lit.int .i64 maj).wf = true) (w1 : (Lit.int .u64 n).wf = true) (_w2 : s.size ≤ maxLen) (w3 : (Lit.int .i64 info).wf = true) (w : World) :
    Calls Try.prog 8 #[.int .i64 maj, .int .u64 n, .string s, .int .i64 info] w fun e w' => e = .returned (.bool true) ∧ Below w.heap.size w w' := by
  have hn := wf_u64 w1
  clear w1
  obtain ⟨N, rfl⟩ := Int.eq_ofNat_of_zero_le hn.1
  have HC := cut_40 s
  obtain ⟨c, hc⟩ : ∃ c, (⟨(s.data.toList.take 40).toArray⟩ : ByteArray) = c := ⟨_, rfl⟩
  have hcz : c.size ≤ 40 := by rw [← hc]; show (s.data.toList.take 40).toArray.size ≤ 40; simp; omega
  rw [hc] at HC
  clear hc
  have HC := Lib.hid HC
  have HR := head_Read c (by omega)
  have HQ := ref_Read c (by omega)
  unfold readV at HR HQ
  generalize readL c.data.toList = r at *
  obtain ⟨rm, ri, ra, rr, re⟩ := r
  have HR := Lib.hid HR
  have HQ := Lib.hid HQ
  have HZ := Lib.hid (head_Size N (by omega))
  have HY := Lib.hid (ref_Size N)
  have HS := Lib.hid (head_IsShort info N (by omega) (by omega))
  have HT := Lib.hid (ref_IsShort info N w3)
  have HM : ∃ (a : ByteArray) (e : Int), (∀ w, Calls Try.prog 11 #[.int .i64 maj, .int .u64 N] w fun x w' => x = .returned (.tuple #[.string a, .int .i64 e]) ∧ Below w.heap.size w w') ∧
      (∀ w, Calls Try.prog 16 #[.int .i64 maj, .int .u64 N] w fun x w' => x = .returned (.tuple #[.string a, .int .i64 e]) ∧ Below w.heap.size w w') := by
    by_cases hmaj : 0 ≤ maj ∧ maj ≤ 7
    · obtain ⟨M, rfl⟩ := Int.eq_ofNat_of_zero_le hmaj.1
      exact ⟨_, _, head_Make M N (by omega) (by omega), ref_Make M N (by omega) (by omega)⟩
    · refine ⟨⟨#[]⟩, 2, fun w => (head_Make_no maj N (by omega) w).mono ?_, fun w => (ref_Make_no maj N (by omega) w).mono ?_⟩
      · rintro e w' ⟨rfl, rfl⟩; exact ⟨rfl, Below.refl _ _⟩
      · rintro e w' ⟨rfl, rfl⟩; exact ⟨rfl, Below.refl _ _⟩
  obtain ⟨a, ea, HM1, HM2⟩ := HM
  have HM1 := Lib.hid HM1
  have HM2 := Lib.hid HM2
  go_enter Try.func8, Try.ntmps8
  go_wp2_with fail
  refine (shown_true _).mono ?_
  rintro e w1 ⟨rfl, hb1⟩
  go_wp2_with fail
  refine (HM1.out _).mono ?_
  rintro e w2 ⟨rfl, hb2⟩
  go_wp2_with fail
  refine (HM2.out _).mono ?_
  rintro e w3 ⟨rfl, hb3⟩
  go_wp2_with fail
  refine (HC.out _).mono ?_
  rintro e w4 ⟨rfl, rfl⟩
  go_wp2_with fail
  refine (HR.out _).mono ?_
  rintro e w4 ⟨rfl, hb4⟩
  go_wp2_with fail
  refine (HC.out _).mono ?_
  rintro e w5 ⟨rfl, rfl⟩
  go_wp2_with fail
  refine (HQ.out _).mono ?_
  rintro e w5 ⟨rfl, hb5⟩
  go_wp2_with fail
  refine (HZ.out _).mono ?_
  rintro e w6 ⟨rfl, hb6⟩
  go_wp2_with fail
  refine (HY.out _).mono ?_
  rintro e w7 ⟨rfl, rfl⟩
  go_wp2_with fail
  refine (HS.out _).mono ?_
  rintro e w7 ⟨rfl, hb7⟩
  go_wp2_with fail
  refine (HT.out _).mono ?_
  rintro e w8 ⟨rfl, rfl⟩
  go_wp2_with fail
  go_ret
  have z2 := Nat.le_trans hb1.size hb2.size
  have z3 := Nat.le_trans z2 hb3.size
  have z4 := Nat.le_trans z3 hb4.size
  have z5 := Nat.le_trans z4 hb5.size
  have z6 := Nat.le_trans z5 hb6.size
  exact ⟨rfl, (((((hb1.trans (hb2.mono hb1.size)).trans (hb3.mono z2)).trans (hb4.mono z3)).trans (hb5.mono z4)).trans (hb6.mono z5)).trans (hb7.mono z6)⟩
end Go.Proofs.Ytanccdmlddgnaaa
