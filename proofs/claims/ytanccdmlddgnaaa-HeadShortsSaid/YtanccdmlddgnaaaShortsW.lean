/- The walk of the law HeadShorts. -/
import Derived.Test.YtanccdmlddgnaaaMoreW
namespace Go.Proofs.Ytanccdmlddgnaaa
open Go.RowKit Go.Shelf

theorem firstByte_of (b : UInt8) : firstByte (b.toNat / 32) (b.toNat % 32) = b := by
  apply UInt8.toNat_inj.1
  have := b.toNat_lt
  rw [firstByte_toNat _ _ (by omega) (by omega)]
  omega

theorem readL_wrong (l : List UInt8) (h : (readL l).err ≠ 0) : (readL l).rest = l := by
  cases l with
  | nil => rfl
  | cons b t =>
    unfold readL at h ⊢
    simp only [] at h ⊢
    split at h <;> rename_i h1
    · exact absurd rfl h
    · rw [if_neg h1]
      split at h <;> rename_i h2
      · exact absurd rfl h
      · rw [if_neg h2]
        split at h <;> rename_i h3
        · rw [if_pos h3]
        · rw [if_neg h3]
          split at h <;> rename_i h4
          · rw [if_pos h4]
          · exact absurd rfl h

/-- What a head that is read comes of. -/
def Shorts (l : List UInt8) (r : ReadR) : Prop :=
  r.maj ≤ 7 ∧ r.arg < 18446744073709551616 ∧ ∃ own, l = own ++ r.rest ∧ (own = makeL r.maj r.arg ↔ (leastN r.arg).1 = r.info) ∧ (makeL r.maj r.arg).length ≤ own.length

theorem readL_shorts (l : List UInt8) (h : (readL l).err = 0) (hi : (readL l).info ≠ 31) : Shorts l (readL l) := by
  cases l with
  | nil => cases h
  | cons b t =>
    have hb := b.toNat_lt
    rw [show readL (b :: t) = if b.toNat % 32 < 24 then ⟨b.toNat / 32, b.toNat % 32, b.toNat % 32, t, 0⟩
      else if b.toNat % 32 = 31 then ⟨b.toNat / 32, 31, 0, t, 0⟩
      else if 27 < b.toNat % 32 then ⟨0, 0, 0, b :: t, 101⟩
      else if t.length < 2 ^ (b.toNat % 32 - 24) then ⟨0, 0, 0, b :: t, 100⟩
      else ⟨b.toNat / 32, b.toNat % 32, beVal (t.take (2 ^ (b.toNat % 32 - 24))), t.drop (2 ^ (b.toNat % 32 - 24)), 0⟩ from rfl] at h hi ⊢
    split at h <;> rename_i h1
    · rw [if_pos h1]
      refine ⟨by simp only []; omega, by simp only []; omega, [b], rfl, ?_, ?_⟩
      · simp only [leastN_small _ h1, iff_true]
        unfold makeL
        rw [leastN_small _ h1]
        simp only []
        rw [firstByte_of]
        rfl
      · rw [makeL_length, leastN_small _ h1]; simp
    · rw [if_neg h1] at hi ⊢
      split at h <;> rename_i h2
      · rw [if_pos h2] at hi; exact absurd rfl hi
      · rw [if_neg h2]
        split at h <;> rename_i h3
        · cases h
        · rw [if_neg h3]
          split at h <;> rename_i h4
          · cases h
          · rw [if_neg h4]
            generalize hI : b.toNat % 32 = I at *
            have hI27 : I ≤ 27 := by omega
            have hI24 : 24 ≤ I := by omega
            have hl : (t.take (2 ^ (I - 24))).length = 2 ^ (I - 24) := by rw [List.length_take]; omega
            have hv := beVal_lt (t.take (2 ^ (I - 24)))
            have hbb := beBytes_beVal (t.take (2 ^ (I - 24)))
            rw [hl] at hv hbb
            have hk8 : 2 ^ (I - 24) ≤ 8 := Nat.le_trans (Nat.pow_le_pow_right (by decide) (show I - 24 ≤ 3 by omega)) (by decide)
            have h64 : beVal (t.take (2 ^ (I - 24))) < 18446744073709551616 := Nat.lt_of_lt_of_le hv (Nat.le_trans (Nat.pow_le_pow_right (by decide) (show 8 * 2 ^ (I - 24) ≤ 64 by omega)) (by decide))
            have hL := leastN_is _ h64
            have hml := makeL_length (b.toNat / 32) (beVal (t.take (2 ^ (I - 24))))
            refine ⟨by simp only []; omega, h64, b :: t.take (2 ^ (I - 24)), by simp, ?_, ?_⟩
            · show b :: t.take (2 ^ (I - 24)) = makeL (b.toNat / 32) (beVal (t.take (2 ^ (I - 24)))) ↔ (leastN (beVal (t.take (2 ^ (I - 24))))).1 = I
              unfold makeL
              constructor
              · intro e
                have e1 := (List.cons.inj e).1
                have e2 := congrArg UInt8.toNat e1
                rw [firstByte_toNat _ _ (by omega) (by rcases hL with h | h <;> omega)] at e2
                omega
              · intro e
                rcases hL with ⟨g1, g2, g3⟩ | ⟨g1, g2, g3, g4, _⟩
                · omega
                · rw [g4, e, hbb, ← hI, firstByte_of]
            · show (makeL (b.toNat / 32) (beVal (t.take (2 ^ (I - 24))))).length ≤ (b :: t.take (2 ^ (I - 24))).length
              rw [hml, List.length_cons, hl]
              rcases hL with ⟨g1, g2, g3⟩ | ⟨g1, g2, g3, g4, g5, g6⟩
              · omega
              · rw [g4]
                rcases g6 with g6 | g6
                · rw [g6]
                  have : 1 ≤ 2 ^ (I - 24) := Nat.one_le_two_pow
                  omega
                · have h1 := Nat.lt_of_le_of_lt g6 hv
                  have h2 := (Nat.pow_lt_pow_iff_right (by decide : 1 < 2)).1 h1
                  have h3 : 2 ^ ((leastN (beVal (t.take (2 ^ (I - 24))))).1 - 25) < 2 ^ (I - 24) := by omega
                  have h4 := (Nat.pow_lt_pow_iff_right (by decide : 1 < 2)).1 h3
                  have := Nat.pow_le_pow_right (show 0 < 2 by decide) (show (leastN (beVal (t.take (2 ^ (I - 24))))).1 - 24 ≤ I - 24 by omega)
                  omega

theorem readV_eq (r : ReadR) : readV r = .tuple #[.int .i64 r.maj, .int .i64 r.info, .int .u64 r.arg, .string ⟨r.rest.toArray⟩, .int .i64 r.err] := rfl

set_option maxRecDepth 100000 in
set_option maxHeartbeats 1000000 in
theorem shorts_walk (s : ByteArray) (_w0 : s.size ≤ maxLen) (w : World) :
    Calls Try.prog 5 #[.string s] w fun e w' => e = .returned (.bool true) ∧ Below w.heap.size w w' := by
  have HC := cut_40 s
  obtain ⟨c, hc⟩ : ∃ c, (⟨(s.data.toList.take 40).toArray⟩ : ByteArray) = c := ⟨_, rfl⟩
  have hcz : c.size ≤ 40 := by rw [← hc]; show (s.data.toList.take 40).toArray.size ≤ 40; simp; omega
  rw [hc] at HC
  clear hc
  have HR := head_Read c (by omega)
  have hwrong := readL_wrong c.data.toList
  have hshort := readL_shorts c.data.toList
  rw [readV_eq] at HR
  generalize readL c.data.toList = r at *
  obtain ⟨maj, info, arg, rest, err⟩ := r
  simp only [Shorts] at hwrong hshort HR
  have HC := Lib.hid HC
  have hcs : c.data.toList.length = c.size := by simp
  by_cases h0 : err = 0
  · subst h0
    by_cases hi : info = 31
    · subst hi
      have HR := Lib.hid HR
      clear hwrong hshort hcs
      go_enter Try.func5, Try.ntmps5
      go_wp2_with fail
      refine (shown_true _).mono ?_
      rintro e w1 ⟨rfl, hb1⟩
      go_wp2_with fail
      refine (HC.out _).mono ?_
      rintro e w2 ⟨rfl, rfl⟩
      go_wp2_with fail
      refine (HR.out _).mono ?_
      rintro e w2 ⟨rfl, hb2⟩
      go_wp2_with fail
      go_ret
      exact ⟨rfl, hb1.trans (hb2.mono hb1.size)⟩
    · obtain ⟨hm, ha, own, ho, hiff, hle⟩ := hshort rfl hi
      have HM := head_Make maj arg hm ha
      have HS := head_IsShort info arg (by omega) (by omega)
      obtain ⟨R, hR⟩ : ∃ R, (⟨rest.toArray⟩ : ByteArray) = R := ⟨_, rfl⟩
      obtain ⟨a, hA⟩ : ∃ a, (⟨(makeL maj arg).toArray⟩ : ByteArray) = a := ⟨_, rfl⟩
      have hRs : R.data.toList = rest := by rw [← hR]
      have hAs : a.data.toList = makeL maj arg := by rw [← hA]
      have hRz : R.size = rest.length := by rw [← hR]; rfl
      have hAz : a.size = (makeL maj arg).length := by rw [← hA]; rfl
      have hol : own.length + rest.length = c.size := by rw [← hcs, ho, List.length_append]
      rw [hR] at HR
      rw [hA] at HM
      have hk : (leastN arg).2 ≤ 8 := by have := leastOf_cases arg (by omega); unfold leastN; simp only []; omega
      have ha9 : a.size ≤ 9 := by rw [hAz, makeL_length]; omega
      have hap : 0 < (makeL maj arg).length := makeL_pos _ _
      have hRc : R.size < c.size := by omega
      have hin : ((info : Int) == 31) = false := by rw [beq_eq_false_iff_ne]; omega
      have hx : c.extract 0 (c.size - R.size) = ⟨own.toArray⟩ := by
        rw [str_extract, List.drop_zero, Nat.sub_zero, ho, List.take_left' (by omega)]
      obtain ⟨X, hX⟩ : ∃ X, c.extract 0 (c.size - R.size) = X := ⟨_, rfl⟩
      rw [hx] at hX
      have hXs : X.data.toList = own := by rw [← hX]
      have hXz : X.size = own.length := by rw [← hX]; rfl
      have HM := Lib.hid HM
      have HR := Lib.hid HR
      have HS := Lib.hid HS
      have hXX := hx.trans hX
      have hge : decide (a.size ≤ X.size) = true := by simp; omega
      have hjoin : ((X ++ R).toList == c.toList) = true := by
        rw [ByteArray.toList_eq, ByteArray.toList_eq, ho]; simp [hXs, hRs]
      have hsm : X.size + R.size ≤ 80 := by omega
      have hbb : ((X.toList == a.toList) == ((leastOf (arg : Int)).1 == (info : Int))) = true := by
        rw [ByteArray.toList_eq, ByteArray.toList_eq, hXs, hAs]
        have hl := leastOf_cases arg (by omega)
        have e1 : ((leastOf (arg : Int)).1 == (info : Int)) = decide ((leastN arg).1 = info) := by
          rw [Bool.eq_iff_iff, beq_iff_eq, decide_eq_true_eq]
          unfold leastN
          simp only []
          omega
        rw [e1, beq_iff_eq, Bool.eq_iff_iff, beq_iff_eq, decide_eq_true_eq]
        exact hiff
      clear hwrong hshort hcs ho hiff hle hRs hAs hRz hAz hol hXs hXz hx hX hi hA hR hap
      go_enter Try.func5, Try.ntmps5
      go_wp2_with fail
      refine (shown_true _).mono ?_
      rintro e w1 ⟨rfl, hb1⟩
      go_wp2_with fail
      refine (HC.out _).mono ?_
      rintro e w2 ⟨rfl, rfl⟩
      go_wp2_with fail
      refine (HR.out _).mono ?_
      rintro e w2 ⟨rfl, hb2⟩
      go_wp2_with fail
      refine (HM.out _).mono ?_
      rintro e w3 ⟨rfl, hb3⟩
      go_wp2_with fail
      refine (HS.out _).mono ?_
      rintro e w4 ⟨rfl, hb4⟩
      go_wp2_with fail
      go_ret
      exact ⟨rfl, ((hb1.trans (hb2.mono hb1.size)).trans (hb3.mono (Nat.le_trans hb1.size hb2.size))).trans (hb4.mono (Nat.le_trans (Nat.le_trans hb1.size hb2.size) hb3.size))⟩
  · have hre := hwrong h0
    subst hre
    obtain ⟨R, hR⟩ : ∃ R, (⟨c.data.toList.toArray⟩ : ByteArray) = R := ⟨_, rfl⟩
    have hRc : (R.toList == c.toList) = true := by rw [← hR, ByteArray.toList_eq c]; simp
    have hRc2 : (c.data.toList == c.toList) = true := by rw [ByteArray.toList_eq c]; simp
    have hen : ((err : Int) != 0) = true := by rw [bne_iff_ne]; omega
    have hen2 : ((err : Int) == 0) = false := by rw [beq_eq_false_iff_ne]; omega
    rw [hR] at HR
    have HR := Lib.hid HR
    clear hwrong hshort hcs hR h0
    go_enter Try.func5, Try.ntmps5
    go_wp2_with fail
    refine (shown_true _).mono ?_
    rintro e w1 ⟨rfl, hb1⟩
    go_wp2_with fail
    refine (HC.out _).mono ?_
    rintro e w2 ⟨rfl, rfl⟩
    go_wp2_with fail
    refine (HR.out _).mono ?_
    rintro e w2 ⟨rfl, hb2⟩
    go_wp2_with fail
    go_ret
    exact ⟨rfl, hb1.trans (hb2.mono hb1.size)⟩
end Go.Proofs.Ytanccdmlddgnaaa
