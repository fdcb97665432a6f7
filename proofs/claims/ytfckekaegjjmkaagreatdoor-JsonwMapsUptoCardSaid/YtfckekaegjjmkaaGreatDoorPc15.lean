/- The texts GateF, put together. -/
import Derived.Test.YtfckekaegjjmkaaGreatDoorPc14
import Derived.Deep.RegionHeld3
namespace Go.Proofs.YtfckekaegjjmkaaGreatDoor
open Go.RowKit Go.Shelf

set_option maxRecDepth 100000 in
theorem dec_zero (w : World) : Calls Tryz.prog 159 #[] w fun e w' => e = .returned (.agg #[.bool false, .string ⟨#[48]⟩, .int .i64 0]) ∧ Below w.heap.size w w' := by
  go_enter Tryz.func159, Tryz.ntmps159
  go_wp2
  exact bodyPost_ret (v := .agg #[.bool false, .string ⟨#[48]⟩, .int .i64 0]) (by simp [results, Tryz.results159, go_sem]) rfl ⟨rfl, (Below.refl _ _).alloc (Nat.le_refl _) _⟩

theorem dec_within (n m : Int) (h0 : 0 ≤ m) (h1 : m ≤ 1000) (w : World) : Calls Tryz.prog 156 #[.int .i64 n, .int .i64 m] w fun e w' => e = .returned (.bool (decide (-m ≤ n) && decide (n ≤ m))) ∧ w = w' := by
  by_cases h2 : -m ≤ n
  · by_cases h3 : n ≤ m
    · rw [decide_eq_true h2, decide_eq_true h3]
      go_enter Tryz.func156, Tryz.ntmps156
      go_wp2
      go_ret
      exact ⟨rfl, rfl⟩
    · rw [decide_eq_true h2, decide_eq_false h3]
      go_enter Tryz.func156, Tryz.ntmps156
      go_wp2
      go_ret
      exact ⟨rfl, rfl⟩
  · rw [decide_eq_false h2]
    go_enter Tryz.func156, Tryz.ntmps156
    go_wp2
    go_ret
    exact ⟨rfl, rfl⟩

theorem suffix_last (l : List UInt8) (h : l ≠ []) : Lib.hasSuffix l [48] = decide (l.getLast? = some 48) := by
  unfold Lib.hasSuffix
  rw [Bool.eq_iff_iff, List.isSuffixOf_iff_suffix, decide_eq_true_iff]
  constructor
  · rintro ⟨k, rfl⟩
    simp
  · intro e
    rw [List.getLast?_eq_some_getLast h] at e
    exact ⟨l.dropLast, by rw [← Option.some.inj e]; exact List.dropLast_concat_getLast h⟩
/-- What dec.Right tells of a decimal that is not its zero. -/
def decRest (dg : ByteArray) (ex : Int) : Bool := natOk dg && (decide (dg.size ≤ 100) && ((decide (-100 ≤ ex) && decide (ex ≤ 100)) && !Lib.hasSuffix dg.data.toList [48]))
theorem decOk_zero : decOk false ⟨#[48]⟩ 0 = true := by decide +kernel
theorem decOk_rest {neg : Bool} {dg : ByteArray} {ex : Int} (h : ¬ (neg = false ∧ dg = ⟨#[48]⟩ ∧ ex = 0)) : decOk neg dg ex = decRest dg ex := by
  unfold decOk decRest
  cases hn : natOk dg with
  | false => rfl
  | true =>
    have h1 : 1 ≤ dg.size := by
      unfold natOk at hn
      rw [Bool.and_eq_true, decide_eq_true_iff] at hn
      exact hn.1
    have hne : dg.data.toList ≠ [] := fun e => by
      have : dg.data.toList.length = dg.size := by simp
      rw [e] at this
      simp at this
      omega
    rw [suffix_last _ hne]
    congr 2
    by_cases h0 : dg.toList = [48]
    · rw [if_pos h0]
      have hd : dg.data.toList = [48] := by rw [← ByteArray.toList_eq]; exact h0
      have hd2 : dg = ⟨#[48]⟩ := str_ext hd
      rw [hd]
      have : decide (([48] : List UInt8).getLast? = some 48) = true := by decide
      rw [this, Bool.not_true, Bool.and_false]
      cases neg with
      | true => rw [Bool.not_true, Bool.and_false]
      | false =>
        rw [decide_eq_false (fun e => h ⟨rfl, hd2, e⟩), Bool.false_and]
    · rw [if_neg h0, Bool.and_assoc]

set_option maxHeartbeats 4000000 in
set_option maxRecDepth 100000 in
theorem dec_Right (neg : Bool) (dg : ByteArray) (ex : Int) (hs : dg.size ≤ 9223372036854775807) (w : World) :
    Calls Tryz.prog 127 #[.agg #[.bool neg, .string dg, .int .i64 ex]] w fun e w' => e = .returned (.bool (decOk neg dg ex)) ∧ Below w.heap.size w w' := by
  have HZ := Lib.hid dec_zero
  have hbx : Below w.heap.size w (w.alloc (.cells #[.bool neg, .string dg, .int .i64 ex] 23)) := (Below.refl _ _).alloc (Nat.le_refl _) _
  have hkx := Blk.new w #[.bool neg, .string dg, .int .i64 ex] 23
  by_cases hz : neg = false ∧ dg = ⟨#[48]⟩ ∧ ex = 0
  · obtain ⟨rfl, rfl, rfl⟩ := hz
    rw [decOk_zero]
    have c0 := hkx.cell 0
    have c1 := hkx.cell 1
    have c2 := hkx.cell 2
    go_enter Tryz.func127, Tryz.ntmps127
    go_wp2_with fail
    go_region_held3 (fun w' => w'.cell? ⟨w.heap.size, 0, none⟩ = some (.bool false) ∧ w'.cell? ⟨w.heap.size, 1, none⟩ = some (.string ⟨#[48]⟩) ∧ w'.cell? ⟨w.heap.size, 2, none⟩ = some (.int .i64 0)) (go_keep)
      (first | (go_at_call 159; refine (HZ.out _).mono ?_; rintro e w4 ⟨rfl, hb4⟩; have hk4 := (Blk.drew hkx).below hb4 (Blk.drew hkx).lt; have c40 := hk4.cell 0; have c41 := hk4.cell 1; have c42 := hk4.cell 2))
    have hb5 : Below w.heap.size w w4 := (below_drewN hbx 1).trans (hb4.mono hbx.size)
    go_wp2_with fail
    go_ret
    exact ⟨rfl, hb5⟩
  rw [decOk_rest hz]
  have HN := Lib.hid (nat_Right dg hs)
  have HW := Lib.hid (fun w => dec_within ex 100 (by decide) (by decide) w)
  have HS := Lib.hid (fun w => Tryz.strings_HasSuffix dg ⟨#[48]⟩ w hs)
  have h3 : neg = true ∨ (neg = false ∧ ¬ dg = ⟨#[48]⟩) ∨ (neg = false ∧ dg = ⟨#[48]⟩ ∧ ¬ ex = 0) := by
    cases neg with
    | true => exact .inl rfl
    | false =>
      by_cases h1 : dg = ⟨#[48]⟩
      · exact .inr (.inr ⟨rfl, h1, fun e => hz ⟨rfl, h1, e⟩⟩)
      · exact .inr (.inl ⟨rfl, h1⟩)
  obtain ⟨ans, hans⟩ : ∃ ans, decRest dg ex = ans := ⟨_, rfl⟩
  rw [hans]
  unfold decRest at hans
  obtain ⟨b1, hb1⟩ : ∃ b1, natOk dg = b1 := ⟨_, rfl⟩
  obtain ⟨b3, hb3⟩ : ∃ b3, (decide (-100 ≤ ex) && decide (ex ≤ 100)) = b3 := ⟨_, rfl⟩
  obtain ⟨b4, hb4⟩ : ∃ b4, Lib.hasSuffix dg.data.toList [48] = b4 := ⟨_, rfl⟩
  have HS : Hid (∀ w, Calls Tryz.prog 163 #[.string dg, .string ⟨#[48]⟩] w fun e w' => e = .returned (.bool (Lib.hasSuffix dg.data.toList [48])) ∧ w' = w) := HS
  simp only [hb1] at HN
  simp only [hb3] at HW
  simp only [hb4] at HS
  rw [hb1, hb3, hb4] at hans
  clear hb1 hb3 hb4 hz
  have c0 := hkx.cell 0
  have c1 := hkx.cell 1
  have c2 := hkx.cell 2
  have hq : (dg.toList == [48]) = decide (dg = ⟨#[48]⟩) := by
    by_cases h : dg = ⟨#[48]⟩
    · subst h
      decide +kernel
    · rw [decide_eq_false h, beq_eq_false_iff_ne, ByteArray.toList_eq]
      exact fun e => h (str_ext e)
  rcases h3 with h3 | ⟨h3, h4⟩ | ⟨h3, h4, h5⟩
  · subst h3
    clear hq
    have HANS := Lib.hid hans
    clear hans
    go_enter Tryz.func127, Tryz.ntmps127
    go_wp2_with fail
    go_region_held3 (fun w' => w'.cell? ⟨w.heap.size, 0, none⟩ = some (.bool true) ∧ w'.cell? ⟨w.heap.size, 1, none⟩ = some (.string dg) ∧ w'.cell? ⟨w.heap.size, 2, none⟩ = some (.int .i64 ex)) (go_keep)
      (first | (go_at_call 159; refine (HZ.out _).mono ?_; rintro e w4 ⟨rfl, hb4⟩; have hk4 := (Blk.drew hkx).below hb4 (Blk.drew hkx).lt; have c40 := hk4.cell 0; have c41 := hk4.cell 1; have c42 := hk4.cell 2))
    have hb5 : Below w.heap.size w w4 := (below_drewN hbx 1).trans (hb4.mono hbx.size)
    go_wp2_with fail
    refine (HN.out _).mono ?_
    rintro e w5 ⟨rfl, hb6⟩
    have hk5 := hk4.below hb6 hk4.lt
    have hb7 := hb5.trans (hb6.mono hb5.size)
    have d0 := hk5.cell 0
    have d1 := hk5.cell 1
    have d2 := hk5.cell 2
    clear hk4 hb4 hb5 hb6 c0 c1 c2 c40 c41 c42 hkx hbx HN HZ
    cases b1 with
    | false =>
      obtain rfl : false = ans := HANS.out
      go_wp2_with fail
      all_goals go_ret
      all_goals exact ⟨rfl, hb7⟩
    | true =>
      by_cases hl : dg.size ≤ 100
      · have z1 : (dg.size : Int) ≤ 100 := by omega
        have ha : (b3 && !b4) = ans := by
          have := HANS.out
          rw [decide_eq_true hl] at this
          exact this
        clear HANS
        go_wp2_with fail
        refine (HW.out _).mono ?_
        rintro e w6 ⟨rfl, rfl⟩
        cases b3 with
        | false =>
          obtain rfl : false = ans := ha
          go_wp2_with fail
          all_goals go_ret
          all_goals exact ⟨rfl, hb7⟩
        | true =>
          obtain rfl : (!b4) = ans := ha
          go_wp2_with fail
          refine (HS.out _).mono ?_
          rintro e w6 ⟨rfl, rfl⟩
          cases b4 with
          | false =>
            go_wp2_with fail
            all_goals go_ret
            all_goals exact ⟨rfl, hb7⟩
          | true =>
            go_wp2_with fail
            all_goals go_ret
            all_goals exact ⟨rfl, hb7⟩
      · have z1 : ¬ (dg.size : Int) ≤ 100 := by omega
        have z2 : (100 : Int) < dg.size := by omega
        obtain rfl : false = ans := by
          have := HANS.out
          rw [decide_eq_false hl] at this
          exact this
        go_wp2_with fail
        all_goals go_ret
        all_goals exact ⟨rfl, hb7⟩
  · subst h3
    rw [decide_eq_false h4] at hq
    clear h4
    have HANS := Lib.hid hans
    clear hans
    go_enter Tryz.func127, Tryz.ntmps127
    go_wp2_with fail
    go_region_held3 (fun w' => w'.cell? ⟨w.heap.size, 0, none⟩ = some (.bool false) ∧ w'.cell? ⟨w.heap.size, 1, none⟩ = some (.string dg) ∧ w'.cell? ⟨w.heap.size, 2, none⟩ = some (.int .i64 ex)) (go_keep)
      (first | (go_at_call 159; refine (HZ.out _).mono ?_; rintro e w4 ⟨rfl, hb4⟩; have hk4 := (Blk.drew hkx).below hb4 (Blk.drew hkx).lt; have c40 := hk4.cell 0; have c41 := hk4.cell 1; have c42 := hk4.cell 2))
    have hb5 : Below w.heap.size w w4 := (below_drewN hbx 1).trans (hb4.mono hbx.size)
    go_wp2_with fail
    refine (HN.out _).mono ?_
    rintro e w5 ⟨rfl, hb6⟩
    have hk5 := hk4.below hb6 hk4.lt
    have hb7 := hb5.trans (hb6.mono hb5.size)
    have d0 := hk5.cell 0
    have d1 := hk5.cell 1
    have d2 := hk5.cell 2
    clear hk4 hb4 hb5 hb6 c0 c1 c2 c40 c41 c42 hkx hbx HN HZ
    cases b1 with
    | false =>
      obtain rfl : false = ans := HANS.out
      go_wp2_with fail
      all_goals go_ret
      all_goals exact ⟨rfl, hb7⟩
    | true =>
      by_cases hl : dg.size ≤ 100
      · have z1 : (dg.size : Int) ≤ 100 := by omega
        have ha : (b3 && !b4) = ans := by
          have := HANS.out
          rw [decide_eq_true hl] at this
          exact this
        clear HANS
        go_wp2_with fail
        refine (HW.out _).mono ?_
        rintro e w6 ⟨rfl, rfl⟩
        cases b3 with
        | false =>
          obtain rfl : false = ans := ha
          go_wp2_with fail
          all_goals go_ret
          all_goals exact ⟨rfl, hb7⟩
        | true =>
          obtain rfl : (!b4) = ans := ha
          go_wp2_with fail
          refine (HS.out _).mono ?_
          rintro e w6 ⟨rfl, rfl⟩
          cases b4 with
          | false =>
            go_wp2_with fail
            all_goals go_ret
            all_goals exact ⟨rfl, hb7⟩
          | true =>
            go_wp2_with fail
            all_goals go_ret
            all_goals exact ⟨rfl, hb7⟩
      · have z1 : ¬ (dg.size : Int) ≤ 100 := by omega
        have z2 : (100 : Int) < dg.size := by omega
        obtain rfl : false = ans := by
          have := HANS.out
          rw [decide_eq_false hl] at this
          exact this
        go_wp2_with fail
        all_goals go_ret
        all_goals exact ⟨rfl, hb7⟩
  · subst h3
    subst h4
    have hx : (ex == 0) = false := by rw [beq_eq_false_iff_ne]; exact h5
    clear hq
    have HANS := Lib.hid hans
    clear hans
    go_enter Tryz.func127, Tryz.ntmps127
    go_wp2_with fail
    go_region_held3 (fun w' => w'.cell? ⟨w.heap.size, 0, none⟩ = some (.bool false) ∧ w'.cell? ⟨w.heap.size, 1, none⟩ = some (.string ⟨#[48]⟩) ∧ w'.cell? ⟨w.heap.size, 2, none⟩ = some (.int .i64 ex)) (go_keep)
      (first | (go_at_call 159; refine (HZ.out _).mono ?_; rintro e w4 ⟨rfl, hb4⟩; have hk4 := (Blk.drew hkx).below hb4 (Blk.drew hkx).lt; have c40 := hk4.cell 0; have c41 := hk4.cell 1; have c42 := hk4.cell 2))
    have hb5 : Below w.heap.size w w4 := (below_drewN hbx 1).trans (hb4.mono hbx.size)
    go_wp2_with fail
    refine (HN.out _).mono ?_
    rintro e w5 ⟨rfl, hb6⟩
    have hk5 := hk4.below hb6 hk4.lt
    have hb7 := hb5.trans (hb6.mono hb5.size)
    have d0 := hk5.cell 0
    have d1 := hk5.cell 1
    have d2 := hk5.cell 2
    clear hk4 hb4 hb5 hb6 c0 c1 c2 c40 c41 c42 hkx hbx HN HZ
    cases b1 with
    | false =>
      obtain rfl : false = ans := HANS.out
      go_wp2_with fail
      all_goals go_ret
      all_goals exact ⟨rfl, hb7⟩
    | true =>
      by_cases hl : (⟨#[48]⟩ : ByteArray).size ≤ 100
      · have z1 : ((⟨#[48]⟩ : ByteArray).size : Int) ≤ 100 := by omega
        have ha : (b3 && !b4) = ans := by
          have := HANS.out
          rw [decide_eq_true hl] at this
          exact this
        clear HANS
        go_wp2_with fail
        refine (HW.out _).mono ?_
        rintro e w6 ⟨rfl, rfl⟩
        cases b3 with
        | false =>
          obtain rfl : false = ans := ha
          go_wp2_with fail
          all_goals go_ret
          all_goals exact ⟨rfl, hb7⟩
        | true =>
          obtain rfl : (!b4) = ans := ha
          go_wp2_with fail
          refine (HS.out _).mono ?_
          rintro e w6 ⟨rfl, rfl⟩
          cases b4 with
          | false =>
            go_wp2_with fail
            all_goals go_ret
            all_goals exact ⟨rfl, hb7⟩
          | true =>
            go_wp2_with fail
            all_goals go_ret
            all_goals exact ⟨rfl, hb7⟩
      · exact absurd (show (⟨#[48]⟩ : ByteArray).size ≤ 100 by decide) hl
end Go.Proofs.YtfckekaegjjmkaaGreatDoor
