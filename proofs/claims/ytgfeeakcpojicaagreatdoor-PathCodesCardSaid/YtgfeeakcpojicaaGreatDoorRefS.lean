/- The reference's texts (targumref02): escaped, walked. -/
import Derived.Test.YtgfeeakcpojicaaGreatDoorRefR
namespace Go.Proofs.YtgfeeakcpojicaaGreatDoor
open Go.RowKit Go.Shelf

/-- What escaped tells of a text of so many bytes: a character, and how many bytes it has; (0, 0): none. -/
def escV (n : Nat) : Option (Nat × List UInt8) → Value
  | none => .tuple #[.int .i64 0, .int .i64 0]
  | some (x, r) => .tuple #[.int .i64 (x : Int), .int .i64 ((n - r.length : Nat) : Int)]
theorem escV_some (n x : Nat) (r : List UInt8) : escV n (some (x, r)) = .tuple #[.int .i64 (x : Int), .int .i64 ((n - r.length : Nat) : Int)] := rfl

set_option maxHeartbeats 4000000 in
set_option maxRecDepth 100000 in
theorem esc_sign (s : ByteArray) (hs : 0 < s.size) (k x : Nat) (hk : s[0].toNat = k) (hx : signX k = some x) (w : World) :
    Calls Tryz.prog 62 #[.string s] w fun e w' => e = .returned (.tuple #[.int .i64 (x : Int), .int .i64 1]) ∧ w' = w := by
  have hne := str_nonempty (by omega : s.size ≠ 0)
  have hp : (k = 34 ∧ x = 34) ∨ (k = 92 ∧ x = 92) ∨ (k = 47 ∧ x = 47) ∨ (k = 98 ∧ x = 8) ∨ (k = 102 ∧ x = 12) ∨ (k = 110 ∧ x = 10) ∨ (k = 114 ∧ x = 13) ∨ (k = 116 ∧ x = 9) := by
    unfold signX at hx
    repeat' split at hx
    all_goals first | (cases hx; omega) | cases hx
  have z0 : (0 : Int) < s.size := by omega
  clear hx
  rcases hp with ⟨rfl, rfl⟩ | ⟨rfl, rfl⟩ | ⟨rfl, rfl⟩ | ⟨rfl, rfl⟩ | ⟨rfl, rfl⟩ | ⟨rfl, rfl⟩ | ⟨rfl, rfl⟩ | ⟨rfl, rfl⟩
  all_goals
    simp only [Int.cast_ofNat_Int]
    go_enter Tryz.func62, Tryz.ntmps62
    go_wp2_with fail
    go_ret2
    exact ⟨rfl, rfl⟩

set_option maxHeartbeats 4000000 in
set_option maxRecDepth 100000 in
theorem esc_other (s : ByteArray) (hs : 0 < s.size) (k : Nat) (hk : s[0].toNat = k) (hx : signX k = none) (hu : k ≠ 117) (w : World) :
    Calls Tryz.prog 62 #[.string s] w fun e w' => e = .returned (.tuple #[.int .i64 0, .int .i64 0]) ∧ w' = w := by
  have hne := str_nonempty (by omega : s.size ≠ 0)
  have hp : k ≠ 34 ∧ k ≠ 92 ∧ k ≠ 47 ∧ k ≠ 98 ∧ k ≠ 102 ∧ k ≠ 110 ∧ k ≠ 114 ∧ k ≠ 116 := by
    refine ⟨?_, ?_, ?_, ?_, ?_, ?_, ?_, ?_⟩
    all_goals
      rintro rfl
      revert hx
      decide
  obtain ⟨h1, h2, h3, h4, h5, h6, h7, h8⟩ := hp
  have e1 : ((k : Int) == 34) = false := by rw [beq_eq_false_iff_ne]; omega
  have e2 : ((k : Int) == 92) = false := by rw [beq_eq_false_iff_ne]; omega
  have e3 : ((k : Int) == 47) = false := by rw [beq_eq_false_iff_ne]; omega
  have e4 : ((k : Int) == 98) = false := by rw [beq_eq_false_iff_ne]; omega
  have e5 : ((k : Int) == 102) = false := by rw [beq_eq_false_iff_ne]; omega
  have e6 : ((k : Int) == 110) = false := by rw [beq_eq_false_iff_ne]; omega
  have e7 : ((k : Int) == 114) = false := by rw [beq_eq_false_iff_ne]; omega
  have e8 : ((k : Int) == 116) = false := by rw [beq_eq_false_iff_ne]; omega
  have e9 : ((k : Int) == 117) = false := by rw [beq_eq_false_iff_ne]; omega
  have z0 : (0 : Int) < s.size := by omega
  clear hx h1 h2 h3 h4 h5 h6 h7 h8 hu
  go_enter Tryz.func62, Tryz.ntmps62
  go_wp2_with fail
  go_ret2
  exact ⟨rfl, rfl⟩

theorem take2_at (s : ByteArray) (i : Nat) (h : i + 1 < s.size) (a b : UInt8) : (s.data.toList.drop i).take 2 = [a, b] ↔ s[i] = a ∧ s[i + 1] = b := by
  rw [drop_at s i (by omega), drop_at s (i + 1) h]
  simp

set_option maxHeartbeats 4000000 in
set_option maxRecDepth 100000 in
theorem esc_u (s : ByteArray) (hs : 0 < s.size) (hz : s.size ≤ 1000000000) (hk : s[0].toNat = 117) (w : World) :
    Calls Tryz.prog 62 #[.string s] w fun e w' => e = .returned (escV s.size (numL (s.data.toList.drop 1))) ∧ w' = w := by
  have hne := str_nonempty (by omega : s.size ≠ 0)
  have hsl : s.data.toList.length = s.size := by simp
  have hex1 := extract_list s 1
  obtain ⟨r, hr⟩ : ∃ r, s.extract 1 s.size = r := ⟨_, rfl⟩
  rw [hr] at hex1
  have HR := Lib.hid hr
  have HX := ref_Hex r w
  rw [hex1] at HX
  have z0 : (0 : Int) < s.size := by omega
  have z1 : (1 : Int) ≤ s.size := by omega
  clear hr
  cases hh : hexL (s.data.toList.drop 1) with
  | none =>
    rw [hh] at HX
    have hn : numL (s.data.toList.drop 1) = none := by
      unfold numL
      rw [hh]
    rw [hn]
    have HX := Lib.hid HX
    clear hn hh hex1 hsl
    go_enter Tryz.func62, Tryz.ntmps62
    go_wp2_with fail
    rw [HR.out]
    refine HX.out.mono ?_
    rintro e w1 ⟨rfl, rfl⟩
    simp only [hexI]
    go_wp2_with fail
    go_ret2
    exact ⟨rfl, rfl⟩
  | some hi =>
    rw [hh] at HX
    have hlt := hexL_lt hh
    have hlen := hexL_len hh
    rw [List.length_drop] at hlen
    have HX : Calls Tryz.prog 80 #[.string r] w fun e w' => e = .returned (.int .i64 (hi : Int)) ∧ w' = w := HX
    have HX := Lib.hid HX
    have hn : numL (s.data.toList.drop 1) = if hi < 55296 ∨ 57343 < hi then some (hi, (s.data.toList.drop 1).drop 4) else lowL hi ((s.data.toList.drop 1).drop 4) := by
      unfold numL
      rw [hh]
    rw [List.drop_drop] at hn
    have y0 : ¬ (hi : Int) < 0 := by omega
    by_cases c1 : hi < 55296
    · rw [hn, if_pos (.inl c1)]
      have hv : escV s.size (some (hi, s.data.toList.drop (1 + 4))) = .tuple #[.int .i64 (hi : Int), .int .i64 5] := by
        rw [escV_some, List.length_drop, hsl, show s.size - (s.size - (1 + 4)) = 5 by omega]
        rfl
      rw [hv]
      have y1 : (hi : Int) < 55296 := by omega
      have y2 : (hi : Int) < 56320 := by omega
      clear hn hh hex1 hsl hv c1 hlen hlt
      generalize (hi : Int) = H at *
      go_enter Tryz.func62, Tryz.ntmps62
      go_wp2_with fail
      rw [HR.out]
      refine HX.out.mono ?_
      rintro e w1 ⟨rfl, rfl⟩
      go_wp2_with fail
      go_ret2
      exact ⟨rfl, rfl⟩
    by_cases c2 : 57343 < hi
    · rw [hn, if_pos (.inr c2)]
      have hv : escV s.size (some (hi, s.data.toList.drop (1 + 4))) = .tuple #[.int .i64 (hi : Int), .int .i64 5] := by
        rw [escV_some, List.length_drop, hsl, show s.size - (s.size - (1 + 4)) = 5 by omega]
        rfl
      rw [hv]
      have y1 : ¬ (hi : Int) < 55296 := by omega
      have y2 : ¬ (hi : Int) < 56320 := by omega
      have y3 : (57343 : Int) < hi := by omega
      clear hn hh hex1 hsl hv c1 c2 hlen hlt
      generalize (hi : Int) = H at *
      go_enter Tryz.func62, Tryz.ntmps62
      go_wp2_with fail
      rw [HR.out]
      refine HX.out.mono ?_
      rintro e w1 ⟨rfl, rfl⟩
      go_wp2_with fail
      go_ret2
      exact ⟨rfl, rfl⟩
    rw [hn, if_neg (by omega)]
    have hpk : ∀ lo : Nat, pairOk (hi : Int) lo = decide (hi < 56320 ∧ 56320 ≤ lo ∧ lo ≤ 57343) := by
      intro lo
      unfold pairOk
      rw [decide_eq_decide]
      omega
    by_cases c3 : 56320 ≤ hi
    · have hl : lowL hi (s.data.toList.drop (1 + 4)) = none := by
        unfold lowL
        split
        · split
          · rfl
          · rename_i lo _
            rw [hpk, decide_eq_false (by omega)]
            rfl
        · rfl
      rw [hl]
      have y2 : (56320 : Int) ≤ hi := by omega
      have y3 : (hi : Int) ≤ 57343 := by omega
      clear hn hh hex1 hsl hl c1 c2 c3 hlen hlt hpk
      generalize (hi : Int) = H at *
      go_enter Tryz.func62, Tryz.ntmps62
      go_wp2_with fail
      rw [HR.out]
      refine HX.out.mono ?_
      rintro e w1 ⟨rfl, rfl⟩
      go_wp2_with fail
      go_ret2
      exact ⟨rfl, rfl⟩
    have y1 : ¬ (hi : Int) < 55296 := by omega
    have y2 : (hi : Int) < 56320 := by omega
    have y3 : ¬ (57343 : Int) < hi := by omega
    by_cases c4 : s.size < 11
    · have hl : lowL hi (s.data.toList.drop (1 + 4)) = none := by
        unfold lowL
        split
        · have h4 : hexL ((s.data.toList.drop (1 + 4)).drop 2) = none := by
            unfold hexL
            rw [if_pos (by rw [List.length_drop, List.length_drop]; omega)]
          rw [h4]
        · rfl
      rw [hl]
      have y4 : (s.size : Int) < 11 := by omega
      clear hn hh hex1 hsl hl c1 c2 c3 c4 hlen hlt hpk
      generalize (hi : Int) = H at *
      go_enter Tryz.func62, Tryz.ntmps62
      go_wp2_with fail
      rw [HR.out]
      refine HX.out.mono ?_
      rintro e w1 ⟨rfl, rfl⟩
      go_wp2_with fail
      go_ret2
      exact ⟨rfl, rfl⟩
    have y4 : ¬ (s.size : Int) < 11 := by omega
    have ht := take2_at s (1 + 4) (by omega) 92 117
    have b5 : 5 < s.size := by omega
    have b6 : 6 < s.size := by omega
    obtain ⟨k5, hk5⟩ : ∃ k5, (s[5]'b5).toNat = k5 := ⟨_, rfl⟩
    obtain ⟨k6, hk6⟩ : ∃ k6, (s[6]'b6).toNat = k6 := ⟨_, rfl⟩
    have ht' : (s.data.toList.drop (1 + 4)).take 2 = [92, 117] ↔ k5 = 92 ∧ k6 = 117 := by
      rw [ht, ← hk5, ← hk6, ← UInt8.toNat_inj, ← UInt8.toNat_inj]
      rfl
    have y5 : (5 : Int) < s.size := by omega
    have y6 : (6 : Int) < s.size := by omega
    by_cases c5 : k5 = 92 ∧ k6 = 117
    · obtain ⟨rfl, rfl⟩ := c5
      have hl : lowL hi (s.data.toList.drop (1 + 4)) = match hexL ((s.data.toList.drop (1 + 4)).drop 2) with
          | none => none
          | some lo => if pairOk hi lo then some ((pairOf hi lo).toNat, (s.data.toList.drop (1 + 4)).drop 6) else none := by
        unfold lowL
        rw [if_pos (ht'.2 ⟨rfl, rfl⟩)]
        rfl
      rw [hl]
      rw [List.drop_drop, List.drop_drop]
      have hex7 := extract_list s 7
      obtain ⟨q, hq⟩ : ∃ q, s.extract 7 s.size = q := ⟨_, rfl⟩
      rw [hq] at hex7
      have HQ := Lib.hid hq
      have HY := ref_Hex q w
      rw [hex7] at HY
      have z7 : (7 : Int) ≤ s.size := by omega
      cases hd : hexL (s.data.toList.drop (1 + 4 + 2)) with
      | none =>
        rw [hd] at HY
        have HY := Lib.hid HY
        show Calls _ _ _ _ fun e w' => e = .returned (escV s.size none) ∧ w' = w
        clear hn hh hex1 hsl hl c1 c2 c3 hlen hlt hpk ht ht' hd hex7 hq
        generalize (hi : Int) = H at *
        go_enter Tryz.func62, Tryz.ntmps62
        go_wp2_with fail
        rw [HR.out]
        refine HX.out.mono ?_
        rintro e w1 ⟨rfl, rfl⟩
        go_wp2_with fail
        rw [HQ.out]
        refine HY.out.mono ?_
        rintro e w2 ⟨rfl, rfl⟩
        simp only [hexI]
        go_wp2_with fail
        go_ret2
        exact ⟨rfl, rfl⟩
      | some lo =>
        rw [hd] at HY
        have HY : Calls Tryz.prog 80 #[.string q] w fun e w' => e = .returned (.int .i64 (lo : Int)) ∧ w' = w := HY
        have HY := Lib.hid HY
        have hlo := hexL_lt hd
        by_cases c6 : 56320 ≤ lo ∧ lo ≤ 57343
        · have hres : escV s.size (if pairOk hi lo then some ((pairOf hi lo).toNat, s.data.toList.drop (1 + 4 + 6)) else none) = .tuple #[.int .i64 (65536 + (hi : Int) % 1024 * 1024 + (lo : Int) % 1024), .int .i64 11] := by
            rw [hpk, decide_eq_true (by omega), if_pos rfl]
            unfold pairOf
            rw [hpk, decide_eq_true (by omega), if_pos rfl, escV_some, List.length_drop, hsl, show s.size - (s.size - (1 + 4 + 6)) = 11 by omega]
            have : ((65536 + ((hi : Int) - 55296) * 1024 + lo - 56320).toNat : Int) = 65536 + (hi : Int) % 1024 * 1024 + (lo : Int) % 1024 := by omega
            rw [this]
            rfl
          show Calls _ _ _ _ fun e w' => e = .returned (escV s.size (if pairOk hi lo then some ((pairOf hi lo).toNat, s.data.toList.drop (1 + 4 + 6)) else none)) ∧ w' = w
          rw [hres]
          have x1 : ¬ (lo : Int) < 56320 := by omega
          have x2 : ¬ (57343 : Int) < lo := by omega
          have x3 : (0 : Int) ≤ (hi : Int) % 1024 ∧ (hi : Int) % 1024 < 1024 := by omega
          have x4 : (0 : Int) ≤ (lo : Int) % 1024 ∧ (lo : Int) % 1024 < 1024 := by omega
          clear hn hh hex1 hsl hl c1 c2 c3 hlen hlt hpk ht ht' hd hex7 hq hres
          generalize (hi : Int) = H at *
          generalize (lo : Int) = L at *
          go_enter Tryz.func62, Tryz.ntmps62
          go_wp2_with fail
          rw [HR.out]
          refine HX.out.mono ?_
          rintro e w1 ⟨rfl, rfl⟩
          go_wp2_with fail
          rw [HQ.out]
          refine HY.out.mono ?_
          rintro e w2 ⟨rfl, rfl⟩
          go_wp2_with fail
          go_ret2
          exact ⟨rfl, rfl⟩
        · have hres : (if pairOk hi lo then some ((pairOf hi lo).toNat, s.data.toList.drop (1 + 4 + 6)) else none) = none := by
            rw [hpk, decide_eq_false (by omega)]
            rfl
          show Calls _ _ _ _ fun e w' => e = .returned (escV s.size (if pairOk hi lo then some ((pairOf hi lo).toNat, s.data.toList.drop (1 + 4 + 6)) else none)) ∧ w' = w
          rw [hres]
          by_cases c7 : lo < 56320
          · have x1 : (lo : Int) < 56320 := by omega
            clear hn hh hex1 hsl hl c1 c2 c3 hlen hlt hpk ht ht' hd hex7 hq hres c6 c7
            generalize (hi : Int) = H at *
            generalize (lo : Int) = L at *
            go_enter Tryz.func62, Tryz.ntmps62
            go_wp2_with fail
            rw [HR.out]
            refine HX.out.mono ?_
            rintro e w1 ⟨rfl, rfl⟩
            go_wp2_with fail
            rw [HQ.out]
            refine HY.out.mono ?_
            rintro e w2 ⟨rfl, rfl⟩
            go_wp2_with fail
            go_ret2
            exact ⟨rfl, rfl⟩
          · have x1 : ¬ (lo : Int) < 56320 := by omega
            have x2 : (57343 : Int) < lo := by omega
            clear hn hh hex1 hsl hl c1 c2 c3 hlen hlt hpk ht ht' hd hex7 hq hres c6 c7
            generalize (hi : Int) = H at *
            generalize (lo : Int) = L at *
            go_enter Tryz.func62, Tryz.ntmps62
            go_wp2_with fail
            rw [HR.out]
            refine HX.out.mono ?_
            rintro e w1 ⟨rfl, rfl⟩
            go_wp2_with fail
            rw [HQ.out]
            refine HY.out.mono ?_
            rintro e w2 ⟨rfl, rfl⟩
            go_wp2_with fail
            go_ret2
            exact ⟨rfl, rfl⟩
    · have hl : lowL hi (s.data.toList.drop (1 + 4)) = none := by
        unfold lowL
        rw [if_neg (fun h => c5 (ht'.1 h))]
      rw [hl]
      by_cases c6 : k5 = 92
      · subst c6
        have x1 : ¬ (k6 : Int) = 117 := by omega
        have x2 : ((k6 : Int) != 117) = true := by rw [bne_iff_ne]; omega
        clear hn hh hex1 hsl hl c1 c2 c3 hlen hlt hpk ht ht' c5
        generalize (hi : Int) = H at *
        go_enter Tryz.func62, Tryz.ntmps62
        go_wp2_with fail
        rw [HR.out]
        refine HX.out.mono ?_
        rintro e w1 ⟨rfl, rfl⟩
        go_wp2_with fail
        go_ret2
        exact ⟨rfl, rfl⟩
      · have x1 : ¬ (k5 : Int) = 92 := by omega
        have x2 : ((k5 : Int) != 92) = true := by rw [bne_iff_ne]; omega
        clear hn hh hex1 hsl hl c1 c2 c3 hlen hlt hpk ht ht' c5 c6
        generalize (hi : Int) = H at *
        go_enter Tryz.func62, Tryz.ntmps62
        go_wp2_with fail
        rw [HR.out]
        refine HX.out.mono ?_
        rintro e w1 ⟨rfl, rfl⟩
        go_wp2_with fail
        go_ret2
        exact ⟨rfl, rfl⟩

/-- What stands behind a backslash, as the reference has it. -/
theorem ref_escaped (s : ByteArray) (hz : s.size ≤ 1000000000) (w : World) :
    Calls Tryz.prog 62 #[.string s] w fun e w' => e = .returned (escV s.size (escL s.data.toList)) ∧ w' = w := by
  by_cases h0 : s.size = 0
  · have e0 := str_empty h0
    subst e0
    have hv : escV 0 (escL []) = .tuple #[.int .i64 0, .int .i64 0] := rfl
    show Calls _ _ _ _ fun e w' => e = .returned (escV 0 (escL [])) ∧ w' = w
    rw [hv]
    clear h0 hz hv
    go_enter Tryz.func62, Tryz.ntmps62
    go_wp2_with fail
    go_ret2
    exact ⟨rfl, rfl⟩
  have hpos : 0 < s.size := by omega
  have hl := str_cons hpos
  have hlen : s.data.toList.length = s.size := by simp
  cases hx : signX s[0].toNat with
  | some x =>
    have hv : escV s.size (escL s.data.toList) = .tuple #[.int .i64 (x : Int), .int .i64 1] := by
      rw [hl, escL_some _ hx]
      rw [escV_some, List.length_drop, hlen, show s.size - (s.size - 1) = 1 by omega]
      rfl
    rw [hv]
    exact esc_sign s hpos _ x rfl hx w
  | none =>
    by_cases hu : s[0].toNat = 117
    · have hv : escL s.data.toList = numL (s.data.toList.drop 1) := by
        rw [hl, escL_none _ hx, if_pos hu]
        rfl
      rw [hv]
      exact esc_u s hpos hz hu w
    · have hv : escL s.data.toList = none := by
        rw [hl, escL_none _ hx, if_neg hu]
      rw [hv]
      exact esc_other s hpos _ rfl hx hu w
end Go.Proofs.YtgfeeakcpojicaaGreatDoor
