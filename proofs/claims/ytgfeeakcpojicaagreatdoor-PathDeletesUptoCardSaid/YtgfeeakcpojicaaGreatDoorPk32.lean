/- The texts RtB, RtC, put together. -/
import Derived.Test.YtgfeeakcpojicaaGreatDoorPk31
import Derived.Test.YtgfeeakcpojicaaGreatDoorPk25
import Derived.BigRegion
import Derived.RegionTactic
import Derived.Laws.Bits64b
/- The reference's numbers of a node: Right of a natural, Right of a decimal, Widen. -/
namespace Go.Proofs.YtgfeeakcpojicaaGreatDoor
open Go.RowKit Go.Shelf

def natOk (s : ByteArray) : Bool := decide (1 ≤ s.size) && (decide (s.size ≤ 400) && (!(decide (1 < s.size) && decide (s.data.toList.head? = some 48)) && s.data.toList.all isDig))
theorem all_dig {s : ByteArray} : s.data.toList.all isDig = true ↔ ∀ j (h : j < s.size), isDig s[j] = true := by
  rw [List.all_eq_true]
  constructor
  · intro h j hj
    refine h _ ?_
    rw [ByteArray.getElem_eq_getElem_data, Array.mem_toList_iff]
    exact Array.getElem_mem _
  · intro h c hc
    obtain ⟨j, hj, rfl⟩ := List.getElem_of_mem hc
    have hj' : j < s.size := by simpa using hj
    have := h j hj'
    rw [ByteArray.getElem_eq_getElem_data] at this
    simpa using this
theorem head_at0 (s : ByteArray) (h : 0 < s.size) : s.data.toList.head? = some s[0] := by
  rw [List.head?_eq_getElem?, List.getElem?_eq_getElem (by simpa using h)]
  simp [ByteArray.getElem_eq_getElem_data]

set_option maxHeartbeats 2000000 in
set_option maxRecDepth 100000 in
theorem ref_natOk (s : ByteArray) (hs : s.size ≤ 9223372036854775807) (w : World) :
    Calls Tryz.prog 59 #[.string s] w fun e w' => e = .returned (.bool (natOk s)) ∧ w' = w := by
  obtain ⟨ans, hans⟩ : ∃ ans, natOk s = ans := ⟨_, rfl⟩
  rw [hans]
  unfold natOk at hans
  by_cases h1 : 1 ≤ s.size
  · rw [decide_eq_true h1, Bool.true_and] at hans
    have z0 : ¬ (s.size : Int) < 1 := by omega
    by_cases h4 : s.size ≤ 400
    · rw [decide_eq_true h4, Bool.true_and] at hans
      have z1 : ¬ (400 : Int) < s.size := by omega
      rw [head_at0 s h1] at hans
      obtain ⟨c0, hc0⟩ : ∃ c0, s[0].toNat = c0 := ⟨_, rfl⟩
      have hd48 : decide (some s[0] = some (48 : UInt8)) = decide (c0 = 48) := by
        rw [← hc0]
        by_cases e : s[0].toNat = 48
        · rw [decide_eq_true e, decide_eq_true (congrArg some (UInt8.toNat_inj.1 e))]
        · rw [decide_eq_false e, decide_eq_false (fun h => e (by rw [Option.some.inj h]; rfl))]
      rw [hd48] at hans
      clear hd48
      by_cases h2 : 1 < s.size
      · have z2 : (1 : Int) < s.size := by omega
        rw [decide_eq_true h2, Bool.true_and] at hans
        by_cases h3 : c0 = 48
        · subst h3
          rw [decide_eq_true rfl] at hans
          have ha : ans = false := by rw [← hans]; rfl
          subst ha
          clear hans h4 h2
          go_enter Tryz.func59, Tryz.ntmps59
          go_wp2_with fail
          go_ret
          exact ⟨rfl, rfl⟩
        · rw [decide_eq_false h3, Bool.not_false, Bool.true_and] at hans
          have z3 : ¬ (c0 : Int) = 48 := by omega
          have z4 : ((c0 : Int) == 48) = false := by rw [beq_eq_false_iff_ne]; exact z3
          have HYS := Lib.hid (fun (h : ∀ j (h : j < s.size), isDig s[j] = true) => hans.symm.trans (all_dig.2 h))
          have HNO := Lib.hid (fun k (h : k < s.size) (hk : isDig s[k] = false) => show ans = false by
            rw [← hans, ← Bool.not_eq_true]
            exact fun e => by rw [all_dig.1 e k h] at hk; cases hk)
          clear hans h3 h2 h4
          go_enter Tryz.func59, Tryz.ntmps59
          go_wp2_with fail
          clear z4 z3 hc0 z2
          go_loopw [3] (fun i wr => ∃ k : Nat, k ≤ s.size ∧ i = .int .i64 k ∧ (∀ j (h : j < s.size), j < k → isDig s[j] = true) ∧ wr = w) (fun i _ => s.size - (intOf i).toNat)
          case atStart => exact ⟨0, by omega, rfl, fun j _ h => absurd h (by omega), rfl⟩
          case round =>
            obtain ⟨k, hk, rfl, hall, rfl⟩ := hrel
            by_cases hlt : k < s.size
            · have hdk : isDig s[k] = (decide (48 ≤ s[k].toNat) && decide (s[k].toNat ≤ 57)) := rfl
              have HAL := Lib.hid hall
              have HDK := Lib.hid (fun (h : isDig s[k] = false) => HNO.out k hlt h)
              have HYE := Lib.hid (fun (h : isDig s[k] = true) => (fun j (hj : j < s.size) (hjk : j < k + 1) => (by
                by_cases e : j = k
                · subst e; exact h
                · exact hall j hj (by omega) : isDig s[j] = true)))
              rw [hdk] at HDK HYE
              obtain ⟨c, hc⟩ : ∃ c, s[k].toNat = c := ⟨_, rfl⟩
              rw [hc] at HDK HYE
              have y1 : (k : Int) < s.size := by omega
              clear hdk hall
              by_cases h48 : 48 ≤ c
              · have y2 : ¬ (c : Int) < 48 := by omega
                by_cases h57 : c ≤ 57
                · have y3 : ¬ (57 : Int) < c := by omega
                  have HYE := Lib.hid (HYE.out (by rw [decide_eq_true h48, decide_eq_true h57]; rfl))
                  clear HDK h48 h57
                  go_wp2_with fail
                  go_roundw
                  case rel => exact ⟨k + 1, by omega, by go_num, HYE.out, trivial⟩
                  case measure => simp [intOf]; omega
                · have y3 : (57 : Int) < c := by omega
                  have ha := HDK.out (by rw [decide_eq_false h57, Bool.and_false])
                  subst ha
                  clear HDK HYE h48 h57
                  go_wp2_with fail
                  go_ret
                  exact ⟨rfl, rfl⟩
              · have y2 : (c : Int) < 48 := by omega
                have ha := HDK.out (by rw [decide_eq_false h48, Bool.false_and])
                subst ha
                clear HDK HYE h48
                go_wp2_with fail
                go_ret
                exact ⟨rfl, rfl⟩
            · obtain rfl : k = s.size := by omega
              have y1 : ¬ ((s.size : Nat) : Int) < s.size := by omega
              have ha := HYS.out (fun j h => hall j h h)
              subst ha
              go_wp2_with fail
              go_ret
              exact ⟨rfl, rfl⟩
      · have z2 : ¬ (1 : Int) < s.size := by omega
        rw [decide_eq_false h2, Bool.false_and, Bool.not_false, Bool.true_and] at hans
        have HYS := Lib.hid (fun (h : ∀ j (h : j < s.size), isDig s[j] = true) => hans.symm.trans (all_dig.2 h))
        have HNO := Lib.hid (fun k (h : k < s.size) (hk : isDig s[k] = false) => show ans = false by
          rw [← hans, ← Bool.not_eq_true]
          exact fun e => by rw [all_dig.1 e k h] at hk; cases hk)
        clear hans h2 h4
        go_enter Tryz.func59, Tryz.ntmps59
        go_wp2_with fail
        clear hc0 z2
        go_loopw [3] (fun i wr => ∃ k : Nat, k ≤ s.size ∧ i = .int .i64 k ∧ (∀ j (h : j < s.size), j < k → isDig s[j] = true) ∧ wr = w) (fun i _ => s.size - (intOf i).toNat)
        case atStart => exact ⟨0, by omega, rfl, fun j _ h => absurd h (by omega), rfl⟩
        case round =>
          obtain ⟨k, hk, rfl, hall, rfl⟩ := hrel
          by_cases hlt : k < s.size
          · have hdk : isDig s[k] = (decide (48 ≤ s[k].toNat) && decide (s[k].toNat ≤ 57)) := rfl
            have HAL := Lib.hid hall
            have HDK := Lib.hid (fun (h : isDig s[k] = false) => HNO.out k hlt h)
            have HYE := Lib.hid (fun (h : isDig s[k] = true) => (fun j (hj : j < s.size) (hjk : j < k + 1) => (by
              by_cases e : j = k
              · subst e; exact h
              · exact hall j hj (by omega) : isDig s[j] = true)))
            rw [hdk] at HDK HYE
            obtain ⟨c, hc⟩ : ∃ c, s[k].toNat = c := ⟨_, rfl⟩
            rw [hc] at HDK HYE
            have y1 : (k : Int) < s.size := by omega
            clear hdk hall
            by_cases h48 : 48 ≤ c
            · have y2 : ¬ (c : Int) < 48 := by omega
              by_cases h57 : c ≤ 57
              · have y3 : ¬ (57 : Int) < c := by omega
                have HYE := Lib.hid (HYE.out (by rw [decide_eq_true h48, decide_eq_true h57]; rfl))
                clear HDK h48 h57
                go_wp2_with fail
                go_roundw
                case rel => exact ⟨k + 1, by omega, by go_num, HYE.out, trivial⟩
                case measure => simp [intOf]; omega
              · have y3 : (57 : Int) < c := by omega
                have ha := HDK.out (by rw [decide_eq_false h57, Bool.and_false])
                subst ha
                clear HDK HYE h48 h57
                go_wp2_with fail
                go_ret
                exact ⟨rfl, rfl⟩
            · have y2 : (c : Int) < 48 := by omega
              have ha := HDK.out (by rw [decide_eq_false h48, Bool.false_and])
              subst ha
              clear HDK HYE h48
              go_wp2_with fail
              go_ret
              exact ⟨rfl, rfl⟩
          · obtain rfl : k = s.size := by omega
            have y1 : ¬ ((s.size : Nat) : Int) < s.size := by omega
            have ha := HYS.out (fun j h => hall j h h)
            subst ha
            go_wp2_with fail
            go_ret
            exact ⟨rfl, rfl⟩
    · rw [decide_eq_false h4, Bool.false_and] at hans
      have z1 : (400 : Int) < s.size := by omega
      subst hans
      clear h1 h4
      go_enter Tryz.func59, Tryz.ntmps59
      go_wp2_with fail
      go_ret
      exact ⟨rfl, rfl⟩
  · rw [decide_eq_false h1, Bool.false_and] at hans
    have z0 : (s.size : Int) < 1 := by omega
    subst hans
    clear h1
    go_enter Tryz.func59, Tryz.ntmps59
    go_wp2_with fail
    go_ret
    exact ⟨rfl, rfl⟩

def decOk (neg : Bool) (dg : ByteArray) (ex : Int) : Bool :=
  natOk dg && (decide (dg.size ≤ 100) && (if dg.toList = [48] then decide (ex = 0) && !neg else decide (-100 ≤ ex) && (decide (ex ≤ 100) && !decide (dg.data.toList.getLast? = some 48))))

set_option maxHeartbeats 2000000 in
set_option maxRecDepth 100000 in
theorem ref_decOk (neg : Bool) (dg : ByteArray) (ex : Int) (hs : dg.size ≤ 9223372036854775807) (w : World) :
    Calls Tryz.prog 83 #[.agg #[.bool neg, .string dg, .int .i64 ex]] w fun e w' => e = .returned (.bool (decOk neg dg ex)) ∧ Below w.heap.size w w' := by
  have HN := Lib.hid (ref_natOk dg hs)
  obtain ⟨ans, hans⟩ : ∃ ans, decOk neg dg ex = ans := ⟨_, rfl⟩
  have hbx : Below w.heap.size w (w.alloc (.cells #[.bool neg, .string dg, .int .i64 ex] 34)) := (Below.refl _ _).alloc (Nat.le_refl _) _
  rw [hans]
  unfold decOk at hans
  have h1l : natOk dg = true → 1 ≤ dg.size := fun h => by
    unfold natOk at h
    rw [Bool.and_eq_true, decide_eq_true_iff] at h
    exact h.1
  cases hn : natOk dg with
  | false =>
    rw [hn] at HN hans
    subst hans
    clear hn h1l
    go_enter Tryz.func83, Tryz.ntmps83
    go_wp2_with fail
    refine (HN.out _).mono ?_
    rintro e w2 ⟨rfl, rfl⟩
    go_wp2_with fail
    all_goals go_ret
    all_goals exact ⟨rfl, hbx⟩
  | true =>
    rw [hn] at HN hans
    have h1 := h1l hn
    rw [Bool.true_and] at hans
    clear hn h1l
    by_cases h100 : dg.size ≤ 100
    · have z1 : ¬ (100 : Int) < dg.size := by omega
      rw [decide_eq_true h100, Bool.true_and] at hans
      by_cases h0 : dg.toList = [48]
      · have z2 : (dg.toList == [48]) = true := by rw [beq_iff_eq]; exact h0
        rw [if_pos h0] at hans
        by_cases he : ex = 0
        · rw [decide_eq_true he, Bool.true_and] at hans
          subst he
          subst hans
          clear h0
          go_enter Tryz.func83, Tryz.ntmps83
          go_wp2_with fail
          refine (HN.out _).mono ?_
          rintro e w2 ⟨rfl, rfl⟩
          go_wp2_with fail
          go_ret
          exact ⟨rfl, hbx⟩
        · rw [decide_eq_false he, Bool.false_and] at hans
          subst hans
          clear h0
          go_enter Tryz.func83, Tryz.ntmps83
          go_wp2_with fail
          refine (HN.out _).mono ?_
          rintro e w2 ⟨rfl, rfl⟩
          go_wp2_with fail
          go_ret
          exact ⟨rfl, hbx⟩
      · have z2 : (dg.toList == [48]) = false := by rw [beq_eq_false_iff_ne]; exact h0
        rw [if_neg h0] at hans
        clear h0
        by_cases he : -100 ≤ ex
        · rw [decide_eq_true he, Bool.true_and] at hans
          by_cases he2 : ex ≤ 100
          · rw [decide_eq_true he2, Bool.true_and] at hans
            have z3 : (1 : Int) ≤ dg.size ∧ (dg.size : Int) - 1 < dg.size := by omega
            have hlast : dg.data.toList.getLast? = some (dg[dg.size - 1]'(by omega)) := by
              rw [List.getLast?_eq_getElem?, List.getElem?_eq_getElem (by simp; omega)]
              simp [ByteArray.getElem_eq_getElem_data]
            rw [hlast] at hans
            obtain ⟨cl, hcl⟩ : ∃ cl, (dg[dg.size - 1]'(by omega)).toNat = cl := ⟨_, rfl⟩
            go_enter Tryz.func83, Tryz.ntmps83
            go_wp2_with fail
            refine (HN.out _).mono ?_
            rintro e w2 ⟨rfl, rfl⟩
            go_wp2_with fail
            go_ret
            refine ⟨?_, hbx⟩
            simp [go_sem]
            rw [← hans]
            by_cases h48 : cl = 48
            · have e : dg[dg.size - 1]'(by omega) = 48 := UInt8.toNat_inj.1 (hcl.trans h48)
              rw [decide_eq_true (congrArg some e), h48]
              rfl
            · rw [decide_eq_false (fun h => h48 (by rw [← hcl, Option.some.inj h]; rfl)), Bool.not_false, bne_iff_ne]
              omega
          · rw [decide_eq_false he2, Bool.false_and] at hans
            subst hans
            have z3 : (100 : Int) < ex := by omega
            go_enter Tryz.func83, Tryz.ntmps83
            go_wp2_with fail
            refine (HN.out _).mono ?_
            rintro e w2 ⟨rfl, rfl⟩
            go_wp2_with fail
            go_ret
            exact ⟨rfl, hbx⟩
        · rw [decide_eq_false he, Bool.false_and] at hans
          subst hans
          have z3 : ex < -100 := by omega
          go_enter Tryz.func83, Tryz.ntmps83
          go_wp2_with fail
          refine (HN.out _).mono ?_
          rintro e w2 ⟨rfl, rfl⟩
          go_wp2_with fail
          go_ret
          exact ⟨rfl, hbx⟩
    · have z1 : (100 : Int) < dg.size := by omega
      rw [decide_eq_false h100, Bool.false_and] at hans
      subst hans
      go_enter Tryz.func83, Tryz.ntmps83
      go_wp2_with fail
      refine (HN.out _).mono ?_
      rintro e w2 ⟨rfl, rfl⟩
      go_wp2_with fail
      all_goals go_ret
      all_goals exact ⟨rfl, hbx⟩

def wideB (w : Int) : Bool := decide (w = 16) || (decide (w = 32) || decide (w = 64))
theorem ref_IsWidth (wd : Int) (w : World) : Calls Tryz.prog 101 #[.int .i64 wd] w fun e w' => e = .returned (.bool (wideB wd)) ∧ w' = w := by
  unfold wideB
  by_cases h1 : wd = 16
  · subst h1
    go_enter Tryz.func101, Tryz.ntmps101
    go_wp2_with fail
    go_ret
    exact ⟨rfl, rfl⟩
  · by_cases h2 : wd = 32
    · subst h2
      go_enter Tryz.func101, Tryz.ntmps101
      go_wp2_with fail
      go_ret
      exact ⟨rfl, rfl⟩
    · rw [decide_eq_false h1, decide_eq_false h2]
      by_cases h3 : wd = 64
      · subst h3
        go_enter Tryz.func101, Tryz.ntmps101
        go_wp2_with fail
        go_ret
        exact ⟨rfl, rfl⟩
      · rw [decide_eq_false h3]
        go_enter Tryz.func101, Tryz.ntmps101
        go_wp2_with fail
        go_ret
        exact ⟨by simp [go_sem, h1, h2, h3], rfl⟩
theorem ref_sizes (wd : Int) (w : World) : Calls Tryz.prog 102 #[.int .i64 wd] w fun e w' => e = .returned (.tuple (if wd = 16 then #[.int .i64 10, .int .i64 5] else if wd = 32 then #[.int .i64 23, .int .i64 8] else #[.int .i64 52, .int .i64 11])) ∧ w' = w := by
  by_cases h1 : wd = 16
  · subst h1
    go_enter Tryz.func102, Tryz.ntmps102
    go_wp2_with fail
    go_ret2
    exact ⟨rfl, rfl⟩
  · by_cases h2 : wd = 32
    · subst h2
      go_enter Tryz.func102, Tryz.ntmps102
      go_wp2_with fail
      go_ret2
      exact ⟨rfl, rfl⟩
    · rw [if_neg h1, if_neg h2]
      go_enter Tryz.func102, Tryz.ntmps102
      go_wp2_with fail
      go_ret2
      exact ⟨rfl, rfl⟩
end Go.Proofs.YtgfeeakcpojicaaGreatDoor
/- The reference's Widen, as far as its code goes. -/
namespace Go.Proofs.YtgfeeakcpojicaaGreatDoor
open Go.RowKit Go.Shelf

theorem and_mask (a m : Int) (ha : 0 ≤ a) (ha2 : a < 18446744073709551616) (hm : 0 ≤ m) (hm2 : m < 18446744073709551616) : 0 ≤ bits .and .u64 a m ∧ bits .and .u64 a m ≤ m := by
  obtain ⟨x, rfl⟩ := Int.eq_ofNat_of_zero_le ha
  obtain ⟨y, rfl⟩ := Int.eq_ofNat_of_zero_le hm
  rw [bits_and_u64_nat x y (by omega) (by omega)]
  have : x &&& y ≤ y := Nat.and_le_right
  omega
theorem sizes16 (w : World) : Calls Tryz.prog 102 #[.int .i64 16] w fun e w' => e = .returned (.tuple #[.int .i64 10, .int .i64 5]) ∧ w' = w := ref_sizes 16 w
theorem sizes32 (w : World) : Calls Tryz.prog 102 #[.int .i64 32] w fun e w' => e = .returned (.tuple #[.int .i64 23, .int .i64 8]) ∧ w' = w := ref_sizes 32 w

set_option maxHeartbeats 4000000 in
set_option maxRecDepth 100000 in
theorem widen16 (u : Int) (h0 : 0 ≤ u) (hu : u < 18446744073709551616) (w : World) :
    Calls Tryz.prog 84 #[.int .u64 u, .int .i64 16] w fun e w' => (∃ r, e = .returned (.tuple #[.int .u64 r, .int .i64 (if decide (u < 65536) = true then 0 else 2)])) ∧ Below w.heap.size w w' := by
  have HW := Lib.hid (show ∀ w, Calls Tryz.prog 101 #[.int .i64 16] w fun e w' => e = .returned (.bool true) ∧ w' = w from ref_IsWidth 16)
  have HS := Lib.hid sizes16
  by_cases h : u < 65536
  · rw [decide_eq_true h]
    have z1 : (u / 65536 != 0) = false := by rw [bne_eq_false_iff_eq]; omega
    have hf := and_mask u 1023 h0 hu (by omega) (by omega)
    obtain ⟨f, hff⟩ : ∃ f, bits .and .u64 u 1023 = f := ⟨_, rfl⟩
    rw [hff] at hf
    obtain ⟨ev, hev⟩ : ∃ ev, wrap64 (bits .and .u64 (u / 1024) 31) = ev := ⟨_, rfl⟩
    clear h
    go_enter Tryz.func84, Tryz.ntmps84
    go_wp2_with fail
    refine (HW.out _).mono ?_
    rintro e w2 ⟨rfl, rfl⟩
    clear HW
    go_wp2_with fail
    refine (HS.out _).mono ?_
    rintro e w2 ⟨rfl, rfl⟩
    clear HS
    go_wp2_with fail
    go_region
    have hdr : Below w2.heap.size w2 w2.drew := (Below.refl _ _).drew
    go_wp2_with fail
    · go_ret2
      exact ⟨⟨_, rfl⟩, hdr⟩
    · go_ret2
      exact ⟨⟨_, rfl⟩, hdr⟩
    · have hf0 : f ≠ 0 := by
        intro e
        have hq : (f == 0) = false := by assumption
        rw [e] at hq
        exact absurd hq (by decide)
      go_loopw [9, 10] (fun i j wr => ∃ ei fi : Int, 0 < fi ∧ fi ≤ 2048 ∧ i = .int .i64 ei ∧ j = .int .u64 fi ∧ wr = w2.drew) (fun _ j _ => 2048 - (intOf j).toNat)
      case atStart => exact ⟨1, f, by omega, by omega, rfl, rfl, rfl⟩
      case round =>
        obtain ⟨ei, fi, hf1, hf2, rfl, rfl, rfl⟩ := hrel
        by_cases hlt : fi < 1024
        · have y1 : fi / 1024 = 0 := by omega
          have y2 : (2 * fi) % 18446744073709551616 = 2 * fi := by omega
          have y3 : IntKind.u64.wrap (2 * fi) = 2 * fi := by rw [IntKind.wrap_u64]; omega
          go_wp2_with fail
          go_roundw
          case rel => exact ⟨_, 2 * fi, by omega, by omega, rfl, by go_num, trivial⟩
          case measure => simp [intOf]; omega
        · have y1 : ¬ fi / 1024 = 0 := by omega
          go_wp2_with fail
          all_goals go_ret2
          all_goals exact ⟨⟨_, rfl⟩, hdr⟩
    · go_ret2
      exact ⟨⟨_, rfl⟩, hdr⟩
  · rw [decide_eq_false h]
    have z1 : (u / 65536 != 0) = true := by rw [bne_iff_ne]; omega
    go_enter Tryz.func84, Tryz.ntmps84
    go_wp2_with fail
    refine (HW.out _).mono ?_
    rintro e w2 ⟨rfl, rfl⟩
    go_wp2_with fail
    go_ret2
    exact ⟨⟨_, rfl⟩, Below.refl _ _⟩

set_option maxHeartbeats 4000000 in
set_option maxRecDepth 100000 in
theorem widen32 (u : Int) (h0 : 0 ≤ u) (hu : u < 18446744073709551616) (w : World) :
    Calls Tryz.prog 84 #[.int .u64 u, .int .i64 32] w fun e w' => (∃ r, e = .returned (.tuple #[.int .u64 r, .int .i64 (if decide (u < 4294967296) = true then 0 else 2)])) ∧ Below w.heap.size w w' := by
  have HW := Lib.hid (show ∀ w, Calls Tryz.prog 101 #[.int .i64 32] w fun e w' => e = .returned (.bool true) ∧ w' = w from ref_IsWidth 32)
  have HS := Lib.hid sizes32
  by_cases h : u < 4294967296
  · rw [decide_eq_true h]
    have z1 : (u / 4294967296 != 0) = false := by rw [bne_eq_false_iff_eq]; omega
    have hf := and_mask u 8388607 h0 hu (by omega) (by omega)
    obtain ⟨f, hff⟩ : ∃ f, bits .and .u64 u 8388607 = f := ⟨_, rfl⟩
    rw [hff] at hf
    obtain ⟨ev, hev⟩ : ∃ ev, wrap64 (bits .and .u64 (u / 8388608) 255) = ev := ⟨_, rfl⟩
    clear h
    go_enter Tryz.func84, Tryz.ntmps84
    go_wp2_with fail
    refine (HW.out _).mono ?_
    rintro e w2 ⟨rfl, rfl⟩
    clear HW
    go_wp2_with fail
    refine (HS.out _).mono ?_
    rintro e w2 ⟨rfl, rfl⟩
    clear HS
    go_wp2_with fail
    go_region
    have hdr : Below w2.heap.size w2 w2.drew := (Below.refl _ _).drew
    go_wp2_with fail
    · go_ret2
      exact ⟨⟨_, rfl⟩, hdr⟩
    · go_ret2
      exact ⟨⟨_, rfl⟩, hdr⟩
    · have hf0 : f ≠ 0 := by
        intro e
        have hq : (f == 0) = false := by assumption
        rw [e] at hq
        exact absurd hq (by decide)
      go_loopw [9, 10] (fun i j wr => ∃ ei fi : Int, 0 < fi ∧ fi ≤ 16777216 ∧ i = .int .i64 ei ∧ j = .int .u64 fi ∧ wr = w2.drew) (fun _ j _ => 16777216 - (intOf j).toNat)
      case atStart => exact ⟨1, f, by omega, by omega, rfl, rfl, rfl⟩
      case round =>
        obtain ⟨ei, fi, hf1, hf2, rfl, rfl, rfl⟩ := hrel
        by_cases hlt : fi < 8388608
        · have y1 : fi / 8388608 = 0 := by omega
          have y2 : (2 * fi) % 18446744073709551616 = 2 * fi := by omega
          have y3 : IntKind.u64.wrap (2 * fi) = 2 * fi := by rw [IntKind.wrap_u64]; omega
          go_wp2_with fail
          go_roundw
          case rel => exact ⟨_, 2 * fi, by omega, by omega, rfl, by go_num, trivial⟩
          case measure => simp [intOf]; omega
        · have y1 : ¬ fi / 8388608 = 0 := by omega
          go_wp2_with fail
          all_goals go_ret2
          all_goals exact ⟨⟨_, rfl⟩, hdr⟩
    · go_ret2
      exact ⟨⟨_, rfl⟩, hdr⟩
  · rw [decide_eq_false h]
    have z1 : (u / 4294967296 != 0) = true := by rw [bne_iff_ne]; omega
    go_enter Tryz.func84, Tryz.ntmps84
    go_wp2_with fail
    refine (HW.out _).mono ?_
    rintro e w2 ⟨rfl, rfl⟩
    go_wp2_with fail
    go_ret2
    exact ⟨⟨_, rfl⟩, Below.refl _ _⟩

def wideOk (u : Int) (wd : Int) : Bool := if wd = 64 then true else if wd = 16 then decide (u < 65536) else if wd = 32 then decide (u < 4294967296) else false
set_option maxHeartbeats 2000000 in
set_option maxRecDepth 100000 in
theorem ref_Widen (u wd : Int) (h0 : 0 ≤ u) (hu : u < 18446744073709551616) (w : World) :
    Calls Tryz.prog 84 #[.int .u64 u, .int .i64 wd] w fun e w' => (∃ r, e = .returned (.tuple #[.int .u64 r, .int .i64 (if wideOk u wd = true then 0 else 2)])) ∧ Below w.heap.size w w' := by
  have HW := Lib.hid (ref_IsWidth wd)
  unfold wideB at HW
  unfold wideOk
  by_cases h1 : wd = 64
  · subst h1
    have HW := Lib.hid (show ∀ w, Calls Tryz.prog 101 #[.int .i64 64] w fun e w' => e = .returned (.bool true) ∧ w' = w from ref_IsWidth 64)
    rw [if_pos rfl]
    go_enter Tryz.func84, Tryz.ntmps84
    go_wp2_with fail
    refine (HW.out _).mono ?_
    rintro e w2 ⟨rfl, rfl⟩
    go_wp2_with fail
    go_ret2
    exact ⟨⟨_, rfl⟩, Below.refl _ _⟩
  · rw [if_neg h1]
    by_cases h2 : wd = 16
    · subst h2
      rw [if_pos rfl]
      exact widen16 u h0 hu w
    · rw [if_neg h2]
      by_cases h3 : wd = 32
      · subst h3
        rw [if_pos rfl]
        exact widen32 u h0 hu w
      · rw [if_neg h3]
        rw [decide_eq_false h1, decide_eq_false h2, decide_eq_false h3] at HW
        go_enter Tryz.func84, Tryz.ntmps84
        go_wp2_with fail
        refine (HW.out _).mono ?_
        rintro e w2 ⟨rfl, rfl⟩
        go_wp2_with fail
        go_ret2
        exact ⟨⟨_, rfl⟩, Below.refl _ _⟩
end Go.Proofs.YtgfeeakcpojicaaGreatDoor
