/- The texts RtB, WrA, DecP, JsA, put together. -/
import Derived.Test.YtfckekaegjjmkaaGreatDoorPd13
import Derived.Test.YtfckekaegjjmkaaGreatDoorPd09
import Derived.Test.YtfckekaegjjmkaaGreatDoorPd10
import Derived.Test.YtfckekaegjjmkaaGreatDoorPd12
namespace Go.Proofs.YtfckekaegjjmkaaGreatDoor
open Go.RowKit Go.Shelf

set_option maxHeartbeats 2000000 in
set_option maxRecDepth 100000 in
theorem ref_natOk (s : ByteArray) (hs : s.size ≤ 9223372036854775807) (w : World) :
    Calls Tryz.prog 100 #[.string s] w fun e w' => e = .returned (.bool (natOk s)) ∧ w' = w := by
  obtain ⟨ans, hans⟩ : ∃ ans, natOk s = ans := ⟨_, rfl⟩
  rw [hans]
  unfold natOk at hans
  by_cases h1 : 1 ≤ s.size
  · rw [decide_eq_true h1, Bool.true_and] at hans
    have z0 : ¬ (s.size : Int) < 1 := by omega
    by_cases h4 : s.size ≤ 400
    · rw [decide_eq_true h4, Bool.true_and] at hans
      have z1 : ¬ (400 : Int) < s.size := by omega
      rw [head_at0 s h1] at hans
      obtain ⟨c0, hc0⟩ : ∃ c0, s[0].toNat = c0 := ⟨_, rfl⟩
      have hd48 : decide (some s[0] = some (48 : UInt8)) = decide (c0 = 48) := by
        rw [← hc0]
        by_cases e : s[0].toNat = 48
        · rw [decide_eq_true e, decide_eq_true (congrArg some (UInt8.toNat_inj.1 e))]
        · rw [decide_eq_false e, decide_eq_false (fun h => e (by rw [Option.some.inj h]; rfl))]
      rw [hd48] at hans
      clear hd48
      by_cases h2 : 1 < s.size
      · have z2 : (1 : Int) < s.size := by omega
        rw [decide_eq_true h2, Bool.true_and] at hans
        by_cases h3 : c0 = 48
        · subst h3
          rw [decide_eq_true rfl] at hans
          have ha : ans = false := by rw [← hans]; rfl
          subst ha
          clear hans h4 h2
          go_enter Tryz.func100, Tryz.ntmps100
          go_wp2_with fail
          go_ret
          exact ⟨rfl, rfl⟩
        · rw [decide_eq_false h3, Bool.not_false, Bool.true_and] at hans
          have z3 : ¬ (c0 : Int) = 48 := by omega
          have z4 : ((c0 : Int) == 48) = false := by rw [beq_eq_false_iff_ne]; exact z3
          have HYS := Lib.hid (fun (h : ∀ j (h : j < s.size), isDig s[j] = true) => hans.symm.trans (all_dig.2 h))
          have HNO := Lib.hid (fun k (h : k < s.size) (hk : isDig s[k] = false) => show ans = false by
            rw [← hans, ← Bool.not_eq_true]
            exact fun e => by rw [all_dig.1 e k h] at hk; cases hk)
          clear hans h3 h2 h4
          go_enter Tryz.func100, Tryz.ntmps100
          go_wp2_with fail
          clear z4 z3 hc0 z2
          go_loopw [3] (fun i wr => ∃ k : Nat, k ≤ s.size ∧ i = .int .i64 k ∧ (∀ j (h : j < s.size), j < k → isDig s[j] = true) ∧ wr = w) (fun i _ => s.size - (intOf i).toNat)
          case atStart => exact ⟨0, by omega, rfl, fun j _ h => absurd h (by omega), rfl⟩
          case round =>
            obtain ⟨k, hk, rfl, hall, rfl⟩ := hrel
            by_cases hlt : k < s.size
            · have hdk : isDig s[k] = (decide (48 ≤ s[k].toNat) && decide (s[k].toNat ≤ 57)) := rfl
              have HAL := Lib.hid hall
              have HDK := Lib.hid (fun (h : isDig s[k] = false) => HNO.out k hlt h)
              have HYE := Lib.hid (fun (h : isDig s[k] = true) => (fun j (hj : j < s.size) (hjk : j < k + 1) => (by
                by_cases e : j = k
                · subst e; exact h
                · exact hall j hj (by omega) : isDig s[j] = true)))
              rw [hdk] at HDK HYE
              obtain ⟨c, hc⟩ : ∃ c, s[k].toNat = c := ⟨_, rfl⟩
              rw [hc] at HDK HYE
              have y1 : (k : Int) < s.size := by omega
              clear hdk hall
              by_cases h48 : 48 ≤ c
              · have y2 : ¬ (c : Int) < 48 := by omega
                by_cases h57 : c ≤ 57
                · have y3 : ¬ (57 : Int) < c := by omega
                  have HYE := Lib.hid (HYE.out (by rw [decide_eq_true h48, decide_eq_true h57]; rfl))
                  clear HDK h48 h57
                  go_wp2_with fail
                  go_roundw
                  case rel => exact ⟨k + 1, by omega, by go_num, HYE.out, trivial⟩
                  case measure => simp [intOf]; omega
                · have y3 : (57 : Int) < c := by omega
                  have ha := HDK.out (by rw [decide_eq_false h57, Bool.and_false])
                  subst ha
                  clear HDK HYE h48 h57
                  go_wp2_with fail
                  go_ret
                  exact ⟨rfl, rfl⟩
              · have y2 : (c : Int) < 48 := by omega
                have ha := HDK.out (by rw [decide_eq_false h48, Bool.false_and])
                subst ha
                clear HDK HYE h48
                go_wp2_with fail
                go_ret
                exact ⟨rfl, rfl⟩
            · obtain rfl : k = s.size := by omega
              have y1 : ¬ ((s.size : Nat) : Int) < s.size := by omega
              have ha := HYS.out (fun j h => hall j h h)
              subst ha
              go_wp2_with fail
              go_ret
              exact ⟨rfl, rfl⟩
      · have z2 : ¬ (1 : Int) < s.size := by omega
        rw [decide_eq_false h2, Bool.false_and, Bool.not_false, Bool.true_and] at hans
        have HYS := Lib.hid (fun (h : ∀ j (h : j < s.size), isDig s[j] = true) => hans.symm.trans (all_dig.2 h))
        have HNO := Lib.hid (fun k (h : k < s.size) (hk : isDig s[k] = false) => show ans = false by
          rw [← hans, ← Bool.not_eq_true]
          exact fun e => by rw [all_dig.1 e k h] at hk; cases hk)
        clear hans h2 h4
        go_enter Tryz.func100, Tryz.ntmps100
        go_wp2_with fail
        clear hc0 z2
        go_loopw [3] (fun i wr => ∃ k : Nat, k ≤ s.size ∧ i = .int .i64 k ∧ (∀ j (h : j < s.size), j < k → isDig s[j] = true) ∧ wr = w) (fun i _ => s.size - (intOf i).toNat)
        case atStart => exact ⟨0, by omega, rfl, fun j _ h => absurd h (by omega), rfl⟩
        case round =>
          obtain ⟨k, hk, rfl, hall, rfl⟩ := hrel
          by_cases hlt : k < s.size
          · have hdk : isDig s[k] = (decide (48 ≤ s[k].toNat) && decide (s[k].toNat ≤ 57)) := rfl
            have HAL := Lib.hid hall
            have HDK := Lib.hid (fun (h : isDig s[k] = false) => HNO.out k hlt h)
            have HYE := Lib.hid (fun (h : isDig s[k] = true) => (fun j (hj : j < s.size) (hjk : j < k + 1) => (by
              by_cases e : j = k
              · subst e; exact h
              · exact hall j hj (by omega) : isDig s[j] = true)))
            rw [hdk] at HDK HYE
            obtain ⟨c, hc⟩ : ∃ c, s[k].toNat = c := ⟨_, rfl⟩
            rw [hc] at HDK HYE
            have y1 : (k : Int) < s.size := by omega
            clear hdk hall
            by_cases h48 : 48 ≤ c
            · have y2 : ¬ (c : Int) < 48 := by omega
              by_cases h57 : c ≤ 57
              · have y3 : ¬ (57 : Int) < c := by omega
                have HYE := Lib.hid (HYE.out (by rw [decide_eq_true h48, decide_eq_true h57]; rfl))
                clear HDK h48 h57
                go_wp2_with fail
                go_roundw
                case rel => exact ⟨k + 1, by omega, by go_num, HYE.out, trivial⟩
                case measure => simp [intOf]; omega
              · have y3 : (57 : Int) < c := by omega
                have ha := HDK.out (by rw [decide_eq_false h57, Bool.and_false])
                subst ha
                clear HDK HYE h48 h57
                go_wp2_with fail
                go_ret
                exact ⟨rfl, rfl⟩
            · have y2 : (c : Int) < 48 := by omega
              have ha := HDK.out (by rw [decide_eq_false h48, Bool.false_and])
              subst ha
              clear HDK HYE h48
              go_wp2_with fail
              go_ret
              exact ⟨rfl, rfl⟩
          · obtain rfl : k = s.size := by omega
            have y1 : ¬ ((s.size : Nat) : Int) < s.size := by omega
            have ha := HYS.out (fun j h => hall j h h)
            subst ha
            go_wp2_with fail
            go_ret
            exact ⟨rfl, rfl⟩
    · rw [decide_eq_false h4, Bool.false_and] at hans
      have z1 : (400 : Int) < s.size := by omega
      subst hans
      clear h1 h4
      go_enter Tryz.func100, Tryz.ntmps100
      go_wp2_with fail
      go_ret
      exact ⟨rfl, rfl⟩
  · rw [decide_eq_false h1, Bool.false_and] at hans
    have z0 : (s.size : Int) < 1 := by omega
    subst hans
    clear h1
    go_enter Tryz.func100, Tryz.ntmps100
    go_wp2_with fail
    go_ret
    exact ⟨rfl, rfl⟩

set_option maxHeartbeats 2000000 in
set_option maxRecDepth 100000 in
theorem ref_decOk (neg : Bool) (dg : ByteArray) (ex : Int) (hs : dg.size ≤ 9223372036854775807) (w : World) :
    Calls Tryz.prog 65 #[.agg #[.bool neg, .string dg, .int .i64 ex]] w fun e w' => e = .returned (.bool (decOk neg dg ex)) ∧ Below w.heap.size w w' := by
  have HN := Lib.hid (ref_natOk dg hs)
  obtain ⟨ans, hans⟩ : ∃ ans, decOk neg dg ex = ans := ⟨_, rfl⟩
  have hbx : Below w.heap.size w (w.alloc (.cells #[.bool neg, .string dg, .int .i64 ex] 23)) := (Below.refl _ _).alloc (Nat.le_refl _) _
  rw [hans]
  unfold decOk at hans
  have h1l : natOk dg = true → 1 ≤ dg.size := fun h => by
    unfold natOk at h
    rw [Bool.and_eq_true, decide_eq_true_iff] at h
    exact h.1
  cases hn : natOk dg with
  | false =>
    rw [hn] at HN hans
    subst hans
    clear hn h1l
    go_enter Tryz.func65, Tryz.ntmps65
    go_wp2_with fail
    refine (HN.out _).mono ?_
    rintro e w2 ⟨rfl, rfl⟩
    go_wp2_with fail
    all_goals go_ret
    all_goals exact ⟨rfl, hbx⟩
  | true =>
    rw [hn] at HN hans
    have h1 := h1l hn
    rw [Bool.true_and] at hans
    clear hn h1l
    by_cases h100 : dg.size ≤ 100
    · have z1 : ¬ (100 : Int) < dg.size := by omega
      rw [decide_eq_true h100, Bool.true_and] at hans
      by_cases h0 : dg.toList = [48]
      · have z2 : (dg.toList == [48]) = true := by rw [beq_iff_eq]; exact h0
        rw [if_pos h0] at hans
        by_cases he : ex = 0
        · rw [decide_eq_true he, Bool.true_and] at hans
          subst he
          subst hans
          clear h0
          go_enter Tryz.func65, Tryz.ntmps65
          go_wp2_with fail
          refine (HN.out _).mono ?_
          rintro e w2 ⟨rfl, rfl⟩
          go_wp2_with fail
          go_ret
          exact ⟨rfl, hbx⟩
        · rw [decide_eq_false he, Bool.false_and] at hans
          subst hans
          clear h0
          go_enter Tryz.func65, Tryz.ntmps65
          go_wp2_with fail
          refine (HN.out _).mono ?_
          rintro e w2 ⟨rfl, rfl⟩
          go_wp2_with fail
          go_ret
          exact ⟨rfl, hbx⟩
      · have z2 : (dg.toList == [48]) = false := by rw [beq_eq_false_iff_ne]; exact h0
        rw [if_neg h0] at hans
        clear h0
        by_cases he : -100 ≤ ex
        · rw [decide_eq_true he, Bool.true_and] at hans
          by_cases he2 : ex ≤ 100
          · rw [decide_eq_true he2, Bool.true_and] at hans
            have z3 : (1 : Int) ≤ dg.size ∧ (dg.size : Int) - 1 < dg.size := by omega
            have hlast : dg.data.toList.getLast? = some (dg[dg.size - 1]'(by omega)) := by
              rw [List.getLast?_eq_getElem?, List.getElem?_eq_getElem (by simp; omega)]
              simp [ByteArray.getElem_eq_getElem_data]
            rw [hlast] at hans
            obtain ⟨cl, hcl⟩ : ∃ cl, (dg[dg.size - 1]'(by omega)).toNat = cl := ⟨_, rfl⟩
            go_enter Tryz.func65, Tryz.ntmps65
            go_wp2_with fail
            refine (HN.out _).mono ?_
            rintro e w2 ⟨rfl, rfl⟩
            go_wp2_with fail
            go_ret
            refine ⟨?_, hbx⟩
            simp [go_sem]
            rw [← hans]
            by_cases h48 : cl = 48
            · have e : dg[dg.size - 1]'(by omega) = 48 := UInt8.toNat_inj.1 (hcl.trans h48)
              rw [decide_eq_true (congrArg some e), h48]
              rfl
            · rw [decide_eq_false (fun h => h48 (by rw [← hcl, Option.some.inj h]; rfl)), Bool.not_false, bne_iff_ne]
              omega
          · rw [decide_eq_false he2, Bool.false_and] at hans
            subst hans
            have z3 : (100 : Int) < ex := by omega
            go_enter Tryz.func65, Tryz.ntmps65
            go_wp2_with fail
            refine (HN.out _).mono ?_
            rintro e w2 ⟨rfl, rfl⟩
            go_wp2_with fail
            go_ret
            exact ⟨rfl, hbx⟩
        · rw [decide_eq_false he, Bool.false_and] at hans
          subst hans
          have z3 : ex < -100 := by omega
          go_enter Tryz.func65, Tryz.ntmps65
          go_wp2_with fail
          refine (HN.out _).mono ?_
          rintro e w2 ⟨rfl, rfl⟩
          go_wp2_with fail
          go_ret
          exact ⟨rfl, hbx⟩
    · have z1 : (100 : Int) < dg.size := by omega
      rw [decide_eq_false h100, Bool.false_and] at hans
      subst hans
      go_enter Tryz.func65, Tryz.ntmps65
      go_wp2_with fail
      refine (HN.out _).mono ?_
      rintro e w2 ⟨rfl, rfl⟩
      go_wp2_with fail
      all_goals go_ret
      all_goals exact ⟨rfl, hbx⟩

theorem ref_IsWidth (wd : Int) (w : World) : Calls Tryz.prog 108 #[.int .i64 wd] w fun e w' => e = .returned (.bool (wideB wd)) ∧ w' = w := by
  unfold wideB
  by_cases h1 : wd = 16
  · subst h1
    go_enter Tryz.func108, Tryz.ntmps108
    go_wp2_with fail
    go_ret
    exact ⟨rfl, rfl⟩
  · by_cases h2 : wd = 32
    · subst h2
      go_enter Tryz.func108, Tryz.ntmps108
      go_wp2_with fail
      go_ret
      exact ⟨rfl, rfl⟩
    · rw [decide_eq_false h1, decide_eq_false h2]
      by_cases h3 : wd = 64
      · subst h3
        go_enter Tryz.func108, Tryz.ntmps108
        go_wp2_with fail
        go_ret
        exact ⟨rfl, rfl⟩
      · rw [decide_eq_false h3]
        go_enter Tryz.func108, Tryz.ntmps108
        go_wp2_with fail
        go_ret
        exact ⟨by simp [go_sem, h1, h2, h3], rfl⟩
theorem ref_sizes (wd : Int) (w : World) : Calls Tryz.prog 109 #[.int .i64 wd] w fun e w' => e = .returned (.tuple (if wd = 16 then #[.int .i64 10, .int .i64 5] else if wd = 32 then #[.int .i64 23, .int .i64 8] else #[.int .i64 52, .int .i64 11])) ∧ w' = w := by
  by_cases h1 : wd = 16
  · subst h1
    go_enter Tryz.func109, Tryz.ntmps109
    go_wp2_with fail
    go_ret2
    exact ⟨rfl, rfl⟩
  · by_cases h2 : wd = 32
    · subst h2
      go_enter Tryz.func109, Tryz.ntmps109
      go_wp2_with fail
      go_ret2
      exact ⟨rfl, rfl⟩
    · rw [if_neg h1, if_neg h2]
      go_enter Tryz.func109, Tryz.ntmps109
      go_wp2_with fail
      go_ret2
      exact ⟨rfl, rfl⟩
end Go.Proofs.YtfckekaegjjmkaaGreatDoor
namespace Go.Proofs.YtfckekaegjjmkaaGreatDoor
open Go.RowKit Go.Shelf

set_option maxHeartbeats 2000000 in
set_option maxRecDepth 100000 in
theorem ref_zeros (e : Int) (he : e ≤ 1000000) (w : World) :
    Calls Tryz.prog 73 #[.int .i64 e] w fun x w' => x = .returned (.string ⟨(List.replicate e.toNat (48 : UInt8)).toArray⟩) ∧ w' = w := by
  obtain ⟨n, hn⟩ : ∃ n, e.toNat = n := ⟨_, rfl⟩
  rw [hn]
  obtain ⟨r, hr⟩ : ∃ r : ByteArray, ⟨(List.replicate n (48 : UInt8)).toArray⟩ = r := ⟨_, rfl⟩
  rw [hr]
  have HR := Lib.hid hr
  clear hr
  go_enter Tryz.func73, Tryz.ntmps73
  go_wp2_with fail
  go_loopw [3, 4] (fun s i wr => ∃ (k : Nat) (x : ByteArray), k ≤ n ∧ i = .int .i64 k ∧ s = .string x ∧ x.data.toList = List.replicate k 48 ∧ wr = w) (fun _ i _ => n - (intOf i).toNat)
  case atStart => exact ⟨0, ⟨#[]⟩, by omega, rfl, rfl, rfl, rfl⟩
  case round =>
    obtain ⟨k, x, hk, rfl, rfl, hx, rfl⟩ := hrel
    have hsz : x.size = k := by
      have e1 : x.data.toList.length = x.size := by simp
      rw [hx, List.length_replicate] at e1
      exact e1.symm
    by_cases hlt : k < n
    · have y1 : (k : Int) < e := by omega
      have y2 : x.size ≤ 1000000 := by omega
      have HX := Lib.hid hx
      have HN := Lib.hid hn
      clear hx hn hsz
      go_wp2_with fail
      go_roundw
      case rel => exact ⟨k + 1, x ++ ⟨#[48]⟩, by omega, by go_num, rfl, by rw [append_list, HX.out, List.replicate_succ'], trivial⟩
      case measure => simp [intOf]; omega
    · obtain rfl : k = n := by omega
      have y1 : ¬ (k : Int) < e := by omega
      have hx' : x = r := str_ext (by rw [hx, ← HR.out])
      subst hx'
      clear hx hn hsz HR
      go_wp2_with fail
      go_ret
      exact ⟨rfl, rfl⟩

theorem natR_of {s : ByteArray} (h : natOk s = true) : natR s.data.toList = true := by
  obtain ⟨n1, n2, n3⟩ := natOk_parts h
  unfold natOk at h
  rw [Bool.and_eq_true, Bool.and_eq_true, Bool.and_eq_true] at h
  have h3 := h.2.2.1
  unfold natR
  have e2 : s.data.toList.length = s.size := by simp
  rw [e2, decide_eq_true n2, Bool.true_and, Bool.or_eq_true, decide_eq_true_iff, bne_iff_ne]
  rw [Bool.not_eq_true', Bool.and_eq_false_iff, decide_eq_false_iff_not, decide_eq_false_iff_not] at h3
  rcases h3 with h3 | h3
  · exact .inl (by omega)
  · exact .inr h3
theorem nat_digs {s : ByteArray} (h : natOk s = true) : ∀ c ∈ s.data.toList, isDig c = true := by
  unfold natOk at h
  rw [Bool.and_eq_true, Bool.and_eq_true, Bool.and_eq_true] at h
  exact fun c hc => List.all_eq_true.1 h.2.2.2 c hc

set_option maxHeartbeats 4000000 in
set_option maxRecDepth 100000 in
theorem ref_ToInt (neg : Bool) (dg : ByteArray) (ex : Int) (hs : dg.size ≤ 9223372036854775807) (w : World) :
    Calls Tryz.prog 70 #[.agg #[.bool neg, .string dg, .int .i64 ex]] w fun e w' => e = .returned (toIntV (toIntD neg dg ex)) ∧ Below w.heap.size w w' := by
  obtain ⟨ans, hans⟩ : ∃ ans, toIntD neg dg ex = ans := ⟨_, rfl⟩
  rw [hans]
  unfold toIntD at hans
  have HR := Lib.hid (ref_decOk neg dg ex hs)
  have hbx : Below w.heap.size w (w.alloc (.cells #[.bool neg, .string dg, .int .i64 ex] 23)) := (Below.refl _ _).alloc (Nat.le_refl _) _
  have hkx := Blk.new w #[.bool neg, .string dg, .int .i64 ex] 23
  have c0 := hkx.cell 0
  have c1 := hkx.cell 1
  have c2 := hkx.cell 2
  cases hd : decOk neg dg ex with
  | false =>
    rw [hd] at HR hans
    rw [if_neg (fun q => absurd q.1 (by decide))] at hans
    subst hans
    clear hd
    go_enter Tryz.func70, Tryz.ntmps70
    go_wp2_with fail
    refine (HR.out _).mono ?_
    rintro e w1 ⟨rfl, hb⟩
    have hb2 := hbx.trans (hb.mono hbx.size)
    clear hb hbx
    go_wp2_with fail
    refine bodyPost_ret (v := .tuple #[.bool false, .int .u64 0, .bool false]) (by simp [results, Tryz.results70, go_sem]) rfl ⟨rfl, hb2⟩
  | true =>
    by_cases hx : 0 ≤ ex ∧ ex ≤ 20
    · obtain ⟨x0, x1⟩ := hx
      have hd' := hd
      rw [hd] at HR hans
      have h100 : dg.size ≤ 100 := by
        unfold decOk at hd'
        rw [Bool.and_eq_true, Bool.and_eq_true, decide_eq_true_iff] at hd'
        exact hd'.2.1
      obtain ⟨r, hr⟩ : ∃ r : ByteArray, (⟨(List.replicate ex.toNat (48 : UInt8)).toArray⟩ : ByteArray) = r := ⟨_, rfl⟩
      have hrl : r.data.toList = List.replicate ex.toNat 48 := by rw [← hr]
      have y4 : dg.size + r.size ≤ 1000000 := by
        have e1 : r.data.toList.length = r.size := by simp
        rw [hrl, List.length_replicate] at e1
        omega
      have y5 : ¬ 9223372036854775807 < dg.size + r.size := by omega
      obtain ⟨s, hse⟩ : ∃ s, dg ++ r = s := ⟨_, rfl⟩
      have hsl : s.data.toList = dg.data.toList ++ List.replicate ex.toNat 48 := by rw [← hse, append_list, hrl]
      obtain ⟨g1, g2⟩ := whole_nat hd' x0 x1 hsl
      obtain ⟨g3, hsz, _⟩ := natOk_parts g1
      have HP : Hid (∀ w, Calls Tryz.prog 73 #[.int .i64 ex] w fun e w' => e = .returned (.string r) ∧ w' = w) := Lib.hid (fun w => by
        have := ref_zeros ex (by omega) w
        rw [← hr]
        exact this)
      have HT := Lib.hid (ref_To s (by omega) g3 (nat_digs g1))
      rw [natR_of g1, g2] at HT
      obtain ⟨wn, hwn⟩ : ∃ wn, wholeN dg ex = wn := ⟨_, rfl⟩
      rw [hwn] at HT hans
      obtain ⟨vn, vb, hv1, hv2⟩ : ∃ (vn : Int) (vb : Bool), (if true = true ∧ wn ≤ 18446744073709551615 then Value.tuple #[.int .u64 (wn : Nat), .bool true] else .tuple #[.int .u64 0, .bool false]) = .tuple #[.int .u64 vn, .bool vb] ∧ toIntV ans = (if vb = true then .tuple #[.bool neg, .int .u64 vn, .bool true] else .tuple #[.bool false, .int .u64 0, .bool false]) := by
        rw [← hans]
        by_cases q : wn < 18446744073709551616
        · rw [if_pos ⟨rfl, by omega⟩, if_pos ⟨rfl, x0, x1, q⟩]
          exact ⟨wn, true, rfl, rfl⟩
        · rw [if_neg (fun z => q (by omega)), if_neg (fun z => q z.2.2.2)]
          exact ⟨0, false, rfl, rfl⟩
      rw [hv1] at HT
      rw [hv2]
      have HSE := Lib.hid hse
      clear hd hd' hans hsl hrl hr g1 g2 g3 hwn hse hsz h100 hv1 hv2
      go_enter Tryz.func70, Tryz.ntmps70
      go_wp2_with fail
      refine (HR.out _).mono ?_
      rintro e w1 ⟨rfl, hb⟩
      have hb2 := hbx.trans (hb.mono hbx.size)
      have hk2 := hkx.below hb hkx.lt
      have d0 := hk2.cell 0
      have d1 := hk2.cell 1
      have d2 := hk2.cell 2
      clear hb hbx hkx c0 c1 c2 HR
      go_wp2_with fail
      go_region_held3 (fun w' => w'.cell? ⟨w.heap.size, 0, none⟩ = some (.bool neg) ∧ w'.cell? ⟨w.heap.size, 1, none⟩ = some (.string dg) ∧ w'.cell? ⟨w.heap.size, 2, none⟩ = some (.int .i64 ex)) (go_keep)
        (first | (go_at_call 73; refine (HP.out _).mono ?_; rintro e w4 ⟨rfl, rfl⟩) | (go_at_call 111; rw [HSE.out]; refine (HT.out _).mono ?_; rintro e w5 ⟨rfl, hb5⟩; have hk5 := (Blk.drew hk2).below hb5 (Blk.drew hk2).lt; have c50 := hk5.cell 0; have c51 := hk5.cell 1; have c52 := hk5.cell 2))
      have hb6 : Below w.heap.size w w5 := (below_drewN hb2 1).trans (hb5.mono hb2.size)
      clear hb2 hb5 hk2 d0 d1 d2 HT HP
      cases vb with
      | true =>
        go_wp2_with fail
        refine bodyPost_ret (v := .tuple #[.bool neg, .int .u64 vn, .bool true]) (by simp [results, Tryz.results70, go_sem]) rfl ⟨rfl, hb6⟩
      | false =>
        go_wp2_with fail
        refine bodyPost_ret (v := .tuple #[.bool false, .int .u64 0, .bool false]) (by simp [results, Tryz.results70, go_sem]) rfl ⟨rfl, hb6⟩
    · rw [hd] at HR hans
      rw [if_neg (fun q => hx ⟨q.2.1, q.2.2.1⟩)] at hans
      subst hans
      clear hd
      by_cases x0 : 0 ≤ ex
      · have x1 : 20 < ex := by omega
        clear hx
        go_enter Tryz.func70, Tryz.ntmps70
        go_wp2_with fail
        refine (HR.out _).mono ?_
        rintro e w1 ⟨rfl, hb⟩
        have hb2 := hbx.trans (hb.mono hbx.size)
        have hk2 := hkx.below hb hkx.lt
        have d0 := hk2.cell 0
        have d1 := hk2.cell 1
        have d2 := hk2.cell 2
        clear hb hbx hkx c0 c1 c2
        go_wp2_with fail
        refine bodyPost_ret (v := .tuple #[.bool false, .int .u64 0, .bool false]) (by simp [results, Tryz.results70, go_sem]) rfl ⟨rfl, hb2⟩
      · have x1 : ex < 0 := by omega
        clear hx x0
        go_enter Tryz.func70, Tryz.ntmps70
        go_wp2_with fail
        refine (HR.out _).mono ?_
        rintro e w1 ⟨rfl, hb⟩
        have hb2 := hbx.trans (hb.mono hbx.size)
        have hk2 := hkx.below hb hkx.lt
        have d0 := hk2.cell 0
        have d1 := hk2.cell 1
        have d2 := hk2.cell 2
        clear hb hbx hkx c0 c1 c2
        go_wp2_with fail
        refine bodyPost_ret (v := .tuple #[.bool false, .int .u64 0, .bool false]) (by simp [results, Tryz.results70, go_sem]) rfl ⟨rfl, hb2⟩
end Go.Proofs.YtfckekaegjjmkaaGreatDoor
namespace Go.Proofs.YtfckekaegjjmkaaGreatDoor
open Go.RowKit Go.Shelf

end Go.Proofs.YtfckekaegjjmkaaGreatDoor
namespace Go.Proofs.YtfckekaegjjmkaaGreatDoor
open Go.RowKit Go.Shelf

def itoaL (n : Int) : List UInt8 := (if n < 0 then [45] else []) ++ Lib.decDigits n.natAbs
/-- A decimal, written. -/
def fmtD (neg : Bool) (dg : List UInt8) (ex : Int) : List UInt8 :=
  (if neg = true then [45] else []) ++
    (if ex < -20 ∨ 20 < ex then dg ++ 101 :: itoaL ex
    else if 0 ≤ ex then dg ++ List.replicate ex.toNat 48
    else if 0 < (dg.length : Int) + ex then dg.take ((dg.length : Int) + ex).toNat ++ 46 :: dg.drop ((dg.length : Int) + ex).toNat
    else 48 :: 46 :: (List.replicate (-((dg.length : Int) + ex)).toNat 48 ++ dg))
def digits (l : List UInt8) : List UInt8 × List UInt8 := (l.take (digN l), l.drop (digN l))

/-- What goes on behind a number is none of it. -/
def Stops (m : List UInt8) : Prop := ∀ c r, m = c :: r → isDig c = false ∧ c ≠ 46 ∧ c ≠ 101 ∧ c ≠ 69
theorem Stops.digN {m : List UInt8} (h : Stops m) : digN m = 0 := by
  cases m with
  | nil => rfl
  | cons c r => exact digN_cons_no (h c r rfl).1
end Go.Proofs.YtfckekaegjjmkaaGreatDoor
