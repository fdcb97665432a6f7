/- The texts GateF, ResC, DecM, put together. -/
import Derived.Test.YtfckekaegjjmkaaGreatDoorPi14
import Derived.Deep.RegionHeld3
import Derived.Test.YtfckekaegjjmkaaGreatDoorPi02
import Derived.Deep.MidRow
import Derived.Test.YtfckekaegjjmkaaGreatDoorPi08
import Derived.Test.YtfckekaegjjmkaaGreatDoorPi03
namespace Go.Proofs.YtfckekaegjjmkaaGreatDoor
open Go.RowKit Go.Shelf

set_option maxRecDepth 100000 in
theorem dec_zero (w : World) : Calls Tryz.prog 159 #[] w fun e w' => e = .returned (.agg #[.bool false, .string ⟨#[48]⟩, .int .i64 0]) ∧ Below w.heap.size w w' := by
  go_enter Tryz.func159, Tryz.ntmps159
  go_wp2
  exact bodyPost_ret (v := .agg #[.bool false, .string ⟨#[48]⟩, .int .i64 0]) (by simp [results, Tryz.results159, go_sem]) rfl ⟨rfl, (Below.refl _ _).alloc (Nat.le_refl _) _⟩

theorem dec_within (n m : Int) (h0 : 0 ≤ m) (h1 : m ≤ 1000) (w : World) : Calls Tryz.prog 156 #[.int .i64 n, .int .i64 m] w fun e w' => e = .returned (.bool (decide (-m ≤ n) && decide (n ≤ m))) ∧ w = w' := by
  by_cases h2 : -m ≤ n
  · by_cases h3 : n ≤ m
    · rw [decide_eq_true h2, decide_eq_true h3]
      go_enter Tryz.func156, Tryz.ntmps156
      go_wp2
      go_ret
      exact ⟨rfl, rfl⟩
    · rw [decide_eq_true h2, decide_eq_false h3]
      go_enter Tryz.func156, Tryz.ntmps156
      go_wp2
      go_ret
      exact ⟨rfl, rfl⟩
  · rw [decide_eq_false h2]
    go_enter Tryz.func156, Tryz.ntmps156
    go_wp2
    go_ret
    exact ⟨rfl, rfl⟩

theorem suffix_last (l : List UInt8) (h : l ≠ []) : Lib.hasSuffix l [48] = decide (l.getLast? = some 48) := by
  unfold Lib.hasSuffix
  rw [Bool.eq_iff_iff, List.isSuffixOf_iff_suffix, decide_eq_true_iff]
  constructor
  · rintro ⟨k, rfl⟩
    simp
  · intro e
    rw [List.getLast?_eq_some_getLast h] at e
    exact ⟨l.dropLast, by rw [← Option.some.inj e]; exact List.dropLast_concat_getLast h⟩
/-- What dec.Right tells of a decimal that is not its zero. -/
def decRest (dg : ByteArray) (ex : Int) : Bool := natOk dg && (decide (dg.size ≤ 100) && ((decide (-100 ≤ ex) && decide (ex ≤ 100)) && !Lib.hasSuffix dg.data.toList [48]))
theorem decOk_zero : decOk false ⟨#[48]⟩ 0 = true := by decide +kernel
theorem decOk_rest {neg : Bool} {dg : ByteArray} {ex : Int} (h : ¬ (neg = false ∧ dg = ⟨#[48]⟩ ∧ ex = 0)) : decOk neg dg ex = decRest dg ex := by
  unfold decOk decRest
  cases hn : natOk dg with
  | false => rfl
  | true =>
    have h1 : 1 ≤ dg.size := by
      unfold natOk at hn
      rw [Bool.and_eq_true, decide_eq_true_iff] at hn
      exact hn.1
    have hne : dg.data.toList ≠ [] := fun e => by
      have : dg.data.toList.length = dg.size := by simp
      rw [e] at this
      simp at this
      omega
    rw [suffix_last _ hne]
    congr 2
    by_cases h0 : dg.toList = [48]
    · rw [if_pos h0]
      have hd : dg.data.toList = [48] := by rw [← ByteArray.toList_eq]; exact h0
      have hd2 : dg = ⟨#[48]⟩ := str_ext hd
      rw [hd]
      have : decide (([48] : List UInt8).getLast? = some 48) = true := by decide
      rw [this, Bool.not_true, Bool.and_false]
      cases neg with
      | true => rw [Bool.not_true, Bool.and_false]
      | false =>
        rw [decide_eq_false (fun e => h ⟨rfl, hd2, e⟩), Bool.false_and]
    · rw [if_neg h0, Bool.and_assoc]

set_option maxHeartbeats 4000000 in
set_option maxRecDepth 100000 in
theorem dec_Right (neg : Bool) (dg : ByteArray) (ex : Int) (hs : dg.size ≤ 9223372036854775807) (w : World) :
    Calls Tryz.prog 127 #[.agg #[.bool neg, .string dg, .int .i64 ex]] w fun e w' => e = .returned (.bool (decOk neg dg ex)) ∧ Below w.heap.size w w' := by
  have HZ := Lib.hid dec_zero
  have hbx : Below w.heap.size w (w.alloc (.cells #[.bool neg, .string dg, .int .i64 ex] 23)) := (Below.refl _ _).alloc (Nat.le_refl _) _
  have hkx := Blk.new w #[.bool neg, .string dg, .int .i64 ex] 23
  by_cases hz : neg = false ∧ dg = ⟨#[48]⟩ ∧ ex = 0
  · obtain ⟨rfl, rfl, rfl⟩ := hz
    rw [decOk_zero]
    have c0 := hkx.cell 0
    have c1 := hkx.cell 1
    have c2 := hkx.cell 2
    go_enter Tryz.func127, Tryz.ntmps127
    go_wp2_with fail
    go_region_held3 (fun w' => w'.cell? ⟨w.heap.size, 0, none⟩ = some (.bool false) ∧ w'.cell? ⟨w.heap.size, 1, none⟩ = some (.string ⟨#[48]⟩) ∧ w'.cell? ⟨w.heap.size, 2, none⟩ = some (.int .i64 0)) (go_keep)
      (first | (go_at_call 159; refine (HZ.out _).mono ?_; rintro e w4 ⟨rfl, hb4⟩; have hk4 := (Blk.drew hkx).below hb4 (Blk.drew hkx).lt; have c40 := hk4.cell 0; have c41 := hk4.cell 1; have c42 := hk4.cell 2))
    have hb5 : Below w.heap.size w w4 := (below_drewN hbx 1).trans (hb4.mono hbx.size)
    go_wp2_with fail
    go_ret
    exact ⟨rfl, hb5⟩
  rw [decOk_rest hz]
  have HN := Lib.hid (nat_Right dg hs)
  have HW := Lib.hid (fun w => dec_within ex 100 (by decide) (by decide) w)
  have HS := Lib.hid (fun w => Tryz.strings_HasSuffix dg ⟨#[48]⟩ w hs)
  have h3 : neg = true ∨ (neg = false ∧ ¬ dg = ⟨#[48]⟩) ∨ (neg = false ∧ dg = ⟨#[48]⟩ ∧ ¬ ex = 0) := by
    cases neg with
    | true => exact .inl rfl
    | false =>
      by_cases h1 : dg = ⟨#[48]⟩
      · exact .inr (.inr ⟨rfl, h1, fun e => hz ⟨rfl, h1, e⟩⟩)
      · exact .inr (.inl ⟨rfl, h1⟩)
  obtain ⟨ans, hans⟩ : ∃ ans, decRest dg ex = ans := ⟨_, rfl⟩
  rw [hans]
  unfold decRest at hans
  obtain ⟨b1, hb1⟩ : ∃ b1, natOk dg = b1 := ⟨_, rfl⟩
  obtain ⟨b3, hb3⟩ : ∃ b3, (decide (-100 ≤ ex) && decide (ex ≤ 100)) = b3 := ⟨_, rfl⟩
  obtain ⟨b4, hb4⟩ : ∃ b4, Lib.hasSuffix dg.data.toList [48] = b4 := ⟨_, rfl⟩
  have HS : Hid (∀ w, Calls Tryz.prog 163 #[.string dg, .string ⟨#[48]⟩] w fun e w' => e = .returned (.bool (Lib.hasSuffix dg.data.toList [48])) ∧ w' = w) := HS
  simp only [hb1] at HN
  simp only [hb3] at HW
  simp only [hb4] at HS
  rw [hb1, hb3, hb4] at hans
  clear hb1 hb3 hb4 hz
  have c0 := hkx.cell 0
  have c1 := hkx.cell 1
  have c2 := hkx.cell 2
  have hq : (dg.toList == [48]) = decide (dg = ⟨#[48]⟩) := by
    by_cases h : dg = ⟨#[48]⟩
    · subst h
      decide +kernel
    · rw [decide_eq_false h, beq_eq_false_iff_ne, ByteArray.toList_eq]
      exact fun e => h (str_ext e)
  rcases h3 with h3 | ⟨h3, h4⟩ | ⟨h3, h4, h5⟩
  · subst h3
    clear hq
    have HANS := Lib.hid hans
    clear hans
    go_enter Tryz.func127, Tryz.ntmps127
    go_wp2_with fail
    go_region_held3 (fun w' => w'.cell? ⟨w.heap.size, 0, none⟩ = some (.bool true) ∧ w'.cell? ⟨w.heap.size, 1, none⟩ = some (.string dg) ∧ w'.cell? ⟨w.heap.size, 2, none⟩ = some (.int .i64 ex)) (go_keep)
      (first | (go_at_call 159; refine (HZ.out _).mono ?_; rintro e w4 ⟨rfl, hb4⟩; have hk4 := (Blk.drew hkx).below hb4 (Blk.drew hkx).lt; have c40 := hk4.cell 0; have c41 := hk4.cell 1; have c42 := hk4.cell 2))
    have hb5 : Below w.heap.size w w4 := (below_drewN hbx 1).trans (hb4.mono hbx.size)
    go_wp2_with fail
    refine (HN.out _).mono ?_
    rintro e w5 ⟨rfl, hb6⟩
    have hk5 := hk4.below hb6 hk4.lt
    have hb7 := hb5.trans (hb6.mono hb5.size)
    have d0 := hk5.cell 0
    have d1 := hk5.cell 1
    have d2 := hk5.cell 2
    clear hk4 hb4 hb5 hb6 c0 c1 c2 c40 c41 c42 hkx hbx HN HZ
    cases b1 with
    | false =>
      obtain rfl : false = ans := HANS.out
      go_wp2_with fail
      all_goals go_ret
      all_goals exact ⟨rfl, hb7⟩
    | true =>
      by_cases hl : dg.size ≤ 100
      · have z1 : (dg.size : Int) ≤ 100 := by omega
        have ha : (b3 && !b4) = ans := by
          have := HANS.out
          rw [decide_eq_true hl] at this
          exact this
        clear HANS
        go_wp2_with fail
        refine (HW.out _).mono ?_
        rintro e w6 ⟨rfl, rfl⟩
        cases b3 with
        | false =>
          obtain rfl : false = ans := ha
          go_wp2_with fail
          all_goals go_ret
          all_goals exact ⟨rfl, hb7⟩
        | true =>
          obtain rfl : (!b4) = ans := ha
          go_wp2_with fail
          refine (HS.out _).mono ?_
          rintro e w6 ⟨rfl, rfl⟩
          cases b4 with
          | false =>
            go_wp2_with fail
            all_goals go_ret
            all_goals exact ⟨rfl, hb7⟩
          | true =>
            go_wp2_with fail
            all_goals go_ret
            all_goals exact ⟨rfl, hb7⟩
      · have z1 : ¬ (dg.size : Int) ≤ 100 := by omega
        have z2 : (100 : Int) < dg.size := by omega
        obtain rfl : false = ans := by
          have := HANS.out
          rw [decide_eq_false hl] at this
          exact this
        go_wp2_with fail
        all_goals go_ret
        all_goals exact ⟨rfl, hb7⟩
  · subst h3
    rw [decide_eq_false h4] at hq
    clear h4
    have HANS := Lib.hid hans
    clear hans
    go_enter Tryz.func127, Tryz.ntmps127
    go_wp2_with fail
    go_region_held3 (fun w' => w'.cell? ⟨w.heap.size, 0, none⟩ = some (.bool false) ∧ w'.cell? ⟨w.heap.size, 1, none⟩ = some (.string dg) ∧ w'.cell? ⟨w.heap.size, 2, none⟩ = some (.int .i64 ex)) (go_keep)
      (first | (go_at_call 159; refine (HZ.out _).mono ?_; rintro e w4 ⟨rfl, hb4⟩; have hk4 := (Blk.drew hkx).below hb4 (Blk.drew hkx).lt; have c40 := hk4.cell 0; have c41 := hk4.cell 1; have c42 := hk4.cell 2))
    have hb5 : Below w.heap.size w w4 := (below_drewN hbx 1).trans (hb4.mono hbx.size)
    go_wp2_with fail
    refine (HN.out _).mono ?_
    rintro e w5 ⟨rfl, hb6⟩
    have hk5 := hk4.below hb6 hk4.lt
    have hb7 := hb5.trans (hb6.mono hb5.size)
    have d0 := hk5.cell 0
    have d1 := hk5.cell 1
    have d2 := hk5.cell 2
    clear hk4 hb4 hb5 hb6 c0 c1 c2 c40 c41 c42 hkx hbx HN HZ
    cases b1 with
    | false =>
      obtain rfl : false = ans := HANS.out
      go_wp2_with fail
      all_goals go_ret
      all_goals exact ⟨rfl, hb7⟩
    | true =>
      by_cases hl : dg.size ≤ 100
      · have z1 : (dg.size : Int) ≤ 100 := by omega
        have ha : (b3 && !b4) = ans := by
          have := HANS.out
          rw [decide_eq_true hl] at this
          exact this
        clear HANS
        go_wp2_with fail
        refine (HW.out _).mono ?_
        rintro e w6 ⟨rfl, rfl⟩
        cases b3 with
        | false =>
          obtain rfl : false = ans := ha
          go_wp2_with fail
          all_goals go_ret
          all_goals exact ⟨rfl, hb7⟩
        | true =>
          obtain rfl : (!b4) = ans := ha
          go_wp2_with fail
          refine (HS.out _).mono ?_
          rintro e w6 ⟨rfl, rfl⟩
          cases b4 with
          | false =>
            go_wp2_with fail
            all_goals go_ret
            all_goals exact ⟨rfl, hb7⟩
          | true =>
            go_wp2_with fail
            all_goals go_ret
            all_goals exact ⟨rfl, hb7⟩
      · have z1 : ¬ (dg.size : Int) ≤ 100 := by omega
        have z2 : (100 : Int) < dg.size := by omega
        obtain rfl : false = ans := by
          have := HANS.out
          rw [decide_eq_false hl] at this
          exact this
        go_wp2_with fail
        all_goals go_ret
        all_goals exact ⟨rfl, hb7⟩
  · subst h3
    subst h4
    have hx : (ex == 0) = false := by rw [beq_eq_false_iff_ne]; exact h5
    clear hq
    have HANS := Lib.hid hans
    clear hans
    go_enter Tryz.func127, Tryz.ntmps127
    go_wp2_with fail
    go_region_held3 (fun w' => w'.cell? ⟨w.heap.size, 0, none⟩ = some (.bool false) ∧ w'.cell? ⟨w.heap.size, 1, none⟩ = some (.string ⟨#[48]⟩) ∧ w'.cell? ⟨w.heap.size, 2, none⟩ = some (.int .i64 ex)) (go_keep)
      (first | (go_at_call 159; refine (HZ.out _).mono ?_; rintro e w4 ⟨rfl, hb4⟩; have hk4 := (Blk.drew hkx).below hb4 (Blk.drew hkx).lt; have c40 := hk4.cell 0; have c41 := hk4.cell 1; have c42 := hk4.cell 2))
    have hb5 : Below w.heap.size w w4 := (below_drewN hbx 1).trans (hb4.mono hbx.size)
    go_wp2_with fail
    refine (HN.out _).mono ?_
    rintro e w5 ⟨rfl, hb6⟩
    have hk5 := hk4.below hb6 hk4.lt
    have hb7 := hb5.trans (hb6.mono hb5.size)
    have d0 := hk5.cell 0
    have d1 := hk5.cell 1
    have d2 := hk5.cell 2
    clear hk4 hb4 hb5 hb6 c0 c1 c2 c40 c41 c42 hkx hbx HN HZ
    cases b1 with
    | false =>
      obtain rfl : false = ans := HANS.out
      go_wp2_with fail
      all_goals go_ret
      all_goals exact ⟨rfl, hb7⟩
    | true =>
      by_cases hl : (⟨#[48]⟩ : ByteArray).size ≤ 100
      · have z1 : ((⟨#[48]⟩ : ByteArray).size : Int) ≤ 100 := by omega
        have ha : (b3 && !b4) = ans := by
          have := HANS.out
          rw [decide_eq_true hl] at this
          exact this
        clear HANS
        go_wp2_with fail
        refine (HW.out _).mono ?_
        rintro e w6 ⟨rfl, rfl⟩
        cases b3 with
        | false =>
          obtain rfl : false = ans := ha
          go_wp2_with fail
          all_goals go_ret
          all_goals exact ⟨rfl, hb7⟩
        | true =>
          obtain rfl : (!b4) = ans := ha
          go_wp2_with fail
          refine (HS.out _).mono ?_
          rintro e w6 ⟨rfl, rfl⟩
          cases b4 with
          | false =>
            go_wp2_with fail
            all_goals go_ret
            all_goals exact ⟨rfl, hb7⟩
          | true =>
            go_wp2_with fail
            all_goals go_ret
            all_goals exact ⟨rfl, hb7⟩
      · exact absurd (show (⟨#[48]⟩ : ByteArray).size ≤ 100 by decide) hl
end Go.Proofs.YtfckekaegjjmkaaGreatDoor
namespace Go.Proofs.YtfckekaegjjmkaaGreatDoor
open Go.RowKit Go.Shelf

/-- A function's results, the first of them in a block. -/
theorem results_cell {P : Program} {fn : Func} {tmps : Array Value} {W : World} {a s b : Nat} {T t : TypeId} {cs : Array Value} {fr : Nat × Nat} {d : TypeDesc} {u : Value} (hr : fn.results = #[.cell a T, .tmp s])
    (ha : tmps.getD a undef = .pointer (some ⟨b, 0, none⟩)) (hs : tmps.getD s undef = u) (hk : W.heap[b]? = some (.cells cs t fr))
    (hu : P.underlying T = some d) (hd : (match d with | .struct _ | .array _ _ => true | _ => false) = true) (hi : (P.info? T).map (·.size) = some cs.size) :
    (results fn tmps).run P W = .ok (.tuple #[.agg cs, u]) W := by
  unfold results
  rw [hr]
  have h1 := run_loadVar_row (P := P) W b t T cs fr d hk hu hd hi
  rw [Array.getD_eq_getD_getElem?] at ha hs
  simp [Array.mapM_eq_foldlM, ha, hs, asAddr, h1, Result.andThen]

theorem results_cell3 {P : Program} {fn : Func} {tmps : Array Value} {W : World} {a s s2 b : Nat} {T t : TypeId} {cs : Array Value} {fr : Nat × Nat} {d : TypeDesc} {u u2 : Value} (hr : fn.results = #[.cell a T, .tmp s, .tmp s2])
    (ha : tmps.getD a undef = .pointer (some ⟨b, 0, none⟩)) (hs : tmps.getD s undef = u) (hs2 : tmps.getD s2 undef = u2) (hk : W.heap[b]? = some (.cells cs t fr))
    (hu : P.underlying T = some d) (hd : (match d with | .struct _ | .array _ _ => true | _ => false) = true) (hi : (P.info? T).map (·.size) = some cs.size) :
    (results fn tmps).run P W = .ok (.tuple #[.agg cs, u, u2]) W := by
  unfold results
  rw [hr]
  have h1 := run_loadVar_row (P := P) W b t T cs fr d hk hu hd hi
  rw [Array.getD_eq_getD_getElem?] at ha hs hs2
  simp [Array.mapM_eq_foldlM, ha, hs, hs2, asAddr, h1, Result.andThen]
/-- Two results, both in blocks: a struct, a plain value. -/
theorem results_cell2 {P : Program} {fn : Func} {tmps : Array Value} {W : World} {a a2 b b2 : Nat} {T T2 t : TypeId} {cs : Array Value} {fr : Nat × Nat} {d d2 : TypeDesc} {u : Value} (hr : fn.results = #[.cell a T, .cell a2 T2])
    (ha : tmps.getD a undef = .pointer (some ⟨b, 0, none⟩)) (ha2 : tmps.getD a2 undef = .pointer (some ⟨b2, 0, none⟩)) (hk : W.heap[b]? = some (.cells cs t fr))
    (hu : P.underlying T = some d) (hd : (match d with | .struct _ | .array _ _ => true | _ => false) = true) (hi : (P.info? T).map (·.size) = some cs.size)
    (hu2 : P.underlying T2 = some d2) (hd2 : (match d2 with | .struct _ | .array _ _ => true | _ => false) = false) (h2 : W.cell? ⟨b2, 0, none⟩ = some u) :
    (results fn tmps).run P W = .ok (.tuple #[.agg cs, u]) W := by
  unfold results
  rw [hr]
  have h1 := run_loadVar_row (P := P) W b t T cs fr d hk hu hd hi
  have h3 : (loadVar T2 ⟨b2, 0, none⟩).run P W = .ok u W := by
    have hagg : (isAgg T2).run P W = .ok false W := by
      unfold isAgg
      rw [Sem.run_bind, run_underlying hu2 W]
      cases d2 <;> simp_all
    simp [loadVar, Sem.run_bind, hagg, go_sem, h2]
  rw [Array.getD_eq_getD_getElem?] at ha ha2
  simp [Array.mapM_eq_foldlM, ha, ha2, asAddr, h1, h3, Result.andThen]
end Go.Proofs.YtfckekaegjjmkaaGreatDoor
namespace Go.Proofs.YtfckekaegjjmkaaGreatDoor
open Go.RowKit Go.Shelf
attribute [local go_sem] Oper.semAt_some

theorem trimL_lib (l : List UInt8) : Lib.trimLeftB l 48 = trimL l := rfl
theorem trimR_lib (l : List UInt8) : Lib.trimRightB l 48 = trimR l := rfl
set_option maxHeartbeats 4000000 in
set_option maxRecDepth 100000 in
theorem dec_Make (neg : Bool) (dg : ByteArray) (ex : Int) (n : Bool) (d : ByteArray) (e : Int) (hm : makeD neg dg.data.toList ex = some (n, d, e)) (w : World) :
    Calls Tryz.prog 123 #[.bool neg, .string dg, .int .i64 ex] w fun x w' => x = .returned (.tuple #[.agg #[.bool n, .string d, .int .i64 e], .int .i64 0]) ∧ Below w.heap.size w w' := by
  have hlen : dg.data.toList.length = dg.size := by simp
  unfold makeD at hm
  split at hm
  · cases hm
  rename_i hc
  have hne : 1 ≤ dg.size := by
    rw [← hlen]
    cases h : dg.data.toList with
    | nil => exact (hc (.inl h)).elim
    | cons a l => simp
  have z2 : dg.toList.isEmpty = false := by rw [list_empty]; exact decide_eq_false (by omega)
  have hl : dg.size ≤ 400 := by rw [← hlen]; exact Nat.le_of_not_lt (fun h => hc (.inr (.inl h)))
  have hex : -1000 ≤ ex ∧ ex ≤ 1000 := Classical.byContradiction (fun h => hc (.inr (.inr (.inl h))))
  have hd : dg.data.toList.all isDig = true := Classical.byContradiction (fun h => hc (.inr (.inr (.inr h))))
  clear hc
  have HW := Lib.hid (dec_within ex 1000 (by decide) (by decide))
  rw [decide_eq_true hex.1, decide_eq_true hex.2] at HW
  have HX := Lib.hid (indexF_digits dg (by omega) hd)
  have HL := Lib.hid (fun w => Tryz.strings_TrimLeft_one dg 48 (by decide) w)
  have y1 : ¬ (400 : Int) < dg.size := by omega
  simp only [trimL_lib] at HL
  obtain ⟨s1, hs1⟩ : ∃ s1 : ByteArray, (⟨(trimL dg.data.toList).toArray⟩ : ByteArray) = s1 := ⟨_, rfl⟩
  have h1l : s1.data.toList = trimL dg.data.toList := by rw [← hs1]
  have h1z : s1.size = (trimL dg.data.toList).length := by rw [← h1l]; simp
  simp only [hs1] at HL
  have h1le : s1.size ≤ dg.size := by
    obtain ⟨k, h, _⟩ := trimL_parts dg.data.toList
    have := congrArg List.length h
    rw [List.length_append, hlen, ← h1z] at this
    omega
  by_cases hz : trimL dg.data.toList = []
  · rw [if_pos hz] at hm
    injection hm with hm
    injection hm with h1 h2
    injection h2 with h2 h3
    subst h1 h2 h3
    have hs : s1 = ⟨#[]⟩ := by rw [← hs1, hz]
    subst hs
    have HZ := Lib.hid dec_zero
    have hk := Blk.new w #[.bool false, .string ⟨#[]⟩, .int .i64 0] 23
    clear hs1 h1l h1z h1le hlen
    refine calls_of_marks Tryz.func123 rfl ?_
    simp only [Tryz.ntmps123, List.size_toArray, List.length_cons, List.length_nil, Nat.reduceAdd, Nat.reduceSub, Array.replicate_succ, Array.replicate_zero, List.push_toArray, List.append_toArray, List.nil_append, List.cons_append]
    go_wp2_with fail
    go_step3
    go_wp2_with fail
    refine (HW.out _).mono ?_
    rintro x w1 ⟨rfl, rfl⟩
    go_wp2_with fail
    refine (HX.out _).mono ?_
    rintro x w2 ⟨rfl, hb2⟩
    go_wp2_with fail
    refine (HL.out _).mono ?_
    rintro x w3 ⟨rfl, rfl⟩
    go_wp2_with fail
    refine (HZ.out _).mono ?_
    rintro x w4 ⟨rfl, hb4⟩
    have hkA := ((hk.alloc (.cells #[.bool false, .string ⟨#[]⟩, .int .i64 0] 23)).below hb2 (hk.alloc _).lt)
    have hk4 := hkA.below hb4 hkA.lt
    have c0 := hk4.cell 0
    have c1 := hk4.cell 1
    have c2 := hk4.cell 2
    have f0 := hk4.frozen 0
    have f1 := hk4.frozen 1
    have f2 := hk4.frozen 2
    have hbA : Below w.heap.size w w4 := (((Below.refl _ w).alloc (Nat.le_refl _) _).alloc (by simp) _).trans (((hb2.mono (by simp; omega))).trans (hb4.mono (by have := hb2.size; simp at this; omega)))
    clear HZ HL HX HW hkA hb2 hb4 hk
    go_wp2_with fail
    rw [Exit.noGoto_ret]
    have hk5 := ((hk4.set 0 (.bool false)).set 1 (.string ⟨#[48]⟩)).set 2 (.int .i64 0)
    refine leave0 (results_cell (T := 23) (b := w.heap.size) rfl (by kernel_rfl) (by kernel_rfl) hk5 Tryz.underlying23 rfl (by kernel_rfl)) rfl ⟨rfl, ?_⟩
    exact hbA.trans (((Below.refl _ _).setCell (by simp) _).trans (((Below.refl _ _).setCell (by simp) _).trans ((Below.refl _ _).setCell (by simp) _)))
  · rw [if_neg hz] at hm
    split at hm
    case isFalse => cases hm
    rename_i hok
    injection hm with hm
    injection hm with h1 h2
    injection h2 with h2 h3
    subst h1
    have HT := Lib.hid (fun w => Tryz.strings_TrimRight_one s1 48 (by decide) w (by omega))
    simp only [trimR_lib, h1l] at HT
    rw [h2] at hok
    simp only [h2] at HT
    have h2l : (trimR (trimL dg.data.toList)).length = d.size := by rw [← h2]; rfl
    rw [h2l, ← h1z] at h3 hok
    rw [h3] at hok
    have HR := Lib.hid (dec_Right neg d e (by
      obtain ⟨k, h, _⟩ := trimR_parts (trimL dg.data.toList)
      have := congrArg List.length h
      rw [List.length_append, h2l, ← h1z] at this
      omega))
    simp only [hok] at HR
    have z3 : s1.toList.isEmpty = false := by
      rw [list_empty]
      refine decide_eq_false (fun h => hz ?_)
      rw [h1z] at h
      exact List.eq_nil_of_length_eq_zero h
    have hk := Blk.new w #[.bool false, .string ⟨#[]⟩, .int .i64 0] 23
    have hkB := Blk.new (w.alloc (.cells #[.bool false, .string ⟨#[]⟩, .int .i64 0] 23)) #[.bool false, .string ⟨#[]⟩, .int .i64 0] 23
    rw [World.size_alloc] at hkB
    have hds : d.size ≤ s1.size := by
      obtain ⟨k, h, _⟩ := trimR_parts (trimL dg.data.toList)
      have := congrArg List.length h
      rw [List.length_append, h2l, ← h1z] at this
      omega
    have y5 : wrap64 (ex + s1.size) = ex + s1.size := by unfold wrap64; omega
    have y6 : wrap64 (ex + s1.size - d.size) = e := by rw [← h3]; unfold wrap64; omega
    clear hok h2l h2 hs1 h1l h1z h1le hlen hds h3
    refine calls_of_marks Tryz.func123 rfl ?_
    simp only [Tryz.ntmps123, List.size_toArray, List.length_cons, List.length_nil, Nat.reduceAdd, Nat.reduceSub, Array.replicate_succ, Array.replicate_zero, List.push_toArray, List.append_toArray, List.nil_append, List.cons_append]
    go_wp2_with fail
    go_step3
    go_wp2_with fail
    refine (HW.out _).mono ?_
    rintro x w1 ⟨rfl, rfl⟩
    go_wp2_with fail
    refine (HX.out _).mono ?_
    rintro x w2 ⟨rfl, hb2⟩
    go_wp2_with fail
    refine (HL.out _).mono ?_
    rintro x w3 ⟨rfl, rfl⟩
    go_wp2_with fail
    refine (HT.out _).mono ?_
    rintro x w4 ⟨rfl, rfl⟩
    have hkA := (hk.alloc (.cells #[.bool false, .string ⟨#[]⟩, .int .i64 0] 23)).below hb2 (hk.alloc _).lt
    have hkC := hkB.below hb2 hkB.lt
    have c0 := hkC.cell 0
    have c1 := hkC.cell 1
    have c2 := hkC.cell 2
    have f0 := hkC.frozen 0
    have f1 := hkC.frozen 1
    have f2 := hkC.frozen 2
    have hbA : Below w.heap.size w w4 := (((Below.refl _ w).alloc (Nat.le_refl _) _).alloc (by simp) _).trans (hb2.mono (by simp; omega))
    clear HX HW HL HT hb2 hk hkB
    go_wp2_with fail
    have hkD := ((hkC.set 0 (.bool neg)).set 1 (.string d)).set 2 (.int .i64 e)
    have hkE := ((hkA.other (b' := w.heap.size + 1) (by omega) 0 (.bool neg)).other (b' := w.heap.size + 1) (by omega) 1 (.string d)).other (b' := w.heap.size + 1) (by omega) 2 (.int .i64 e)
    have hbB := ((hbA.setCell (p := ⟨w.heap.size + 1, 0, none⟩) (by simp) (.bool neg)).setCell (p := ⟨w.heap.size + 1, 1, none⟩) (by simp) (.string d)).setCell (p := ⟨w.heap.size + 1, 2, none⟩) (by simp) (.int .i64 e)
    clear c0 c1 c2 f0 f1 f2 hkA hkC hbA
    obtain ⟨W5, hW5⟩ : ∃ W, ((w4.setCell ⟨w.heap.size + 1, 0, none⟩ (.bool neg)).setCell ⟨w.heap.size + 1, 1, none⟩ (.string d)).setCell ⟨w.heap.size + 1, 2, none⟩ (.int .i64 e) = W := ⟨_, rfl⟩
    rw [hW5] at hkD hkE hbB ⊢
    clear hW5
    refine (HR.out _).mono ?_
    rintro x w6 ⟨rfl, hb6⟩
    have hk6 := hkE.below hb6 hkE.lt
    have hk7 := hkD.below hb6 hkD.lt
    have hbC := hbB.trans (hb6.mono hbB.size)
    have c0 := hk6.cell 0
    have c1 := hk6.cell 1
    have c2 := hk6.cell 2
    have f0 := hk6.frozen 0
    have f1 := hk6.frozen 1
    have f2 := hk6.frozen 2
    have d0 : w6.cell? ⟨w.heap.size + 1, 0, none⟩ = some (.bool neg) := hk7.cell 0
    have d1 : w6.cell? ⟨w.heap.size + 1, 1, none⟩ = some (.string d) := hk7.cell 1
    have d2 : w6.cell? ⟨w.heap.size + 1, 2, none⟩ = some (.int .i64 e) := hk7.cell 2
    clear hkD hkE hbB HR hb6
    go_wp2_with fail
    rw [Exit.noGoto_ret]
    have hk8 := ((hk6.set 0 (.bool neg)).set 1 (.string d)).set 2 (.int .i64 e)
    refine leave0 (results_cell (T := 23) (b := w.heap.size) rfl (by kernel_rfl) (by kernel_rfl) hk8 Tryz.underlying23 rfl (by kernel_rfl)) rfl ⟨rfl, ?_⟩
    exact hbC.trans (((Below.refl _ _).setCell (by simp) _).trans (((Below.refl _ _).setCell (by simp) _).trans ((Below.refl _ _).setCell (by simp) _)))
end Go.Proofs.YtfckekaegjjmkaaGreatDoor
