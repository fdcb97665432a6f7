/- The texts PathD, put together. -/
import Derived.Test.YtgfeeakcpojicaaGreatDoorPk25
import Derived.Lib.SmallJoins
import Derived.BigRegion
import Derived.StillTailTactics
import Derived.ChangeAlike
import Derived.RegionTactic
/- path: Atoi at digits; step. -/
namespace Go.Proofs.YtgfeeakcpojicaaGreatDoor
open Go.RowKit Go.Shelf

def dval : Nat → List UInt8 → Nat
  | acc, [] => acc
  | acc, c :: r => dval (acc * 10 + (c.toNat - 48)) r
theorem dval_ge : ∀ (l : List UInt8) (acc : Nat), acc ≤ dval acc l
  | [], acc => Nat.le_refl _
  | c :: r, acc => by
    have := dval_ge r (acc * 10 + (c.toNat - 48))
    show acc ≤ dval (acc * 10 + (c.toNat - 48)) r
    omega
theorem parse_digits : ∀ (l : List UInt8) (acc : Nat), acc < 18446744073709551616 → (∀ c ∈ l, isDig c = true) → Lib.parseUint10 acc l = if dval acc l < 18446744073709551616 then .ok (dval acc l) else .range
  | [], acc, ha, _ => by
    show Lib.NumEnd.ok acc = _
    rw [if_pos (show dval acc [] < _ from ha)]
    rfl
  | c :: r, acc, ha, h => by
    have hc := h c List.mem_cons_self
    unfold isDig at hc
    rw [Bool.and_eq_true, decide_eq_true_iff, decide_eq_true_iff] at hc
    have hge := dval_ge r (acc * 10 + (c.toNat - 48))
    have hd : dval acc (c :: r) = dval (acc * 10 + (c.toNat - 48)) r := rfl
    rw [hd]
    unfold Lib.parseUint10
    rw [if_pos hc]
    by_cases h1 : 1844674407370955162 ≤ acc
    · rw [if_pos h1, if_neg (by omega)]
    · rw [if_neg h1]
      by_cases h2 : 18446744073709551616 ≤ acc * 10 + (c.toNat - 48)
      · rw [if_pos h2, if_neg (by omega)]
      · rw [if_neg h2]
        exact parse_digits r _ (by omega) (fun x hx => h x (List.mem_cons_of_mem _ hx))
theorem atoi_digits {l : List UInt8} (hne : l ≠ []) (h : ∀ c ∈ l, isDig c = true) : Lib.atoiAll l = if dval 0 l < 9223372036854775808 then .ok (dval 0 l : Int) else .range := by
  cases l with
  | nil => exact absurd rfl hne
  | cons c r =>
    have hc := h c List.mem_cons_self
    unfold isDig at hc
    rw [Bool.and_eq_true, decide_eq_true_iff, decide_eq_true_iff] at hc
    have hp := parse_digits (c :: r) 0 (by decide) h
    unfold Lib.atoiAll Lib.parseMag
    simp only []
    rw [if_neg (by omega : ¬ (c.toNat = 43 ∨ c.toNat = 45)), if_neg (by simp), hp]
    by_cases h1 : dval 0 (c :: r) < 18446744073709551616
    · rw [if_pos h1]
      simp only []
      by_cases h2 : dval 0 (c :: r) < 9223372036854775808
      · rw [if_neg (by omega), if_neg (by omega), if_neg (by omega), if_pos h2]
      · rw [if_pos ⟨by omega, by omega⟩, if_neg h2]
    · rw [if_neg h1, if_neg (by omega)]
theorem takeWhile_all (l : List UInt8) : ∀ c ∈ l.take (digN l), isDig c = true := by
  intro c hc
  have e : l.take (digN l) = l.takeWhile isDig := (List.prefix_iff_eq_take.1 (List.takeWhile_prefix isDig)).symm
  rw [e] at hc
  exact List.all_eq_true.1 (List.all_takeWhile) c hc

/-- A step off a code, and what is behind it. -/
def keyR : Except Bool (List UInt8 × List UInt8) → Option ((Int × List UInt8) × List UInt8)
  | .ok (k, r') => some ((-1, k), r')
  | .error _ => none
def stepR (r : List UInt8) : Option ((Int × List UInt8) × List UInt8) :=
  if 0 < digN r then
    if dval 0 (r.take (digN r)) < 9223372036854775808 then some (((dval 0 (r.take (digN r)) : Int), []), r.drop (digN r)) else none
  else keyR (unquoteL r)
def stepL : List UInt8 → Option ((Int × List UInt8) × List UInt8)
  | [] => none
  | c :: r => if c.toNat = 47 then stepR r else none
theorem stepL_47 (r : List UInt8) : stepL (47 :: r) = stepR r := by
  show (if (47 : UInt8).toNat = 47 then stepR r else none) = stepR r
  exact if_pos rfl
theorem stepL_no {l : List UInt8} (h : ¬ l.take 1 = [47]) : stepL l = none := by
  cases l with
  | nil => rfl
  | cons c r =>
    show (if c.toNat = 47 then _ else _) = _
    rw [if_neg]
    intro hc
    apply h
    show [c] = [47]
    rw [show c = 47 from UInt8.toNat_inj.1 hc]

theorem atoi_ok {aT aQ : Addr} (s : ByteArray) (hs : s.size ≤ 1000000000) (hne : s.data.toList ≠ []) (hd : ∀ c ∈ s.data.toList, isDig c = true) (hv : dval 0 s.data.toList < 9223372036854775808) (w : World) (_h : PW w aT aQ) :
    Calls Tryz.prog 57 #[.string s] w fun e w' => e = .returned (.tuple #[.int .i64 (dval 0 s.data.toList : Nat), .nilIface]) ∧ Below w.heap.size w w' := by
  have ha := atoi_digits hne hd
  rw [if_pos hv] at ha
  refine (Tryz.strconv_Atoi_ok s (by omega) _ ha w).mono ?_
  rintro e w' ⟨he, rfl | ⟨t, rfl⟩⟩
  · exact ⟨he, Below.refl _ _⟩
  · exact ⟨he, Joins.below_bytesWorld _ _ _ _ (Nat.le_refl _)⟩
theorem atoi_range {aT aQ : Addr} (s : ByteArray) (hs : s.size ≤ 1000000000) (hne : s.data.toList ≠ []) (hd : ∀ c ∈ s.data.toList, isDig c = true) (hv : ¬ dval 0 s.data.toList < 9223372036854775808) (w : World) (h : PW w aT aQ) :
    Calls Tryz.prog 57 #[.string s] w fun e w' => (∃ (v : Int) (a : Addr), e = .returned (.tuple #[.int .i64 v, .iface 137 (.pointer (some a))])) ∧ Below w.heap.size w w' := by
  have ha := atoi_digits hne hd
  rw [if_neg hv] at ha
  obtain ⟨tp, p, hr⟩ := h.rng
  refine (Tryz.strconv_Atoi_range_var s (by omega) ha tp p w hr).mono ?_
  rintro e w' ⟨N, he, _, _, hb⟩
  exact ⟨⟨_, _, he⟩, hb⟩

theorem cut_1 (l : List UInt8) : Lib.hasPrefix l [47] = decide (l.take 1 = [47]) ∧ Lib.trimPrefix l [47] = if l.take 1 = [47] then l.drop 1 else l := by
  have h : Lib.hasPrefix l [47] = decide (l.take 1 = [47]) := by
    unfold Lib.hasPrefix
    rw [Bool.eq_iff_iff, decide_eq_true_iff, List.isPrefixOf_iff_prefix, List.prefix_iff_eq_take]
    exact eq_comm
  refine ⟨h, ?_⟩
  unfold Lib.trimPrefix
  rw [h]
  simp
theorem cut_1_call (s : ByteArray) (w : World) : Calls Tryz.prog 55 #[.string s, .string ⟨#[47]⟩] w fun e w' => e = .returned (.tuple #[.string ⟨(if s.data.toList.take 1 = [47] then s.data.toList.drop 1 else s.data.toList).toArray⟩, .bool (decide (s.data.toList.take 1 = [47]))]) ∧ w' = w := by
  have h := Tryz.strings_CutPrefix s ⟨#[47]⟩ w
  rw [show (⟨#[47]⟩ : ByteArray).data.toList = [47] from rfl, (cut_1 _).1, (cut_1 _).2] at h
  exact h

theorem str_back' (s : ByteArray) : (⟨s.data.toList.toArray⟩ : ByteArray) = s := str_ext rfl
theorem unq_any' {str : ByteArray} {w : World} {e : Ending} {w' : World} (h : UnqPost str w e w') : ∃ (x y : ByteArray) (z : Int), e = .returned (.tuple #[.string x, .string y, .int .i64 z]) := by
  obtain ⟨_, h⟩ := h
  cases hq : unquoteL str.data.toList with
  | error b =>
    rw [hq] at h
    exact ⟨_, _, _, h⟩
  | ok q =>
    obtain ⟨t, r⟩ := q
    rw [hq] at h
    exact ⟨_, _, _, h⟩
def StepPost (s : ByteArray) (w : World) (e : Ending) (w' : World) : Prop :=
  Below w.heap.size w w' ∧ match stepL s.data.toList with
    | some (((i, k), r)) => e = .returned (.tuple #[.agg #[.int .i64 i, .string ⟨k.toArray⟩], .string ⟨r.toArray⟩, .bool true])
    | none => ∃ (i : Int) (k r : ByteArray), e = .returned (.tuple #[.agg #[.int .i64 i, .string k], .string r, .bool false])

set_option maxHeartbeats 4000000 in
set_option maxRecDepth 100000 in
theorem path_step {aT aQ : Addr} (s : ByteArray) (w : World) (h : PW w aT aQ) (hs : s.size ≤ 1000000000) :
    Calls Tryz.prog 31 #[.string s] w (StepPost s w) := by
  have hb0 : Below w.heap.size w (w.alloc (.cells #[.int .i64 0, .string ⟨#[]⟩] 53)) := (Below.refl _ w).alloc (Nat.le_refl _) _
  have hB0 : Blk (w.alloc (.cells #[.int .i64 0, .string ⟨#[]⟩] 53)) w.heap.size #[.int .i64 0, .string ⟨#[]⟩] 53 := Blk.new _ _ _
  have HU := Lib.hid (fun (w' : World) (hw : Below w.heap.size w w') => h.below hw)
  have HC := Lib.hid (cut_1_call s)
  clear h
  by_cases hc : s.data.toList.take 1 = [47]
  · rw [if_pos hc, decide_eq_true hc] at HC
    obtain ⟨r, hr⟩ : ∃ r : ByteArray, (⟨(s.data.toList.drop 1).toArray⟩ : ByteArray) = r := ⟨_, rfl⟩
    rw [hr] at HC
    have hrl : r.data.toList = s.data.toList.drop 1 := by rw [← hr]
    have hsl : s.data.toList = 47 :: r.data.toList := by
      rw [hrl]
      cases hq : s.data.toList with
      | nil => rw [hq] at hc; cases hc
      | cons a l =>
        rw [hq] at hc
        simp at hc
        rw [hc]
        rfl
    have hrz : r.size ≤ 1000000000 := by
      have h1 := congrArg List.length hsl
      simp at h1
      omega
    have HDG := Lib.hid (fun w => path_digits r hrz w)
    have hst : stepL s.data.toList = stepR r.data.toList := by rw [hsl, stepL_47]
    unfold stepR at hst
    have hdl : digN r.data.toList ≤ r.data.toList.length := by
      unfold digN
      exact (List.takeWhile_prefix isDig).length_le
    have hrr : r.data.toList.length = r.size := by simp
    have htw := takeWhile_all r.data.toList
    have hxt := extract_list r (digN r.data.toList)
    obtain ⟨n, hn⟩ : ∃ n, digN r.data.toList = n := ⟨_, rfl⟩
    rw [hn] at HDG hst hdl htw hxt
    have hnz : (n : Int) ≤ r.size := by omega
    have hnz0 : (0 : Int) ≤ n := by omega
    have HRZ := Lib.hid hrz
    clear hc hr hrl hsl hn hs
    by_cases h0 : 0 < n
    · rw [if_pos h0] at hst
      obtain ⟨d, hd⟩ : ∃ d, r.extract 0 n = d := ⟨_, rfl⟩
      obtain ⟨t, ht⟩ : ∃ t, r.extract n r.size = t := ⟨_, rfl⟩
      rw [ht] at hxt
      have hdl2 : d.data.toList = r.data.toList.take n := by
        rw [← hd, ByteArray.data_extract, Array.toList_extract]
        simp [List.extract]
      rw [← hdl2, ← hxt] at hst
      rw [← hdl2] at htw
      have hdne : d.data.toList ≠ [] := by
        rw [hdl2]
        intro e
        have := congrArg List.length e
        rw [List.length_take, hrr] at this
        change min n r.size = 0 at this
        omega
      have hdz : d.size ≤ 1000000000 := by
        have h1 : d.data.toList.length = d.size := by simp
        rw [hdl2, List.length_take] at h1
        omega
      have HD := Lib.hid hd
      have HT := Lib.hid ht
      have h0z : (0 : Int) < n := by omega
      by_cases hv : dval 0 d.data.toList < 9223372036854775808
      · rw [if_pos hv] at hst
        have HA := Lib.hid (fun w (h : PW w aT aQ) => atoi_ok d hdz hdne htw hv w h)
        generalize dval 0 d.data.toList = v at hst HA hv
        have HST := Lib.hid hst
        clear hst hdne htw hv hdl hrr hxt hdl2 hd ht hrz
        go_enter Tryz.func31, Tryz.ntmps31
        go_wp2_with fail
        refine (HC.out _).mono ?_
        rintro e wa ⟨rfl, hwa⟩
        rw [hwa]
        clear hwa
        go_wp2_with fail
        refine (HDG.out _).mono ?_
        rintro e w1 ⟨rfl, hb1⟩
        have hb2 := hb0.trans (hb1.mono hb0.size)
        have hB2 := hB0.below hb1 hB0.lt
        clear hb1 hB0 hb0
        go_wp2_with fail
        rw [HD.out]
        refine (HA.out w1 (HU.out _ hb2)).mono ?_
        rintro e w3 ⟨rfl, hb3⟩
        have hB3 := hB2.below hb3 hB2.lt
        have hb4 := hb2.trans (hb3.mono hb2.size)
        have hc0 := hB3.cell 0
        have hc1 := hB3.cell 1
        have hf := hB3.frozen
        clear hb3 hB2 hb2
        go_wp2_with fail
        go_region
        go_wp2_with fail
        refine bodyPost_ret (v := .tuple #[.agg #[.int .i64 v, .string ⟨#[]⟩], .string t, .bool true]) ?_ rfl ?_
        · have b2 := ((hB3.set 0 (.int .i64 v)).set 1 (.string ⟨#[]⟩)).drew
          have q0 := b2.cell 0
          have q1 := b2.cell 1
          simp [results, Tryz.results31, go_sem, q0, q1, HT.out]
        · refine ⟨((hb4.setCell (Nat.le_refl _) _).setCell (Nat.le_refl _) _).drew, ?_⟩
          rw [HST.out]
      · rw [if_neg hv] at hst
        have HA := Lib.hid (fun w (h : PW w aT aQ) => atoi_range d hdz hdne htw hv w h)
        have HST := Lib.hid hst
        clear hst hdne htw hv hdl hrr hxt hdl2 hd ht hrz
        go_enter Tryz.func31, Tryz.ntmps31
        go_wp2_with fail
        refine (HC.out _).mono ?_
        rintro e wa ⟨rfl, hwa⟩
        rw [hwa]
        clear hwa
        go_wp2_with fail
        refine (HDG.out _).mono ?_
        rintro e w1 ⟨rfl, hb1⟩
        have hb2 := hb0.trans (hb1.mono hb0.size)
        have hB2 := hB0.below hb1 hB0.lt
        clear hb1 hB0 hb0
        go_wp2_with fail
        rw [HD.out]
        refine (HA.out w1 (HU.out _ hb2)).mono ?_
        rintro e w3 ⟨⟨v, a, rfl⟩, hb3⟩
        have hB3 := hB2.below hb3 hB2.lt
        have hb4 := hb2.trans (hb3.mono hb2.size)
        have hc0 := hB3.cell 0
        have hc1 := hB3.cell 1
        have hf := hB3.frozen
        clear hb3 hB2 hb2
        go_wp2_with fail
        go_region
        go_wp2_with fail
        refine bodyPost_ret (v := .tuple #[.agg #[.int .i64 v, .string ⟨#[]⟩], .string t, .bool false]) ?_ rfl ?_
        · have b2 := ((hB3.set 0 (.int .i64 v)).set 1 (.string ⟨#[]⟩)).drew
          have q0 := b2.cell 0
          have q1 := b2.cell 1
          simp [results, Tryz.results31, go_sem, q0, q1, HT.out]
        · refine ⟨((hb4.setCell (Nat.le_refl _) _).setCell (Nat.le_refl _) _).drew, ?_⟩
          rw [HST.out]
          exact ⟨_, _, _, rfl⟩
    · obtain rfl : n = 0 := by omega
      rw [if_neg h0] at hst
      have HX := Lib.hid (fun w (h : UW w aT aQ) => utf_Unquote r w h hrz)
      have HST := Lib.hid hst
      clear hst htw hdl hrr hxt hrz h0 hnz hnz0
      go_enter Tryz.func31, Tryz.ntmps31
      go_wp2_with fail
      refine (HC.out _).mono ?_
      rintro e wa ⟨rfl, hwa⟩
      rw [hwa]
      clear hwa
      go_wp2_with fail
      refine (HDG.out _).mono ?_
      rintro e w1 ⟨rfl, hb1⟩
      have hb2 := hb0.trans (hb1.mono hb0.size)
      have hB2 := hB0.below hb1 hB0.lt
      clear hb1 hB0 hb0
      go_wp2_with fail
      refine (HX.out w1 (HU.out _ hb2).uw).mono ?_
      rintro e w3 hu
      have hb3 := hu.1
      have hB3 := hB2.below hb3 hB2.lt
      have hb4 := hb2.trans (hb3.mono hb2.size)
      have hc0 := hB3.cell 0
      have hc1 := hB3.cell 1
      have hf := hB3.frozen
      cases hq : unquoteL r.data.toList with
      | error b =>
        have hm := hu.2
        rw [hq] at hm HST
        cases b with
        | true =>
          have hm' : e = .returned (.tuple #[.string ⟨#[]⟩, .string r, .int .i64 20]) := hm
          subst hm'
          clear hb3 hB2 hb2 hu hm hq
          go_wp2_with fail
          refine bodyPost_ret (v := .tuple #[.agg #[.int .i64 (-1), .string ⟨#[]⟩], .string r, .bool false]) ?_ rfl ?_
          · have b2 := ((hB3.set 0 (.int .i64 (-1))).set 1 (.string ⟨#[]⟩))
            have q0 := b2.cell 0
            have q1 := b2.cell 1
            simp [results, Tryz.results31, go_sem, q0, q1]
          · refine ⟨((hb4.setCell (Nat.le_refl _) _).setCell (Nat.le_refl _) _), ?_⟩
            rw [HST.out]
            exact ⟨_, _, _, rfl⟩
        | false =>
          have hm' : e = .returned (.tuple #[.string ⟨#[]⟩, .string r, .int .i64 21]) := hm
          subst hm'
          clear hb3 hB2 hb2 hu hm hq
          go_wp2_with fail
          refine bodyPost_ret (v := .tuple #[.agg #[.int .i64 (-1), .string ⟨#[]⟩], .string r, .bool false]) ?_ rfl ?_
          · have b2 := ((hB3.set 0 (.int .i64 (-1))).set 1 (.string ⟨#[]⟩))
            have q0 := b2.cell 0
            have q1 := b2.cell 1
            simp [results, Tryz.results31, go_sem, q0, q1]
          · refine ⟨((hb4.setCell (Nat.le_refl _) _).setCell (Nat.le_refl _) _), ?_⟩
            rw [HST.out]
            exact ⟨_, _, _, rfl⟩
      | ok p =>
        obtain ⟨k, r'⟩ := p
        have hm := hu.2
        rw [hq] at hm HST
        obtain ⟨ks, hks⟩ : ∃ ks : ByteArray, (⟨k.toArray⟩ : ByteArray) = ks := ⟨_, rfl⟩
        obtain ⟨rs, hrs⟩ : ∃ rs : ByteArray, (⟨r'.toArray⟩ : ByteArray) = rs := ⟨_, rfl⟩
        have hm' : e = .returned (.tuple #[.string ⟨k.toArray⟩, .string ⟨r'.toArray⟩, .int .i64 0]) := hm
        rw [hks, hrs] at hm'
        subst hm'
        have HKS := Lib.hid hks
        have HRS := Lib.hid hrs
        clear hb3 hB2 hb2 hu hm hq hks hrs
        go_wp2_with fail
        refine bodyPost_ret (v := .tuple #[.agg #[.int .i64 (-1), .string ks], .string rs, .bool true]) ?_ rfl ?_
        · have b2 := ((hB3.set 0 (.int .i64 (-1))).set 1 (.string ks))
          have q0 := b2.cell 0
          have q1 := b2.cell 1
          simp [results, Tryz.results31, go_sem, q0, q1]
        · refine ⟨((hb4.setCell (Nat.le_refl _) _).setCell (Nat.le_refl _) _), ?_⟩
          rw [HST.out, ← HKS.out, ← HRS.out]
          rfl
  · rw [if_neg hc, decide_eq_false hc, str_back'] at HC
    have HDG := Lib.hid (fun w => path_digits s hs w)
    have HX := Lib.hid (fun w (h : UW w aT aQ) => utf_Unquote s w h hs)
    have HST := Lib.hid (stepL_no hc)
    clear hc hs
    generalize digN s.data.toList = n at HDG
    go_enter Tryz.func31, Tryz.ntmps31
    go_wp2_with fail
    refine (HC.out _).mono ?_
    rintro e wa ⟨rfl, hwa⟩
    rw [hwa]
    clear hwa
    go_wp2_with fail
    refine (HDG.out _).mono ?_
    rintro e w1 ⟨rfl, hb1⟩
    have hb2 := hb0.trans (hb1.mono hb0.size)
    have hB2 := hB0.below hb1 hB0.lt
    clear hb1 hB0 hb0
    go_wp2_with fail
    refine (HX.out w1 (HU.out _ hb2).uw).mono ?_
    rintro e w3 hu
    have hb3 := hu.1
    have hB3 := hB2.below hb3 hB2.lt
    have hb4 := hb2.trans (hb3.mono hb2.size)
    have hc0 := hB3.cell 0
    have hc1 := hB3.cell 1
    have hf := hB3.frozen
    obtain ⟨x, y, z, rfl⟩ := unq_any' hu
    clear hb3 hB2 hb2 hu
    go_wp2_with fail
    refine bodyPost_ret (v := .tuple #[.agg #[.int .i64 (-1), .string x], .string y, .bool false]) ?_ rfl ?_
    · have b2 := ((hB3.set 0 (.int .i64 (-1))).set 1 (.string x))
      have q0 := b2.cell 0
      have q1 := b2.cell 1
      simp [results, Tryz.results31, go_sem, q0, q1]
    · refine ⟨((hb4.setCell (Nat.le_refl _) _).setCell (Nat.le_refl _) _), ?_⟩
      rw [HST.out]
      exact ⟨_, _, _, rfl⟩
end Go.Proofs.YtgfeeakcpojicaaGreatDoor
