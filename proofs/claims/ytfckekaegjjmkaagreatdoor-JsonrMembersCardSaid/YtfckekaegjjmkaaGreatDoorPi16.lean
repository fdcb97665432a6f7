/- The texts DecN, DrG, put together. -/
import Derived.Test.YtfckekaegjjmkaaGreatDoorPi15
import Derived.Test.YtfckekaegjjmkaaGreatDoorPi13
namespace Go.Proofs.YtfckekaegjjmkaaGreatDoor
open Go.RowKit Go.Shelf
attribute [local go_sem] Oper.semAt_some

set_option maxHeartbeats 4000000 in
set_option maxRecDepth 100000 in
theorem dec_Make_no (neg : Bool) (dg : ByteArray) (ex : Int) (hne : 1 ≤ dg.size) (hsz : dg.size ≤ 1000000000) (hd : dg.data.toList.all isDig = true) (hm : makeD neg dg.data.toList ex = none) (w : World) :
    Calls Tryz.prog 123 #[.bool neg, .string dg, .int .i64 ex] w fun x w' => x = .returned (.tuple #[.agg #[.bool false, .string ⟨#[]⟩, .int .i64 0], .int .i64 40]) ∧ Below w.heap.size w w' := by
  have hlen : dg.data.toList.length = dg.size := by simp
  have z2 : dg.toList.isEmpty = false := by rw [list_empty]; exact decide_eq_false (by omega)
  have hk := Blk.new w #[.bool false, .string ⟨#[]⟩, .int .i64 0] 23
  by_cases hl : dg.size ≤ 400
  case neg =>
    have y1 : (400 : Int) < dg.size := by omega
    clear hm hd hlen
    refine calls_of_marks Tryz.func123 rfl ?_
    simp only [Tryz.ntmps123, List.size_toArray, List.length_cons, List.length_nil, Nat.reduceAdd, Nat.reduceSub, Array.replicate_succ, Array.replicate_zero, List.push_toArray, List.append_toArray, List.nil_append, List.cons_append]
    go_wp2_with fail
    apply wp_scope_forward 0 rfl
    go_wp2_with fail
    go_step3
    simp +zetaDelta only [Exit.then, jump_goto]
    have hkA := hk.alloc (.cells #[.bool false, .string ⟨#[]⟩, .int .i64 0] 23)
    have c0 := hkA.cell 0
    have c1 := hkA.cell 1
    have c2 := hkA.cell 2
    have f0 := hkA.frozen 0
    have f1 := hkA.frozen 1
    have f2 := hkA.frozen 2
    have hbA : Below w.heap.size w ((w.alloc (.cells #[.bool false, .string ⟨#[]⟩, .int .i64 0] 23)).alloc (.cells #[.bool false, .string ⟨#[]⟩, .int .i64 0] 23)) := ((Below.refl _ w).alloc (Nat.le_refl _) _).alloc (by simp) _
    go_wp2_with fail
    rw [Exit.noGoto_ret]
    exact leave0 (results_cell (T := 23) (b := w.heap.size) rfl (by kernel_rfl) (by kernel_rfl) hkA Tryz.underlying23 rfl (by kernel_rfl)) rfl ⟨rfl, hbA⟩
  have y1 : ¬ (400 : Int) < dg.size := by omega
  have HW := Lib.hid (dec_within ex 1000 (by decide) (by decide))
  by_cases hex : -1000 ≤ ex ∧ ex ≤ 1000
  case neg =>
    have he : (decide (-1000 ≤ ex) && decide (ex ≤ 1000)) = false := by
      rw [Bool.and_eq_false_iff, decide_eq_false_iff_not, decide_eq_false_iff_not]
      exact Decidable.not_and_iff_or_not.1 hex
    simp only [he] at HW
    clear hm hd hlen hex he
    refine calls_of_marks Tryz.func123 rfl ?_
    simp only [Tryz.ntmps123, List.size_toArray, List.length_cons, List.length_nil, Nat.reduceAdd, Nat.reduceSub, Array.replicate_succ, Array.replicate_zero, List.push_toArray, List.append_toArray, List.nil_append, List.cons_append]
    go_wp2_with fail
    apply wp_scope_forward 0 rfl
    go_wp2_with fail
    refine (HW.out _).mono ?_
    rintro x w1 ⟨rfl, rfl⟩
    go_wp2_with fail
    go_step3
    simp +zetaDelta only [Exit.then, jump_goto]
    have hkA := hk.alloc (.cells #[.bool false, .string ⟨#[]⟩, .int .i64 0] 23)
    have c0 := hkA.cell 0
    have c1 := hkA.cell 1
    have c2 := hkA.cell 2
    have f0 := hkA.frozen 0
    have f1 := hkA.frozen 1
    have f2 := hkA.frozen 2
    have hbA : Below w.heap.size w ((w.alloc (.cells #[.bool false, .string ⟨#[]⟩, .int .i64 0] 23)).alloc (.cells #[.bool false, .string ⟨#[]⟩, .int .i64 0] 23)) := ((Below.refl _ w).alloc (Nat.le_refl _) _).alloc (by simp) _
    go_wp2_with fail
    rw [Exit.noGoto_ret]
    exact leave0 (results_cell (T := 23) (b := w.heap.size) rfl (by kernel_rfl) (by kernel_rfl) hkA Tryz.underlying23 rfl (by kernel_rfl)) rfl ⟨rfl, hbA⟩
  rw [decide_eq_true hex.1, decide_eq_true hex.2] at HW
  have HX := Lib.hid (indexF_digits dg (by omega) hd)
  have HL := Lib.hid (fun w => Tryz.strings_TrimLeft_one dg 48 (by decide) w)
  simp only [trimL_lib] at HL
  obtain ⟨s1, hs1⟩ : ∃ s1 : ByteArray, (⟨(trimL dg.data.toList).toArray⟩ : ByteArray) = s1 := ⟨_, rfl⟩
  have h1l : s1.data.toList = trimL dg.data.toList := by rw [← hs1]
  have h1z : s1.size = (trimL dg.data.toList).length := by rw [← h1l]; simp
  simp only [hs1] at HL
  have h1le : s1.size ≤ dg.size := by
    obtain ⟨k, h, _⟩ := trimL_parts dg.data.toList
    have := congrArg List.length h
    rw [List.length_append, hlen, ← h1z] at this
    omega
  unfold makeD at hm
  have hnil : ¬ dg.data.toList = [] := fun e => by rw [e] at hlen; simp at hlen; omega
  rw [if_neg (fun h => by
    rcases h with h | h | h | h
    · exact hnil h
    · omega
    · exact h hex
    · exact h hd)] at hm
  by_cases hz : trimL dg.data.toList = []
  · rw [if_pos hz] at hm
    cases hm
  · rw [if_neg hz] at hm
    split at hm
    case isTrue => cases hm
    rename_i hok
    rw [Bool.not_eq_true] at hok
    obtain ⟨d, h2⟩ : ∃ d : ByteArray, (⟨(trimR (trimL dg.data.toList)).toArray⟩ : ByteArray) = d := ⟨_, rfl⟩
    obtain ⟨e, h3⟩ : ∃ e : Int, ex + ((trimL dg.data.toList).length : Int) - ((trimR (trimL dg.data.toList)).length : Int) = e := ⟨_, rfl⟩
    have HT := Lib.hid (fun w => Tryz.strings_TrimRight_one s1 48 (by decide) w (by omega))
    simp only [trimR_lib, h1l] at HT
    rw [h2] at hok
    simp only [h2] at HT
    have h2l : (trimR (trimL dg.data.toList)).length = d.size := by rw [← h2]; rfl
    rw [h2l, ← h1z] at h3 hok
    rw [h3] at hok
    have HR := Lib.hid (dec_Right neg d e (by
      obtain ⟨k, h, _⟩ := trimR_parts (trimL dg.data.toList)
      have := congrArg List.length h
      rw [List.length_append, h2l, ← h1z] at this
      omega))
    simp only [hok] at HR
    have z3 : s1.toList.isEmpty = false := by
      rw [list_empty]
      refine decide_eq_false (fun h => hz ?_)
      rw [h1z] at h
      exact List.eq_nil_of_length_eq_zero h
    have hk := Blk.new w #[.bool false, .string ⟨#[]⟩, .int .i64 0] 23
    have hkB := Blk.new (w.alloc (.cells #[.bool false, .string ⟨#[]⟩, .int .i64 0] 23)) #[.bool false, .string ⟨#[]⟩, .int .i64 0] 23
    rw [World.size_alloc] at hkB
    have hds : d.size ≤ s1.size := by
      obtain ⟨k, h, _⟩ := trimR_parts (trimL dg.data.toList)
      have := congrArg List.length h
      rw [List.length_append, h2l, ← h1z] at this
      omega
    have y5 : wrap64 (ex + s1.size) = ex + s1.size := by unfold wrap64; omega
    have y6 : wrap64 (ex + s1.size - d.size) = e := by rw [← h3]; unfold wrap64; omega
    clear hok h2l h2 hs1 h1l h1z h1le hlen hds h3
    refine calls_of_marks Tryz.func123 rfl ?_
    simp only [Tryz.ntmps123, List.size_toArray, List.length_cons, List.length_nil, Nat.reduceAdd, Nat.reduceSub, Array.replicate_succ, Array.replicate_zero, List.push_toArray, List.append_toArray, List.nil_append, List.cons_append]
    go_wp2_with fail
    apply wp_scope_forward 0 rfl
    go_wp2_with fail
    refine (HW.out _).mono ?_
    rintro x w1 ⟨rfl, rfl⟩
    go_wp2_with fail
    refine (HX.out _).mono ?_
    rintro x w2 ⟨rfl, hb2⟩
    go_wp2_with fail
    refine (HL.out _).mono ?_
    rintro x w3 ⟨rfl, rfl⟩
    go_wp2_with fail
    refine (HT.out _).mono ?_
    rintro x w4 ⟨rfl, rfl⟩
    have hkA := (hk.alloc (.cells #[.bool false, .string ⟨#[]⟩, .int .i64 0] 23)).below hb2 (hk.alloc _).lt
    have hkC := hkB.below hb2 hkB.lt
    have c0 := hkC.cell 0
    have c1 := hkC.cell 1
    have c2 := hkC.cell 2
    have f0 := hkC.frozen 0
    have f1 := hkC.frozen 1
    have f2 := hkC.frozen 2
    have hbA : Below w.heap.size w w4 := (((Below.refl _ w).alloc (Nat.le_refl _) _).alloc (by simp) _).trans (hb2.mono (by simp; omega))
    clear HX HW HL HT hb2 hk hkB
    go_wp2_with fail
    have hkD := ((hkC.set 0 (.bool neg)).set 1 (.string d)).set 2 (.int .i64 e)
    have hkE := ((hkA.other (b' := w.heap.size + 1) (by omega) 0 (.bool neg)).other (b' := w.heap.size + 1) (by omega) 1 (.string d)).other (b' := w.heap.size + 1) (by omega) 2 (.int .i64 e)
    have hbB := ((hbA.setCell (p := ⟨w.heap.size + 1, 0, none⟩) (by simp) (.bool neg)).setCell (p := ⟨w.heap.size + 1, 1, none⟩) (by simp) (.string d)).setCell (p := ⟨w.heap.size + 1, 2, none⟩) (by simp) (.int .i64 e)
    clear c0 c1 c2 f0 f1 f2 hkA hkC hbA
    obtain ⟨W5, hW5⟩ : ∃ W, ((w4.setCell ⟨w.heap.size + 1, 0, none⟩ (.bool neg)).setCell ⟨w.heap.size + 1, 1, none⟩ (.string d)).setCell ⟨w.heap.size + 1, 2, none⟩ (.int .i64 e) = W := ⟨_, rfl⟩
    rw [hW5] at hkD hkE hbB ⊢
    clear hW5
    refine (HR.out _).mono ?_
    rintro x w6 ⟨rfl, hb6⟩
    have hk6 := hkE.below hb6 hkE.lt
    have hk7 := hkD.below hb6 hkD.lt
    have hbC := hbB.trans (hb6.mono hbB.size)
    have c0 := hk6.cell 0
    have c1 := hk6.cell 1
    have c2 := hk6.cell 2
    have f0 := hk6.frozen 0
    have f1 := hk6.frozen 1
    have f2 := hk6.frozen 2
    have d0 : w6.cell? ⟨w.heap.size + 1, 0, none⟩ = some (.bool neg) := hk7.cell 0
    have d1 : w6.cell? ⟨w.heap.size + 1, 1, none⟩ = some (.string d) := hk7.cell 1
    have d2 : w6.cell? ⟨w.heap.size + 1, 2, none⟩ = some (.int .i64 e) := hk7.cell 2
    clear hkD hkE hbB HR hb6
    go_wp2_with fail
    go_step3
    go_wp2_with fail
    rw [jump_ret]
    have hk8 := ((hk6.set 0 (.bool false)).set 1 (.string ⟨#[]⟩)).set 2 (.int .i64 0)
    refine leave0 (results_cell (T := 23) (b := w.heap.size) rfl (by kernel_rfl) (by kernel_rfl) hk8 Tryz.underlying23 rfl (by kernel_rfl)) rfl ⟨rfl, ?_⟩
    exact hbC.trans (((Below.refl _ _).setCell (by simp) _).trans (((Below.refl _ _).setCell (by simp) _).trans ((Below.refl _ _).setCell (by simp) _)))
end Go.Proofs.YtfckekaegjjmkaaGreatDoor
namespace Go.Proofs.YtfckekaegjjmkaaGreatDoor
open Go.RowKit Go.Shelf
attribute [local go_sem] Oper.semAt_some

theorem minus_next (l : List UInt8) : minusP l = nextD [45] l := by
  unfold minusP
  split
  · simp [nextD]
  · rename_i h
    cases l with
    | nil => rfl
    | cons x r =>
      have : ¬ x = 45 := fun e => h r (by rw [e])
      simp [nextD, this]
theorem digits_parts (l : List UInt8) : (digits l).1.length + (digits l).2.length = l.length := by
  unfold digits
  rw [← List.length_append, List.take_append_drop]
theorem whole_parts (l : List UInt8) : (wholeP l).1.length + (wholeP l).2.length = l.length ∧ ∀ c ∈ (wholeP l).1, isDig c = true := by
  unfold wholeP
  split
  · refine ⟨by simp; omega, fun c hc => ?_⟩
    rw [List.mem_singleton.1 hc]
    rfl
  · exact ⟨digits_parts l, digits_all_dig l⟩
theorem part_parts (l : List UInt8) : (partP l).1.length + (partP l).2.length ≤ l.length ∧ ∀ c ∈ (partP l).1, isDig c = true := by
  unfold partP
  split
  · rename_i r
    split
    · exact ⟨by simp, by simp⟩
    · have := digits_parts r
      exact ⟨by rw [List.length_cons]; omega, digits_all_dig r⟩
  · exact ⟨by simp, by simp⟩
theorem power_small {l r : List UInt8} {e : Int} (h : powerP l = some (e, r)) : -10000 ≤ e ∧ e ≤ 10000 := by
  rw [power_next] at h
  split at h
  · split at h
    · cases h
      omega
    · split at h
      · rename_i h4
        have hup := dval_up (digits_all_dig (signP (nextD [101, 69] l).2).2)
        have hv := Nat.lt_of_lt_of_le hup (Nat.pow_le_pow_right (n := 10) (by decide) h4)
        have hs : (signP (nextD [101, 69] l).2).1 = -1 ∨ (signP (nextD [101, 69] l).2).1 = 1 := by
          rw [sign_next]
          split
          · exact .inl rfl
          · exact .inr rfl
        injection h with h
        injection h with h _
        rcases hs with hs | hs
        · rw [hs] at h
          omega
        · rw [hs] at h
          omega
      · cases h
  · cases h
    omega
def parseM (neg : Bool) (w p : List UInt8) (pr : Option (Int × List UInt8)) : Option ((Bool × ByteArray × Int) × List UInt8) := match pr with
  | none => none
  | some (e, r) => match makeD neg (w ++ p) (e - (p.length : Int)) with
    | none => none
    | some d => some (d, r)
theorem parse_steps {l l1 w l2 p l3 : List UInt8} {neg : Bool} (h1 : nextD [45] l = (neg, l1)) (h2 : wholeP l1 = (w, l2)) (h3 : partP l2 = (p, l3)) :
    parseD l = if w = [] then none else parseM neg w p (powerP l3) := by
  unfold parseD
  rw [minus_next, h1, h2, h3]
  rfl
/-- What Parse tells. -/
def ParsePost (s : ByteArray) (w : World) (res : Option ((Bool × ByteArray × Int) × List UInt8)) (x : Ending) (w' : World) : Prop := Below w.heap.size w w' ∧ match res with
  | some ((n, d, e), r) => x = .returned (.tuple #[.agg #[.bool n, .string d, .int .i64 e], .string (bsD r), .int .i64 0])
  | none => x = .returned (.tuple #[.agg #[.bool false, .string ⟨#[]⟩, .int .i64 0], .string s, .int .i64 40])
theorem bsD_append (a b : List UInt8) : bsD a ++ bsD b = bsD (a ++ b) := by
  apply ByteArray.ext
  apply Array.toList_inj.1
  rw [bsD_list]
  simp [bsD]

set_option maxHeartbeats 4000000 in
set_option maxRecDepth 100000 in
theorem dec_Parse (s : ByteArray) (hz : s.size ≤ 100000000) (w : World) (hA : AtW w) :
    Calls Tryz.prog 76 #[.string s] w (ParsePost s w (parseD s.data.toList)) := by
  have hsl : s.data.toList.length = s.size := by simp
  have g1 := nextD_len [45] s.data.toList
  obtain ⟨⟨neg, l1⟩, h1⟩ : ∃ x, nextD [45] s.data.toList = x := ⟨_, rfl⟩
  have g2 := whole_parts l1
  obtain ⟨⟨wh, l2⟩, h2⟩ : ∃ x, wholeP l1 = x := ⟨_, rfl⟩
  have g3 := part_parts l2
  obtain ⟨⟨pt, l3⟩, h3⟩ : ∃ x, partP l2 = x := ⟨_, rfl⟩
  rw [parse_steps h1 h2 h3]
  rw [h1] at g1
  rw [h2] at g2
  rw [h3] at g3
  simp only [] at g1 g2 g3
  obtain ⟨g2, d2⟩ := g2
  obtain ⟨g3, d3⟩ := g3
  have N1 := Lib.hid (fun W p (h : RdD W p s) => rd_next1 p s 45 45 rfl W h (by omega))
  have N2 := Lib.hid (fun W p (h : RdD W p (bsD l1)) => dec_whole p (bsD l1) W h (by rw [bsD_size]; omega))
  have N3 := Lib.hid (fun W p (h : RdD W p (bsD l2)) => dec_part p (bsD l2) W h (by rw [bsD_size]; omega))
  have N4 := Lib.hid (fun W p (h : RdD W p (bsD l3)) (hp : w.heap.size ≤ p) (hb : Below w.heap.size w W) => dec_power p (bsD l3) W h (by rw [bsD_size]; omega) w.heap.size w hA rfl hp hb)
  simp only [h1] at N1
  simp only [bsD_list, h2] at N2
  simp only [bsD_list, h3] at N3
  simp only [bsD_list] at N4
  clear h1 h2 h3 hA
  have hp10 := fun (e : Int) (r : List UInt8) => power_small (l := l3) (r := r) (e := e)
  obtain ⟨pr, hpr⟩ : ∃ x, powerP l3 = x := ⟨_, rfl⟩
  rw [hpr] at N4 hp10 ⊢
  clear hpr
  generalize hres : (if wh = [] then (none : Option ((Bool × ByteArray × Int) × List UInt8)) else parseM neg wh pt pr) = res
  have HRES := Lib.hid hres
  clear hres
  have hk := Blk.new w #[.bool false, .string ⟨#[]⟩, .int .i64 0] 23
  have hkA := hk.alloc (.cells #[.string s] 154)
  have hrA := Blk.new (w.alloc (.cells #[.bool false, .string ⟨#[]⟩, .int .i64 0] 23)) #[.string s] 154
  rw [World.size_alloc] at hrA
  have hbA : Below w.heap.size w ((w.alloc (.cells #[.bool false, .string ⟨#[]⟩, .int .i64 0] 23)).alloc (.cells #[.string s] 154)) := ((Below.refl _ w).alloc (Nat.le_refl _) _).alloc (by simp) _
  obtain ⟨W1, hW1⟩ : ∃ W, (w.alloc (.cells #[.bool false, .string ⟨#[]⟩, .int .i64 0] 23)).alloc (.cells #[.string s] 154) = W := ⟨_, rfl⟩
  have hz1 : W1.heap.size = w.heap.size + 2 := by rw [← hW1]; simp
  rw [hW1] at hkA hrA hbA
  obtain ⟨n, hn⟩ : ∃ n, w.heap.size = n := ⟨_, rfl⟩
  rw [hn] at hk hkA hrA hbA hz1 N4
  refine calls_of_marks Tryz.func76 rfl ?_
  simp only [Tryz.ntmps76, List.size_toArray, List.length_cons, List.length_nil, Nat.reduceAdd, Nat.reduceSub, Array.replicate_succ, Array.replicate_zero, List.push_toArray, List.append_toArray, List.nil_append, List.cons_append]
  go_wp2_with fail
  have hN1 := N1.out W1 (n + 1) hrA
  rw [hz1] at hN1
  refine hN1.mono ?_
  rintro e w2 ⟨rfl, hg2, hr2⟩
  have hb2 : Below n w w2 := hbA.trans (grown_below hg2 (by omega) (by omega))
  have hk2 : Blk w2 n #[.bool false, .string ⟨#[]⟩, .int .i64 0] 23 := (hg2.block n (by omega) (fun e => by injection e with e; omega)).trans hkA
  clear hkA hrA hbA hN1 N1 hk hg2 hW1 hz1
  go_wp2_with fail
  refine (N2.out w2 _ hr2).mono ?_
  rintro e w3 ⟨rfl, hg3, hr3⟩
  have hb3 : Below n w w3 := hb2.trans (grown_below hg3 (by omega) hr2.lt)
  have hk3 : Blk w3 n #[.bool false, .string ⟨#[]⟩, .int .i64 0] 23 := (hg3.block n hk2.lt (fun e => by injection e with e; omega)).trans hk2
  clear hk2 hb2 N2 hg3 hr2
  go_wp2_with fail
  refine (N3.out w3 _ hr3).mono ?_
  rintro e w4 ⟨rfl, hg4, hr4⟩
  have hb4 : Below n w w4 := hb3.trans (grown_below hg4 (by omega) hr3.lt)
  have hk4 : Blk w4 n #[.bool false, .string ⟨#[]⟩, .int .i64 0] 23 := (hg4.block n hk3.lt (fun e => by injection e with e; omega)).trans hk3
  clear hk3 hb3 N3 hg4 hr3
  go_wp2_with fail
  refine (N4.out w4 _ hr4 (by omega) hb4).mono ?_
  rintro e w5 ⟨⟨hg5, s5, hr5, hs5⟩, he5⟩
  have hb5 : Below n w w5 := hb4.trans (grown_below hg5 (by omega) hr4.lt)
  have hk5 : Blk w5 n #[.bool false, .string ⟨#[]⟩, .int .i64 0] 23 := (hg5.block n hk4.lt (fun e => by injection e with e; omega)).trans hk4
  clear hk4 hb4 N4 hg5 hr4
  by_cases hw : wh = []
  · subst hw
    obtain rfl : res = none := by rw [← HRES.out, if_pos rfl]
    have he5 : ∃ (k : Int) (b : Bool), e = .returned (.tuple #[.int .i64 k, .bool b]) := by
      cases pr with
      | none => obtain ⟨k, h⟩ := he5; exact ⟨_, _, h⟩
      | some q => exact ⟨_, _, he5⟩
    obtain ⟨k, b, rfl⟩ := he5
    have zz : bsD [] = ⟨#[]⟩ := rfl
    rw [zz]
    clear hs5 hp10 d2 d3 g2 g3 g1 hsl hr5 zz
    cases b with
    | true =>
      have c0 := hk5.cell 0
      have f0 := hk5.frozen 0
      have c1 := hk5.cell 1
      have f1 := hk5.frozen 1
      have c2 := hk5.cell 2
      have f2 := hk5.frozen 2
      go_wp2_with fail
      have hk8 := ((hk5.set 0 (.bool false)).set 1 (.string ⟨#[]⟩)).set 2 (.int .i64 0)
      refine leave0 (results_cell3 (T := 23) (b := n) (u := .string s) (u2 := .int .i64 40) rfl (by kernel_rfl) (by kernel_rfl) (by kernel_rfl) hk8 Tryz.underlying23 rfl (by kernel_rfl)) rfl ⟨?_, ?_⟩
      · rw [hn]
        exact hb5.trans (((Below.refl _ _).setCell (by simp) _).trans (((Below.refl _ _).setCell (by simp) _).trans ((Below.refl _ _).setCell (by simp) _)))
      · rfl
    | false =>
      have c0 := hk5.cell 0
      have f0 := hk5.frozen 0
      have c1 := hk5.cell 1
      have f1 := hk5.frozen 1
      have c2 := hk5.cell 2
      have f2 := hk5.frozen 2
      go_wp2_with fail
      have hk8 := ((hk5.set 0 (.bool false)).set 1 (.string ⟨#[]⟩)).set 2 (.int .i64 0)
      refine leave0 (results_cell3 (T := 23) (b := n) (u := .string s) (u2 := .int .i64 40) rfl (by kernel_rfl) (by kernel_rfl) (by kernel_rfl) hk8 Tryz.underlying23 rfl (by kernel_rfl)) rfl ⟨?_, ?_⟩
      · rw [hn]
        exact hb5.trans (((Below.refl _ _).setCell (by simp) _).trans (((Below.refl _ _).setCell (by simp) _).trans ((Below.refl _ _).setCell (by simp) _)))
      · rfl
  have z := str_isE hw
  have hwz : (bsD wh).size = wh.length := rfl
  have hpz : (bsD pt).size = pt.length := rfl
  have hap := bsD_append wh pt
  obtain ⟨wb, hwb⟩ : ∃ x, bsD wh = x := ⟨_, rfl⟩
  obtain ⟨pb, hpb⟩ : ∃ x, bsD pt = x := ⟨_, rfl⟩
  rw [hwb, hpb] at hap
  rw [hwb] at z hwz ⊢
  rw [hpb] at hpz ⊢
  cases pr with
  | none =>
    obtain rfl : res = none := by rw [← HRES.out, if_neg hw]; rfl
    obtain ⟨k, rfl⟩ := he5
    clear hs5 hp10 d2 d3 g2 g3 g1 hsl hr5 hwb hpb hap
    have c0 := hk5.cell 0
    have f0 := hk5.frozen 0
    have c1 := hk5.cell 1
    have f1 := hk5.frozen 1
    have c2 := hk5.cell 2
    have f2 := hk5.frozen 2
    go_wp2_with fail
    have hk8 := ((hk5.set 0 (.bool false)).set 1 (.string ⟨#[]⟩)).set 2 (.int .i64 0)
    refine leave0 (results_cell3 (T := 23) (b := n) (u := .string s) (u2 := .int .i64 40) rfl (by kernel_rfl) (by kernel_rfl) (by kernel_rfl) hk8 Tryz.underlying23 rfl (by kernel_rfl)) rfl ⟨?_, ?_⟩
    · rw [hn]
      exact hb5.trans (((Below.refl _ _).setCell (by simp) _).trans (((Below.refl _ _).setCell (by simp) _).trans ((Below.refl _ _).setCell (by simp) _)))
    · rfl
  | some q =>
    obtain ⟨ev, rs⟩ := q
    subst he5
    subst hs5
    have hp1 := hp10 ev rs rfl
    have hwl : 1 ≤ wh.length := by
      cases wh with
      | nil => exact absurd rfl hw
      | cons a l => simp
    have hdd : (bsD (wh ++ pt)).data.toList.all isDig = true := by
      rw [bsD_list, List.all_eq_true]
      intro c hc
      rcases List.mem_append.1 hc with h | h
      · exact d2 c h
      · exact d3 c h
    have hdz : (bsD (wh ++ pt)).size = wh.length + pt.length := by rw [bsD_size, List.length_append]
    obtain ⟨dv, hdv⟩ : ∃ x, bsD (wh ++ pt) = x := ⟨_, rfl⟩
    have hdl : dv.data.toList = wh ++ pt := by rw [← hdv]; rfl
    rw [hdv] at hap hdd hdz
    obtain ⟨x, hx⟩ : ∃ x, ev - (pt.length : Int) = x := ⟨_, rfl⟩
    have y1 : wrap64 (ev - (pb.size : Int)) = x := by rw [hpz]; unfold wrap64; omega
    have y2 : wb.size + pb.size ≤ 1000000000 := by omega
    obtain ⟨mk, hmk⟩ : ∃ m, makeD neg (wh ++ pt) x = m := ⟨_, rfl⟩
    have HX := Lib.hid hx
    have HMK := Lib.hid hmk
    have HW := Lib.hid hw
    have hcz : ¬ 9223372036854775807 < wb.size + pb.size := by omega
    cases mk with
    | none =>
      obtain rfl : res = none := by rw [← HRES.out, if_neg hw]; unfold parseM; simp only []; rw [hx, hmk]
      have HM := Lib.hid (fun w => dec_Make_no neg dv x (by omega) (by omega) hdd (by rw [hdl]; exact hmk) w)
      clear hp10 d2 d3 g2 g3 g1 hsl hwb hpb hdd hdz hdl hdv hx hmk hw hp1 hwl hwz hpz
      go_wp2_with fail
      refine (HM.out w5).mono ?_
      rintro e w6 ⟨rfl, hb6⟩
      have hk6 := (hk5.below hb6 hk5.lt).alloc (.cells #[.bool false, .string ⟨#[]⟩, .int .i64 0] 23)
      have hb7 := (hb5.trans (hb6.mono (Nat.le_of_lt hk5.lt))).alloc (by have := hb6.size; have := hk5.lt; omega) (.cells #[.bool false, .string ⟨#[]⟩, .int .i64 0] 23)
      clear hk5 hb5 hr5 hb6
      have c0 := hk6.cell 0
      have f0 := hk6.frozen 0
      have c1 := hk6.cell 1
      have f1 := hk6.frozen 1
      have c2 := hk6.cell 2
      have f2 := hk6.frozen 2
      go_wp2_with fail
      have hk8 := ((hk6.set 0 (.bool false)).set 1 (.string ⟨#[]⟩)).set 2 (.int .i64 0)
      refine leave0 (results_cell3 (T := 23) (b := n) (u := .string s) (u2 := .int .i64 40) rfl (by kernel_rfl) (by kernel_rfl) (by kernel_rfl) hk8 Tryz.underlying23 rfl (by kernel_rfl)) rfl ⟨?_, ?_⟩
      · rw [hn]
        exact hb7.trans (((Below.refl _ _).setCell (by simp) _).trans (((Below.refl _ _).setCell (by simp) _).trans ((Below.refl _ _).setCell (by simp) _)))
      · rfl

    | some d =>
      obtain ⟨dn, dd, de⟩ := d
      obtain rfl : res = some ((dn, dd, de), rs) := by rw [← HRES.out, if_neg hw]; unfold parseM; simp only []; rw [hx, hmk]
      have HM := Lib.hid (fun w => dec_Make neg dv x dn dd de (by rw [hdl]; exact hmk) w)
      clear hp10 d2 d3 g2 g3 g1 hsl hwb hpb hdd hdz hdl hdv hx hmk hw hp1 hwl hwz hpz
      go_wp2_with fail
      refine (HM.out w5).mono ?_
      rintro e w6 ⟨rfl, hb6⟩
      have hk6 := (hk5.below hb6 hk5.lt).alloc (.cells #[.bool dn, .string dd, .int .i64 de] 23)
      have hb7 := (hb5.trans (hb6.mono (Nat.le_of_lt hk5.lt))).alloc (by have := hb6.size; have := hk5.lt; omega) (.cells #[.bool dn, .string dd, .int .i64 de] 23)
      have hr6 := (hr5.below hb6 hr5.lt).alloc (.cells #[.bool dn, .string dd, .int .i64 de] 23)
      have hd6 := Blk.new w6 #[.bool dn, .string dd, .int .i64 de] 23
      have r0 := hr6.cell 0
      have c0 := hk6.cell 0
      have f0 := hk6.frozen 0
      have c1 := hk6.cell 1
      have f1 := hk6.frozen 1
      have c2 := hk6.cell 2
      have f2 := hk6.frozen 2
      have dc0 := hd6.cell 0
      have df0 := hd6.frozen 0
      have dc1 := hd6.cell 1
      have df1 := hd6.frozen 1
      have dc2 := hd6.cell 2
      have df2 := hd6.frozen 2

      have hne1 : w6.heap.size ≠ n := by have := hb6.size; have := hk5.lt; omega
      clear hk5 hb5 hr5 hb6
      go_wp2_with fail
      obtain ⟨d8, hd8⟩ : ∃ d, w6.heap.size = d := ⟨_, rfl⟩
      rw [hd8] at dc0 df0 dc1 df1 dc2 df2 hd6 hne1 ⊢
      obtain ⟨W7, hW7⟩ : ∃ W, w6.alloc (.cells #[.bool dn, .string dd, .int .i64 de] 23) = W := ⟨_, rfl⟩
      rw [hW7] at dc0 df0 dc1 df1 dc2 df2 c0 f0 c1 f1 c2 f2 r0 hk6 hr6 hb7 ⊢
      clear hd6 hW7 hd8 HM hap z y1 y2 HX HW hcz HMK
      go_region
      all_goals go_wp2_with fail
      have hk8 : Blk (((W7.setCell ⟨n, 0, none⟩ (.bool dn)).setCell ⟨n, 1, none⟩ (.string dd)).setCell ⟨n, 2, none⟩ (.int .i64 de)).drew n _ _ := Blk.drew (((hk6.set 0 (.bool dn)).set 1 (.string dd)).set 2 (.int .i64 de))
      refine leave0 (results_cell3 (T := 23) (b := n) (u := .string (bsD rs)) (u2 := .int .i64 0) rfl (by kernel_rfl) (by kernel_rfl) (by kernel_rfl) hk8 Tryz.underlying23 rfl (by kernel_rfl)) rfl ⟨?_, rfl⟩
      rw [hn]
      exact below_drewN (hb7.trans (((Below.refl _ _).setCell (by simp) _).trans (((Below.refl _ _).setCell (by simp) _).trans ((Below.refl _ _).setCell (by simp) _)))) 1
end Go.Proofs.YtfckekaegjjmkaaGreatDoor
