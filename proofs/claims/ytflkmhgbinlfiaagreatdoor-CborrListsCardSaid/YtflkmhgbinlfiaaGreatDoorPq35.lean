/- The texts FmtU, DecI, DecM, DecO, CrS, NatA, put together. -/
import Derived.Test.YtflkmhgbinlfiaaGreatDoorPq34
import Derived.Lib.AppendIntMem
import Derived.Lib.OthersKept
import Derived.Test.YtflkmhgbinlfiaaGreatDoorPq06
import Derived.Test.YtflkmhgbinlfiaaGreatDoorPq16
namespace Go.Proofs.YtflkmhgbinlfiaaGreatDoor
open Go.RowKit Go.Shelf Go.Sort Go.Lib

theorem below_behind (w : World) (os : Array Obj) : Below w.heap.size w { w with heap := w.heap ++ os } :=
  ⟨rfl, rfl, rfl, by simp, fun k hk => by
    show (w.heap ++ os)[k]? = w.heap[k]?
    rw [Array.getElem?_append_left hk]⟩

set_option maxHeartbeats 6400000 in
set_option maxRecDepth 100000 in
theorem fmtU_in (u : Nat) (hu64 : u < 18446744073709551616) (w : World) (htab : Lib.TabIs Tryz.prog w "internal/strconv.uint64pow10" .u64 Lib.pow10Tab) :
    Calls Tryz.prog 163 #[.int .u64 u, .int .i64 10] w fun e w' => e = .returned (.string ⟨(Lib.decDigits u).toArray⟩) ∧ ∃ k os, w' = grow (w.drewN k) os := by
  by_cases hs : u < 100
  · go_enter Tryz.func163, Tryz.ntmps163
    have hs1 : (u : Int) < 100 := by omega
    have hw : IntKind.i64.wrap (u : Int) = u := by rw [IntKind.wrap_i64]; omega
    go_wp2_with fail
    refine (Tryz.internal_strconv_small u hs _).mono ?_
    rintro e w' ⟨rfl, rfl⟩
    go_wp2_with fail
    go_ret
    exact ⟨rfl, 0, #[], by simp [World.drewN_zero]⟩
  · have hu1 : 1 ≤ u := by omega
    have hnd20 : Lib.nDigits u ≤ 20 := by have := Lib.numDigits_eq u hu1 hu64; split at this <;> omega
    have hal : Tryz.prog.arrayLen 258 = 24 := by kernel_rfl
    have hsl : ∀ W, (Instr.sliceAt 258 (.pointer (some ⟨w.heap.size, 0, none⟩)) none (some (.int .i64 (Lib.nDigits u : Int))) none).run Tryz.prog W = .ok (.slice (some ⟨w.heap.size, 0, none⟩) (Lib.nDigits u) 24) W := fun W => by
      rw [run_sliceAt_array_h W 258 ⟨w.heap.size, 0, none⟩ (by kernel_rfl) .i64 (Lib.nDigits u : Int) (by omega) (by rw [hal]; omega), hal]
      go_simp
    have hH0 := Lib.holds_zero0 w 258 (Lib.nDigits u) (by omega)
    have hfmt := Tryz.internal_strconv_formatBase10 w.heap.size 0 24 u (Array.replicate (Lib.nDigits u) 0) (w.alloc (.cells Lib.zeros24 258)) hH0 (by rw [Array.size_replicate]; exact Lib.lt_pow_nDigits u) hu64 (by rw [Array.size_replicate]; omega)
    rw [Array.size_replicate] at hfmt
    have HH0 := Lib.hid hH0
    have iu : ¬ ((u : Int) < 100) := by omega
    clear hH0 hal
    go_enter Tryz.func163, Tryz.ntmps163
    go_wp2_with fail
    refine (Tryz.internal_strconv_numDigits u hu1 hu64 _ (Lib.tabIs_alloc htab _)).mono ?_
    rintro e w' ⟨rfl, rfl⟩
    go_wp2_with fail
    refine hfmt.mono ?_
    rintro e w' ⟨rfl, k, v', dk, rfl, hF⟩
    have hcv : (convert 45 9 (.slice (some ⟨w.heap.size, 0, none⟩) (Lib.nDigits u) 24)).run Tryz.prog ((putRow (fun (b : UInt8) => Value.int .u8 (b.toNat : Int)) (w.alloc (.cells Lib.zeros24 258)) w.heap.size 0 dk).drewN k) = .ok (.string ⟨(Lib.decDigits u).toArray⟩) ((putRow (fun (b : UInt8) => Value.int .u8 (b.toNat : Int)) (w.alloc (.cells Lib.zeros24 258)) w.heap.size 0 dk).drewN k) := by
      have h := run_convert_bytes_back (P := Tryz.prog) ((putRow (fun (b : UInt8) => Value.int .u8 (b.toNat : Int)) (w.alloc (.cells Lib.zeros24 258)) w.heap.size 0 dk).drewN k) 45 9 5 ⟨w.heap.size, 0, none⟩ 24 (Lib.decDigits u) (by kernel_rfl) (by kernel_rfl) (by kernel_rfl) (fun j hj => by
        rw [Lib.row_is_numeral hF j hj, Lib.add_plain, World.cell?_drewN]
        exact cell?_putRow (fun (b : UInt8) => Value.int .u8 (b.toNat : Int)) _ w.heap.size 0 _ dk HH0.out (by rw [hF.size, Array.size_replicate]) j (by rw [hF.size]; rw [Lib.decDigits_length] at hj; exact hj))
      rw [Lib.decDigits_length] at h
      exact h
    go_wp2_with fail
    go_ret
    obtain ⟨os, eo⟩ := Lib.fin_at w (.cells Lib.zeros24 258) dk k 0
    exact ⟨rfl, k, os, eo⟩

/-- nat.Of: a whole number's numeral. -/
theorem nat_Of (u : Nat) (hu64 : u < 18446744073709551616) (w : World) (htab : Lib.TabIs Tryz.prog w "internal/strconv.uint64pow10" .u64 Lib.pow10Tab) :
    Calls Tryz.prog 100 #[.int .u64 u] w fun e w' => e = .returned (.string ⟨(Lib.decDigits u).toArray⟩) ∧ Below w.heap.size w w' := by
  have hF : Calls Tryz.prog 136 #[.int .u64 u, .int .i64 10] w fun e w' => e = .returned (.string ⟨(Lib.decDigits u).toArray⟩) ∧ Below w.heap.size w w' := by
    go_enter Tryz.func136, Tryz.ntmps136
    go_wp2_with fail
    refine (fmtU_in u hu64 _ htab).mono ?_
    rintro e w' ⟨rfl, k, os, rfl⟩
    go_wp2_with fail
    go_ret
    exact ⟨rfl, (show Below w.heap.size w (w.drewN k) from ⟨rfl, rfl, rfl, Nat.le_refl _, fun _ _ => rfl⟩).trans (below_behind (w.drewN k) os)⟩
  go_enter Tryz.func100, Tryz.ntmps100
  go_wp2_with fail
  refine hF.mono ?_
  rintro e w' ⟨rfl, hb⟩
  go_wp2_with fail
  go_ret
  exact ⟨rfl, hb⟩
end Go.Proofs.YtflkmhgbinlfiaaGreatDoor
namespace Go.Proofs.YtflkmhgbinlfiaaGreatDoor
open Go.RowKit Go.Shelf
attribute [local go_sem] Oper.semAt_some

theorem make_digit (c : Nat) (h1 : 48 ≤ c) (h2 : c ≤ 57) (w : World) : Calls Tryz.prog 137 #[.int .i32 c] w fun e w' => e = .returned (.bool false) ∧ w' = w := by
  have z1 : (48 : Int) ≤ c := by omega
  have z2 : (c : Int) ≤ 57 := by omega
  have hD : Calls Tryz.prog 138 #[.int .i32 c] w fun e w' => e = .returned (.bool true) ∧ w' = w := by
    go_enter Tryz.func138, Tryz.ntmps138
    go_wp2_with fail
    go_ret
    exact ⟨rfl, rfl⟩
  go_enter Tryz.func137, Tryz.ntmps137
  go_wp2_with fail
  refine hD.mono ?_
  rintro e w' ⟨rfl, rfl⟩
  go_wp2_with fail
  go_ret
  exact ⟨rfl, rfl⟩
set_option maxHeartbeats 2000000 in
set_option maxRecDepth 100000 in
theorem index_digits (s : ByteArray) (hs : s.size ≤ 1000000000) (hd : s.data.toList.all isDig = true) (w : World) :
    Calls Tryz.prog 164 #[.string s, .func (.func 137) #[] #[], .bool true] w fun e w' => e = .returned (.int .i64 (-1)) ∧ Below w.heap.size w w' := by
  have eg : ∀ args w, (callFunc 137 args).run Tryz.prog w = .ok (.enter 137 args) w := enters_of Tryz.func137 (by kernel_rfl) rfl
  have HM := Lib.hid make_digit
  go_enter Tryz.func164, Tryz.ntmps164
  go_wp2_with fail
  go_loopw [] (fun wr => ∃ k : Nat, k ≤ s.size ∧ wr.heap[w.heap.size]? = some (.stringIter s k) ∧ Below w.heap.size w wr) (fun wr => s.size - wr.iterPos w.heap.size)
  case atStart => exact ⟨0, by omega, World.iter_heap w s 0, (Below.refl _ w).alloc (Nat.le_refl _) _⟩
  case round =>
    obtain ⟨k, hk, hit, hbw⟩ := hrel
    have hsz : w.heap.size < wr.heap.size := (Array.getElem?_eq_some_iff.1 hit).1
    have hlen : s.data.toList.length = s.size := by simp
    by_cases hp : k < s.size
    · obtain ⟨b, hb⟩ : ∃ b, s[k]'hp = b := ⟨_, rfl⟩
      have hg : isDig b = true := by
        have h := List.all_eq_true.1 hd (s.data.toList[k]'(by rw [hlen]; exact hp)) (List.getElem_mem _)
        rw [← hb]
        exact h
      unfold isDig at hg
      rw [Bool.and_eq_true, decide_eq_true_iff, decide_eq_true_iff] at hg
      have hnx : ∀ ty, (Instr.next (.pointer (some ⟨w.heap.size, 0, none⟩)) true ty).run Tryz.prog wr = _ := fun ty => Lib.run_next_ascii_at wr w.heap.size s k ty hit hp (by rw [hb]; omega)
      rw [hb] at hnx
      have hit2 := Lib.iterAt_heap wr w.heap.size s k (k + 1) hit
      have hbw2 := Lib.below_iterAt hbw (k := w.heap.size) (Nat.le_refl _) s (k + 1)
      obtain ⟨c, hc⟩ : ∃ c, b.toNat = c := ⟨_, rfl⟩
      rw [hc] at hnx hg
      obtain ⟨g1, g2⟩ := hg
      clear hb hc
      generalize wr.iterAt w.heap.size s (k + 1) = W at hnx hit2 hbw2
      go_wp2_with fail
      refine (HM.out c g1 g2 _).mono ?_
      rintro e w' ⟨rfl, rfl⟩
      go_wp2_with fail
      go_roundw
      case rel => exact ⟨k + 1, by omega, hit2, hbw2⟩
      case measure =>
        simp only [World.iterPos, hit2, hit]
        omega
    · have hnx : ∀ ty, (Instr.next (.pointer (some ⟨w.heap.size, 0, none⟩)) true ty).run Tryz.prog wr = _ := fun ty => Lib.run_next_end_at wr w.heap.size s k ty hit hp
      go_wp2_with fail
      go_ret
      exact ⟨rfl, hbw⟩
theorem indexF_digits (s : ByteArray) (hs : s.size ≤ 1000000000) (hd : s.data.toList.all isDig = true) (w : World) :
    Calls Tryz.prog 139 #[.string s, .func (.func 137) #[] #[]] w fun e w' => e = .returned (.int .i64 (-1)) ∧ Below w.heap.size w w' := by
  have HI := Lib.hid (index_digits s hs hd)
  go_enter Tryz.func139, Tryz.ntmps139
  go_wp2_with fail
  refine (HI.out _).mono ?_
  rintro e w' ⟨rfl, hb⟩
  go_wp2_with fail
  go_ret
  exact ⟨rfl, hb⟩
end Go.Proofs.YtflkmhgbinlfiaaGreatDoor
namespace Go.Proofs.YtflkmhgbinlfiaaGreatDoor
open Go.RowKit Go.Shelf
attribute [local go_sem] Oper.semAt_some

theorem trimL_lib (l : List UInt8) : Lib.trimLeftB l 48 = trimL l := rfl
theorem trimR_lib (l : List UInt8) : Lib.trimRightB l 48 = trimR l := rfl
set_option maxHeartbeats 4000000 in
set_option maxRecDepth 100000 in
theorem dec_Make (neg : Bool) (dg : ByteArray) (ex : Int) (n : Bool) (d : ByteArray) (e : Int) (hm : makeD neg dg.data.toList ex = some (n, d, e)) (w : World) :
    Calls Tryz.prog 101 #[.bool neg, .string dg, .int .i64 ex] w fun x w' => x = .returned (.tuple #[.agg #[.bool n, .string d, .int .i64 e], .int .i64 0]) ∧ Below w.heap.size w w' := by
  have hlen : dg.data.toList.length = dg.size := by simp
  unfold makeD at hm
  split at hm
  · cases hm
  rename_i hc
  have hne : 1 ≤ dg.size := by
    rw [← hlen]
    cases h : dg.data.toList with
    | nil => exact (hc (.inl h)).elim
    | cons a l => simp
  have z2 : dg.toList.isEmpty = false := by rw [list_empty]; exact decide_eq_false (by omega)
  have hl : dg.size ≤ 400 := by rw [← hlen]; exact Nat.le_of_not_lt (fun h => hc (.inr (.inl h)))
  have hex : -1000 ≤ ex ∧ ex ≤ 1000 := Classical.byContradiction (fun h => hc (.inr (.inr (.inl h))))
  have hd : dg.data.toList.all isDig = true := Classical.byContradiction (fun h => hc (.inr (.inr (.inr h))))
  clear hc
  have HW := Lib.hid (dec_within ex 1000 (by decide) (by decide))
  rw [decide_eq_true hex.1, decide_eq_true hex.2] at HW
  have HX := Lib.hid (indexF_digits dg (by omega) hd)
  have HL := Lib.hid (fun w => Tryz.strings_TrimLeft_one dg 48 (by decide) w)
  have y1 : ¬ (400 : Int) < dg.size := by omega
  simp only [trimL_lib] at HL
  obtain ⟨s1, hs1⟩ : ∃ s1 : ByteArray, (⟨(trimL dg.data.toList).toArray⟩ : ByteArray) = s1 := ⟨_, rfl⟩
  have h1l : s1.data.toList = trimL dg.data.toList := by rw [← hs1]
  have h1z : s1.size = (trimL dg.data.toList).length := by rw [← h1l]; simp
  simp only [hs1] at HL
  have h1le : s1.size ≤ dg.size := by
    obtain ⟨k, h, _⟩ := trimL_parts dg.data.toList
    have := congrArg List.length h
    rw [List.length_append, hlen, ← h1z] at this
    omega
  by_cases hz : trimL dg.data.toList = []
  · rw [if_pos hz] at hm
    injection hm with hm
    injection hm with h1 h2
    injection h2 with h2 h3
    subst h1 h2 h3
    have hs : s1 = ⟨#[]⟩ := by rw [← hs1, hz]
    subst hs
    have HZ := Lib.hid dec_zero
    have hk := Blk.new w #[.bool false, .string ⟨#[]⟩, .int .i64 0] 24
    clear hs1 h1l h1z h1le hlen
    refine calls_of_marks Tryz.func101 rfl ?_
    simp only [Tryz.ntmps101, List.size_toArray, List.length_cons, List.length_nil, Nat.reduceAdd, Nat.reduceSub, Array.replicate_succ, Array.replicate_zero, List.push_toArray, List.append_toArray, List.nil_append, List.cons_append]
    go_wp2_with fail
    go_step3
    go_wp2_with fail
    refine (HW.out _).mono ?_
    rintro x w1 ⟨rfl, rfl⟩
    go_wp2_with fail
    refine (HX.out _).mono ?_
    rintro x w2 ⟨rfl, hb2⟩
    go_wp2_with fail
    refine (HL.out _).mono ?_
    rintro x w3 ⟨rfl, rfl⟩
    go_wp2_with fail
    refine (HZ.out _).mono ?_
    rintro x w4 ⟨rfl, hb4⟩
    have hkA := ((hk.alloc (.cells #[.bool false, .string ⟨#[]⟩, .int .i64 0] 24)).below hb2 (hk.alloc _).lt)
    have hk4 := hkA.below hb4 hkA.lt
    have c0 := hk4.cell 0
    have c1 := hk4.cell 1
    have c2 := hk4.cell 2
    have f0 := hk4.frozen 0
    have f1 := hk4.frozen 1
    have f2 := hk4.frozen 2
    have hbA : Below w.heap.size w w4 := (((Below.refl _ w).alloc (Nat.le_refl _) _).alloc (by simp) _).trans (((hb2.mono (by simp; omega))).trans (hb4.mono (by have := hb2.size; simp at this; omega)))
    clear HZ HL HX HW hkA hb2 hb4 hk
    go_wp2_with fail
    rw [Exit.noGoto_ret]
    have hk5 := ((hk4.set 0 (.bool false)).set 1 (.string ⟨#[48]⟩)).set 2 (.int .i64 0)
    refine leave0 (results_cell (T := 24) (b := w.heap.size) rfl (by kernel_rfl) (by kernel_rfl) hk5 Tryz.underlying24 rfl (by kernel_rfl)) rfl ⟨rfl, ?_⟩
    exact hbA.trans (((Below.refl _ _).setCell (by simp) _).trans (((Below.refl _ _).setCell (by simp) _).trans ((Below.refl _ _).setCell (by simp) _)))
  · rw [if_neg hz] at hm
    split at hm
    case isFalse => cases hm
    rename_i hok
    injection hm with hm
    injection hm with h1 h2
    injection h2 with h2 h3
    subst h1
    have HT := Lib.hid (fun w => Tryz.strings_TrimRight_one s1 48 (by decide) w (by omega))
    simp only [trimR_lib, h1l] at HT
    rw [h2] at hok
    simp only [h2] at HT
    have h2l : (trimR (trimL dg.data.toList)).length = d.size := by rw [← h2]; rfl
    rw [h2l, ← h1z] at h3 hok
    rw [h3] at hok
    have HR := Lib.hid (dec_Right neg d e (by
      obtain ⟨k, h, _⟩ := trimR_parts (trimL dg.data.toList)
      have := congrArg List.length h
      rw [List.length_append, h2l, ← h1z] at this
      omega))
    simp only [hok] at HR
    have z3 : s1.toList.isEmpty = false := by
      rw [list_empty]
      refine decide_eq_false (fun h => hz ?_)
      rw [h1z] at h
      exact List.eq_nil_of_length_eq_zero h
    have hk := Blk.new w #[.bool false, .string ⟨#[]⟩, .int .i64 0] 24
    have hkB := Blk.new (w.alloc (.cells #[.bool false, .string ⟨#[]⟩, .int .i64 0] 24)) #[.bool false, .string ⟨#[]⟩, .int .i64 0] 24
    rw [World.size_alloc] at hkB
    have hds : d.size ≤ s1.size := by
      obtain ⟨k, h, _⟩ := trimR_parts (trimL dg.data.toList)
      have := congrArg List.length h
      rw [List.length_append, h2l, ← h1z] at this
      omega
    have y5 : wrap64 (ex + s1.size) = ex + s1.size := by unfold wrap64; omega
    have y6 : wrap64 (ex + s1.size - d.size) = e := by rw [← h3]; unfold wrap64; omega
    clear hok h2l h2 hs1 h1l h1z h1le hlen hds h3
    refine calls_of_marks Tryz.func101 rfl ?_
    simp only [Tryz.ntmps101, List.size_toArray, List.length_cons, List.length_nil, Nat.reduceAdd, Nat.reduceSub, Array.replicate_succ, Array.replicate_zero, List.push_toArray, List.append_toArray, List.nil_append, List.cons_append]
    go_wp2_with fail
    go_step3
    go_wp2_with fail
    refine (HW.out _).mono ?_
    rintro x w1 ⟨rfl, rfl⟩
    go_wp2_with fail
    refine (HX.out _).mono ?_
    rintro x w2 ⟨rfl, hb2⟩
    go_wp2_with fail
    refine (HL.out _).mono ?_
    rintro x w3 ⟨rfl, rfl⟩
    go_wp2_with fail
    refine (HT.out _).mono ?_
    rintro x w4 ⟨rfl, rfl⟩
    have hkA := (hk.alloc (.cells #[.bool false, .string ⟨#[]⟩, .int .i64 0] 24)).below hb2 (hk.alloc _).lt
    have hkC := hkB.below hb2 hkB.lt
    have c0 := hkC.cell 0
    have c1 := hkC.cell 1
    have c2 := hkC.cell 2
    have f0 := hkC.frozen 0
    have f1 := hkC.frozen 1
    have f2 := hkC.frozen 2
    have hbA : Below w.heap.size w w4 := (((Below.refl _ w).alloc (Nat.le_refl _) _).alloc (by simp) _).trans (hb2.mono (by simp; omega))
    clear HX HW HL HT hb2 hk hkB
    go_wp2_with fail
    have hkD := ((hkC.set 0 (.bool neg)).set 1 (.string d)).set 2 (.int .i64 e)
    have hkE := ((hkA.other (b' := w.heap.size + 1) (by omega) 0 (.bool neg)).other (b' := w.heap.size + 1) (by omega) 1 (.string d)).other (b' := w.heap.size + 1) (by omega) 2 (.int .i64 e)
    have hbB := ((hbA.setCell (p := ⟨w.heap.size + 1, 0, none⟩) (by simp) (.bool neg)).setCell (p := ⟨w.heap.size + 1, 1, none⟩) (by simp) (.string d)).setCell (p := ⟨w.heap.size + 1, 2, none⟩) (by simp) (.int .i64 e)
    clear c0 c1 c2 f0 f1 f2 hkA hkC hbA
    obtain ⟨W5, hW5⟩ : ∃ W, ((w4.setCell ⟨w.heap.size + 1, 0, none⟩ (.bool neg)).setCell ⟨w.heap.size + 1, 1, none⟩ (.string d)).setCell ⟨w.heap.size + 1, 2, none⟩ (.int .i64 e) = W := ⟨_, rfl⟩
    rw [hW5] at hkD hkE hbB ⊢
    clear hW5
    refine (HR.out _).mono ?_
    rintro x w6 ⟨rfl, hb6⟩
    have hk6 := hkE.below hb6 hkE.lt
    have hk7 := hkD.below hb6 hkD.lt
    have hbC := hbB.trans (hb6.mono hbB.size)
    have c0 := hk6.cell 0
    have c1 := hk6.cell 1
    have c2 := hk6.cell 2
    have f0 := hk6.frozen 0
    have f1 := hk6.frozen 1
    have f2 := hk6.frozen 2
    have d0 : w6.cell? ⟨w.heap.size + 1, 0, none⟩ = some (.bool neg) := hk7.cell 0
    have d1 : w6.cell? ⟨w.heap.size + 1, 1, none⟩ = some (.string d) := hk7.cell 1
    have d2 : w6.cell? ⟨w.heap.size + 1, 2, none⟩ = some (.int .i64 e) := hk7.cell 2
    clear hkD hkE hbB HR hb6
    go_wp2_with fail
    rw [Exit.noGoto_ret]
    have hk8 := ((hk6.set 0 (.bool neg)).set 1 (.string d)).set 2 (.int .i64 e)
    refine leave0 (results_cell (T := 24) (b := w.heap.size) rfl (by kernel_rfl) (by kernel_rfl) hk8 Tryz.underlying24 rfl (by kernel_rfl)) rfl ⟨rfl, ?_⟩
    exact hbC.trans (((Below.refl _ _).setCell (by simp) _).trans (((Below.refl _ _).setCell (by simp) _).trans ((Below.refl _ _).setCell (by simp) _)))
end Go.Proofs.YtflkmhgbinlfiaaGreatDoor
namespace Go.Proofs.YtflkmhgbinlfiaaGreatDoor
open Go.RowKit Go.Shelf
attribute [local go_sem] Oper.semAt_some

theorem results_one {P : Program} {fn : Func} {tmps : Array Value} {W : World} {a b : Nat} {T t : TypeId} {cs : Array Value} {fr : Nat × Nat} {d : TypeDesc} (hr : fn.results = #[.cell a T])
    (ha : tmps.getD a undef = .pointer (some ⟨b, 0, none⟩)) (hk : W.heap[b]? = some (.cells cs t fr))
    (hu : P.underlying T = some d) (hd : (match d with | .struct _ | .array _ _ => true | _ => false) = true) (hi : (P.info? T).map (·.size) = some cs.size) :
    (results fn tmps).run P W = .ok (.agg cs) W := by
  unfold results
  rw [hr]
  have h1 := run_loadVar_row (P := P) W b t T cs fr d hk hu hd hi
  rw [Array.getD_eq_getD_getElem?] at ha
  simp [Array.mapM_eq_foldlM, ha, asAddr, h1]
set_option maxHeartbeats 4000000 in
set_option maxRecDepth 100000 in
theorem dec_OfInt (neg : Bool) (u : Nat) (hu64 : u < 18446744073709551616) (w : World) (htab : Lib.TabIs Tryz.prog w "internal/strconv.uint64pow10" .u64 Lib.pow10Tab) :
    Calls Tryz.prog 98 #[.bool neg, .int .u64 u] w fun x w' => x = .returned (.agg #[.bool (ofN neg u).1, .string (ofN neg u).2.1, .int .i64 (ofN neg u).2.2]) ∧ Below w.heap.size w w' := by
  obtain ⟨h1, _⟩ := ofN_ok neg u (by omega)
  obtain ⟨⟨n, d, e⟩, hx⟩ : ∃ x, ofN neg u = x := ⟨_, rfl⟩
  rw [hx] at h1 ⊢
  simp only []
  have HO := Lib.hid (fun w h => nat_Of u hu64 w h)
  have HM := Lib.hid (dec_Make neg ⟨(Lib.decDigits u).toArray⟩ 0 n d e h1)
  have hk := Blk.new w #[.bool false, .string ⟨#[]⟩, .int .i64 0] 24
  have hb0 := (Below.refl w.heap.size w).alloc (Nat.le_refl _) (.cells #[.bool false, .string ⟨#[]⟩, .int .i64 0] 24)
  have HT := Lib.hid (Lib.tabIs_alloc htab (.cells #[.bool false, .string ⟨#[]⟩, .int .i64 0] 24))
  clear hx h1 htab
  go_enter Tryz.func98, Tryz.ntmps98
  go_wp2_with fail
  refine (HO.out _ HT.out).mono ?_
  rintro x w1 ⟨rfl, hb1⟩
  go_wp2_with fail
  refine (HM.out _).mono ?_
  rintro x w2 ⟨rfl, hb2⟩
  have hk1 := hk.below hb1 hk.lt
  have hk2 := hk1.below hb2 hk1.lt
  have hbA := hb0.trans ((hb1.mono hb0.size).trans (hb2.mono (Nat.le_trans hb0.size hb1.size)))
  have hlt := hk2.lt
  have hk3 := hk2.alloc (.cells #[.bool n, .string d, .int .i64 e] 24)
  have hk4 := Blk.new w2 #[.bool n, .string d, .int .i64 e] 24
  have hbB := hbA.alloc hbA.size (.cells #[.bool n, .string d, .int .i64 e] 24)
  clear HO HM HT hk hk1 hb0 hb1 hb2
  have c0 := hk3.cell 0
  have c1 := hk3.cell 1
  have c2 := hk3.cell 2
  have f0 := hk3.frozen 0
  have f1 := hk3.frozen 1
  have f2 := hk3.frozen 2
  have d0 := hk4.cell 0
  have d1 := hk4.cell 1
  have d2 := hk4.cell 2
  have p0 := hk2.cell 0
  have p1 := hk2.cell 1
  have p2 := hk2.cell 2
  have q0 := hk2.frozen 0
  have q1 := hk2.frozen 1
  have q2 := hk2.frozen 2
  go_wp2_with fail
  have hk8 := (((hk2.set 0 (.bool n)).set 1 (.string d)).set 2 (.int .i64 e)).alloc (.cells #[.bool n, .string d, .int .i64 e] 24)
  have hbC := ((hbA.setCell (p := ⟨w.heap.size, 0, none⟩) (Nat.le_refl _) (.bool n)).setCell (p := ⟨w.heap.size, 1, none⟩) (Nat.le_refl _) (.string d)).setCell (p := ⟨w.heap.size, 2, none⟩) (Nat.le_refl _) (.int .i64 e)
  exact bodyPost_ret (results_one (T := 24) (b := w.heap.size) rfl (by kernel_rfl) hk8 Tryz.underlying24 rfl (by kernel_rfl)) rfl ⟨rfl, hbC.alloc hbC.size _⟩
end Go.Proofs.YtflkmhgbinlfiaaGreatDoor
namespace Go.Proofs.YtflkmhgbinlfiaaGreatDoor
open Go.RowKit Go.Shelf
attribute [local go_sem] Oper.semAt_some

theorem own_n {n : Bool} {g : ByteArray} {e : Int} (h : decOk n g e = true) : OwnOk { zeroO with kind := 3, neg := n, dg := g, ex := e } := by
  unfold decOk at h
  rw [Bool.and_eq_true, Bool.and_eq_true, decide_eq_true_iff] at h
  obtain ⟨_, h2, h3⟩ := h
  have he : -100 ≤ e ∧ e ≤ 100 := by
    split at h3
    · rw [Bool.and_eq_true, decide_eq_true_iff] at h3
      omega
    · rw [Bool.and_eq_true, Bool.and_eq_true, decide_eq_true_iff, decide_eq_true_iff] at h3
      exact ⟨h3.1, h3.2.1⟩
  exact ⟨by show g.size ≤ _; omega, by show (0 : Nat) ≤ _; omega, by show _ ≤ (3 : Int) ∧ (3 : Int) < _; omega, by show _ ≤ e ∧ e < _; omega, by show (0 : Int) ≤ (0 : Int) ∧ (0 : Int) < _; omega, by show _ ≤ (0 : Int) ∧ (0 : Int) < _; omega⟩
set_option maxHeartbeats 4000000 in
set_option maxRecDepth 100000 in
theorem cr_plus (p d hi ha : Nat) (s : ByteArray) (w : World) (hr : RdB w p s d) (hha : ha < 18446744073709551616) (htab : Lib.TabIs Tryz.prog w "internal/strconv.uint64pow10" .u64 Lib.pow10Tab) :
    Calls Tryz.prog 67 #[.pointer (some ⟨p, 0, none⟩), startV (0, hi, ha)] w (ReadN p d 0 w s (.good (numT false ha) s.data.toList)) := by
  have hsb := bs_of s
  have HO := Lib.hid (fun w h => dec_OfInt false ha hha w h)
  have hok := (ofN_ok false ha (by omega)).2
  unfold numT
  obtain ⟨⟨n, g, e⟩, hx⟩ : ∃ x, ofN false ha = x := ⟨_, rfl⟩
  rw [hx] at hok ⊢
  simp only [hx] at HO
  have HK := Lib.hid (own_n hok)
  have HT := Lib.hid (Lib.tabIs_alloc (Lib.tabIs_alloc htab (.cells #[.int .i64 0, .int .i64 hi, .int .u64 ha] 88)) (.cells #[.int .i64 0, .bool false, .bool false, .string ⟨#[]⟩, .int .i64 0, .int .u64 0, .int .i64 0, .string ⟨#[]⟩, .slice none 0 0] 28))
  have hb1 := (Below.refl w.heap.size w).alloc (Nat.le_refl _) (.cells #[.int .i64 0, .int .i64 hi, .int .u64 ha] 88)
  have hb2 := hb1.alloc hb1.size (.cells #[.int .i64 0, .bool false, .bool false, .string ⟨#[]⟩, .int .i64 0, .int .u64 0, .int .i64 0, .string ⟨#[]⟩, .slice none 0 0] 28)
  have hk1 := (Blk.new w #[.int .i64 0, .int .i64 hi, .int .u64 ha] 88).alloc (.cells #[.int .i64 0, .bool false, .bool false, .string ⟨#[]⟩, .int .i64 0, .int .u64 0, .int .i64 0, .string ⟨#[]⟩, .slice none 0 0] 28)
  have hk2 := Blk.new (w.alloc (.cells #[.int .i64 0, .int .i64 hi, .int .u64 ha] 88)) #[.int .i64 0, .bool false, .bool false, .string ⟨#[]⟩, .int .i64 0, .int .u64 0, .int .i64 0, .string ⟨#[]⟩, .slice none 0 0] 28
  have hr2 := (hr.alloc (.cells #[.int .i64 0, .int .i64 hi, .int .u64 ha] 88)).alloc (.cells #[.int .i64 0, .bool false, .bool false, .string ⟨#[]⟩, .int .i64 0, .int .u64 0, .int .i64 0, .string ⟨#[]⟩, .slice none 0 0] 28)
  rw [World.size_alloc] at hk2
  have z0 := hk1.cell 0
  have z1 := hk1.cell 1
  have z2 := hk1.cell 2
  have hplt := hr.lt
  clear hb1 hx hok htab
  go_enter Tryz.func67, Tryz.ntmps67
  go_wp2_with fail
  refine (HO.out _ HT.out).mono ?_
  rintro x w3 ⟨rfl, hb3⟩
  have hk3 := hk2.below hb3 hk2.lt
  have hr3 := hr2.below hb3 hr2.lt
  have hbA := hb2.trans (hb3.mono hb2.size)
  clear HO HT hk1 hk2 hr2 hb2 hb3 z0 z1 z2
  go_wp2_with (refine wpList_store_row rfl 28 (.tmp 4) (.tmp 9) rfl (w.heap.size + 1) #[.int .i64 3, .bool false, .bool n, .string g, .int .i64 e, .int .u64 0, .int .i64 0, .string ⟨#[]⟩, .slice none 0 0] rfl rfl 28 _ hk3 (by kernel_rfl) rfl (by simp [Value.oneCell']) ?_)
  refine bodyPost_ret (results_cell (T := 28) (b := w.heap.size + 1) rfl rfl rfl (blk_row hk3 _) Tryz.underlying28 rfl (by kernel_rfl)) rfl ?_
  exact ⟨grown_set_row hbA (by omega) _, ⟨none, 0, 0, rfl, LAt.nil _ _ _ _ _⟩, HK.out, by rw [hsb]; exact blk_row_other hr3 (by omega) _, by rw [hsb]; exact Nat.le_refl _⟩
end Go.Proofs.YtflkmhgbinlfiaaGreatDoor
namespace Go.Proofs.YtflkmhgbinlfiaaGreatDoor
open Go.RowKit Go.Shelf
attribute [local go_sem] Oper.semAt_some

theorem limb_out (A : Option Addr) (n c i : Nat) (h : n ≤ i) (w : World) :
    Calls Tryz.prog 162 #[.slice A n c, .int .i64 i] w fun e w' => e = .returned (.int .u64 0) ∧ w' = w := by
  have z1 : (n : Int) ≤ i := by omega
  go_enter Tryz.func162, Tryz.ntmps162
  go_wp2_with fail
  go_ret
  exact ⟨rfl, rfl⟩
theorem limb_in (g n c i x : Nat) (h : i < n) (hx : x < 4294967296) (w : World) (hc : w.cell? ⟨g, i, none⟩ = some (.int .u32 x)) :
    Calls Tryz.prog 162 #[.slice (some ⟨g, 0, none⟩) n c, .int .i64 i] w fun e w' => e = .returned (.int .u64 x) ∧ w' = w := by
  have z1 : ¬ (n : Int) ≤ i := by omega
  have z2 : (i : Int) < n := by omega
  have z3 : IntKind.u64.wrap (x : Int) = x := by rw [IntKind.wrap_u64]; omega
  go_enter Tryz.func162, Tryz.ntmps162
  go_wp2_with fail
  go_ret
  exact ⟨rfl, rfl⟩
/-- What ends in no zero stays as it is. -/
theorem trim_same (g n c x : Nat) (hn : 0 < n) (hnl : n ≤ 1000000) (hc : n ≤ c) (hx : x ≠ 0) (w : World) (hcell : w.cell? ⟨g, n - 1, none⟩ = some (.int .u32 x)) :
    Calls Tryz.prog 160 #[.slice (some ⟨g, 0, none⟩) n c] w fun e w' => e = .returned (.slice (some ⟨g, 0, none⟩) n n) ∧ w' = w := by
  obtain ⟨m, rfl⟩ : ∃ m, n = m + 1 := ⟨n - 1, by omega⟩
  rw [Nat.add_sub_cancel] at hcell
  have z1 : (0 : Int) < (m : Int) + 1 := by omega
  have z4 : ((x : Int) == 0) = false := by rw [beq_eq_false_iff_ne]; omega
  have z5 : (m : Int) + 1 - 1 = m := by omega
  go_enter Tryz.func160, Tryz.ntmps160
  go_wp2_with fail
  go_loopw [3] (fun v wr => v = .int .i64 ((m + 1 : Nat) : Int) ∧ wr = w) (fun _ _ => 0)
  case atStart => exact ⟨by simp, rfl⟩
  case round =>
    obtain ⟨rfl, rfl⟩ := hrel
    go_wp2_with fail
    go_ret
    exact ⟨rfl, rfl⟩
end Go.Proofs.YtflkmhgbinlfiaaGreatDoor
