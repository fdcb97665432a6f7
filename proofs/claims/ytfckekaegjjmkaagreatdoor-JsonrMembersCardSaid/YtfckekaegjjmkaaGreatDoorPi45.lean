/- The texts MkO, put together. -/
import Derived.Test.YtfckekaegjjmkaaGreatDoorPi44
import Derived.Test.YtfckekaegjjmkaaGreatDoorPi08
import Derived.Test.YtfckekaegjjmkaaGreatDoorPi15
namespace Go.Proofs.YtfckekaegjjmkaaGreatDoor
open Go.RowKit Go.Shelf
attribute [local go_sem] Oper.semAt_some

theorem results_oneR {P : Program} {fn : Func} {tmps : Array Value} {W : World} {a b : Nat} {T t : TypeId} {cs : Array Value} {fr : Nat × Nat} {d : TypeDesc} (hr : fn.results = #[.cell a T])
    (ha : tmps.getD a undef = .pointer (some ⟨b, 0, none⟩)) (hk : W.heap[b]? = some (.cells cs t fr))
    (hu : P.underlying T = some d) (hd : (match d with | .struct _ | .array _ _ => true | _ => false) = true) (hi : (P.info? T).map (·.size) = some cs.size) :
    (results fn tmps).run P W = .ok (.agg cs) W := by
  unfold results
  rw [hr]
  have h1 := run_loadVar_row (P := P) W b t T cs fr d hk hu hd hi
  rw [Array.getD_eq_getD_getElem?] at ha
  simp [Array.mapM_eq_foldlM, ha, asAddr, h1]
theorem trimR_of {l d : List UInt8} (hd : d.getLast? ≠ some 48) : ∀ (k : Nat), l = d ++ List.replicate k 48 → trimR l = d := fun k h => by
  subst h
  unfold trimR
  rw [List.reverse_append, List.reverse_replicate]
  have : trimL (List.replicate k 48 ++ d.reverse) = d.reverse := by
    induction k with
    | zero => exact trimL_self (by rw [List.replicate_zero, List.nil_append, List.head?_reverse]; exact hd)
    | succ k ih => rw [List.replicate_succ, List.cons_append, trimL_cons, if_pos rfl, ih]
  rw [this, List.reverse_reverse]
theorem make_parts {neg : Bool} {l : List UInt8} {n : Bool} {d : ByteArray} {e : Int} (hm : makeD neg l 0 = some (n, d, e)) (h0 : l ≠ []) (hh : l.head? ≠ some 48) : n = neg ∧ d = ⟨(trimR l).toArray⟩ ∧ e = (l.length : Int) - ((trimR l).length : Int) ∧ decOk neg d e = true := by
  have hne : trimL l = l := trimL_self hh
  unfold makeD at hm
  rw [hne, if_neg h0] at hm
  split at hm
  · cases hm
  · split at hm
    · rename_i hd
      injection hm with h
      injection h with h1 h2
      injection h2 with h2 h3
      have e3 : e = (l.length : Int) - ((trimR l).length : Int) := by rw [← h3]; omega
      refine ⟨h1.symm, h2.symm, e3, ?_⟩
      rw [← h2, ← h3]
      exact hd
    · cases hm
theorem head_of0 (s : ByteArray) (h : 1 ≤ s.size) : s.data.toList.head? = some (s[0]'h) := by
  rw [List.head?_eq_getElem?, List.getElem?_eq_getElem (by simp; omega)]
  simp [ByteArray.getElem_eq_getElem_data]
set_option maxHeartbeats 2000000 in
set_option maxRecDepth 100000 in
theorem ref_Trim0 (s : ByteArray) (h1 : 1 ≤ s.size) (hs : s.size ≤ 1000000) (h : s.size = 1 ∨ s[0].toNat ≠ 48) (w : World) :
    Calls Tryz.prog 64 #[.string s] w fun e w' => e = .returned (.string s) ∧ w' = w := by
  by_cases h2 : s.size = 1
  · have y1 : ¬ (1 : Int) < s.size := by omega
    clear h h2
    go_enter Tryz.func64, Tryz.ntmps64
    go_wp2_with fail
    go_loopw [0] (fun x wr => x = .string s ∧ wr = w) (fun _ _ => 0)
    case atStart => exact ⟨rfl, rfl⟩
    case round =>
      obtain ⟨rfl, rfl⟩ := hrel
      go_wp2_with fail
      go_ret
      exact ⟨rfl, rfl⟩
  · have y1 : (1 : Int) < s.size := by omega
    have h3 : s[0].toNat ≠ 48 := h.resolve_left h2
    obtain ⟨c0, hc0⟩ : ∃ c0, s[0].toNat = c0 := ⟨_, rfl⟩
    rw [hc0] at h3
    have z3 : ¬ (c0 : Int) = 48 := by omega
    have z4 : ((c0 : Int) == 48) = false := by rw [beq_eq_false_iff_ne]; exact z3
    clear h h2 h3
    go_enter Tryz.func64, Tryz.ntmps64
    go_wp2_with fail
    go_loopw [0] (fun x wr => x = .string s ∧ wr = w) (fun _ _ => 0)
    case atStart => exact ⟨rfl, rfl⟩
    case round =>
      obtain ⟨rfl, rfl⟩ := hrel
      go_wp2_with fail
      go_ret
      exact ⟨rfl, rfl⟩
set_option maxHeartbeats 4000000 in
set_option maxRecDepth 100000 in
theorem ref_Make0 (neg : Bool) (s : ByteArray) (hn : natOk s = true) (hs : s.size ≤ 100) (n : Bool) (d : ByteArray) (e : Int) (hm : makeD neg s.data.toList 0 = some (n, d, e)) (w : World) :
    Calls Tryz.prog 45 #[.bool neg, .string s, .int .i64 0] w fun x w' => x = .returned (.tuple #[.agg #[.bool n, .string d, .int .i64 e], .int .i64 0]) ∧ Below w.heap.size w w' := by
  have hlen : s.data.toList.length = s.size := by simp
  have h1 : 1 ≤ s.size ∧ s.data.toList.all isDig = true ∧ (s.size = 1 ∨ s.data.toList.head? ≠ some 48) := by
    unfold natOk at hn
    rw [Bool.and_eq_true, Bool.and_eq_true, Bool.and_eq_true, decide_eq_true_iff] at hn
    refine ⟨hn.1, hn.2.2.2, ?_⟩
    have h3 := hn.2.2.1
    rw [Bool.not_eq_true', Bool.and_eq_false_iff, decide_eq_false_iff_not, decide_eq_false_iff_not] at h3
    have h0 := hn.1
    rcases h3 with h3 | h3
    · exact .inl (by omega)
    · exact .inr h3
  obtain ⟨h1, hall, hhd⟩ := h1
  have hdg := all_dig.1 hall
  have HDG := Lib.hid (fun k (hk : k < s.size) => (show 48 ≤ s[k].toNat ∧ s[k].toNat ≤ 57 from by
    have h : (decide (48 ≤ s[k].toNat) && decide (s[k].toNat ≤ 57)) = true := hdg k hk
    rw [Bool.and_eq_true, decide_eq_true_iff, decide_eq_true_iff] at h
    exact h))
  have hh0 : s.size = 1 ∨ s[0].toNat ≠ 48 := hhd.imp id (fun h q => h (by rw [head_of0 s h1, UInt8.toNat_inj.1 (show s[0].toNat = (48 : UInt8).toNat from q)]))
  have HTR := Lib.hid (fun w => ref_Trim0 s h1 (by omega) hh0 w)
  have y1 : ¬ (s.size : Int) < 1 := by omega
  have y2 : ¬ (400 : Int) < s.size := by omega
  have hb1 := (Below.refl w.heap.size w).alloc (Nat.le_refl _) (.cells #[.bool false, .string ⟨#[]⟩, .int .i64 0] 23)
  have hk1 := Blk.new w #[.bool false, .string ⟨#[]⟩, .int .i64 0] 23
  have HB1 := Lib.hid hb1
  have HK1 := Lib.hid hk1
  have HHD := Lib.hid hhd
  have HM := Lib.hid hm
  have HLEN := Lib.hid hlen
  clear hn hall hdg hhd hm hlen hb1 hk1
  go_enter Tryz.func45, Tryz.ntmps45
  go_wp2_with fail
  go_loopw [8] (fun i wr => ∃ k : Nat, k ≤ s.size ∧ i = .int .i64 k ∧ wr = w.alloc (.cells #[.bool false, .string ⟨#[]⟩, .int .i64 0] 23)) (fun i _ => s.size - (intOf i).toNat)
  case atStart => exact ⟨0, by omega, rfl, by first | rfl | trivial⟩
  case round =>
    obtain ⟨k, hk, rfl, rfl⟩ := hrel
    by_cases hlt : k < s.size
    · obtain ⟨h48, h57⟩ := HDG.out k hlt
      obtain ⟨c, hc⟩ : ∃ c, s[k].toNat = c := ⟨_, rfl⟩
      rw [hc] at h48 h57
      have y3 : (k : Int) < s.size := by omega
      have y4 : ¬ (c : Int) < 48 := by omega
      have y5 : ¬ (57 : Int) < c := by omega
      clear h48 h57 HTR HB1 HK1 HM HHD HDG
      go_wp2_with fail
      go_roundw
      case rel => exact ⟨k + 1, by omega, by go_num, by first | rfl | trivial⟩
      case measure => simp [intOf]; omega
    · have y3 : ¬ (k : Int) < s.size := by omega
      clear HDG hk hlt
      go_wp2_with fail
      refine (HTR.out _).mono ?_
      rintro x w2 ⟨rfl, rfl⟩
      clear HTR y1 y2 y3
      by_cases h0 : s.toList = [48]
      · have z2 : (s.toList == [48]) = true := by rw [beq_iff_eq]; exact h0
        have hm := HM.out
        rw [← ByteArray.toList_eq, h0] at hm
        have hm2 : (some (false, (⟨#[48]⟩ : ByteArray), (0 : Int))) = some (n, d, e) := hm
        injection hm2 with h
        injection h with h1 h2
        injection h2 with h2 h3
        subst h1 h2 h3
        clear h0 hm
        go_wp2_with (refine wpList_store_row rfl 23 (.tmp 6) (.tmp 48) rfl (w.heap.size) #[.bool false, .string ⟨#[48]⟩, .int .i64 0] rfl rfl 23 _ HK1.out (by kernel_rfl) rfl (by simp [Value.oneCell']) ?_)
        refine bodyPost_ret (results_cell (T := 23) rfl rfl rfl (blk_row HK1.out #[.bool false, .string ⟨#[48]⟩, .int .i64 0]) Tryz.underlying23 rfl (by kernel_rfl)) rfl ?_
        exact ⟨rfl, HB1.out.grown (grown_row _ _ _) HB1.out.size (fun q e => by cases e; omega)⟩
      · have z2 : (s.toList == [48]) = false := by rw [beq_eq_false_iff_ne]; exact h0
        have hlen := HLEN.out
        have hne : s.data.toList ≠ [] := fun q => by rw [q] at hlen; simp at hlen; omega
        have hhd2 : s.data.toList.head? ≠ some 48 := by
          rcases HHD.out with h | h
          · intro q
            apply h0
            rw [ByteArray.toList_eq]
            cases hl : s.data.toList with
            | nil => exact absurd hl hne
            | cons a l =>
              rw [hl] at q hlen
              rw [h, List.length_cons] at hlen
              have : l = [] := List.eq_nil_of_length_eq_zero (by omega)
              rw [this, Option.some.inj (show some a = some 48 from q)]
          · exact h
        obtain ⟨m1, m2, m3, m4⟩ := make_parts HM.out hne hhd2
        subst m1
        have M2 := Lib.hid m2
        have M3 := Lib.hid m3
        have M4 := Lib.hid m4
        have HH2 := Lib.hid hhd2
        clear h0 hlen hne hhd2 m2 m3 m4 HM HHD
        go_wp2_with fail
        go_loopw [1, 2] (fun xv ev wr => ∃ x : ByteArray, 1 ≤ x.size ∧ x.size ≤ s.size ∧ xv = .string x ∧ ev = .int .i64 ((s.size : Int) - x.size) ∧ Hid (s.data.toList = x.data.toList ++ List.replicate (s.size - x.size) 48) ∧ wr = w.alloc (.cells #[.bool false, .string ⟨#[]⟩, .int .i64 0] 23)) (fun _ ev _ => s.size - (intOf ev).toNat)
        case atStart => exact ⟨s, h1, Nat.le_refl _, rfl, by simp, Lib.hid (by simp), by first | rfl | trivial⟩
        case round =>
          obtain ⟨x, hx1, hxs, rfl, rfl, HX, rfl⟩ := hrel
          have z3 : (1 : Int) ≤ x.size ∧ (x.size : Int) - 1 < x.size := by omega
          have hlast : x.data.toList.getLast? = some (x[x.size - 1]'(by omega)) := by
            rw [List.getLast?_eq_getElem?, List.getElem?_eq_getElem (by simp; omega)]
            simp [ByteArray.getElem_eq_getElem_data]
          have HLA := Lib.hid hlast
          obtain ⟨cl, hcl⟩ : ∃ cl, (x[x.size - 1]'(by omega)).toNat = cl := ⟨_, rfl⟩
          have HCL := Lib.hid hcl
          clear hlast
          by_cases h48 : cl = 48
          · have z4 : ((cl : Int) == 48) = true := by rw [beq_iff_eq]; omega
            have z5 : (cl : Int) = 48 := by omega
            clear h48
            go_wp2_with fail
            have hxz : (x.extract 0 (x.size - 1)).size = x.size - 1 := by simp
            have hxl : x.data.toList = (x.extract 0 (x.size - 1)).data.toList ++ [48] := by
              have e2 : x[x.size - 1]'(by omega) = (48 : UInt8) := UInt8.toNat_inj.1 (by rw [HCL.out]; show cl = 48; omega)
              have h := HLA.out
              rw [e2] at h
              obtain ⟨ys, hys⟩ := List.getLast?_eq_some_iff.1 h
              have hyl : ys.length = x.size - 1 := by
                have := congrArg List.length hys
                rw [List.length_append, show x.data.toList.length = x.size by simp] at this
                simp at this
                omega
              have e1 : (x.extract 0 (x.size - 1)).data.toList = ys := by
                have e3 : (x.extract 0 (x.size - 1)).data.toList = x.data.toList.take (x.size - 1) := by
                  rw [ByteArray.data_extract, Array.toList_extract]
                  simp
                rw [e3, hys, List.take_left' hyl]
              rw [e1]
              exact hys
            have hxx : s.data.toList = (x.extract 0 (x.size - 1)).data.toList ++ List.replicate (s.size - (x.extract 0 (x.size - 1)).size) 48 := by
              have h := HX.out
              rw [hxl] at h
              rw [h, hxz, show s.size - (x.size - 1) = (s.size - x.size) + 1 by omega, List.replicate_succ, List.append_assoc]
              rfl
            have hx2 : 2 ≤ x.size := by
              apply Classical.byContradiction
              intro hq
              have hz : (x.extract 0 (x.size - 1)).data.toList = [] := by
                apply List.eq_nil_of_length_eq_zero
                have : (x.extract 0 (x.size - 1)).data.toList.length = (x.extract 0 (x.size - 1)).size := by simp
                omega
              rw [hz, hxz, show s.size - (x.size - 1) = (s.size - x.size) + 1 by omega, List.replicate_succ] at hxx
              exact HH2.out (by rw [hxx]; rfl)
            have HXX := Lib.hid hxx
            have HXZ := Lib.hid hxz
            clear hxx hxz hxl
            go_roundw
            case rel => exact ⟨x.extract 0 (x.size - 1), by rw [HXZ.out]; omega, by rw [HXZ.out]; omega, rfl, by rw [HXZ.out]; congr 1; omega, HXX, by first | rfl | trivial⟩
            case measure => simp [intOf]; omega
          · have z4 : ((cl : Int) == 48) = false := by rw [beq_eq_false_iff_ne]; omega
            have z5 : ¬ (cl : Int) = 48 := by omega
            have hnl : x.data.toList.getLast? ≠ some 48 := by
              rw [HLA.out]
              intro q
              apply h48
              have : (x[x.size - 1]'(by omega)) = (48 : UInt8) := Option.some.inj q
              rw [← HCL.out, this]
              rfl
            have htr := trimR_of hnl _ HX.out
            have hdx : d = x := by
              rw [M2.out, htr]
            have hex : e = (s.size : Int) - x.size := by
              rw [M3.out, htr, HLEN.out]
              simp
            subst hdx
            subst hex
            have HR := ref_decOk n d ((s.size : Int) - d.size) (by omega)
            rw [M4.out] at HR
            have HR := Lib.hid HR
            have hb2 := HB1.out.alloc HB1.out.size (.cells #[.bool n, .string d, .int .i64 ((s.size : Int) - d.size)] 23)
            have hk2 := HK1.out.alloc (.cells #[.bool n, .string d, .int .i64 ((s.size : Int) - d.size)] 23)
            have hn2 := Blk.new (w.alloc (.cells #[.bool false, .string ⟨#[]⟩, .int .i64 0] 23)) #[.bool n, .string d, .int .i64 ((s.size : Int) - d.size)] 23
            clear h48 hnl htr M2 M3 M4 HX HH2 HLEN
            have p0 := hn2.cell 0
            have p1 := hn2.cell 1
            have p2 := hn2.cell 2
            rw [World.size_alloc] at p0 p1 p2
            go_wp2_with fail
            refine (HR.out _).mono ?_
            rintro y w3 ⟨rfl, hb3⟩
            have hk3 := hk2.below hb3 hk2.lt
            have hn3 := hn2.below hb3 hn2.lt
            have hb4 := hb2.trans (hb3.mono hb2.size)
            clear p0 p1 p2 HR hk2 hn2 hb2
            have p0 := hn3.cell 0
            have p1 := hn3.cell 1
            have p2 := hn3.cell 2
            rw [World.size_alloc] at p0 p1 p2
            have HK3 := Lib.hid hk3
            clear hk3
            go_wp2_with (refine wpList_store_row rfl 23 (.tmp 6) (.tmp 70) rfl (w.heap.size) #[.bool n, .string d, .int .i64 ((s.size : Int) - d.size)] rfl rfl 23 _ HK3.out (by kernel_rfl) rfl (by simp [Value.oneCell']) ?_)
            refine bodyPost_ret (results_cell (T := 23) rfl rfl rfl (blk_row HK3.out #[.bool n, .string d, .int .i64 ((s.size : Int) - d.size)]) Tryz.underlying23 rfl (by kernel_rfl)) rfl ?_
            exact ⟨rfl, hb4.grown (grown_row _ _ _) hb4.size (fun q e => by cases e; omega)⟩
/-- A whole number's digits. -/
theorem dec_len20 (n : Nat) (hn : n ≤ 18446744073709551616) : (Lib.decDigits n).length ≤ 20 := by
  rcases Nat.eq_zero_or_pos n with h | h0
  · subst h
    rw [Lib.decDigits_one (by decide)]
    simp
  obtain ⟨f1, f2, f3⟩ := dec_facts n
  have hh := dec_head0 n n (Nat.le_refl _) h0
  have h1 := dval_head f3 f2 hh
  rw [f1] at h1
  apply Decidable.byContradiction
  intro hc
  have h2 : 10 ^ 20 ≤ 10 ^ ((Lib.decDigits n).length - 1) := Nat.pow_le_pow_right (by decide) (by omega)
  have h3 : (10 : Nat) ^ 20 = 100000000000000000000 := by decide
  omega
theorem dec_natOk (n : Nat) (h : n ≤ 18446744073709551616) : natOk ⟨(Lib.decDigits n).toArray⟩ = true ∧ (⟨(Lib.decDigits n).toArray⟩ : ByteArray).size ≤ 20 := by
  have hs : (⟨(Lib.decDigits n).toArray⟩ : ByteArray).size = (Lib.decDigits n).length := rfl
  have hd : (⟨(Lib.decDigits n).toArray⟩ : ByteArray).data.toList = Lib.decDigits n := rfl
  have hl := dec_len20 n h
  obtain ⟨f1, f2, f3⟩ := dec_facts n
  have h01 : 1 ≤ (Lib.decDigits n).length := by
    rcases Nat.eq_zero_or_pos (Lib.decDigits n).length with e | e
    · exact absurd (List.eq_nil_of_length_eq_zero e) f3
    · exact e
  refine ⟨?_, by omega⟩
  unfold natOk
  rw [hs, hd, decide_eq_true h01, decide_eq_true (by omega : (Lib.decDigits n).length ≤ 400), List.all_eq_true.2 f2]
  by_cases h1 : 1 < (Lib.decDigits n).length
  · rw [decide_eq_true h1, decide_eq_false (dec_head n h1)]
    rfl
  · rw [decide_eq_false h1]
    rfl
set_option maxHeartbeats 4000000 in
set_option maxRecDepth 100000 in
theorem ref_OfInt4 (neg : Bool) (u : Nat) (hu64 : u < 18446744073709551616) (w : World) :
    Calls Tryz.prog 34 #[.bool neg, .int .u64 u] w fun x w' => x = .returned (.agg #[.bool (ofN neg u).1, .string (ofN neg u).2.1, .int .i64 (ofN neg u).2.2]) ∧ Below w.heap.size w w' := by
  obtain ⟨h1, _⟩ := ofN_ok neg u (by omega)
  obtain ⟨⟨n, d, e⟩, hx⟩ : ∃ x, ofN neg u = x := ⟨_, rfl⟩
  rw [hx] at h1 ⊢
  simp only []
  obtain ⟨hn1, hn2⟩ := dec_natOk u (by omega)
  have HO := Lib.hid (fun w => ref_Of (u + 1) u (Nat.lt_succ_self _) (by omega) w)
  have HM := Lib.hid (ref_Make0 neg ⟨(Lib.decDigits u).toArray⟩ hn1 (by omega) n d e h1)
  have hk := Blk.new w #[.bool false, .string ⟨#[]⟩, .int .i64 0] 23
  have hb0 := (Below.refl w.heap.size w).alloc (Nat.le_refl _) (.cells #[.bool false, .string ⟨#[]⟩, .int .i64 0] 23)
  clear hx h1 hn1 hn2
  go_enter Tryz.func34, Tryz.ntmps34
  go_wp2_with fail
  refine (HO.out _).mono ?_
  rintro x w1 ⟨rfl, hb1⟩
  go_wp2_with fail
  refine (HM.out _).mono ?_
  rintro x w2 ⟨rfl, hb2⟩
  have hk1 := hk.below hb1 hk.lt
  have hk2 := hk1.below hb2 hk1.lt
  have hbA := hb0.trans ((hb1.mono hb0.size).trans (hb2.mono (Nat.le_trans hb0.size hb1.size)))
  have hk3 := hk2.alloc (.cells #[.bool n, .string d, .int .i64 e] 23)
  have hk4 := Blk.new w2 #[.bool n, .string d, .int .i64 e] 23
  have hbB := hbA.alloc hbA.size (.cells #[.bool n, .string d, .int .i64 e] 23)
  clear HO HM hk hb0 hb1 hb2
  have d0 := hk4.cell 0
  have d1 := hk4.cell 1
  have d2 := hk4.cell 2
  have HK3 := Lib.hid hk3
  clear hk3 hk1 hk2
  go_wp2_with (refine wpList_store_row rfl 23 (.tmp 4) (.tmp 14) rfl (w.heap.size) #[.bool n, .string d, .int .i64 e] rfl rfl 23 _ HK3.out (by kernel_rfl) rfl (by simp [Value.oneCell']) ?_)
  refine bodyPost_ret (results_oneR (T := 23) (b := w.heap.size) rfl (by kernel_rfl) (blk_row HK3.out #[.bool n, .string d, .int .i64 e]) Tryz.underlying23 rfl (by kernel_rfl)) rfl ?_
  exact ⟨rfl, hbB.grown (grown_row _ _ _) hbB.size (fun q e => by cases e; omega)⟩
end Go.Proofs.YtfckekaegjjmkaaGreatDoor
