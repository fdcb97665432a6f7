/- The reference's paths (targumref07): Right, digits, Code, walked. -/
import Derived.Test.YtgfeeakcpojicaaGreatDoorRefU
import Derived.Test.YtgfeeakcpojicaaGreatDoorPathG
namespace Go.Proofs.YtgfeeakcpojicaaGreatDoor
open Go.RowKit Go.Shelf

theorem rightS_false {p : List Stp} {k : Nat} (h : k < p.length) (hs : stepRight p[k] = false) : rightS p = false := by
  unfold rightS
  rw [Bool.and_eq_false_iff]
  right
  rw [List.all_eq_false]
  exact ⟨p[k], List.getElem_mem h, by rw [hs]; simp⟩
theorem rightS_true {p : List Stp} (hl : p.length ≤ 16) (h : ∀ s ∈ p, stepRight s = true) : rightS p = true := by
  unfold rightS
  rw [Bool.and_eq_true, decide_eq_true_iff]
  exact ⟨hl, List.all_eq_true.2 h⟩

set_option maxHeartbeats 4000000 in
set_option maxRecDepth 100000 in
theorem ref_pathRight (A : Option Addr) (n c : Nat) (p : List Stp) (B : Nat) (w : World) (hn : n ≤ 9223372036854775807) (hp : StepsAt w B A n p) :
    Calls Tryz.prog 28 #[.slice A n c] w fun e w' => e = .returned (.bool (rightS p)) ∧ w' = w := by
  have hlen := hp.len
  by_cases h16 : 16 < n
  · have hr : rightS p = false := by
      unfold rightS
      rw [decide_eq_false (by omega)]
      rfl
    rw [hr]
    have z1 : (16 : Int) < n := by omega
    clear hr hlen hp h16
    go_enter Tryz.func28, Tryz.ntmps28
    go_wp2_with fail
    go_ret
    exact ⟨rfl, rfl⟩
  obtain ⟨ans, hans⟩ : ∃ ans, rightS p = ans := ⟨_, rfl⟩
  rw [hans]
  have HANS := Lib.hid hans
  have HP := Lib.hid hp
  have z1 : ¬ (16 : Int) < n := by omega
  clear hp hans
  go_enter Tryz.func28, Tryz.ntmps28
  go_wp2_with fail
  clear z1
  go_loopw [3] (fun i wr => ∃ k : Nat, k ≤ n ∧ i = .int .i64 k ∧ wr = w ∧ Hid (∀ s ∈ p.take k, stepRight s = true)) (fun i _ => n - (intOf i).toNat)
  case atStart => exact ⟨0, by omega, rfl, rfl, Lib.hid (by simp)⟩
  case round =>
    obtain ⟨k, hk, rfl, rfl, hall⟩ := hrel
    by_cases hlt : k < n
    · have hkp : k < p.length := by omega
      obtain ⟨ad, rfl, hab, hc0, hc1, hks⟩ := HP.out.at_ hkp
      have hno := Lib.hid (fun h : stepRight p[k] = false => show false = ans from by rw [← HANS.out, rightS_false hkp h])
      have hyes := Lib.hid (fun h : stepRight p[k] = true => show ∀ s ∈ p.take (k + 1), stepRight s = true from fun s hs => by
        rw [List.take_succ_eq_append_getElem hkp, List.mem_append] at hs
        rcases hs with hs | hs
        · exact hall.out s hs
        · rw [List.mem_singleton.1 hs]
          exact h)
      obtain ⟨⟨i, key⟩, hs⟩ : ∃ s, p[k] = s := ⟨_, rfl⟩
      rw [hs] at hc0 hc1 hks hno hyes
      simp only [] at hc0 hc1 hks
      have y1 : (k : Int) < n := by omega
      clear hs hall
      by_cases hi : 0 ≤ i
      · have y2 : (i == -1) = false := by rw [beq_eq_false_iff_ne]; omega
        by_cases h0 : key.size = 0
        · have e0 := str_empty h0
          subst e0
          have hy := Lib.hid (hyes.out (stepRight_place h0 hi))
          clear hno hyes h0 hks
          go_wp2_with fail
          go_roundw
          case rel => exact ⟨k + 1, by omega, by go_num, trivial, hy⟩
          case measure => simp [intOf]; omega
        · have hne := str_nonempty h0
          have hr := hno.out (stepRight_not (fun h => h0 h.1) (fun h => by omega))
          subst hr
          clear hno hyes h0 hks
          go_wp2_with fail
          go_ret
          exact ⟨rfl, rfl⟩
      · by_cases h1 : i = -1
        · subst h1
          by_cases h4 : key.size ≤ 400
          · have y4 : (key.size : Int) ≤ 400 := by omega
            have HV := ref_utfRight key (by omega) wr
            rw [stepRight_key (fun h => hi h.2) rfl h4] at hno hyes
            cases hv : Lib.validD key.data.toList with
            | true =>
              rw [hv] at HV
              have HV := Lib.hid HV
              have hy := Lib.hid (hyes.out hv)
              clear hno hyes hks h4 hi hv
              go_wp2_with fail
              refine HV.out.mono ?_
              rintro e w1 ⟨rfl, rfl⟩
              go_wp2_with fail
              go_roundw
              case rel => exact ⟨k + 1, by omega, by go_num, trivial, hy⟩
              case measure => simp [intOf]; omega
            | false =>
              rw [hv] at HV
              have HV := Lib.hid HV
              have hr := hno.out hv
              subst hr
              clear hno hyes hks h4 hi hv
              go_wp2_with fail
              refine HV.out.mono ?_
              rintro e w1 ⟨rfl, rfl⟩
              go_wp2_with fail
              go_ret
              exact ⟨rfl, rfl⟩
          · have y4 : (400 : Int) < key.size := by omega
            have hr := hno.out (stepRight_not (fun h => hi h.2) (fun h => h4 h.2))
            subst hr
            clear hno hyes hks h4 hi
            go_wp2_with fail
            go_ret
            exact ⟨rfl, rfl⟩
        · have y2 : (i == -1) = false := by rw [beq_eq_false_iff_ne]; exact h1
          have y3 : i < 0 := by omega
          have hr := hno.out (stepRight_not (fun h => hi h.2) (fun h => h1 h.1))
          subst hr
          clear hno hyes hks hi h1
          go_wp2_with fail
          go_ret
          exact ⟨rfl, rfl⟩
    · obtain rfl : k = n := by omega
      have y1 : ¬ (k : Int) < k := by omega
      have hr : true = ans := by
        rw [← HANS.out]
        refine (rightS_true (by omega) ?_).symm
        have := hall.out
        rwa [← hlen, List.take_length] at this
      subst hr
      clear hall
      go_wp2_with fail
      go_ret
      exact ⟨rfl, rfl⟩

set_option maxHeartbeats 2000000 in
set_option maxRecDepth 100000 in
theorem ref_digits (s : ByteArray) (hs : s.size ≤ 1000000000) (w : World) :
    Calls Tryz.prog 32 #[.string s] w fun e w' => e = .returned (.int .i64 (digN s.data.toList : Nat)) ∧ w' = w := by
  obtain ⟨ans, hans⟩ : ∃ ans, digN s.data.toList = ans := ⟨_, rfl⟩
  have H0 := Lib.hid (show 0 + digN (s.data.toList.drop 0) = ans by rw [Nat.zero_add]; exact hans)
  rw [hans]
  clear hans
  go_enter Tryz.func32, Tryz.ntmps32
  go_wp2_with fail
  go_loopw [3] (fun i wr => ∃ k : Nat, k ≤ s.size ∧ i = .int .i64 k ∧ wr = w ∧ Hid (k + digN (s.data.toList.drop k) = ans)) (fun i _ => s.size - (intOf i).toNat)
  case atStart => exact ⟨0, by omega, rfl, rfl, H0⟩
  case round =>
    obtain ⟨k, hk, rfl, rfl, hd⟩ := hrel
    by_cases hlt : k < s.size
    · have hdd := hd.out
      rw [drop_at s k hlt] at hdd
      have y1 : (k : Int) < s.size := by omega
      obtain ⟨b, hb⟩ : ∃ b, s[k] = b := ⟨_, rfl⟩
      have hbt : s[k].toNat = b.toNat := by rw [hb]
      rw [hb] at hdd
      clear hb hd H0
      cases hg : isDig b with
      | true =>
        have h2 := isDig_iff hg
        rw [digN_cons_yes hg] at hdd
        have HD := Lib.hid (show (k + 1) + digN (s.data.toList.drop (k + 1)) = ans by omega)
        obtain ⟨c, hc⟩ : ∃ c, b.toNat = c := ⟨_, rfl⟩
        rw [hc] at hbt h2
        have z1 : (48 : Int) ≤ c := by omega
        have z2 : (c : Int) ≤ 57 := by omega
        clear hdd hg hc h2
        go_wp2_with fail
        go_roundw
        case rel => exact ⟨k + 1, by omega, by go_num, trivial, HD⟩
        case measure => simp [intOf]; omega
      | false =>
        rw [digN_cons_no hg, Nat.add_zero] at hdd
        subst hdd
        have h2 : b.toNat < 48 ∨ 57 < b.toNat := by
          unfold isDig at hg
          rw [Bool.and_eq_false_iff, decide_eq_false_iff_not, decide_eq_false_iff_not] at hg
          omega
        obtain ⟨c, hc⟩ : ∃ c, b.toNat = c := ⟨_, rfl⟩
        rw [hc] at hbt h2
        rcases h2 with h2 | h2
        · have z1 : (c : Int) < 48 := by omega
          clear hg hc h2
          go_wp2_with fail
          go_ret
          exact ⟨rfl, rfl⟩
        · have z1 : (48 : Int) ≤ c := by omega
          have z2 : (57 : Int) < c := by omega
          clear hg hc h2
          go_wp2_with fail
          go_ret
          exact ⟨rfl, rfl⟩
    · obtain rfl : k = s.size := by omega
      have y1 : ¬ ((s.size : Nat) : Int) < s.size := by omega
      have hdd := hd.out
      rw [List.drop_eq_nil_of_le (by simp)] at hdd
      have hdd : s.size = ans := hdd
      clear hd H0
      subst hdd
      go_wp2_with fail
      go_ret
      exact ⟨rfl, rfl⟩

theorem ref_pCode_no (A : Option Addr) (n c : Nat) (p : List Stp) (B : Nat) (w : World) (hn : n ≤ 9223372036854775807) (hp : StepsAt w B A n p) (hr : rightS p = false) :
    Calls Tryz.prog 9 #[.slice A n c] w fun e w' => e = .returned (.tuple #[.string ⟨#[]⟩, .int .i64 70]) ∧ Below w.heap.size w w' := by
  have HR := ref_pathRight A n c p B w hn hp
  rw [hr] at HR
  have HR := Lib.hid HR
  clear hp hr
  go_enter Tryz.func9, Tryz.ntmps9
  go_wp2_with fail
  refine HR.out.mono ?_
  rintro e w1 ⟨rfl, rfl⟩
  go_wp2_with fail
  go_ret2
  exact ⟨rfl, Below.refl _ _⟩

set_option maxHeartbeats 4000000 in
set_option maxRecDepth 100000 in
theorem ref_pCode_yes (A : Option Addr) (n c : Nat) (p : List Stp) (B : Nat) (w : World) (hp : StepsAt w B A n p) (hB : B ≤ w.heap.size) (hr : rightS p = true)
    (hi : ∀ s ∈ p, s.1 < 9223372036854775808) :
    Calls Tryz.prog 9 #[.slice A n c] w fun e w' => e = .returned (.tuple #[.string ⟨(codeS p).toArray⟩, .int .i64 0]) ∧ Below w.heap.size w w' := by
  have hlen := hp.len
  have hn16 : n ≤ 16 := by
    unfold rightS at hr
    rw [Bool.and_eq_true, decide_eq_true_iff] at hr
    omega
  have hall : ∀ s ∈ p, stepRight s = true := by
    unfold rightS at hr
    rw [Bool.and_eq_true] at hr
    exact List.all_eq_true.1 hr.2
  have HR := ref_pathRight A n c p B w (by omega) hp
  rw [hr] at HR
  have HR := Lib.hid HR
  have HP := Lib.hid hp
  have HA := Lib.hid hall
  have HI := Lib.hid hi
  obtain ⟨cs, hcs⟩ : ∃ cs : ByteArray, (⟨(codeS p).toArray⟩ : ByteArray) = cs := ⟨_, rfl⟩
  have hcl : cs.data.toList = codeS p := by rw [← hcs]
  rw [hcs]
  have HCL := Lib.hid hcl
  clear hp hr hall hi hcs hcl
  go_enter Tryz.func9, Tryz.ntmps9
  go_wp2_with fail
  refine HR.out.mono ?_
  rintro e w1 ⟨rfl, rfl⟩
  clear HR
  go_wp2_with fail
  go_loopw [4, 5] (fun x i wr => ∃ (k : Nat) (out : ByteArray), k ≤ n ∧ i = .int .i64 k ∧ x = .string out ∧ Hid (out.data.toList = codeS (p.take k)) ∧ Below w1.heap.size w1 wr ∧ out.size ≤ 2500 * k) (fun _ i _ => n - (intOf i).toNat)
  case atStart => exact ⟨0, ⟨#[]⟩, by omega, rfl, rfl, Lib.hid rfl, Below.refl _ _, by show 0 ≤ _; omega⟩
  case round =>
    obtain ⟨k, out, hk, rfl, rfl, ho, hbw, hos⟩ := hrel
    have hzw := hbw.size
    by_cases hlt : k < n
    · have hkp : k < p.length := by omega
      obtain ⟨ad, rfl, hab, hc0, hc1, hks⟩ := (HP.out.below hbw hB).at_ hkp
      have hsr := HA.out _ (List.getElem_mem hkp)
      have hsi := HI.out _ (List.getElem_mem hkp)
      have hcode : codeS (p.take (k + 1)) = codeS (p.take k) ++ stepCode p[k] := by
        rw [List.take_succ_eq_append_getElem hkp, codeS_append]
        simp [codeS]
      obtain ⟨⟨i, key⟩, hs⟩ : ∃ s, p[k] = s := ⟨_, rfl⟩
      rw [hs] at hc0 hc1 hks hsr hsi hcode
      simp only [] at hc0 hc1 hsi
      have hltz : (k : Int) < n := by omega
      obtain ⟨o1, ho1⟩ : ∃ o1 : ByteArray, out ++ ⟨#[47]⟩ = o1 := ⟨_, rfl⟩
      have ho1l : o1.data.toList = codeS (p.take k) ++ [47] := by
        rw [← ho1, cat_list, ho.out]
      have ho1s : o1.size = out.size + 1 := by
        rw [← ho1, ByteArray.size_append]
        rfl
      have HO1 := Lib.hid ho1
      clear hs hlen ho1
      by_cases hneg : i < 0
      · have hkey : Lib.validD key.data.toList = true ∧ key.size ≤ 400 := by
          unfold stepRight at hsr
          have h0 : decide (0 ≤ i) = false := by rw [decide_eq_false_iff_not]; omega
          rw [h0, Bool.and_false, Bool.false_or, Bool.and_eq_true, Bool.and_eq_true, decide_eq_true_iff, decide_eq_true_iff] at hsr
          exact ⟨hsr.2, hsr.1.2⟩
        have hq := fun w => ref_Quote_yes key w (by omega) hkey.1
        obtain ⟨qs, hqs⟩ : ∃ qs : ByteArray, (⟨(quoteL key.data.toList).toArray⟩ : ByteArray) = qs := ⟨_, rfl⟩
        rw [hqs] at hq
        have hql : qs.data.toList = quoteL key.data.toList := by rw [← hqs]
        have hqz : qs.size ≤ 2402 := by
          have h1 := quoteL_len key.data.toList
          have h2 : qs.data.toList.length = qs.size := by simp
          have h3 : key.data.toList.length = key.size := by simp
          rw [hql] at h2
          omega
        obtain ⟨o2, ho2⟩ : ∃ o2 : ByteArray, o1 ++ qs = o2 := ⟨_, rfl⟩
        have ho2l : o2.data.toList = codeS (p.take (k + 1)) := by
          rw [← ho2, cat_list, ho1l, hql, hcode]
          unfold stepCode
          rw [if_pos hneg, List.append_assoc]
          rfl
        have ho2s : o2.size = o1.size + qs.size := by rw [← ho2, ByteArray.size_append]
        have HQ := Lib.hid hq
        have HO2 := Lib.hid ho2
        have HO2L := Lib.hid ho2l
        have y2 : ¬ (0 : Int) ≤ i := by omega
        have y3 : out.size + 1 ≤ 1000000 := by omega
        have y4 : o1.size + qs.size ≤ 1000000 := by omega
        clear hkey hq hqs hql ho2 ho2l ho1l hcode hsr ho
        go_wp2_with fail
        refine (HQ.out _).mono ?_
        rintro e w2 ⟨rfl, hb2⟩
        have hb3 := hbw.trans (hb2.mono hzw)
        go_wp2_with fail
        rw [HO1.out]
        go_wp2_with fail
        rw [HO2.out]
        go_roundw
        case rel => exact ⟨k + 1, o2, by omega, by go_num, rfl, HO2L, hb3, by omega⟩
        case measure => simp [intOf]; omega
      · obtain ⟨m, rfl⟩ : ∃ m : Nat, i = (m : Int) := ⟨i.toNat, by omega⟩
        have hq := fun w => ref_Of (m + 1) m (by omega) (by omega) w
        have hit : stepCode ((m : Int), key) = 47 :: Lib.decDigits m := by
          unfold stepCode
          rw [if_neg hneg]
          unfold Lib.itoa
          rw [if_neg (by omega), Int.toNat_natCast]
        rw [hit] at hcode
        obtain ⟨qs, hqs⟩ : ∃ qs : ByteArray, (⟨(Lib.decDigits m).toArray⟩ : ByteArray) = qs := ⟨_, rfl⟩
        rw [hqs] at hq
        have hql : qs.data.toList = Lib.decDigits m := by rw [← hqs]
        have hqz : qs.size ≤ 20 := by
          have h2 : qs.data.toList.length = qs.size := by simp
          have h1 := nDigits_le 19 m (by omega)
          rw [hql, Lib.decDigits_length] at h2
          omega
        obtain ⟨o2, ho2⟩ : ∃ o2 : ByteArray, o1 ++ qs = o2 := ⟨_, rfl⟩
        have ho2l : o2.data.toList = codeS (p.take (k + 1)) := by
          rw [← ho2, cat_list, ho1l, hql, hcode, List.append_assoc]
          rfl
        have ho2s : o2.size = o1.size + qs.size := by rw [← ho2, ByteArray.size_append]
        have HQ := Lib.hid hq
        have HO2 := Lib.hid ho2
        have HO2L := Lib.hid ho2l
        have y3 : out.size + 1 ≤ 1000000 := by omega
        have y4 : o1.size + qs.size ≤ 1000000 := by omega
        clear hq hqs hql ho2 ho2l ho1l hcode hsr ho hit
        go_wp2_with fail
        rw [HO1.out]
        go_wp2_with fail
        refine (HQ.out _).mono ?_
        rintro e w2 ⟨rfl, hb2⟩
        have hb3 := hbw.trans (hb2.mono hzw)
        go_wp2_with fail
        rw [HO2.out]
        go_roundw
        case rel => exact ⟨k + 1, o2, by omega, by go_num, rfl, HO2L, hb3, by omega⟩
        case measure => simp [intOf]; omega
    · obtain rfl : k = n := by omega
      have hoc : out = cs := by
        apply str_ext
        rw [ho.out, HCL.out, ← hlen, List.take_length]
      subst hoc
      have y1 : ¬ (k : Int) < k := by omega
      clear ho hlen
      go_wp2_with fail
      go_ret2
      exact ⟨rfl, hbw⟩
end Go.Proofs.YtgfeeakcpojicaaGreatDoor
