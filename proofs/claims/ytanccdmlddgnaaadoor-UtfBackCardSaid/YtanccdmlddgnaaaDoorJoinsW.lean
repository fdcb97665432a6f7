/- The walk of the law UtfJoins. -/
import Derived.Test.YtanccdmlddgnaaaDoorUtfP
import Derived.Test.YtanccdmlddgnaaaDoorUtfT
namespace Go.Proofs.YtanccdmlddgnaaaDoor
open Go.RowKit Go.Shelf

theorem cat_size (a b : ByteArray) : (a ++ b).size = a.size + b.size := by simp [ByteArray.size_append]

set_option maxHeartbeats 2000000 in
set_option maxRecDepth 100000 in
theorem joins_walk {aT aQ : Addr} (s t : ByteArray) (b : Int) (hs : s.size ≤ 9223372036854775807) (ht : t.size ≤ 9223372036854775807) (hb : 0 ≤ b ∧ b < 256) (w : World) (h : UW w aT aQ) :
    Calls Tryd.prog 4 #[.string s, .string t, .int .u8 b] w fun e w' => e = .returned (.bool true) ∧ Below w.heap.size w w' := by
  have H0 := Lib.hid (utf_shown w h)
  have HU := Lib.hid (fun (w' : World) (hw : Below w.heap.size w w') => h.below hw)
  have z1 : (0 : Int) ≤ min (s.size : Int) 200 := by omega
  have z2 : min (s.size : Int) 200 ≤ s.size := by omega
  have z3 : (0 : Int) ≤ min (t.size : Int) 200 := by omega
  have z4 : min (t.size : Int) 200 ≤ t.size := by omega
  obtain ⟨s1, hs1⟩ : ∃ s1, s.extract 0 (min (s.size : Int) 200).toNat = s1 := ⟨_, rfl⟩
  obtain ⟨t1, ht1⟩ : ∃ t1, t.extract 0 (min (t.size : Int) 200).toNat = t1 := ⟨_, rfl⟩
  have hsz : s1.size ≤ 200 := by
    rw [← hs1, ByteArray.size_extract]
    omega
  have htz : t1.size ≤ 200 := by
    rw [← ht1, ByteArray.size_extract]
    omega
  have HS1 := Lib.hid hs1
  have HT1 := Lib.hid ht1
  have HV := Lib.hid (fun (x : ByteArray) (hx : x.size ≤ 9223372036854775807) (w : World) (h : UW w aT aQ) => utf_Right x hx w h)
  clear h hs ht hs1 ht1
  cases hvs : Lib.validD s1.data.toList with
  | false =>
    have HVS := Lib.hid hvs
    clear hvs
    go_enter Tryd.func4, Tryd.ntmps4
    go_wp2_with fail
    refine H0.out.mono ?_
    rintro e w1 ⟨rfl, hb1⟩
    go_wp2_with fail
    rw [HS1.out, HT1.out]
    refine (HV.out s1 (by omega) w1 (HU.out _ hb1)).mono ?_
    rintro e w2 ⟨rfl, hb2⟩
    rw [HVS.out]
    have hb3 := hb1.trans (hb2.mono hb1.size)
    clear hb2
    go_wp2_with fail
    go_ret
    exact ⟨rfl, hb3⟩
  | true =>
    have HVS := Lib.hid hvs
    clear hvs
    cases hvt : Lib.validD t1.data.toList with
    | false =>
      have HVT := Lib.hid hvt
      clear hvt
      go_enter Tryd.func4, Tryd.ntmps4
      go_wp2_with fail
      refine H0.out.mono ?_
      rintro e w1 ⟨rfl, hb1⟩
      go_wp2_with fail
      rw [HS1.out, HT1.out]
      refine (HV.out s1 (by omega) w1 (HU.out _ hb1)).mono ?_
      rintro e w2 ⟨rfl, hb2⟩
      rw [HVS.out]
      have hb3 := hb1.trans (hb2.mono hb1.size)
      clear hb2
      go_wp2_with fail
      refine (HV.out t1 (by omega) w2 (HU.out _ hb3)).mono ?_
      rintro e w3 ⟨rfl, hb4⟩
      rw [HVT.out]
      have hb5 := hb3.trans (hb4.mono hb3.size)
      clear hb4
      go_wp2_with fail
      go_ret
      exact ⟨rfl, hb5⟩
    | true =>
      have HVT := Lib.hid hvt
      clear hvt
      by_cases hbb : b < 128
      · go_enter Tryd.func4, Tryd.ntmps4
        go_wp2_with fail
        refine H0.out.mono ?_
        rintro e w1 ⟨rfl, hb1⟩
        go_wp2_with fail
        rw [HS1.out, HT1.out]
        refine (HV.out s1 (by omega) w1 (HU.out _ hb1)).mono ?_
        rintro e w2 ⟨rfl, hb2⟩
        rw [HVS.out]
        have hb3 := hb1.trans (hb2.mono hb1.size)
        clear hb2
        go_wp2_with fail
        refine (HV.out t1 (by omega) w2 (HU.out _ hb3)).mono ?_
        rintro e w3 ⟨rfl, hb4⟩
        rw [HVT.out]
        have hb5 := hb3.trans (hb4.mono hb3.size)
        clear hb4
        go_wp2_with fail
        go_ret
        exact ⟨rfl, hb5⟩
      · have zb : (128 : Int) ≤ b := by omega
        have hj1 : Lib.validD (s1 ++ t1).data.toList = true := by
          rw [cat_list]
          exact valid_join HVS.out HVT.out
        have hj2 : Lib.validD (s1 ++ ⟨#[UInt8.ofNat b.toNat]⟩ ++ t1).data.toList = false := by
          rw [cat_list, cat_list]
          refine valid_between HVS.out HVT.out ?_
          rw [UInt8.toNat_ofNat']
          omega
        have HJ1 := Lib.hid (show ∀ w, UW w aT aQ → Calls Tryd.prog 12 #[.string (s1 ++ t1)] w fun e w' => e = .returned (.bool true) ∧ Below w.heap.size w w' from fun w h => by
          rw [← hj1]
          exact HV.out (s1 ++ t1) (by rw [cat_size]; omega) w h)
        have HJ2 := Lib.hid (show ∀ w, UW w aT aQ → Calls Tryd.prog 12 #[.string (s1 ++ ⟨#[UInt8.ofNat b.toNat]⟩ ++ t1)] w fun e w' => e = .returned (.bool false) ∧ Below w.heap.size w w' from fun w h => by
          rw [← hj2]
          exact HV.out (s1 ++ ⟨#[UInt8.ofNat b.toNat]⟩ ++ t1) (by rw [cat_size, cat_size, show (⟨#[UInt8.ofNat b.toNat]⟩ : ByteArray).size = 1 from rfl]; omega) w h)
        have kcv := run_conv1 (P := Tryd.prog) Tryd.underlying31 Tryd.underlying5 Tryd.underlying9
        have zz : s1.size + t1.size ≤ 9223372036854775807 := by omega
        clear hj1 hj2 hbb
        go_enter Tryd.func4, Tryd.ntmps4
        go_wp2_with fail
        refine H0.out.mono ?_
        rintro e w1 ⟨rfl, hb1⟩
        go_wp2_with fail
        rw [HS1.out, HT1.out]
        refine (HV.out s1 (by omega) w1 (HU.out _ hb1)).mono ?_
        rintro e w2 ⟨rfl, hb2⟩
        rw [HVS.out]
        have hb3 := hb1.trans (hb2.mono hb1.size)
        clear hb2
        go_wp2_with fail
        refine (HV.out t1 (by omega) w2 (HU.out _ hb3)).mono ?_
        rintro e w3 ⟨rfl, hb4⟩
        rw [HVT.out]
        have hb5 := hb3.trans (hb4.mono hb3.size)
        clear hb4 hb1 hb3
        go_wp2_with fail
        refine (HJ1.out w3 (HU.out _ hb5)).mono ?_
        rintro e w4 ⟨rfl, hb6⟩
        have hb7 := hb5.trans (hb6.mono hb5.size)
        have kc4 := kcv w4 b
        have hb8 : Below w.heap.size w (w4.alloc (.cells #[.int .u8 b] 5)) := hb7.alloc hb7.size _
        have HU8 := Lib.hid (HU.out _ hb8)
        clear hb5 hb6 kcv
        go_wp2_with fail
        refine (HJ2.out _ HU8.out).mono ?_
        rintro e w5 ⟨rfl, hb9⟩
        have hb10 := hb8.trans (hb9.mono hb8.size)
        clear hb8 hb9 kc4
        go_wp2_with fail
        go_ret
        exact ⟨rfl, hb10⟩
end Go.Proofs.YtanccdmlddgnaaaDoor
