/- The walk of the law UtfBack. -/
import Derived.Test.YtanccdmlddgnaaaDoorUtfY
import Derived.Test.YtanccdmlddgnaaaDoorUtfP
import Derived.Test.YtanccdmlddgnaaaDoorPairW
import Derived.Test.YtanccdmlddgnaaaDoorJoinsW
namespace Go.Proofs.YtanccdmlddgnaaaDoor
open Go.RowKit Go.Shelf

theorem str_back (s : ByteArray) : (⟨s.data.toList.toArray⟩ : ByteArray) = s := str_ext rfl

set_option maxHeartbeats 4000000 in
set_option maxRecDepth 100000 in
theorem back_walk {aT aQ : Addr} (s m : ByteArray) (hs : s.size ≤ 9223372036854775807) (hm : m.size ≤ 9223372036854775807) (w : World) (h : UW w aT aQ) :
    Calls Tryd.prog 3 #[.string s, .string m] w fun e w' => e = .returned (.bool true) ∧ Below w.heap.size w w' := by
  have H0 := Lib.hid (utf_shown w h)
  have HU := Lib.hid (fun (w' : World) (hw : Below w.heap.size w w') => h.below hw)
  have hcs := utf_cut s hs
  have hcm := utf_cut m hm
  have hsz := cut_size s
  have hmz := cut_size m
  generalize s.extract 0 (min (s.size : Int) 400).toNat = s1 at hcs hsz
  generalize m.extract 0 (min (m.size : Int) 400).toNat = m1 at hcm hmz
  have HC := Lib.hid hcs
  have HM := Lib.hid hcm
  have HV := Lib.hid (fun (w : World) (h : UW w aT aQ) => utf_Right s1 (by omega) w h)
  have HX2 := Lib.hid (fun (w : World) (h : UW w aT aQ) => utf_Unquote s1 w h (by omega))
  clear h hs hm hcs hcm
  cases hv : Lib.validD s1.data.toList with
  | true =>
    have HQ := Lib.hid (fun (w : World) (h : UW w aT aQ) => utf_Quote_yes s1 w h (by omega) hv)
    have hql := quoteL_len s1.data.toList
    have hqq := unquote_quote hv m1.data.toList
    rw [show s1.data.toList.length = s1.size by simp] at hql
    obtain ⟨q, hq⟩ : ∃ q : ByteArray, (⟨(quoteL s1.data.toList).toArray⟩ : ByteArray) = q := ⟨_, rfl⟩
    rw [hq] at HQ
    have hqe : q.data.toList = quoteL s1.data.toList := by rw [← hq]
    have hqz : q.size ≤ 2402 := by
      have := congrArg List.length hqe
      simp only [Array.length_toList] at this
      have e : q.data.size = q.size := rfl
      omega
    have hcat : (q ++ m1).size ≤ 1000000000 := by rw [cat_size]; omega
    have hun : unquoteL (q ++ m1).data.toList = .ok (s1.data.toList, m1.data.toList) := by
      rw [cat_list, hqe]
      exact hqq
    have HX1 := Lib.hid (show ∀ (w : World), UW w aT aQ → Calls Tryd.prog 11 #[.string (q ++ m1)] w fun e w' => e = .returned (.tuple #[.string s1, .string m1, .int .i64 0]) ∧ Below w.heap.size w w' from fun w h =>
      (utf_Unquote (q ++ m1) w h hcat).mono fun e w' hu => by
        obtain ⟨h1, h2⟩ := hu
        rw [hun] at h2
        have h3 : e = .returned (.tuple #[.string ⟨s1.data.toList.toArray⟩, .string ⟨m1.data.toList.toArray⟩, .int .i64 0]) := h2
        rw [str_back, str_back] at h3
        exact ⟨h3, h1⟩)
    have hzz : q.size + m1.size ≤ 9223372036854775807 := by omega
    have HV : Hid (∀ (w : World), UW w aT aQ → Calls Tryd.prog 12 #[.string s1] w fun e w' => e = .returned (.bool true) ∧ Below w.heap.size w w') := Lib.hid (fun w h => by
      have := HV.out w h
      rw [hv] at this
      exact this)
    clear hql hqq hq hqe hqz hcat hun hv
    cases hu2 : unquoteL s1.data.toList with
    | error b =>
      cases b with
      | true =>
        have HX2 : Hid (∀ (w : World), UW w aT aQ → Calls Tryd.prog 11 #[.string s1] w fun e w' => e = .returned (.tuple #[.string ⟨#[]⟩, .string s1, .int .i64 20]) ∧ Below w.heap.size w w') := Lib.hid (fun w h => (HX2.out w h).mono fun e w' hu => by
          obtain ⟨h1, h2⟩ := hu
          rw [hu2] at h2
          exact ⟨h2, h1⟩)
        clear hu2
        clear hsz hmz
        go_enter Tryd.func3, Tryd.ntmps3
        go_wp2_with fail
        refine H0.out.mono ?_
        rintro e w1 ⟨rfl, hb1⟩
        go_wp2_with fail
        with_reducible refine (HC.out _).mono ?_
        rintro e w1' ⟨rfl, hw⟩
        obtain rfl : w1 = w1' := hw
        go_wp2_with fail
        with_reducible refine (HQ.out w1 (HU.out _ hb1)).mono ?_
        rintro e w2 ⟨rfl, hc⟩
        have hb2 := hb1.trans (hc.mono hb1.size)
        clear hc
        go_wp2_with fail
        with_reducible refine (HM.out _).mono ?_
        rintro e w2' ⟨rfl, hw⟩
        obtain rfl : w2 = w2' := hw
        go_wp2_with fail
        with_reducible refine (HX1.out w2 (HU.out _ hb2)).mono ?_
        rintro e w3 ⟨rfl, hc⟩
        have hb3 := hb2.trans (hc.mono hb2.size)
        clear hc
        go_wp2_with fail
        with_reducible refine (HC.out _).mono ?_
        rintro e w3' ⟨rfl, hw⟩
        obtain rfl : w3 = w3' := hw
        go_wp2_with fail
        with_reducible refine (HM.out _).mono ?_
        rintro e w3' ⟨rfl, hw⟩
        obtain rfl : w3 = w3' := hw
        go_wp2_with fail
        with_reducible refine (HC.out _).mono ?_
        rintro e w3' ⟨rfl, hw⟩
        obtain rfl : w3 = w3' := hw
        go_wp2_with fail
        with_reducible refine (HX2.out w3 (HU.out _ hb3)).mono ?_
        rintro e w4 ⟨rfl, hc⟩
        have hb4 := hb3.trans (hc.mono hb3.size)
        clear hc
        go_wp2_with fail
        with_reducible refine (HC.out _).mono ?_
        rintro e w4' ⟨rfl, hw⟩
        obtain rfl : w4 = w4' := hw
        go_wp2_with fail
        with_reducible refine (HV.out w4 (HU.out _ hb4)).mono ?_
        rintro e w5 ⟨rfl, hc⟩
        have hb5 := hb4.trans (hc.mono hb4.size)
        clear hc
        go_wp2_with fail
        with_reducible refine (HC.out _).mono ?_
        rintro e w5' ⟨rfl, hw⟩
        obtain rfl : w5 = w5' := hw
        go_wp2_with fail
        go_ret
        exact ⟨by simp, hb5⟩
      | false =>
        have HX2 : Hid (∀ (w : World), UW w aT aQ → Calls Tryd.prog 11 #[.string s1] w fun e w' => e = .returned (.tuple #[.string ⟨#[]⟩, .string s1, .int .i64 21]) ∧ Below w.heap.size w w') := Lib.hid (fun w h => (HX2.out w h).mono fun e w' hu => by
          obtain ⟨h1, h2⟩ := hu
          rw [hu2] at h2
          exact ⟨h2, h1⟩)
        clear hu2
        clear hsz hmz
        go_enter Tryd.func3, Tryd.ntmps3
        go_wp2_with fail
        refine H0.out.mono ?_
        rintro e w1 ⟨rfl, hb1⟩
        go_wp2_with fail
        with_reducible refine (HC.out _).mono ?_
        rintro e w1' ⟨rfl, hw⟩
        obtain rfl : w1 = w1' := hw
        go_wp2_with fail
        with_reducible refine (HQ.out w1 (HU.out _ hb1)).mono ?_
        rintro e w2 ⟨rfl, hc⟩
        have hb2 := hb1.trans (hc.mono hb1.size)
        clear hc
        go_wp2_with fail
        with_reducible refine (HM.out _).mono ?_
        rintro e w2' ⟨rfl, hw⟩
        obtain rfl : w2 = w2' := hw
        go_wp2_with fail
        with_reducible refine (HX1.out w2 (HU.out _ hb2)).mono ?_
        rintro e w3 ⟨rfl, hc⟩
        have hb3 := hb2.trans (hc.mono hb2.size)
        clear hc
        go_wp2_with fail
        with_reducible refine (HC.out _).mono ?_
        rintro e w3' ⟨rfl, hw⟩
        obtain rfl : w3 = w3' := hw
        go_wp2_with fail
        with_reducible refine (HM.out _).mono ?_
        rintro e w3' ⟨rfl, hw⟩
        obtain rfl : w3 = w3' := hw
        go_wp2_with fail
        with_reducible refine (HC.out _).mono ?_
        rintro e w3' ⟨rfl, hw⟩
        obtain rfl : w3 = w3' := hw
        go_wp2_with fail
        with_reducible refine (HX2.out w3 (HU.out _ hb3)).mono ?_
        rintro e w4 ⟨rfl, hc⟩
        have hb4 := hb3.trans (hc.mono hb3.size)
        clear hc
        go_wp2_with fail
        with_reducible refine (HC.out _).mono ?_
        rintro e w4' ⟨rfl, hw⟩
        obtain rfl : w4 = w4' := hw
        go_wp2_with fail
        with_reducible refine (HV.out w4 (HU.out _ hb4)).mono ?_
        rintro e w5 ⟨rfl, hc⟩
        have hb5 := hb4.trans (hc.mono hb4.size)
        clear hc
        go_wp2_with fail
        with_reducible refine (HC.out _).mono ?_
        rintro e w5' ⟨rfl, hw⟩
        obtain rfl : w5 = w5' := hw
        go_wp2_with fail
        go_ret
        exact ⟨by simp, hb5⟩
    | ok p =>
      obtain ⟨t, r⟩ := p
      obtain ⟨ht, hr⟩ := unquoteL_text hu2
      obtain ⟨x, hx⟩ : ∃ x : ByteArray, (⟨t.toArray⟩ : ByteArray) = x := ⟨_, rfl⟩
      obtain ⟨y, hy⟩ : ∃ y : ByteArray, (⟨r.toArray⟩ : ByteArray) = y := ⟨_, rfl⟩
      have hxv : Lib.validD x.data.toList = true := by rw [← hx]; exact ht
      have hyz : (y.size : Int) < s1.size := by
        have e1 : y.data.toList.length = r.length := by rw [← hy]
        have e2 : y.data.toList.length = y.size := by simp
        have e3 : s1.data.toList.length = s1.size := by simp
        omega
      have hxs : x.size ≤ 9223372036854775807 := by
        have e0 := unquoteL_len hu2
        have e1 : x.data.toList.length = t.length := by rw [← hx]
        have e2 : x.data.toList.length = x.size := by simp
        have e3 : s1.data.toList.length = s1.size := by simp
        omega
      have HR2 : Hid (∀ (w : World), UW w aT aQ → Calls Tryd.prog 12 #[.string x] w fun e w' => e = .returned (.bool true) ∧ Below w.heap.size w w') := Lib.hid (fun w h => by
        have := utf_Right x hxs w h
        rw [hxv] at this
        exact this)
      have HX2 : Hid (∀ (w : World), UW w aT aQ → Calls Tryd.prog 11 #[.string s1] w fun e w' => e = .returned (.tuple #[.string x, .string y, .int .i64 0]) ∧ Below w.heap.size w w') := Lib.hid (fun w h => (HX2.out w h).mono fun e w' hu => by
        obtain ⟨h1, h2⟩ := hu
        rw [hu2] at h2
        have h3 : e = .returned (.tuple #[.string ⟨t.toArray⟩, .string ⟨r.toArray⟩, .int .i64 0]) := h2
        rw [hx, hy] at h3
        exact ⟨h3, h1⟩)
      clear hu2 ht hr hx hy hxv hxs
      clear hsz hmz
      go_enter Tryd.func3, Tryd.ntmps3
      go_wp2_with fail
      refine H0.out.mono ?_
      rintro e w1 ⟨rfl, hb1⟩
      go_wp2_with fail
      with_reducible refine (HC.out _).mono ?_
      rintro e w1' ⟨rfl, hw⟩
      obtain rfl : w1 = w1' := hw
      go_wp2_with fail
      with_reducible refine (HQ.out w1 (HU.out _ hb1)).mono ?_
      rintro e w2 ⟨rfl, hc⟩
      have hb2 := hb1.trans (hc.mono hb1.size)
      clear hc
      go_wp2_with fail
      with_reducible refine (HM.out _).mono ?_
      rintro e w2' ⟨rfl, hw⟩
      obtain rfl : w2 = w2' := hw
      go_wp2_with fail
      with_reducible refine (HX1.out w2 (HU.out _ hb2)).mono ?_
      rintro e w3 ⟨rfl, hc⟩
      have hb3 := hb2.trans (hc.mono hb2.size)
      clear hc
      go_wp2_with fail
      with_reducible refine (HC.out _).mono ?_
      rintro e w3' ⟨rfl, hw⟩
      obtain rfl : w3 = w3' := hw
      go_wp2_with fail
      with_reducible refine (HM.out _).mono ?_
      rintro e w3' ⟨rfl, hw⟩
      obtain rfl : w3 = w3' := hw
      go_wp2_with fail
      with_reducible refine (HC.out _).mono ?_
      rintro e w3' ⟨rfl, hw⟩
      obtain rfl : w3 = w3' := hw
      go_wp2_with fail
      with_reducible refine (HX2.out w3 (HU.out _ hb3)).mono ?_
      rintro e w4 ⟨rfl, hc⟩
      have hb4 := hb3.trans (hc.mono hb3.size)
      clear hc
      go_wp2_with fail
      with_reducible refine (HC.out _).mono ?_
      rintro e w4' ⟨rfl, hw⟩
      obtain rfl : w4 = w4' := hw
      go_wp2_with fail
      with_reducible refine (HV.out w4 (HU.out _ hb4)).mono ?_
      rintro e w5 ⟨rfl, hc⟩
      have hb5 := hb4.trans (hc.mono hb4.size)
      clear hc
      go_wp2_with fail
      with_reducible refine (HR2.out w5 (HU.out _ hb5)).mono ?_
      rintro e w6 ⟨rfl, hc⟩
      have hb6 := hb5.trans (hc.mono hb5.size)
      clear hc
      go_wp2_with fail
      with_reducible refine (HC.out _).mono ?_
      rintro e w6' ⟨rfl, hw⟩
      obtain rfl : w6 = w6' := hw
      go_wp2_with fail
      go_ret
      exact ⟨by simp, hb6⟩
  | false =>
    have HQ := Lib.hid (fun (w : World) (h : UW w aT aQ) => utf_Quote_no s1 w h (by omega) hv)
    have hcat : ((⟨#[]⟩ : ByteArray) ++ m1).size ≤ 1000000000 := by rw [cat_size, show (⟨#[]⟩ : ByteArray).size = 0 from rfl]; omega
    obtain ⟨em, hem⟩ : ∃ em : ByteArray, (⟨#[]⟩ : ByteArray) ++ m1 = em := ⟨_, rfl⟩
    rw [hem] at hcat
    have HEM := Lib.hid hem
    have HX1 := Lib.hid (show ∀ (w : World), UW w aT aQ → Calls Tryd.prog 11 #[.string em] w fun e w' => (∃ (x y : ByteArray) (z : Int), e = .returned (.tuple #[.string x, .string y, .int .i64 z])) ∧ Below w.heap.size w w' from fun w h =>
      (utf_Unquote em w h hcat).mono fun e w' hu => ⟨unq_any hu, hu.1⟩)
    have hzz : m1.size ≤ 9223372036854775807 := by omega
    have HV : Hid (∀ (w : World), UW w aT aQ → Calls Tryd.prog 12 #[.string s1] w fun e w' => e = .returned (.bool false) ∧ Below w.heap.size w w') := Lib.hid (fun w h => by
      have := HV.out w h
      rw [hv] at this
      exact this)
    clear hcat hv hem
    cases hu2 : unquoteL s1.data.toList with
    | error b =>
      cases b with
      | true =>
        have HX2 : Hid (∀ (w : World), UW w aT aQ → Calls Tryd.prog 11 #[.string s1] w fun e w' => e = .returned (.tuple #[.string ⟨#[]⟩, .string s1, .int .i64 20]) ∧ Below w.heap.size w w') := Lib.hid (fun w h => (HX2.out w h).mono fun e w' hu => by
          obtain ⟨h1, h2⟩ := hu
          rw [hu2] at h2
          exact ⟨h2, h1⟩)
        clear hu2
        clear hsz hmz
        go_enter Tryd.func3, Tryd.ntmps3
        go_wp2_with fail
        refine H0.out.mono ?_
        rintro e w1 ⟨rfl, hb1⟩
        go_wp2_with fail
        with_reducible refine (HC.out _).mono ?_
        rintro e w1' ⟨rfl, hw⟩
        obtain rfl : w1 = w1' := hw
        go_wp2_with fail
        with_reducible refine (HQ.out w1 (HU.out _ hb1)).mono ?_
        rintro e w2 ⟨rfl, hc⟩
        have hb2 := hb1.trans (hc.mono hb1.size)
        clear hc
        go_wp2_with fail
        with_reducible refine (HM.out _).mono ?_
        rintro e w2' ⟨rfl, hw⟩
        obtain rfl : w2 = w2' := hw
        go_wp2_with fail
        rw [HEM.out]
        with_reducible refine (HX1.out w2 (HU.out _ hb2)).mono ?_
        rintro e w3 ⟨⟨x1, y1, z1, rfl⟩, hc⟩
        have hb3 := hb2.trans (hc.mono hb2.size)
        clear hc
        go_wp2_with fail
        with_reducible refine (HC.out _).mono ?_
        rintro e w3' ⟨rfl, hw⟩
        obtain rfl : w3 = w3' := hw
        go_wp2_with fail
        with_reducible refine (HX2.out w3 (HU.out _ hb3)).mono ?_
        rintro e w4 ⟨rfl, hc⟩
        have hb4 := hb3.trans (hc.mono hb3.size)
        clear hc
        go_wp2_with fail
        with_reducible refine (HC.out _).mono ?_
        rintro e w4' ⟨rfl, hw⟩
        obtain rfl : w4 = w4' := hw
        go_wp2_with fail
        with_reducible refine (HV.out w4 (HU.out _ hb4)).mono ?_
        rintro e w5 ⟨rfl, hc⟩
        have hb5 := hb4.trans (hc.mono hb4.size)
        clear hc
        go_wp2_with fail
        with_reducible refine (HC.out _).mono ?_
        rintro e w5' ⟨rfl, hw⟩
        obtain rfl : w5 = w5' := hw
        go_wp2_with fail
        go_ret
        exact ⟨by simp, hb5⟩
      | false =>
        have HX2 : Hid (∀ (w : World), UW w aT aQ → Calls Tryd.prog 11 #[.string s1] w fun e w' => e = .returned (.tuple #[.string ⟨#[]⟩, .string s1, .int .i64 21]) ∧ Below w.heap.size w w') := Lib.hid (fun w h => (HX2.out w h).mono fun e w' hu => by
          obtain ⟨h1, h2⟩ := hu
          rw [hu2] at h2
          exact ⟨h2, h1⟩)
        clear hu2
        clear hsz hmz
        go_enter Tryd.func3, Tryd.ntmps3
        go_wp2_with fail
        refine H0.out.mono ?_
        rintro e w1 ⟨rfl, hb1⟩
        go_wp2_with fail
        with_reducible refine (HC.out _).mono ?_
        rintro e w1' ⟨rfl, hw⟩
        obtain rfl : w1 = w1' := hw
        go_wp2_with fail
        with_reducible refine (HQ.out w1 (HU.out _ hb1)).mono ?_
        rintro e w2 ⟨rfl, hc⟩
        have hb2 := hb1.trans (hc.mono hb1.size)
        clear hc
        go_wp2_with fail
        with_reducible refine (HM.out _).mono ?_
        rintro e w2' ⟨rfl, hw⟩
        obtain rfl : w2 = w2' := hw
        go_wp2_with fail
        rw [HEM.out]
        with_reducible refine (HX1.out w2 (HU.out _ hb2)).mono ?_
        rintro e w3 ⟨⟨x1, y1, z1, rfl⟩, hc⟩
        have hb3 := hb2.trans (hc.mono hb2.size)
        clear hc
        go_wp2_with fail
        with_reducible refine (HC.out _).mono ?_
        rintro e w3' ⟨rfl, hw⟩
        obtain rfl : w3 = w3' := hw
        go_wp2_with fail
        with_reducible refine (HX2.out w3 (HU.out _ hb3)).mono ?_
        rintro e w4 ⟨rfl, hc⟩
        have hb4 := hb3.trans (hc.mono hb3.size)
        clear hc
        go_wp2_with fail
        with_reducible refine (HC.out _).mono ?_
        rintro e w4' ⟨rfl, hw⟩
        obtain rfl : w4 = w4' := hw
        go_wp2_with fail
        with_reducible refine (HV.out w4 (HU.out _ hb4)).mono ?_
        rintro e w5 ⟨rfl, hc⟩
        have hb5 := hb4.trans (hc.mono hb4.size)
        clear hc
        go_wp2_with fail
        with_reducible refine (HC.out _).mono ?_
        rintro e w5' ⟨rfl, hw⟩
        obtain rfl : w5 = w5' := hw
        go_wp2_with fail
        go_ret
        exact ⟨by simp, hb5⟩
    | ok p =>
      obtain ⟨t, r⟩ := p
      obtain ⟨ht, hr⟩ := unquoteL_text hu2
      obtain ⟨x, hx⟩ : ∃ x : ByteArray, (⟨t.toArray⟩ : ByteArray) = x := ⟨_, rfl⟩
      obtain ⟨y, hy⟩ : ∃ y : ByteArray, (⟨r.toArray⟩ : ByteArray) = y := ⟨_, rfl⟩
      have hxv : Lib.validD x.data.toList = true := by rw [← hx]; exact ht
      have hyz : (y.size : Int) < s1.size := by
        have e1 : y.data.toList.length = r.length := by rw [← hy]
        have e2 : y.data.toList.length = y.size := by simp
        have e3 : s1.data.toList.length = s1.size := by simp
        omega
      have hxs : x.size ≤ 9223372036854775807 := by
        have e0 := unquoteL_len hu2
        have e1 : x.data.toList.length = t.length := by rw [← hx]
        have e2 : x.data.toList.length = x.size := by simp
        have e3 : s1.data.toList.length = s1.size := by simp
        omega
      have HR2 : Hid (∀ (w : World), UW w aT aQ → Calls Tryd.prog 12 #[.string x] w fun e w' => e = .returned (.bool true) ∧ Below w.heap.size w w') := Lib.hid (fun w h => by
        have := utf_Right x hxs w h
        rw [hxv] at this
        exact this)
      have HX2 : Hid (∀ (w : World), UW w aT aQ → Calls Tryd.prog 11 #[.string s1] w fun e w' => e = .returned (.tuple #[.string x, .string y, .int .i64 0]) ∧ Below w.heap.size w w') := Lib.hid (fun w h => (HX2.out w h).mono fun e w' hu => by
        obtain ⟨h1, h2⟩ := hu
        rw [hu2] at h2
        have h3 : e = .returned (.tuple #[.string ⟨t.toArray⟩, .string ⟨r.toArray⟩, .int .i64 0]) := h2
        rw [hx, hy] at h3
        exact ⟨h3, h1⟩)
      clear hu2 ht hr hx hy hxv hxs
      clear hsz hmz
      go_enter Tryd.func3, Tryd.ntmps3
      go_wp2_with fail
      refine H0.out.mono ?_
      rintro e w1 ⟨rfl, hb1⟩
      go_wp2_with fail
      with_reducible refine (HC.out _).mono ?_
      rintro e w1' ⟨rfl, hw⟩
      obtain rfl : w1 = w1' := hw
      go_wp2_with fail
      with_reducible refine (HQ.out w1 (HU.out _ hb1)).mono ?_
      rintro e w2 ⟨rfl, hc⟩
      have hb2 := hb1.trans (hc.mono hb1.size)
      clear hc
      go_wp2_with fail
      with_reducible refine (HM.out _).mono ?_
      rintro e w2' ⟨rfl, hw⟩
      obtain rfl : w2 = w2' := hw
      go_wp2_with fail
      rw [HEM.out]
      with_reducible refine (HX1.out w2 (HU.out _ hb2)).mono ?_
      rintro e w3 ⟨⟨x1, y1, z1, rfl⟩, hc⟩
      have hb3 := hb2.trans (hc.mono hb2.size)
      clear hc
      go_wp2_with fail
      with_reducible refine (HC.out _).mono ?_
      rintro e w3' ⟨rfl, hw⟩
      obtain rfl : w3 = w3' := hw
      go_wp2_with fail
      with_reducible refine (HX2.out w3 (HU.out _ hb3)).mono ?_
      rintro e w4 ⟨rfl, hc⟩
      have hb4 := hb3.trans (hc.mono hb3.size)
      clear hc
      go_wp2_with fail
      with_reducible refine (HC.out _).mono ?_
      rintro e w4' ⟨rfl, hw⟩
      obtain rfl : w4 = w4' := hw
      go_wp2_with fail
      with_reducible refine (HV.out w4 (HU.out _ hb4)).mono ?_
      rintro e w5 ⟨rfl, hc⟩
      have hb5 := hb4.trans (hc.mono hb4.size)
      clear hc
      go_wp2_with fail
      with_reducible refine (HR2.out w5 (HU.out _ hb5)).mono ?_
      rintro e w6 ⟨rfl, hc⟩
      have hb6 := hb5.trans (hc.mono hb5.size)
      clear hc
      go_wp2_with fail
      with_reducible refine (HC.out _).mono ?_
      rintro e w6' ⟨rfl, hw⟩
      obtain rfl : w6 = w6' := hw
      go_wp2_with fail
      go_ret
      exact ⟨by simp, hb6⟩
end Go.Proofs.YtanccdmlddgnaaaDoor
