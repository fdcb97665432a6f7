/- The walk of the law UtfEscapes. -/
import Derived.Test.YtanccdmlddgnaaaDoorUtfX
namespace Go.Proofs.YtanccdmlddgnaaaDoor
open Go.RowKit Go.Shelf

theorem str_of_list {s : ByteArray} {l : List UInt8} (h : s.data.toList = l) : s = ⟨l.toArray⟩ := str_ext (by rw [h])

set_option maxHeartbeats 2000000 in
set_option maxRecDepth 100000 in
theorem escapes_walk {aT aQ : Addr} (n : Int) (hn : 0 ≤ n ∧ n < 65536) (w : World) (h : UW w aT aQ) :
    Calls Tryd.prog 5 #[.int .u16 n] w fun e w' => e = .returned (.bool true) ∧ Below w.heap.size w w' := by
  obtain ⟨n, rfl⟩ := Int.eq_ofNat_of_zero_le hn.1
  have hn1 : n < 65536 := by omega
  have H0 := Lib.hid (utf_shown w h)
  have HU := Lib.hid (fun (w' : World) (hw : Below w.heap.size w w') => h.below hw)
  have hE := utf_escape n hn1
  obtain ⟨es, hes⟩ : ∃ es : ByteArray, (⟨([92, 117] ++ hex4 n).toArray⟩ : ByteArray) = es := ⟨_, rfl⟩
  rw [hes] at hE
  have hel : es.data.toList = [92, 117] ++ hex4 n := by rw [← hes]
  have hez : es.size ≤ 6 := by
    have := congrArg List.length hel
    simp [hex4] at this
    omega
  have HE := Lib.hid hE
  obtain ⟨str, hstr⟩ : ∃ str : ByteArray, (⟨#[34]⟩ ++ es ++ ⟨#[34, 93]⟩ : ByteArray) = str := ⟨_, rfl⟩
  have hsl : str.data.toList = [34] ++ ([92, 117] ++ hex4 n) ++ [34, 93] := by
    rw [← hstr, cat_list, cat_list, hel]
  have hsz : str.size ≤ 1000000000 := by
    have := congrArg List.length hsl
    simp [hex4] at this
    omega
  have HX := Lib.hid (fun (w : World) (h : UW w aT aQ) => utf_Unquote str w h hsz)
  have HSTR := Lib.hid hstr
  have hz1 : (n : Int) ≤ 65535 := by omega
  have hz0 : (0 : Int) ≤ n := by omega
  clear h hn hstr hsz hE hes hel
  by_cases hp : n < 55296 ∨ 57343 < n
  · have hq : unquoteL str.data.toList = .ok (Lib.encodeRune n, [93]) := by
      rw [hsl]
      exact unquote_num n hn1 hp
    have HB := Lib.hid (fun w => ref_Bytes n (by omega) (show charOk ((n : Int).toNat) by unfold charOk; omega) w)
    have HQ := Lib.hid hq
    clear hq hsl hn1
    by_cases hp1 : n < 55296
    · have z1 : (n : Int) < 55296 := by omega
      clear hp hp1
      generalize (n : Int) = m at HE HB HQ hz1 hz0 z1 ⊢
      go_enter Tryd.func5, Tryd.ntmps5
      go_wp2_with fail
      refine H0.out.mono ?_
      rintro e w1 ⟨rfl, hb1⟩
      go_wp2_with fail
      refine (HE.out w1).mono ?_
      rintro e w2 ⟨rfl, hb2⟩
      have hb3 := hb1.trans (hb2.mono hb1.size)
      clear hb1 hb2
      go_wp2_with fail
      rw [HSTR.out]
      refine (HX.out w2 (HU.out _ hb3)).mono ?_
      rintro e w3 ⟨hb4, hm⟩
      rw [HQ.out] at hm
      subst hm
      have hb5 := hb3.trans (hb4.mono hb3.size)
      clear hb3 hb4
      go_wp2_with fail
      with_reducible refine (HB.out w3).mono ?_
      rintro e w4 ⟨rfl, hb6⟩
      have hb7 := hb5.trans (hb6.mono hb5.size)
      clear hb5 hb6
      go_wp2_with fail
      go_ret
      exact ⟨rfl, hb7⟩
    · have z1 : (57343 : Int) < n := by omega
      clear hp hp1
      generalize (n : Int) = m at HE HB HQ hz1 hz0 z1 ⊢
      go_enter Tryd.func5, Tryd.ntmps5
      go_wp2_with fail
      refine H0.out.mono ?_
      rintro e w1 ⟨rfl, hb1⟩
      go_wp2_with fail
      refine (HE.out w1).mono ?_
      rintro e w2 ⟨rfl, hb2⟩
      have hb3 := hb1.trans (hb2.mono hb1.size)
      clear hb1 hb2
      go_wp2_with fail
      rw [HSTR.out]
      refine (HX.out w2 (HU.out _ hb3)).mono ?_
      rintro e w3 ⟨hb4, hm⟩
      rw [HQ.out] at hm
      subst hm
      have hb5 := hb3.trans (hb4.mono hb3.size)
      clear hb3 hb4
      go_wp2_with fail
      with_reducible refine (HB.out w3).mono ?_
      rintro e w4 ⟨rfl, hb6⟩
      have hb7 := hb5.trans (hb6.mono hb5.size)
      clear hb5 hb6
      go_wp2_with fail
      go_ret
      exact ⟨rfl, hb7⟩
  · have hq : unquoteL str.data.toList = .error false := by
      rw [hsl]
      exact unquote_half n hn1 hp
    have HQ := Lib.hid hq
    have z1 : (55296 : Int) ≤ n := by omega
    have z2 : (n : Int) ≤ 57343 := by omega
    clear hq hsl hn1 hp
    generalize (n : Int) = m at HE hz1 hz0 z1 z2 ⊢
    go_enter Tryd.func5, Tryd.ntmps5
    go_wp2_with fail
    refine H0.out.mono ?_
    rintro e w1 ⟨rfl, hb1⟩
    go_wp2_with fail
    refine (HE.out w1).mono ?_
    rintro e w2 ⟨rfl, hb2⟩
    have hb3 := hb1.trans (hb2.mono hb1.size)
    clear hb1 hb2
    go_wp2_with fail
    rw [HSTR.out]
    refine (HX.out w2 (HU.out _ hb3)).mono ?_
    rintro e w3 ⟨hb4, hm⟩
    rw [HQ.out] at hm
    subst hm
    have hb5 := hb3.trans (hb4.mono hb3.size)
    clear hb3 hb4
    go_wp2_with fail
    go_ret
    exact ⟨rfl, hb5⟩
end Go.Proofs.YtanccdmlddgnaaaDoor
