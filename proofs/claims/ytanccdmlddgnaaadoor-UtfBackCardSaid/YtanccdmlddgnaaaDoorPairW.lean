/- The walk of the law UtfPairs. -/
import Derived.Test.YtanccdmlddgnaaaDoorPairP
namespace Go.Proofs.YtanccdmlddgnaaaDoor
open Go.RowKit Go.Shelf

/-- What Unquote hands back, whatever it is. -/
theorem unq_any {str : ByteArray} {w : World} {e : Ending} {w' : World} (h : UnqPost str w e w') : ∃ (x y : ByteArray) (z : Int), e = .returned (.tuple #[.string x, .string y, .int .i64 z]) := by
  obtain ⟨_, h⟩ := h
  cases hq : unquoteL str.data.toList with
  | error b =>
    rw [hq] at h
    exact ⟨_, _, _, h⟩
  | ok q =>
    obtain ⟨t, r⟩ := q
    rw [hq] at h
    exact ⟨_, _, _, h⟩

set_option maxHeartbeats 4000000 in
set_option maxRecDepth 100000 in
theorem pairs_walk {aT aQ : Addr} (r hi lo : Int) (hr : -2147483648 ≤ r ∧ r < 2147483648) (hh : 0 ≤ hi ∧ hi < 65536) (hl : 0 ≤ lo ∧ lo < 65536) (w : World) (h : UW w aT aQ) :
    Calls Tryd.prog 7 #[.int .i32 r, .int .u16 hi, .int .u16 lo] w fun e w' => e = .returned (.bool true) ∧ Below w.heap.size w w' := by
  have H0 := Lib.hid (utf_shown w h)
  have HU := Lib.hid (fun (w' : World) (hw : Below w.heap.size w w') => h.below hw)
  have hE1 := utf_escape hi.toNat (by omega)
  have hE2 := utf_escape lo.toNat (by omega)
  rw [Int.toNat_of_nonneg hh.1] at hE1
  rw [Int.toNat_of_nonneg hl.1] at hE2
  obtain ⟨e1, he1⟩ : ∃ es : ByteArray, (⟨([92, 117] ++ hex4 hi.toNat).toArray⟩ : ByteArray) = es := ⟨_, rfl⟩
  obtain ⟨e2, he2⟩ : ∃ es : ByteArray, (⟨([92, 117] ++ hex4 lo.toNat).toArray⟩ : ByteArray) = es := ⟨_, rfl⟩
  rw [he1] at hE1
  rw [he2] at hE2
  have hel1 : e1.data.toList = [92, 117] ++ hex4 hi.toNat := by rw [← he1]
  have hel2 : e2.data.toList = [92, 117] ++ hex4 lo.toNat := by rw [← he2]
  have hez1 : e1.size ≤ 6 := by
    have := congrArg List.length hel1
    simp [hex4] at this
    omega
  have hez2 : e2.size ≤ 6 := by
    have := congrArg List.length hel2
    simp [hex4] at this
    omega
  have HE1 := Lib.hid hE1
  have HE2 := Lib.hid hE2
  obtain ⟨str, hstr⟩ : ∃ str : ByteArray, (⟨#[34]⟩ ++ e1 ++ e2 ++ ⟨#[34]⟩ : ByteArray) = str := ⟨_, rfl⟩
  have hsl : str.data.toList = [34] ++ ([92, 117] ++ hex4 hi.toNat) ++ ([92, 117] ++ hex4 lo.toNat) ++ [34] := by
    rw [← hstr, cat_list, cat_list, cat_list, hel1, hel2]
  have hsz : str.size ≤ 1000000000 := by
    have := congrArg List.length hsl
    simp [hex4] at this
    omega
  have HX := Lib.hid (fun (w : World) (h : UW w aT aQ) => utf_Unquote str w h hsz)
  have HSTR := Lib.hid hstr
  have H1 := utf_Halves r hr
  have H3 := utf_Pair hi lo hh hl
  clear h hsz hstr hE1 hE2 he1 he2 hel1 hel2
  by_cases h1 : 65536 ≤ r ∧ r ≤ 1114111
  · skip
    by_cases hp : pairOk hi lo = true
    · skip
      obtain ⟨g1, g2, g3, g4, g5⟩ := half_pair h1
      have H2 := utf_Pair (halfHi r) (halfLo r) g4 g5
      rw [g1] at H1
      rw [g2, g3] at H2
      obtain ⟨z1, z2⟩ := h1
      clear g1 g2 g3 g4 g5
      generalize halfHi r = a at H1 H2
      generalize halfLo r = b at H1 H2
      obtain ⟨k1, k2, k3⟩ := pair_half hp
      have H4 := utf_Halves (pairOf hi lo) (by have := pair_range hp; omega)
      have hd := pair_range hp
      rw [hp] at H3
      rw [k1, k2, k3] at H4
      have hq : unquoteL str.data.toList = .ok (Lib.encodeRune (pairOf hi lo), []) := by
        rw [hsl]
        have := unquote_pair hi.toNat lo.toNat (by omega) (by omega) (by rw [Int.toNat_of_nonneg hh.1, Int.toNat_of_nonneg hl.1]; exact hp)
        rw [Int.toNat_of_nonneg hh.1, Int.toNat_of_nonneg hl.1] at this
        exact this
      have hB := ref_Bytes (pairOf hi lo) (by omega) (by unfold charOk; omega)
      generalize pairOf hi lo = d at H3 H4 hq hB hd
      obtain ⟨d1, d2⟩ := hd
      have HQ := Lib.hid hq
      have HB := Lib.hid hB
      clear hq hB k1 k2 k3 hp
      have H1 := Lib.hid H1
      have H2 := Lib.hid H2
      have H3 := Lib.hid H3
      have H4 := Lib.hid H4
      have zz1 := hr.1
      have zz2 := hr.2
      have zz3 := hh.1
      have zz4 := hh.2
      have zz5 := hl.1
      have zz6 := hl.2
      clear hr hh hl hsl
      go_enter Tryd.func7, Tryd.ntmps7
      go_wp2_with fail
      refine H0.out.mono ?_
      rintro e w1 ⟨rfl, hb1⟩
      go_wp2_with fail
      with_reducible refine (H1.out w1).mono ?_
      rintro e w1' ⟨rfl, rfl⟩
      go_wp2_with fail
      with_reducible refine (H2.out _).mono ?_
      rintro e w1' ⟨rfl, rfl⟩
      go_wp2_with fail
      with_reducible refine (H3.out _).mono ?_
      rintro e w1' ⟨rfl, rfl⟩
      go_wp2_with fail
      with_reducible refine (H4.out _).mono ?_
      rintro e w1' ⟨rfl, rfl⟩
      go_wp2_with fail
      with_reducible refine (HE1.out _).mono ?_
      rintro e w2 ⟨rfl, hb2⟩
      have hb3 := hb1.trans (hb2.mono hb1.size)
      clear hb1 hb2
      go_wp2_with fail
      with_reducible refine (HE2.out _).mono ?_
      rintro e w3 ⟨rfl, hb4⟩
      have hb5 := hb3.trans (hb4.mono hb3.size)
      clear hb3 hb4
      go_wp2_with fail
      rw [HSTR.out]
      refine (HX.out w3 (HU.out _ hb5)).mono ?_
      rintro e w4 ⟨hb6, hm⟩
      rw [HQ.out] at hm
      subst hm
      have hb7 := hb5.trans (hb6.mono hb5.size)
      clear hb5 hb6
      go_wp2_with fail
      with_reducible refine (HB.out _).mono ?_
      rintro e w5 ⟨rfl, hb8⟩
      have hb9 := hb7.trans (hb8.mono hb7.size)
      clear hb7 hb8
      go_wp2_with fail
      go_ret
      exact ⟨rfl, hb9⟩
    · skip
      obtain ⟨g1, g2, g3, g4, g5⟩ := half_pair h1
      have H2 := utf_Pair (halfHi r) (halfLo r) g4 g5
      rw [g1] at H1
      rw [g2, g3] at H2
      obtain ⟨z1, z2⟩ := h1
      clear g1 g2 g3 g4 g5
      generalize halfHi r = a at H1 H2
      generalize halfLo r = b at H1 H2
      have hp : pairOk hi lo = false := by simpa using hp
      have H4 := utf_Halves 0 (by decide)
      rw [hp, pair_none hp] at H3
      rw [show halfOk 0 = false from by decide, show halfHi 0 = 0 from by decide, show halfLo 0 = 0 from by decide] at H4
      clear hp
      have H1 := Lib.hid H1
      have H2 := Lib.hid H2
      have H3 := Lib.hid H3
      have H4 := Lib.hid H4
      have zz1 := hr.1
      have zz2 := hr.2
      have zz3 := hh.1
      have zz4 := hh.2
      have zz5 := hl.1
      have zz6 := hl.2
      clear hr hh hl hsl
      go_enter Tryd.func7, Tryd.ntmps7
      go_wp2_with fail
      refine H0.out.mono ?_
      rintro e w1 ⟨rfl, hb1⟩
      go_wp2_with fail
      with_reducible refine (H1.out w1).mono ?_
      rintro e w1' ⟨rfl, rfl⟩
      go_wp2_with fail
      with_reducible refine (H2.out _).mono ?_
      rintro e w1' ⟨rfl, rfl⟩
      go_wp2_with fail
      with_reducible refine (H3.out _).mono ?_
      rintro e w1' ⟨rfl, rfl⟩
      go_wp2_with fail
      with_reducible refine (H4.out _).mono ?_
      rintro e w1' ⟨rfl, rfl⟩
      go_wp2_with fail
      with_reducible refine (HE1.out _).mono ?_
      rintro e w2 ⟨rfl, hb2⟩
      have hb3 := hb1.trans (hb2.mono hb1.size)
      clear hb1 hb2
      go_wp2_with fail
      with_reducible refine (HE2.out _).mono ?_
      rintro e w3 ⟨rfl, hb4⟩
      have hb5 := hb3.trans (hb4.mono hb3.size)
      clear hb3 hb4
      go_wp2_with fail
      rw [HSTR.out]
      refine (HX.out w3 (HU.out _ hb5)).mono ?_
      rintro e w4 hu
      have hb7 := hb5.trans (hu.1.mono hb5.size)
      obtain ⟨x, y, z, rfl⟩ := unq_any hu
      clear hb5 hu
      go_wp2_with fail
      go_ret
      exact ⟨rfl, hb7⟩
  · by_cases h1 : r < 65536
    · skip
      by_cases hp : pairOk hi lo = true
      · skip
        obtain ⟨g1, g2, g3⟩ := half_none (.inl h1)
        have H2 := utf_Pair 0 0 (by decide) (by decide)
        rw [g1, g2, g3] at H1
        rw [show pairOk 0 0 = false from by decide, show pairOf 0 0 = 0 from by decide] at H2
        have z1 : r < 65536 := h1
        clear g1 g2 g3 h1
        obtain ⟨k1, k2, k3⟩ := pair_half hp
        have H4 := utf_Halves (pairOf hi lo) (by have := pair_range hp; omega)
        have hd := pair_range hp
        rw [hp] at H3
        rw [k1, k2, k3] at H4
        have hq : unquoteL str.data.toList = .ok (Lib.encodeRune (pairOf hi lo), []) := by
          rw [hsl]
          have := unquote_pair hi.toNat lo.toNat (by omega) (by omega) (by rw [Int.toNat_of_nonneg hh.1, Int.toNat_of_nonneg hl.1]; exact hp)
          rw [Int.toNat_of_nonneg hh.1, Int.toNat_of_nonneg hl.1] at this
          exact this
        have hB := ref_Bytes (pairOf hi lo) (by omega) (by unfold charOk; omega)
        generalize pairOf hi lo = d at H3 H4 hq hB hd
        obtain ⟨d1, d2⟩ := hd
        have HQ := Lib.hid hq
        have HB := Lib.hid hB
        clear hq hB k1 k2 k3 hp
        have H1 := Lib.hid H1
        have H2 := Lib.hid H2
        have H3 := Lib.hid H3
        have H4 := Lib.hid H4
        have zz1 := hr.1
        have zz2 := hr.2
        have zz3 := hh.1
        have zz4 := hh.2
        have zz5 := hl.1
        have zz6 := hl.2
        clear hr hh hl hsl
        go_enter Tryd.func7, Tryd.ntmps7
        go_wp2_with fail
        refine H0.out.mono ?_
        rintro e w1 ⟨rfl, hb1⟩
        go_wp2_with fail
        with_reducible refine (H1.out w1).mono ?_
        rintro e w1' ⟨rfl, rfl⟩
        go_wp2_with fail
        with_reducible refine (H2.out _).mono ?_
        rintro e w1' ⟨rfl, rfl⟩
        go_wp2_with fail
        with_reducible refine (H3.out _).mono ?_
        rintro e w1' ⟨rfl, rfl⟩
        go_wp2_with fail
        with_reducible refine (H4.out _).mono ?_
        rintro e w1' ⟨rfl, rfl⟩
        go_wp2_with fail
        with_reducible refine (HE1.out _).mono ?_
        rintro e w2 ⟨rfl, hb2⟩
        have hb3 := hb1.trans (hb2.mono hb1.size)
        clear hb1 hb2
        go_wp2_with fail
        with_reducible refine (HE2.out _).mono ?_
        rintro e w3 ⟨rfl, hb4⟩
        have hb5 := hb3.trans (hb4.mono hb3.size)
        clear hb3 hb4
        go_wp2_with fail
        rw [HSTR.out]
        refine (HX.out w3 (HU.out _ hb5)).mono ?_
        rintro e w4 ⟨hb6, hm⟩
        rw [HQ.out] at hm
        subst hm
        have hb7 := hb5.trans (hb6.mono hb5.size)
        clear hb5 hb6
        go_wp2_with fail
        with_reducible refine (HB.out _).mono ?_
        rintro e w5 ⟨rfl, hb8⟩
        have hb9 := hb7.trans (hb8.mono hb7.size)
        clear hb7 hb8
        go_wp2_with fail
        go_ret
        exact ⟨rfl, hb9⟩
      · skip
        obtain ⟨g1, g2, g3⟩ := half_none (.inl h1)
        have H2 := utf_Pair 0 0 (by decide) (by decide)
        rw [g1, g2, g3] at H1
        rw [show pairOk 0 0 = false from by decide, show pairOf 0 0 = 0 from by decide] at H2
        have z1 : r < 65536 := h1
        clear g1 g2 g3 h1
        have hp : pairOk hi lo = false := by simpa using hp
        have H4 := utf_Halves 0 (by decide)
        rw [hp, pair_none hp] at H3
        rw [show halfOk 0 = false from by decide, show halfHi 0 = 0 from by decide, show halfLo 0 = 0 from by decide] at H4
        clear hp
        have H1 := Lib.hid H1
        have H2 := Lib.hid H2
        have H3 := Lib.hid H3
        have H4 := Lib.hid H4
        have zz1 := hr.1
        have zz2 := hr.2
        have zz3 := hh.1
        have zz4 := hh.2
        have zz5 := hl.1
        have zz6 := hl.2
        clear hr hh hl hsl
        go_enter Tryd.func7, Tryd.ntmps7
        go_wp2_with fail
        refine H0.out.mono ?_
        rintro e w1 ⟨rfl, hb1⟩
        go_wp2_with fail
        with_reducible refine (H1.out w1).mono ?_
        rintro e w1' ⟨rfl, rfl⟩
        go_wp2_with fail
        with_reducible refine (H2.out _).mono ?_
        rintro e w1' ⟨rfl, rfl⟩
        go_wp2_with fail
        with_reducible refine (H3.out _).mono ?_
        rintro e w1' ⟨rfl, rfl⟩
        go_wp2_with fail
        with_reducible refine (H4.out _).mono ?_
        rintro e w1' ⟨rfl, rfl⟩
        go_wp2_with fail
        with_reducible refine (HE1.out _).mono ?_
        rintro e w2 ⟨rfl, hb2⟩
        have hb3 := hb1.trans (hb2.mono hb1.size)
        clear hb1 hb2
        go_wp2_with fail
        with_reducible refine (HE2.out _).mono ?_
        rintro e w3 ⟨rfl, hb4⟩
        have hb5 := hb3.trans (hb4.mono hb3.size)
        clear hb3 hb4
        go_wp2_with fail
        rw [HSTR.out]
        refine (HX.out w3 (HU.out _ hb5)).mono ?_
        rintro e w4 hu
        have hb7 := hb5.trans (hu.1.mono hb5.size)
        obtain ⟨x, y, z, rfl⟩ := unq_any hu
        clear hb5 hu
        go_wp2_with fail
        go_ret
        exact ⟨rfl, hb7⟩
    · have h1 : 1114111 < r := by omega
      by_cases hp : pairOk hi lo = true
      · skip
        obtain ⟨g1, g2, g3⟩ := half_none (.inr h1)
        have H2 := utf_Pair 0 0 (by decide) (by decide)
        rw [g1, g2, g3] at H1
        rw [show pairOk 0 0 = false from by decide, show pairOf 0 0 = 0 from by decide] at H2
        have z1 : 65536 ≤ r := by omega
        have z2 : 1114111 < r := h1
        clear g1 g2 g3 h1
        obtain ⟨k1, k2, k3⟩ := pair_half hp
        have H4 := utf_Halves (pairOf hi lo) (by have := pair_range hp; omega)
        have hd := pair_range hp
        rw [hp] at H3
        rw [k1, k2, k3] at H4
        have hq : unquoteL str.data.toList = .ok (Lib.encodeRune (pairOf hi lo), []) := by
          rw [hsl]
          have := unquote_pair hi.toNat lo.toNat (by omega) (by omega) (by rw [Int.toNat_of_nonneg hh.1, Int.toNat_of_nonneg hl.1]; exact hp)
          rw [Int.toNat_of_nonneg hh.1, Int.toNat_of_nonneg hl.1] at this
          exact this
        have hB := ref_Bytes (pairOf hi lo) (by omega) (by unfold charOk; omega)
        generalize pairOf hi lo = d at H3 H4 hq hB hd
        obtain ⟨d1, d2⟩ := hd
        have HQ := Lib.hid hq
        have HB := Lib.hid hB
        clear hq hB k1 k2 k3 hp
        have H1 := Lib.hid H1
        have H2 := Lib.hid H2
        have H3 := Lib.hid H3
        have H4 := Lib.hid H4
        have zz1 := hr.1
        have zz2 := hr.2
        have zz3 := hh.1
        have zz4 := hh.2
        have zz5 := hl.1
        have zz6 := hl.2
        clear hr hh hl hsl
        go_enter Tryd.func7, Tryd.ntmps7
        go_wp2_with fail
        refine H0.out.mono ?_
        rintro e w1 ⟨rfl, hb1⟩
        go_wp2_with fail
        with_reducible refine (H1.out w1).mono ?_
        rintro e w1' ⟨rfl, rfl⟩
        go_wp2_with fail
        with_reducible refine (H2.out _).mono ?_
        rintro e w1' ⟨rfl, rfl⟩
        go_wp2_with fail
        with_reducible refine (H3.out _).mono ?_
        rintro e w1' ⟨rfl, rfl⟩
        go_wp2_with fail
        with_reducible refine (H4.out _).mono ?_
        rintro e w1' ⟨rfl, rfl⟩
        go_wp2_with fail
        with_reducible refine (HE1.out _).mono ?_
        rintro e w2 ⟨rfl, hb2⟩
        have hb3 := hb1.trans (hb2.mono hb1.size)
        clear hb1 hb2
        go_wp2_with fail
        with_reducible refine (HE2.out _).mono ?_
        rintro e w3 ⟨rfl, hb4⟩
        have hb5 := hb3.trans (hb4.mono hb3.size)
        clear hb3 hb4
        go_wp2_with fail
        rw [HSTR.out]
        refine (HX.out w3 (HU.out _ hb5)).mono ?_
        rintro e w4 ⟨hb6, hm⟩
        rw [HQ.out] at hm
        subst hm
        have hb7 := hb5.trans (hb6.mono hb5.size)
        clear hb5 hb6
        go_wp2_with fail
        with_reducible refine (HB.out _).mono ?_
        rintro e w5 ⟨rfl, hb8⟩
        have hb9 := hb7.trans (hb8.mono hb7.size)
        clear hb7 hb8
        go_wp2_with fail
        go_ret
        exact ⟨rfl, hb9⟩
      · skip
        obtain ⟨g1, g2, g3⟩ := half_none (.inr h1)
        have H2 := utf_Pair 0 0 (by decide) (by decide)
        rw [g1, g2, g3] at H1
        rw [show pairOk 0 0 = false from by decide, show pairOf 0 0 = 0 from by decide] at H2
        have z1 : 65536 ≤ r := by omega
        have z2 : 1114111 < r := h1
        clear g1 g2 g3 h1
        have hp : pairOk hi lo = false := by simpa using hp
        have H4 := utf_Halves 0 (by decide)
        rw [hp, pair_none hp] at H3
        rw [show halfOk 0 = false from by decide, show halfHi 0 = 0 from by decide, show halfLo 0 = 0 from by decide] at H4
        clear hp
        have H1 := Lib.hid H1
        have H2 := Lib.hid H2
        have H3 := Lib.hid H3
        have H4 := Lib.hid H4
        have zz1 := hr.1
        have zz2 := hr.2
        have zz3 := hh.1
        have zz4 := hh.2
        have zz5 := hl.1
        have zz6 := hl.2
        clear hr hh hl hsl
        go_enter Tryd.func7, Tryd.ntmps7
        go_wp2_with fail
        refine H0.out.mono ?_
        rintro e w1 ⟨rfl, hb1⟩
        go_wp2_with fail
        with_reducible refine (H1.out w1).mono ?_
        rintro e w1' ⟨rfl, rfl⟩
        go_wp2_with fail
        with_reducible refine (H2.out _).mono ?_
        rintro e w1' ⟨rfl, rfl⟩
        go_wp2_with fail
        with_reducible refine (H3.out _).mono ?_
        rintro e w1' ⟨rfl, rfl⟩
        go_wp2_with fail
        with_reducible refine (H4.out _).mono ?_
        rintro e w1' ⟨rfl, rfl⟩
        go_wp2_with fail
        with_reducible refine (HE1.out _).mono ?_
        rintro e w2 ⟨rfl, hb2⟩
        have hb3 := hb1.trans (hb2.mono hb1.size)
        clear hb1 hb2
        go_wp2_with fail
        with_reducible refine (HE2.out _).mono ?_
        rintro e w3 ⟨rfl, hb4⟩
        have hb5 := hb3.trans (hb4.mono hb3.size)
        clear hb3 hb4
        go_wp2_with fail
        rw [HSTR.out]
        refine (HX.out w3 (HU.out _ hb5)).mono ?_
        rintro e w4 hu
        have hb7 := hb5.trans (hu.1.mono hb5.size)
        obtain ⟨x, y, z, rfl⟩ := unq_any hu
        clear hb5 hu
        go_wp2_with fail
        go_ret
        exact ⟨rfl, hb7⟩
end Go.Proofs.YtanccdmlddgnaaaDoor
