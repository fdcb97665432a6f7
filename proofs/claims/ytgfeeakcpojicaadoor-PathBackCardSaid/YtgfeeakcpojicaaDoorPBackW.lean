/- The walk of the law PathBack. -/
import Derived.Test.YtgfeeakcpojicaaDoorPathG
namespace Go.Proofs.YtgfeeakcpojicaaDoor
open Go.RowKit Go.Shelf

def cutP (s : ByteArray) : ByteArray := s.extract 0 (min (s.size : Int) 600).toNat
theorem law_cut (s : ByteArray) (hs : s.size ≤ 9223372036854775807) (w : World) :
    Calls Tryd.prog 9 #[.string s] w fun e w' => e = .returned (.string (cutP s)) ∧ w = w' := by
  have z1 : (0 : Int) ≤ min (s.size : Int) 600 := by omega
  have z2 : min (s.size : Int) 600 ≤ s.size := by omega
  unfold cutP
  go_enter Tryd.func9, Tryd.ntmps9
  go_wp2_with fail
  go_ret
  exact ⟨rfl, rfl⟩

def shP : List Stp := [(-1, ⟨#[97]⟩), (2, ⟨#[]⟩)]
theorem shP_right : rightS shP = true := by kernel_rfl
theorem shP_code : codeS shP = [47, 34, 97, 34, 47, 50] := by
  have h : Lib.itoa 2 = [50] := by
    unfold Lib.itoa
    rw [if_neg (by decide), show (2 : Int).toNat = 2 from rfl, Lib.decDigits_one (by decide)]
    rfl
  show stepCode (-1, ⟨#[97]⟩) ++ (stepCode (2, ⟨#[]⟩) ++ []) = _
  have h1 : stepCode (-1, ⟨#[97]⟩) = [47, 34, 97, 34] := by kernel_rfl
  have h2 : stepCode (2, ⟨#[]⟩) = [47, 50] := by
    unfold stepCode
    rw [if_neg (show ¬ ((2 : Int), (⟨#[]⟩ : ByteArray)).1 < 0 from by show ¬ (2 : Int) < 0; decide), h]
  rw [h1, h2]
  rfl
theorem shD_none : decodeS [47, 48, 50] = none := by
  have hp : parseA ([47, 48, 50].length + 1) [47, 48, 50] [] = some [(2, ⟨#[]⟩)] := by kernel_rfl
  rw [decodeS_some hp, if_neg]
  rintro ⟨_, h⟩
  have hc : codeS [(2, ⟨#[]⟩)] = [47, 50] := by
    have := shP_code
    have h2 : codeS shP = stepCode (-1, ⟨#[97]⟩) ++ codeS [(2, ⟨#[]⟩)] := rfl
    have h1 : stepCode (-1, ⟨#[97]⟩) = [47, 34, 97, 34] := by kernel_rfl
    rw [h2, h1] at this
    have h3 : [47, 34, 97, 34] ++ codeS [(2, ⟨#[]⟩)] = [47, 34, 97, 34] ++ [47, 50] := this
    exact List.append_cancel_left h3
  rw [hc] at h
  cases h

set_option maxHeartbeats 2000000 in
set_option maxRecDepth 100000 in
theorem law_shown {aT aQ : Addr} (w : World) (h : PW w aT aQ) :
    Calls Tryd.prog 4 #[] w fun e w' => e = .returned (.bool true) ∧ Below w.heap.size w w' := by
  have hb0 : Below w.heap.size w (w.alloc (.cells #[.int .i64 (-1), .string ⟨#[97]⟩, .int .i64 2, .string ⟨#[]⟩] 35)) := (Below.refl _ w).alloc (Nat.le_refl _) _
  have hB0 : Blk (w.alloc (.cells #[.int .i64 (-1), .string ⟨#[97]⟩, .int .i64 2, .string ⟨#[]⟩] 35)) w.heap.size #[.int .i64 (-1), .string ⟨#[97]⟩, .int .i64 2, .string ⟨#[]⟩] 35 := Blk.new _ _ _
  have hsa : StepsAt (w.alloc (.cells #[.int .i64 (-1), .string ⟨#[97]⟩, .int .i64 2, .string ⟨#[]⟩] 35)) (w.heap.size + 1) (some ⟨w.heap.size, 0, none⟩) 2 shP := by
    refine ⟨rfl, ⟨rfl, fun _ => ⟨_, rfl, by simp, fun j u hj => ?_⟩⟩, ?_⟩
    · have ea : (⟨w.heap.size, 0, none⟩ : Addr).add j = ⟨w.heap.size, j, none⟩ := by
        unfold Addr.add
        split
        · rename_i h0
          rw [h0]
        · simp
      rw [ea]
      refine (hB0.cell j).trans ?_
      match j, hj with
      | 0, hj => exact hj
      | 1, hj => exact hj
      | 2, hj => exact hj
      | 3, hj => exact hj
      | j + 4, hj => simp [shP, stepCells] at hj
    · intro s hs
      simp [shP] at hs
      rcases hs with rfl | rfl <;> decide
  have HC := path_Code_yes (some ⟨w.heap.size, 0, none⟩) 2 2 shP (w.heap.size + 1) _ (h.below hb0) hsa (by simp) shP_right (by intro s hs; simp [shP] at hs; rcases hs with rfl | rfl <;> decide)
  rw [shP_code] at HC
  have HC := Lib.hid HC
  have HD := Lib.hid (fun w (h : PW w aT aQ) => path_Decode ⟨#[47, 48, 50]⟩ w h (by decide))
  have HU := Lib.hid (fun (w' : World) (hw : Below w.heap.size w w') => h.below hw)
  clear hsa hB0 h
  go_enter Tryd.func4, Tryd.ntmps4
  go_wp2_with fail
  refine HC.out.mono ?_
  rintro e w1 ⟨rfl, hb1⟩
  have hb2 := hb0.trans (hb1.mono hb0.size)
  clear hb0 hb1
  go_wp2_with fail
  refine (HD.out w1 (HU.out _ hb2)).mono ?_
  rintro e w2 ⟨hb3, hm⟩
  rw [show (⟨#[47, 48, 50]⟩ : ByteArray).data.toList = [47, 48, 50] from rfl, shD_none] at hm
  have hm' : e = .returned (.tuple #[.slice none 0 0, .int .i64 70]) := hm
  subst hm'
  have hb4 := hb2.trans (hb3.mono hb2.size)
  clear hm hb3 hb2
  go_wp2_with fail
  go_ret
  exact ⟨rfl, hb4⟩

theorem codeS_nil : codeS [] = [] := rfl
theorem decodeS_nil : decodeS [] = some [] := by kernel_rfl

set_option maxHeartbeats 4000000 in
set_option maxRecDepth 100000 in
theorem pback_walk {aT aQ : Addr} (A : Option Addr) (n c : Nat) (p0 : List Stp) (B : Nat) (s : ByteArray) (w : World) (h : PW w aT aQ) (hn : n ≤ 9223372036854775807) (hp : StepsAt w B A n p0) (hB : B ≤ w.heap.size) (hi0 : ∀ x ∈ p0, x.1 < 9223372036854775808) (hs : s.size ≤ 9223372036854775807) :
    Calls Tryd.prog 3 #[.slice A n c, .string s] w fun e w' => e = .returned (.bool true) ∧ Below w.heap.size w w' := by
  have H0 := Lib.hid (law_shown w h)
  have HU := Lib.hid (fun (w' : World) (hw : Below w.heap.size w w') => h.below hw)
  have HF := Lib.hid (fun (w' : World) (hw : Below w.heap.size w w') => law_Few A n c p0 B w' hn (hp.below hw hB) (Nat.le_trans hB hw.size))
  have hi : ∀ x ∈ fewS p0, x.1 < 9223372036854775808 := by
    intro x hx
    obtain ⟨y, hy, rfl⟩ := List.mem_map.1 hx
    exact hi0 y (List.mem_of_mem_take hy)
  have hpl : (fewS p0).length ≤ 20 := by
    unfold fewS
    rw [List.length_map, List.length_take]
    omega
  have HCUT := Lib.hid (law_cut s hs)
  have hsz : (cutP s).size ≤ 600 := by
    unfold cutP
    rw [ByteArray.size_extract]
    omega
  generalize cutP s = s1 at HCUT hsz
  generalize fewS p0 = p at HF hi hpl
  have HD1 := Lib.hid (fun w (h : PW w aT aQ) => path_Decode s1 w h (by omega))
  have HI := Lib.hid hi
  clear h hp hi0 hs hi hB
  go_enter Tryd.func3, Tryd.ntmps3
  go_wp2_with fail
  refine H0.out.mono ?_
  rintro e w1 ⟨rfl, hb1⟩
  go_wp2_with fail
  refine (HF.out w1 hb1).mono ?_
  rintro e w2 ⟨⟨A', c', rfl, hsa⟩, hc⟩
  have hb2 := hb1.trans (hc.mono hb1.size)
  have HSA := Lib.hid hsa
  clear hc hsa hb1
  have hlz : p.length ≤ 9223372036854775807 := by omega
  cases hr : rightS p with
  | true =>
    have HC := path_Code_yes A' p.length c' p w2.heap.size w2 (HU.out _ hb2) HSA.out (Nat.le_refl _) hr HI.out
    obtain ⟨a, ha⟩ : ∃ a : ByteArray, (⟨(codeS p).toArray⟩ : ByteArray) = a := ⟨_, rfl⟩
    rw [ha] at HC
    have hal : a.data.toList = codeS p := by rw [← ha]
    have haz : a.size ≤ 100000000 := by
      have hr' := hr
      unfold rightS at hr'
      rw [Bool.and_eq_true, decide_eq_true_iff] at hr'
      have h1 := codeS_max p (List.all_eq_true.1 hr'.2) HI.out
      have h2 : a.data.toList.length = a.size := by simp
      rw [hal] at h2
      omega
    have hdec : decodeS a.data.toList = some p := by rw [hal]; exact decode_code hr HI.out
    have HDEC := Lib.hid hdec
    have HD2 := Lib.hid (fun w (h : PW w aT aQ) => path_Decode a w h haz)
    have HR := Lib.hid (fun (w' : World) (hw : Below w2.heap.size w2 w') (h : UW w' aT aQ) => path_Right A' p.length c' p w2.heap.size w' h hlz (HSA.out.below hw (Nat.le_refl _)) hw.size)
    rw [hr] at HR
    have HC := Lib.hid HC
    clear ha hal haz hdec hr
    go_wp2_with fail
    refine HC.out.mono ?_
    rintro e w3 ⟨rfl, hc3⟩
    have hb3 := hb2.trans (hc3.mono hb2.size)
    go_wp2_with fail
    refine (HD2.out w3 (HU.out _ hb3)).mono ?_
    rintro e w4 ⟨hc4, hm⟩
    rw [HDEC.out] at hm
    obtain ⟨A2, n2, c2, rfl, hsa2, _⟩ := hm
    obtain rfl : n2 = p.length := hsa2.len.symm
    have hc24 : Below w2.heap.size w2 w4 := hc3.trans (hc4.mono hc3.size)
    have hb4 := hb3.trans (hc4.mono hb3.size)
    have hz24 := hc24.size
    have HSM := Lib.hid (ref_Same A2 A' p.length c2 c' p w4.heap.size w4 hlz hsa2 ((HSA.out.below hc24 (Nat.le_refl _)).more hz24) (Nat.le_refl _))
    clear hc3 hc4 hsa2 HC HD2 HDEC hb3
    go_wp2_with fail
    refine HSM.out.mono ?_
    rintro e w5 ⟨rfl, hc5⟩
    have hb5 := hb4.trans (hc5.mono hb4.size)
    have hc25 := hc24.trans (hc5.mono hz24)
    clear hc5 hc24 hb4 hz24 HSM
    go_wp2_with fail
    refine (HCUT.out w5).mono ?_
    rintro e w5' ⟨rfl, hw⟩
    obtain rfl : w5 = w5' := hw
    go_wp2_with fail
    refine (HD1.out w5 (HU.out _ hb5)).mono ?_
    rintro e w6 ⟨hc6, hm⟩
    have hb6 := hb5.trans (hc6.mono hb5.size)
    have hc26 := hc25.trans (hc6.mono hc25.size)
    cases hd1 : decodeS s1.data.toList with
    | some q =>
      rw [hd1] at hm
      obtain ⟨A3, n3, c3, rfl, hsa3, hq3⟩ := hm
      obtain ⟨hqr, hqc⟩ := decode_some hd1
      have HC3 := path_Code_yes A3 n3 c3 q w6.heap.size w6 (HU.out _ hb6) hsa3 (Nat.le_refl _) hqr (fun x hx => (hq3 x hx).2)
      rw [hqc, str_back'] at HC3
      have HC3 := Lib.hid HC3
      clear hc6 hd1 hsa3 hq3 hqr hqc hb5 hc25
      go_wp2_with fail
      refine HC3.out.mono ?_
      rintro e w7 ⟨rfl, hc7⟩
      have hb7 := hb6.trans (hc7.mono hb6.size)
      have hc27 := hc26.trans (hc7.mono hc26.size)
      clear hc7 hb6 hc26 HC3
      go_wp2_with fail
      refine (HR.out w7 hc27 (HU.out _ hb7).uw).mono ?_
      rintro e w8 ⟨rfl, hc8⟩
      have hb8 := hb7.trans (hc8.mono hb7.size)
      clear hc8 hb7 hc27
      go_wp2_with fail
      refine (HCUT.out w8).mono ?_
      rintro e w8' ⟨rfl, hw⟩
      obtain rfl : w8 = w8' := hw
      go_wp2_with fail
      go_ret
      exact ⟨by simp, hb8⟩
    | none =>
      rw [hd1] at hm
      have hm' : e = .returned (.tuple #[.slice none 0 0, .int .i64 70]) := hm
      subst hm'
      have HC3 := path_Code_yes none 0 0 [] 0 w6 (HU.out _ hb6) ⟨rfl, Lies.nil _ _ _ _, by simp⟩ (by omega) (by decide) (by simp)
      rw [codeS_nil] at HC3
      have HC3 := Lib.hid HC3
      clear hc6 hd1 hm hb5 hc25
      go_wp2_with fail
      refine HC3.out.mono ?_
      rintro e w7 ⟨rfl, hc7⟩
      have hb7 := hb6.trans (hc7.mono hb6.size)
      have hc27 := hc26.trans (hc7.mono hc26.size)
      clear hc7 hb6 hc26 HC3
      go_wp2_with fail
      refine (HR.out w7 hc27 (HU.out _ hb7).uw).mono ?_
      rintro e w8 ⟨rfl, hc8⟩
      have hb8 := hb7.trans (hc8.mono hb7.size)
      clear hc8 hb7 hc27
      go_wp2_with fail
      go_ret
      exact ⟨by simp, hb8⟩
  | false =>
    have HC := Lib.hid (path_Code_no A' p.length c' p w2.heap.size w2 (HU.out _ hb2).uw hlz HSA.out (Nat.le_refl _) hr)
    have HD2 := Lib.hid (fun w (h : PW w aT aQ) => path_Decode ⟨#[]⟩ w h (by decide))
    have HR := Lib.hid (fun (w' : World) (hw : Below w2.heap.size w2 w') (h : UW w' aT aQ) => path_Right A' p.length c' p w2.heap.size w' h hlz (HSA.out.below hw (Nat.le_refl _)) hw.size)
    rw [hr] at HR
    clear hr
    go_wp2_with fail
    refine HC.out.mono ?_
    rintro e w3 ⟨rfl, hc3⟩
    have hb3 := hb2.trans (hc3.mono hb2.size)
    go_wp2_with fail
    refine (HD2.out w3 (HU.out _ hb3)).mono ?_
    rintro e w5 ⟨hc4, hm⟩
    rw [show (⟨#[]⟩ : ByteArray).data.toList = [] from rfl, decodeS_nil] at hm
    obtain ⟨A2, n2, c2, rfl, _, _⟩ := hm
    have hc25 : Below w2.heap.size w2 w5 := hc3.trans (hc4.mono hc3.size)
    have hb5 := hb3.trans (hc4.mono hb3.size)
    clear hc3 hc4 HC HD2 hb3
    go_wp2_with fail
    refine (HCUT.out w5).mono ?_
    rintro e w5' ⟨rfl, hw⟩
    obtain rfl : w5 = w5' := hw
    go_wp2_with fail
    refine (HD1.out w5 (HU.out _ hb5)).mono ?_
    rintro e w6 ⟨hc6, hm⟩
    have hb6 := hb5.trans (hc6.mono hb5.size)
    have hc26 := hc25.trans (hc6.mono hc25.size)
    cases hd1 : decodeS s1.data.toList with
    | some q =>
      rw [hd1] at hm
      obtain ⟨A3, n3, c3, rfl, hsa3, hq3⟩ := hm
      obtain ⟨hqr, hqc⟩ := decode_some hd1
      have HC3 := path_Code_yes A3 n3 c3 q w6.heap.size w6 (HU.out _ hb6) hsa3 (Nat.le_refl _) hqr (fun x hx => (hq3 x hx).2)
      rw [hqc, str_back'] at HC3
      have HC3 := Lib.hid HC3
      clear hc6 hd1 hsa3 hq3 hqr hqc hb5 hc25
      go_wp2_with fail
      refine HC3.out.mono ?_
      rintro e w7 ⟨rfl, hc7⟩
      have hb7 := hb6.trans (hc7.mono hb6.size)
      have hc27 := hc26.trans (hc7.mono hc26.size)
      clear hc7 hb6 hc26 HC3
      go_wp2_with fail
      refine (HR.out w7 hc27 (HU.out _ hb7).uw).mono ?_
      rintro e w8 ⟨rfl, hc8⟩
      have hb8 := hb7.trans (hc8.mono hb7.size)
      clear hc8 hb7 hc27
      go_wp2_with fail
      refine (HCUT.out w8).mono ?_
      rintro e w8' ⟨rfl, hw⟩
      obtain rfl : w8 = w8' := hw
      go_wp2_with fail
      go_ret
      exact ⟨by simp, hb8⟩
    | none =>
      rw [hd1] at hm
      have hm' : e = .returned (.tuple #[.slice none 0 0, .int .i64 70]) := hm
      subst hm'
      have HC3 := path_Code_yes none 0 0 [] 0 w6 (HU.out _ hb6) ⟨rfl, Lies.nil _ _ _ _, by simp⟩ (by omega) (by decide) (by simp)
      rw [codeS_nil] at HC3
      have HC3 := Lib.hid HC3
      clear hc6 hd1 hm hb5 hc25
      go_wp2_with fail
      refine HC3.out.mono ?_
      rintro e w7 ⟨rfl, hc7⟩
      have hb7 := hb6.trans (hc7.mono hb6.size)
      have hc27 := hc26.trans (hc7.mono hc26.size)
      clear hc7 hb6 hc26 HC3
      go_wp2_with fail
      refine (HR.out w7 hc27 (HU.out _ hb7).uw).mono ?_
      rintro e w8 ⟨rfl, hc8⟩
      have hb8 := hb7.trans (hc8.mono hb7.size)
      clear hc8 hb7 hc27
      go_wp2_with fail
      go_ret
      exact ⟨by simp, hb8⟩
end Go.Proofs.YtgfeeakcpojicaaDoor
