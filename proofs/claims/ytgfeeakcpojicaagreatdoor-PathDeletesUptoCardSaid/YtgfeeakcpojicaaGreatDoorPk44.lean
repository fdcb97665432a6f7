/- The texts PBackS, put together. -/
import Derived.Test.YtgfeeakcpojicaaGreatDoorPk34
/- path laws: cut, shown. -/
namespace Go.Proofs.YtgfeeakcpojicaaGreatDoor
open Go.RowKit Go.Shelf

def cutP (s : ByteArray) : ByteArray := s.extract 0 (min (s.size : Int) 600).toNat
theorem law_cut (s : ByteArray) (hs : s.size ≤ 9223372036854775807) (w : World) :
    Calls Tryz.prog 11 #[.string s] w fun e w' => e = .returned (.string (cutP s)) ∧ w = w' := by
  have z1 : (0 : Int) ≤ min (s.size : Int) 600 := by omega
  have z2 : min (s.size : Int) 600 ≤ s.size := by omega
  unfold cutP
  go_enter Tryz.func11, Tryz.ntmps11
  go_wp2_with fail
  go_ret
  exact ⟨rfl, rfl⟩

def shP : List Stp := [(-1, ⟨#[97]⟩), (2, ⟨#[]⟩)]
theorem shP_right : rightS shP = true := by kernel_rfl
theorem shP_code : codeS shP = [47, 34, 97, 34, 47, 50] := by
  have h : Lib.itoa 2 = [50] := by
    unfold Lib.itoa
    rw [if_neg (by decide), show (2 : Int).toNat = 2 from rfl, Lib.decDigits_one (by decide)]
    rfl
  show stepCode (-1, ⟨#[97]⟩) ++ (stepCode (2, ⟨#[]⟩) ++ []) = _
  have h1 : stepCode (-1, ⟨#[97]⟩) = [47, 34, 97, 34] := by kernel_rfl
  have h2 : stepCode (2, ⟨#[]⟩) = [47, 50] := by
    unfold stepCode
    rw [if_neg (show ¬ ((2 : Int), (⟨#[]⟩ : ByteArray)).1 < 0 from by show ¬ (2 : Int) < 0; decide), h]
  rw [h1, h2]
  rfl
theorem shD_none : decodeS [47, 48, 50] = none := by
  have hp : parseA ([47, 48, 50].length + 1) [47, 48, 50] [] = some [(2, ⟨#[]⟩)] := by kernel_rfl
  rw [decodeS_some hp, if_neg]
  rintro ⟨_, h⟩
  have hc : codeS [(2, ⟨#[]⟩)] = [47, 50] := by
    have := shP_code
    have h2 : codeS shP = stepCode (-1, ⟨#[97]⟩) ++ codeS [(2, ⟨#[]⟩)] := rfl
    have h1 : stepCode (-1, ⟨#[97]⟩) = [47, 34, 97, 34] := by kernel_rfl
    rw [h2, h1] at this
    have h3 : [47, 34, 97, 34] ++ codeS [(2, ⟨#[]⟩)] = [47, 34, 97, 34] ++ [47, 50] := this
    exact List.append_cancel_left h3
  rw [hc] at h
  cases h

set_option maxHeartbeats 2000000 in
set_option maxRecDepth 100000 in
theorem law_shown {aT aQ : Addr} (w : World) (h : PW w aT aQ) :
    Calls Tryz.prog 6 #[] w fun e w' => e = .returned (.bool true) ∧ Below w.heap.size w w' := by
  have hb0 : Below w.heap.size w (w.alloc (.cells #[.int .i64 (-1), .string ⟨#[97]⟩, .int .i64 2, .string ⟨#[]⟩] 53)) := (Below.refl _ w).alloc (Nat.le_refl _) _
  have hB0 : Blk (w.alloc (.cells #[.int .i64 (-1), .string ⟨#[97]⟩, .int .i64 2, .string ⟨#[]⟩] 53)) w.heap.size #[.int .i64 (-1), .string ⟨#[97]⟩, .int .i64 2, .string ⟨#[]⟩] 53 := Blk.new _ _ _
  have hsa : StepsAt (w.alloc (.cells #[.int .i64 (-1), .string ⟨#[97]⟩, .int .i64 2, .string ⟨#[]⟩] 53)) (w.heap.size + 1) (some ⟨w.heap.size, 0, none⟩) 2 shP := by
    refine ⟨rfl, ⟨rfl, fun _ => ⟨_, rfl, by simp, fun j u hj => ?_⟩⟩, ?_⟩
    · have ea : (⟨w.heap.size, 0, none⟩ : Addr).add j = ⟨w.heap.size, j, none⟩ := by
        unfold Addr.add
        split
        · rename_i h0
          rw [h0]
        · simp
      rw [ea]
      refine (hB0.cell j).trans ?_
      match j, hj with
      | 0, hj => exact hj
      | 1, hj => exact hj
      | 2, hj => exact hj
      | 3, hj => exact hj
      | j + 4, hj => simp [shP, stepCells] at hj
    · intro s hs
      simp [shP] at hs
      rcases hs with rfl | rfl <;> decide
  have HC := path_Code_yes (some ⟨w.heap.size, 0, none⟩) 2 2 shP (w.heap.size + 1) _ (h.below hb0) hsa (by simp) shP_right (by intro s hs; simp [shP] at hs; rcases hs with rfl | rfl <;> decide)
  rw [shP_code] at HC
  have HC := Lib.hid HC
  have HD := Lib.hid (fun w (h : PW w aT aQ) => path_Decode ⟨#[47, 48, 50]⟩ w h (by decide))
  have HU := Lib.hid (fun (w' : World) (hw : Below w.heap.size w w') => h.below hw)
  clear hsa hB0 h
  go_enter Tryz.func6, Tryz.ntmps6
  go_wp2_with fail
  refine HC.out.mono ?_
  rintro e w1 ⟨rfl, hb1⟩
  have hb2 := hb0.trans (hb1.mono hb0.size)
  clear hb0 hb1
  go_wp2_with fail
  refine (HD.out w1 (HU.out _ hb2)).mono ?_
  rintro e w2 ⟨hb3, hm⟩
  rw [show (⟨#[47, 48, 50]⟩ : ByteArray).data.toList = [47, 48, 50] from rfl, shD_none] at hm
  have hm' : e = .returned (.tuple #[.slice none 0 0, .int .i64 70]) := hm
  subst hm'
  have hb4 := hb2.trans (hb3.mono hb2.size)
  clear hm hb3 hb2
  go_wp2_with fail
  go_ret
  exact ⟨rfl, hb4⟩

end Go.Proofs.YtgfeeakcpojicaaGreatDoor
