/- The texts RefA, RefQ, RefRr, put together. -/
import Derived.Lib.DecodeN
import Derived.Lib.SpaceU
import Derived.Test.YtfckekaegjjmkaaGreatDoorPi46
import Derived.Lib.TrimUEq
import Derived.Shelf.Unicode.ValidAny
import Derived.Test.YtfckekaegjjmkaaGreatDoorPi02
namespace Go.Proofs.YtfckekaegjjmkaaGreatDoor

/-- targumref02.First over n bytes that begin with b0, b1, b2, b3: by how many bytes the character has. -/
def firstN (n b0 b1 b2 b3 : Nat) : Nat × Nat :=
  if b0 < 128 then (b0, 1)
  else if b0 < 194 ∨ 244 < b0 then (0, 0)
  else if b0 < 224 then
    if n < 2 ∨ b1 / 64 ≠ 2 then (0, 0) else (64 * (b0 % 32) + b1 % 64, 2)
  else if b0 < 240 then
    if n < 3 ∨ b1 / 64 ≠ 2 ∨ b2 / 64 ≠ 2 ∨ 64 * (64 * (b0 % 16) + b1 % 64) + b2 % 64 < 2048 ∨ (55296 ≤ 64 * (64 * (b0 % 16) + b1 % 64) + b2 % 64 ∧ 64 * (64 * (b0 % 16) + b1 % 64) + b2 % 64 ≤ 57343) then (0, 0)
    else (64 * (64 * (b0 % 16) + b1 % 64) + b2 % 64, 3)
  else
    if n < 4 ∨ b1 / 64 ≠ 2 ∨ b2 / 64 ≠ 2 ∨ b3 / 64 ≠ 2 ∨ 64 * (64 * (64 * (b0 % 8) + b1 % 64) + b2 % 64) + b3 % 64 < 65536 ∨ 1114111 < 64 * (64 * (64 * (b0 % 8) + b1 % 64) + b2 % 64) + b3 % 64 then (0, 0)
    else (64 * (64 * (64 * (b0 % 8) + b1 % 64) + b2 % 64) + b3 % 64, 4)

set_option maxRecDepth 100000 in
set_option maxHeartbeats 4000000 in
theorem firstN_eq (n b0 b1 b2 b3 : Nat) (h0 : b0 < 256) : firstN n b0 b1 b2 b3 = if Lib.decodeN n b0 b1 b2 b3 = (65533, 1) then (0, 0) else Lib.decodeN n b0 b1 b2 b3 := by
  unfold firstN Lib.decodeN
  by_cases c1 : b0 < 128
  · simp only [c1, if_true]
    rw [if_neg (by simp; omega)]
  simp only [c1, if_false]
  by_cases c2 : b0 < 224
  · simp only [show ¬ b0 / 16 = 14 by omega, show ¬ b0 / 8 = 30 by omega, false_and, if_false, c2, if_true]
    repeat' split
    all_goals simp_all
    all_goals omega
  by_cases c3 : b0 < 240
  · simp only [show ¬ b0 / 32 = 6 by omega, show b0 / 16 = 14 by omega, show ¬ b0 / 8 = 30 by omega, false_and, true_and, if_false, c2, c3, if_true]
    rw [if_neg (show ¬ (b0 < 194 ∨ 244 < b0) by omega)]
    repeat' split
    all_goals simp_all
    all_goals omega
  · simp only [show ¬ b0 / 32 = 6 by omega, show ¬ b0 / 16 = 14 by omega, false_and, if_false, c2, c3]
    repeat' split
    all_goals simp_all
    all_goals omega
end Go.Proofs.YtfckekaegjjmkaaGreatDoor
namespace Go.Proofs.YtfckekaegjjmkaaGreatDoor
open Go.RowKit Go.Shelf

theorem getD_at (s : ByteArray) (i : Nat) (h : i < s.size) : (s.data.toList.getD i 0).toNat = s[i].toNat := by
  rw [List.getD_eq_getElem?_getD, List.getElem?_eq_getElem (by simpa using h)]
  rfl
def firV (p : Nat × Nat) : Value := .tuple #[.int .i64 (p.1 : Int), .int .i64 (p.2 : Int)]
theorem ref_FirstN (s : ByteArray) (h : 0 < s.size) (w : World) :
    Calls Tryz.prog 63 #[.string s] w fun e w' => e = .returned (firV (firstN s.size s[0].toNat (s.data.toList.getD 1 0).toNat (s.data.toList.getD 2 0).toNat (s.data.toList.getD 3 0).toNat)) ∧ w' = w := by
  have h256 := s[0].toNat_lt
  obtain ⟨b0, h0⟩ : ∃ b0, s[0].toNat = b0 := ⟨_, rfl⟩
  rw [h0] at h256
  have g1 := getD_at s 1
  have g2 := getD_at s 2
  have g3 := getD_at s 3
  generalize (s.data.toList.getD 1 0).toNat = b1 at g1 ⊢
  generalize (s.data.toList.getD 2 0).toNat = b2 at g2 ⊢
  generalize (s.data.toList.getD 3 0).toNat = b3 at g3 ⊢
  rw [h0]
  unfold firstN
  by_cases c1 : b0 < 128
  · rw [if_pos c1]
    exact first_one s w h b0 h0 c1
  rw [if_neg c1]
  by_cases c2 : b0 < 194 ∨ 244 < b0
  · rw [if_pos c2]
    rcases c2 with c2 | c2
    · exact first_lo s w h b0 h0 (by omega) c2
    · exact first_hi s w h b0 h0 c2 (by omega)
  rw [if_neg c2]
  by_cases c3 : b0 < 224
  · rw [if_pos c3]
    by_cases hs : s.size < 2
    · rw [if_pos (.inl hs)]
      exact first2_short s w h b0 h0 (by omega) c3 hs
    have e1 := (g1 (by omega)).symm
    by_cases t1 : b1 / 64 = 2
    · rw [if_neg (by omega)]
      exact first2_ok s w h b0 h0 (by omega) c3 (by omega) b1 e1 t1 _ rfl
    · rw [if_pos (.inr t1)]
      exact first2_bad1 s w h b0 h0 (by omega) c3 (by omega) b1 e1 t1
  rw [if_neg c3]
  by_cases c4 : b0 < 240
  · rw [if_pos c4]
    by_cases hs : s.size < 3
    · rw [if_pos (.inl hs)]
      exact first3_short s w h b0 h0 (by omega) c4 hs
    have e1 := (g1 (by omega)).symm
    have e2 := (g2 (by omega)).symm
    by_cases t1 : b1 / 64 = 2
    · by_cases t2 : b2 / 64 = 2
      · obtain ⟨v, hv⟩ : ∃ v, 64 * (64 * (b0 % 16) + b1 % 64) + b2 % 64 = v := ⟨_, rfl⟩
        rw [hv]
        by_cases q1 : v < 2048
        · rw [if_pos (by omega)]
          exact first3_least s w h b0 h0 (by omega) c4 (by omega) b1 e1 t1 b2 e2 t2 v hv q1
        · by_cases q2 : v < 55296
          · rw [if_neg (by omega)]
            exact first3_ok1 s w h b0 h0 (by omega) c4 (by omega) b1 e1 t1 b2 e2 t2 v hv (by omega) q2
          · by_cases q3 : v ≤ 57343
            · rw [if_pos (by omega)]
              exact first3_half s w h b0 h0 (by omega) c4 (by omega) b1 e1 t1 b2 e2 t2 v hv (by omega) q3
            · rw [if_neg (by omega)]
              exact first3_ok2 s w h b0 h0 (by omega) c4 (by omega) b1 e1 t1 b2 e2 t2 v hv (by omega)
      · rw [if_pos (by omega)]
        exact first3_bad2 s w h b0 h0 (by omega) c4 (by omega) b1 e1 t1 b2 e2 t2
    · rw [if_pos (by omega)]
      exact first3_bad1 s w h b0 h0 (by omega) c4 (by omega) b1 e1 t1
  rw [if_neg c4]
  by_cases hs : s.size < 4
  · rw [if_pos (.inl hs)]
    exact first4_short s w h b0 h0 (by omega) (by omega) hs
  have e1 := (g1 (by omega)).symm
  have e2 := (g2 (by omega)).symm
  have e3 := (g3 (by omega)).symm
  by_cases t1 : b1 / 64 = 2
  · by_cases t2 : b2 / 64 = 2
    · by_cases t3 : b3 / 64 = 2
      · obtain ⟨v, hv⟩ : ∃ v, 64 * (64 * (64 * (b0 % 8) + b1 % 64) + b2 % 64) + b3 % 64 = v := ⟨_, rfl⟩
        rw [hv]
        by_cases q1 : v < 65536
        · rw [if_pos (by omega)]
          exact first4_least s w h b0 h0 (by omega) (by omega) (by omega) b1 e1 t1 b2 e2 t2 b3 e3 t3 v hv q1
        · by_cases q2 : 1114111 < v
          · rw [if_pos (by omega)]
            exact first4_great s w h b0 h0 (by omega) (by omega) (by omega) b1 e1 t1 b2 e2 t2 b3 e3 t3 v hv q2
          · rw [if_neg (by omega)]
            exact first4_ok s w h b0 h0 (by omega) (by omega) (by omega) b1 e1 t1 b2 e2 t2 b3 e3 t3 v hv (by omega) (by omega)
      · rw [if_pos (by omega)]
        exact first4_bad3 s w h b0 h0 (by omega) (by omega) (by omega) b1 e1 t1 b2 e2 t2 b3 e3 t3
    · rw [if_pos (by omega)]
      exact first4_bad2 s w h b0 h0 (by omega) (by omega) (by omega) b1 e1 t1 b2 e2 t2
  · rw [if_pos (by omega)]
    exact first4_bad1 s w h b0 h0 (by omega) (by omega) (by omega) b1 e1 t1

/-- What First tells: a character and its width, or (0, 0). -/
def firD (l : List UInt8) : Nat × Nat := if Lib.decodeL l = (65533, 1) then (0, 0) else Lib.decodeL l
theorem ref_First (s : ByteArray) (h : 0 < s.size) (w : World) :
    Calls Tryz.prog 63 #[.string s] w fun e w' => e = .returned (firV (firD s.data.toList)) ∧ w' = w := by
  refine (ref_FirstN s h w).mono ?_
  rintro e w' ⟨rfl, rfl⟩
  refine ⟨?_, rfl⟩
  have h1 := getD_at s 0 h
  have h2 : s.data.toList.length = s.size := by simp
  rw [firstN_eq _ _ _ _ _ (UInt8.toNat_lt _), ← h1, ← h2, ← Lib.decodeL_N]
  rfl
end Go.Proofs.YtfckekaegjjmkaaGreatDoor
namespace Go.Proofs.YtfckekaegjjmkaaGreatDoor
open Go.RowKit Go.Shelf

theorem str_noneR {s : ByteArray} (h0 : s.size ≠ 0) : s.toList.isEmpty = false := by
  rw [ByteArray.toList_eq]
  cases hl : s.data.toList with
  | nil => exact absurd (show s.data.toList.length = 0 by rw [hl]; rfl) (by simpa using h0)
  | cons a l => rfl
theorem firD_bad {l : List UInt8} (h : Lib.decodeL l = (65533, 1)) : firD l = (0, 0) := if_pos h
theorem firD_ok {l : List UInt8} (h : ¬ Lib.decodeL l = (65533, 1)) : firD l = Lib.decodeL l := if_neg h
theorem bad_pair (l : List UInt8) : Lib.decodeL l = (65533, 1) ↔ (Lib.decodeL l).1 = 65533 ∧ (Lib.decodeL l).2 = 1 := by
  rw [Prod.ext_iff]

set_option maxHeartbeats 2000000 in
set_option maxRecDepth 100000 in
theorem ref_utfRight (s : ByteArray) (_hs : s.size ≤ 1000000000) (w : World) :
    Calls Tryz.prog 44 #[.string s] w fun e w' => e = .returned (.bool (Lib.validD s.data.toList)) ∧ w' = w := by
  obtain ⟨ans, hans⟩ : ∃ ans, Lib.validD s.data.toList = ans := ⟨_, rfl⟩
  have HANS := Lib.hid hans
  rw [hans]
  clear hans
  go_enter Tryz.func44, Tryz.ntmps44
  go_wp2_with fail
  go_loopw [0] (fun x wr => ∃ r : ByteArray, x = .string r ∧ r.size ≤ s.size ∧ wr = w ∧ Hid (Lib.validD r.data.toList = ans)) (fun x _ => match x with | .string r => r.size | _ => 0)
  case atStart => exact ⟨s, rfl, Nat.le_refl _, rfl, HANS⟩
  case round =>
    obtain ⟨r, rfl, hrs, rfl, hv⟩ := hrel
    by_cases hr0 : r.size = 0
    · have e0 := str_empty hr0
      subst e0
      have ha : true = ans := hv.out
      subst ha
      clear hv HANS hr0 hrs
      go_wp2_with fail
      go_ret
      exact ⟨rfl, rfl⟩
    · have hne := str_noneR hr0
      have hpos : 0 < r.size := by omega
      have hl0 : r.data.toList ≠ [] := by
        intro e
        have h1 : r.data.toList.length = r.size := by simp
        rw [e] at h1
        exact hr0 h1.symm
      have hvv := hv.out
      rw [Lib.validD_step _ hl0] at hvv
      have HF := ref_First r hpos wr
      have hw := Lib.decodeL_width r.data.toList
      have hwl := Lib.decodeL_le r.data.toList hl0
      have hrl : r.data.toList.length = r.size := by simp
      by_cases hb : Lib.decodeL r.data.toList = (65533, 1)
      · rw [if_pos ((bad_pair _).1 hb)] at hvv
        subst hvv
        rw [firD_bad hb] at HF
        have HF : Calls Tryz.prog 63 #[.string r] wr fun e w' => e = .returned (.tuple #[.int .i64 0, .int .i64 0]) ∧ w' = wr := HF
        have HF := Lib.hid HF
        clear hv HANS hl0 hb hrl hw hwl
        go_wp2_with fail
        refine HF.out.mono ?_
        rintro e w1 ⟨rfl, rfl⟩
        go_wp2_with fail
        go_ret
        exact ⟨rfl, rfl⟩
      · rw [if_neg (fun h => hb ((bad_pair _).2 h))] at hvv
        rw [firD_ok hb] at HF
        have hex := extract_list r (Lib.decodeL r.data.toList).2
        obtain ⟨⟨c, n⟩, hcn⟩ : ∃ cn, Lib.decodeL r.data.toList = cn := ⟨_, rfl⟩
        rw [hcn] at HF hvv hw hex hwl
        simp only [] at hvv hw hex hwl
        obtain ⟨r2, hr2⟩ : ∃ r2, r.extract n r.size = r2 := ⟨_, rfl⟩
        have HF : Calls Tryz.prog 63 #[.string r] wr fun e w' => e = .returned (.tuple #[.int .i64 (c : Int), .int .i64 (n : Int)]) ∧ w' = wr := HF
        have hz2 : r2.size = r.size - n := by
          rw [← hr2, ByteArray.size_extract]
          omega
        rw [hr2] at hex
        rw [← hex] at hvv
        have HF := Lib.hid HF
        have HV := Lib.hid hvv
        have HR2 := Lib.hid hr2
        have z1 : (1 : Int) ≤ n := by omega
        have z2 : (n : Int) ≤ r.size := by omega
        clear hv HANS hl0 hb hrl hcn hex hvv hr2
        go_wp2_with fail
        refine HF.out.mono ?_
        rintro e w1 ⟨rfl, rfl⟩
        go_wp2_with fail
        rw [HR2.out]
        go_roundw
        case rel => exact ⟨r2, rfl, by omega, trivial, HV⟩
        case measure => simp only []; omega

end Go.Proofs.YtfckekaegjjmkaaGreatDoor
