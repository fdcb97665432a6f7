/- The reference's first character (targumref02.First): it tells what Go's decoding tells. -/
import Derived.Test.YtgfeeakcpojicaaGreatDoorRefP
import Derived.Test.YtgfeeakcpojicaaGreatDoorRefA
namespace Go.Proofs.YtgfeeakcpojicaaGreatDoor
open Go.RowKit Go.Shelf

theorem getD_at (s : ByteArray) (i : Nat) (h : i < s.size) : (s.data.toList.getD i 0).toNat = s[i].toNat := by
  rw [List.getD_eq_getElem?_getD, List.getElem?_eq_getElem (by simpa using h)]
  rfl
def firV (p : Nat × Nat) : Value := .tuple #[.int .i64 (p.1 : Int), .int .i64 (p.2 : Int)]
theorem ref_FirstN (s : ByteArray) (h : 0 < s.size) (w : World) :
    Calls Tryz.prog 61 #[.string s] w fun e w' => e = .returned (firV (firstN s.size s[0].toNat (s.data.toList.getD 1 0).toNat (s.data.toList.getD 2 0).toNat (s.data.toList.getD 3 0).toNat)) ∧ w' = w := by
  have h256 := s[0].toNat_lt
  obtain ⟨b0, h0⟩ : ∃ b0, s[0].toNat = b0 := ⟨_, rfl⟩
  rw [h0] at h256
  have g1 := getD_at s 1
  have g2 := getD_at s 2
  have g3 := getD_at s 3
  generalize (s.data.toList.getD 1 0).toNat = b1 at g1 ⊢
  generalize (s.data.toList.getD 2 0).toNat = b2 at g2 ⊢
  generalize (s.data.toList.getD 3 0).toNat = b3 at g3 ⊢
  rw [h0]
  unfold firstN
  by_cases c1 : b0 < 128
  · rw [if_pos c1]
    exact first_one s w h b0 h0 c1
  rw [if_neg c1]
  by_cases c2 : b0 < 194 ∨ 244 < b0
  · rw [if_pos c2]
    rcases c2 with c2 | c2
    · exact first_lo s w h b0 h0 (by omega) c2
    · exact first_hi s w h b0 h0 c2 (by omega)
  rw [if_neg c2]
  by_cases c3 : b0 < 224
  · rw [if_pos c3]
    by_cases hs : s.size < 2
    · rw [if_pos (.inl hs)]
      exact first2_short s w h b0 h0 (by omega) c3 hs
    have e1 := (g1 (by omega)).symm
    by_cases t1 : b1 / 64 = 2
    · rw [if_neg (by omega)]
      exact first2_ok s w h b0 h0 (by omega) c3 (by omega) b1 e1 t1 _ rfl
    · rw [if_pos (.inr t1)]
      exact first2_bad1 s w h b0 h0 (by omega) c3 (by omega) b1 e1 t1
  rw [if_neg c3]
  by_cases c4 : b0 < 240
  · rw [if_pos c4]
    by_cases hs : s.size < 3
    · rw [if_pos (.inl hs)]
      exact first3_short s w h b0 h0 (by omega) c4 hs
    have e1 := (g1 (by omega)).symm
    have e2 := (g2 (by omega)).symm
    by_cases t1 : b1 / 64 = 2
    · by_cases t2 : b2 / 64 = 2
      · obtain ⟨v, hv⟩ : ∃ v, 64 * (64 * (b0 % 16) + b1 % 64) + b2 % 64 = v := ⟨_, rfl⟩
        rw [hv]
        by_cases q1 : v < 2048
        · rw [if_pos (by omega)]
          exact first3_least s w h b0 h0 (by omega) c4 (by omega) b1 e1 t1 b2 e2 t2 v hv q1
        · by_cases q2 : v < 55296
          · rw [if_neg (by omega)]
            exact first3_ok1 s w h b0 h0 (by omega) c4 (by omega) b1 e1 t1 b2 e2 t2 v hv (by omega) q2
          · by_cases q3 : v ≤ 57343
            · rw [if_pos (by omega)]
              exact first3_half s w h b0 h0 (by omega) c4 (by omega) b1 e1 t1 b2 e2 t2 v hv (by omega) q3
            · rw [if_neg (by omega)]
              exact first3_ok2 s w h b0 h0 (by omega) c4 (by omega) b1 e1 t1 b2 e2 t2 v hv (by omega)
      · rw [if_pos (by omega)]
        exact first3_bad2 s w h b0 h0 (by omega) c4 (by omega) b1 e1 t1 b2 e2 t2
    · rw [if_pos (by omega)]
      exact first3_bad1 s w h b0 h0 (by omega) c4 (by omega) b1 e1 t1
  rw [if_neg c4]
  by_cases hs : s.size < 4
  · rw [if_pos (.inl hs)]
    exact first4_short s w h b0 h0 (by omega) (by omega) hs
  have e1 := (g1 (by omega)).symm
  have e2 := (g2 (by omega)).symm
  have e3 := (g3 (by omega)).symm
  by_cases t1 : b1 / 64 = 2
  · by_cases t2 : b2 / 64 = 2
    · by_cases t3 : b3 / 64 = 2
      · obtain ⟨v, hv⟩ : ∃ v, 64 * (64 * (64 * (b0 % 8) + b1 % 64) + b2 % 64) + b3 % 64 = v := ⟨_, rfl⟩
        rw [hv]
        by_cases q1 : v < 65536
        · rw [if_pos (by omega)]
          exact first4_least s w h b0 h0 (by omega) (by omega) (by omega) b1 e1 t1 b2 e2 t2 b3 e3 t3 v hv q1
        · by_cases q2 : 1114111 < v
          · rw [if_pos (by omega)]
            exact first4_great s w h b0 h0 (by omega) (by omega) (by omega) b1 e1 t1 b2 e2 t2 b3 e3 t3 v hv q2
          · rw [if_neg (by omega)]
            exact first4_ok s w h b0 h0 (by omega) (by omega) (by omega) b1 e1 t1 b2 e2 t2 b3 e3 t3 v hv (by omega) (by omega)
      · rw [if_pos (by omega)]
        exact first4_bad3 s w h b0 h0 (by omega) (by omega) (by omega) b1 e1 t1 b2 e2 t2 b3 e3 t3
    · rw [if_pos (by omega)]
      exact first4_bad2 s w h b0 h0 (by omega) (by omega) (by omega) b1 e1 t1 b2 e2 t2
  · rw [if_pos (by omega)]
    exact first4_bad1 s w h b0 h0 (by omega) (by omega) (by omega) b1 e1 t1

/-- What First tells: a character and its width, or (0, 0). -/
def firD (l : List UInt8) : Nat × Nat := if Lib.decodeL l = (65533, 1) then (0, 0) else Lib.decodeL l
theorem ref_First (s : ByteArray) (h : 0 < s.size) (w : World) :
    Calls Tryz.prog 61 #[.string s] w fun e w' => e = .returned (firV (firD s.data.toList)) ∧ w' = w := by
  refine (ref_FirstN s h w).mono ?_
  rintro e w' ⟨rfl, rfl⟩
  refine ⟨?_, rfl⟩
  have h1 := getD_at s 0 h
  have h2 : s.data.toList.length = s.size := by simp
  rw [firstN_eq _ _ _ _ _ (UInt8.toNat_lt _), ← h1, ← h2, ← Lib.decodeL_N]
  rfl
end Go.Proofs.YtgfeeakcpojicaaGreatDoor
