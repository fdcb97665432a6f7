/- utf laws: escape; the reference's bytes of a character. -/
import Derived.Test.YtanccdmlddgnaaaDoorUtfP
import Derived.StillTailTactics
namespace Go.Proofs.YtanccdmlddgnaaaDoor
open Go.RowKit Go.Shelf

theorem wraps_u16 : ∀ n : Int, 0 ≤ n → n < 2 ^ 16 → IntKind.u16.wrap n = n := fun n h0 h1 => IntWalk.u16_in n (by omega)
theorem u16_and15 (x : Int) (h0 : 0 ≤ x) (h1 : x < 65536) : bits .and .u16 x 15 = x % 16 := bits_mask .u16 16 (by decide) wraps_u16 4 (by decide) x h0 h1

/-- A row of bytes known whole, as a string. -/
theorem run_convB {P : Program} {src dst e : TypeId} (hs : P.underlying src = some (.slice e)) (he : P.underlying e = some (.int .u8)) (hd : P.underlying dst = some .string) (l : List UInt8) (W : World) (b n : Nat) (hn : n = l.length) (h : Blk W b (byteVals l).toArray e) :
    (convert src dst (.slice (some ⟨b, 0, none⟩) n n)).run P W = .ok (.string ⟨l.toArray⟩) W := by
  subst hn
  refine run_convert_bytes_back _ src dst e ⟨b, 0, none⟩ l.length l hs he hd (fun j hj => ?_)
  have ea : (⟨b, 0, none⟩ : Addr).add j = ⟨b, j, none⟩ := by
    unfold Addr.add
    split
    · rename_i h0
      rw [h0]
    · simp
  rw [ea, h.cell j]
  simp [byteVals, hj]
theorem run_conv6 {P : Program} {src dst e : TypeId} (hs : P.underlying src = some (.slice e)) (he : P.underlying e = some (.int .u8)) (hd : P.underlying dst = some .string) (W : World) (c3 c2 c1 c0 : UInt8) :
    (convert src dst (.slice (some ⟨W.heap.size, 0, none⟩) 6 6)).run P (W.alloc (.cells #[.int .u8 92, .int .u8 117, .int .u8 (c3.toNat : Int), .int .u8 (c2.toNat : Int), .int .u8 (c1.toNat : Int), .int .u8 (c0.toNat : Int)] e)).drew =
      .ok (.string ⟨#[92, 117, c3, c2, c1, c0]⟩) (W.alloc (.cells #[.int .u8 92, .int .u8 117, .int .u8 (c3.toNat : Int), .int .u8 (c2.toNat : Int), .int .u8 (c1.toNat : Int), .int .u8 (c0.toNat : Int)] e)).drew :=
  run_convB hs he hd [92, 117, c3, c2, c1, c0] _ _ 6 rfl (Blk.new W _ _).drew

theorem hx_small (d : Nat) (h : d < 16) : hx d = hexAll[d]'h := by
  unfold hx
  simp only [Nat.mod_eq_of_lt h]
  rfl

set_option maxHeartbeats 2000000 in
set_option maxRecDepth 100000 in
theorem utf_escape (n : Nat) (hn : n < 65536) (w : World) :
    Calls Tryd.prog 13 #[.int .u16 (n : Int)] w fun e w' => e = .returned (.string ⟨([92, 117] ++ hex4 n).toArray⟩) ∧ Below w.heap.size w w' := by
  have b2 := u16_and15 ((n : Int) / 256) (by omega) (by omega)
  have b1 := u16_and15 ((n : Int) / 16) (by omega) (by omega)
  have b0 := u16_and15 (n : Int) (by omega) (by omega)
  have h3 : 0 ≤ (n : Int) / 4096 ∧ (n : Int) / 4096 < 16 := by omega
  have h2 : 0 ≤ (n : Int) / 256 % 16 ∧ (n : Int) / 256 % 16 < 16 := by omega
  have h1 : 0 ≤ (n : Int) / 16 % 16 ∧ (n : Int) / 16 % 16 < 16 := by omega
  have h0 : 0 ≤ (n : Int) % 16 ∧ (n : Int) % 16 < 16 := by omega
  have kcv := run_conv6 (P := Tryd.prog) Tryd.underlying31 Tryd.underlying5 Tryd.underlying9 w
  go_enter Tryd.func13, Tryd.ntmps13
  go_wp2_with fail
  go_still_tail 18, (by kernel_rfl)
  go_wp2_with fail
  go_ret
  refine ⟨?_, ((Below.refl _ w).alloc (Nat.le_refl _) _).drew⟩
  unfold hex4
  rw [hx_small (n / 4096) (by omega)]
  rfl

/-- A character's bytes, laid as a row, as a string. -/
theorem conv_rune {P : Program} {src dst e : TypeId} (hs : P.underlying src = some (.slice e)) (he : P.underlying e = some (.int .u8)) (hd : P.underlying dst = some .string) (c : Int) (W : World) (zs : List Int) (hz : Lib.encodeRuneZ c = zs) (n : Nat) (hn : n = zs.length) :
    (convert src dst (.slice (some ⟨W.heap.size, 0, none⟩) n n)).run P (W.alloc (.cells (zs.map (Value.int .u8)).toArray e)) = .ok (.string ⟨(Lib.encodeRune c).toArray⟩) (W.alloc (.cells (zs.map (Value.int .u8)).toArray e)) := by
  have hb := Lib.byteCells_encodeRune c
  have hl : (byteVals (Lib.encodeRune c)).toArray = (zs.map (Value.int .u8)).toArray := by
    have : byteVals (Lib.encodeRune c) = Lib.runeCells c := hb
    rw [this]
    unfold Lib.runeCells
    rw [hz]
  refine run_convB hs he hd (Lib.encodeRune c) _ _ n ?_ ?_
  · rw [hn, ← hz]
    simp [Lib.encodeRune]
  · rw [hl]
    exact Blk.new W _ _

set_option maxHeartbeats 2000000 in
set_option maxRecDepth 100000 in
theorem ref_Bytes (c : Int) (h0 : 0 ≤ c) (hc : charOk c.toNat) (w : World) :
    Calls Tryd.prog 14 #[.int .i64 c] w fun e w' => e = .returned (.string ⟨(Lib.encodeRune c).toArray⟩) ∧ Below w.heap.size w w' := by
  have hle : c ≤ 1114111 := by
    have := charOk_le hc
    omega
  unfold charOk at hc
  by_cases h1 : c ≤ 127
  · have kcv := conv_rune (P := Tryd.prog) Tryd.underlying31 Tryd.underlying5 Tryd.underlying9 c w _ (Lib.encodeRuneZ_one h0 h1) 1 rfl
    simp only [List.map_cons, List.map_nil] at kcv
    have z1 : c < 128 := by omega
    clear hc h1
    go_enter Tryd.func14, Tryd.ntmps14
    go_wp2_with fail
    go_ret
    exact ⟨rfl, (Below.refl _ w).alloc (Nat.le_refl _) _⟩
  · by_cases h2 : c ≤ 2047
    · have kcv := conv_rune (P := Tryd.prog) Tryd.underlying31 Tryd.underlying5 Tryd.underlying9 c w _ (Lib.encodeRuneZ_two (by omega) h2) 2 rfl
      simp only [List.map_cons, List.map_nil] at kcv
      have z1 : 128 ≤ c := by omega
      have z2 : c < 2048 := by omega
      have q1 : 0 ≤ 192 + c / 64 ∧ 192 + c / 64 < 256 := by omega
      have q2 : 0 ≤ 128 + c % 64 ∧ 128 + c % 64 < 256 := by omega
      clear hc h1 h2
      go_enter Tryd.func14, Tryd.ntmps14
      go_wp2_with fail
      go_ret
      exact ⟨rfl, (Below.refl _ w).alloc (Nat.le_refl _) _⟩
    · by_cases h3 : c ≤ 65535
      · have kcv := conv_rune (P := Tryd.prog) Tryd.underlying31 Tryd.underlying5 Tryd.underlying9 c w _ (Lib.encodeRuneZ_three (by omega)) 3 rfl
        simp only [List.map_cons, List.map_nil] at kcv
        have z1 : 2048 ≤ c := by omega
        have z2 : c < 65536 := by omega
        have q1 : 0 ≤ 224 + c / 4096 ∧ 224 + c / 4096 < 256 := by omega
        have q2 : 0 ≤ 128 + c / 64 % 64 ∧ 128 + c / 64 % 64 < 256 := by omega
        have q3 : 0 ≤ 128 + c % 64 ∧ 128 + c % 64 < 256 := by omega
        clear hc h1 h2 h3
        go_enter Tryd.func14, Tryd.ntmps14
        go_wp2_with fail
        go_ret
        exact ⟨rfl, (Below.refl _ w).alloc (Nat.le_refl _) _⟩
      · have kcv := conv_rune (P := Tryd.prog) Tryd.underlying31 Tryd.underlying5 Tryd.underlying9 c w _ (Lib.encodeRuneZ_four (by omega) hle) 4 rfl
        simp only [List.map_cons, List.map_nil] at kcv
        have z1 : 65536 ≤ c := by omega
        have q1 : 0 ≤ 240 + c / 262144 ∧ 240 + c / 262144 < 256 := by omega
        have q2 : 0 ≤ 128 + c / 4096 % 64 ∧ 128 + c / 4096 % 64 < 256 := by omega
        have q3 : 0 ≤ 128 + c / 64 % 64 ∧ 128 + c / 64 % 64 < 256 := by omega
        have q4 : 0 ≤ 128 + c % 64 ∧ 128 + c % 64 < 256 := by omega
        clear hc h1 h2 h3
        go_enter Tryd.func14, Tryd.ntmps14
        go_wp2_with fail
        go_ret
        exact ⟨rfl, (Below.refl _ w).alloc (Nat.le_refl _) _⟩

/-! ### what is told by its number -/
theorem hexv_all (k : Nat) (h : k < hexAll.size) : hexv (hexAll[k]'h).toNat = some k := by
  have h' : k < 16 := h
  obtain rfl | rfl | rfl | rfl | rfl | rfl | rfl | rfl | rfl | rfl | rfl | rfl | rfl | rfl | rfl | rfl : k = 0 ∨ k = 1 ∨ k = 2 ∨ k = 3 ∨ k = 4 ∨ k = 5 ∨ k = 6 ∨ k = 7 ∨ k = 8 ∨ k = 9 ∨ k = 10 ∨ k = 11 ∨ k = 12 ∨ k = 13 ∨ k = 14 ∨ k = 15 := by omega
  all_goals rfl
theorem hexv_hx (d : Nat) : hexv (hx d).toNat = some (d % 16) := hexv_all _ (hexAll_lt d)
theorem esc_len (n : Nat) (t : List UInt8) : (92 :: 117 :: (hex4 n ++ t)).length = t.length + 6 := by simp [hex4]
theorem hexAcc_cons {b : UInt8} {l : List UInt8} {n d : Nat} (h : hexv b.toNat = some d) : hexAcc (b :: l) n = hexAcc l (n * 16 + d) := by
  show (match hexv b.toNat with | some d => hexAcc l (n * 16 + d) | none => none) = _
  rw [h]
theorem hexL_hex4 (n : Nat) (hn : n < 65536) (t : List UInt8) : hexL (hex4 n ++ t) = some n := by
  unfold hexL
  rw [if_neg (by simp [hex4]), show (hex4 n ++ t).take 4 = hex4 n from rfl]
  unfold hex4
  rw [hexAcc_cons (hexv_hx _), hexAcc_cons (hexv_hx _), hexAcc_cons (hexv_hx _), hexAcc_cons (hexv_hx _)]
  show some _ = some n
  congr 1
  omega
theorem nextL_esc (t : List UInt8) : nextL (92 :: t) = partOf (escL t) := by
  rw [nextL_ne (by simp), Lib.decodeL_ascii 92 t (by decide)]
  rfl
theorem nextL_end (t : List UInt8) : nextL (34 :: t) = .ok (none, t) := by
  rw [nextL_ne (by simp), Lib.decodeL_ascii 34 t (by decide)]
  rfl
theorem escL_u (t : List UInt8) : escL (117 :: t) = numL t := by
  rw [escL_none t (by decide), if_pos (by decide)]
theorem numL_plain (n : Nat) (hn : n < 65536) (h : n < 55296 ∨ 57343 < n) (t : List UInt8) : numL (hex4 n ++ t) = some (n, t) := by
  unfold numL
  rw [hexL_hex4 n hn t]
  show (if _ then _ else _) = _
  rw [if_pos h]
  rfl
theorem numL_half (n : Nat) (hn : n < 65536) (h : ¬ (n < 55296 ∨ 57343 < n)) (t : List UInt8) : numL (hex4 n ++ t) = lowL n t := by
  unfold numL
  rw [hexL_hex4 n hn t]
  show (if _ then _ else _) = _
  rw [if_neg h]
  rfl
theorem unquoteL_in (t : List UInt8) : unquoteL (34 :: t) = unqL (t.length + 1) t := by
  unfold unquoteL
  rw [if_neg (by simp), Lib.decodeL_ascii 34 t (by decide)]
  rfl
theorem esc_str (n : Nat) (t : List UInt8) : [34] ++ ([92, 117] ++ hex4 n) ++ t = 34 :: 92 :: 117 :: (hex4 n ++ t) := by simp
/-- A character told by its number. -/
theorem unquote_num (n : Nat) (hn : n < 65536) (h : n < 55296 ∨ 57343 < n) : unquoteL ([34] ++ ([92, 117] ++ hex4 n) ++ [34, 93]) = .ok (Lib.encodeRune n, [93]) := by
  rw [esc_str]
  rw [unquoteL_in]
  have h1 : nextL (92 :: 117 :: (hex4 n ++ [34, 93])) = .ok (some n, [34, 93]) := by
    rw [nextL_esc, escL_u, numL_plain n hn h]
    rfl
  have h2 := unqL_part (f := 8) h1 (unqL_end (f := 7) (nextL_end [93]))
  rw [List.append_nil] at h2
  rw [esc_len]
  exact h2
theorem unquote_half (n : Nat) (hn : n < 65536) (h : ¬ (n < 55296 ∨ 57343 < n)) : unquoteL ([34] ++ ([92, 117] ++ hex4 n) ++ [34, 93]) = .error false := by
  rw [esc_str]
  rw [unquoteL_in, esc_len]
  have h1 : nextL (92 :: 117 :: (hex4 n ++ [34, 93])) = .error false := by
    rw [nextL_esc, escL_u, numL_half n hn h]
    rfl
  exact unqL_error h1
end Go.Proofs.YtanccdmlddgnaaaDoor
