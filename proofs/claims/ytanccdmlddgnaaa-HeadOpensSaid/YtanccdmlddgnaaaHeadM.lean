/- The walk of head.Make. -/
import Derived.Test.YtanccdmlddgnaaaHeadL
import Derived.Lib.Hide
import Derived.Outline
namespace Go.Proofs.Ytanccdmlddgnaaa
open Go.RowKit Go.Shelf

theorem leastOf_cases (n : Int) (h0 : 0 ≤ n) : 0 ≤ (leastOf n).1 ∧ (leastOf n).1 ≤ 27 ∧ 0 ≤ (leastOf n).2 ∧ (leastOf n).2 ≤ 8 := by
  unfold leastOf
  split
  · exact ⟨h0, by omega, by omega, by omega⟩
  · split <;> (try split) <;> (try split) <;> simp

theorem Try.info8 : (Try.prog.info? 5).map (fun i => (i.zero, i.size, i.bytes)) = some (some (.int .u8 0), 1, 1) := by kernel_rfl

theorem head_bytes (base n : Nat) (v : Value) (l : List UInt8) (w : World) (h : w.ownsRow base 5 1 v n (byteVals l)) :
    Calls Try.prog 21 #[v] w fun e w' => e = .returned (.string ⟨l.toArray⟩) ∧ w = w' := by
  have hcv := run_string_own (P := Try.prog) (src := 36) (dst := 9) Try.underlying36 Try.underlying5 Try.underlying9 h
  go_enter Try.func21, Try.ntmps21
  go_wp2
  go_ret
  exact ⟨rfl, rfl⟩

/-- The first byte of a head, the bytes behind it: k of them, of n, the greatest ones first. -/
def firstByte (maj info : Nat) : UInt8 := UInt8.ofNat (32 * maj + info)
def beByte (n k i : Nat) : UInt8 := UInt8.ofNat (n / 2 ^ (8 * (k - 1 - i)))
theorem beByte_eq (n k i : Nat) : ((n : Int) / 2 ^ (8 * (k - 1 - i)) % 256) = ((beByte n k i).toNat : Int) := by
  unfold beByte
  rw [UInt8.toNat_ofNat', Int.natCast_emod, Int.natCast_ediv, Int.natCast_pow]
  rfl
def beBytes (n k : Nat) : List UInt8 := (List.range k).map (beByte n k)
def leastN (n : Nat) : Nat × Nat := ((leastOf n).1.toNat, (leastOf n).2.toNat)
def makeL (maj n : Nat) : List UInt8 := firstByte maj (leastN n).1 :: beBytes n (leastN n).2

theorem bits_first (maj info : Nat) (h : maj ≤ 7) (hi : info ≤ 31) : bits BinOp.or IntKind.i64 ((maj : Int) * 32) (info : Int) % 256 = ((firstByte maj info).toNat : Int) := by
  have : ∀ m : Fin 8, ∀ i : Fin 32, bits BinOp.or IntKind.i64 (((m.val : Nat) : Int) * 32) ((i.val : Nat) : Int) % 256 = ((firstByte m.val i.val).toNat : Int) := by decide +kernel
  exact this ⟨maj, by omega⟩ ⟨info, by omega⟩

set_option maxRecDepth 100000 in
set_option maxHeartbeats 400000 in
theorem head_Make (maj n : Nat) (hmaj : maj ≤ 7) (hn : n < 18446744073709551616) (w : World) :
    Calls Try.prog 11 #[.int .i64 maj, .int .u64 n] w fun e w' => e = .returned (.tuple #[.string ⟨(makeL maj n).toArray⟩, .int .i64 0]) ∧ Below w.heap.size w w' := by
  have hlc := leastOf_cases n (by omega)
  obtain ⟨info, hinfo⟩ : ∃ info : Nat, (leastOf n).1 = info := ⟨(leastOf n).1.toNat, by omega⟩
  obtain ⟨k, hk⟩ : ∃ k : Nat, (leastOf n).2 = k := ⟨(leastOf n).2.toNat, by omega⟩
  have hl := head_least n (by omega) (by omega)
  have hmk : makeL maj n = firstByte maj info :: beBytes n k := by simp [makeL, leastN, hinfo, hk]
  rw [hmk]
  rw [hinfo, hk] at hlc hl
  have hf := bits_first maj info hmaj (by omega)
  have HL := Lib.hid hl
  have HF := Lib.hid hf
  clear hl hf hinfo hk hmk
  have hkb : k ≤ 8 := by omega
  have hib : info ≤ 27 := by omega
  clear hlc
  obtain ⟨i0, hi, hz0, hz1, hz2⟩ := info_parts Try.info8
  go_enter Try.func11, Try.ntmps11
  go_wp2_with (go_at_call 20; refine (HL.out _).mono ?_; rintro e w1 ⟨rfl, hb1⟩)
  have hown0 : ((w1.alloc (Obj.cells #[Value.int IntKind.i64 ↑info, Value.int IntKind.i64 ↑k] 41)).alloc (Obj.cells #[Value.int IntKind.u8 (bits BinOp.or IntKind.i64 ((maj : Int) * 32) ↑info % 256)] 5)).ownsRow w.heap.size 5 1 (.slice (some ⟨w1.heap.size + 1, 0, none⟩) 1 1) 1 (byteVals [firstByte maj info]) := by
    rw [HF.out]
    have := World.ownsRow_lit (base := w.heap.size) (e := 5) (size := 1) (w1.alloc (Obj.cells #[Value.int IntKind.i64 ↑info, Value.int IntKind.i64 ↑k] 41)) #[Value.int IntKind.u8 ↑(firstByte maj info).toNat] 1 (by have := hb1.size; simp; omega) (by decide) rfl
    simpa [byteVals] using this
  go_loopw [7, 8] (fun v i wr => ∃ j : Nat, j ≤ k ∧ i = .int .i64 ((k : Int) - 1 - j) ∧ wr.ownsRow w.heap.size 5 1 v (1 + j) (byteVals (firstByte maj info :: (beBytes n k).take j)) ∧ Below w.heap.size w wr) (fun _ i _ => (intOf i + 1).toNat)
  case atStart => exact ⟨0, by omega, by simp, by simpa using hown0, (hb1.alloc hb1.size _).alloc (by have := hb1.size; simp; omega) _⟩
  case round =>
    obtain ⟨j, hj, rfl, hown, hbw⟩ := hrel
    by_cases hlt : j < k
    · have HB := Lib.hid (beByte_eq n k j)
      have hbz := hbw.size
      have HT := Lib.hid (show byteVals (firstByte maj info :: (beBytes n k).take j) ++ [Value.int .u8 ((beByte n k j).toNat : Int)] = byteVals (firstByte maj info :: (beBytes n k).take (j + 1)) by
        rw [List.take_succ_eq_append_getElem (by simp [beBytes]; omega)]; simp [byteVals, beBytes])
      go_wp2_with (at_builtin; refine wpList_append_own _ rfl _ _ 36 rfl w.heap.size 5 i0 (.int .u8 0) 1 1 Try.underlying36 hi hz0 hz1 hz2 rfl (by decide) _ _ _ rfl (hown.alloc _) ⟨wr.heap.size, 0, none⟩ 1 1 [.int .u8 ((n : Int) / 2 ^ (8 * (k - 1 - j)) % 256)] rfl rfl (cell_one_new _ _ _) (by simp [Value.oneCell']) (by unfold maxLen; omega) (by omega) (by simp; omega) ?_; intro v' w2 hown2 hgrow _)
      have hbw2 : Below w.heap.size w w2 := (hbw.alloc (by omega) _).grown hgrow (by simp; omega) (fun q e => (hown.lt q e).1)
      rw [HB.out, HT.out] at hown2
      go_roundw
      case rel => exact ⟨j + 1, by omega, by go_num, by rw [show 1 + (j + 1) = 1 + j + 1 by omega]; exact hown2, hbw2⟩
      case measure => simp [intOf]; omega
    · obtain rfl : j = k := by omega
      rw [List.take_of_length_le (by simp [beBytes])] at hown
      go_wp2_with (go_at_call 21; refine (head_bytes _ _ _ _ _ hown).mono ?_; rintro e w2 ⟨rfl, rfl⟩)
      go_ret2
      exact ⟨rfl, hbw⟩

theorem head_Make_no (maj n : Int) (hmaj : maj < 0 ∨ 7 < maj) (w : World) :
    Calls Try.prog 11 #[.int .i64 maj, .int .u64 n] w fun e w' => e = .returned (.tuple #[.string ⟨#[]⟩, .int .i64 2]) ∧ w = w' := by
  rcases hmaj with h | h
  · go_enter Try.func11, Try.ntmps11
    go_wp2
    go_ret2
    exact ⟨rfl, rfl⟩
  · have h0 : ¬ maj < 0 := by omega
    go_enter Try.func11, Try.ntmps11
    go_wp2
    go_ret2
    exact ⟨rfl, rfl⟩

theorem size_f0 (a b : Int) (w : World) : (Instr.field 41 (.agg #[.int .i64 a, .int .i64 b]) 0).run Try.prog w = .ok (.int .i64 a) w := by kernel_rfl
theorem size_f1 (a b : Int) (w : World) : (Instr.field 41 (.agg #[.int .i64 a, .int .i64 b]) 1).run Try.prog w = .ok (.int .i64 b) w := by kernel_rfl

theorem head_Size (n : Nat) (hn : n < 18446744073709551616) (w : World) :
    Calls Try.prog 15 #[.int .u64 n] w fun e w' => e = .returned (.int .i64 (1 + (leastN n).2 : Nat)) ∧ Below w.heap.size w w' := by
  have hlc := leastOf_cases n (by omega)
  obtain ⟨info, hinfo⟩ : ∃ info : Nat, (leastOf n).1 = info := ⟨(leastOf n).1.toNat, by omega⟩
  obtain ⟨k, hk⟩ : ∃ k : Nat, (leastOf n).2 = k := ⟨(leastOf n).2.toNat, by omega⟩
  have hl := head_least n (by omega) (by omega)
  have hmk : (leastN n).2 = k := by simp [leastN, hk]
  rw [hmk]
  rw [hinfo, hk] at hlc hl
  have HL := Lib.hid hl
  clear hl hinfo hk hmk
  have hkb : k ≤ 8 := by omega
  clear hlc
  have hf1 := size_f1
  go_enter Try.func15, Try.ntmps15
  go_wp2_with (go_at_call 20; refine (HL.out _).mono ?_; rintro e w1 ⟨rfl, hb1⟩)
  go_ret
  exact ⟨by go_num, hb1⟩

theorem head_IsShort (info n : Int) (h0 : 0 ≤ n) (hn : n < 18446744073709551616) (w : World) :
    Calls Try.prog 14 #[.int .i64 info, .int .u64 n] w fun e w' => e = .returned (.bool ((leastOf n).1 == info)) ∧ Below w.heap.size w w' := by
  obtain ⟨x, hx⟩ : ∃ x, (leastOf n).1 = x := ⟨_, rfl⟩
  obtain ⟨y, hy⟩ : ∃ y, (leastOf n).2 = y := ⟨_, rfl⟩
  have hl := head_least n h0 hn
  rw [hx, hy] at hl
  rw [hx]
  have HL := Lib.hid hl
  clear hl hx hy
  have hf0 := size_f0
  go_enter Try.func14, Try.ntmps14
  go_wp2_with (go_at_call 20; refine (HL.out _).mono ?_; rintro e w1 ⟨rfl, hb1⟩)
  go_ret
  exact ⟨rfl, hb1⟩
end Go.Proofs.Ytanccdmlddgnaaa
