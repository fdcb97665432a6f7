/- The texts HeadP, HeadQ, put together. -/
import Derived.Test.YtflkmhgbinlfiaaGreatDoorPq03
import Derived.BigQuiet
import Derived.Deep.QuietTactic
import Derived.Lib.Strings
import Derived.Outline
namespace Go.Proofs.YtflkmhgbinlfiaaGreatDoor

theorem leastN_small (n : Nat) (h : n < 24) : leastN n = (n, 0) := by
  unfold leastN leastOf; rw [if_pos (by omega)]; simp
theorem leastN_1 (n : Nat) (h : ¬ n < 24) (h1 : n < 256) : leastN n = (24, 1) := by
  unfold leastN leastOf; rw [if_neg (by omega), if_pos (by omega)]; rfl
theorem leastN_2 (n : Nat) (h1 : ¬ n < 256) (h2 : n < 65536) : leastN n = (25, 2) := by
  unfold leastN leastOf; rw [if_neg (by omega), if_neg (by omega), if_pos (by omega)]; rfl
theorem leastN_4 (n : Nat) (h1 : ¬ n < 65536) (h2 : n < 4294967296) : leastN n = (26, 4) := by
  unfold leastN leastOf; rw [if_neg (by omega), if_neg (by omega), if_neg (by omega), if_pos (by omega)]; rfl
theorem leastN_8 (n : Nat) (h1 : ¬ n < 4294967296) : leastN n = (27, 8) := by
  unfold leastN leastOf; rw [if_neg (by omega), if_neg (by omega), if_neg (by omega), if_neg (by omega)]; rfl

/-- What is known of a least size. -/
def LeastIs (n info k : Nat) : Prop := (n < 24 ∧ info = n ∧ k = 0) ∨ (24 ≤ n ∧ 24 ≤ info ∧ info ≤ 27 ∧ k = 2 ^ (info - 24) ∧ n < 2 ^ (8 * k) ∧ (info = 24 ∨ 2 ^ (8 * 2 ^ (info - 25)) ≤ n))
theorem leastN_is (n : Nat) (hn : n < 18446744073709551616) : LeastIs n (leastN n).1 (leastN n).2 := by
  by_cases h : n < 24
  · rw [leastN_small n h]; exact .inl ⟨h, rfl, rfl⟩
  · by_cases h1 : n < 256
    · rw [leastN_1 n h h1]; exact .inr ⟨by omega, by decide, by decide, rfl, h1, .inl rfl⟩
    · by_cases h2 : n < 65536
      · rw [leastN_2 n h1 h2]; exact .inr ⟨by omega, by decide, by decide, rfl, h2, .inr (by show 256 ≤ n; omega)⟩
      · by_cases h3 : n < 4294967296
        · rw [leastN_4 n h2 h3]; exact .inr ⟨by omega, by decide, by decide, rfl, h3, .inr (by show 65536 ≤ n; omega)⟩
        · rw [leastN_8 n h3]; exact .inr ⟨by omega, by decide, by decide, rfl, hn, .inr (by show 4294967296 ≤ n; omega)⟩

theorem beBytes_length (n k : Nat) : (beBytes n k).length = k := by simp [beBytes]
theorem makeL_length (maj n : Nat) : (makeL maj n).length = 1 + (leastN n).2 := by simp [makeL, beBytes_length]; omega

theorem firstByte_toNat (maj info : Nat) (h : maj ≤ 7) (hi : info ≤ 31) : (firstByte maj info).toNat = 32 * maj + info := by
  unfold firstByte
  rw [UInt8.toNat_ofNat']
  omega

theorem beBytes_succ (n k : Nat) : beBytes n (k + 1) = beBytes (n / 256) k ++ [UInt8.ofNat n] := by
  unfold beBytes
  rw [List.range_succ, List.map_append]
  congr 1
  · apply List.map_congr_left
    intro i hi
    have : i < k := List.mem_range.1 hi
    unfold beByte
    rw [show k + 1 - 1 - i = (k - 1 - i) + 1 by omega, Nat.mul_add, Nat.pow_add, Nat.div_div_eq_div_mul, Nat.mul_comm (2 ^ (8 * (k - 1 - i)))]
  · simp [beByte]

theorem beVal_beBytes (k : Nat) : ∀ n, n < 2 ^ (8 * k) → beVal (beBytes n k) = n := by
  induction k with
  | zero => intro n h; simp at h; subst h; rfl
  | succ k ih =>
    intro n h
    rw [beBytes_succ, beVal_snoc, ih (n / 256) (by rw [Nat.mul_add, Nat.pow_add] at h; exact Nat.div_lt_of_lt_mul (by rw [Nat.mul_comm]; exact h))]
    rw [UInt8.toNat_ofNat']
    omega

theorem beVal_lt (l : List UInt8) : beVal l < 2 ^ (8 * l.length) := by
  suffices h : ∀ (l : List UInt8), beVal l.reverse < 2 ^ (8 * l.length) by
    have := h l.reverse
    simpa using this
  intro l
  induction l with
  | nil => decide
  | cons b l ih =>
    rw [List.reverse_cons, beVal_snoc, List.length_cons, Nat.mul_add, Nat.pow_add]
    have := b.toNat_lt
    omega


theorem readL_first (maj info : Nat) (r : List UInt8) (h : maj ≤ 7) (hi : info ≤ 31) : readL (firstByte maj info :: r) =
    if info < 24 then ⟨maj, info, info, r, 0⟩
    else if info = 31 then ⟨maj, 31, 0, r, 0⟩
    else if 27 < info then ⟨0, 0, 0, firstByte maj info :: r, 101⟩
    else if r.length < 2 ^ (info - 24) then ⟨0, 0, 0, firstByte maj info :: r, 100⟩
    else ⟨maj, info, beVal (r.take (2 ^ (info - 24))), r.drop (2 ^ (info - 24)), 0⟩ := by
  have e := firstByte_toNat maj info h hi
  have e1 : (firstByte maj info).toNat / 32 = maj := by omega
  have e2 : (firstByte maj info).toNat % 32 = info := by omega
  unfold readL
  simp only [e1, e2]


end Go.Proofs.YtflkmhgbinlfiaaGreatDoor
namespace Go.Proofs.YtflkmhgbinlfiaaGreatDoor
open Go.RowKit Go.Shelf


attribute [local go_sem] jump_normal jump_exit jump_ret jump_panic jump_goto

def readV (r : ReadR) : Value := .tuple #[.int .i64 r.maj, .int .i64 r.info, .int .u64 r.arg, .string ⟨r.rest.toArray⟩, .int .i64 r.err]

theorem bits_info (b : UInt8) : bits BinOp.and IntKind.u8 (b.toNat : Int) 31 = ((b.toNat % 32 : Nat) : Int) := by
  have : ∀ n : Fin 256, bits BinOp.and IntKind.u8 ((n.val : Nat) : Int) 31 = ((n.val % 32 : Nat) : Int) := by decide +kernel
  exact this ⟨b.toNat, b.toNat_lt⟩

set_option maxRecDepth 100000 in
set_option maxHeartbeats 400000 in
theorem head_Read_nil (w : World) :
    Calls Tryz.prog 66 #[.string ⟨#[]⟩] w fun e w' => e = .returned (.tuple #[.int .i64 0, .int .i64 0, .int .u64 0, .string ⟨#[]⟩, .int .i64 100]) ∧ Below w.heap.size w w' := by
  go_enter Tryz.func66, Tryz.ntmps66
  go_wp2
  apply wp_scope_forward 0 rfl
  go_wp2
  go_step3
  simp +zetaDelta only [Exit.then, jump_goto]
  go_wp2
  rw [Exit.noGoto_ret]
  refine bodyPost_ret (v := .tuple #[.int .i64 0, .int .i64 0, .int .u64 0, .string ⟨#[]⟩, .int .i64 100]) (by simp [results, Tryz.results66, go_sem]) rfl ⟨rfl, Below.refl _ _⟩

set_option maxRecDepth 100000 in
set_option maxHeartbeats 400000 in
theorem head_Read_small (s : ByteArray) (h0 : 0 < s.size) (hs : s.size ≤ 9223372036854775807) (maj info : Nat) (hb : bits BinOp.and IntKind.u8 (s[0].toNat : Int) 31 = (info : Int)) (hm : (s[0].toNat : Int) / 32 = (maj : Int)) (hmaj : maj ≤ 7) (h : info < 24) (hne : s.toList.isEmpty = false) (w : World) :
    Calls Tryz.prog 66 #[.string s] w fun e w' => e = .returned (.tuple #[.int .i64 maj, .int .i64 info, .int .u64 info, .string (s.extract 1 s.size), .int .i64 0]) ∧ Below w.heap.size w w' := by
  go_enter Tryz.func66, Tryz.ntmps66
  go_wp2
  apply wp_scope_forward 0 rfl
  go_wp2
  go_quiet (fail)
  go_wp2
  rw [jump_ret]
  refine bodyPost_ret (v := .tuple #[.int .i64 maj, .int .i64 info, .int .u64 info, .string (s.extract 1 s.size), .int .i64 0]) (by simp [results, Tryz.results66, go_sem]) rfl ⟨rfl, below_drewN (Below.refl _ _) _⟩

set_option maxRecDepth 100000 in
set_option maxHeartbeats 400000 in
theorem head_Read_open (s : ByteArray) (h0 : 0 < s.size) (hs : s.size ≤ 9223372036854775807) (maj : Nat) (hb : bits BinOp.and IntKind.u8 (s[0].toNat : Int) 31 = 31) (hm : (s[0].toNat : Int) / 32 = (maj : Int)) (hmaj : maj ≤ 7) (hne : s.toList.isEmpty = false) (w : World) :
    Calls Tryz.prog 66 #[.string s] w fun e w' => e = .returned (.tuple #[.int .i64 maj, .int .i64 31, .int .u64 0, .string (s.extract 1 s.size), .int .i64 0]) ∧ Below w.heap.size w w' := by
  go_enter Tryz.func66, Tryz.ntmps66
  go_wp2
  apply wp_scope_forward 0 rfl
  go_wp2
  go_quiet (fail)
  go_wp2
  rw [jump_ret]
  refine bodyPost_ret (v := .tuple #[.int .i64 maj, .int .i64 31, .int .u64 0, .string (s.extract 1 s.size), .int .i64 0]) (by simp [results, Tryz.results66, go_sem]) rfl ⟨rfl, below_drewN (Below.refl _ _) _⟩

/-- The argument that so many bytes behind the first one tell. -/
def argOf (s : ByteArray) (j : Nat) : Nat := beVal ((s.data.toList.drop 1).take j)
theorem argOf_zero (s : ByteArray) : argOf s 0 = 0 := by simp [argOf, beVal]
theorem argOf_succ (s : ByteArray) (j : Nat) (h : j + 1 < s.size) : argOf s (j + 1) = argOf s j * 256 + ((s.extract 1 s.size)[j]'(by simp; omega)).toNat := by
  unfold argOf
  rw [List.take_succ_eq_append_getElem (by simp; omega), beVal_snoc]
  congr 2
  simp [ByteArray.getElem_eq_getElem_data, Nat.add_comm]
theorem argOf_le (s : ByteArray) (j : Nat) (h : j < s.size) : argOf s j < 256 ^ j := by
  induction j with
  | zero => rw [argOf_zero]; decide
  | succ j ih =>
    have h1 := ih (by omega)
    rw [argOf_succ s j (by omega), Nat.pow_succ]
    have h2 : ((s.extract 1 s.size)[j]'(by simp; omega)).toNat < 256 := UInt8.toNat_lt _
    omega
theorem argOf_lt (s : ByteArray) (j : Nat) (h : j < s.size ∧ j ≤ 7) : argOf s j < 72057594037927936 :=
  Nat.lt_of_lt_of_le (argOf_le s j h.1) (Nat.pow_le_pow_right (by decide) h.2)
theorem bits_shift_byte (a : Nat) (b : UInt8) (ha : a < 72057594037927936) : bits BinOp.or IntKind.u64 ((a : Int) * 256) (b.toNat : Int) = ((a * 256 + b.toNat : Nat) : Int) := by
  have hb := b.toNat_lt
  have e1 : ((a : Int) * 256) = ((a * 256 : Nat) : Int) := by omega
  rw [e1, u64_or_nat _ _ (by omega) (by omega)]
  congr 1
  have := Nat.shiftLeft_add_eq_or_of_lt (b := b.toNat) (i := 8) (by omega) a
  rw [Nat.shiftLeft_eq] at this
  rw [← this]
theorem argOf_bits (s : ByteArray) (j : Nat) (h : j + 1 < s.size) (h7 : j ≤ 7) : bits BinOp.or IntKind.u64 ((argOf s j : Int) * 256) (((s.extract 1 s.size)[j]'(by simp; omega)).toNat : Int) = (argOf s (j + 1) : Int) := by
  rw [bits_shift_byte _ _ (argOf_lt s j ⟨by omega, h7⟩), argOf_succ s j h]

def ReadLong (s : ByteArray) (maj info : Nat) (w : World) (e : Ending) (w' : World) : Prop :=
  ((info ≤ 27 ∧ 2 ^ (info - 24) + 1 ≤ s.size ∧ e = .returned (.tuple #[.int .i64 maj, .int .i64 info, .int .u64 (argOf s (2 ^ (info - 24)) : Nat), .string ((s.extract 1 s.size).extract (2 ^ (info - 24)) (s.size - 1)), .int .i64 0])) ∨
   (e = .returned (.tuple #[.int .i64 0, .int .i64 0, .int .u64 0, .string s, .int .i64 100]) ∧ info ≤ 27 ∧ s.size < 2 ^ (info - 24) + 1) ∨
   (e = .returned (.tuple #[.int .i64 0, .int .i64 0, .int .u64 0, .string s, .int .i64 101]) ∧ 27 < info)) ∧ Below w.heap.size w w'

set_option maxRecDepth 100000 in
set_option maxHeartbeats 4000000 in
theorem head_Read_long (s : ByteArray) (h0 : 0 < s.size) (hs : s.size ≤ 9223372036854775807) (maj info : Nat) (hb : bits BinOp.and IntKind.u8 (s[0].toNat : Int) 31 = (info : Int)) (hm : (s[0].toNat : Int) / 32 = (maj : Int)) (hmaj : maj ≤ 7) (h1 : 24 ≤ info) (h2 : info ≤ 30) (hne : s.toList.isEmpty = false) (w : World) :
    Calls Tryz.prog 66 #[.string s] w (ReadLong s maj info w) := by
  have i0 := szA0
  have i1 := szA1
  have i2 := szA2
  have i3 := szA3
  go_enter Tryz.func66, Tryz.ntmps66
  go_wp2
  apply wp_scope_forward 0 rfl
  go_wp2
  go_quiet (fail)
  go_wp2_with (go_at_call 78; refine (head_sizes _).mono ?_; rintro e w1 ⟨rfl, hb1⟩)
  go_loopw [9, 10, 43] (fun s9 s10 i wr => ∃ k : Nat, k ≤ 4 ∧ 24 + k ≤ info ∧ i = .int .i64 k ∧ s9 = .int .u64 0 ∧ s10 = .int .i64 101 ∧ Below w.heap.size w wr) (fun _ _ i _ => 4 - (intOf i).toNat)
  case atStart => exact ⟨0, by omega, by omega, rfl, rfl, rfl, (below_drewN (Below.refl _ _) _).trans hb1⟩
  case round =>
    obtain ⟨k, hk, hki, rfl, rfl, rfl, hbw⟩ := hrel
    by_cases hk4 : k < 4
    · obtain rfl | rfl | rfl | rfl : k = 0 ∨ k = 1 ∨ k = 2 ∨ k = 3 := by omega
      all_goals simp only [Int.cast_ofNat_Int]
      · by_cases he : info = 24
        · have hq : ((24 : Int) != (info : Int)) = false := by rw [bne_eq_false_iff_eq]; omega
          have HE := Lib.hid he
          have he1 : info ≤ 24 := by omega
          have he2 : 24 ≤ info := by omega
          clear he
          by_cases hsh : s.size < 1 + 1
          · go_wp2
            go_step3
            simp +zetaDelta only [Exit.then, Exit.inBlock, jump_goto]
            go_wp2
            rw [Exit.noGoto_ret]
            refine bodyPost_ret (v := .tuple #[.int .i64 0, .int .i64 0, .int .u64 0, .string s, .int .i64 100]) (by simp [results, Tryz.results66, go_sem]) rfl ⟨.inr (.inl ⟨rfl, by omega, by rw [HE.out]; exact hsh⟩), hbw.alloc hbw.size _⟩
          · go_wp2
            go_loop [9, 57] (fun s9 i => ∃ j : Nat, j ≤ 1 ∧ i = .int .i64 j ∧ s9 = .int .u64 (argOf s j : Nat)) (fun _ i => 1 - (intOf i).toNat)
            case atStart => exact ⟨0, by omega, rfl, by rw [argOf_zero]; rfl⟩
            case round =>
              obtain ⟨j, hj, rfl, rfl⟩ := hrel
              by_cases hlt : j < 1
              · have hv := argOf_lt s j (by omega)
                have hbb : (((s.extract 1 s.size)[j]'(by simp; omega)).toNat : Int) < 256 := by have := ((s.extract 1 s.size)[j]'(by simp; omega)).toNat_lt; omega
                have HB := Lib.hid (argOf_bits s j (by omega) (by omega))
                go_wp2
                go_round
                case rel => exact ⟨j + 1, by omega, by go_num, by rw [HB.out]⟩
                case measure => simp [intOf]; omega
              · obtain rfl : j = 1 := by omega
                go_wp2
                go_quiet (fail)
                go_wp2
                rw [jump_ret]
                refine bodyPost_ret (v := .tuple #[.int .i64 maj, .int .i64 info, .int .u64 (argOf s 1 : Nat), .string ((s.extract 1 s.size).extract 1 (s.size - 1)), .int .i64 0]) (by simp [results, Tryz.results66, go_sem]) rfl ⟨.inl ⟨by omega, by rw [HE.out]; omega, by rw [HE.out] <;> rfl⟩, below_drewN (hbw.alloc hbw.size _) _⟩
        · have hq : ((24 : Int) != (info : Int)) = true := by rw [bne_iff_ne]; omega
          go_wp2
          go_roundw
          case rel => exact ⟨1, by omega, by omega, rfl, rfl, rfl, hbw.alloc hbw.size _⟩
          case measure => simp [intOf]
      · by_cases he : info = 25
        · have hq : ((25 : Int) != (info : Int)) = false := by rw [bne_eq_false_iff_eq]; omega
          have HE := Lib.hid he
          have he1 : info ≤ 25 := by omega
          have he2 : 25 ≤ info := by omega
          clear he
          by_cases hsh : s.size < 2 + 1
          · go_wp2
            go_step3
            simp +zetaDelta only [Exit.then, Exit.inBlock, jump_goto]
            go_wp2
            rw [Exit.noGoto_ret]
            refine bodyPost_ret (v := .tuple #[.int .i64 0, .int .i64 0, .int .u64 0, .string s, .int .i64 100]) (by simp [results, Tryz.results66, go_sem]) rfl ⟨.inr (.inl ⟨rfl, by omega, by rw [HE.out]; exact hsh⟩), hbw.alloc hbw.size _⟩
          · go_wp2
            go_loop [9, 57] (fun s9 i => ∃ j : Nat, j ≤ 2 ∧ i = .int .i64 j ∧ s9 = .int .u64 (argOf s j : Nat)) (fun _ i => 2 - (intOf i).toNat)
            case atStart => exact ⟨0, by omega, rfl, by rw [argOf_zero]; rfl⟩
            case round =>
              obtain ⟨j, hj, rfl, rfl⟩ := hrel
              by_cases hlt : j < 2
              · have hv := argOf_lt s j (by omega)
                have hbb : (((s.extract 1 s.size)[j]'(by simp; omega)).toNat : Int) < 256 := by have := ((s.extract 1 s.size)[j]'(by simp; omega)).toNat_lt; omega
                have HB := Lib.hid (argOf_bits s j (by omega) (by omega))
                go_wp2
                go_round
                case rel => exact ⟨j + 1, by omega, by go_num, by rw [HB.out]⟩
                case measure => simp [intOf]; omega
              · obtain rfl : j = 2 := by omega
                go_wp2
                go_quiet (fail)
                go_wp2
                rw [jump_ret]
                refine bodyPost_ret (v := .tuple #[.int .i64 maj, .int .i64 info, .int .u64 (argOf s 2 : Nat), .string ((s.extract 1 s.size).extract 2 (s.size - 1)), .int .i64 0]) (by simp [results, Tryz.results66, go_sem]) rfl ⟨.inl ⟨by omega, by rw [HE.out]; omega, by rw [HE.out] <;> rfl⟩, below_drewN (hbw.alloc hbw.size _) _⟩
        · have hq : ((25 : Int) != (info : Int)) = true := by rw [bne_iff_ne]; omega
          go_wp2
          go_roundw
          case rel => exact ⟨2, by omega, by omega, rfl, rfl, rfl, hbw.alloc hbw.size _⟩
          case measure => simp [intOf]
      · by_cases he : info = 26
        · have hq : ((26 : Int) != (info : Int)) = false := by rw [bne_eq_false_iff_eq]; omega
          have HE := Lib.hid he
          have he1 : info ≤ 26 := by omega
          have he2 : 26 ≤ info := by omega
          clear he
          by_cases hsh : s.size < 4 + 1
          · go_wp2
            go_step3
            simp +zetaDelta only [Exit.then, Exit.inBlock, jump_goto]
            go_wp2
            rw [Exit.noGoto_ret]
            refine bodyPost_ret (v := .tuple #[.int .i64 0, .int .i64 0, .int .u64 0, .string s, .int .i64 100]) (by simp [results, Tryz.results66, go_sem]) rfl ⟨.inr (.inl ⟨rfl, by omega, by rw [HE.out]; exact hsh⟩), hbw.alloc hbw.size _⟩
          · go_wp2
            go_loop [9, 57] (fun s9 i => ∃ j : Nat, j ≤ 4 ∧ i = .int .i64 j ∧ s9 = .int .u64 (argOf s j : Nat)) (fun _ i => 4 - (intOf i).toNat)
            case atStart => exact ⟨0, by omega, rfl, by rw [argOf_zero]; rfl⟩
            case round =>
              obtain ⟨j, hj, rfl, rfl⟩ := hrel
              by_cases hlt : j < 4
              · have hv := argOf_lt s j (by omega)
                have hbb : (((s.extract 1 s.size)[j]'(by simp; omega)).toNat : Int) < 256 := by have := ((s.extract 1 s.size)[j]'(by simp; omega)).toNat_lt; omega
                have HB := Lib.hid (argOf_bits s j (by omega) (by omega))
                go_wp2
                go_round
                case rel => exact ⟨j + 1, by omega, by go_num, by rw [HB.out]⟩
                case measure => simp [intOf]; omega
              · obtain rfl : j = 4 := by omega
                go_wp2
                go_quiet (fail)
                go_wp2
                rw [jump_ret]
                refine bodyPost_ret (v := .tuple #[.int .i64 maj, .int .i64 info, .int .u64 (argOf s 4 : Nat), .string ((s.extract 1 s.size).extract 4 (s.size - 1)), .int .i64 0]) (by simp [results, Tryz.results66, go_sem]) rfl ⟨.inl ⟨by omega, by rw [HE.out]; omega, by rw [HE.out] <;> rfl⟩, below_drewN (hbw.alloc hbw.size _) _⟩
        · have hq : ((26 : Int) != (info : Int)) = true := by rw [bne_iff_ne]; omega
          go_wp2
          go_roundw
          case rel => exact ⟨3, by omega, by omega, rfl, rfl, rfl, hbw.alloc hbw.size _⟩
          case measure => simp [intOf]
      · by_cases he : info = 27
        · have hq : ((27 : Int) != (info : Int)) = false := by rw [bne_eq_false_iff_eq]; omega
          have HE := Lib.hid he
          have he1 : info ≤ 27 := by omega
          have he2 : 27 ≤ info := by omega
          clear he
          by_cases hsh : s.size < 8 + 1
          · go_wp2
            go_step3
            simp +zetaDelta only [Exit.then, Exit.inBlock, jump_goto]
            go_wp2
            rw [Exit.noGoto_ret]
            refine bodyPost_ret (v := .tuple #[.int .i64 0, .int .i64 0, .int .u64 0, .string s, .int .i64 100]) (by simp [results, Tryz.results66, go_sem]) rfl ⟨.inr (.inl ⟨rfl, by omega, by rw [HE.out]; exact hsh⟩), hbw.alloc hbw.size _⟩
          · go_wp2
            go_loop [9, 57] (fun s9 i => ∃ j : Nat, j ≤ 8 ∧ i = .int .i64 j ∧ s9 = .int .u64 (argOf s j : Nat)) (fun _ i => 8 - (intOf i).toNat)
            case atStart => exact ⟨0, by omega, rfl, by rw [argOf_zero]; rfl⟩
            case round =>
              obtain ⟨j, hj, rfl, rfl⟩ := hrel
              by_cases hlt : j < 8
              · have hv := argOf_lt s j (by omega)
                have hbb : (((s.extract 1 s.size)[j]'(by simp; omega)).toNat : Int) < 256 := by have := ((s.extract 1 s.size)[j]'(by simp; omega)).toNat_lt; omega
                have HB := Lib.hid (argOf_bits s j (by omega) (by omega))
                go_wp2
                go_round
                case rel => exact ⟨j + 1, by omega, by go_num, by rw [HB.out]⟩
                case measure => simp [intOf]; omega
              · obtain rfl : j = 8 := by omega
                go_wp2
                go_quiet (fail)
                go_wp2
                rw [jump_ret]
                refine bodyPost_ret (v := .tuple #[.int .i64 maj, .int .i64 info, .int .u64 (argOf s 8 : Nat), .string ((s.extract 1 s.size).extract 8 (s.size - 1)), .int .i64 0]) (by simp [results, Tryz.results66, go_sem]) rfl ⟨.inl ⟨by omega, by rw [HE.out]; omega, by rw [HE.out] <;> rfl⟩, below_drewN (hbw.alloc hbw.size _) _⟩
        · have hq : ((27 : Int) != (info : Int)) = true := by rw [bne_iff_ne]; omega
          go_wp2
          go_roundw
          case rel => exact ⟨4, by omega, by omega, rfl, rfl, rfl, hbw.alloc hbw.size _⟩
          case measure => simp [intOf]
    · obtain rfl : k = 4 := by omega
      go_wp2
      go_step3
      go_wp2
      rw [jump_ret]
      refine bodyPost_ret (v := .tuple #[.int .i64 0, .int .i64 0, .int .u64 0, .string s, .int .i64 101]) (by simp [results, Tryz.results66, go_sem]) rfl ⟨.inr (.inr ⟨rfl, by omega⟩), hbw⟩

theorem str_extract (s : ByteArray) (a b : Nat) : s.extract a b = ⟨((s.data.toList.drop a).take (b - a)).toArray⟩ := by
  apply ByteArray.ext
  apply Array.toList_inj.1
  rw [Lib.extract_data]
theorem str_from (s : ByteArray) (a : Nat) : s.extract a s.size = ⟨(s.data.toList.drop a).toArray⟩ := by
  rw [str_extract]
  congr 2
  exact List.take_of_length_le (by simp)

theorem readL_consQ (b : UInt8) (r : List UInt8) : readL (b :: r) =
    if b.toNat % 32 < 24 then ⟨b.toNat / 32, b.toNat % 32, b.toNat % 32, r, 0⟩
    else if b.toNat % 32 = 31 then ⟨b.toNat / 32, 31, 0, r, 0⟩
    else if 27 < b.toNat % 32 then ⟨0, 0, 0, b :: r, 101⟩
    else if r.length < 2 ^ (b.toNat % 32 - 24) then ⟨0, 0, 0, b :: r, 100⟩
    else ⟨b.toNat / 32, b.toNat % 32, beVal (r.take (2 ^ (b.toNat % 32 - 24))), r.drop (2 ^ (b.toNat % 32 - 24)), 0⟩ := rfl

theorem head_Read (s : ByteArray) (hs : s.size ≤ 9223372036854775807) (w : World) :
    Calls Tryz.prog 66 #[.string s] w fun e w' => e = .returned (readV (readL s.data.toList)) ∧ Below w.heap.size w w' := by
  by_cases h0 : 0 < s.size
  · obtain ⟨b, r, hl⟩ : ∃ b r, s.data.toList = b :: r := by
      cases h : s.data.toList with
      | nil =>
        have : s.data.toList.length = s.size := by simp
        rw [h] at this
        simp at this
        omega
      | cons b r => exact ⟨b, r, rfl⟩
    have hlen : s.size = r.length + 1 := by
      have : s.data.toList.length = s.size := by simp
      rw [hl] at this
      simpa using this.symm
    have hb0 : s[0] = b := by
      have : s.data.toList[0]? = some b := by rw [hl]; rfl
      rw [ByteArray.getElem_eq_getElem_data]
      have h2 : s.data[0]? = some b := by simpa using this
      exact (Array.getElem?_eq_some_iff.1 h2).2
    have hb : bits BinOp.and IntKind.u8 (s[0].toNat : Int) 31 = ((b.toNat % 32 : Nat) : Int) := by rw [hb0]; exact bits_info b
    have hm : (s[0].toNat : Int) / 32 = ((b.toNat / 32 : Nat) : Int) := by rw [hb0]; omega
    have hb256 := b.toNat_lt
    have hmaj : b.toNat / 32 ≤ 7 := by omega
    have hne : s.toList.isEmpty = false := by
      rw [ByteArray.toList_eq, hl]
      rfl
    have e1 : s.extract 1 s.size = ⟨r.toArray⟩ := by rw [str_from, hl]; rfl
    rw [hl, readL_consQ]
    by_cases c1 : b.toNat % 32 < 24
    · refine (head_Read_small s h0 hs _ _ hb hm hmaj c1 hne w).mono fun e w' h => ?_
      rw [if_pos c1]
      rw [e1] at h
      exact h
    · rw [if_neg c1]
      by_cases c2 : b.toNat % 32 = 31
      · rw [c2] at hb
        refine (head_Read_open s h0 hs _ hb hm hmaj hne w).mono fun e w' h => ?_
        rw [if_pos c2]
        rw [e1] at h
        exact h
      · rw [if_neg c2]
        refine (head_Read_long s h0 hs _ _ hb hm hmaj (by omega) (by omega) hne w).mono fun e w' h => ?_
        have es : (⟨(b :: r).toArray⟩ : ByteArray) = s := by rw [← hl]
        obtain ⟨h | h | h, hw⟩ := h
        · obtain ⟨h27, hsz, rfl⟩ := h
          rw [if_neg (by omega), if_neg (by omega)]
          refine ⟨?_, hw⟩
          have e2 : (s.extract 1 s.size).extract (2 ^ (b.toNat % 32 - 24)) (s.size - 1) = ⟨(r.drop (2 ^ (b.toNat % 32 - 24))).toArray⟩ := by
            rw [e1, str_extract]
            congr 2
            exact List.take_of_length_le (by simp; omega)
          rw [e2]
          have e3 : argOf s (2 ^ (b.toNat % 32 - 24)) = beVal (r.take (2 ^ (b.toNat % 32 - 24))) := by
            unfold argOf
            rw [hl]
            rfl
          rw [e3]
          rfl
        · obtain ⟨rfl, h27, hsz⟩ := h
          refine ⟨?_, hw⟩
          rw [if_neg (by omega), if_pos (by omega)]
          unfold readV
          rw [es]
          rfl
        · obtain ⟨rfl, h27⟩ := h
          rw [if_pos h27]
          refine ⟨?_, hw⟩
          unfold readV
          rw [es]
          rfl
  · have h1 : s = ⟨#[]⟩ := by
      apply ByteArray.ext
      apply Array.eq_empty_of_size_eq_zero
      have : s.data.size = s.size := rfl
      omega
    subst h1
    exact head_Read_nil w

end Go.Proofs.YtflkmhgbinlfiaaGreatDoor
