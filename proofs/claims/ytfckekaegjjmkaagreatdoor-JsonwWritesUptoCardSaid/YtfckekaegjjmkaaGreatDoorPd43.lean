/- The texts WrB, RtC, put together. -/
import Derived.Test.YtfckekaegjjmkaaGreatDoorPd14
import Derived.Test.YtfckekaegjjmkaaGreatDoorPd16
import Derived.Test.YtfckekaegjjmkaaGreatDoorPd13
import Derived.BigRegion
import Derived.RegionTactic
import Derived.Laws.Bits64b
namespace Go.Proofs.YtfckekaegjjmkaaGreatDoor
open Go.RowKit Go.Shelf

set_option maxHeartbeats 4000000 in
set_option maxRecDepth 100000 in
theorem ref_Key (f : Int) (o : Own) (v : Value) (w : World) (hd : o.dg.size ≤ 9223372036854775807) :
    Calls Tryz.prog 71 #[nodeV o v, .int .i64 f] w fun e w' => e = .returned (.bool (keyO f o)) ∧ Below w.heap.size w w' := by
  obtain ⟨kind, b, neg, dg, ex, u, wd, s⟩ := o
  have HI := Lib.hid (ref_ToInt neg dg ex hd)
  simp only [] at hd
  clear hd
  unfold nodeV keyO
  simp only []
  by_cases hf : f = 1
  · subst hf
    by_cases h5 : kind = 5
    · subst h5
      rw [if_pos rfl]
      have hbx := (Below.refl w.heap.size w).alloc (Nat.le_refl _) (.cells #[.int .i64 5, .bool b, .bool neg, .string dg, .int .i64 ex, .int .u64 u, .int .i64 wd, .string s, v] 27)
      have hkx := Blk.new w #[.int .i64 5, .bool b, .bool neg, .string dg, .int .i64 ex, .int .u64 u, .int .i64 wd, .string s, v] 27
      have c0 := hkx.cell 0
      have c1 := hkx.cell 1
      have c2 := hkx.cell 2
      have c3 := hkx.cell 3
      have c4 := hkx.cell 4
      have c5 := hkx.cell 5
      have c6 := hkx.cell 6
      have c7 := hkx.cell 7
      have c8 := hkx.cell 8
      go_enter Tryz.func71, Tryz.ntmps71
      go_wp2_with fail
      go_ret
      exact ⟨rfl, hbx⟩
    · rw [if_neg h5, if_pos rfl]
      have y5 : (kind == 5) = false := by rw [beq_eq_false_iff_ne]; exact h5
      cases y3 : (kind == 3) with
      | true =>
        clear h5
        have hbx := (Below.refl w.heap.size w).alloc (Nat.le_refl _) (.cells #[.int .i64 kind, .bool b, .bool neg, .string dg, .int .i64 ex, .int .u64 u, .int .i64 wd, .string s, v] 27)
        have hkx := Blk.new w #[.int .i64 kind, .bool b, .bool neg, .string dg, .int .i64 ex, .int .u64 u, .int .i64 wd, .string s, v] 27
        have c0 := hkx.cell 0
        have c1 := hkx.cell 1
        have c2 := hkx.cell 2
        have c3 := hkx.cell 3
        have c4 := hkx.cell 4
        have c5 := hkx.cell 5
        have c6 := hkx.cell 6
        have c7 := hkx.cell 7
        have c8 := hkx.cell 8
        go_enter Tryz.func71, Tryz.ntmps71
        go_wp2_with fail
        go_ret
        exact ⟨rfl, hbx⟩
      | false =>
        clear h5
        have hbx := (Below.refl w.heap.size w).alloc (Nat.le_refl _) (.cells #[.int .i64 kind, .bool b, .bool neg, .string dg, .int .i64 ex, .int .u64 u, .int .i64 wd, .string s, v] 27)
        have hkx := Blk.new w #[.int .i64 kind, .bool b, .bool neg, .string dg, .int .i64 ex, .int .u64 u, .int .i64 wd, .string s, v] 27
        have c0 := hkx.cell 0
        have c1 := hkx.cell 1
        have c2 := hkx.cell 2
        have c3 := hkx.cell 3
        have c4 := hkx.cell 4
        have c5 := hkx.cell 5
        have c6 := hkx.cell 6
        have c7 := hkx.cell 7
        have c8 := hkx.cell 8
        go_enter Tryz.func71, Tryz.ntmps71
        go_wp2_with fail
        go_ret
        exact ⟨rfl, hbx⟩
  · have hf1 : (f != 1) = true := by rw [bne_iff_ne]; exact hf
    by_cases h5 : kind = 5
    · subst h5
      rw [if_pos rfl]
      have hbx := (Below.refl w.heap.size w).alloc (Nat.le_refl _) (.cells #[.int .i64 5, .bool b, .bool neg, .string dg, .int .i64 ex, .int .u64 u, .int .i64 wd, .string s, v] 27)
      have hkx := Blk.new w #[.int .i64 5, .bool b, .bool neg, .string dg, .int .i64 ex, .int .u64 u, .int .i64 wd, .string s, v] 27
      have c0 := hkx.cell 0
      have c1 := hkx.cell 1
      have c2 := hkx.cell 2
      have c3 := hkx.cell 3
      have c4 := hkx.cell 4
      have c5 := hkx.cell 5
      have c6 := hkx.cell 6
      have c7 := hkx.cell 7
      have c8 := hkx.cell 8
      go_enter Tryz.func71, Tryz.ntmps71
      go_wp2_with fail
      go_ret
      exact ⟨rfl, hbx⟩
    · rw [if_neg h5, if_neg hf]
      have y5 : (kind == 5) = false := by rw [beq_eq_false_iff_ne]; exact h5
      by_cases h3 : kind = 3
      · subst h3
        rw [if_pos rfl]
        clear h5 y5
        have hbx := (Below.refl w.heap.size w).alloc (Nat.le_refl _) (.cells #[.int .i64 3, .bool b, .bool neg, .string dg, .int .i64 ex, .int .u64 u, .int .i64 wd, .string s, v] 27)
        have hkx := Blk.new w #[.int .i64 3, .bool b, .bool neg, .string dg, .int .i64 ex, .int .u64 u, .int .i64 wd, .string s, v] 27
        have c0 := hkx.cell 0
        have c1 := hkx.cell 1
        have c2 := hkx.cell 2
        have c3 := hkx.cell 3
        have c4 := hkx.cell 4
        have c5 := hkx.cell 5
        have c6 := hkx.cell 6
        have c7 := hkx.cell 7
        have c8 := hkx.cell 8
        cases hv : toIntD neg dg ex with
        | none =>
          rw [hv] at HI
          unfold toIntV at HI
          clear hv
          go_enter Tryz.func71, Tryz.ntmps71
          go_wp2_with fail
          refine (HI.out _).mono ?_
          rintro e w2 ⟨rfl, hb⟩
          have hb2 := hbx.trans (hb.mono hbx.size)
          go_wp2_with fail
          go_ret
          exact ⟨rfl, hb2⟩
        | some r =>
          obtain ⟨n, k⟩ := r
          rw [hv] at HI
          unfold toIntV at HI
          clear hv
          go_enter Tryz.func71, Tryz.ntmps71
          go_wp2_with fail
          refine (HI.out _).mono ?_
          rintro e w2 ⟨rfl, hb⟩
          have hb2 := hbx.trans (hb.mono hbx.size)
          go_wp2_with fail
          go_ret
          exact ⟨rfl, hb2⟩
      · rw [if_neg h3]
        have y3 : (kind == 3) = false := by rw [beq_eq_false_iff_ne]; exact h3
        rw [show decide (kind = 6) = (kind == 6) from rfl, show decide (kind = 2) = (kind == 2) from rfl, show decide (kind = 1) = (kind == 1) from rfl]
        cases y6 : (kind == 6) with
        | true =>
          clear h5 h3
          have hbx := (Below.refl w.heap.size w).alloc (Nat.le_refl _) (.cells #[.int .i64 kind, .bool b, .bool neg, .string dg, .int .i64 ex, .int .u64 u, .int .i64 wd, .string s, v] 27)
          have hkx := Blk.new w #[.int .i64 kind, .bool b, .bool neg, .string dg, .int .i64 ex, .int .u64 u, .int .i64 wd, .string s, v] 27
          have c0 := hkx.cell 0
          have c1 := hkx.cell 1
          have c2 := hkx.cell 2
          have c3 := hkx.cell 3
          have c4 := hkx.cell 4
          have c5 := hkx.cell 5
          have c6 := hkx.cell 6
          have c7 := hkx.cell 7
          have c8 := hkx.cell 8
          go_enter Tryz.func71, Tryz.ntmps71
          go_wp2_with fail
          go_ret
          exact ⟨rfl, hbx⟩
        | false =>
          cases y2 : (kind == 2) with
          | true =>
            clear h5 h3
            have hbx := (Below.refl w.heap.size w).alloc (Nat.le_refl _) (.cells #[.int .i64 kind, .bool b, .bool neg, .string dg, .int .i64 ex, .int .u64 u, .int .i64 wd, .string s, v] 27)
            have hkx := Blk.new w #[.int .i64 kind, .bool b, .bool neg, .string dg, .int .i64 ex, .int .u64 u, .int .i64 wd, .string s, v] 27
            have c0 := hkx.cell 0
            have c1 := hkx.cell 1
            have c2 := hkx.cell 2
            have c3 := hkx.cell 3
            have c4 := hkx.cell 4
            have c5 := hkx.cell 5
            have c6 := hkx.cell 6
            have c7 := hkx.cell 7
            have c8 := hkx.cell 8
            go_enter Tryz.func71, Tryz.ntmps71
            go_wp2_with fail
            go_ret
            exact ⟨rfl, hbx⟩
          | false =>
            cases y1 : (kind == 1) with
            | true =>
              clear h5 h3
              have hbx := (Below.refl w.heap.size w).alloc (Nat.le_refl _) (.cells #[.int .i64 kind, .bool b, .bool neg, .string dg, .int .i64 ex, .int .u64 u, .int .i64 wd, .string s, v] 27)
              have hkx := Blk.new w #[.int .i64 kind, .bool b, .bool neg, .string dg, .int .i64 ex, .int .u64 u, .int .i64 wd, .string s, v] 27
              have c0 := hkx.cell 0
              have c1 := hkx.cell 1
              have c2 := hkx.cell 2
              have c3 := hkx.cell 3
              have c4 := hkx.cell 4
              have c5 := hkx.cell 5
              have c6 := hkx.cell 6
              have c7 := hkx.cell 7
              have c8 := hkx.cell 8
              go_enter Tryz.func71, Tryz.ntmps71
              go_wp2_with fail
              go_ret
              exact ⟨rfl, hbx⟩
            | false =>
              clear h5 h3
              have hbx := (Below.refl w.heap.size w).alloc (Nat.le_refl _) (.cells #[.int .i64 kind, .bool b, .bool neg, .string dg, .int .i64 ex, .int .u64 u, .int .i64 wd, .string s, v] 27)
              have hkx := Blk.new w #[.int .i64 kind, .bool b, .bool neg, .string dg, .int .i64 ex, .int .u64 u, .int .i64 wd, .string s, v] 27
              have c0 := hkx.cell 0
              have c1 := hkx.cell 1
              have c2 := hkx.cell 2
              have c3 := hkx.cell 3
              have c4 := hkx.cell 4
              have c5 := hkx.cell 5
              have c6 := hkx.cell 6
              have c7 := hkx.cell 7
              have c8 := hkx.cell 8
              go_enter Tryz.func71, Tryz.ntmps71
              go_wp2_with fail
              go_ret
              exact ⟨rfl, hbx⟩
end Go.Proofs.YtfckekaegjjmkaaGreatDoor
namespace Go.Proofs.YtfckekaegjjmkaaGreatDoor
open Go.RowKit Go.Shelf

theorem and_mask (a m : Int) (ha : 0 ≤ a) (ha2 : a < 18446744073709551616) (hm : 0 ≤ m) (hm2 : m < 18446744073709551616) : 0 ≤ bits .and .u64 a m ∧ bits .and .u64 a m ≤ m := by
  obtain ⟨x, rfl⟩ := Int.eq_ofNat_of_zero_le ha
  obtain ⟨y, rfl⟩ := Int.eq_ofNat_of_zero_le hm
  rw [bits_and_u64_nat x y (by omega) (by omega)]
  have : x &&& y ≤ y := Nat.and_le_right
  omega
theorem sizes16 (w : World) : Calls Tryz.prog 109 #[.int .i64 16] w fun e w' => e = .returned (.tuple #[.int .i64 10, .int .i64 5]) ∧ w' = w := ref_sizes 16 w
theorem sizes32 (w : World) : Calls Tryz.prog 109 #[.int .i64 32] w fun e w' => e = .returned (.tuple #[.int .i64 23, .int .i64 8]) ∧ w' = w := ref_sizes 32 w

set_option maxHeartbeats 4000000 in
set_option maxRecDepth 100000 in
theorem widen16 (u : Int) (h0 : 0 ≤ u) (hu : u < 18446744073709551616) (w : World) :
    Calls Tryz.prog 68 #[.int .u64 u, .int .i64 16] w fun e w' => (∃ r, e = .returned (.tuple #[.int .u64 r, .int .i64 (if decide (u < 65536) = true then 0 else 2)])) ∧ Below w.heap.size w w' := by
  have HW := Lib.hid (show ∀ w, Calls Tryz.prog 108 #[.int .i64 16] w fun e w' => e = .returned (.bool true) ∧ w' = w from ref_IsWidth 16)
  have HS := Lib.hid sizes16
  by_cases h : u < 65536
  · rw [decide_eq_true h]
    have z1 : (u / 65536 != 0) = false := by rw [bne_eq_false_iff_eq]; omega
    have hf := and_mask u 1023 h0 hu (by omega) (by omega)
    obtain ⟨f, hff⟩ : ∃ f, bits .and .u64 u 1023 = f := ⟨_, rfl⟩
    rw [hff] at hf
    obtain ⟨ev, hev⟩ : ∃ ev, wrap64 (bits .and .u64 (u / 1024) 31) = ev := ⟨_, rfl⟩
    clear h
    go_enter Tryz.func68, Tryz.ntmps68
    go_wp2_with fail
    refine (HW.out _).mono ?_
    rintro e w2 ⟨rfl, rfl⟩
    clear HW
    go_wp2_with fail
    refine (HS.out _).mono ?_
    rintro e w2 ⟨rfl, rfl⟩
    clear HS
    go_wp2_with fail
    go_region
    have hdr : Below w2.heap.size w2 w2.drew := (Below.refl _ _).drew
    go_wp2_with fail
    · go_ret2
      exact ⟨⟨_, rfl⟩, hdr⟩
    · go_ret2
      exact ⟨⟨_, rfl⟩, hdr⟩
    · have hf0 : f ≠ 0 := by
        intro e
        have hq : (f == 0) = false := by assumption
        rw [e] at hq
        exact absurd hq (by decide)
      go_loopw [9, 10] (fun i j wr => ∃ ei fi : Int, 0 < fi ∧ fi ≤ 2048 ∧ i = .int .i64 ei ∧ j = .int .u64 fi ∧ wr = w2.drew) (fun _ j _ => 2048 - (intOf j).toNat)
      case atStart => exact ⟨1, f, by omega, by omega, rfl, rfl, rfl⟩
      case round =>
        obtain ⟨ei, fi, hf1, hf2, rfl, rfl, rfl⟩ := hrel
        by_cases hlt : fi < 1024
        · have y1 : fi / 1024 = 0 := by omega
          have y2 : (2 * fi) % 18446744073709551616 = 2 * fi := by omega
          have y3 : IntKind.u64.wrap (2 * fi) = 2 * fi := by rw [IntKind.wrap_u64]; omega
          go_wp2_with fail
          go_roundw
          case rel => exact ⟨_, 2 * fi, by omega, by omega, rfl, by go_num, trivial⟩
          case measure => simp [intOf]; omega
        · have y1 : ¬ fi / 1024 = 0 := by omega
          go_wp2_with fail
          all_goals go_ret2
          all_goals exact ⟨⟨_, rfl⟩, hdr⟩
    · go_ret2
      exact ⟨⟨_, rfl⟩, hdr⟩
  · rw [decide_eq_false h]
    have z1 : (u / 65536 != 0) = true := by rw [bne_iff_ne]; omega
    go_enter Tryz.func68, Tryz.ntmps68
    go_wp2_with fail
    refine (HW.out _).mono ?_
    rintro e w2 ⟨rfl, rfl⟩
    go_wp2_with fail
    go_ret2
    exact ⟨⟨_, rfl⟩, Below.refl _ _⟩

set_option maxHeartbeats 4000000 in
set_option maxRecDepth 100000 in
theorem widen32 (u : Int) (h0 : 0 ≤ u) (hu : u < 18446744073709551616) (w : World) :
    Calls Tryz.prog 68 #[.int .u64 u, .int .i64 32] w fun e w' => (∃ r, e = .returned (.tuple #[.int .u64 r, .int .i64 (if decide (u < 4294967296) = true then 0 else 2)])) ∧ Below w.heap.size w w' := by
  have HW := Lib.hid (show ∀ w, Calls Tryz.prog 108 #[.int .i64 32] w fun e w' => e = .returned (.bool true) ∧ w' = w from ref_IsWidth 32)
  have HS := Lib.hid sizes32
  by_cases h : u < 4294967296
  · rw [decide_eq_true h]
    have z1 : (u / 4294967296 != 0) = false := by rw [bne_eq_false_iff_eq]; omega
    have hf := and_mask u 8388607 h0 hu (by omega) (by omega)
    obtain ⟨f, hff⟩ : ∃ f, bits .and .u64 u 8388607 = f := ⟨_, rfl⟩
    rw [hff] at hf
    obtain ⟨ev, hev⟩ : ∃ ev, wrap64 (bits .and .u64 (u / 8388608) 255) = ev := ⟨_, rfl⟩
    clear h
    go_enter Tryz.func68, Tryz.ntmps68
    go_wp2_with fail
    refine (HW.out _).mono ?_
    rintro e w2 ⟨rfl, rfl⟩
    clear HW
    go_wp2_with fail
    refine (HS.out _).mono ?_
    rintro e w2 ⟨rfl, rfl⟩
    clear HS
    go_wp2_with fail
    go_region
    have hdr : Below w2.heap.size w2 w2.drew := (Below.refl _ _).drew
    go_wp2_with fail
    · go_ret2
      exact ⟨⟨_, rfl⟩, hdr⟩
    · go_ret2
      exact ⟨⟨_, rfl⟩, hdr⟩
    · have hf0 : f ≠ 0 := by
        intro e
        have hq : (f == 0) = false := by assumption
        rw [e] at hq
        exact absurd hq (by decide)
      go_loopw [9, 10] (fun i j wr => ∃ ei fi : Int, 0 < fi ∧ fi ≤ 16777216 ∧ i = .int .i64 ei ∧ j = .int .u64 fi ∧ wr = w2.drew) (fun _ j _ => 16777216 - (intOf j).toNat)
      case atStart => exact ⟨1, f, by omega, by omega, rfl, rfl, rfl⟩
      case round =>
        obtain ⟨ei, fi, hf1, hf2, rfl, rfl, rfl⟩ := hrel
        by_cases hlt : fi < 8388608
        · have y1 : fi / 8388608 = 0 := by omega
          have y2 : (2 * fi) % 18446744073709551616 = 2 * fi := by omega
          have y3 : IntKind.u64.wrap (2 * fi) = 2 * fi := by rw [IntKind.wrap_u64]; omega
          go_wp2_with fail
          go_roundw
          case rel => exact ⟨_, 2 * fi, by omega, by omega, rfl, by go_num, trivial⟩
          case measure => simp [intOf]; omega
        · have y1 : ¬ fi / 8388608 = 0 := by omega
          go_wp2_with fail
          all_goals go_ret2
          all_goals exact ⟨⟨_, rfl⟩, hdr⟩
    · go_ret2
      exact ⟨⟨_, rfl⟩, hdr⟩
  · rw [decide_eq_false h]
    have z1 : (u / 4294967296 != 0) = true := by rw [bne_iff_ne]; omega
    go_enter Tryz.func68, Tryz.ntmps68
    go_wp2_with fail
    refine (HW.out _).mono ?_
    rintro e w2 ⟨rfl, rfl⟩
    go_wp2_with fail
    go_ret2
    exact ⟨⟨_, rfl⟩, Below.refl _ _⟩

set_option maxHeartbeats 2000000 in
set_option maxRecDepth 100000 in
theorem ref_Widen (u wd : Int) (h0 : 0 ≤ u) (hu : u < 18446744073709551616) (w : World) :
    Calls Tryz.prog 68 #[.int .u64 u, .int .i64 wd] w fun e w' => (∃ r, e = .returned (.tuple #[.int .u64 r, .int .i64 (if wideOk u wd = true then 0 else 2)])) ∧ Below w.heap.size w w' := by
  have HW := Lib.hid (ref_IsWidth wd)
  unfold wideB at HW
  unfold wideOk
  by_cases h1 : wd = 64
  · subst h1
    have HW := Lib.hid (show ∀ w, Calls Tryz.prog 108 #[.int .i64 64] w fun e w' => e = .returned (.bool true) ∧ w' = w from ref_IsWidth 64)
    rw [if_pos rfl]
    go_enter Tryz.func68, Tryz.ntmps68
    go_wp2_with fail
    refine (HW.out _).mono ?_
    rintro e w2 ⟨rfl, rfl⟩
    go_wp2_with fail
    go_ret2
    exact ⟨⟨_, rfl⟩, Below.refl _ _⟩
  · rw [if_neg h1]
    by_cases h2 : wd = 16
    · subst h2
      rw [if_pos rfl]
      exact widen16 u h0 hu w
    · rw [if_neg h2]
      by_cases h3 : wd = 32
      · subst h3
        rw [if_pos rfl]
        exact widen32 u h0 hu w
      · rw [if_neg h3]
        rw [decide_eq_false h1, decide_eq_false h2, decide_eq_false h3] at HW
        go_enter Tryz.func68, Tryz.ntmps68
        go_wp2_with fail
        refine (HW.out _).mono ?_
        rintro e w2 ⟨rfl, rfl⟩
        go_wp2_with fail
        go_ret2
        exact ⟨⟨_, rfl⟩, Below.refl _ _⟩
end Go.Proofs.YtfckekaegjjmkaaGreatDoor
