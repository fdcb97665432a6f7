/- The texts CbB, CbE, put together. -/
import Derived.Test.YtffaefdnlgfdbaaGreatDoorPk37
import Derived.Deep.RegionHeld3
import Derived.BigQuiet
import Derived.Deep.QuietTactic
/- cborw: the writers of nodes without lists, but floats. Printed by gen_cbb.py. -/
namespace Go.Proofs.YtffaefdnlgfdbaaGreatDoor
open Go.RowKit Go.Shelf

set_option maxHeartbeats 4000000 in
set_option maxRecDepth 100000 in
theorem wn_null (B p : Nat) (l : List UInt8) (kind : Int) (b neg : Bool) (dg : ByteArray) (ex u wd : Int) (s : ByteArray) (v : Value) (W : World) (h : IsW B p (Lib.byteCells l) W) (hB : B ≤ W.heap.size) (hlen : l.length ≤ 900000000) :
    Calls Tryz.prog 69 #[.pointer (some ⟨p, 0, none⟩), .agg #[.int .i64 kind, .bool b, .bool neg, .string dg, .int .i64 ex, .int .u64 u, .int .i64 wd, .string s, v]] W fun e W' => e = .returned (.tuple #[]) ∧ WP B p (l ++ [246]) W W' := by
  have hb1 : Below W.heap.size W (W.alloc (.cells #[.int .i64 kind, .bool b, .bool neg, .string dg, .int .i64 ex, .int .u64 u, .int .i64 wd, .string s, v] 27)) := (Below.refl _ _).alloc (Nat.le_refl _) _
  have hk1 := Blk.new W #[.int .i64 kind, .bool b, .bool neg, .string dg, .int .i64 ex, .int .u64 u, .int .i64 wd, .string s, v] 27
  have z0 := hk1.cell 0
  have hw1 := WP.step h hb1 hB
  have hpb : p < W.heap.size := by
    rcases h with ⟨_, _, hb, _⟩ | ⟨_, _, hb, _⟩ <;> exact (Array.getElem?_eq_some_iff.1 hb).1
  have hbs := hb1.alloc hb1.size (.cells #[.int .u8 246] 5)
  have HBY := Lib.hid (w_bytes B p (W.heap.size + 1) l 246 _ (WP.step h hbs hB).is (Nat.le_trans hB hbs.size) (by omega) (by have := Blk.new (W.alloc (.cells #[.int .i64 kind, .bool b, .bool neg, .string dg, .int .i64 ex, .int .u64 u, .int .i64 wd, .string s, v] 27)) #[.int .u8 246] 5; rw [World.size_alloc] at this; exact this))
  have hws := WP.step h hbs hB
  clear h hk1 z0 hw1
  go_enter Tryz.func69, Tryz.ntmps69
  go_wp2_with fail
  refine HBY.out.mono ?_
  rintro e W2 ⟨rfl, h2⟩
  have hw2 := hws.trans h2
  go_wp2_with fail
  go_end0
  exact ⟨rfl, hw2⟩

set_option maxHeartbeats 4000000 in
set_option maxRecDepth 100000 in
theorem wn_truth (B p : Nat) (l : List UInt8) (kind : Int) (b neg : Bool) (dg : ByteArray) (ex u wd : Int) (s : ByteArray) (v : Value) (W : World) (h : IsW B p (Lib.byteCells l) W) (hB : B ≤ W.heap.size) (hlen : l.length ≤ 900000000) :
    Calls Tryz.prog 70 #[.pointer (some ⟨p, 0, none⟩), .agg #[.int .i64 kind, .bool b, .bool neg, .string dg, .int .i64 ex, .int .u64 u, .int .i64 wd, .string s, v]] W fun e W' => e = .returned (.tuple #[]) ∧ WP B p (l ++ [if b = true then 245 else 244]) W W' := by
  have hb1 : Below W.heap.size W (W.alloc (.cells #[.int .i64 kind, .bool b, .bool neg, .string dg, .int .i64 ex, .int .u64 u, .int .i64 wd, .string s, v] 27)) := (Below.refl _ _).alloc (Nat.le_refl _) _
  have hk1 := Blk.new W #[.int .i64 kind, .bool b, .bool neg, .string dg, .int .i64 ex, .int .u64 u, .int .i64 wd, .string s, v] 27
  have z1 := hk1.cell 1
  have hw1 := WP.step h hb1 hB
  have hpb : p < W.heap.size := by
    rcases h with ⟨_, _, hb, _⟩ | ⟨_, _, hb, _⟩ <;> exact (Array.getElem?_eq_some_iff.1 hb).1
  cases b with
  | true =>
    have hbs := hb1.alloc hb1.size (.cells #[.int .u8 245] 5)
    have HBY := Lib.hid (w_bytes B p (W.heap.size + 1) l 245 _ (WP.step h hbs hB).is (Nat.le_trans hB hbs.size) (by omega) (by have := Blk.new (W.alloc (.cells #[.int .i64 kind, .bool true, .bool neg, .string dg, .int .i64 ex, .int .u64 u, .int .i64 wd, .string s, v] 27)) #[.int .u8 245] 5; rw [World.size_alloc] at this; exact this))
    have hws := WP.step h hbs hB
    clear h hw1 hpb
    go_enter Tryz.func70, Tryz.ntmps70
    go_wp2_with fail
    refine HBY.out.mono ?_
    rintro e W2 ⟨rfl, h2⟩
    have hw2 := hws.trans h2
    go_wp2_with fail
    refine bodyPost_ret (results_none rfl _ _ _) rfl ?_
    exact ⟨rfl, hw2⟩
  | false =>
    have hbs := hb1.alloc hb1.size (.cells #[.int .u8 244] 5)
    have HBY := Lib.hid (w_bytes B p (W.heap.size + 1) l 244 _ (WP.step h hbs hB).is (Nat.le_trans hB hbs.size) (by omega) (by have := Blk.new (W.alloc (.cells #[.int .i64 kind, .bool false, .bool neg, .string dg, .int .i64 ex, .int .u64 u, .int .i64 wd, .string s, v] 27)) #[.int .u8 244] 5; rw [World.size_alloc] at this; exact this))
    have hws := WP.step h hbs hB
    clear h hw1 hpb
    go_enter Tryz.func70, Tryz.ntmps70
    go_wp2_with fail
    refine HBY.out.mono ?_
    rintro e W2 ⟨rfl, h2⟩
    have hw2 := hws.trans h2
    go_wp2_with fail
    go_end0
    exact ⟨rfl, hw2⟩

set_option maxHeartbeats 4000000 in
set_option maxRecDepth 100000 in
theorem wn_simple (B p : Nat) (l : List UInt8) (kind : Int) (b neg : Bool) (dg : ByteArray) (ex u wd : Int) (s : ByteArray) (v : Value) (W : World) (h : IsW B p (Lib.byteCells l) W) (hB : B ≤ W.heap.size) (hlen : l.length ≤ 900000000) (n : Nat) (hu : u = n) (hn : n < 18446744073709551616) :
    Calls Tryz.prog 78 #[.pointer (some ⟨p, 0, none⟩), .agg #[.int .i64 kind, .bool b, .bool neg, .string dg, .int .i64 ex, .int .u64 u, .int .i64 wd, .string s, v]] W fun e W' => e = .returned (.tuple #[]) ∧ WP B p (l ++ makeL 7 n) W W' := by
  have hb1 : Below W.heap.size W (W.alloc (.cells #[.int .i64 kind, .bool b, .bool neg, .string dg, .int .i64 ex, .int .u64 u, .int .i64 wd, .string s, v] 27)) := (Below.refl _ _).alloc (Nat.le_refl _) _
  have hk1 := Blk.new W #[.int .i64 kind, .bool b, .bool neg, .string dg, .int .i64 ex, .int .u64 u, .int .i64 wd, .string s, v] 27
  have z3 := hk1.cell 3
  have z5 := hk1.cell 5
  have hw1 := WP.step h hb1 hB
  have hpb : p < W.heap.size := by
    rcases h with ⟨_, _, hb, _⟩ | ⟨_, _, hb, _⟩ <;> exact (Array.getElem?_eq_some_iff.1 hb).1
  subst hu
  have HHD := Lib.hid (w_head B p l 7 n (by decide) hn _ hw1.is (Nat.le_trans hB hb1.size) (by omega))
  obtain ⟨mk, hmk⟩ : ∃ mk, makeL 7 n = mk := ⟨_, rfl⟩
  rw [hmk] at HHD ⊢
  clear h hmk hn hk1
  go_enter Tryz.func78, Tryz.ntmps78
  go_wp2_with fail
  refine HHD.out.mono ?_
  rintro e W2 ⟨rfl, h2⟩
  have hw2 := hw1.trans h2
  go_wp2_with fail
  go_end0
  exact ⟨rfl, hw2⟩

set_option maxHeartbeats 4000000 in
set_option maxRecDepth 100000 in
theorem wn_num (B p : Nat) (l : List UInt8) (kind : Int) (b neg : Bool) (dg : ByteArray) (ex u wd : Int) (s : ByteArray) (v : Value) (W : World) (h : IsW B p (Lib.byteCells l) W) (hB : B ≤ W.heap.size) (hlen : l.length ≤ 900000000) (hdg : dg.size ≤ 9223372036854775807) (ng : Bool) (n : Nat) (hi : toIntD neg dg ex = some (ng, n)) {aT aF : Addr} (hG : GW W aT aF) :
    Calls Tryz.prog 71 #[.pointer (some ⟨p, 0, none⟩), .agg #[.int .i64 kind, .bool b, .bool neg, .string dg, .int .i64 ex, .int .u64 u, .int .i64 wd, .string s, v]] W fun e W' => e = .returned (.tuple #[]) ∧ WP B p (l ++ (if ng = true then makeL 1 (n - 1) else makeL 0 n)) W W' := by
  have hb1 : Below W.heap.size W (W.alloc (.cells #[.int .i64 kind, .bool b, .bool neg, .string dg, .int .i64 ex, .int .u64 u, .int .i64 wd, .string s, v] 27)) := (Below.refl _ _).alloc (Nat.le_refl _) _
  have hk1 := Blk.new W #[.int .i64 kind, .bool b, .bool neg, .string dg, .int .i64 ex, .int .u64 u, .int .i64 wd, .string s, v] 27
  have z2 := hk1.cell 2
  have z3 := hk1.cell 3
  have z4 := hk1.cell 4
  have hw1 := WP.step h hb1 hB
  have hpb : p < W.heap.size := by
    rcases h with ⟨_, _, hb, _⟩ | ⟨_, _, hb, _⟩ <;> exact (Array.getElem?_eq_some_iff.1 hb).1
  have HT := Lib.hid (dec_ToInt neg dg ex hdg _ (hG.below hb1))
  rw [hi] at HT
  obtain ⟨hn, hn1⟩ := toInt_lt hi
  cases ng with
  | true =>
    have hp1 := hn1 rfl
    have HT : Hid (Calls Tryz.prog 66 #[.agg #[.bool neg, .string dg, .int .i64 ex]] (W.alloc (.cells #[.int .i64 kind, .bool b, .bool neg, .string dg, .int .i64 ex, .int .u64 u, .int .i64 wd, .string s, v] 27)) fun e w' => e = .returned (.tuple #[.bool true, .int .u64 (n : Nat), .bool true]) ∧ Below (W.alloc (.cells #[.int .i64 kind, .bool b, .bool neg, .string dg, .int .i64 ex, .int .u64 u, .int .i64 wd, .string s, v] 27)).heap.size (W.alloc (.cells #[.int .i64 kind, .bool b, .bool neg, .string dg, .int .i64 ex, .int .u64 u, .int .i64 wd, .string s, v] 27)) w') := HT
    have HHD := Lib.hid (fun W2 (hb : Below (W.alloc (.cells #[.int .i64 kind, .bool b, .bool neg, .string dg, .int .i64 ex, .int .u64 u, .int .i64 wd, .string s, v] 27)).heap.size (W.alloc (.cells #[.int .i64 kind, .bool b, .bool neg, .string dg, .int .i64 ex, .int .u64 u, .int .i64 wd, .string s, v] 27)) W2) => w_head B p l 1 (n - 1) (by decide) (by omega) W2 (isW_below hw1.is hb) (Nat.le_trans hB (Nat.le_trans hb1.size hb.size)) (by omega))
    have HW1 := Lib.hid hw1
    have HB1 := Lib.hid hb1
    obtain ⟨mk, hmk⟩ : ∃ mk, makeL 1 (n - 1) = mk := ⟨_, rfl⟩
    simp only [hmk] at HHD
    simp only [if_true, hmk]
    have hsub : IntKind.u64.wrap ((n : Int) - 1) = ((n - 1 : Nat) : Int) := by rw [IntKind.wrap_u64]; omega
    have y1 : (1 : Int) ≤ n := by omega
    have y2 : ((n : Int) - 1) = ((n - 1 : Nat) : Int) := by omega
    clear h hk1 hw1 hi hn1 hmk hG
    go_enter Tryz.func71, Tryz.ntmps71
    go_wp2_with fail
    refine HT.out.mono ?_
    rintro e W2 ⟨rfl, hb⟩
    have hws := HW1.out.trans (WP.step HW1.out.is hb (Nat.le_trans hB HB1.out.size))
    have HHD2 := Lib.hid (HHD.out W2 hb)
    clear hb HHD HT HW1 HB1 hb1 z2 z3 z4
    go_wp2_with fail
    refine HHD2.out.mono ?_
    rintro e W3 ⟨rfl, h3⟩
    have hw3 := hws.trans h3
    go_wp2_with fail
    refine bodyPost_ret (results_none rfl _ _ _) rfl ?_
    exact ⟨rfl, hw3⟩
  | false =>
    have HT : Hid (Calls Tryz.prog 66 #[.agg #[.bool neg, .string dg, .int .i64 ex]] (W.alloc (.cells #[.int .i64 kind, .bool b, .bool neg, .string dg, .int .i64 ex, .int .u64 u, .int .i64 wd, .string s, v] 27)) fun e w' => e = .returned (.tuple #[.bool false, .int .u64 (n : Nat), .bool true]) ∧ Below (W.alloc (.cells #[.int .i64 kind, .bool b, .bool neg, .string dg, .int .i64 ex, .int .u64 u, .int .i64 wd, .string s, v] 27)).heap.size (W.alloc (.cells #[.int .i64 kind, .bool b, .bool neg, .string dg, .int .i64 ex, .int .u64 u, .int .i64 wd, .string s, v] 27)) w') := HT
    have HHD := Lib.hid (fun W2 (hb : Below (W.alloc (.cells #[.int .i64 kind, .bool b, .bool neg, .string dg, .int .i64 ex, .int .u64 u, .int .i64 wd, .string s, v] 27)).heap.size (W.alloc (.cells #[.int .i64 kind, .bool b, .bool neg, .string dg, .int .i64 ex, .int .u64 u, .int .i64 wd, .string s, v] 27)) W2) => w_head B p l 0 n (by decide) hn W2 (isW_below hw1.is hb) (Nat.le_trans hB (Nat.le_trans hb1.size hb.size)) (by omega))
    have HW1 := Lib.hid hw1
    have HB1 := Lib.hid hb1
    obtain ⟨mk, hmk⟩ : ∃ mk, makeL 0 n = mk := ⟨_, rfl⟩
    simp only [hmk] at HHD
    simp only [if_neg (show ¬ (false = true) by decide), hmk]
    clear h hk1 hw1 hi hn1 hmk hG hn
    go_enter Tryz.func71, Tryz.ntmps71
    go_wp2_with fail
    refine HT.out.mono ?_
    rintro e W2 ⟨rfl, hb⟩
    have hws := HW1.out.trans (WP.step HW1.out.is hb (Nat.le_trans hB HB1.out.size))
    have HHD2 := Lib.hid (HHD.out W2 hb)
    clear hb HHD HT HW1 HB1 hb1 z2 z3 z4
    go_wp2_with fail
    refine HHD2.out.mono ?_
    rintro e W3 ⟨rfl, h3⟩
    have hw3 := hws.trans h3
    go_wp2_with fail
    go_end0
    exact ⟨rfl, hw3⟩

set_option maxHeartbeats 4000000 in
set_option maxRecDepth 100000 in
theorem wn_text (B p : Nat) (l : List UInt8) (kind : Int) (b neg : Bool) (dg : ByteArray) (ex u wd : Int) (s : ByteArray) (v : Value) (W : World) (h : IsW B p (Lib.byteCells l) W) (hB : B ≤ W.heap.size) (hlen : l.length ≤ 900000000) (hs : s.size ≤ 1000) :
    Calls Tryz.prog 73 #[.pointer (some ⟨p, 0, none⟩), .agg #[.int .i64 kind, .bool b, .bool neg, .string dg, .int .i64 ex, .int .u64 u, .int .i64 wd, .string s, v]] W fun e W' => e = .returned (.tuple #[]) ∧ WP B p (l ++ (makeL 3 s.size ++ s.data.toList)) W W' := by
  have hb1 : Below W.heap.size W (W.alloc (.cells #[.int .i64 kind, .bool b, .bool neg, .string dg, .int .i64 ex, .int .u64 u, .int .i64 wd, .string s, v] 27)) := (Below.refl _ _).alloc (Nat.le_refl _) _
  have hk1 := Blk.new W #[.int .i64 kind, .bool b, .bool neg, .string dg, .int .i64 ex, .int .u64 u, .int .i64 wd, .string s, v] 27
  have z7 := hk1.cell 7
  have hw1 := WP.step h hb1 hB
  have hpb : p < W.heap.size := by
    rcases h with ⟨_, _, hb, _⟩ | ⟨_, _, hb, _⟩ <;> exact (Array.getElem?_eq_some_iff.1 hb).1
  have HHD := Lib.hid (w_head B p l 3 s.size (by decide) (by omega) _ hw1.is (Nat.le_trans hB hb1.size) (by omega))
  have hml : (makeL 3 s.size).length ≤ 100 := by
    rw [makeL_length]
    rcases leastN_is s.size (by omega) with ⟨_, _, h3⟩ | ⟨_, h1, h2, h3, _⟩
    · omega
    · have : ∀ m, m ≤ 3 → 2 ^ m ≤ 8 := fun m hm => Nat.pow_le_pow_right (show 0 < 2 by decide) hm
      have := this ((leastN s.size).1 - 24) (by omega)
      omega
  obtain ⟨mk, hmk⟩ : ∃ mk, makeL 3 s.size = mk := ⟨_, rfl⟩
  rw [hmk] at HHD hml ⊢
  have HWS := Lib.hid (fun W2 (h2 : IsW B p (Lib.byteCells (l ++ mk)) W2) (hB2 : B ≤ W2.heap.size) => wb_WriteString B p (Lib.byteCells (l ++ mk)) s W2 h2 (by rw [cells_len, List.length_append]; omega) hB2)
  simp only [cells_app] at HWS
  have HW1 := Lib.hid hw1
  have HK1 := Lib.hid hk1
  have y1 : (s.size : Int) ≤ 1000 := by omega
  have y2 : IntKind.u64.wrap (s.size : Int) = (s.size : Int) := by rw [IntKind.wrap_u64]; omega
  clear h hmk hw1 hk1 hml
  go_enter Tryz.func73, Tryz.ntmps73
  go_wp2_with fail
  refine HHD.out.mono ?_
  rintro e W2 ⟨rfl, h2⟩
  have hw2 := HW1.out.trans h2
  have hk2 := h2.blk HK1.out (by omega) (by decide)
  have hsz2 : B ≤ W2.heap.size := by
    rcases hw2.is with ⟨q, _, hb, _⟩ | ⟨q, _, hb, _⟩ <;> exact Nat.le_of_lt (Nat.lt_of_le_of_lt q (Array.getElem?_eq_some_iff.1 hb).1)
  have q7 := hk2.cell 7
  clear h2 HHD HW1 HK1 hb1 z7
  go_wp2_with fail
  go_region_held3 (fun w' => w'.cell? ⟨W.heap.size, 7, none⟩ = some (.string s)) (go_keep)
    (first | (go_at_call 107; refine (HWS.out _ (isW_below hw2.is ((Below.refl _ W2).drew)) hsz2).mono ?_; rintro e W4 ⟨rfl, h4, hb4, ho4⟩; have q47 := (othersW_blk ho4 (Blk.drew hk2) (by omega) (by decide)).cell 7))
  have hw4 : WP B p (l ++ mk ++ s.data.toList) W W4 := hw2.trans ⟨h4.is, ((Below.refl B W2).drew).trans hb4, ho4⟩
  rw [List.append_assoc] at hw4
  clear h4 hb4 ho4 hw2 hk2 q7 q47
  go_wp2_with fail
  go_end0
  exact ⟨rfl, hw4⟩

set_option maxHeartbeats 4000000 in
set_option maxRecDepth 100000 in
theorem wn_raw (B p : Nat) (l : List UInt8) (kind : Int) (b neg : Bool) (dg : ByteArray) (ex u wd : Int) (s : ByteArray) (v : Value) (W : World) (h : IsW B p (Lib.byteCells l) W) (hB : B ≤ W.heap.size) (hlen : l.length ≤ 900000000) (hs : s.size ≤ 1000) :
    Calls Tryz.prog 74 #[.pointer (some ⟨p, 0, none⟩), .agg #[.int .i64 kind, .bool b, .bool neg, .string dg, .int .i64 ex, .int .u64 u, .int .i64 wd, .string s, v]] W fun e W' => e = .returned (.tuple #[]) ∧ WP B p (l ++ (makeL 2 s.size ++ s.data.toList)) W W' := by
  have hb1 : Below W.heap.size W (W.alloc (.cells #[.int .i64 kind, .bool b, .bool neg, .string dg, .int .i64 ex, .int .u64 u, .int .i64 wd, .string s, v] 27)) := (Below.refl _ _).alloc (Nat.le_refl _) _
  have hk1 := Blk.new W #[.int .i64 kind, .bool b, .bool neg, .string dg, .int .i64 ex, .int .u64 u, .int .i64 wd, .string s, v] 27
  have z7 := hk1.cell 7
  have hw1 := WP.step h hb1 hB
  have hpb : p < W.heap.size := by
    rcases h with ⟨_, _, hb, _⟩ | ⟨_, _, hb, _⟩ <;> exact (Array.getElem?_eq_some_iff.1 hb).1
  have HHD := Lib.hid (w_head B p l 2 s.size (by decide) (by omega) _ hw1.is (Nat.le_trans hB hb1.size) (by omega))
  have hml : (makeL 2 s.size).length ≤ 100 := by
    rw [makeL_length]
    rcases leastN_is s.size (by omega) with ⟨_, _, h3⟩ | ⟨_, h1, h2, h3, _⟩
    · omega
    · have : ∀ m, m ≤ 3 → 2 ^ m ≤ 8 := fun m hm => Nat.pow_le_pow_right (show 0 < 2 by decide) hm
      have := this ((leastN s.size).1 - 24) (by omega)
      omega
  obtain ⟨mk, hmk⟩ : ∃ mk, makeL 2 s.size = mk := ⟨_, rfl⟩
  rw [hmk] at HHD hml ⊢
  have HWS := Lib.hid (fun W2 (h2 : IsW B p (Lib.byteCells (l ++ mk)) W2) (hB2 : B ≤ W2.heap.size) => wb_WriteString B p (Lib.byteCells (l ++ mk)) s W2 h2 (by rw [cells_len, List.length_append]; omega) hB2)
  simp only [cells_app] at HWS
  have HW1 := Lib.hid hw1
  have HK1 := Lib.hid hk1
  have y1 : (s.size : Int) ≤ 1000 := by omega
  have y2 : IntKind.u64.wrap (s.size : Int) = (s.size : Int) := by rw [IntKind.wrap_u64]; omega
  clear h hmk hw1 hk1 hml
  go_enter Tryz.func74, Tryz.ntmps74
  go_wp2_with fail
  refine HHD.out.mono ?_
  rintro e W2 ⟨rfl, h2⟩
  have hw2 := HW1.out.trans h2
  have hk2 := h2.blk HK1.out (by omega) (by decide)
  have hsz2 : B ≤ W2.heap.size := by
    rcases hw2.is with ⟨q, _, hb, _⟩ | ⟨q, _, hb, _⟩ <;> exact Nat.le_of_lt (Nat.lt_of_le_of_lt q (Array.getElem?_eq_some_iff.1 hb).1)
  have q7 := hk2.cell 7
  clear h2 HHD HW1 HK1 hb1 z7
  go_wp2_with fail
  go_region_held3 (fun w' => w'.cell? ⟨W.heap.size, 7, none⟩ = some (.string s)) (go_keep)
    (first | (go_at_call 107; refine (HWS.out _ (isW_below hw2.is ((Below.refl _ W2).drew)) hsz2).mono ?_; rintro e W4 ⟨rfl, h4, hb4, ho4⟩; have q47 := (othersW_blk ho4 (Blk.drew hk2) (by omega) (by decide)).cell 7))
  have hw4 : WP B p (l ++ mk ++ s.data.toList) W W4 := hw2.trans ⟨h4.is, ((Below.refl B W2).drew).trans hb4, ho4⟩
  rw [List.append_assoc] at hw4
  clear h4 hb4 ho4 hw2 hk2 q7 q47
  go_wp2_with fail
  go_end0
  exact ⟨rfl, hw4⟩
end Go.Proofs.YtffaefdnlgfdbaaGreatDoor
/- cborw: the writers of nodes with lists. Printed by gen_cbe.py. -/
namespace Go.Proofs.YtffaefdnlgfdbaaGreatDoor
open Go.RowKit Go.Shelf

set_option maxHeartbeats 4000000 in
set_option maxRecDepth 100000 in
theorem wn_array (B p : Nat) (l tl : List UInt8) (kind : Int) (b neg : Bool) (dg : ByteArray) (ex u wd : Int) (s : ByteArray) (A : Option Addr) (n c : Nat) (W : World) (h : IsW B p (Lib.byteCells l) W) (hB : B ≤ W.heap.size) (hlen : l.length ≤ 900000000) (hn : n ≤ 1000000000000)
    (hall : ∀ W2, WP B p (l ++ makeL 4 (n)) W W2 → Calls Tryz.prog 25 #[.pointer (some ⟨p, 0, none⟩), .slice A n c] W2 fun e W' => e = .returned (.tuple #[]) ∧ WP B p (l ++ makeL 4 (n) ++ tl) W2 W') :
    Calls Tryz.prog 75 #[.pointer (some ⟨p, 0, none⟩), .agg #[.int .i64 kind, .bool b, .bool neg, .string dg, .int .i64 ex, .int .u64 u, .int .i64 wd, .string s, .slice A n c]] W fun e W' => e = .returned (.tuple #[]) ∧ WP B p (l ++ makeL 4 (n) ++ tl) W W' := by
  have hb1 : Below W.heap.size W (W.alloc (.cells #[.int .i64 kind, .bool b, .bool neg, .string dg, .int .i64 ex, .int .u64 u, .int .i64 wd, .string s, .slice A n c] 27)) := (Below.refl _ _).alloc (Nat.le_refl _) _
  have hk1 := Blk.new W #[.int .i64 kind, .bool b, .bool neg, .string dg, .int .i64 ex, .int .u64 u, .int .i64 wd, .string s, .slice A n c] 27
  have z5 := hk1.cell 5
  have z8 := hk1.cell 8
  have hw1 := WP.step h hb1 hB
  have hpb : p < W.heap.size := by
    rcases h with ⟨_, _, hb, _⟩ | ⟨_, _, hb, _⟩ <;> exact (Array.getElem?_eq_some_iff.1 hb).1
  have HHD := Lib.hid (w_head B p l 4 (n) (by decide) (by omega) _ hw1.is (Nat.le_trans hB hb1.size) (by omega))
  obtain ⟨mk, hmk⟩ : ∃ mk, makeL 4 (n) = mk := ⟨_, rfl⟩
  rw [hmk] at HHD ⊢
  simp only [hmk] at hall
  have HA := Lib.hid hall
  have HW1 := Lib.hid hw1
  have HK1 := Lib.hid hk1
  have y2 : IntKind.u64.wrap (n : Int) = (n : Int) := by rw [IntKind.wrap_u64]; omega
  clear h hmk hw1 hk1 hall
  go_enter Tryz.func75, Tryz.ntmps75
  go_wp2_with fail
  refine HHD.out.mono ?_
  rintro e W2 ⟨rfl, h2⟩
  have hw2 := HW1.out.trans h2
  have hk2 := h2.blk HK1.out (by omega) (by decide)
  have q8 := hk2.cell 8
  clear h2 HHD HW1 HK1 hb1 z5 z8
  go_wp2_with fail
  refine (HA.out W2 hw2).mono ?_
  rintro e W3 ⟨rfl, h3⟩
  have hw3 := hw2.trans h3
  clear h3 hw2 hk2 q8 HA
  go_wp2_with fail
  go_end0
  exact ⟨rfl, hw3⟩

set_option maxHeartbeats 4000000 in
set_option maxRecDepth 100000 in
theorem wn_pairs (B p : Nat) (l tl : List UInt8) (kind : Int) (b neg : Bool) (dg : ByteArray) (ex u wd : Int) (s : ByteArray) (A : Option Addr) (n c : Nat) (W : World) (h : IsW B p (Lib.byteCells l) W) (hB : B ≤ W.heap.size) (hlen : l.length ≤ 900000000) (hn : n ≤ 1000000000000)
    (hall : ∀ W2, WP B p (l ++ makeL 5 (n / 2)) W W2 → Calls Tryz.prog 25 #[.pointer (some ⟨p, 0, none⟩), .slice A n c] W2 fun e W' => e = .returned (.tuple #[]) ∧ WP B p (l ++ makeL 5 (n / 2) ++ tl) W2 W') :
    Calls Tryz.prog 76 #[.pointer (some ⟨p, 0, none⟩), .agg #[.int .i64 kind, .bool b, .bool neg, .string dg, .int .i64 ex, .int .u64 u, .int .i64 wd, .string s, .slice A n c]] W fun e W' => e = .returned (.tuple #[]) ∧ WP B p (l ++ makeL 5 (n / 2) ++ tl) W W' := by
  have hb1 : Below W.heap.size W (W.alloc (.cells #[.int .i64 kind, .bool b, .bool neg, .string dg, .int .i64 ex, .int .u64 u, .int .i64 wd, .string s, .slice A n c] 27)) := (Below.refl _ _).alloc (Nat.le_refl _) _
  have hk1 := Blk.new W #[.int .i64 kind, .bool b, .bool neg, .string dg, .int .i64 ex, .int .u64 u, .int .i64 wd, .string s, .slice A n c] 27
  have z5 := hk1.cell 5
  have z8 := hk1.cell 8
  have hw1 := WP.step h hb1 hB
  have hpb : p < W.heap.size := by
    rcases h with ⟨_, _, hb, _⟩ | ⟨_, _, hb, _⟩ <;> exact (Array.getElem?_eq_some_iff.1 hb).1
  have HHD := Lib.hid (w_head B p l 5 (n / 2) (by decide) (by omega) _ hw1.is (Nat.le_trans hB hb1.size) (by omega))
  obtain ⟨mk, hmk⟩ : ∃ mk, makeL 5 (n / 2) = mk := ⟨_, rfl⟩
  rw [hmk] at HHD ⊢
  simp only [hmk] at hall
  have HA := Lib.hid hall
  have HW1 := Lib.hid hw1
  have HK1 := Lib.hid hk1
  have y2 : IntKind.u64.wrap ((n / 2 : Nat) : Int) = ((n / 2 : Nat) : Int) := by rw [IntKind.wrap_u64]; omega
  have y3 : Int.tdiv (n : Int) 2 = ((n / 2 : Nat) : Int) := by rw [Int.tdiv_eq_ediv_of_nonneg (by omega)]; omega
  clear h hmk hw1 hk1 hall
  go_enter Tryz.func76, Tryz.ntmps76
  go_wp2_with fail
  refine HHD.out.mono ?_
  rintro e W2 ⟨rfl, h2⟩
  have hw2 := HW1.out.trans h2
  have hk2 := h2.blk HK1.out (by omega) (by decide)
  have q8 := hk2.cell 8
  clear h2 HHD HW1 HK1 hb1 z5 z8
  go_wp2_with fail
  refine (HA.out W2 hw2).mono ?_
  rintro e W3 ⟨rfl, h3⟩
  have hw3 := hw2.trans h3
  clear h3 hw2 hk2 q8 HA
  go_wp2_with fail
  go_end0
  exact ⟨rfl, hw3⟩

set_option maxHeartbeats 4000000 in
set_option maxRecDepth 100000 in
theorem wn_tag (B p : Nat) (l tl : List UInt8) (kind : Int) (b neg : Bool) (dg : ByteArray) (ex u wd : Int) (s : ByteArray) (A : Option Addr) (n c : Nat) (W : World) (h : IsW B p (Lib.byteCells l) W) (hB : B ≤ W.heap.size) (hlen : l.length ≤ 900000000) (un : Nat) (hu : u = un) (hun : un < 18446744073709551616)
    (hall : ∀ W2, WP B p (l ++ makeL 6 (un)) W W2 → Calls Tryz.prog 25 #[.pointer (some ⟨p, 0, none⟩), .slice A n c] W2 fun e W' => e = .returned (.tuple #[]) ∧ WP B p (l ++ makeL 6 (un) ++ tl) W2 W') :
    Calls Tryz.prog 77 #[.pointer (some ⟨p, 0, none⟩), .agg #[.int .i64 kind, .bool b, .bool neg, .string dg, .int .i64 ex, .int .u64 u, .int .i64 wd, .string s, .slice A n c]] W fun e W' => e = .returned (.tuple #[]) ∧ WP B p (l ++ makeL 6 (un) ++ tl) W W' := by
  have hb1 : Below W.heap.size W (W.alloc (.cells #[.int .i64 kind, .bool b, .bool neg, .string dg, .int .i64 ex, .int .u64 u, .int .i64 wd, .string s, .slice A n c] 27)) := (Below.refl _ _).alloc (Nat.le_refl _) _
  have hk1 := Blk.new W #[.int .i64 kind, .bool b, .bool neg, .string dg, .int .i64 ex, .int .u64 u, .int .i64 wd, .string s, .slice A n c] 27
  have z5 := hk1.cell 5
  have z8 := hk1.cell 8
  have hw1 := WP.step h hb1 hB
  have hpb : p < W.heap.size := by
    rcases h with ⟨_, _, hb, _⟩ | ⟨_, _, hb, _⟩ <;> exact (Array.getElem?_eq_some_iff.1 hb).1
  have HHD := Lib.hid (w_head B p l 6 (un) (by decide) (by omega) _ hw1.is (Nat.le_trans hB hb1.size) (by omega))
  obtain ⟨mk, hmk⟩ : ∃ mk, makeL 6 (un) = mk := ⟨_, rfl⟩
  rw [hmk] at HHD ⊢
  simp only [hmk] at hall
  have HA := Lib.hid hall
  have HW1 := Lib.hid hw1
  have HK1 := Lib.hid hk1
  subst hu
  clear h hmk hw1 hk1 hall
  go_enter Tryz.func77, Tryz.ntmps77
  go_wp2_with fail
  refine HHD.out.mono ?_
  rintro e W2 ⟨rfl, h2⟩
  have hw2 := HW1.out.trans h2
  have hk2 := h2.blk HK1.out (by omega) (by decide)
  have q8 := hk2.cell 8
  clear h2 HHD HW1 HK1 hb1 z5 z8
  go_wp2_with fail
  refine (HA.out W2 hw2).mono ?_
  rintro e W3 ⟨rfl, h3⟩
  have hw3 := hw2.trans h3
  clear h3 hw2 hk2 q8 HA
  go_wp2_with fail
  go_end0
  exact ⟨rfl, hw3⟩
end Go.Proofs.YtffaefdnlgfdbaaGreatDoor
