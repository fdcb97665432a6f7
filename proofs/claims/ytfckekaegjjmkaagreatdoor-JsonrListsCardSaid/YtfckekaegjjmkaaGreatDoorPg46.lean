/- The texts JrX, put together. -/
import Derived.Test.YtfckekaegjjmkaaGreatDoorPg45
namespace Go.Proofs.YtfckekaegjjmkaaGreatDoor
open Go.RowKit Go.Shelf
attribute [local go_sem] Oper.semAt_some

set_option maxHeartbeats 8000000 in
set_option maxRecDepth 100000 in
theorem space_walk {uT uQ aT aF : Addr} (s : ByteArray) (a b : Int) (hs : s.size ≤ 9223372036854775807) (ha : -9223372036854775808 ≤ a ∧ a < 9223372036854775808) (hb : -9223372036854775808 ≤ b ∧ b < 9223372036854775808) (w : World) (h : JRW w uT uQ aT aF) :
    Calls Tryz.prog 8 #[.string s, .int .i64 a, .int .i64 b] w fun e w' => e = .returned (.bool true) ∧ Below w.heap.size w w' := by
  have H1 := Lib.hid (jr_shown w h)
  have hx : (cutJ 900 s).size ≤ 900 := by rw [cutJ_size]; omega
  obtain ⟨x, hxx⟩ : ∃ x, cutJ 900 s = x := ⟨_, rfl⟩
  rw [hxx] at hx
  have y0 : min (s.size : Int) 900 = ((min s.size 900 : Nat) : Int) := by omega
  have y1 : min s.size 900 ≤ s.size := by omega
  unfold cutJ at hxx
  by_cases hr : a < 0 ∨ b < 0 ∨ 9 < a ∨ 9 < b
  · clear h ha hb hx
    go_enter Tryz.func8, Tryz.ntmps8
    go_wp2_with fail
    refine H1.out.mono ?_
    rintro e w1 ⟨rfl, hb1⟩
    clear H1
    by_cases g1 : a < 0
    · go_wp2_with fail
      go_ret
      exact ⟨rfl, hb1⟩
    by_cases g2 : b < 0
    · go_wp2_with fail
      go_ret
      exact ⟨rfl, hb1⟩
    by_cases g3 : 9 < a
    · go_wp2_with fail
      go_ret
      exact ⟨rfl, hb1⟩
    have g4 : 9 < b := by omega
    go_wp2_with fail
    go_ret
    exact ⟨rfl, hb1⟩
  obtain ⟨i, rfl⟩ : ∃ k : Nat, a = k := ⟨a.toNat, by omega⟩
  obtain ⟨j, rfl⟩ : ∃ k : Nat, b = k := ⟨b.toNat, by omega⟩
  have hi : i ≤ 9 := by omega
  have hj : j ≤ 9 := by omega
  have HGA := Lib.hid (fun W => jr_gaps i hi W)
  have HGB := Lib.hid (fun W => jr_gaps j hj W)
  have l0 : x.data.toList.length = x.size := by simp
  obtain ⟨q1, q2⟩ := space_read x.data.toList (by omega) i j hi hj
  obtain ⟨ga, hga⟩ : ∃ g, bsD (gapsD i) = g := ⟨_, rfl⟩
  obtain ⟨gb, hgb⟩ : ∃ g, bsD (gapsD j) = g := ⟨_, rfl⟩
  have s1 : ga.size ≤ 9 := by rw [← hga, bsD_size, gaps_len]; exact hi
  have s2 : gb.size ≤ 9 := by rw [← hgb, bsD_size, gaps_len]; exact hj
  have d2 : (ga ++ x ++ gb).data.toList = spaceD x.data.toList i j := by
    rw [← hga, ← hgb]
    simp [spaceD, bsD]
  have d3 : (⟨#[91]⟩ ++ ga ++ x ++ gb ++ ⟨#[44]⟩ ++ gb ++ x ++ ⟨#[93]⟩ : ByteArray).data.toList = twiceD x.data.toList i j := by
    rw [← hga, ← hgb]
    simp [twiceD, bsD]
  have z1 : (ga ++ x).size = ga.size + x.size := ByteArray.size_append
  have z2 : (ga ++ x ++ gb).size = ga.size + x.size + gb.size := by rw [ByteArray.size_append, z1]
  have z3 : (⟨#[91]⟩ ++ ga ++ x ++ gb ++ ⟨#[44]⟩ ++ gb ++ x ++ ⟨#[93]⟩ : ByteArray).size = 3 + ga.size + x.size + gb.size + gb.size + x.size := by
    simp only [ByteArray.size_append]
    simp only [ByteArray.size, List.size_toArray, List.length_cons, List.length_nil]
    omega
  have R1 := Lib.hid (fun W (hb : Below w.heap.size w W) => jr_Read x (by omega) W (h.below hb))
  have R2 := Lib.hid (fun W (hb : Below w.heap.size w W) => jr_Read (ga ++ x ++ gb) (by omega) W (h.below hb))
  have R3 := Lib.hid (fun W (hb : Below w.heap.size w W) => jr_Read (⟨#[91]⟩ ++ ga ++ x ++ gb ++ ⟨#[44]⟩ ++ gb ++ x ++ ⟨#[93]⟩) (by omega) W (h.below hb))
  simp only [d2] at R2
  simp only [d3] at R3
  rw [hga] at HGA
  rw [hgb] at HGB
  obtain ⟨⟨e1, t1⟩, h1⟩ : ∃ r, readJ uqJ x.data.toList = r := ⟨_, rfl⟩
  obtain ⟨⟨e2, t2⟩, h2⟩ : ∃ r, readJ uqJ (spaceD x.data.toList i j) = r := ⟨_, rfl⟩
  obtain ⟨⟨e3, t3⟩, h3⟩ : ∃ r, readJ uqJ (twiceD x.data.toList i j) = r := ⟨_, rfl⟩
  rw [h1, h2] at q1
  rw [h1, h2, h3] at q2
  simp only [h1] at R1
  simp only [h2] at R2
  simp only [h3] at R3
  simp only [] at q1
  have g1 : ¬ (i : Int) < 0 := by omega
  have g2 : ¬ (j : Int) < 0 := by omega
  have g3 : ¬ 9 < (i : Int) := by omega
  have g4 : ¬ 9 < (j : Int) := by omega
  clear h h1 h2 h3 hga hgb d2 d3 z1 z2 z3 l0 ha hb hr hi hj
  go_enter Tryz.func8, Tryz.ntmps8
  go_wp2_with fail
  refine H1.out.mono ?_
  rintro e w1 ⟨rfl, hb1⟩
  have B0 := Lib.hid hb1
  clear H1 hb1
  go_wp2_with fail
  refine (R1.out _ B0.out).mono ?_
  rintro e v1 ⟨ha1, A1, m1, c1, rfl, hl1, ho1⟩
  obtain rfl := hl1.lenJ
  have B1 := Lib.hid (B0.out.trans (ha1.mono B0.out.size))
  clear ha1 B0
  obtain ⟨⟨k1, f1, n1, dg1, ex1, u1, wd1, st1⟩, hw1⟩ : ∃ o, t1.own = o := ⟨_, rfl⟩
  simp only [hw1] at ho1 ⊢
  unfold nodeV
  simp only []
  have HW1 := Lib.hid hw1
  have HO1 := Lib.hid ho1
  have HL1 := Lib.hid (hl1.mono (S' := fun q => q < v1.heap.size) (fun q hq => hq.2))
  have B2 := Lib.hid (B1.out.alloc B1.out.size (.cells #[.int .i64 k1, .bool f1, .bool n1, .string dg1, .int .i64 ex1, .int .u64 u1, .int .i64 wd1, .string st1, .slice A1 t1.kids.length c1] 27))
  have C1_2 := Lib.hid ((Below.refl v1.heap.size v1).alloc (Nat.le_refl _) (.cells #[.int .i64 k1, .bool f1, .bool n1, .string dg1, .int .i64 ex1, .int .u64 u1, .int .i64 wd1, .string st1, .slice A1 t1.kids.length c1] 27))
  have M1_2 := Lib.hid (Blk.new v1 #[.int .i64 k1, .bool f1, .bool n1, .string dg1, .int .i64 ex1, .int .u64 u1, .int .i64 wd1, .string st1, .slice A1 t1.kids.length c1] 27)
  clear B1 R1 hl1 hw1 ho1
  go_wp2_with fail
  refine (HGA.out _).mono ?_
  rintro e x1 ⟨rfl, hx1⟩
  have B3 := Lib.hid (B2.out.trans (hx1.mono B2.out.size))
  have C1_3 := Lib.hid (C1_2.out.trans (hx1.mono C1_2.out.size))
  have M1_3 := Lib.hid (M1_2.out.below hx1 M1_2.out.lt)
  clear hx1 B2 C1_2 M1_2
  go_wp2_with fail
  refine (HGB.out _).mono ?_
  rintro e x2 ⟨rfl, hx2⟩
  have B4 := Lib.hid (B3.out.trans (hx2.mono B3.out.size))
  have C1_4 := Lib.hid (C1_3.out.trans (hx2.mono C1_3.out.size))
  have M1_4 := Lib.hid (M1_3.out.below hx2 M1_3.out.lt)
  clear hx2 B3 C1_3 M1_3
  go_wp2_with fail
  refine (R2.out _ B4.out).mono ?_
  rintro e v2 ⟨ha2, A2, m2, c2, rfl, hl2, ho2⟩
  obtain rfl := hl2.lenJ
  have B5 := Lib.hid (B4.out.trans (ha2.mono B4.out.size))
  have C1_5 := Lib.hid (C1_4.out.trans (ha2.mono C1_4.out.size))
  have M1_5 := Lib.hid (M1_4.out.below ha2 M1_4.out.lt)
  clear ha2 B4 C1_4 M1_4
  obtain ⟨⟨k2, f2, n2, dg2, ex2, u2, wd2, st2⟩, hw2⟩ : ∃ o, t2.own = o := ⟨_, rfl⟩
  simp only [hw2] at ho2 ⊢
  unfold nodeV
  simp only []
  have HW2 := Lib.hid hw2
  have HO2 := Lib.hid ho2
  have HL2 := Lib.hid (hl2.mono (S' := fun q => q < v2.heap.size) (fun q hq => hq.2))
  have B6 := Lib.hid (B5.out.alloc B5.out.size (.cells #[.int .i64 k2, .bool f2, .bool n2, .string dg2, .int .i64 ex2, .int .u64 u2, .int .i64 wd2, .string st2, .slice A2 t2.kids.length c2] 27))
  have C1_6 := Lib.hid (C1_5.out.alloc C1_5.out.size (.cells #[.int .i64 k2, .bool f2, .bool n2, .string dg2, .int .i64 ex2, .int .u64 u2, .int .i64 wd2, .string st2, .slice A2 t2.kids.length c2] 27))
  have M1_6 := Lib.hid (M1_5.out.alloc (.cells #[.int .i64 k2, .bool f2, .bool n2, .string dg2, .int .i64 ex2, .int .u64 u2, .int .i64 wd2, .string st2, .slice A2 t2.kids.length c2] 27))
  have C2_6 := Lib.hid ((Below.refl v2.heap.size v2).alloc (Nat.le_refl _) (.cells #[.int .i64 k2, .bool f2, .bool n2, .string dg2, .int .i64 ex2, .int .u64 u2, .int .i64 wd2, .string st2, .slice A2 t2.kids.length c2] 27))
  have M2_6 := Lib.hid (Blk.new v2 #[.int .i64 k2, .bool f2, .bool n2, .string dg2, .int .i64 ex2, .int .u64 u2, .int .i64 wd2, .string st2, .slice A2 t2.kids.length c2] 27)
  clear B5 R2 hl2 hw2 ho2 C1_5 M1_5
  go_wp2_with fail
  refine (HGA.out _).mono ?_
  rintro e x3 ⟨rfl, hx3⟩
  have B7 := Lib.hid (B6.out.trans (hx3.mono B6.out.size))
  have C1_7 := Lib.hid (C1_6.out.trans (hx3.mono C1_6.out.size))
  have M1_7 := Lib.hid (M1_6.out.below hx3 M1_6.out.lt)
  have C2_7 := Lib.hid (C2_6.out.trans (hx3.mono C2_6.out.size))
  have M2_7 := Lib.hid (M2_6.out.below hx3 M2_6.out.lt)
  clear hx3 B6 C1_6 M1_6 C2_6 M2_6
  go_wp2_with fail
  refine (HGB.out _).mono ?_
  rintro e x4 ⟨rfl, hx4⟩
  have B8 := Lib.hid (B7.out.trans (hx4.mono B7.out.size))
  have C1_8 := Lib.hid (C1_7.out.trans (hx4.mono C1_7.out.size))
  have M1_8 := Lib.hid (M1_7.out.below hx4 M1_7.out.lt)
  have C2_8 := Lib.hid (C2_7.out.trans (hx4.mono C2_7.out.size))
  have M2_8 := Lib.hid (M2_7.out.below hx4 M2_7.out.lt)
  clear hx4 B7 C1_7 M1_7 C2_7 M2_7
  go_wp2_with fail
  refine (HGB.out _).mono ?_
  rintro e x5 ⟨rfl, hx5⟩
  have B9 := Lib.hid (B8.out.trans (hx5.mono B8.out.size))
  have C1_9 := Lib.hid (C1_8.out.trans (hx5.mono C1_8.out.size))
  have M1_9 := Lib.hid (M1_8.out.below hx5 M1_8.out.lt)
  have C2_9 := Lib.hid (C2_8.out.trans (hx5.mono C2_8.out.size))
  have M2_9 := Lib.hid (M2_8.out.below hx5 M2_8.out.lt)
  clear hx5 B8 C1_8 M1_8 C2_8 M2_8
  go_wp2_with fail
  refine (R3.out _ B9.out).mono ?_
  rintro e v3 ⟨ha3, A3, m3, c3, rfl, hl3, ho3⟩
  obtain rfl := hl3.lenJ
  have B10 := Lib.hid (B9.out.trans (ha3.mono B9.out.size))
  have C1_10 := Lib.hid (C1_9.out.trans (ha3.mono C1_9.out.size))
  have M1_10 := Lib.hid (M1_9.out.below ha3 M1_9.out.lt)
  have C2_10 := Lib.hid (C2_9.out.trans (ha3.mono C2_9.out.size))
  have M2_10 := Lib.hid (M2_9.out.below ha3 M2_9.out.lt)
  clear ha3 B9 C1_9 M1_9 C2_9 M2_9
  obtain ⟨⟨k3, f3, n3, dg3, ex3, u3, wd3, st3⟩, hw3⟩ : ∃ o, t3.own = o := ⟨_, rfl⟩
  simp only [hw3] at ho3 ⊢
  unfold nodeV
  simp only []
  have HW3 := Lib.hid hw3
  have HO3 := Lib.hid ho3
  have HL3 := Lib.hid (hl3.mono (S' := fun q => q < v3.heap.size) (fun q hq => hq.2))
  have B11 := Lib.hid (B10.out.alloc B10.out.size (.cells #[.int .i64 k3, .bool f3, .bool n3, .string dg3, .int .i64 ex3, .int .u64 u3, .int .i64 wd3, .string st3, .slice A3 t3.kids.length c3] 27))
  have C1_11 := Lib.hid (C1_10.out.alloc C1_10.out.size (.cells #[.int .i64 k3, .bool f3, .bool n3, .string dg3, .int .i64 ex3, .int .u64 u3, .int .i64 wd3, .string st3, .slice A3 t3.kids.length c3] 27))
  have M1_11 := Lib.hid (M1_10.out.alloc (.cells #[.int .i64 k3, .bool f3, .bool n3, .string dg3, .int .i64 ex3, .int .u64 u3, .int .i64 wd3, .string st3, .slice A3 t3.kids.length c3] 27))
  have C2_11 := Lib.hid (C2_10.out.alloc C2_10.out.size (.cells #[.int .i64 k3, .bool f3, .bool n3, .string dg3, .int .i64 ex3, .int .u64 u3, .int .i64 wd3, .string st3, .slice A3 t3.kids.length c3] 27))
  have M2_11 := Lib.hid (M2_10.out.alloc (.cells #[.int .i64 k3, .bool f3, .bool n3, .string dg3, .int .i64 ex3, .int .u64 u3, .int .i64 wd3, .string st3, .slice A3 t3.kids.length c3] 27))
  have C3_11 := Lib.hid ((Below.refl v3.heap.size v3).alloc (Nat.le_refl _) (.cells #[.int .i64 k3, .bool f3, .bool n3, .string dg3, .int .i64 ex3, .int .u64 u3, .int .i64 wd3, .string st3, .slice A3 t3.kids.length c3] 27))
  have M3_11 := Lib.hid (Blk.new v3 #[.int .i64 k3, .bool f3, .bool n3, .string dg3, .int .i64 ex3, .int .u64 u3, .int .i64 wd3, .string st3, .slice A3 t3.kids.length c3] 27)
  clear B10 R3 hl3 hw3 ho3 C1_10 M1_10 C2_10 M2_10
  by_cases g5 : e1 = 0
  case neg =>
    have g6 := q1 g5
    clear q1 q2 C1_11 C2_11 C3_11 M1_11 M2_11 M3_11 HL1 HL2 HL3 HO1 HO2 HO3 HW1 HW2 HW3
    go_wp2_with fail
    go_ret
    refine ⟨?_, B11.out⟩
    show Ending.returned (Value.bool _) = _
    simp [g6]
  subst g5
  obtain ⟨g6, qd, qc, q3⟩ := q2 t1 rfl
  have g7 : t1 = t2 := (Prod.mk.inj g6).2.symm
  have g8 : e2 = 0 := (Prod.mk.inj g6).1
  subst g8
  subst g7
  obtain ⟨rfl, rfl, rfl, rfl, rfl, rfl, rfl, rfl⟩ := Own.mk.inj (HW1.out.symm.trans HW2.out)
  clear q1 q2 g6
  have HF1 : Hid (∀ W', Below (v3.alloc (.cells #[.int .i64 k3, .bool f3, .bool n3, .string dg3, .int .i64 ex3, .int .u64 u3, .int .i64 wd3, .string st3, .slice A3 t3.kids.length c3] 27)).heap.size (v3.alloc (.cells #[.int .i64 k3, .bool f3, .bool n3, .string dg3, .int .i64 ex3, .int .u64 u3, .int .i64 wd3, .string st3, .slice A3 t3.kids.length c3] 27)) W' → ListAt W' W'.heap.size 16 t1.kids (.slice A1 t1.kids.length c1)) := Lib.hid (fun W' hb => ((HL1.out.below (C1_11.out.trans (hb.mono C1_11.out.size)) (Nat.le_refl _)).more (Nat.le_trans C1_11.out.size hb.size)))
  have HF2 : Hid (∀ W', Below (v3.alloc (.cells #[.int .i64 k3, .bool f3, .bool n3, .string dg3, .int .i64 ex3, .int .u64 u3, .int .i64 wd3, .string st3, .slice A3 t3.kids.length c3] 27)).heap.size (v3.alloc (.cells #[.int .i64 k3, .bool f3, .bool n3, .string dg3, .int .i64 ex3, .int .u64 u3, .int .i64 wd3, .string st3, .slice A3 t3.kids.length c3] 27)) W' → ListAt W' W'.heap.size 16 t1.kids (.slice A2 t1.kids.length c2)) := Lib.hid (fun W' hb => ((HL2.out.below (C2_11.out.trans (hb.mono C2_11.out.size)) (Nat.le_refl _)).more (Nat.le_trans C2_11.out.size hb.size)))
  have HF3 : Hid (∀ W', Below (v3.alloc (.cells #[.int .i64 k3, .bool f3, .bool n3, .string dg3, .int .i64 ex3, .int .u64 u3, .int .i64 wd3, .string st3, .slice A3 t3.kids.length c3] 27)).heap.size (v3.alloc (.cells #[.int .i64 k3, .bool f3, .bool n3, .string dg3, .int .i64 ex3, .int .u64 u3, .int .i64 wd3, .string st3, .slice A3 t3.kids.length c3] 27)) W' → ListAt W' W'.heap.size 16 t3.kids (.slice A3 t3.kids.length c3)) := Lib.hid (fun W' hb => ((HL3.out.below (C3_11.out.trans (hb.mono C3_11.out.size)) (Nat.le_refl _)).more (Nat.le_trans C3_11.out.size hb.size)))
  have HS : Hid (∀ W', Below (v3.alloc (.cells #[.int .i64 k3, .bool f3, .bool n3, .string dg3, .int .i64 ex3, .int .u64 u3, .int .i64 wd3, .string st3, .slice A3 t3.kids.length c3] 27)).heap.size (v3.alloc (.cells #[.int .i64 k3, .bool f3, .bool n3, .string dg3, .int .i64 ex3, .int .u64 u3, .int .i64 wd3, .string st3, .slice A3 t3.kids.length c3] 27)) W' → Calls Tryz.prog 17 #[.agg #[.int .i64 k1, .bool f1, .bool n1, .string dg1, .int .i64 ex1, .int .u64 u1, .int .i64 wd1, .string st1, .slice A1 t1.kids.length c1], .agg #[.int .i64 k1, .bool f1, .bool n1, .string dg1, .int .i64 ex1, .int .u64 u1, .int .i64 wd1, .string st1, .slice A2 t1.kids.length c2]] W' fun e w' => e = .returned (.bool true) ∧ Below W'.heap.size W' w') := Lib.hid (fun W' hb => by
    have := ref_SameT 16 t1 t1 _ _ W' W'.heap.size 16 (HF1.out W' hb) (HF2.out W' hb) (Nat.le_refl _)
    rw [sameT_refl, HW1.out] at this
    exact this)
  have HD : Hid (∀ W', Below (v3.alloc (.cells #[.int .i64 k3, .bool f3, .bool n3, .string dg3, .int .i64 ex3, .int .u64 u3, .int .i64 wd3, .string st3, .slice A3 t3.kids.length c3] 27)).heap.size (v3.alloc (.cells #[.int .i64 k3, .bool f3, .bool n3, .string dg3, .int .i64 ex3, .int .u64 u3, .int .i64 wd3, .string st3, .slice A3 t3.kids.length c3] 27)) W' → Calls Tryz.prog 30 #[.agg #[.int .i64 k1, .bool f1, .bool n1, .string dg1, .int .i64 ex1, .int .u64 u1, .int .i64 wd1, .string st1, .slice A1 t1.kids.length c1]] W' fun e w' => e = .returned (.int .i64 (t1.depth : Nat)) ∧ Below W'.heap.size W' w') := Lib.hid (fun W' hb => by
    have := tree_Depth 16 t1 _ W' W'.heap.size (HF1.out W' hb) (Nat.le_refl _) (by omega)
    rw [HW1.out] at this
    exact this)
  have HN : Hid (∀ W', Below (v3.alloc (.cells #[.int .i64 k3, .bool f3, .bool n3, .string dg3, .int .i64 ex3, .int .u64 u3, .int .i64 wd3, .string st3, .slice A3 t3.kids.length c3] 27)).heap.size (v3.alloc (.cells #[.int .i64 k3, .bool f3, .bool n3, .string dg3, .int .i64 ex3, .int .u64 u3, .int .i64 wd3, .string st3, .slice A3 t3.kids.length c3] 27)) W' → Calls Tryz.prog 31 #[.agg #[.int .i64 k1, .bool f1, .bool n1, .string dg1, .int .i64 ex1, .int .u64 u1, .int .i64 wd1, .string st1, .slice A1 t1.kids.length c1]] W' fun e w' => e = .returned (.int .i64 (t1.count : Nat)) ∧ Below W'.heap.size W' w') := Lib.hid (fun W' hb => by
    have := tree_Count t1 _ W' W'.heap.size 16 (HF1.out W' hb) (by rw [HW1.out]; exact HO1.out) (Nat.le_refl _) (by omega)
    rw [HW1.out] at this
    exact this)
  have z10 := M1_11.out.cell 0
  have z11 := M1_11.out.cell 1
  have z12 := M1_11.out.cell 2
  have z13 := M1_11.out.cell 3
  have z14 := M1_11.out.cell 4
  have z15 := M1_11.out.cell 5
  have z16 := M1_11.out.cell 6
  have z17 := M1_11.out.cell 7
  have z18 := M1_11.out.cell 8
  have z20 := M2_11.out.cell 0
  have z21 := M2_11.out.cell 1
  have z22 := M2_11.out.cell 2
  have z23 := M2_11.out.cell 3
  have z24 := M2_11.out.cell 4
  have z25 := M2_11.out.cell 5
  have z26 := M2_11.out.cell 6
  have z27 := M2_11.out.cell 7
  have z28 := M2_11.out.cell 8
  clear HF2 HL1 HL2 HL3 C1_11 C2_11 C3_11 HO1 HO2 HO3
  go_wp2_with fail
  refine (HS.out _ (Below.refl _ _)).mono ?_
  rintro e y1 ⟨rfl, hy1⟩
  have N1_1 := Lib.hid (M1_11.out.below hy1 M1_11.out.lt)
  have N3_1 := Lib.hid (M3_11.out.below hy1 M3_11.out.lt)
  have B12 := Lib.hid (B11.out.trans (hy1.mono B11.out.size))
  have HY1 := Lib.hid hy1
  clear M1_11 M2_11 M3_11 B11 hy1 z10 z11 z12 z13 z14 z15 z16 z17 z18 z20 z21 z22 z23 z24 z25 z26 z27 z28
  by_cases gc : t1.count ≤ 149 ∧ t1.depth ≤ 15
  case neg =>
    rw [if_neg gc] at q3
    have g8 : e3 = 60 := (Prod.mk.inj q3).1
    subst g8
    clear q3 HS
    obtain ⟨dp, hdp⟩ : ∃ d : Nat, t1.depth = d := ⟨_, rfl⟩
    obtain ⟨cn, hcn⟩ : ∃ d : Nat, t1.count = d := ⟨_, rfl⟩
    rw [hdp] at HD gc qd
    rw [hcn] at HN gc qc
    clear hdp hcn
    have z0 := N1_1.out.cell 0
    have z1 := N1_1.out.cell 1
    have z2 := N1_1.out.cell 2
    have z3 := N1_1.out.cell 3
    have z4 := N1_1.out.cell 4
    have z5 := N1_1.out.cell 5
    have z6 := N1_1.out.cell 6
    have z7 := N1_1.out.cell 7
    have z8 := N1_1.out.cell 8
    by_cases gd : dp = 16
    · have gd' : (dp : Int) = 16 := by omega
      go_wp2_with fail
      refine (HD.out _ HY1.out).mono ?_
      rintro e y2 ⟨rfl, hy2⟩
      clear z0 z1 z2 z3 z4 z5 z6 z7 z8
      go_wp2_with fail
      go_ret
      exact ⟨rfl, B12.out.trans (hy2.mono B12.out.size)⟩
    · have gd' : ¬ (dp : Int) = 16 := by omega
      have gn : (149 : Int) < cn := by omega
      go_wp2_with fail
      refine (HD.out _ HY1.out).mono ?_
      rintro e y2 ⟨rfl, hy2⟩
      clear z0 z1 z2 z3 z4 z5 z6 z7 z8
      have HY2 := Lib.hid (HY1.out.trans (hy2.mono HY1.out.size))
      have N1_2 := Lib.hid (N1_1.out.below hy2 N1_1.out.lt)
      have B13 := Lib.hid (B12.out.trans (hy2.mono B12.out.size))
      have z0 := N1_2.out.cell 0
      have z1 := N1_2.out.cell 1
      have z2 := N1_2.out.cell 2
      have z3 := N1_2.out.cell 3
      have z4 := N1_2.out.cell 4
      have z5 := N1_2.out.cell 5
      have z6 := N1_2.out.cell 6
      have z7 := N1_2.out.cell 7
      have z8 := N1_2.out.cell 8
      clear hy2
      go_wp2_with fail
      refine (HN.out _ HY2.out).mono ?_
      rintro e y3 ⟨rfl, hy3⟩
      clear z0 z1 z2 z3 z4 z5 z6 z7 z8
      go_wp2_with fail
      go_ret
      exact ⟨rfl, B13.out.trans (hy3.mono B13.out.size)⟩
  rw [if_pos gc] at q3
  have g8 : e3 = 0 := (Prod.mk.inj q3).1
  have g9 : t3 = listT 7 [t1, t1] := (Prod.mk.inj q3).2
  subst g8
  subst g9
  clear q3 HN HD
  have HF3 : Hid (∀ W', Below (v3.alloc (.cells #[.int .i64 k3, .bool f3, .bool n3, .string dg3, .int .i64 ex3, .int .u64 u3, .int .i64 wd3, .string st3, .slice A3 (listT 7 [t1, t1]).kids.length c3] 27)).heap.size (v3.alloc (.cells #[.int .i64 k3, .bool f3, .bool n3, .string dg3, .int .i64 ex3, .int .u64 u3, .int .i64 wd3, .string st3, .slice A3 (listT 7 [t1, t1]).kids.length c3] 27)) W' → ListAt W' W'.heap.size 16 [t1, t1] (.slice A3 2 c3)) := HF3
  have HS2 : Hid (∀ W' d' x', Below (v3.alloc (.cells #[.int .i64 k3, .bool f3, .bool n3, .string dg3, .int .i64 ex3, .int .u64 u3, .int .i64 wd3, .string st3, .slice A3 (listT 7 [t1, t1]).kids.length c3] 27)).heap.size (v3.alloc (.cells #[.int .i64 k3, .bool f3, .bool n3, .string dg3, .int .i64 ex3, .int .u64 u3, .int .i64 wd3, .string st3, .slice A3 (listT 7 [t1, t1]).kids.length c3] 27)) W' → ListAt W' W'.heap.size d' t1.kids x' → Calls Tryz.prog 17 #[.agg #[.int .i64 k1, .bool f1, .bool n1, .string dg1, .int .i64 ex1, .int .u64 u1, .int .i64 wd1, .string st1, x'], .agg #[.int .i64 k1, .bool f1, .bool n1, .string dg1, .int .i64 ex1, .int .u64 u1, .int .i64 wd1, .string st1, .slice A1 t1.kids.length c1]] W' fun e w' => e = .returned (.bool true) ∧ Below W'.heap.size W' w') := Lib.hid (fun W' d' x' hb hx => by
    have := ref_SameT d' t1 t1 _ _ W' W'.heap.size 16 hx (HF1.out W' hb) (Nat.le_refl _)
    rw [sameT_refl, HW1.out] at this
    exact this)
  obtain ⟨d1, ad, xa, hd1, rfl, hS1, _, hna, hkk⟩ := (HF3.out _ HY1.out).at_ (k := 0) (by simp)
  simp only [List.getElem_cons_zero] at hna hkk
  rw [HW1.out] at hna
  obtain ⟨d1', ad', xb, hd1', hadd, hS1', _, hna', hkk'⟩ := (HF3.out _ HY1.out).at_ (k := 1) (by simp)
  obtain rfl : ad = ad' := by injection hadd
  simp only [List.getElem_cons_zero, List.getElem_cons_succ] at hna' hkk'
  rw [HW1.out] at hna'
  obtain ⟨ae, yae⟩ : ∃ ae, ad.add (0 * 9) = ae := ⟨_, rfl⟩
  obtain ⟨be, ybe⟩ : ∃ be, ad.add (1 * 9) = be := ⟨_, rfl⟩
  have hae : ae.block < y1.heap.size := by rw [← yae, add_block]; exact hS1
  have hbe : be.block < y1.heap.size := by rw [← ybe, add_block]; exact hS1
  rw [yae] at hna
  rw [ybe] at hna'
  have yad : ad.add 0 = ae := yae
  have ybd : ad.add 9 = be := ybe
  have HE1 := Lib.hid (fun W (hW : Below y1.heap.size y1 W) => (show NodeAt W ae ⟨k1, f1, n1, dg1, ex1, u1, wd1, st1⟩ xa from by
    have e : W.heap[ae.block]? = y1.heap[ae.block]? := hW.block _ hae
    exact ⟨(cell_keep e).trans hna.c0, (cell_keep (a := ⟨ae.block, _, none⟩) e).trans hna.c1, (cell_keep (a := ⟨ae.block, _, none⟩) e).trans hna.c2, (cell_keep (a := ⟨ae.block, _, none⟩) e).trans hna.c3, (cell_keep (a := ⟨ae.block, _, none⟩) e).trans hna.c4, (cell_keep (a := ⟨ae.block, _, none⟩) e).trans hna.c5, (cell_keep (a := ⟨ae.block, _, none⟩) e).trans hna.c6, (cell_keep (a := ⟨ae.block, _, none⟩) e).trans hna.c7, (cell_keep (a := ⟨ae.block, _, none⟩) e).trans hna.c8⟩))
  have HE2 := Lib.hid (fun W (hW : Below y1.heap.size y1 W) => (show NodeAt W be ⟨k1, f1, n1, dg1, ex1, u1, wd1, st1⟩ xb from by
    have e : W.heap[be.block]? = y1.heap[be.block]? := hW.block _ hbe
    exact ⟨(cell_keep e).trans hna'.c0, (cell_keep (a := ⟨be.block, _, none⟩) e).trans hna'.c1, (cell_keep (a := ⟨be.block, _, none⟩) e).trans hna'.c2, (cell_keep (a := ⟨be.block, _, none⟩) e).trans hna'.c3, (cell_keep (a := ⟨be.block, _, none⟩) e).trans hna'.c4, (cell_keep (a := ⟨be.block, _, none⟩) e).trans hna'.c5, (cell_keep (a := ⟨be.block, _, none⟩) e).trans hna'.c6, (cell_keep (a := ⟨be.block, _, none⟩) e).trans hna'.c7, (cell_keep (a := ⟨be.block, _, none⟩) e).trans hna'.c8⟩))
  have HC1 := Lib.hid (fun W (hW : Below y1.heap.size y1 W) => HS2.out W d1 xa (HY1.out.trans (hW.mono HY1.out.size)) ((hkk.below hW (Nat.le_refl _)).more hW.size))
  have HC2 := Lib.hid (fun W (hW : Below y1.heap.size y1 W) => HS2.out W d1' xb (HY1.out.trans (hW.mono HY1.out.size)) ((hkk'.below hW (Nat.le_refl _)).more hW.size))
  obtain ⟨a0, a1, a2, a3, a4, a5, a6, a7, a8⟩ := hna
  simp only [] at a0 a1 a2 a3 a4 a5 a6 a7 a8
  obtain ⟨b0, b1, b2, b3, b4, b5, b6, b7, b8⟩ := hna'
  simp only [] at b0 b1 b2 b3 b4 b5 b6 b7 b8
  have z0 := N1_1.out.cell 0
  have z1 := N1_1.out.cell 1
  have z2 := N1_1.out.cell 2
  have z3 := N1_1.out.cell 3
  have z4 := N1_1.out.cell 4
  have z5 := N1_1.out.cell 5
  have z6 := N1_1.out.cell 6
  have z7 := N1_1.out.cell 7
  have z8 := N1_1.out.cell 8
  have z38 : y1.cell? ⟨v3.heap.size, 8, none⟩ = some (.slice (some ad) 2 c3) := N3_1.out.cell 8
  have hy01 : Below y1.heap.size y1 y1.drew := (Below.refl _ y1).drew
  have M10 := Blk.drew N1_1.out
  have M30 := Blk.drew N3_1.out
  have z00 := M10.cell 0
  have z01 := M10.cell 1
  have z02 := M10.cell 2
  have z03 := M10.cell 3
  have z04 := M10.cell 4
  have z05 := M10.cell 5
  have z06 := M10.cell 6
  have z07 := M10.cell 7
  have z08 := M10.cell 8
  have zz0 : y1.drew.cell? ⟨v3.heap.size, 8, none⟩ = some (.slice (some ad) 2 c3) := M30.cell 8
  obtain ⟨a00, a01, a02, a03, a04, a05, a06, a07, a08⟩ := HE1.out y1.drew hy01
  simp only [] at a00 a01 a02 a03 a04 a05 a06 a07 a08
  obtain ⟨b00, b01, b02, b03, b04, b05, b06, b07, b08⟩ := HE2.out y1.drew hy01
  simp only [] at b00 b01 b02 b03 b04 b05 b06 b07 b08
  clear hkk hkk' hd1 hd1' hS1 hS1' hadd hae hbe yae ybe HS HF1 HF3 HS2
  go_wp2_with fail
  go_region_held3 (fun w' => w'.cell? ⟨v1.heap.size, 0, none⟩ = some (.int .i64 k1) ∧ w'.cell? ⟨v1.heap.size, 1, none⟩ = some (.bool f1) ∧ w'.cell? ⟨v1.heap.size, 2, none⟩ = some (.bool n1) ∧ w'.cell? ⟨v1.heap.size, 3, none⟩ = some (.string dg1) ∧ w'.cell? ⟨v1.heap.size, 4, none⟩ = some (.int .i64 ex1) ∧ w'.cell? ⟨v1.heap.size, 5, none⟩ = some (.int .u64 u1) ∧ w'.cell? ⟨v1.heap.size, 6, none⟩ = some (.int .i64 wd1) ∧ w'.cell? ⟨v1.heap.size, 7, none⟩ = some (.string st1) ∧ w'.cell? ⟨v1.heap.size, 8, none⟩ = some (.slice A1 t1.kids.length c1) ∧ w'.cell? ⟨v3.heap.size, 8, none⟩ = some (.slice (some ad) 2 c3) ∧ w'.cell? ae = some (.int .i64 k1) ∧ w'.cell? ⟨ae.block, ae.off + 1, none⟩ = some (.bool f1) ∧ w'.cell? ⟨ae.block, ae.off + 2, none⟩ = some (.bool n1) ∧ w'.cell? ⟨ae.block, ae.off + 3, none⟩ = some (.string dg1) ∧ w'.cell? ⟨ae.block, ae.off + 4, none⟩ = some (.int .i64 ex1) ∧ w'.cell? ⟨ae.block, ae.off + 5, none⟩ = some (.int .u64 u1) ∧ w'.cell? ⟨ae.block, ae.off + 6, none⟩ = some (.int .i64 wd1) ∧ w'.cell? ⟨ae.block, ae.off + 7, none⟩ = some (.string st1) ∧ w'.cell? ⟨ae.block, ae.off + 8, none⟩ = some (xa) ∧ w'.cell? be = some (.int .i64 k1) ∧ w'.cell? ⟨be.block, be.off + 1, none⟩ = some (.bool f1) ∧ w'.cell? ⟨be.block, be.off + 2, none⟩ = some (.bool n1) ∧ w'.cell? ⟨be.block, be.off + 3, none⟩ = some (.string dg1) ∧ w'.cell? ⟨be.block, be.off + 4, none⟩ = some (.int .i64 ex1) ∧ w'.cell? ⟨be.block, be.off + 5, none⟩ = some (.int .u64 u1) ∧ w'.cell? ⟨be.block, be.off + 6, none⟩ = some (.int .i64 wd1) ∧ w'.cell? ⟨be.block, be.off + 7, none⟩ = some (.string st1) ∧ w'.cell? ⟨be.block, be.off + 8, none⟩ = some (xb)) (first | exact ⟨z00, z01, z02, z03, z04, z05, z06, z07, z08, zz0, a00, a01, a02, a03, a04, a05, a06, a07, a08, b00, b01, b02, b03, b04, b05, b06, b07, b08⟩ | exact ⟨z20, z21, z22, z23, z24, z25, z26, z27, z28, zz2, a20, a21, a22, a23, a24, a25, a26, a27, a28, b20, b21, b22, b23, b24, b25, b26, b27, b28⟩ | exact ⟨z30, z31, z32, z33, z34, z35, z36, z37, z38, zz3, a30, a31, a32, a33, a34, a35, a36, a37, a38, b30, b31, b32, b33, b34, b35, b36, b37, b38⟩)
    (first | (go_at_call 17; first | (refine (HC2.out _ hy21).mono ?_; rintro e y3 ⟨rfl, hy3⟩; have hy31 := hy21.trans (hy3.mono hy21.size); have M13 := M12.below hy3 M12.lt; have M33 := M32.below hy3 M32.lt; have z30 := M13.cell 0; have z31 := M13.cell 1; have z32 := M13.cell 2; have z33 := M13.cell 3; have z34 := M13.cell 4; have z35 := M13.cell 5; have z36 := M13.cell 6; have z37 := M13.cell 7; have z38 := M13.cell 8; have zz3 : y3.cell? ⟨v3.heap.size, 8, none⟩ = some (.slice (some ad) 2 c3) := M33.cell 8; obtain ⟨a30, a31, a32, a33, a34, a35, a36, a37, a38⟩ := HE1.out y3 hy31; simp only [] at a30 a31 a32 a33 a34 a35 a36 a37 a38; obtain ⟨b30, b31, b32, b33, b34, b35, b36, b37, b38⟩ := HE2.out y3 hy31; simp only [] at b30 b31 b32 b33 b34 b35 b36 b37 b38) | (refine (HC1.out _ ((Below.refl _ y1).drew)).mono ?_; rintro e y2 ⟨rfl, hy2⟩; have hy21 := ((Below.refl y1.heap.size y1).drew).trans hy2; have M12 := (Blk.drew N1_1.out).below hy2 (Blk.drew N1_1.out).lt; have M32 := (Blk.drew N3_1.out).below hy2 (Blk.drew N3_1.out).lt; have z20 := M12.cell 0; have z21 := M12.cell 1; have z22 := M12.cell 2; have z23 := M12.cell 3; have z24 := M12.cell 4; have z25 := M12.cell 5; have z26 := M12.cell 6; have z27 := M12.cell 7; have z28 := M12.cell 8; have zz2 : y2.cell? ⟨v3.heap.size, 8, none⟩ = some (.slice (some ad) 2 c3) := M32.cell 8; obtain ⟨a20, a21, a22, a23, a24, a25, a26, a27, a28⟩ := HE1.out y2 hy21; simp only [] at a20 a21 a22 a23 a24 a25 a26 a27 a28; obtain ⟨b20, b21, b22, b23, b24, b25, b26, b27, b28⟩ := HE2.out y2 hy21; simp only [] at b20 b21 b22 b23 b24 b25 b26 b27 b28)))
  all_goals (clear HE1 HE2 HC1 HC2)
  all_goals (go_wp2_with fail)
  all_goals (go_ret)
  all_goals exact ⟨rfl, B12.out.trans (hy31.mono B12.out.size)⟩
end Go.Proofs.YtfckekaegjjmkaaGreatDoor
