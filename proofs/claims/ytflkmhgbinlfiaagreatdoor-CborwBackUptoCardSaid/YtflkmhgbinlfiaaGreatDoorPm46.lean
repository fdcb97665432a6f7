/- The texts CsG, TreeV, put together. -/
import Derived.Test.YtflkmhgbinlfiaaGreatDoorPm45
import Derived.Test.YtflkmhgbinlfiaaGreatDoorPm03
import Derived.Test.YtflkmhgbinlfiaaGreatDoorRows
import Derived.Test.YtflkmhgbinlfiaaGreatDoorPm02
import Derived.Test.YtflkmhgbinlfiaaGreatDoorPm44
import Derived.Deep.Slices
import Derived.ChangeArms
import Derived.WideShapes
namespace Go.Proofs.YtflkmhgbinlfiaaGreatDoor
open Go.RowKit Go.Shelf
attribute [local go_sem] Oper.semAt_some

theorem rc_big {s : ByteArray} (h : 4000 < s.size) : RC s = (81, .nd zeroO []) := by
  unfold RC readC
  rw [data_len, if_pos h]
theorem few_okB {t : Tr} (h : OwnOk t.own) : OwnOk (fewT t).own := by
  rw [fewT_own]
  exact cut_ok h

set_option maxHeartbeats 8000000 in
set_option maxRecDepth 100000 in
theorem back_walk {aT aF : Addr} (t0 : Tr) (vt : Value) (m0 : ByteArray) (w : World) (h : RW w aT aF) (D : Nat) (hl : ListAt w w.heap.size D t0.kids vt) (ho : OwnOk t0.own) (hc : t0.count ≤ 1048576) (hm0 : m0.size ≤ 9223372036854775807) :
    Calls Tryz.prog 8 #[nodeV t0.own vt, .string m0] w fun e w' => e = .returned (.bool true) ∧ Below w.heap.size w w' := by
  have H0 := Lib.hid (fun w h => cb_shown (aT := aT) (aF := aF) w h)
  have HU := Lib.hid (fun (w' : World) (hw : Below w.heap.size w w') => (h.below hw).g)
  have HF := Lib.hid (fun (w' : World) (hw : Below w.heap.size w w') => law_FewT t0 vt w' w.heap.size D (hl.below hw (Nat.le_refl _)) ho hw.size (by omega))
  have HRE := Lib.hid (fun (x : ByteArray) (hx : x.size ≤ 1000000000) W (hb : Below w.heap.size w W) => cr_Read x hx W (h.below hb))
  have HIE := Lib.hid (fun (x : ByteArray) (hx : x.size ≤ 1000000000) W (hb : Below w.heap.size w W) => cr_Item x hx W (h.below hb).tab (h.below hb).ty)
  have hto := few_okB ho
  have htc := few_count t0
  obtain ⟨o0, ho0⟩ : ∃ o, t0.own = o := ⟨_, rfl⟩
  rw [ho0] at HF ⊢
  generalize fewT t0 = t at HF hto htc
  obtain ⟨km, hkm⟩ : ∃ k, min m0.size 100 = k := ⟨_, rfl⟩
  have k1 : min (m0.size : Int) 100 = (km : Int) := by omega
  have k3 : km ≤ m0.size := by omega
  have hmz := ext_size m0 km k3
  obtain ⟨m, hm⟩ : ∃ m, m0.extract 0 km = m := ⟨_, rfl⟩
  rw [hm] at hmz
  have hm9 : m.size ≤ 100 := by omega
  have HM := Lib.hid hm
  have hb2 : Below w.heap.size w (w.alloc (.cells (cellsV o0 vt) 28)) := (Below.refl _ _).alloc (Nat.le_refl _) _
  have hk1 := Blk.new w (cellsV o0 vt) 28
  obtain ⟨ot, hot⟩ : ∃ o, t.own = o := ⟨_, rfl⟩
  rw [hot] at HF
  have HK1 := Lib.hid hk1
  have HH := Lib.hid (h.below hb2).g
  have HHOT := Lib.hid hot
  unfold nodeV cellsV at *
  clear hl ho hc h hk1 hm hkm hmz hm0 hot
  go_enter Tryz.func8, Tryz.ntmps8
  go_wp2_with fail
  refine (H0.out _ HH.out).mono ?_
  rintro e w1 ⟨rfl, hb1⟩
  have hb3 := hb2.trans (hb1.mono hb2.size)
  have hk1 := HK1.out.below hb1 HK1.out.lt
  have HK3 := Lib.hid hk1
  clear hb1 HK1 hk1 HH hb2
  go_wp2_with (refine wpList_load_row rfl 28 (.tmp 2) rfl (w.heap.size) rfl 28 _ (0, 0) _ HK3.out Tryz.underlying28 rfl (by kernel_rfl) ?_)
  refine (HF.out _ hb3).mono ?_
  rintro e w2 ⟨⟨y, rfl, hly⟩, hb⟩
  obtain ⟨_, A1, c1, rfl⟩ := hly.slice
  obtain ⟨n1, hn1⟩ : ∃ n1, t.kids.length = n1 := ⟨_, rfl⟩
  rw [hn1] at hly ⊢
  have hb4 := hb3.trans (hb.mono hb3.size)
  have hk1 := HK3.out.below hb HK3.out.lt
  have hz := hb3.size
  have hb5 := hb4.grown (grown_row w2 w.heap.size #[.int .i64 ot.kind, .bool ot.b, .bool ot.neg, .string ot.dg, .int .i64 ot.ex, .int .u64 ot.u, .int .i64 ot.wd, .string ot.s, .slice A1 n1 c1]) hb4.size (fun q e => by cases e; exact Nat.le_refl _)
  have hk3 := blk_row hk1 #[.int .i64 ot.kind, .bool ot.b, .bool ot.neg, .string ot.dg, .int .i64 ot.ex, .int .u64 ot.u, .int .i64 ot.wd, .string ot.s, .slice A1 n1 c1]
  have hw1 := HK3.out.lt
  have hly2 : ListAt (w2.setRow w.heap.size #[.int .i64 ot.kind, .bool ot.b, .bool ot.neg, .string ot.dg, .int .i64 ot.ex, .int .u64 ot.u, .int .i64 ot.wd, .string ot.s, .slice A1 n1 c1]) (w2.setRow w.heap.size #[.int .i64 ot.kind, .bool ot.b, .bool ot.neg, .string ot.dg, .int .i64 ot.ex, .int .u64 ot.u, .int .i64 ot.wd, .string ot.s, .slice A1 n1 c1]).heap.size 17 t.kids (.slice A1 n1 c1) := (hly.keep (fun q hq => setRow_other _ _ _ _ (by omega))).mono (fun q hq => by rw [setRow_size]; exact hq.2)
  have HK1 := Lib.hid hk1
  have HKT := Lib.hid hk3
  have HL1 := Lib.hid hly2
  clear hb hb3 hb4 hk1 hk3 HK3 hly hly2 HF H0 hn1
  go_wp2_with (first | (refine wpList_store_row rfl 28 (.tmp 2) (.tmp 15) rfl (w.heap.size) #[.int .i64 ot.kind, .bool ot.b, .bool ot.neg, .string ot.dg, .int .i64 ot.ex, .int .u64 ot.u, .int .i64 ot.wd, .string ot.s, .slice A1 n1 c1] rfl rfl 28 _ HK1.out (by kernel_rfl) rfl (by simp [Value.oneCell']) ?_) | (refine wpList_load_row rfl 28 (.tmp 2) rfl (w.heap.size) rfl 28 _ (0, 0) _ HKT.out Tryz.underlying28 rfl (by kernel_rfl) ?_))
  rw [HM.out]
  obtain ⟨w5, hw5⟩ : ∃ w5, w2.setRow w.heap.size #[.int .i64 ot.kind, .bool ot.b, .bool ot.neg, .string ot.dg, .int .i64 ot.ex, .int .u64 ot.u, .int .i64 ot.wd, .string ot.s, .slice A1 n1 c1] = w5 := ⟨_, rfl⟩
  rw [hw5] at HKT HL1 hb5 ⊢
  clear HK1 hw5 hz hw1 HM k1 k3
  have hot := HHOT.out
  have hWR := cb_Write t (.slice A1 n1 c1) w5 w5.heap.size 17 aT aF HL1.out hto (Nat.le_refl _) (by omega) (HU.out _ hb5)
  obtain ⟨ck, hck⟩ : ∃ ck, checkT 2 flC t = ck := ⟨_, rfl⟩
  rw [hck, hot] at hWR
  unfold nodeV at hWR
  by_cases hck0 : ck = 0
  · subst hck0
    obtain ⟨k1, k2, k3⟩ := check_facts HL1.out hto hck
    have hbd := cbT_bound t k1
    obtain ⟨a, ha⟩ : ∃ a, bs (cbT t) = a := ⟨_, rfl⟩
    have haz : a.size = (cbT t).length := by rw [← ha]; rfl
    have ha9 : a.size ≤ 1000000000 := by omega
    have hW0 : wroteC t 0 = a := by rw [← ha]; rfl
    rw [hW0] at hWR
    have HW := Lib.hid hWR
    have hit1 := itemC_back t m k1 k3
    have hit0 := itemC_back t ⟨#[]⟩ k1 k3
    rw [ha] at hit1 hit0
    have e0 : a ++ ⟨#[]⟩ = a := by
      apply ByteArray.ext
      rw [ByteArray.data_append]
      simp
    rw [e0] at hit0
    have HSAME := Lib.hid (fun W B d x x' (hl : ListAt W B d t.kids x) (hl' : ListAt W B 17 t.kids x') (hB : B ≤ W.heap.size) => ref_SameT d t t x x' W B 17 hl hl' hB)
    rw [sameT_refl, hot] at HSAME
    unfold nodeV at HSAME
    have ha8 : a.size ≤ 200000 := by omega
    clear hWR hW0 haz ha hbd e0 HU k1 k2 k3 hto htc
    by_cases hsmall : 4000 < a.size
    · have hrc : RC a = (81, .nd zeroO []) := rc_big hsmall
      have HRD : Hid (∀ W, Below w.heap.size w W → Calls Tryz.prog 11 #[.string a] W fun x w' => Below W.heap.size W w' ∧ ∃ A n c, x = .returned (.tuple #[nodeV zeroO (.slice A n c), .int .i64 81]) ∧ LAt w' (fun q => W.heap.size ≤ q ∧ q < w'.heap.size) 16 [] (.slice A n c)) := Lib.hid (fun W hb => (HRE.out a ha9 W hb).mono (fun x w' q => by
        rw [hrc] at q
        obtain ⟨q1, A, n, c, q2, q3, q4⟩ := q
        exact ⟨q1, A, n, c, q2, q3⟩))
      have HIT : Hid (∀ W, Below w.heap.size w W → Calls Tryz.prog 14 #[.string (a ++ m)] W fun x w' => Below W.heap.size W w' ∧ ∃ A n c, x = .returned (.tuple #[nodeV ot (.slice A n c), .string m, .int .i64 0]) ∧ LAt w' (fun q => W.heap.size ≤ q ∧ q < w'.heap.size) 16 t.kids (.slice A n c)) := Lib.hid (fun W hb => (HIE.out (a ++ m) (by rw [ByteArray.size_append]; omega) W hb).mono (fun x w' q => by
        rw [hit1] at q
        obtain ⟨q1, ⟨A, n, c, q2, q3⟩, q4, _⟩ := q
        refine ⟨q1, A, n, c, ?_, q3⟩
        rw [← hot, q2, bs_of]))
      clear hrc HRE HIE hit0 hit1 hck
      refine HW.out.mono ?_
      rintro x w6 ⟨rfl, hb6⟩
      have hb7 := hb5.trans (hb6.mono hb5.size)
      have hk7 := HKT.out.below hb6 HKT.out.lt
      have hz6 := hb6.size
      clear HW
      go_wp2_with fail
      refine (HRD.out _ hb7).mono ?_
      rintro x w8 ⟨hb8, A2, n2, c2, rfl, hl2⟩
      have hn2 : n2 = 0 := hl2.len
      subst hn2
      rw [show nodeV zeroO (.slice A2 0 c2) = .agg #[.int .i64 0, .bool false, .bool false, .string ⟨#[]⟩, .int .i64 0, .int .u64 0, .int .i64 0, .string ⟨#[]⟩, .slice A2 0 c2] from rfl]
      have hk9 := (hk7.below hb8 hk7.lt).alloc (.cells #[.int .i64 0, .bool false, .bool false, .string ⟨#[]⟩, .int .i64 0, .int .u64 0, .int .i64 0, .string ⟨#[]⟩, .slice A2 0 c2] 28)
      have hm9 := Blk.new w8 #[.int .i64 0, .bool false, .bool false, .string ⟨#[]⟩, .int .i64 0, .int .u64 0, .int .i64 0, .string ⟨#[]⟩, .slice A2 0 c2] 28
      have hbA := hb7.trans (hb8.mono hb7.size)
      have hb9 := hbA.alloc hbA.size (.cells #[.int .i64 0, .bool false, .bool false, .string ⟨#[]⟩, .int .i64 0, .int .u64 0, .int .i64 0, .string ⟨#[]⟩, .slice A2 0 c2] 28)
      have hz8 := hb8.size
      clear HRD hk7
      go_wp2_with fail
      refine (HIT.out _ hb9).mono ?_
      rintro x w10 ⟨hb10, A3, n3, c3, rfl, hl3⟩
      unfold nodeV
      have hz10 := hb10.size
      rw [World.size_alloc] at hz10
      have hkB := (hk9.below hb10 hk9.lt).alloc (.cells #[.int .i64 ot.kind, .bool ot.b, .bool ot.neg, .string ot.dg, .int .i64 ot.ex, .int .u64 ot.u, .int .i64 ot.wd, .string ot.s, .slice A3 n3 c3] 28)
      have hmB := (hm9.below hb10 hm9.lt).alloc (.cells #[.int .i64 ot.kind, .bool ot.b, .bool ot.neg, .string ot.dg, .int .i64 ot.ex, .int .u64 ot.u, .int .i64 ot.wd, .string ot.s, .slice A3 n3 c3] 28)
      have hnB := Blk.new w10 #[.int .i64 ot.kind, .bool ot.b, .bool ot.neg, .string ot.dg, .int .i64 ot.ex, .int .u64 ot.u, .int .i64 ot.wd, .string ot.s, .slice A3 n3 c3] 28
      have hbB := hb9.trans (hb10.mono hb9.size)
      have hbC := hbB.alloc hbB.size (.cells #[.int .i64 ot.kind, .bool ot.b, .bool ot.neg, .string ot.dg, .int .i64 ot.ex, .int .u64 ot.u, .int .i64 ot.wd, .string ot.s, .slice A3 n3 c3] 28)
      have hl1C : ListAt (w10.alloc (.cells #[.int .i64 ot.kind, .bool ot.b, .bool ot.neg, .string ot.dg, .int .i64 ot.ex, .int .u64 ot.u, .int .i64 ot.wd, .string ot.s, .slice A3 n3 c3] 28)) w10.heap.size 17 t.kids (.slice A1 n1 c1) := (HL1.out.keep (fun q hq => (Below.heap_alloc w10 _ q (by omega)).trans ((hb10.block q (by rw [World.size_alloc]; omega)).trans ((Below.heap_alloc w8 _ q (by omega)).trans ((hb8.block q (by omega)).trans (hb6.block q hq)))))).mono (fun q hq => by omega)
      have hl3C : ListAt (w10.alloc (.cells #[.int .i64 ot.kind, .bool ot.b, .bool ot.neg, .string ot.dg, .int .i64 ot.ex, .int .u64 ot.u, .int .i64 ot.wd, .string ot.s, .slice A3 n3 c3] 28)) w10.heap.size 16 t.kids (.slice A3 n3 c3) := (hl3.keep (fun q hq => Below.heap_alloc w10 _ q hq.2)).mono (fun q hq => hq.2)
      have HL1C := Lib.hid hl1C
      have HL3C := Lib.hid hl3C
      have HS2 := Lib.hid (fun W (hW : Below (w10.alloc (.cells #[.int .i64 ot.kind, .bool ot.b, .bool ot.neg, .string ot.dg, .int .i64 ot.ex, .int .u64 ot.u, .int .i64 ot.wd, .string ot.s, .slice A3 n3 c3] 28)).heap.size (w10.alloc (.cells #[.int .i64 ot.kind, .bool ot.b, .bool ot.neg, .string ot.dg, .int .i64 ot.ex, .int .u64 ot.u, .int .i64 ot.wd, .string ot.s, .slice A3 n3 c3] 28)) W) => HSAME.out W w10.heap.size 16 _ _ (HL3C.out.below hW (by simp)) (HL1C.out.below hW (by simp)) (by have := hW.size; rw [World.size_alloc] at this; omega))
      clear hl1C hl3C hl2 hl3 HL1C HL3C HSAME HIT hk9 hm9 HKT
      have z0 := hkB.cell 0
      have z1 := hkB.cell 1
      have z2 := hkB.cell 2
      have z3 := hkB.cell 3
      have z4 := hkB.cell 4
      have z5 := hkB.cell 5
      have z6 := hkB.cell 6
      have z7 := hkB.cell 7
      have z8 := hkB.cell 8
      have x0 := hnB.cell 0
      have x1 := hnB.cell 1
      have x2 := hnB.cell 2
      have x3 := hnB.cell 3
      have x4 := hnB.cell 4
      have x5 := hnB.cell 5
      have x6 := hnB.cell 6
      have x7 := hnB.cell 7
      have x8 := hnB.cell 8
      have HS3 := Lib.hid (HS2.out _ (Below.refl _ _))
      have hbig : (a.size : Int) > 4000 := by omega
      clear HS2
      go_wp2_with fail
      refine HS3.out.mono ?_
      rintro x w14 ⟨rfl, hb14⟩
      have hbE := hbC.trans (hb14.mono hbC.size)
      clear x0 x1 x2 x3 x4 x5 x6 x7 x8 z0 z1 z2 z3 z4 z5 z6 z7 z8 HS3
      go_wp2_with fail
      go_ret
      exact ⟨by simp, hbE⟩
    · have hrc : RC a = (0, t) := rc_of hit0 (by omega) hck
      have HRD : Hid (∀ W, Below w.heap.size w W → Calls Tryz.prog 11 #[.string a] W fun x w' => Below W.heap.size W w' ∧ ∃ A n c, x = .returned (.tuple #[nodeV ot (.slice A n c), .int .i64 0]) ∧ LAt w' (fun q => W.heap.size ≤ q ∧ q < w'.heap.size) 16 t.kids (.slice A n c)) := Lib.hid (fun W hb => (HRE.out a ha9 W hb).mono (fun x w' q => by
        rw [hrc] at q
        obtain ⟨q1, A, n, c, q2, q3, q4⟩ := q
        exact ⟨q1, A, n, c, by rw [← hot]; exact q2, q3⟩))
      have HIT : Hid (∀ W, Below w.heap.size w W → Calls Tryz.prog 14 #[.string (a ++ m)] W fun x w' => Below W.heap.size W w' ∧ ∃ A n c, x = .returned (.tuple #[nodeV ot (.slice A n c), .string m, .int .i64 0]) ∧ LAt w' (fun q => W.heap.size ≤ q ∧ q < w'.heap.size) 16 t.kids (.slice A n c)) := Lib.hid (fun W hb => (HIE.out (a ++ m) (by rw [ByteArray.size_append]; omega) W hb).mono (fun x w' q => by
        rw [hit1] at q
        obtain ⟨q1, ⟨A, n, c, q2, q3⟩, q4, _⟩ := q
        refine ⟨q1, A, n, c, ?_, q3⟩
        rw [← hot, q2, bs_of]))
      clear hrc HRE HIE hit0 hit1 hck
      refine HW.out.mono ?_
      rintro x w6 ⟨rfl, hb6⟩
      have hb7 := hb5.trans (hb6.mono hb5.size)
      have hk7 := HKT.out.below hb6 HKT.out.lt
      have hz6 := hb6.size
      clear HW
      go_wp2_with fail
      refine (HRD.out _ hb7).mono ?_
      rintro x w8 ⟨hb8, A2, n2, c2, rfl, hl2⟩
      unfold nodeV
      have hk9 := (hk7.below hb8 hk7.lt).alloc (.cells #[.int .i64 ot.kind, .bool ot.b, .bool ot.neg, .string ot.dg, .int .i64 ot.ex, .int .u64 ot.u, .int .i64 ot.wd, .string ot.s, .slice A2 n2 c2] 28)
      have hm9 := Blk.new w8 #[.int .i64 ot.kind, .bool ot.b, .bool ot.neg, .string ot.dg, .int .i64 ot.ex, .int .u64 ot.u, .int .i64 ot.wd, .string ot.s, .slice A2 n2 c2] 28
      have hbA := hb7.trans (hb8.mono hb7.size)
      have hb9 := hbA.alloc hbA.size (.cells #[.int .i64 ot.kind, .bool ot.b, .bool ot.neg, .string ot.dg, .int .i64 ot.ex, .int .u64 ot.u, .int .i64 ot.wd, .string ot.s, .slice A2 n2 c2] 28)
      have hz8 := hb8.size
      clear HRD hk7
      go_wp2_with fail
      refine (HIT.out _ hb9).mono ?_
      rintro x w10 ⟨hb10, A3, n3, c3, rfl, hl3⟩
      unfold nodeV
      have hz10 := hb10.size
      rw [World.size_alloc] at hz10
      have hkB := (hk9.below hb10 hk9.lt).alloc (.cells #[.int .i64 ot.kind, .bool ot.b, .bool ot.neg, .string ot.dg, .int .i64 ot.ex, .int .u64 ot.u, .int .i64 ot.wd, .string ot.s, .slice A3 n3 c3] 28)
      have hmB := (hm9.below hb10 hm9.lt).alloc (.cells #[.int .i64 ot.kind, .bool ot.b, .bool ot.neg, .string ot.dg, .int .i64 ot.ex, .int .u64 ot.u, .int .i64 ot.wd, .string ot.s, .slice A3 n3 c3] 28)
      have hnB := Blk.new w10 #[.int .i64 ot.kind, .bool ot.b, .bool ot.neg, .string ot.dg, .int .i64 ot.ex, .int .u64 ot.u, .int .i64 ot.wd, .string ot.s, .slice A3 n3 c3] 28
      have hbB := hb9.trans (hb10.mono hb9.size)
      have hbC := hbB.alloc hbB.size (.cells #[.int .i64 ot.kind, .bool ot.b, .bool ot.neg, .string ot.dg, .int .i64 ot.ex, .int .u64 ot.u, .int .i64 ot.wd, .string ot.s, .slice A3 n3 c3] 28)
      have hl1C : ListAt (w10.alloc (.cells #[.int .i64 ot.kind, .bool ot.b, .bool ot.neg, .string ot.dg, .int .i64 ot.ex, .int .u64 ot.u, .int .i64 ot.wd, .string ot.s, .slice A3 n3 c3] 28)) w10.heap.size 17 t.kids (.slice A1 n1 c1) := (HL1.out.keep (fun q hq => (Below.heap_alloc w10 _ q (by omega)).trans ((hb10.block q (by rw [World.size_alloc]; omega)).trans ((Below.heap_alloc w8 _ q (by omega)).trans ((hb8.block q (by omega)).trans (hb6.block q hq)))))).mono (fun q hq => by omega)
      have hl3C : ListAt (w10.alloc (.cells #[.int .i64 ot.kind, .bool ot.b, .bool ot.neg, .string ot.dg, .int .i64 ot.ex, .int .u64 ot.u, .int .i64 ot.wd, .string ot.s, .slice A3 n3 c3] 28)) w10.heap.size 16 t.kids (.slice A3 n3 c3) := (hl3.keep (fun q hq => Below.heap_alloc w10 _ q hq.2)).mono (fun q hq => hq.2)
      have HL1C := Lib.hid hl1C
      have HL3C := Lib.hid hl3C
      have hl2C : ListAt (w10.alloc (.cells #[.int .i64 ot.kind, .bool ot.b, .bool ot.neg, .string ot.dg, .int .i64 ot.ex, .int .u64 ot.u, .int .i64 ot.wd, .string ot.s, .slice A3 n3 c3] 28)) w10.heap.size 16 t.kids (.slice A2 n2 c2) := (hl2.keep (fun q hq => (Below.heap_alloc w10 _ q (by omega)).trans ((hb10.block q (by rw [World.size_alloc]; omega)).trans (Below.heap_alloc w8 _ q hq.2)))).mono (fun q hq => by omega)
      have HS1 := Lib.hid (HSAME.out _ w10.heap.size 16 _ _ hl2C hl1C (by simp))
      have HS2 := Lib.hid (fun W (hW : Below (w10.alloc (.cells #[.int .i64 ot.kind, .bool ot.b, .bool ot.neg, .string ot.dg, .int .i64 ot.ex, .int .u64 ot.u, .int .i64 ot.wd, .string ot.s, .slice A3 n3 c3] 28)).heap.size (w10.alloc (.cells #[.int .i64 ot.kind, .bool ot.b, .bool ot.neg, .string ot.dg, .int .i64 ot.ex, .int .u64 ot.u, .int .i64 ot.wd, .string ot.s, .slice A3 n3 c3] 28)) W) => HSAME.out W w10.heap.size 16 _ _ (HL3C.out.below hW (by simp)) (HL1C.out.below hW (by simp)) (by have := hW.size; rw [World.size_alloc] at this; omega))
      clear hl1C hl3C hl2C hl2 hl3 HL1C HL3C HSAME HIT hk9 hm9 HKT
      have z0 := hkB.cell 0
      have z1 := hkB.cell 1
      have z2 := hkB.cell 2
      have z3 := hkB.cell 3
      have z4 := hkB.cell 4
      have z5 := hkB.cell 5
      have z6 := hkB.cell 6
      have z7 := hkB.cell 7
      have z8 := hkB.cell 8
      have y0 := hmB.cell 0
      have y1 := hmB.cell 1
      have y2 := hmB.cell 2
      have y3 := hmB.cell 3
      have y4 := hmB.cell 4
      have y5 := hmB.cell 5
      have y6 := hmB.cell 6
      have y7 := hmB.cell 7
      have y8 := hmB.cell 8
      have x0 := hnB.cell 0
      have x1 := hnB.cell 1
      have x2 := hnB.cell 2
      have x3 := hnB.cell 3
      have x4 := hnB.cell 4
      have x5 := hnB.cell 5
      have x6 := hnB.cell 6
      have x7 := hnB.cell 7
      have x8 := hnB.cell 8
      go_wp2_with fail
      refine HS1.out.mono ?_
      rintro x w12 ⟨rfl, hb12⟩
      have hbD := hbC.trans (hb12.mono hbC.size)
      have HS3 := Lib.hid (HS2.out _ hb12)
      have hkD := hkB.below hb12 hkB.lt
      have hnD := hnB.below hb12 hnB.lt
      clear HS1 HS2 x0 x1 x2 x3 x4 x5 x6 x7 x8 y0 y1 y2 y3 y4 y5 y6 y7 y8 z0 z1 z2 z3 z4 z5 z6 z7 z8 hkB hmB hnB hb12
      have z0 := hkD.cell 0
      have z1 := hkD.cell 1
      have z2 := hkD.cell 2
      have z3 := hkD.cell 3
      have z4 := hkD.cell 4
      have z5 := hkD.cell 5
      have z6 := hkD.cell 6
      have z7 := hkD.cell 7
      have z8 := hkD.cell 8
      have x0 := hnD.cell 0
      have x1 := hnD.cell 1
      have x2 := hnD.cell 2
      have x3 := hnD.cell 3
      have x4 := hnD.cell 4
      have x5 := hnD.cell 5
      have x6 := hnD.cell 6
      have x7 := hnD.cell 7
      have x8 := hnD.cell 8
      go_wp2_with fail
      refine HS3.out.mono ?_
      rintro x w14 ⟨rfl, hb14⟩
      have hbE := hbD.trans (hb14.mono hbD.size)
      clear x0 x1 x2 x3 x4 x5 x6 x7 x8 z0 z1 z2 z3 z4 z5 z6 z7 z8 HS3
      go_wp2_with fail
      go_ret
      exact ⟨by simp, hbE⟩
  · have hW0 : wroteC t ck = ⟨#[]⟩ := by unfold wroteC; rw [if_neg hck0]
    rw [hW0] at hWR
    have HW := Lib.hid hWR
    have y1 : (ck != 0) = true := by rw [bne_iff_ne]; exact hck0
    clear hWR hW0 hck hck0 HL1
    refine HW.out.mono ?_
    rintro x w6 ⟨rfl, hb6⟩
    have hb7 := hb5.trans (hb6.mono hb5.size)
    go_wp2_with fail
    go_ret
    exact ⟨rfl, hb7⟩
end Go.Proofs.YtflkmhgbinlfiaaGreatDoor
namespace Go.Proofs.YtflkmhgbinlfiaaGreatDoor
open Go.RowKit Go.Shelf Go.Lib

theorem tree_choose {p : Nat → Tr → Prop} : ∀ (n : Nat), (∀ i, i < n → ∃ s, p i s) → ∃ l : List Tr, l.length = n ∧ ∀ i (h : i < l.length), p i l[i]
  | 0, _ => ⟨[], rfl, fun i h => by simp at h⟩
  | n + 1, h => by
    obtain ⟨l, hl, hp⟩ := tree_choose n (fun i hi => h i (by omega))
    obtain ⟨s, hs⟩ := h n (by omega)
    refine ⟨l ++ [s], by simp [hl], fun i hi => ?_⟩
    rw [List.getElem_append]
    split
    · exact hp i _
    · have : i = n := by simp at hi; omega
      subst this
      simpa [hl] using hs
theorem wf_n64 {n : Int} (h : (Lit.int .u64 n).wf = true) : 0 ≤ n ∧ n < 18446744073709551616 := by
  simp [Lit.wf, IntKind.min, IntKind.max, IntKind.signed, IntKind.bits] at h
  omega
set_option maxRecDepth 100000 in
theorem cNode : Tryz.prog.cellsOf 28 = 9 := by kernel_rfl

section
variable {H : Type} {enc : TypeId × Value → H} {w : World} {base : Nat} {sp : Nat → Bool} {held : Bool}

theorem bulk_one (d : DataW H) : 1 ≤ Rows.uptoBulk d := by
  cases d with
  | lit l => cases l <;> simp [Rows.uptoBulk]
  | _ => simp [Rows.uptoBulk]
theorem bulk_part {d : DataW H} {l : List (DataW H)} (h : d ∈ l) : Rows.uptoBulk d ≤ Rows.uptoBulkAll l := by
  induction l with
  | nil => cases h
  | cons x r ih =>
    simp only [Rows.uptoBulkAll]
    rcases List.mem_cons.1 h with rfl | h
    · omega
    · have := ih h
      omega
theorem bulk_append (l r : List (DataW H)) : Rows.uptoBulkAll (l ++ r) = Rows.uptoBulkAll l + Rows.uptoBulkAll r := by
  induction l with
  | nil => simp [Rows.uptoBulkAll]
  | cons x l ih => simp only [List.cons_append, Rows.uptoBulkAll, ih]; omega
theorem bulk_count (D : Nat → DataW H) : ∀ (n : Nat) (l : List Tr), l.length = n → (∀ i (h : i < l.length), l[i].count ≤ Rows.uptoBulk (D i)) → countL l ≤ Rows.uptoBulkAll ((List.range n).map D)
  | 0, l, hl, _ => by
    obtain rfl : l = [] := List.eq_nil_of_length_eq_zero hl
    simp [countL]
  | n + 1, l, hl, h => by
    have hn : n < l.length := by omega
    have e : l = l.take n ++ [l[n]] := by
      rw [← List.take_succ_eq_append_getElem hn, List.take_of_length_le (by omega)]
    have ih := bulk_count D n (l.take n) (by rw [List.length_take]; omega) (fun i hi => by
      rw [List.length_take] at hi
      rw [List.getElem_take]
      exact h i (by omega))
    rw [List.range_succ, List.map_append, bulk_append]
    have h1 := h n hn
    have h2 : countL l = countL (l.take n) + countL [l[n]] := by
      rw [← countL_append, ← e]
    rw [h2]
    simp only [countL, List.map_cons, List.map_nil, Rows.uptoBulkAll]
    omega

set_option maxHeartbeats 1000000 in
set_option maxRecDepth 100000 in
/-- What a tree's cells read as. -/
theorem open_node : ∀ (b fuel : Nat) (cs : List Value) (x : DataW H × List MemPlace), DataW.trod enc Tryz.prog w base sp held fuel 28 cs = some x → Rows.uptoBulk x.1 ≤ b →
    ∃ (t : Tr) (v : Value), cs = nodeCells t.own v ∧ ListAt w w.heap.size b t.kids v ∧ OwnOk t.own ∧ t.count ≤ Rows.uptoBulk x.1 := by
  intro b
  induction b with
  | zero =>
    intro fuel cs x _ hx
    have := bulk_one x.1
    omega
  | succ b ih =>
    intro fuel cs x h hb
    obtain ⟨xs, n, rfl, rfl, hl, hxl, hall⟩ := DataW.trod_struct Tryz.underlying28 h
    rw [cNode] at hl
    match cs, hl with
    | [c0, c1, c2, c3, c4, c5, c6, c7, c8], _ =>
      match xs, hxl with
      | [x0, x1, x2, x3, x4, x5, x6], _ =>
        have h0 := hall 0 _ rfl
        have h1 := hall 1 _ rfl
        have h2 := hall 2 _ rfl
        have h3 := hall 3 _ rfl
        have h4 := hall 4 _ rfl
        have h5 := hall 5 _ rfl
        have h6 := hall 6 _ rfl
        obtain ⟨kind, e0, _, w0⟩ := DataW.trod_int Tryz.underlying3 h0
        obtain ⟨bb, e1, _⟩ := DataW.trod_bool Tryz.underlying4 h1
        obtain ⟨u, e3, _, w3⟩ := DataW.trod_int Tryz.underlying25 h3
        obtain ⟨wd, e4, _, w4⟩ := DataW.trod_int Tryz.underlying3 h4
        obtain ⟨s, e5, _, w5⟩ := DataW.trod_string Tryz.underlying9 h5
        obtain ⟨ys, m, _, hx2, hl2, hyl, hall2⟩ := DataW.trod_struct Tryz.underlying24 h2
        match ys, hyl with
        | [y0, y1, y2], _ =>
          have g0 := hall2 0 _ rfl
          have g1 := hall2 1 _ rfl
          have g2 := hall2 2 _ rfl
          obtain ⟨neg, f0, _⟩ := DataW.trod_bool Tryz.underlying4 g0
          obtain ⟨dg, f1, _, v1⟩ := DataW.trod_string Tryz.underlying9 g1
          obtain ⟨ex, f2, _, v2⟩ := DataW.trod_int Tryz.underlying3 g2
          have e0 : [c0] = [_] := e0
          have e1 : [c1] = [_] := e1
          have e3 : [c5] = [_] := e3
          have e4 : [c6] = [_] := e4
          have e5 : [c7] = [_] := e5
          have f0 : [c2] = [_] := f0
          have f1 : [c3] = [_] := f1
          have f2 : [c4] = [_] := f2
          cases e0
          cases e1
          cases e3
          cases e4
          cases e5
          cases f0
          cases f1
          cases f2
          have hok : OwnOk ⟨kind, bb, neg, dg, ex, u, wd, s⟩ := ⟨by simpa [maxLen] using v1, by simpa [maxLen] using w5, wf_i64 w0, wf_i64 v2, wf_n64 w3, wf_i64 w4⟩
          have hbulk : Rows.uptoBulk x6.1 + 1 ≤ Rows.uptoBulk (DataW.agg ([x0, x1, x2, x3, x4, x5, x6].map (·.1))) := by
            simp only [Rows.uptoBulk, List.map_cons, List.map_nil, Rows.uptoBulkAll]
            omega
          have h6 : DataW.trod enc Tryz.prog w base sp held n 26 [c8] = some x6 := h6
          clear hall hall2 h h0 h1 h2 h3 h4 h5 g0 g1 g2 e1 e3 e4 e5 f0 f1 f2 w0 w3 w4 w5 v1 v2
          rcases Go.Deep.open_slice Tryz.underlying26 h6 with ⟨e6, _⟩ | ⟨a, len, cap, m', n', D, Pl, e6, hab, hlc, hm, hmm, hx6, hx⟩
          · cases e6
            refine ⟨.nd ⟨kind, bb, neg, dg, ex, u, wd, s⟩ [], .slice none 0 0, rfl, LAt.nil _ _ _ _ _, hok, ?_⟩
            rw [Tr.count_eq]
            show 1 + countL [] ≤ _
            rw [countL]
            exact bulk_one _
          · cases e6
            have hlm : len ≤ m' := by rw [hmm]; split <;> omega
            rw [cNode] at hx
            have hd6 : x6.1 = DataW.slice ((List.range len).map D) ((List.range (m' - len)).map fun j => D (len + j)) := by rw [hx6]
            rw [hd6] at hbulk
            have hb2 : Rows.uptoBulkAll ((List.range len).map D) + 2 ≤ Rows.uptoBulk (DataW.agg ([x0, x1, x2, x3, x4, x5, x6].map (·.1))) := by
              have : Rows.uptoBulk (DataW.slice ((List.range len).map D) ((List.range (m' - len)).map fun j => D (len + j))) = Rows.uptoBulkAll ((List.range len).map D) + Rows.uptoBulkAll ((List.range (m' - len)).map fun j => D (len + j)) + 1 := by simp only [Rows.uptoBulk]
              rw [this] at hbulk
              omega
            have hbD : ∀ i, i < len → Rows.uptoBulk (D i) ≤ b := fun i hi => by
              have h1 := bulk_part (d := D i) (l := (List.range len).map D) (List.mem_map.2 ⟨i, List.mem_range.2 hi, rfl⟩)
              have hb' : Rows.uptoBulk (DataW.agg ([x0, x1, x2, x3, x4, x5, x6].map (·.1))) ≤ b + 1 := hb
              omega
            obtain ⟨l, hll, hp⟩ := tree_choose (p := fun i t => ∃ v, (∀ j q, (nodeCells t.own v)[j]? = some q → w.cell? (a.add (i * 9 + j)) = some q) ∧ a.block < w.heap.size ∧ ListAt w w.heap.size b t.kids v ∧ OwnOk t.own ∧ t.count ≤ Rows.uptoBulk (D i)) len (fun i hi => by
              obtain ⟨cs', h1, h2⟩ := hx i (by omega)
              obtain ⟨t, v, e, h3, h4, h5⟩ := ih n' cs' (D i, Pl i) h2 (hbD i hi)
              subst e
              obtain ⟨_, hlen, hc⟩ := World.cells?_some h1
              have hcc : ∀ j q, (nodeCells t.own v)[j]? = some q → w.cell? (a.add (i * 9 + j)) = some q := fun j q hq => by
                have hj : j < 9 := (List.getElem?_eq_some_iff.1 hq).1
                rw [← add_add', hc j hj, hq]
              refine ⟨t, v, hcc, ?_, h3, h4, h5⟩
              have := cell_block_lt (hcc 0 _ rfl)
              rwa [add_block] at this)
            refine ⟨.nd ⟨kind, bb, neg, dg, ex, u, wd, s⟩ l, .slice (some a) len cap, rfl, ⟨some a, cap, by rw [← hll]; rfl, ⟨by show l.length ≤ _; simp [maxLen] at hm; omega, by show l.length ≤ _; omega⟩, fun i hi => ?_⟩, hok, ?_⟩
            · obtain ⟨v, g1, g2, g3, g4, _⟩ := hp i hi
              exact ⟨a, v, rfl, g2, g4, g1, g3⟩
            · rw [Tr.count_eq]
              show 1 + countL l ≤ Rows.uptoBulk (DataW.agg ([x0, x1, x2, x3, x4, x5, x6].map (·.1)))
              have := bulk_count D len l hll (fun i hi => by
                obtain ⟨_, _, _, _, _, g5⟩ := hp i hi
                exact g5)
              omega
set_option maxRecDepth 100000 in
/-- The same for a value. -/
theorem open_tree {W : World} {r : Reach} {b0 : Nat} {v : Value} {d : DataW H} {ps : List MemPlace} (hval : Value.okWide Tryz.prog W r b0 28 v) (hd : DataW.Trod enc Tryz.prog w base sp held 28 v d ps) :
    ∃ (t : Tr) (x : Value), v = nodeV t.own x ∧ ListAt w w.heap.size (Rows.uptoBulk d) t.kids x ∧ OwnOk t.own ∧ t.count ≤ Rows.uptoBulk d := by
  obtain ⟨fuel, hf⟩ := hd
  obtain ⟨t, x, e, h1, h2, h3⟩ := open_node (Rows.uptoBulk d) fuel _ _ hf (Nat.le_refl _)
  refine ⟨t, x, ?_, h1, h2, h3⟩
  obtain ⟨cs, rfl, _⟩ := Go.WideShapes.okWide_struct Tryz.underlying28 hval
  have e : cs.toList = nodeCells t.own x := e
  rw [nodeCells_eq, ← e]
end
end Go.Proofs.YtflkmhgbinlfiaaGreatDoor
