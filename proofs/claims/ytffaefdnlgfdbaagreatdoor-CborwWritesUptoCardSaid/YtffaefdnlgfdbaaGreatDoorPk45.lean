/- The texts CbApW, put together. -/
import Derived.Test.YtffaefdnlgfdbaaGreatDoorPk44
import Derived.Test.YtffaefdnlgfdbaaGreatDoorPk05
/- The walk of the law CborwApart. Printed by gen_cbap.py. -/
namespace Go.Proofs.YtffaefdnlgfdbaaGreatDoor
open Go.RowKit Go.Shelf

theorem few_okC {t : Tr} (h : OwnOk t.own) : OwnOk (fewT t).own := by
  rw [fewT_own]
  exact cut_ok h
theorem check_okC {W : World} {B d : Nat} {t : Tr} {x : Value} (hl : ListAt W B d t.kids x) (ho : OwnOk t.own) (h : checkT 2 flC t = 0) : okC t := by
  obtain ⟨_, _, h3, h4⟩ := check_ok h
  exact okC_of_at t d x hl ho h3 h4
theorem cb_size (l : List UInt8) : (⟨l.toArray⟩ : ByteArray).size = l.length := rfl
theorem apart_pre {t x : Tr} (ht : okC t) (hx : okC x) (h : cbT t <+: cbT x) : t = x := by
  obtain ⟨r, hr⟩ := h
  exact (cbT_inj t x r [] ht hx (by rw [hr, List.append_nil])).1
theorem bne_toList {a b : ByteArray} (h : ¬ a = b) : (a.toList == b.toList) = false := by
  rw [beq_eq_false_iff_ne, ByteArray.toList_eq, ByteArray.toList_eq]
  exact fun e => h (by apply ByteArray.ext; exact Array.toList_inj.1 e)
theorem extract_pre {s t : List UInt8} (h : (⟨t.toArray⟩ : ByteArray).extract 0 (⟨s.toArray⟩ : ByteArray).size = ⟨s.toArray⟩) : s <+: t := by
  have h1 := congrArg (fun b : ByteArray => b.data.toList) h
  simp only [ByteArray.data_extract, Array.toList_extract, List.extract_eq_take_drop, List.drop_zero, Nat.sub_zero, cb_size] at h1
  rw [← h1]
  exact List.take_prefix _ _

set_option maxHeartbeats 8000000 in
set_option maxRecDepth 100000 in
theorem apart_walk {aT aF : Addr} (t0 x0 : Tr) (vt vx : Value) (w : World) (h : GW w aT aF) (D Dx : Nat) (hl : ListAt w w.heap.size D t0.kids vt) (hlx : ListAt w w.heap.size Dx x0.kids vx) (ho : OwnOk t0.own) (hox : OwnOk x0.own) (hc : t0.count ≤ 1048576) (hcx : x0.count ≤ 1048576) :
    Calls Tryz.prog 3 #[nodeV t0.own vt, nodeV x0.own vx] w fun e w' => e = .returned (.bool true) ∧ Below w.heap.size w w' := by
  have H0 := Lib.hid (fun w h => cb_shown (aT := aT) (aF := aF) w h)
  have HU := Lib.hid (fun (w' : World) (hw : Below w.heap.size w w') => h.below hw)
  have HF := Lib.hid (fun (w' : World) (hw : Below w.heap.size w w') => law_FewT t0 vt w' w.heap.size D (hl.below hw (Nat.le_refl _)) ho hw.size (by omega))
  have HFX := Lib.hid (fun (w' : World) (hw : Below w.heap.size w w') => law_FewT x0 vx w' w.heap.size Dx (hlx.below hw (Nat.le_refl _)) hox hw.size (by omega))
  have hto := few_okC ho
  have hxo := few_okC hox
  have htc := few_count t0
  have hxc := few_count x0
  obtain ⟨o0, ho0⟩ : ∃ o, t0.own = o := ⟨_, rfl⟩
  obtain ⟨ox0, hox0⟩ : ∃ o, x0.own = o := ⟨_, rfl⟩
  rw [ho0] at HF ⊢
  rw [hox0] at HFX ⊢
  generalize fewT t0 = t at HF hto htc
  generalize fewT x0 = x at HFX hxo hxc
  obtain ⟨hb2, hk1, hk2⟩ := box2 w (cellsV o0 vt) (cellsV ox0 vx) 27 27
  obtain ⟨ot, hot⟩ : ∃ o, t.own = o := ⟨_, rfl⟩
  obtain ⟨oxx, hoxx⟩ : ∃ o, x.own = o := ⟨_, rfl⟩
  rw [hot] at HF
  rw [hoxx] at HFX
  have HK1 := Lib.hid hk1
  have HK2 := Lib.hid hk2
  have HH := Lib.hid (h.below hb2)
  unfold nodeV cellsV at *
  clear hl hlx ho hox hc hcx h hk1 hk2
  go_enter Tryz.func3, Tryz.ntmps3
  go_wp2_with fail
  refine (H0.out _ HH.out).mono ?_
  rintro e w1 ⟨rfl, hb1⟩
  have hb3 := hb2.trans (hb1.mono hb2.size)
  have hk1 := HK1.out.below hb1 HK1.out.lt
  have hk2 := HK2.out.below hb1 HK2.out.lt
  have HK3 := Lib.hid hk1
  have HK4 := Lib.hid hk2
  clear hb1 HK1 HK2 hk1 hk2 HH hb2
  go_wp2_with (refine wpList_load_row rfl 27 (.tmp 2) rfl (w.heap.size) rfl 27 _ (0, 0) _ HK3.out Tryz.underlying27 rfl (by kernel_rfl) ?_)
  refine (HF.out _ hb3).mono ?_
  rintro e w2 ⟨⟨y, rfl, hly⟩, hb⟩
  obtain ⟨_, A1, c1, rfl⟩ := hly.slice
  obtain ⟨n1, hn1⟩ : ∃ n1, t.kids.length = n1 := ⟨_, rfl⟩
  rw [hn1] at hly ⊢
  have hb4 := hb3.trans (hb.mono hb3.size)
  have hk1 := HK3.out.below hb HK3.out.lt
  have hk2 := HK4.out.below hb HK4.out.lt
  have hz := hb3.size
  have hb5 := hb4.grown (grown_row w2 w.heap.size #[.int .i64 ot.kind, .bool ot.b, .bool ot.neg, .string ot.dg, .int .i64 ot.ex, .int .u64 ot.u, .int .i64 ot.wd, .string ot.s, .slice A1 n1 c1]) hb4.size (fun q e => by cases e; exact Nat.le_refl _)
  have hk3 := blk_row hk1 #[.int .i64 ot.kind, .bool ot.b, .bool ot.neg, .string ot.dg, .int .i64 ot.ex, .int .u64 ot.u, .int .i64 ot.wd, .string ot.s, .slice A1 n1 c1]
  have hk4 := blk_row_other hk2 (by omega : w.heap.size + 1 ≠ w.heap.size) #[.int .i64 ot.kind, .bool ot.b, .bool ot.neg, .string ot.dg, .int .i64 ot.ex, .int .u64 ot.u, .int .i64 ot.wd, .string ot.s, .slice A1 n1 c1]
  have hw1 := HK4.out.lt
  have hly2 : LAt (w2.setRow w.heap.size #[.int .i64 ot.kind, .bool ot.b, .bool ot.neg, .string ot.dg, .int .i64 ot.ex, .int .u64 ot.u, .int .i64 ot.wd, .string ot.s, .slice A1 n1 c1]) (fun q => w.heap.size + 2 ≤ q ∧ q < (w2.setRow w.heap.size #[.int .i64 ot.kind, .bool ot.b, .bool ot.neg, .string ot.dg, .int .i64 ot.ex, .int .u64 ot.u, .int .i64 ot.wd, .string ot.s, .slice A1 n1 c1]).heap.size) 17 t.kids (.slice A1 n1 c1) := (hly.keep (fun q hq => setRow_other _ _ _ _ (by omega))).mono (fun q hq => ⟨by omega, by rw [setRow_size]; exact hq.2⟩)
  have HK1 := Lib.hid hk1
  have HK5 := Lib.hid hk3
  have HK6 := Lib.hid hk4
  have HL1 := Lib.hid hly2
  clear hb hb3 hb4 hk1 hk2 hk3 hk4 HK3 HK4 hly hly2 HF
  go_wp2_with (first | (refine wpList_store_row rfl 27 (.tmp 2) (.tmp 13) rfl (w.heap.size) #[.int .i64 ot.kind, .bool ot.b, .bool ot.neg, .string ot.dg, .int .i64 ot.ex, .int .u64 ot.u, .int .i64 ot.wd, .string ot.s, .slice A1 n1 c1] rfl rfl 27 _ HK1.out (by kernel_rfl) rfl (by simp [Value.oneCell']) ?_) | (refine wpList_load_row rfl 27 (.tmp 3) rfl (w.heap.size + 1) rfl 27 _ (0, 0) _ HK6.out Tryz.underlying27 rfl (by kernel_rfl) ?_))
  obtain ⟨w3, hw3⟩ : ∃ w3, w2.setRow w.heap.size #[.int .i64 ot.kind, .bool ot.b, .bool ot.neg, .string ot.dg, .int .i64 ot.ex, .int .u64 ot.u, .int .i64 ot.wd, .string ot.s, .slice A1 n1 c1] = w3 := ⟨_, rfl⟩
  rw [hw3] at HK5 HK6 HL1 hb5 ⊢
  clear HK1 hw3 hz hw1
  refine (HFX.out _ hb5).mono ?_
  rintro e w4 ⟨⟨y, rfl, hly⟩, hb⟩
  obtain ⟨_, A2, c2, rfl⟩ := hly.slice
  obtain ⟨n2, hn2⟩ : ∃ n2, x.kids.length = n2 := ⟨_, rfl⟩
  rw [hn2] at hly ⊢
  have hb6 := hb5.trans (hb.mono hb5.size)
  have hk1 := HK5.out.below hb HK5.out.lt
  have hk2 := HK6.out.below hb HK6.out.lt
  have hz := hb5.size
  have hz4 := hb.size
  have hw1 := HK6.out.lt
  have hb7 := hb6.grown (grown_row w4 (w.heap.size + 1) #[.int .i64 oxx.kind, .bool oxx.b, .bool oxx.neg, .string oxx.dg, .int .i64 oxx.ex, .int .u64 oxx.u, .int .i64 oxx.wd, .string oxx.s, .slice A2 n2 c2]) hb6.size (fun q e => by cases e; omega)
  have hk3 := blk_row hk2 #[.int .i64 oxx.kind, .bool oxx.b, .bool oxx.neg, .string oxx.dg, .int .i64 oxx.ex, .int .u64 oxx.u, .int .i64 oxx.wd, .string oxx.s, .slice A2 n2 c2]
  have hk4 := blk_row_other hk1 (by omega : w.heap.size ≠ w.heap.size + 1) #[.int .i64 oxx.kind, .bool oxx.b, .bool oxx.neg, .string oxx.dg, .int .i64 oxx.ex, .int .u64 oxx.u, .int .i64 oxx.wd, .string oxx.s, .slice A2 n2 c2]
  have hl4 : ListAt (w4.setRow (w.heap.size + 1) #[.int .i64 oxx.kind, .bool oxx.b, .bool oxx.neg, .string oxx.dg, .int .i64 oxx.ex, .int .u64 oxx.u, .int .i64 oxx.wd, .string oxx.s, .slice A2 n2 c2]) (w4.setRow (w.heap.size + 1) #[.int .i64 oxx.kind, .bool oxx.b, .bool oxx.neg, .string oxx.dg, .int .i64 oxx.ex, .int .u64 oxx.u, .int .i64 oxx.wd, .string oxx.s, .slice A2 n2 c2]).heap.size 17 t.kids (.slice A1 n1 c1) := ((HL1.out.keep (W' := w4) (fun q hq => hb.block q hq.2)).keep (fun q hq => setRow_other _ _ _ _ (by omega))).mono (fun q hq => by rw [setRow_size]; omega)
  have hlx4 : ListAt (w4.setRow (w.heap.size + 1) #[.int .i64 oxx.kind, .bool oxx.b, .bool oxx.neg, .string oxx.dg, .int .i64 oxx.ex, .int .u64 oxx.u, .int .i64 oxx.wd, .string oxx.s, .slice A2 n2 c2]) (w4.setRow (w.heap.size + 1) #[.int .i64 oxx.kind, .bool oxx.b, .bool oxx.neg, .string oxx.dg, .int .i64 oxx.ex, .int .u64 oxx.u, .int .i64 oxx.wd, .string oxx.s, .slice A2 n2 c2]).heap.size 17 x.kids (.slice A2 n2 c2) := (hly.keep (fun q hq => setRow_other _ _ _ _ (by omega))).mono (fun q hq => by rw [setRow_size]; exact hq.2)
  have HK1 := Lib.hid hk2
  have HKX := Lib.hid hk3
  have HKT := Lib.hid hk4
  have HLT := Lib.hid hl4
  have HLX := Lib.hid hlx4
  clear hb hb5 hb6 hk1 hk2 hk3 hk4 hl4 hlx4 hly HL1 HFX HK5 hz hz4 hw1
  go_wp2_with (first | (refine wpList_store_row rfl 27 (.tmp 3) (.tmp 15) rfl (w.heap.size + 1) #[.int .i64 oxx.kind, .bool oxx.b, .bool oxx.neg, .string oxx.dg, .int .i64 oxx.ex, .int .u64 oxx.u, .int .i64 oxx.wd, .string oxx.s, .slice A2 n2 c2] rfl rfl 27 _ HK1.out (by kernel_rfl) rfl (by simp [Value.oneCell']) ?_) | (refine wpList_load_row rfl 27 (.tmp 2) rfl (w.heap.size) rfl 27 _ (0, 0) _ HKT.out Tryz.underlying27 rfl (by kernel_rfl) ?_))
  obtain ⟨w5, hw5⟩ : ∃ w5, w4.setRow (w.heap.size + 1) #[.int .i64 oxx.kind, .bool oxx.b, .bool oxx.neg, .string oxx.dg, .int .i64 oxx.ex, .int .u64 oxx.u, .int .i64 oxx.wd, .string oxx.s, .slice A2 n2 c2] = w5 := ⟨_, rfl⟩
  rw [hw5] at HKX HKT HLT HLX hb7 ⊢
  clear HK1 hw5
  have hWT := cb_Write t (.slice A1 n1 c1) w5 w5.heap.size 17 aT aF HLT.out hto (Nat.le_refl _) (by omega) (HU.out _ hb7)
  have HWX := Lib.hid (fun W (hW : Below w5.heap.size w5 W) => cb_Write x (.slice A2 n2 c2) W w5.heap.size 17 aT aF (HLX.out.below hW (Nat.le_refl _)) hxo hW.size (by omega) ((HU.out _ hb7).below hW))
  have HSM := Lib.hid (fun W (hW : Below w5.heap.size w5 W) => ref_SameT 17 t x (.slice A1 n1 c1) (.slice A2 n2 c2) W w5.heap.size 17 (HLT.out.below hW (Nat.le_refl _)) (HLX.out.below hW (Nat.le_refl _)) hW.size)
  have HOT := Lib.hid (fun h => check_okC HLT.out hto h)
  have HOX := Lib.hid (fun h => check_okC HLX.out hxo h)
  obtain ⟨kt, hkt⟩ : ∃ kt, checkT 2 flC t = kt := ⟨_, rfl⟩
  obtain ⟨kx, hkx⟩ : ∃ kx, checkT 2 flC x = kx := ⟨_, rfl⟩
  rw [hkt] at hWT HOT
  rw [hkx] at HWX HOX
  rw [hot] at hWT HSM
  rw [hoxx] at HWX HSM
  unfold nodeV at hWT HWX HSM
  have hWT := Lib.hid hWT
  have HB7 := Lib.hid hb7
  clear hb7 HLT HLX
  refine hWT.out.mono ?_
  rintro e w6 ⟨rfl, hb6⟩
  have HKX6 := Lib.hid (HKX.out.below hb6 HKX.out.lt)
  have HKT6 := Lib.hid (HKT.out.below hb6 HKT.out.lt)
  clear hWT HKX HKT
  go_wp2_with (first | (refine wpList_load_row rfl 27 (.tmp 3) rfl (w.heap.size + 1) rfl 27 _ (0, 0) _ HKX6.out Tryz.underlying27 rfl (by kernel_rfl) ?_))
  refine (HWX.out _ hb6).mono ?_
  rintro e w7 ⟨rfl, hb⟩
  have hb7 := hb6.trans (hb.mono hb6.size)
  have HKX7 := Lib.hid (HKX6.out.below hb HKX6.out.lt)
  have HKT7 := Lib.hid (HKT6.out.below hb HKT6.out.lt)
  have HBE := Lib.hid (HB7.out.trans (hb7.mono HB7.out.size))
  clear hb hb6 HKX6 HKT6 HWX
  by_cases h0 : kt = 0
  case neg =>
    have y0 : ¬ kt = 0 := h0
    go_wp2_with fail
    go_ret
    exact ⟨rfl, HBE.out⟩
  by_cases h1 : kx = 0
  case neg =>
    have y0 : ¬ kx = 0 := h1
    subst h0
    go_wp2_with fail
    go_ret
    exact ⟨rfl, HBE.out⟩
  subst h0 h1
  have za0 := HKT7.out.cell 0
  have za1 := HKT7.out.cell 1
  have za2 := HKT7.out.cell 2
  have za3 := HKT7.out.cell 3
  have za4 := HKT7.out.cell 4
  have za5 := HKT7.out.cell 5
  have za6 := HKT7.out.cell 6
  have za7 := HKT7.out.cell 7
  have za8 := HKT7.out.cell 8
  have zb0 := HKX7.out.cell 0
  have zb1 := HKX7.out.cell 1
  have zb2 := HKX7.out.cell 2
  have zb3 := HKX7.out.cell 3
  have zb4 := HKX7.out.cell 4
  have zb5 := HKX7.out.cell 5
  have zb6 := HKX7.out.cell 6
  have zb7 := HKX7.out.cell 7
  have zb8 := HKX7.out.cell 8
  have hokt := HOT.out rfl
  have hokx := HOX.out rfl
  have hpos : 0 < (wroteC t 0).size := by
    have := cbT_pos t
    rw [wroteC, if_pos rfl, cb_size]
    omega
  have hst : (wroteC t 0).size ≤ 1000000 := by
    have := cbT_bound t hokt
    rw [wroteC, if_pos rfl, cb_size]
    omega
  have hsx : (wroteC x 0).size ≤ 1000000 := by
    have := cbT_bound x hokx
    rw [wroteC, if_pos rfl, cb_size]
    omega
  have hpre : ∀ hne : ¬ t = x, ¬ (wroteC x 0).extract 0 (wroteC t 0).size = wroteC t 0 := fun hne h => by
    rw [wroteC, if_pos rfl, wroteC, if_pos rfl] at h
    exact hne (apart_pre hokt hokx (extract_pre h))
  have hdif : ∀ hne : ¬ t = x, ¬ wroteC t 0 = wroteC x 0 := fun hne h => by
    have h2 := hpre hne
    rw [h] at h2
    exact h2 (by simp)
  clear HOT HOX hokt hokx hkt hkx
  obtain ⟨s, hs⟩ : ∃ s, wroteC t 0 = s := ⟨_, rfl⟩
  obtain ⟨r, hr⟩ : ∃ r, wroteC x 0 = r := ⟨_, rfl⟩
  rw [hs] at hpos hst hpre hdif ⊢
  rw [hr] at hsx hpre hdif ⊢
  have y1 : (0 : Int) < s.size := by omega
  have y2 : (s.size : Int) ≤ 1000000 := by omega
  have y3 : (r.size : Int) ≤ 1000000 := by omega
  by_cases htx : t = x
  · have hsr : s = r := by rw [← hs, ← hr, htx]
    subst hsr
    have hsm : sameT t x = true := by rw [htx]; exact sameT_refl x
    rw [hsm] at HSM
    have y4 : s.extract 0 s.size = s := by simp
    have HS2 := Lib.hid (HSM.out _ hb7)
    clear hs hr hpre hdif htx hsm hpos hst hsx HSM
    go_wp2_with fail
    refine HS2.out.mono ?_
    rintro e w8 ⟨rfl, hb8⟩
    have hb9 := HBE.out.trans (hb8.mono HBE.out.size)
    go_wp2_with fail
    go_ret
    exact ⟨rfl, hb9⟩
  · have hsm : sameT t x = false := by
      cases hq : sameT t x
      · rfl
      · exact absurd (sameT_iff t x hq) htx
    rw [hsm] at HSM
    have HS2 := Lib.hid (HSM.out _ hb7)
    have y4 := bne_toList (hdif htx)
    have y5 := bne_toList (hpre htx)
    clear hs hr hpre hdif htx hsm hpos hst hsx HSM
    by_cases hle : s.size ≤ r.size
    · have y6 : (s.size : Int) ≤ r.size := by omega
      clear hle
      go_wp2_with fail
      refine HS2.out.mono ?_
      rintro e w8 ⟨rfl, hb8⟩
      have hb9 := HBE.out.trans (hb8.mono HBE.out.size)
      go_wp2_with fail
      go_ret
      exact ⟨rfl, hb9⟩
    · have y6 : ¬ (s.size : Int) ≤ r.size := by omega
      clear hle
      go_wp2_with fail
      refine HS2.out.mono ?_
      rintro e w8 ⟨rfl, hb8⟩
      have hb9 := HBE.out.trans (hb8.mono HBE.out.size)
      go_wp2_with fail
      go_ret
      exact ⟨rfl, hb9⟩
end Go.Proofs.YtffaefdnlgfdbaaGreatDoor
