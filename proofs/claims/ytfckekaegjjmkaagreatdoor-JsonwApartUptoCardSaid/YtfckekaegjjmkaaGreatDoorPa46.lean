/- The texts JwApW, LaidV, put together. -/
import Derived.Test.YtfckekaegjjmkaaGreatDoorPa45
import Derived.Test.YtfckekaegjjmkaaGreatDoorPa05
import Derived.Test.YtfckekaegjjmkaaGreatDoorPa01
import Derived.Test.YtfckekaegjjmkaaGreatDoorRows
import Derived.Test.YtfckekaegjjmkaaGreatDoorPa07
import Derived.Lib.LaidU8T
import Derived.PinnedBridge
import Derived.Stop.LaidErr
import Derived.Stop.Joined
import Derived.LaidMore
import Derived.LaidLaws
import Derived.Lay
import Derived.SevenTiedAt
import Derived.ProofKit
import Derived.OpenShut
import Derived.Lib.LaidTab
namespace Go.Proofs.YtfckekaegjjmkaaGreatDoor
open Go.RowKit Go.Shelf

theorem few_okJ {t : Tr} (h : OwnOk t.own) : OwnOk (fewT t).own := by
  rw [fewT_own]
  exact cut_ok h
theorem check_okJ {t : Tr} (h : checkT 1 flJ t = 0) : okJ t := okJ_of t (checkJ_ok h).2.2.1 (checkJ_ok h).2.2.2
theorem jsT_one {p : Bool} {k : Nat} {t x : Tr} (h : jsT quoteL p k t = jsT quoteL p k x) (ht : okJ t) (hx : okJ x) : t = x :=
  jsT_inj (U := uqJ) quoteL_beg (fun l m hv => uqJ_quote l m hv) p k ht hx h
theorem bne_toListJ {a b : ByteArray} (h : ¬ a = b) : (a.toList == b.toList) = false := by
  rw [beq_eq_false_iff_ne, ByteArray.toList_eq, ByteArray.toList_eq]
  exact fun e => h (by apply ByteArray.ext; exact Array.toList_inj.1 e)

set_option maxHeartbeats 8000000 in
set_option maxRecDepth 100000 in
theorem apart_walk {aT aF : Addr} (t0 x0 : Tr) (vt vx : Value) (w : World) (h : SW w aT aF) (D Dx : Nat) (hl : ListAt w w.heap.size D t0.kids vt) (hlx : ListAt w w.heap.size Dx x0.kids vx) (ho : OwnOk t0.own) (hox : OwnOk x0.own) (hc : t0.count ≤ 1048576) (hcx : x0.count ≤ 1048576) :
    Calls Tryz.prog 3 #[nodeV t0.own vt, nodeV x0.own vx] w fun e w' => e = .returned (.bool true) ∧ Below w.heap.size w w' := by
  have H0 := Lib.hid (fun w h => j_shown (aT := aT) (aF := aF) w h)
  have HU := Lib.hid (fun (w' : World) (hw : Below w.heap.size w w') => h.below hw)
  have HF := Lib.hid (fun (w' : World) (hw : Below w.heap.size w w') => law_FewT t0 vt w' w.heap.size D (hl.below hw (Nat.le_refl _)) ho hw.size (by omega))
  have HFX := Lib.hid (fun (w' : World) (hw : Below w.heap.size w w') => law_FewT x0 vx w' w.heap.size Dx (hlx.below hw (Nat.le_refl _)) hox hw.size (by omega))
  have hto := few_okJ ho
  have hxo := few_okJ hox
  have htc := few_count t0
  have hxc := few_count x0
  obtain ⟨o0, ho0⟩ : ∃ o, t0.own = o := ⟨_, rfl⟩
  obtain ⟨ox0, hox0⟩ : ∃ o, x0.own = o := ⟨_, rfl⟩
  rw [ho0] at HF ⊢
  rw [hox0] at HFX ⊢
  generalize fewT t0 = t at HF hto htc
  generalize fewT x0 = x at HFX hxo hxc
  obtain ⟨hb2, hk1, hk2⟩ := box2 w (cellsV o0 vt) (cellsV ox0 vx) 27 27
  obtain ⟨ot, hot⟩ : ∃ o, t.own = o := ⟨_, rfl⟩
  obtain ⟨oxx, hoxx⟩ : ∃ o, x.own = o := ⟨_, rfl⟩
  rw [hot] at HF
  rw [hoxx] at HFX
  have HK1 := Lib.hid hk1
  have HK2 := Lib.hid hk2
  have HH := Lib.hid (h.below hb2)
  unfold nodeV cellsV at *
  clear hl hlx ho hox hc hcx h hk1 hk2
  go_enter Tryz.func3, Tryz.ntmps3
  go_wp2_with fail
  refine (H0.out _ HH.out).mono ?_
  rintro e w1 ⟨rfl, hb1⟩
  have hb3 := hb2.trans (hb1.mono hb2.size)
  have hk1 := HK1.out.below hb1 HK1.out.lt
  have hk2 := HK2.out.below hb1 HK2.out.lt
  have HK3 := Lib.hid hk1
  have HK4 := Lib.hid hk2
  clear hb1 HK1 HK2 hk1 hk2 HH hb2
  go_wp2_with (refine wpList_load_row rfl 27 (.tmp 2) rfl (w.heap.size) rfl 27 _ (0, 0) _ HK3.out Tryz.underlying27 rfl (by kernel_rfl) ?_)
  refine (HF.out _ hb3).mono ?_
  rintro e w2 ⟨⟨y, rfl, hly⟩, hb⟩
  obtain ⟨_, A1, c1, rfl⟩ := hly.slice
  obtain ⟨n1, hn1⟩ : ∃ n1, t.kids.length = n1 := ⟨_, rfl⟩
  rw [hn1] at hly ⊢
  have hb4 := hb3.trans (hb.mono hb3.size)
  have hk1 := HK3.out.below hb HK3.out.lt
  have hk2 := HK4.out.below hb HK4.out.lt
  have hz := hb3.size
  have hb5 := hb4.grown (grown_row w2 w.heap.size #[.int .i64 ot.kind, .bool ot.b, .bool ot.neg, .string ot.dg, .int .i64 ot.ex, .int .u64 ot.u, .int .i64 ot.wd, .string ot.s, .slice A1 n1 c1]) hb4.size (fun q e => by cases e; exact Nat.le_refl _)
  have hk3 := blk_row hk1 #[.int .i64 ot.kind, .bool ot.b, .bool ot.neg, .string ot.dg, .int .i64 ot.ex, .int .u64 ot.u, .int .i64 ot.wd, .string ot.s, .slice A1 n1 c1]
  have hk4 := blk_row_other hk2 (by omega : w.heap.size + 1 ≠ w.heap.size) #[.int .i64 ot.kind, .bool ot.b, .bool ot.neg, .string ot.dg, .int .i64 ot.ex, .int .u64 ot.u, .int .i64 ot.wd, .string ot.s, .slice A1 n1 c1]
  have hw1 := HK4.out.lt
  have hly2 : LAt (w2.setRow w.heap.size #[.int .i64 ot.kind, .bool ot.b, .bool ot.neg, .string ot.dg, .int .i64 ot.ex, .int .u64 ot.u, .int .i64 ot.wd, .string ot.s, .slice A1 n1 c1]) (fun q => w.heap.size + 2 ≤ q ∧ q < (w2.setRow w.heap.size #[.int .i64 ot.kind, .bool ot.b, .bool ot.neg, .string ot.dg, .int .i64 ot.ex, .int .u64 ot.u, .int .i64 ot.wd, .string ot.s, .slice A1 n1 c1]).heap.size) 17 t.kids (.slice A1 n1 c1) := (hly.keep (fun q hq => setRow_other _ _ _ _ (by omega))).mono (fun q hq => ⟨by omega, by rw [setRow_size]; exact hq.2⟩)
  have HK1 := Lib.hid hk1
  have HK5 := Lib.hid hk3
  have HK6 := Lib.hid hk4
  have HL1 := Lib.hid hly2
  clear hb hb3 hb4 hk1 hk2 hk3 hk4 HK3 HK4 hly hly2 HF
  go_wp2_with (first | (refine wpList_store_row rfl 27 (.tmp 2) (.tmp 12) rfl (w.heap.size) #[.int .i64 ot.kind, .bool ot.b, .bool ot.neg, .string ot.dg, .int .i64 ot.ex, .int .u64 ot.u, .int .i64 ot.wd, .string ot.s, .slice A1 n1 c1] rfl rfl 27 _ HK1.out (by kernel_rfl) rfl (by simp [Value.oneCell']) ?_) | (refine wpList_load_row rfl 27 (.tmp 3) rfl (w.heap.size + 1) rfl 27 _ (0, 0) _ HK6.out Tryz.underlying27 rfl (by kernel_rfl) ?_))
  obtain ⟨w3, hw3⟩ : ∃ w3, w2.setRow w.heap.size #[.int .i64 ot.kind, .bool ot.b, .bool ot.neg, .string ot.dg, .int .i64 ot.ex, .int .u64 ot.u, .int .i64 ot.wd, .string ot.s, .slice A1 n1 c1] = w3 := ⟨_, rfl⟩
  rw [hw3] at HK5 HK6 HL1 hb5 ⊢
  clear HK1 hw3 hz hw1
  refine (HFX.out _ hb5).mono ?_
  rintro e w4 ⟨⟨y, rfl, hly⟩, hb⟩
  obtain ⟨_, A2, c2, rfl⟩ := hly.slice
  obtain ⟨n2, hn2⟩ : ∃ n2, x.kids.length = n2 := ⟨_, rfl⟩
  rw [hn2] at hly ⊢
  have hb6 := hb5.trans (hb.mono hb5.size)
  have hk1 := HK5.out.below hb HK5.out.lt
  have hk2 := HK6.out.below hb HK6.out.lt
  have hz := hb5.size
  have hz4 := hb.size
  have hw1 := HK6.out.lt
  have hb7 := hb6.grown (grown_row w4 (w.heap.size + 1) #[.int .i64 oxx.kind, .bool oxx.b, .bool oxx.neg, .string oxx.dg, .int .i64 oxx.ex, .int .u64 oxx.u, .int .i64 oxx.wd, .string oxx.s, .slice A2 n2 c2]) hb6.size (fun q e => by cases e; omega)
  have hk3 := blk_row hk2 #[.int .i64 oxx.kind, .bool oxx.b, .bool oxx.neg, .string oxx.dg, .int .i64 oxx.ex, .int .u64 oxx.u, .int .i64 oxx.wd, .string oxx.s, .slice A2 n2 c2]
  have hk4 := blk_row_other hk1 (by omega : w.heap.size ≠ w.heap.size + 1) #[.int .i64 oxx.kind, .bool oxx.b, .bool oxx.neg, .string oxx.dg, .int .i64 oxx.ex, .int .u64 oxx.u, .int .i64 oxx.wd, .string oxx.s, .slice A2 n2 c2]
  have hl4 : ListAt (w4.setRow (w.heap.size + 1) #[.int .i64 oxx.kind, .bool oxx.b, .bool oxx.neg, .string oxx.dg, .int .i64 oxx.ex, .int .u64 oxx.u, .int .i64 oxx.wd, .string oxx.s, .slice A2 n2 c2]) (w4.setRow (w.heap.size + 1) #[.int .i64 oxx.kind, .bool oxx.b, .bool oxx.neg, .string oxx.dg, .int .i64 oxx.ex, .int .u64 oxx.u, .int .i64 oxx.wd, .string oxx.s, .slice A2 n2 c2]).heap.size 17 t.kids (.slice A1 n1 c1) := ((HL1.out.keep (W' := w4) (fun q hq => hb.block q hq.2)).keep (fun q hq => setRow_other _ _ _ _ (by omega))).mono (fun q hq => by rw [setRow_size]; omega)
  have hlx4 : ListAt (w4.setRow (w.heap.size + 1) #[.int .i64 oxx.kind, .bool oxx.b, .bool oxx.neg, .string oxx.dg, .int .i64 oxx.ex, .int .u64 oxx.u, .int .i64 oxx.wd, .string oxx.s, .slice A2 n2 c2]) (w4.setRow (w.heap.size + 1) #[.int .i64 oxx.kind, .bool oxx.b, .bool oxx.neg, .string oxx.dg, .int .i64 oxx.ex, .int .u64 oxx.u, .int .i64 oxx.wd, .string oxx.s, .slice A2 n2 c2]).heap.size 17 x.kids (.slice A2 n2 c2) := (hly.keep (fun q hq => setRow_other _ _ _ _ (by omega))).mono (fun q hq => by rw [setRow_size]; exact hq.2)
  have HK1 := Lib.hid hk2
  have HKX := Lib.hid hk3
  have HKT := Lib.hid hk4
  have HLT := Lib.hid hl4
  have HLX := Lib.hid hlx4
  clear hb hb5 hb6 hk1 hk2 hk3 hk4 hl4 hlx4 hly HL1 HFX HK5 hz hz4 hw1
  go_wp2_with (first | (refine wpList_store_row rfl 27 (.tmp 3) (.tmp 14) rfl (w.heap.size + 1) #[.int .i64 oxx.kind, .bool oxx.b, .bool oxx.neg, .string oxx.dg, .int .i64 oxx.ex, .int .u64 oxx.u, .int .i64 oxx.wd, .string oxx.s, .slice A2 n2 c2] rfl rfl 27 _ HK1.out (by kernel_rfl) rfl (by simp [Value.oneCell']) ?_) | (refine wpList_load_row rfl 27 (.tmp 2) rfl (w.heap.size) rfl 27 _ (0, 0) _ HKT.out Tryz.underlying27 rfl (by kernel_rfl) ?_))
  obtain ⟨w5, hw5⟩ : ∃ w5, w4.setRow (w.heap.size + 1) #[.int .i64 oxx.kind, .bool oxx.b, .bool oxx.neg, .string oxx.dg, .int .i64 oxx.ex, .int .u64 oxx.u, .int .i64 oxx.wd, .string oxx.s, .slice A2 n2 c2] = w5 := ⟨_, rfl⟩
  rw [hw5] at HKX HKT HLT HLX hb7 ⊢
  clear HK1 hw5
  have hWT := jw_Write t (.slice A1 n1 c1) w5 w5.heap.size 17 aT aF HLT.out hto (Nat.le_refl _) (by omega) (HU.out _ hb7)
  have HWX := Lib.hid (fun W (hW : Below w5.heap.size w5 W) => jw_Write x (.slice A2 n2 c2) W w5.heap.size 17 aT aF (HLX.out.below hW (Nat.le_refl _)) hxo hW.size (by omega) ((HU.out _ hb7).below hW))
  have HSM := Lib.hid (fun W (hW : Below w5.heap.size w5 W) => ref_SameT 17 t x (.slice A1 n1 c1) (.slice A2 n2 c2) W w5.heap.size 17 (HLT.out.below hW (Nat.le_refl _)) (HLX.out.below hW (Nat.le_refl _)) hW.size)
  have HOT := Lib.hid (fun h => check_okJ (t := t) h)
  have HOX := Lib.hid (fun h => check_okJ (t := x) h)
  obtain ⟨kt, hkt⟩ : ∃ kt, checkT 1 flJ t = kt := ⟨_, rfl⟩
  obtain ⟨kx, hkx⟩ : ∃ kx, checkT 1 flJ x = kx := ⟨_, rfl⟩
  rw [hkt] at hWT HOT
  rw [hkx] at HWX HOX
  rw [hot] at hWT HSM
  rw [hoxx] at HWX HSM
  unfold nodeV at hWT HWX HSM
  have hWT := Lib.hid hWT
  have HB7 := Lib.hid hb7
  clear hb7 HLT HLX
  refine hWT.out.mono ?_
  rintro e w6 ⟨rfl, hb6⟩
  have HKX6 := Lib.hid (HKX.out.below hb6 HKX.out.lt)
  have HKT6 := Lib.hid (HKT.out.below hb6 HKT.out.lt)
  clear hWT HKX HKT
  go_wp2_with (first | (refine wpList_load_row rfl 27 (.tmp 3) rfl (w.heap.size + 1) rfl 27 _ (0, 0) _ HKX6.out Tryz.underlying27 rfl (by kernel_rfl) ?_))
  refine (HWX.out _ hb6).mono ?_
  rintro e w7 ⟨rfl, hb⟩
  have hb7 := hb6.trans (hb.mono hb6.size)
  have HKX7 := Lib.hid (HKX6.out.below hb HKX6.out.lt)
  have HKT7 := Lib.hid (HKT6.out.below hb HKT6.out.lt)
  have HBE := Lib.hid (HB7.out.trans (hb7.mono HB7.out.size))
  clear hb hb6 HKX6 HKT6 HWX
  by_cases h0 : kt = 0
  case neg =>
    have y0 : ¬ kt = 0 := h0
    go_wp2_with fail
    go_ret
    exact ⟨rfl, HBE.out⟩
  by_cases h1 : kx = 0
  case neg =>
    have y0 : ¬ kx = 0 := h1
    subst h0
    go_wp2_with fail
    go_ret
    exact ⟨rfl, HBE.out⟩
  subst h0 h1
  have za0 := HKT7.out.cell 0
  have za1 := HKT7.out.cell 1
  have za2 := HKT7.out.cell 2
  have za3 := HKT7.out.cell 3
  have za4 := HKT7.out.cell 4
  have za5 := HKT7.out.cell 5
  have za6 := HKT7.out.cell 6
  have za7 := HKT7.out.cell 7
  have za8 := HKT7.out.cell 8
  have zb0 := HKX7.out.cell 0
  have zb1 := HKX7.out.cell 1
  have zb2 := HKX7.out.cell 2
  have zb3 := HKX7.out.cell 3
  have zb4 := HKX7.out.cell 4
  have zb5 := HKX7.out.cell 5
  have zb6 := HKX7.out.cell 6
  have zb7 := HKX7.out.cell 7
  have zb8 := HKX7.out.cell 8
  have hokt := HOT.out rfl
  have hokx := HOX.out rfl
  have hdif : ∀ hne : ¬ t = x, ¬ wroteJ false t 0 = wroteJ false x 0 := fun hne h => by
    rw [wroteJ, if_pos rfl, wroteJ, if_pos rfl] at h
    have h2 := congrArg (fun b : ByteArray => b.data.toList) h
    exact hne (jsT_one h2 hokt hokx)
  clear HOT HOX hokt hokx hkt hkx
  obtain ⟨s, hs⟩ : ∃ s, wroteJ false t 0 = s := ⟨_, rfl⟩
  obtain ⟨r, hr⟩ : ∃ r, wroteJ false x 0 = r := ⟨_, rfl⟩
  rw [hs] at hdif ⊢
  rw [hr] at hdif ⊢
  by_cases htx : t = x
  · have hsr : s = r := by rw [← hs, ← hr, htx]
    subst hsr
    have hsm : sameT t x = true := by rw [htx]; exact sameT_refl x
    rw [hsm] at HSM
    have HS2 := Lib.hid (HSM.out _ hb7)
    clear hs hr hdif htx hsm HSM
    go_wp2_with fail
    refine HS2.out.mono ?_
    rintro e w8 ⟨rfl, hb8⟩
    have hb9 := HBE.out.trans (hb8.mono HBE.out.size)
    go_wp2_with fail
    go_ret
    exact ⟨rfl, hb9⟩
  · have hsm : sameT t x = false := by
      cases hq : sameT t x
      · rfl
      · exact absurd (sameT_iff t x hq) htx
    rw [hsm] at HSM
    have HS2 := Lib.hid (HSM.out _ hb7)
    have y4 := bne_toListJ (hdif htx)
    clear hs hr hdif htx hsm HSM
    go_wp2_with fail
    refine HS2.out.mono ?_
    rintro e w8 ⟨rfl, hb8⟩
    have hb9 := HBE.out.trans (hb8.mono HBE.out.size)
    go_wp2_with fail
    go_ret
    exact ⟨rfl, hb9⟩
end Go.Proofs.YtfckekaegjjmkaaGreatDoor
namespace Go.Proofs.YtfckekaegjjmkaaGreatDoor
open Go.RowKit Go.Shelf Go.Lib

theorem laidMet_drop {P : Program} {W : World} : ∀ (k : Nat) {l : List (String × DataW Unit)}, laidMet P l W → laidMet P (l.drop k) W
  | 0, _, h => h
  | _ + 1, [], h => h
  | k + 1, _ :: _, h => laidMet_drop k h.tail

set_option maxRecDepth 100000 in
/-- A sentinel on the list: its cell, the block behind it, its text. -/
theorem sentinel_of {n : String} {g : Nat} {text : List UInt8} {r : List (String × DataW Unit)} {W : World} (h : laidMet Tryz.prog ((n, .iface "*errors.errorString" (.ptr (.agg [.lit (.string text)]))) :: r) W)
    (hg : Tryz.prog.globalNamed n = some g) (ht : (Tryz.prog.globals[g]?).map (·.type) = some 62)
    (hi : ∃ ms, Tryz.prog.underlying 62 = some (.interface ms)) (hrow : ∀ u, Tryz.prog.typeName? 3 u = some "*errors.errorString" → u = 289)
    (he : ∃ f : Field, Tryz.prog.underlying 291 = some (.struct #[f]) ∧ f.type = 9 ∧ f.offset = 0) (hc : Tryz.prog.cellsOf 291 = 1) (hcs : Tryz.prog.cellsOf 9 = 1) :
    ∃ a : Addr, W.cell? ⟨g, 0, none⟩ = some (.iface 289 (.pointer (some a))) ∧ (∃ c t, W.heap[a.block]? = some (.cells c t (0, 0))) ∧ ∃ s : ByteArray, W.cell? a = some (.string s) ∧ s.data.toList = text := by
  obtain ⟨ms, hi⟩ := hi
  obtain ⟨f, he, hft, hfo⟩ := he
  obtain ⟨ps, ⟨g0, t0, cs0, f0, p0, q0, hg0, ht0, hv0, hd0, _, e0⟩, _, hrows⟩ := h
  obtain rfl := Option.some.inj (hg.symm.trans hg0)
  obtain rfl := Option.some.inj (ht.symm.trans ht0)
  subst e0
  obtain ⟨l0⟩ := cs0
  have ok0 : ∀ u v, l0 = [.iface u v] → Value.okWide Tryz.prog W .any 0 u v := fun u v e => by
    subst e
    exact (hrows g 0 (by simp [MemPlace.row])).2 u v (by simpa using World.var?_cell hg0 hv0 0)
  obtain ⟨a0, s0, rfl, hc0, hs0, hz0, rfl⟩ := errorString_of_trod hi hrow Tryz.underlying289 he hft hfo Tryz.underlying9 hc hcs hd0 ok0
  obtain ⟨c0, t0, hb0⟩ := (hrows a0.block a0.off (by simp [MemPlace.row])).1
  refine ⟨a0, ?_, ⟨c0, t0, hb0⟩, s0, hc0, hs0⟩
  simpa using World.var?_cell hg0 hv0 0

set_option maxRecDepth 100000 in
theorem u8extra : U8Extra Tryz.prog Tryz.lays196_ren := { n3 := by kernel_rfl, n4 := by kernel_rfl, y3 := by kernel_rfl, y4 := by kernel_rfl, c5 := by kernel_rfl, c119 := by kernel_rfl, c138 := by kernel_rfl }
theorem es_star : "*" ++ "errors.errorString" = "*errors.errorString" := by decide
set_option maxRecDepth 100000 in
theorem es_row (u : TypeId) (h : Tryz.prog.typeName? 3 u = some "*errors.errorString") : u = 289 :=
  typeName_ptr_named (nm := "errors.errorString") (by rw [es_star]; kernel_rfl) (by kernel_rfl) (by decide) u (by rw [es_star]; exact h)
theorem es_iface : ∃ ms, Tryz.prog.underlying 62 = some (.interface ms) := ⟨_, Tryz.underlying62⟩
theorem es_struct : ∃ f : Field, Tryz.prog.underlying 291 = some (.struct #[f]) ∧ f.type = 9 ∧ f.offset = 0 := ⟨_, Tryz.underlying291, rfl, rfl⟩
set_option maxRecDepth 100000 in
theorem es_cells : Tryz.prog.cellsOf 291 = 1 := by kernel_rfl
set_option maxRecDepth 100000 in
theorem es_string : Tryz.prog.cellsOf 9 = 1 := by kernel_rfl
theorem wf_i64 {a : Int} (h : (Lit.int .i64 a).wf = true) : -9223372036854775808 ≤ a ∧ a < 9223372036854775808 := by
  simp [Lit.wf, IntKind.min, IntKind.max, IntKind.signed, IntKind.bits] at h
  omega
theorem cell_block_lt {w : World} {a : Addr} {v : Value} (h : w.cell? a = some v) : a.block < w.heap.size := by
  unfold World.cell? at h
  cases hh : w.heap[a.block]? with
  | none => rw [hh] at h; cases h
  | some o => exact (Array.getElem?_eq_some_iff.1 hh).1
set_option maxRecDepth 100000 in
/-- A sentinel on the list: its variable holds an interface value. -/
theorem sentinel_var {n : String} {g : Nat} {text : List UInt8} {r : List (String × DataW Unit)} {W : World} (h : laidMet Tryz.prog ((n, .iface "*errors.errorString" (.ptr (.agg [.lit (.string text)]))) :: r) W)
    (hg : Tryz.prog.globalNamed n = some g) (ht : (Tryz.prog.globals[g]?).map (·.type) = some 62) : ∃ tp p, W.var? Tryz.prog n = some #[.iface tp p] := by
  obtain ⟨ms, hi⟩ := es_iface
  obtain ⟨f, he, hft, hfo⟩ := es_struct
  obtain ⟨ps, ⟨g0, t0, cs0, f0, p0, q0, hg0, ht0, hv0, hd0, _, e0⟩, _, hrows⟩ := h
  obtain rfl := Option.some.inj (hg.symm.trans hg0)
  obtain rfl := Option.some.inj (ht.symm.trans ht0)
  subst e0
  obtain ⟨l0⟩ := cs0
  have ok0 : ∀ u v, l0 = [.iface u v] → Value.okWide Tryz.prog W .any 0 u v := fun u v e => by
    subst e
    exact (hrows g 0 (by simp [MemPlace.row])).2 u v (by simpa using World.var?_cell hg0 hv0 0)
  obtain ⟨a0, s0, rfl, hc0, hs0, hz0, rfl⟩ := errorString_of_trod hi es_row Tryz.underlying289 he hft hfo Tryz.underlying9 es_cells es_string hd0 ok0
  exact ⟨_, _, hv0⟩
set_option maxRecDepth 100000 in
theorem gR : Tryz.prog.globalNamed "strconv.ErrRange" = some 8 := by kernel_rfl
set_option maxRecDepth 100000 in
theorem tR : (Tryz.prog.globals[8]?).map (·.type) = some 62 := by kernel_rfl
end Go.Proofs.YtfckekaegjjmkaaGreatDoor
