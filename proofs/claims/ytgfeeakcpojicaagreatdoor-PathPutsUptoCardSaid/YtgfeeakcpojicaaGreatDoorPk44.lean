/- The texts PutsW, put together. -/
import Derived.Test.YtgfeeakcpojicaaGreatDoorPk36
import Derived.Test.YtgfeeakcpojicaaGreatDoorPk38
import Derived.Test.YtgfeeakcpojicaaGreatDoorPk39
import Derived.Test.YtgfeeakcpojicaaGreatDoorPk41
import Derived.Test.YtgfeeakcpojicaaGreatDoorPk43
/- The walk of the law PathPuts. -/
namespace Go.Proofs.YtgfeeakcpojicaaGreatDoor
open Go.RowKit Go.Shelf

theorem findPost_val {o : Option Tr} {d : Nat} {e : Ending} {W : World} (h : FindPost o d e W) : ∃ v, e = .returned v ∧ FindPost o d (.returned v) W := by
  cases o with
  | none =>
    have h : e = _ := h
    subst h
    exact ⟨_, rfl, rfl⟩
  | some u =>
    obtain ⟨y, rfl, h2⟩ := h
    exact ⟨_, rfl, y, rfl, h2⟩
theorem few_ok {t : Tr} (h : OwnOk t.own) : OwnOk (fewT t).own := by
  rw [fewT_own]
  exact cut_ok h
theorem which_wrap (which : Int) (n : Nat) (hn : 0 < n) (hn2 : n ≤ 1000) : ∃ j : Nat, j < n ∧ IntKind.i64.wrap ((IntKind.u64.wrap which).tmod (n : Int)) = (j : Int) := by
  have h0 : 0 ≤ IntKind.u64.wrap which := by
    rw [IntKind.wrap_u64]
    omega
  obtain ⟨m, hm⟩ := Int.eq_ofNat_of_zero_le h0
  refine ⟨m % n, Nat.mod_lt _ hn, ?_⟩
  rw [hm]
  have e : ((m : Int)).tmod (n : Int) = ((m % n : Nat) : Int) := rfl
  rw [e]
  have := Nat.mod_lt m hn
  exact IntWalk.i64_in _ (by omega)

set_option maxHeartbeats 8000000 in
set_option maxRecDepth 100000 in
theorem puts_walk {aT aQ : Addr} (t0 x0 : Tr) (vt vx : Value) (which : Int) (w : World) (h : PW w aT aQ) (D Dx : Nat) (hl : ListAt w w.heap.size D t0.kids vt) (hlx : ListAt w w.heap.size Dx x0.kids vx) (ho : OwnOk t0.own) (hox : OwnOk x0.own) (hc : t0.count ≤ 1048576) (hcx : x0.count ≤ 1048576) :
    Calls Tryz.prog 4 #[nodeV t0.own vt, .int .i64 which, nodeV x0.own vx] w fun e w' => e = .returned (.bool true) ∧ Below w.heap.size w w' := by
  have H0 := Lib.hid (fun w h => law_shown (aT := aT) (aQ := aQ) w h)
  have HU := Lib.hid (fun (w' : World) (hw : Below w.heap.size w w') => h.below hw)
  have HF := Lib.hid (fun (w' : World) (hw : Below w.heap.size w w') => law_FewT t0 vt w' w.heap.size D (hl.below hw (Nat.le_refl _)) ho hw.size (by omega))
  have HFX := Lib.hid (fun (w' : World) (hw : Below w.heap.size w w') => law_FewT x0 vx w' w.heap.size Dx (hlx.below hw (Nat.le_refl _)) hox hw.size (by omega))
  have hto := few_ok ho
  have hxo := few_ok hox
  have htc := few_count t0
  have hxc := few_count x0
  obtain ⟨o0, ho0⟩ : ∃ o, t0.own = o := ⟨_, rfl⟩
  obtain ⟨ox0, hox0⟩ : ∃ o, x0.own = o := ⟨_, rfl⟩
  rw [ho0] at HF ⊢
  rw [hox0] at HFX ⊢
  generalize fewT t0 = t at HF hto htc
  generalize fewT x0 = x at HFX hxo hxc
  obtain ⟨hb2, hk1, hk2⟩ := box2 w (cellsV o0 vt) (cellsV ox0 vx) 38 38
  obtain ⟨ot, hot⟩ : ∃ o, t.own = o := ⟨_, rfl⟩
  obtain ⟨oxx, hoxx⟩ : ∃ o, x.own = o := ⟨_, rfl⟩
  rw [hot] at HF
  rw [hoxx] at HFX
  have HK1 := Lib.hid hk1
  have HK2 := Lib.hid hk2
  have HH := Lib.hid (h.below hb2)
  unfold nodeV cellsV at *
  clear hl hlx ho hox hc hcx h hk1 hk2
  go_enter Tryz.func4, Tryz.ntmps4
  go_wp2_with fail
  refine (H0.out _ HH.out).mono ?_
  rintro e w1 ⟨rfl, hb1⟩
  have hb3 := hb2.trans (hb1.mono hb2.size)
  have hk1 := HK1.out.below hb1 HK1.out.lt
  have hk2 := HK2.out.below hb1 HK2.out.lt
  have HK3 := Lib.hid hk1
  have HK4 := Lib.hid hk2
  clear hb1 HK1 HK2 hk1 hk2 HH hb2
  go_wp2_with (refine wpList_load_row rfl 38 (.tmp 3) rfl w.heap.size rfl 38 _ (0, 0) _ HK3.out Tryz.underlying38 rfl (by kernel_rfl) ?_)
  refine (HF.out _ hb3).mono ?_
  rintro e w2 ⟨⟨y, rfl, hly⟩, hb⟩
  obtain ⟨_, A1, c1, rfl⟩ := hly.slice
  obtain ⟨n1, hn1⟩ : ∃ n1, t.kids.length = n1 := ⟨_, rfl⟩
  rw [hn1] at hly ⊢
  have hb4 := hb3.trans (hb.mono hb3.size)
  have hk1 := HK3.out.below hb HK3.out.lt
  have hk2 := HK4.out.below hb HK4.out.lt
  have hz := hb3.size
  have hb5 := hb4.grown (grown_row w2 w.heap.size #[.int .i64 ot.kind, .bool ot.b, .bool ot.neg, .string ot.dg, .int .i64 ot.ex, .int .u64 ot.u, .int .i64 ot.wd, .string ot.s, .slice A1 n1 c1]) hb4.size (fun q e => by cases e; exact Nat.le_refl _)
  have hk3 := blk_row hk1 #[.int .i64 ot.kind, .bool ot.b, .bool ot.neg, .string ot.dg, .int .i64 ot.ex, .int .u64 ot.u, .int .i64 ot.wd, .string ot.s, .slice A1 n1 c1]
  have hk4 := blk_row_other hk2 (by omega : w.heap.size + 1 ≠ w.heap.size) #[.int .i64 ot.kind, .bool ot.b, .bool ot.neg, .string ot.dg, .int .i64 ot.ex, .int .u64 ot.u, .int .i64 ot.wd, .string ot.s, .slice A1 n1 c1]
  have hw1 := HK4.out.lt
  have hly2 : LAt (w2.setRow w.heap.size #[.int .i64 ot.kind, .bool ot.b, .bool ot.neg, .string ot.dg, .int .i64 ot.ex, .int .u64 ot.u, .int .i64 ot.wd, .string ot.s, .slice A1 n1 c1]) (fun q => w.heap.size + 2 ≤ q ∧ q < (w2.setRow w.heap.size #[.int .i64 ot.kind, .bool ot.b, .bool ot.neg, .string ot.dg, .int .i64 ot.ex, .int .u64 ot.u, .int .i64 ot.wd, .string ot.s, .slice A1 n1 c1]).heap.size) 17 t.kids (.slice A1 n1 c1) := (hly.keep (fun q hq => setRow_other _ _ _ _ (by omega))).mono (fun q hq => ⟨by omega, by rw [setRow_size]; exact hq.2⟩)
  have HK1 := Lib.hid hk1
  have HK5 := Lib.hid hk3
  have HK6 := Lib.hid hk4
  have HL1 := Lib.hid hly2
  clear hb hb3 hb4 hk1 hk2 hk3 hk4 HK3 HK4 hly hly2 HF
  go_wp2_with (first | (refine wpList_store_row rfl 38 (.tmp 3) (.tmp 21) rfl w.heap.size #[.int .i64 ot.kind, .bool ot.b, .bool ot.neg, .string ot.dg, .int .i64 ot.ex, .int .u64 ot.u, .int .i64 ot.wd, .string ot.s, .slice A1 n1 c1] rfl rfl 38 _ HK1.out (by kernel_rfl) rfl (by simp [Value.oneCell']) ?_) | (refine wpList_load_row rfl 38 (.tmp 5) rfl (w.heap.size + 1) rfl 38 _ (0, 0) _ HK6.out Tryz.underlying38 rfl (by kernel_rfl) ?_))
  obtain ⟨w3, hw3⟩ : ∃ w3, w2.setRow w.heap.size #[.int .i64 ot.kind, .bool ot.b, .bool ot.neg, .string ot.dg, .int .i64 ot.ex, .int .u64 ot.u, .int .i64 ot.wd, .string ot.s, .slice A1 n1 c1] = w3 := ⟨_, rfl⟩
  rw [hw3] at HK5 HK6 HL1 hb5 ⊢
  clear HK1 hw3 hz hw1
  refine (HFX.out _ hb5).mono ?_
  rintro e w4 ⟨⟨y, rfl, hly⟩, hb⟩
  obtain ⟨_, A2, c2, rfl⟩ := hly.slice
  obtain ⟨n2, hn2⟩ : ∃ n2, x.kids.length = n2 := ⟨_, rfl⟩
  rw [hn2] at hly ⊢
  have hb6 := hb5.trans (hb.mono hb5.size)
  have hk1 := HK5.out.below hb HK5.out.lt
  have hk2 := HK6.out.below hb HK6.out.lt
  have hz := hb5.size
  have hz4 := hb.size
  have hw1 := HK6.out.lt
  have hb7 := hb6.grown (grown_row w4 (w.heap.size + 1) #[.int .i64 oxx.kind, .bool oxx.b, .bool oxx.neg, .string oxx.dg, .int .i64 oxx.ex, .int .u64 oxx.u, .int .i64 oxx.wd, .string oxx.s, .slice A2 n2 c2]) hb6.size (fun q e => by cases e; omega)
  have hk3 := blk_row hk2 #[.int .i64 oxx.kind, .bool oxx.b, .bool oxx.neg, .string oxx.dg, .int .i64 oxx.ex, .int .u64 oxx.u, .int .i64 oxx.wd, .string oxx.s, .slice A2 n2 c2]
  have hk4 := blk_row_other hk1 (by omega : w.heap.size ≠ w.heap.size + 1) #[.int .i64 oxx.kind, .bool oxx.b, .bool oxx.neg, .string oxx.dg, .int .i64 oxx.ex, .int .u64 oxx.u, .int .i64 oxx.wd, .string oxx.s, .slice A2 n2 c2]
  have hl4 : ListAt (w4.setRow (w.heap.size + 1) #[.int .i64 oxx.kind, .bool oxx.b, .bool oxx.neg, .string oxx.dg, .int .i64 oxx.ex, .int .u64 oxx.u, .int .i64 oxx.wd, .string oxx.s, .slice A2 n2 c2]) (w4.setRow (w.heap.size + 1) #[.int .i64 oxx.kind, .bool oxx.b, .bool oxx.neg, .string oxx.dg, .int .i64 oxx.ex, .int .u64 oxx.u, .int .i64 oxx.wd, .string oxx.s, .slice A2 n2 c2]).heap.size 17 t.kids (.slice A1 n1 c1) := ((HL1.out.keep (W' := w4) (fun q hq => hb.block q hq.2)).keep (fun q hq => setRow_other _ _ _ _ (by omega))).mono (fun q hq => by rw [setRow_size]; omega)
  have hlx4 : ListAt (w4.setRow (w.heap.size + 1) #[.int .i64 oxx.kind, .bool oxx.b, .bool oxx.neg, .string oxx.dg, .int .i64 oxx.ex, .int .u64 oxx.u, .int .i64 oxx.wd, .string oxx.s, .slice A2 n2 c2]) (w4.setRow (w.heap.size + 1) #[.int .i64 oxx.kind, .bool oxx.b, .bool oxx.neg, .string oxx.dg, .int .i64 oxx.ex, .int .u64 oxx.u, .int .i64 oxx.wd, .string oxx.s, .slice A2 n2 c2]).heap.size 17 x.kids (.slice A2 n2 c2) := (hly.keep (fun q hq => setRow_other _ _ _ _ (by omega))).mono (fun q hq => by rw [setRow_size]; exact hq.2)
  have HK1 := Lib.hid hk2
  have HKX := Lib.hid hk3
  have HKT := Lib.hid hk4
  have HLT := Lib.hid hl4
  have HLX := Lib.hid hlx4
  clear hb hb5 hb6 hk1 hk2 hk3 hk4 hl4 hlx4 hly HL1 HFX HK5 hz hz4 hw1
  go_wp2_with (first | (refine wpList_store_row rfl 38 (.tmp 5) (.tmp 23) rfl (w.heap.size + 1) #[.int .i64 oxx.kind, .bool oxx.b, .bool oxx.neg, .string oxx.dg, .int .i64 oxx.ex, .int .u64 oxx.u, .int .i64 oxx.wd, .string oxx.s, .slice A2 n2 c2] rfl rfl 38 _ HK1.out (by kernel_rfl) rfl (by simp [Value.oneCell']) ?_) | (refine wpList_load_row rfl 38 (.tmp 3) rfl w.heap.size rfl 38 _ (0, 0) _ HKT.out Tryz.underlying38 rfl (by kernel_rfl) ?_))
  obtain ⟨w5, hw5⟩ : ∃ w5, w4.setRow (w.heap.size + 1) #[.int .i64 oxx.kind, .bool oxx.b, .bool oxx.neg, .string oxx.dg, .int .i64 oxx.ex, .int .u64 oxx.u, .int .i64 oxx.wd, .string oxx.s, .slice A2 n2 c2] = w5 := ⟨_, rfl⟩
  rw [hw5] at HKX HKT HLT HLX hb7 ⊢
  clear HK1 hw5
  have HA := path_All t (.slice A1 n1 c1) w5 w5.heap.size 17 (HU.out _ hb7).uw HLT.out (Nat.le_refl _) (by omega)
  unfold nodeV at HA
  rw [hot] at HA
  have HA := Lib.hid HA
  refine HA.out.mono ?_
  rintro e w6 ⟨⟨v, vs, rfl, hown, hrows⟩, hb⟩
  have hpos := allT_pos 16 t []
  have hle := allT_len 16 t []
  obtain ⟨all, hall⟩ : ∃ all, allT 16 t [] = all := ⟨_, rfl⟩
  have hright : ∀ q ∈ all, rightS q = true ∧ ∃ v, findT t q = some v := fun q hq => all_right (by rw [hall]; exact hq)
  rw [hall] at hown hrows hpos hle
  obtain ⟨nl, hnl⟩ : ∃ nl, all.length = nl := ⟨_, rfl⟩
  rw [hnl] at hown hpos hle
  obtain ⟨g, cap, rfl⟩ : ∃ g cap, v = .slice (some ⟨g, 0, none⟩) nl cap := by
    rcases hown.2 with ⟨_, h⟩ | ⟨g, cap, cur, h, _⟩
    · omega
    · exact ⟨g, cap, h⟩
  have hb8 := hb7.trans (hb.mono hb7.size)
  have hcells : ∀ i (hi : i < all.length), ∃ A c, w6.cell? ⟨g, i, none⟩ = some (.slice A all[i].length c) ∧ all[i].length ≤ c ∧ StepsAt w6 w6.heap.size A all[i].length all[i] := fun i hi => by
    obtain ⟨A, c, h1, h2, h3⟩ := hrows.get i hi
    obtain ⟨_, hl⟩ := Lies.own hown
    obtain ⟨ad, e, _, hcc⟩ := hl (by omega)
    cases e
    have := hcc i _ h1
    rw [addr0] at this
    exact ⟨A, c, this, h2, h3.at_ (fun q hq => hq)⟩
  have hgl := (hown.lt g rfl).2
  obtain ⟨j, hjl, hjw⟩ := which_wrap which nl hpos (by omega)
  have hwn : IntKind.u64.wrap (nl : Int) = nl := by
    rw [IntKind.wrap_u64]
    omega
  have hjw' : wrap64 ((IntKind.u64.wrap which).tmod (nl : Int)) = (j : Int) := by rw [← IntWalk.i64_left]; exact hjw
  have hn00 : ¬ (nl : Int) = 0 := by omega
  have hj0 : (0 : Int) ≤ j := by omega
  have hjl' : j < all.length := by rw [hnl]; exact hjl
  obtain ⟨Ap, cp, hcj, hpc, hsp⟩ := hcells j hjl'
  have hpm : all[j] ∈ all := List.getElem_mem hjl'
  obtain ⟨p, hp⟩ : ∃ p, all[j] = p := ⟨_, rfl⟩
  rw [hp] at hcj hpc hsp hpm
  obtain ⟨hpr, vp, hvp⟩ := hright p hpm
  have hpl : p.length ≤ 16 := by
    unfold rightS at hpr
    rw [Bool.and_eq_true, decide_eq_true_iff] at hpr
    exact hpr.1
  have hn0 : ((nl : Int) == 0) = false := by rw [beq_eq_false_iff_ne]; omega
  have hjI : (j : Int) < nl := by omega
  have hk1 := HKT.out.below hb HKT.out.lt
  have hk2 := HKX.out.below hb HKX.out.lt
  have hl1 := (HLT.out.below hb (Nat.le_refl _)).more hb.size
  have hl2 := (HLX.out.below hb (Nat.le_refl _)).more hb.size
  have hrep : replaceR t p x = some (changedT (fun _ => x) p t) := by
    unfold replaceR findR
    rw [if_pos hpr, hvp]
  have HREP := path_Replace t x (.slice A1 n1 c1) (.slice A2 n2 c2) Ap p.length cp p w6 (HU.out _ hb8).uw w6.heap.size 17 17 hl1 hl2 hto hxo (by omega) (by omega) (by omega) hsp hpc (Nat.le_refl _)
  rw [hrep] at HREP
  have hfc := find_changed x p t vp hvp
  have hoth := fun (q : List Stp) => find_other x p q t vp hvp
  have hcc := count_changed x p t
  obtain ⟨ct, hct⟩ : ∃ ct, changedT (fun _ => x) p t = ct := ⟨_, rfl⟩
  simp only [hct] at HREP hfc hoth hcc
  unfold nodeV at HREP
  rw [hot, hoxx] at HREP
  have HREP := Lib.hid HREP
  have HKT6 := Lib.hid hk1
  have HKX6 := Lib.hid hk2
  have HCE := Lib.hid hcells
  have HRI := Lib.hid hright
  have HSP := Lib.hid hsp
  have HOTH := Lib.hid hoth
  have HL6 := Lib.hid hl1
  have HLX6 := Lib.hid hl2
  have HNL := Lib.hid hnl
  clear hb hb7 HKT HKX HLT HLX HA hown hrows hcells hright hsp hoth hk1 hk2 hl1 hl2 hall hp hct hrep hpm hvp
  go_wp2_with (first | (refine wpList_load_row rfl 38 (.tmp 3) rfl w.heap.size rfl 38 _ (0, 0) _ HKT6.out Tryz.underlying38 rfl (by kernel_rfl) ?_) | (refine wpList_load_row rfl 38 (.tmp 5) rfl (w.heap.size + 1) rfl 38 _ (0, 0) _ HKX6.out Tryz.underlying38 rfl (by kernel_rfl) ?_))
  refine HREP.out.mono ?_
  rintro e w7 ⟨⟨yc, Dc, rfl, hlc, hoc⟩, hb⟩
  have hb9 := hb8.trans (hb.mono hb8.size)
  obtain ⟨oc, hoc'⟩ : ∃ o, ct.own = o := ⟨_, rfl⟩
  obtain ⟨_, A3, c3, rfl⟩ := hlc.slice
  obtain ⟨n3, hn3⟩ : ∃ n3, ct.kids.length = n3 := ⟨_, rfl⟩
  rw [hn3] at hlc ⊢
  unfold nodeV
  rw [hoc']
  have ha : Below w7.heap.size w7 (w7.alloc (.cells #[.int .i64 oc.kind, .bool oc.b, .bool oc.neg, .string oc.dg, .int .i64 oc.ex, .int .u64 oc.u, .int .i64 oc.wd, .string oc.s, .slice A3 n3 c3] 38)) := (Below.refl _ _).alloc (Nat.le_refl _) _
  have hkc := Blk.new w7 #[.int .i64 oc.kind, .bool oc.b, .bool oc.neg, .string oc.dg, .int .i64 oc.ex, .int .u64 oc.u, .int .i64 oc.wd, .string oc.s, .slice A3 n3 c3] 38
  have hb10 := hb9.trans (ha.mono hb9.size)
  have hlow6 := hb.trans (ha.mono hb.size)
  have hlc2 := (hlc.below ha (Nat.le_refl _)).more ha.size
  have hspc := HSP.out.below hlow6 (Nat.le_refl _)
  have hfcr : findR ct p = some x := by
    unfold findR
    rw [if_pos hpr, hfc]
  have HFC := path_Find ct (.slice A3 n3 c3) Ap p.length cp p _ (HU.out _ hb10).uw _ Dc hlc2 hoc (by omega) (by omega) (hspc.more hlow6.size) (Nat.le_refl _)
  rw [hfcr] at HFC
  unfold nodeV at HFC
  rw [hoc'] at HFC
  have HFC := Lib.hid HFC
  have hk1 := HKT6.out.below hlow6 HKT6.out.lt
  have hk2 := HKX6.out.below hlow6 HKX6.out.lt
  have hz7 := hb.size
  have hzz7 := hb9.size
  have HKC := Lib.hid hkc
  have hb8_6 := hlow6
  clear hb hb9 hlc hkc HKT6 HKX6 ha hlow6 hspc HREP hfcr hfc
  go_wp2_with (refine wpList_load_row rfl 38 (.tmp 10) rfl w7.heap.size rfl 38 _ (0, 0) _ HKC.out Tryz.underlying38 rfl (by kernel_rfl) ?_)
  obtain ⟨w8, hw8⟩ : ∃ w8, w7.alloc (.cells #[.int .i64 oc.kind, .bool oc.b, .bool oc.neg, .string oc.dg, .int .i64 oc.ex, .int .u64 oc.u, .int .i64 oc.wd, .string oc.s, .slice A3 n3 c3] 38) = w8 := ⟨_, rfl⟩
  have hz8 : w8.heap.size = w7.heap.size + 1 := by rw [← hw8, World.size_alloc]
  rw [hw8] at HKC
  rw [hw8] at HFC hk1 hk2 hb10 hlc2 hb8_6 ⊢
  clear hw8
  refine HFC.out.mono ?_
  rintro e w9 ⟨⟨yg, rfl, hlg⟩, hb⟩
  obtain ⟨_, A4, c4, rfl⟩ := hlg.slice
  rw [hn2] at hlg ⊢
  unfold nodeV
  rw [hoxx]
  have hb11 := hb10.trans (hb.mono hb10.size)
  have ha : Below w9.heap.size w9 (w9.alloc (.cells #[.int .i64 oxx.kind, .bool oxx.b, .bool oxx.neg, .string oxx.dg, .int .i64 oxx.ex, .int .u64 oxx.u, .int .i64 oxx.wd, .string oxx.s, .slice A4 n2 c4] 38)) := (Below.refl _ _).alloc (Nat.le_refl _) _
  have hlow9 := hb.trans (ha.mono hb.size)
  have hkg := Blk.new w9 #[.int .i64 oxx.kind, .bool oxx.b, .bool oxx.neg, .string oxx.dg, .int .i64 oxx.ex, .int .u64 oxx.u, .int .i64 oxx.wd, .string oxx.s, .slice A4 n2 c4] 38
  have hk3 := hk1.below hlow9 hk1.lt
  have hk4 := hk2.below hlow9 hk2.lt
  have hk5 := HKC.out.below hlow9 HKC.out.lt
  have hlg2 := (hlg.below ha (Nat.le_refl _)).more ha.size
  have hb12 := hb11.trans (ha.mono hb11.size)
  have hlow612 : w6.heap.size ≤ w9.heap.size := by have := hb.size; omega
  have hlx9 := (HLX6.out.below (hb8_6.trans (hlow9.mono hb8_6.size)) (Nat.le_refl _)).more (hb8_6.trans (hlow9.mono hb8_6.size)).size
  have HSM := ref_SameT Dc x x (.slice A4 n2 c4) (.slice A2 n2 c2) _ _ 17 hlg2 hlx9 (Nat.le_refl _)
  rw [sameT_refl] at HSM
  unfold nodeV at HSM
  rw [hoxx] at HSM
  have HSM := Lib.hid HSM
  have HKG := Lib.hid hkg
  have HK4 := Lib.hid hk4
  clear hlg hlg2 hlx9 hb ha hkg hk1 hk2
  have z0 := HK4.out.cell 0
  have z1 := HK4.out.cell 1
  have z2 := HK4.out.cell 2
  have z3 := HK4.out.cell 3
  have z4 := HK4.out.cell 4
  have z5 := HK4.out.cell 5
  have z6 := HK4.out.cell 6
  have z7 := HK4.out.cell 7
  have z8 := HK4.out.cell 8
  go_wp2_with fail
  refine HSM.out.mono ?_
  rintro e w11 ⟨rfl, hb⟩
  have hlow11 := hlow9.trans (hb.mono hlow9.size)
  have hlow611 := hb8_6.trans (hlow11.mono hb8_6.size)
  have hbw11 := hb12.trans (hb.mono hb12.size)
  have HKT := Lib.hid (fun (W : World) (hW : Below w11.heap.size w11 W) => (hk3.below hb hk3.lt).below hW (hk3.below hb hk3.lt).lt)
  have HKC11 := Lib.hid (fun (W : World) (hW : Below w11.heap.size w11 W) => (hk5.below hb hk5.lt).below hW (hk5.below hb hk5.lt).lt)
  have HLT := Lib.hid (fun (W : World) (hW : Below w11.heap.size w11 W) => (HL6.out.below (hlow611.trans (hW.mono hlow611.size)) (Nat.le_refl _)).more hlow611.size)
  have HLC := Lib.hid (fun (W : World) (hW : Below w11.heap.size w11 W) => (hlc2.below (hlow11.trans (hW.mono hlow11.size)) (Nat.le_refl _)).more hlow11.size)
  have HUW := Lib.hid (fun (W : World) (hW : Below w11.heap.size w11 W) => HU.out _ (hbw11.trans (hW.mono hbw11.size)))
  clear z0 z1 z2 z3 z4 z5 z6 z7 z8 HSM HKG HK4 hb hk3 hk4 hk5 hlow9 hb12 HL6 HLX6 hlc2 hb10 hb11 hb8 HFC
  go_wp2_with fail
  go_loopw [14] (fun i wr => ∃ k : Nat, k ≤ nl ∧ i = .int .i64 k ∧ Below w11.heap.size w11 wr) (fun i _ => nl - (intOf i).toNat)
  case atStart => exact ⟨0, by omega, rfl, Below.refl _ _⟩
  case round =>
    obtain ⟨k, hk, rfl, hlow⟩ := hrel
    by_cases hlt : k < nl
    · have hka : k < all.length := by rw [HNL.out]; exact hlt
      obtain ⟨Ak, ck, hce, hqc, hsq⟩ := HCE.out k hka
      obtain ⟨hqr, a, hqa⟩ := HRI.out _ (List.getElem_mem hka)
      obtain ⟨q, hq⟩ : ∃ q, all[k] = q := ⟨_, rfl⟩
      rw [hq] at hce hqc hsq hqr hqa
      have hql : q.length ≤ 16 := by
        unfold rightS at hqr
        rw [Bool.and_eq_true, decide_eq_true_iff] at hqr
        exact hqr.1
      have hz611 := hlow611.size
      have HEL := Lib.hid (show ∀ (W : World), Below w11.heap.size w11 W → W.cell? ⟨g, k, none⟩ = some (.slice Ak q.length ck) ∧ q.length ≤ ck ∧ StepsAt W w11.heap.size Ak q.length q from fun W hW => ⟨((hlow611.trans (hW.mono hlow611.size)).cell (p := ⟨g, k, none⟩) (by show g < _; omega)).trans hce, hqc, (hsq.below (hlow611.trans (hW.mono hlow611.size)) (Nat.le_refl _)).more hlow611.size⟩)
      have hfr : findR t q = some a := by
        unfold findR
        rw [if_pos hqr, hqa]
      have HF1 := fun (W : World) (hW : Below w11.heap.size w11 W) => path_FindS t (.slice A1 n1 c1) Ak q.length ck q W (HUW.out W hW).uw w11.heap.size 17 (HLT.out W hW) hto (by omega) (by omega) (HEL.out W hW).2.2 hW.size
      have HF2 := fun (W : World) (hW : Below w11.heap.size w11 W) => path_FindS ct (.slice A3 n3 c3) Ak q.length ck q W (HUW.out W hW).uw w11.heap.size Dc (HLC.out W hW) hoc (by omega) (by omega) (HEL.out W hW).2.2 hW.size
      rw [hfr] at HF1
      unfold nodeV at HF1 HF2
      rw [hot] at HF1
      rw [hoc'] at HF2
      obtain ⟨fo, hfo⟩ : ∃ fo, findR ct q = fo := ⟨_, rfl⟩
      obtain ⟨bs, hbs⟩ : ∃ bs, fo.isSome = bs := ⟨_, rfl⟩
      rw [hfo] at HF2
      have HF1 := Lib.hid HF1
      have HF2 := Lib.hid HF2
      have hltI : (k : Int) < nl := by omega
      clear hce hsq hq hka
      go_wp2_with fail
      refine wp_region_tailG (R := fun W W' => Below wr.heap.size W W') 11 (by kernel_rfl) (by kernel_rfl) (fun _ => Below.refl _ _) (by kernel_rfl) (by kernel_rfl) (fun W => Below wr.heap.size wr W)
          [fun env _ => env 0 = .agg #[.int .i64 ot.kind, .bool ot.b, .bool ot.neg, .string ot.dg, .int .i64 ot.ex, .int .u64 ot.u, .int .i64 ot.wd, .string ot.s, .slice A1 n1 c1], fun env _ => env 1 = .slice (some ⟨g, 0, none⟩) nl cap, fun env _ => env 2 = .int .i64 k, fun env _ => env 3 = .pointer (some ⟨g, k, none⟩), fun env _ => env 4 = .slice Ak q.length ck, F5 (some a), F6 (some a), F7, F8, F9 wr.heap.size] (JS (some a) 17 38) ?_ ?_ ?_ ?_ ?_ ?_
      case refine_1 => exact (Below.refl _ _).drew
      case refine_2 => exact fun env => JS.start
      case refine_3 => exact fun W W' he hr => he.trans hr
      case refine_4 =>
        intro i o' env env' W W' ho hk _ hp _
        match i, ho with
        | 0, ho => exact (hk 0 (.inl rfl)).symm.trans hp
        | 1, ho => exact (hk 1 (.inl rfl)).symm.trans hp
        | 2, ho => exact (hk 2 (.inl rfl)).symm.trans hp
        | 3, ho => exact (hk 3 (.inl rfl)).symm.trans hp
        | 4, ho => exact (hk 4 (.inl rfl)).symm.trans hp
        | 5, ho =>
          have hp := show FindVal (some a) (env 5) from hp
          rw [hk 5 (.inl rfl)] at hp
          exact hp
        | 6, ho =>
          obtain ⟨h1, h2⟩ := show F6 (some a) env W from hp
          cases ho
          rw [hk 6 (.inl rfl), hk 5 (.inr (by kernel_rfl))] at h1
          rw [hk 6 (.inl rfl)] at h2
          exact ⟨h1, h2⟩
        | 7, ho =>
          obtain ⟨o', A, n, c, b, h1, h2⟩ := show F7 env W from hp
          cases ho
          rw [hk 6 (.inr (by kernel_rfl))] at h1
          rw [hk 7 (.inl rfl)] at h2
          exact ⟨o', A, n, c, b, h1, h2⟩
        | 8, ho =>
          obtain ⟨x0, x1, h1, h2⟩ := show F8 env W from hp
          cases ho
          rw [hk 6 (.inr (by kernel_rfl))] at h1
          rw [hk 8 (.inl rfl)] at h2
          exact ⟨x0, x1, h1, h2⟩
        | 9, ho =>
          obtain ⟨bb, h1, h2⟩ := show F9 wr.heap.size env W from hp
          rw [hk 9 (.inl rfl)] at h1
          exact ⟨bb, h1, h2⟩
        | n + 10, ho => exact (show True from trivial)
      case refine_5 =>
        have HLOW := Lib.hid (fun (W : World) (hW : Below wr.heap.size wr W) => hlow.trans (hW.mono hlow.size))
        refine flow_consG (flow_opG rfl rfl (by kernel_rfl) (by kernel_rfl) ?_) ?_
        · intro sel env W hE hn hx hs hwt ρ hρ hc hf hg K hK
          have r3 : ρ (.tmp 3) = .pointer (some ⟨w.heap.size, 0, none⟩) := by rw [hρ]; kernel_rfl
          clear hρ hg
          exact lands_load_row 38 (.tmp 3) rfl w.heap.size r3 38 _ (0, 0) _ (HKT.out W (HLOW.out W hE)) Tryz.underlying38 rfl (by kernel_rfl) (hK _ _ (updV_self _ _ _) (hx.other (Below.refl _ _) 0 (by decide) (by decide) (by decide) (by decide) _) (Below.refl _ _))
        refine flow_consG (flow_opG rfl rfl (by kernel_rfl) (by kernel_rfl) ?_) ?_
        · intro sel env W hE hn hx hs hwt ρ hρ hc hf hg K hK
          have r8 : ρ (.tmp 8) = .slice (some ⟨g, 0, none⟩) nl cap := by rw [hρ]; kernel_rfl
          clear hρ hg
          simp [opLands, go_sem, r8]
          exact hK _ _ (updV_self _ _ _) (hx.other (Below.refl _ _) 1 (by decide) (by decide) (by decide) (by decide) _) (Below.refl _ _)
        refine flow_consG (flow_opG rfl rfl (by kernel_rfl) (by kernel_rfl) ?_) ?_
        · intro sel env W hE hn hx hs hwt ρ hρ hc hf hg K hK
          have r14 : ρ (.tmp 14) = .int .i64 k := by rw [hρ]; kernel_rfl
          clear hρ hg
          simp [opLands, go_sem, r14]
          exact hK _ _ (updV_self _ _ _) (hx.other (Below.refl _ _) 2 (by decide) (by decide) (by decide) (by decide) _) (Below.refl _ _)
        refine flow_consG (flow_opG rfl rfl (by kernel_rfl) (by kernel_rfl) ?_) ?_
        · intro sel env W hE hn hx hs hwt ρ hρ hc hf hg K hK
          have r72 := (show ρ (.tmp 72) = env 1 by rw [hρ]; kernel_rfl).trans (hn 1 (hwt 1 (by kernel_rfl)))
          have r73 := (show ρ (.tmp 73) = env 2 by rw [hρ]; kernel_rfl).trans (hn 2 (hwt 2 (by kernel_rfl)))
          clear hρ hg
          simp [opLands, go_sem, r72, r73, hlt]
          exact hK _ _ (updV_self _ _ _) (hx.other (Below.refl _ _) 3 (by decide) (by decide) (by decide) (by decide) _) (Below.refl _ _)
        refine flow_consG (flow_opG rfl rfl (by kernel_rfl) (by kernel_rfl) ?_) ?_
        · intro sel env W hE hn hx hs hwt ρ hρ hc hf hg K hK
          have r74 := (show ρ (.tmp 74) = env 3 by rw [hρ]; kernel_rfl).trans (hn 3 (hwt 3 (by kernel_rfl)))
          clear hρ hg
          have q0 := (HEL.out W (HLOW.out W hE)).1
          simp [opLands, go_sem, r74, q0]
          exact hK _ _ (updV_self _ _ _) (hx.other (Below.refl _ _) 4 (by decide) (by decide) (by decide) (by decide) _) (Below.refl _ _)
        refine flow_consG (flow_opG rfl rfl (by kernel_rfl) (by kernel_rfl) ?_) ?_
        · intro sel env W hE hn hx hs hwt ρ hρ hc hf hg K hK
          have r71 := (show ρ (.tmp 71) = env 0 by rw [hρ]; kernel_rfl).trans (hn 0 (hwt 0 (by kernel_rfl)))
          have r75 := (show ρ (.tmp 75) = env 4 by rw [hρ]; kernel_rfl).trans (hn 4 (hwt 4 (by kernel_rfl)))
          clear hρ hg
          refine lands_call rfl (by kernel_rfl) hf ?_
          rw [show #[Operand.tmp 71, Operand.tmp 75].map ρ = #[.agg #[.int .i64 ot.kind, .bool ot.b, .bool ot.neg, .string ot.dg, .int .i64 ot.ex, .int .u64 ot.u, .int .i64 ot.wd, .string ot.s, .slice A1 n1 c1], .slice Ak q.length ck] by simp [r71, r75]]
          refine (HF1.out W (HLOW.out W hE)).mono ?_
          rintro e W' ⟨hp, hb⟩
          obtain ⟨v, rfl⟩ := hp.plain.val
          exact ⟨_, rfl, hK _ _ (show FindVal (some a) (updV env 5 v 5) by rw [updV_self]; exact hp.shape) (hx.find hs hp hb (fun s => hn 9 s) hlow.size) (hb.mono hE.size)⟩
        refine flow_consG (flow_opG rfl rfl (by kernel_rfl) (by kernel_rfl) ?_) ?_
        · intro sel env W hE hn hx hs hwt ρ hρ hc hf hg K hK
          have e76 : env 5 = env 5 := rfl
          have hp5 : FindVal (some a) (env 5) := (hn 5 (hwt 5 (by kernel_rfl)))
          have r76 := (show ρ (.tmp 76) = env 5 by rw [hρ]; kernel_rfl).trans e76
          clear hρ hg
          simp [opLands, go_sem, r76]
          exact hK _ _ ⟨(updV_self _ _ _).trans (updV_ne _ _ (by decide)).symm, by rw [updV_self]; exact hp5⟩ (hx.other (Below.refl _ _) 6 (by decide) (by decide) (by decide) (by decide) _) (Below.refl _ _)
        refine flow_consG (flow_opG rfl rfl (by kernel_rfl) (by kernel_rfl) ?_) ?_
        · intro sel env W hE hn hx hs hwt ρ hρ hc hf hg K hK
          obtain ⟨_, hp6⟩ : F6 (some a) env W := (hn 6 (hwt 6 (by kernel_rfl)))
          obtain ⟨o6, A6, n6, c6, b6, e70⟩ := hp6.pair
          have r70 := (show ρ (.tmp 70) = env 6 by rw [hρ]; kernel_rfl).trans e70
          clear hρ hg
          simp [opLands, go_sem, r70]
          exact hK _ _ ⟨o6, A6, n6, c6, b6, (updV_ne _ _ (by decide)).trans e70, updV_self _ _ _⟩ (hx.part hs _) (Below.refl _ _)
        refine flow_consG (flow_opG rfl rfl (by kernel_rfl) (by kernel_rfl) ?_) ?_
        · intro sel env W hE hn hx hs hwt ρ hρ hc hf hg K hK
          obtain ⟨_, hp6⟩ : F6 (some a) env W := (hn 6 (hwt 6 (by kernel_rfl)))
          obtain ⟨o6, A6, n6, c6, b6, e70⟩ := hp6.pair
          have r70 := (show ρ (.tmp 70) = env 6 by rw [hρ]; kernel_rfl).trans e70
          clear hρ hg
          simp [opLands, go_sem, r70]
          exact hK _ _ ⟨_, b6, (updV_ne _ _ (by decide)).trans e70, updV_self _ _ _⟩ (hx.other (Below.refl _ _) 8 (by decide) (by decide) (by decide) (by decide) _) (Below.refl _ _)
        refine flow_consG (flow_opG rfl rfl (by kernel_rfl) (by kernel_rfl) ?_) ?_
        · intro sel env W hE hn hx hs hwt ρ hρ hc hf hg K hK
          clear hρ hg
          simp [opLands, go_sem]
          exact hK _ _ ⟨W.heap.size, updV_self _ _ _, hE.size⟩ (hx.box hs) ((Below.refl _ _).alloc hE.size _)
        refine flow_consG (flow_op0G rfl rfl (by kernel_rfl) rfl ?_) flow_nilG
        · intro sel env W hE hn hx hs hwt ρ hρ hc hf hg K hK
          obtain ⟨b9, e15, hlo9⟩ : F9 wr.heap.size env W := (hn 9 (hwt 9 (by kernel_rfl)))
          have r15 := (show ρ (.tmp 15) = env 9 by rw [hρ]; kernel_rfl).trans e15
          obtain ⟨o7, A7, n7, c7, _, _, e77⟩ : F7 env W := (hn 7 (hwt 7 (by kernel_rfl)))
          have r77 := (show ρ (.tmp 77) = env 7 by rw [hρ]; kernel_rfl).trans e77
          clear hρ hg
          have h0 := hx.c3 (hwt 9 (by kernel_rfl)) hs b9 e15
          exact lands_store_row 38 (.tmp 15) (.tmp 77) rfl b9 (cellsV o7 (.slice A7 n7 c7)) r15 r77 38 _ h0 (by kernel_rfl) rfl (by simp [cellsV, Value.oneCell']) (hK undef _ trivial (hx.store (hwt 5 (by kernel_rfl)) (hwt 7 (by kernel_rfl)) (hwt 9 (by kernel_rfl)) e15 e77 h0) ((Below.refl _ _).grown (grown_row W b9 _) hE.size (fun q e => by cases e; exact hlo9)))
      case refine_6 =>
        intro env W1 hE hn hx
        obtain ⟨oa, Aa, na, ca, ba, e7, e8, e9, hkb, hlo, hsome⟩ := flow_end (show F5 (some a) env W1 from hn 5 (by decide)) (show F6 (some a) env W1 from hn 6 (by decide)) (show F7 env W1 from hn 7 (by decide)) (show F8 env W1 from hn 8 (by decide)) (show F9 wr.heap.size env W1 from hn 9 (by decide)) (by decide) hx
        clear hn hx
        obtain ⟨rfl, hl1⟩ := hsome a rfl
        clear hsome
        have e8 : env 8 = .bool true := e8
        unfold nodeV at e7
        simp only [List.take_succ_cons, List.take_zero, List.drop_succ_cons, List.drop_zero, frameAll, e7, e8, e9]
        generalize env 0 = x0
        generalize env 1 = x1
        generalize env 2 = x2
        generalize env 3 = x3
        generalize env 4 = x4
        generalize env 5 = x5
        generalize env 6 = x6
        generalize env 10 = x10
        clear e7 e8 e9
        have hlow1 := hlow.trans (hE.mono hlow.size)
        have hk1 := hkb
        clear hkb hE hlo
        go_wp2_with fail
        refine wp_region_tailG (R := fun W W' => Below W1.heap.size W W') 11 (by kernel_rfl) (by kernel_rfl) (fun _ => Below.refl _ _) (by kernel_rfl) (by kernel_rfl) (fun W => Below W1.heap.size W1 W)
            [fun env _ => env 0 = .agg #[.int .i64 oc.kind, .bool oc.b, .bool oc.neg, .string oc.dg, .int .i64 oc.ex, .int .u64 oc.u, .int .i64 oc.wd, .string oc.s, .slice A3 n3 c3], fun env _ => env 1 = .slice (some ⟨g, 0, none⟩) nl cap, fun env _ => env 2 = .int .i64 k, fun env _ => env 3 = .pointer (some ⟨g, k, none⟩), fun env _ => env 4 = .slice Ak q.length ck, F5 fo, F6 fo, F7, F8, F9 W1.heap.size] (JS fo Dc 38) ?_ ?_ ?_ ?_ ?_ ?_
        case refine_1 => exact (Below.refl _ _).drew
        case refine_2 => exact fun env => JS.start
        case refine_3 => exact fun W W' he hr => he.trans hr
        case refine_4 =>
          intro i o' env env' W W' ho hk _ hp _
          match i, ho with
          | 0, ho => exact (hk 0 (.inl rfl)).symm.trans hp
          | 1, ho => exact (hk 1 (.inl rfl)).symm.trans hp
          | 2, ho => exact (hk 2 (.inl rfl)).symm.trans hp
          | 3, ho => exact (hk 3 (.inl rfl)).symm.trans hp
          | 4, ho => exact (hk 4 (.inl rfl)).symm.trans hp
          | 5, ho =>
            have hp := show FindVal fo (env 5) from hp
            rw [hk 5 (.inl rfl)] at hp
            exact hp
          | 6, ho =>
            obtain ⟨h1, h2⟩ := show F6 fo env W from hp
            cases ho
            rw [hk 6 (.inl rfl), hk 5 (.inr (by kernel_rfl))] at h1
            rw [hk 6 (.inl rfl)] at h2
            exact ⟨h1, h2⟩
          | 7, ho =>
            obtain ⟨o', A, n, c, b, h1, h2⟩ := show F7 env W from hp
            cases ho
            rw [hk 6 (.inr (by kernel_rfl))] at h1
            rw [hk 7 (.inl rfl)] at h2
            exact ⟨o', A, n, c, b, h1, h2⟩
          | 8, ho =>
            obtain ⟨x0, x1, h1, h2⟩ := show F8 env W from hp
            cases ho
            rw [hk 6 (.inr (by kernel_rfl))] at h1
            rw [hk 8 (.inl rfl)] at h2
            exact ⟨x0, x1, h1, h2⟩
          | 9, ho =>
            obtain ⟨bb, h1, h2⟩ := show F9 W1.heap.size env W from hp
            rw [hk 9 (.inl rfl)] at h1
            exact ⟨bb, h1, h2⟩
          | n + 10, ho => exact (show True from trivial)
        case refine_5 =>
          have HLOW := Lib.hid (fun (W : World) (hW : Below W1.heap.size W1 W) => hlow1.trans (hW.mono hlow1.size))
          refine flow_consG (flow_opG rfl rfl (by kernel_rfl) (by kernel_rfl) ?_) ?_
          · intro sel env W hE hn hx hs hwt ρ hρ hc hf hg K hK
            have r10 : ρ (.tmp 10) = .pointer (some ⟨w7.heap.size, 0, none⟩) := by rw [hρ]; kernel_rfl
            clear hρ hg
            exact lands_load_row 38 (.tmp 10) rfl w7.heap.size r10 38 _ (0, 0) _ (HKC11.out W (HLOW.out W hE)) Tryz.underlying38 rfl (by kernel_rfl) (hK _ _ (updV_self _ _ _) (hx.other (Below.refl _ _) 0 (by decide) (by decide) (by decide) (by decide) _) (Below.refl _ _))
          refine flow_consG (flow_opG rfl rfl (by kernel_rfl) (by kernel_rfl) ?_) ?_
          · intro sel env W hE hn hx hs hwt ρ hρ hc hf hg K hK
            have r8 : ρ (.tmp 8) = .slice (some ⟨g, 0, none⟩) nl cap := by rw [hρ]; kernel_rfl
            clear hρ hg
            simp [opLands, go_sem, r8]
            exact hK _ _ (updV_self _ _ _) (hx.other (Below.refl _ _) 1 (by decide) (by decide) (by decide) (by decide) _) (Below.refl _ _)
          refine flow_consG (flow_opG rfl rfl (by kernel_rfl) (by kernel_rfl) ?_) ?_
          · intro sel env W hE hn hx hs hwt ρ hρ hc hf hg K hK
            have r14 : ρ (.tmp 14) = .int .i64 k := by rw [hρ]; kernel_rfl
            clear hρ hg
            simp [opLands, go_sem, r14]
            exact hK _ _ (updV_self _ _ _) (hx.other (Below.refl _ _) 2 (by decide) (by decide) (by decide) (by decide) _) (Below.refl _ _)
          refine flow_consG (flow_opG rfl rfl (by kernel_rfl) (by kernel_rfl) ?_) ?_
          · intro sel env W hE hn hx hs hwt ρ hρ hc hf hg K hK
            have r81 := (show ρ (.tmp 81) = env 1 by rw [hρ]; kernel_rfl).trans (hn 1 (hwt 1 (by kernel_rfl)))
            have r82 := (show ρ (.tmp 82) = env 2 by rw [hρ]; kernel_rfl).trans (hn 2 (hwt 2 (by kernel_rfl)))
            clear hρ hg
            simp [opLands, go_sem, r81, r82, hlt]
            exact hK _ _ (updV_self _ _ _) (hx.other (Below.refl _ _) 3 (by decide) (by decide) (by decide) (by decide) _) (Below.refl _ _)
          refine flow_consG (flow_opG rfl rfl (by kernel_rfl) (by kernel_rfl) ?_) ?_
          · intro sel env W hE hn hx hs hwt ρ hρ hc hf hg K hK
            have r83 := (show ρ (.tmp 83) = env 3 by rw [hρ]; kernel_rfl).trans (hn 3 (hwt 3 (by kernel_rfl)))
            clear hρ hg
            have q0 := (HEL.out W (HLOW.out W hE)).1
            simp [opLands, go_sem, r83, q0]
            exact hK _ _ (updV_self _ _ _) (hx.other (Below.refl _ _) 4 (by decide) (by decide) (by decide) (by decide) _) (Below.refl _ _)
          refine flow_consG (flow_opG rfl rfl (by kernel_rfl) (by kernel_rfl) ?_) ?_
          · intro sel env W hE hn hx hs hwt ρ hρ hc hf hg K hK
            have r80 := (show ρ (.tmp 80) = env 0 by rw [hρ]; kernel_rfl).trans (hn 0 (hwt 0 (by kernel_rfl)))
            have r84 := (show ρ (.tmp 84) = env 4 by rw [hρ]; kernel_rfl).trans (hn 4 (hwt 4 (by kernel_rfl)))
            clear hρ hg
            refine lands_call rfl (by kernel_rfl) hf ?_
            rw [show #[Operand.tmp 80, Operand.tmp 84].map ρ = #[.agg #[.int .i64 oc.kind, .bool oc.b, .bool oc.neg, .string oc.dg, .int .i64 oc.ex, .int .u64 oc.u, .int .i64 oc.wd, .string oc.s, .slice A3 n3 c3], .slice Ak q.length ck] by simp [r80, r84]]
            refine (HF2.out W (HLOW.out W hE)).mono ?_
            rintro e W' ⟨hp, hb⟩
            obtain ⟨v, rfl⟩ := hp.plain.val
            exact ⟨_, rfl, hK _ _ (show FindVal fo (updV env 5 v 5) by rw [updV_self]; exact hp.shape) (hx.find hs hp hb (fun s => hn 9 s) hlow1.size) (hb.mono hE.size)⟩
          refine flow_consG (flow_opG rfl rfl (by kernel_rfl) (by kernel_rfl) ?_) ?_
          · intro sel env W hE hn hx hs hwt ρ hρ hc hf hg K hK
            have e85 : env 5 = env 5 := rfl
            have hp5 : FindVal fo (env 5) := (hn 5 (hwt 5 (by kernel_rfl)))
            have r85 := (show ρ (.tmp 85) = env 5 by rw [hρ]; kernel_rfl).trans e85
            clear hρ hg
            simp [opLands, go_sem, r85]
            exact hK _ _ ⟨(updV_self _ _ _).trans (updV_ne _ _ (by decide)).symm, by rw [updV_self]; exact hp5⟩ (hx.other (Below.refl _ _) 6 (by decide) (by decide) (by decide) (by decide) _) (Below.refl _ _)
          refine flow_consG (flow_opG rfl rfl (by kernel_rfl) (by kernel_rfl) ?_) ?_
          · intro sel env W hE hn hx hs hwt ρ hρ hc hf hg K hK
            obtain ⟨_, hp6⟩ : F6 fo env W := (hn 6 (hwt 6 (by kernel_rfl)))
            obtain ⟨o6, A6, n6, c6, b6, e79⟩ := hp6.pair
            have r79 := (show ρ (.tmp 79) = env 6 by rw [hρ]; kernel_rfl).trans e79
            clear hρ hg
            simp [opLands, go_sem, r79]
            exact hK _ _ ⟨o6, A6, n6, c6, b6, (updV_ne _ _ (by decide)).trans e79, updV_self _ _ _⟩ (hx.part hs _) (Below.refl _ _)
          refine flow_consG (flow_opG rfl rfl (by kernel_rfl) (by kernel_rfl) ?_) ?_
          · intro sel env W hE hn hx hs hwt ρ hρ hc hf hg K hK
            obtain ⟨_, hp6⟩ : F6 fo env W := (hn 6 (hwt 6 (by kernel_rfl)))
            obtain ⟨o6, A6, n6, c6, b6, e79⟩ := hp6.pair
            have r79 := (show ρ (.tmp 79) = env 6 by rw [hρ]; kernel_rfl).trans e79
            clear hρ hg
            simp [opLands, go_sem, r79]
            exact hK _ _ ⟨_, b6, (updV_ne _ _ (by decide)).trans e79, updV_self _ _ _⟩ (hx.other (Below.refl _ _) 8 (by decide) (by decide) (by decide) (by decide) _) (Below.refl _ _)
          refine flow_consG (flow_opG rfl rfl (by kernel_rfl) (by kernel_rfl) ?_) ?_
          · intro sel env W hE hn hx hs hwt ρ hρ hc hf hg K hK
            clear hρ hg
            simp [opLands, go_sem]
            exact hK _ _ ⟨W.heap.size, updV_self _ _ _, hE.size⟩ (hx.box hs) ((Below.refl _ _).alloc hE.size _)
          refine flow_consG (flow_op0G rfl rfl (by kernel_rfl) rfl ?_) flow_nilG
          · intro sel env W hE hn hx hs hwt ρ hρ hc hf hg K hK
            obtain ⟨b9, e17, hlo9⟩ : F9 W1.heap.size env W := (hn 9 (hwt 9 (by kernel_rfl)))
            have r17 := (show ρ (.tmp 17) = env 9 by rw [hρ]; kernel_rfl).trans e17
            obtain ⟨o7, A7, n7, c7, _, _, e86⟩ : F7 env W := (hn 7 (hwt 7 (by kernel_rfl)))
            have r86 := (show ρ (.tmp 86) = env 7 by rw [hρ]; kernel_rfl).trans e86
            clear hρ hg
            have h0 := hx.c3 (hwt 9 (by kernel_rfl)) hs b9 e17
            exact lands_store_row 38 (.tmp 17) (.tmp 86) rfl b9 (cellsV o7 (.slice A7 n7 c7)) r17 r86 38 _ h0 (by kernel_rfl) rfl (by simp [cellsV, Value.oneCell']) (hK undef _ trivial (hx.store (hwt 5 (by kernel_rfl)) (hwt 7 (by kernel_rfl)) (hwt 9 (by kernel_rfl)) e17 e86 h0) ((Below.refl _ _).grown (grown_row W b9 _) hE.size (fun q e => by cases e; exact hlo9)))
        case refine_6 =>
          intro env W hE hn hx
          obtain ⟨ou, Au, nu, cu, bu, e7, e8, e9, hkb, hlo, hsome⟩ := flow_end (show F5 fo env W from hn 5 (by decide)) (show F6 fo env W from hn 6 (by decide)) (show F7 env W from hn 7 (by decide)) (show F8 env W from hn 8 (by decide)) (show F9 W1.heap.size env W from hn 9 (by decide)) (by decide) hx
          clear hn hx
          rw [hbs] at e8
          unfold nodeV at e7
          simp only [List.take_succ_cons, List.take_zero, List.drop_succ_cons, List.drop_zero, frameAll, e7, e8, e9]
          generalize env 0 = x0
          generalize env 1 = x1
          generalize env 2 = x2
          generalize env 3 = x3
          generalize env 4 = x4
          generalize env 5 = x5
          generalize env 6 = x6
          generalize env 10 = x10
          clear e7 e8 e9 hlo
          have hlow2 := hlow1.trans (hE.mono hlow1.size)
          have hk2 := hk1.below hE hk1.lt
          have hl2 := (hl1.below hE (Nat.le_refl _)).more hE.size
          have hce := (HEL.out W hlow2).1
          have hl6 := hlow611.trans (hlow2.mono hlow611.size)
          have HB1 := Lib.hid (law_begins Ak Ap q.length p.length ck cp q p W.heap.size W (by omega) ((HEL.out W hlow2).2.2.more hlow2.size) ((HSP.out.below hl6 (Nat.le_refl _)).more hl6.size) hpc (Nat.le_refl _))
          have HKA := Lib.hid hk2
          have HKB := Lib.hid hkb
          have HLA := Lib.hid hl2
          have HLU := Lib.hid hsome
          clear hE hk1 hl1 hlow1 hk2 hkb hl2 hsome W1
          cases hbq : beginsB q p with
          | true =>
            rw [hbq] at HB1
            clear hbq
            go_wp2_with fail
            refine HB1.out.mono ?_
            rintro e W2 ⟨rfl, hb⟩
            have hlow3 := hlow2.trans (hb.mono hlow2.size)
            clear hb HB1 hce hlow2
            go_wp2_with fail
            go_roundw
            case rel => exact ⟨k + 1, by omega, by go_num, hlow3⟩
            case measure => simp [intOf]; omega
          | false =>
            rw [hbq] at HB1
            go_wp2_with fail
            refine HB1.out.mono ?_
            rintro e W2 ⟨rfl, hb⟩
            have hlow3 := hlow2.trans (hb.mono hlow2.size)
            have hk3 := HKA.out.below hb HKA.out.lt
            have hk4 := HKB.out.below hb HKB.out.lt
            have hl3 := (HLA.out.below hb (Nat.le_refl _)).more hb.size
            have hl4 := fun u hu => ((HLU.out u hu).2.below hb (Nat.le_refl _)).more hb.size
            have hl5 := fun u hu => (HLU.out u hu).1
            clear HKA HKB HLA HLU hce
            have hce := (HEL.out W2 hlow3).1
            have hl6 := hlow611.trans (hlow3.mono hlow611.size)
            have HB2 := Lib.hid (law_begins Ap Ak p.length q.length cp ck p q W2.heap.size W2 (by omega) ((HSP.out.below hl6 (Nat.le_refl _)).more hl6.size) ((HEL.out W2 hlow3).2.2.more hlow3.size) hqc (Nat.le_refl _))
            have HKA := Lib.hid hk3
            have HKB := Lib.hid hk4
            have HLA := Lib.hid hl3
            have HLU := Lib.hid hl4
            have HOU := Lib.hid hl5
            clear hb HB1 hlow2 hk3 hk4 hl3 hl4 hl5
            cases hbp : beginsB p q with
            | true =>
              rw [hbp] at HB2
              clear hbp hbq
              go_wp2_with fail
              refine HB2.out.mono ?_
              rintro e W3 ⟨rfl, hb⟩
              have hlow4 := hlow3.trans (hb.mono hlow3.size)
              clear hb HB2 hce hlow3
              go_wp2_with fail
              go_roundw
              case rel => exact ⟨k + 1, by omega, by go_num, hlow4⟩
              case measure => simp [intOf]; omega
            | false =>
              rw [hbp] at HB2
              have hfo2 : fo = some a := by
                rw [← hfo]
                unfold findR
                rw [if_pos hqr, HOTH.out q (fun h => by rw [beginsB_iff.2 h] at hbq; cases hbq) (fun h => by rw [beginsB_iff.2 h] at hbp; cases hbp)]
                exact hqa
              have hou := HOU.out a hfo2
              have HLU := Lib.hid (HLU.out a hfo2)
              have hbt : bs = true := by
                rw [← hbs, hfo2]
                rfl
              subst hou
              subst hbt
              clear hbp hbq HOU hfo2 hbs hfo
              go_wp2_with fail
              refine HB2.out.mono ?_
              rintro e W3 ⟨rfl, hb⟩
              have hlow4 := hlow3.trans (hb.mono hlow3.size)
              have hk3 := HKA.out.below hb HKA.out.lt
              have hk4 := HKB.out.below hb HKB.out.lt
              have HSM := ref_SameT 17 a a (.slice Aa na ca) (.slice Au nu cu) W3 W3.heap.size Dc ((HLA.out.below hb (Nat.le_refl _)).more hb.size) ((HLU.out.below hb (Nat.le_refl _)).more hb.size) (Nat.le_refl _)
              rw [sameT_refl] at HSM
              unfold nodeV at HSM
              have HSM := Lib.hid HSM
              have y0 := hk3.cell 0
              have y1 := hk3.cell 1
              have y2 := hk3.cell 2
              have y3 := hk3.cell 3
              have y4 := hk3.cell 4
              have y5 := hk3.cell 5
              have y6 := hk3.cell 6
              have y7 := hk3.cell 7
              have y8 := hk3.cell 8
              have z0 := hk4.cell 0
              have z1 := hk4.cell 1
              have z2 := hk4.cell 2
              have z3 := hk4.cell 3
              have z4 := hk4.cell 4
              have z5 := hk4.cell 5
              have z6 := hk4.cell 6
              have z7 := hk4.cell 7
              have z8 := hk4.cell 8
              clear hb HB2 hce hlow3 HKA HKB HLA HLU hk3 hk4
              go_wp2_with fail
              refine HSM.out.mono ?_
              rintro e W4 ⟨rfl, hb⟩
              have hlow5 := hlow4.trans (hb.mono hlow4.size)
              clear hb hlow4 y0 y1 y2 y3 y4 y5 y6 y7 y8 z0 z1 z2 z3 z4 z5 z6 z7 z8
              go_wp2_with fail
              go_roundw
              case rel => exact ⟨k + 1, by omega, by go_num, hlow5⟩
              case measure => simp [intOf]; omega
    · obtain rfl : k = nl := by omega
      have z1 : ¬ (k : Int) < k := by omega
      have hbwr := hbw11.trans (hlow.mono hbw11.size)
      go_wp2_with fail
      go_ret
      exact ⟨rfl, hbwr⟩
end Go.Proofs.YtgfeeakcpojicaaGreatDoor
