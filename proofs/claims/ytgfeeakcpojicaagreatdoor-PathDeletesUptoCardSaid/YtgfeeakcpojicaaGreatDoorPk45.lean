/- The texts DelW, put together. -/
import Derived.Test.YtgfeeakcpojicaaGreatDoorPk40
import Derived.Test.YtgfeeakcpojicaaGreatDoorPk43
import Derived.Test.YtgfeeakcpojicaaGreatDoorPk44
/- The walk of the law PathDeletes. -/
namespace Go.Proofs.YtgfeeakcpojicaaGreatDoor
open Go.RowKit Go.Shelf

set_option maxHeartbeats 8000000 in
set_option maxRecDepth 100000 in
theorem deletes_walk {aT aQ : Addr} (t0 : Tr) (vt : Value) (which : Int) (w : World) (h : PW w aT aQ) (D : Nat) (hl : ListAt w w.heap.size D t0.kids vt) (ho : OwnOk t0.own) (hc : t0.count ≤ 1048576) :
    Calls Tryz.prog 5 #[nodeV t0.own vt, .int .i64 which] w fun e w' => e = .returned (.bool true) ∧ Below w.heap.size w w' := by
  have H0 := Lib.hid (fun w h => law_shown (aT := aT) (aQ := aQ) w h)
  have HU := Lib.hid (fun (w' : World) (hw : Below w.heap.size w w') => h.below hw)
  have HF := Lib.hid (fun (w' : World) (hw : Below w.heap.size w w') => law_FewT t0 vt w' w.heap.size D (hl.below hw (Nat.le_refl _)) ho hw.size (by omega))
  have hto := few_ok ho
  have htc := few_count t0
  obtain ⟨o0, ho0⟩ : ∃ o, t0.own = o := ⟨_, rfl⟩
  rw [ho0] at HF ⊢
  generalize fewT t0 = t at HF hto htc
  have hb2 : Below w.heap.size w (w.alloc (.cells (cellsV o0 vt) 38)) := (Below.refl _ _).alloc (Nat.le_refl _) _
  have hk1 := Blk.new w (cellsV o0 vt) 38
  obtain ⟨ot, hot⟩ : ∃ o, t.own = o := ⟨_, rfl⟩
  rw [hot] at HF
  have HK1 := Lib.hid hk1
  have HH := Lib.hid (h.below hb2)
  unfold nodeV cellsV at *
  clear hl ho hc h hk1
  go_enter Tryz.func5, Tryz.ntmps5
  go_wp2_with fail
  refine (H0.out _ HH.out).mono ?_
  rintro e w1 ⟨rfl, hb1⟩
  have hb3 := hb2.trans (hb1.mono hb2.size)
  have hk1 := HK1.out.below hb1 HK1.out.lt
  have HK3 := Lib.hid hk1
  clear hb1 HK1 hk1 HH hb2
  go_wp2_with (refine wpList_load_row rfl 38 (.tmp 2) rfl w.heap.size rfl 38 _ (0, 0) _ HK3.out Tryz.underlying38 rfl (by kernel_rfl) ?_)
  refine (HF.out _ hb3).mono ?_
  rintro e w2 ⟨⟨y, rfl, hly⟩, hb⟩
  obtain ⟨_, A1, c1, rfl⟩ := hly.slice
  obtain ⟨n1, hn1⟩ : ∃ n1, t.kids.length = n1 := ⟨_, rfl⟩
  rw [hn1] at hly ⊢
  have hb4 := hb3.trans (hb.mono hb3.size)
  have hk1 := HK3.out.below hb HK3.out.lt
  have hz := hb3.size
  have hb5 := hb4.grown (grown_row w2 w.heap.size #[.int .i64 ot.kind, .bool ot.b, .bool ot.neg, .string ot.dg, .int .i64 ot.ex, .int .u64 ot.u, .int .i64 ot.wd, .string ot.s, .slice A1 n1 c1]) hb4.size (fun q e => by cases e; exact Nat.le_refl _)
  have hk3 := blk_row hk1 #[.int .i64 ot.kind, .bool ot.b, .bool ot.neg, .string ot.dg, .int .i64 ot.ex, .int .u64 ot.u, .int .i64 ot.wd, .string ot.s, .slice A1 n1 c1]
  have hw1 := HK3.out.lt
  have hly2 : ListAt (w2.setRow w.heap.size #[.int .i64 ot.kind, .bool ot.b, .bool ot.neg, .string ot.dg, .int .i64 ot.ex, .int .u64 ot.u, .int .i64 ot.wd, .string ot.s, .slice A1 n1 c1]) (w2.setRow w.heap.size #[.int .i64 ot.kind, .bool ot.b, .bool ot.neg, .string ot.dg, .int .i64 ot.ex, .int .u64 ot.u, .int .i64 ot.wd, .string ot.s, .slice A1 n1 c1]).heap.size 17 t.kids (.slice A1 n1 c1) := (hly.keep (fun q hq => setRow_other _ _ _ _ (by omega))).mono (fun q hq => by rw [setRow_size]; exact hq.2)
  have HK1 := Lib.hid hk1
  have HK5 := Lib.hid hk3
  have HL1 := Lib.hid hly2
  clear hb hb3 hb4 hk1 hk3 HK3 hly hly2 HF
  go_wp2_with (first | (refine wpList_store_row rfl 38 (.tmp 2) (.tmp 15) rfl w.heap.size #[.int .i64 ot.kind, .bool ot.b, .bool ot.neg, .string ot.dg, .int .i64 ot.ex, .int .u64 ot.u, .int .i64 ot.wd, .string ot.s, .slice A1 n1 c1] rfl rfl 38 _ HK1.out (by kernel_rfl) rfl (by simp [Value.oneCell']) ?_) | (refine wpList_load_row rfl 38 (.tmp 2) rfl w.heap.size rfl 38 _ (0, 0) _ HK5.out Tryz.underlying38 rfl (by kernel_rfl) ?_))
  obtain ⟨w5, hw5⟩ : ∃ w5, w2.setRow w.heap.size #[.int .i64 ot.kind, .bool ot.b, .bool ot.neg, .string ot.dg, .int .i64 ot.ex, .int .u64 ot.u, .int .i64 ot.wd, .string ot.s, .slice A1 n1 c1] = w5 := ⟨_, rfl⟩
  rw [hw5] at HK5 HL1 hb5 ⊢
  clear HK1 hw5 hz hw1
  have HA := path_All t (.slice A1 n1 c1) w5 w5.heap.size 17 (HU.out _ hb5).uw HL1.out (Nat.le_refl _) (by omega)
  unfold nodeV at HA
  rw [hot] at HA
  have HA := Lib.hid HA
  refine HA.out.mono ?_
  rintro e w6 ⟨⟨v, vs, rfl, hown, hrows⟩, hb⟩
  have hpos := allT_pos 16 t []
  have hle := allT_len 16 t []
  obtain ⟨all, hall⟩ : ∃ all, allT 16 t [] = all := ⟨_, rfl⟩
  have hright : ∀ q ∈ all, rightS q = true ∧ ∃ v, findT t q = some v := fun q hq => all_right (by rw [hall]; exact hq)
  have hlong : ∀ i (h : i + 1 < all.length), all[i + 1] ≠ [] := by
    intro i h
    subst hall
    exact all_long h
  rw [hall] at hown hrows hpos hle
  obtain ⟨nl, hnl⟩ : ∃ nl, all.length = nl := ⟨_, rfl⟩
  rw [hnl] at hown hpos hle
  obtain ⟨g, cap, rfl⟩ : ∃ g cap, v = .slice (some ⟨g, 0, none⟩) nl cap := by
    rcases hown.2 with ⟨_, h⟩ | ⟨g, cap, cur, h, _⟩
    · omega
    · exact ⟨g, cap, h⟩
  have hb8 := hb5.trans (hb.mono hb5.size)
  have hcells : ∀ i (hi : i < all.length), ∃ A c, w6.cell? ⟨g, i, none⟩ = some (.slice A all[i].length c) ∧ all[i].length ≤ c ∧ StepsAt w6 w6.heap.size A all[i].length all[i] := fun i hi => by
    obtain ⟨A, c, h1, h2, h3⟩ := hrows.get i hi
    obtain ⟨_, hl⟩ := Lies.own hown
    obtain ⟨ad, e, _, hcc⟩ := hl (by omega)
    cases e
    have := hcc i _ h1
    rw [addr0] at this
    exact ⟨A, c, this, h2, h3.at_ (fun q hq => hq)⟩
  have hgl := (hown.lt g rfl).2
  have hk2 := HK5.out.below hb HK5.out.lt
  have hl2 := (HL1.out.below hb (Nat.le_refl _)).more hb.size
  have HK6 := Lib.hid hk2
  have HL6 := Lib.hid hl2
  have HCE := Lib.hid hcells
  have HRI := Lib.hid hright
  have HLO := Lib.hid hlong
  have HNL := Lib.hid hnl
  have HALL := Lib.hid hall
  clear hb hb5 HK5 HL1 HA hown hrows hk2 hl2 hcells hright hlong hall hnl
  have HB8 := Lib.hid hb8
  have HRT := ref_RightT t (.slice A1 n1 c1) w6 w6.heap.size 17 HL6.out (Nat.le_refl _) hto (by omega)
  unfold nodeV at HRT
  rw [hot] at HRT
  by_cases h2 : nl < 2
  · have y2 : (nl : Int) < 2 := by omega
    clear HRT h2
    go_wp2_with fail
    go_ret
    exact ⟨rfl, HB8.out⟩
  · have y2 : ¬ (nl : Int) < 2 := by omega
    obtain ⟨rt, hrt⟩ : ∃ rt, rightT t = rt := ⟨_, rfl⟩
    rw [hrt] at HRT
    have HRT := Lib.hid HRT
    have z0 := HK6.out.cell 0
    have z1 := HK6.out.cell 1
    have z2 := HK6.out.cell 2
    have z3 := HK6.out.cell 3
    have z4 := HK6.out.cell 4
    have z5 := HK6.out.cell 5
    have z6 := HK6.out.cell 6
    have z7 := HK6.out.cell 7
    have z8 := HK6.out.cell 8
    go_wp2_with fail
    refine HRT.out.mono ?_
    rintro e w7 ⟨rfl, hb⟩
    have hb9 := HB8.out.trans (hb.mono HB8.out.size)
    clear z0 z1 z2 z3 z4 z5 z6 z7 z8
    cases rt with
    | false =>
      clear HRT h2
      go_wp2_with fail
      go_ret
      exact ⟨rfl, hb9⟩
    | true =>
      clear HRT
      obtain ⟨nm, hnm⟩ : ∃ nm, nl = nm + 1 := ⟨nl - 1, by omega⟩
      obtain ⟨j, hjl, hjw⟩ := which_wrap which nm (by omega) (by omega)
      have hjw' : wrap64 ((IntKind.u64.wrap which).tmod (nm : Int)) = (j : Int) := by rw [← IntWalk.i64_left]; exact hjw
      have hwn : IntKind.u64.wrap ((nl : Int) - 1) = (nm : Int) := by
        rw [IntKind.wrap_u64]
        omega
      have hn00 : ¬ (nm : Int) = 0 := by omega
      have hn0 : ((nm : Int) == 0) = false := by rw [beq_eq_false_iff_ne]; exact hn00
      have hjI : (1 : Int) + j < nl := by omega
      have hj0 : (0 : Int) ≤ 1 + j := by omega
      have hjt : ((1 : Int) + j).toNat = j + 1 := by omega
      have hjl' : j + 1 < all.length := by rw [HNL.out]; omega
      obtain ⟨Ap, cp, hcj6, hpc, hsp⟩ := HCE.out (j + 1) hjl'
      have hcj := (hb.cell (p := ⟨g, j + 1, none⟩) hgl).trans hcj6
      clear hcj6
      have hpm : all[j + 1] ∈ all := List.getElem_mem hjl'
      have hpne := HLO.out j hjl'
      obtain ⟨p, hp⟩ : ∃ p, all[j + 1] = p := ⟨_, rfl⟩
      rw [hp] at hcj hpc hsp hpm hpne
      obtain ⟨hpr, vp, hvp⟩ := HRI.out p hpm
      obtain ⟨p0, s, u, rfl, hu, hx⟩ := path_split hpne hvp
      have hlen := hsp.len
      have hpl : (p0 ++ [s]).length ≤ 16 := by
        unfold rightS at hpr
        rw [Bool.and_eq_true, decide_eq_true_iff] at hpr
        exact hpr.1
      obtain ⟨n, hn⟩ : ∃ n, (p0 ++ [s]).length = n := ⟨_, rfl⟩
      rw [hn] at hcj hpc hsp hpl
      obtain ⟨k, hk⟩ : ∃ k, p0.length = k := ⟨_, rfl⟩
      have hnk : n = k + 1 := by
        rw [← hn, List.length_append, hk]
        rfl
      have hkp : k < (p0 ++ [s]).length := by omega
      have hps : (p0 ++ [s])[k] = s := by
        subst hk
        exact List.getElem_concat_length rfl (by simp)
      have hfr : findR t (p0 ++ [s]) = some vp := by
        unfold findR
        rw [if_pos hpr, hvp]
      obtain ⟨hct, hrd⟩ := del_right hu hx hrt
      have hk7 := HK6.out.below hb HK6.out.lt
      have hl7 := (HL6.out.below hb (Nat.le_refl _)).more hb.size
      have hsp7 := (hsp.below hb (Nat.le_refl _)).more hb.size
      obtain ⟨ad, rfl, hadB, hc0, hc1, hc2⟩ := hsp7.at_ hkp
      rw [hps] at hc0
      have HFI := path_Find t (.slice A1 n1 c1) (some ad) n cp (p0 ++ [s]) w7 (HU.out _ hb9).uw w7.heap.size 17 hl7 hto (by omega) (by omega) hsp7 (Nat.le_refl _)
      rw [hfr] at HFI
      unfold nodeV at HFI
      rw [hot] at HFI
      have HFI := Lib.hid HFI
      have HK7 := Lib.hid hk7
      have HL7 := Lib.hid hl7
      have HS7 := Lib.hid hsp7
      have HB9 := Lib.hid hb9
      have HC0 := Lib.hid hc0
      have HPR := Lib.hid hpr
      have HU2 := Lib.hid hu
      have HX := Lib.hid hx
      have HCT := Lib.hid hct
      have HRD := Lib.hid hrd
      have HVC := Lib.hid (found_count _ _ _ hvp)
      have HNK := Lib.hid hnk
      have HNM := Lib.hid hnm
      have HHN := Lib.hid hn
      have HHK := Lib.hid hk
      clear hnk hnm hn hk hkp hb hb9 hb8 HK6 HL6 HCE HRI HLO HALL hsp hk7 hl7 hsp7 hps hc0 hc1 hc2 hpr hu hx hct hrd hpm hpne hp hvp hfr HNL hjl' hjw hlen HA HB8
      go_wp2_with (refine wpList_load_row rfl 38 (.tmp 2) rfl w.heap.size rfl 38 _ (0, 0) _ HK7.out Tryz.underlying38 rfl (by kernel_rfl) ?_)
      refine HFI.out.mono ?_
      rintro e w8 ⟨hpost, hb⟩
      obtain ⟨yf, rfl, hlf⟩ : ∃ y, e = .returned (.tuple #[nodeV vp.own y, .bool true]) ∧ ListAt w8 w8.heap.size 17 vp.kids y := hpost
      obtain ⟨_, A3, c3, rfl⟩ := hlf.slice
      obtain ⟨n3, hn3⟩ : ∃ n3, vp.kids.length = n3 := ⟨_, rfl⟩
      rw [hn3] at hlf ⊢
      obtain ⟨ox, hox⟩ : ∃ o, vp.own = o := ⟨_, rfl⟩
      unfold nodeV
      rw [hox]
      have ha : Below w8.heap.size w8 (w8.alloc (.cells #[.int .i64 ox.kind, .bool ox.b, .bool ox.neg, .string ox.dg, .int .i64 ox.ex, .int .u64 ox.u, .int .i64 ox.wd, .string ox.s, .slice A3 n3 c3] 38)) := (Below.refl _ _).alloc (Nat.le_refl _) _
      have hbb := hb.trans (ha.mono hb.size)
      have hb10 := HB9.out.trans (hbb.mono HB9.out.size)
      have hk9 := HK7.out.below hbb HK7.out.lt
      have hkx := Blk.new w8 #[.int .i64 ox.kind, .bool ox.b, .bool ox.neg, .string ox.dg, .int .i64 ox.ex, .int .u64 ox.u, .int .i64 ox.wd, .string ox.s, .slice A3 n3 c3] 38
      have hl9 := (HL7.out.below hbb (Nat.le_refl _)).more hbb.size
      have hs9 := (HS7.out.below hbb (Nat.le_refl _)).more hbb.size
      have hlx9 := (hlf.below ha (Nat.le_refl _)).more ha.size
      clear hjw' hwn hn00 hn0 hjI hj0 hjt hcj HFI y2
      go_wp2_with (refine wpList_load_row rfl 38 (.tmp 2) rfl w.heap.size rfl 38 _ (0, 0) _ hk9 Tryz.underlying38 rfl (by kernel_rfl) ?_)
      obtain ⟨w9, hw9⟩ : ∃ w9, w8.alloc (.cells #[.int .i64 ox.kind, .bool ox.b, .bool ox.neg, .string ox.dg, .int .i64 ox.ex, .int .u64 ox.u, .int .i64 ox.wd, .string ox.s, .slice A3 n3 c3] 38) = w9 := ⟨_, rfl⟩
      rw [hw9] at hk9 hkx hl9 hs9 hlx9 hb10 hbb ⊢
      have HDE := path_Delete t (.slice A1 n1 c1) (some ad) n cp p0 s u vp w9 (HU.out _ hb10).uw w9.heap.size 17 hl9 hto (by omega) hs9 hpc (Nat.le_refl _) HPR.out HU2.out HX.out
      have hct := HCT.out
      have hrd := HRD.out
      have hgn := Nat.le_trans HVC.out htc
      obtain ⟨m, hm⟩ : ∃ m, changedT (delT s) p0 t = m := ⟨_, rfl⟩
      rw [hm] at hct hrd HDE
      unfold nodeV at HDE
      rw [hot] at HDE
      have HDE' := Lib.hid HDE
      have hz8 : w8.heap.size < w9.heap.size := by
        rw [← hw9, World.size_alloc]
        exact Nat.lt_succ_self _
      have hc9 := (hbb.cell (p := ad.add (k * 2)) (by rw [add_block]; exact hadB)).trans HC0.out
      have HCT2 := Lib.hid hct
      have HRD2 := Lib.hid hrd
      have HKT := Lib.hid hk9
      have HKX := Lib.hid hkx
      have HLT := Lib.hid hl9
      have HLX := Lib.hid hlx9
      have HC9 := Lib.hid hc9
      have HAD := Lib.hid (Nat.lt_of_lt_of_le hadB hbb.size)
      have HB10 := Lib.hid hb10
      have HZ8 := Lib.hid hz8
      have hnk := HNK.out
      have hni : (0 : Int) ≤ (n : Int) - 1 := by omega
      have hni2 : (n : Int) - 1 < n := by omega
      have hnt : ((n : Int) - 1).toNat = k := by omega
      have hvc := HVC.out
      clear HDE hct hrd hw9 ha hbb hb hk9 hkx hl9 hs9 hlx9 hb10 hlf hc9 hz8 hm HCT HRD HS7 HL7 HK7 HB9 HC0 hadB hnk hpc HVC HNK
      refine HDE'.out.mono ?_
      rintro e w10 ⟨⟨y, D5, rfl, hly, hoy⟩, hb⟩
      obtain ⟨_, A5, c5, rfl⟩ := hly.slice
      obtain ⟨n5, hn5⟩ : ∃ n5, m.kids.length = n5 := ⟨_, rfl⟩
      rw [hn5] at hly ⊢
      obtain ⟨om, hom⟩ : ∃ o, m.own = o := ⟨_, rfl⟩
      rw [hom]
      have ha : Below w10.heap.size w10 (w10.alloc (.cells #[.int .i64 om.kind, .bool om.b, .bool om.neg, .string om.dg, .int .i64 om.ex, .int .u64 om.u, .int .i64 om.wd, .string om.s, .slice A5 n5 c5] 38)) := (Below.refl _ _).alloc (Nat.le_refl _) _
      have hbb := hb.trans (ha.mono hb.size)
      have hb12 := HB10.out.trans (hbb.mono HB10.out.size)
      have hkt := HKT.out.below hbb HKT.out.lt
      have hkx := HKX.out.below hbb HKX.out.lt
      have hkm := Blk.new w10 #[.int .i64 om.kind, .bool om.b, .bool om.neg, .string om.dg, .int .i64 om.ex, .int .u64 om.u, .int .i64 om.wd, .string om.s, .slice A5 n5 c5] 38
      have hlt := (HLT.out.below hbb (Nat.le_refl _)).more hbb.size
      have hlx := (HLX.out.below hbb (Nat.le_refl _)).more hbb.size
      have hlm := (hly.below ha (Nat.le_refl _)).more ha.size
      have hc0 := (hbb.cell (p := ad.add (k * 2)) (by rw [add_block]; exact HAD.out)).trans HC9.out
      obtain ⟨w11, hw11⟩ : ∃ w11, w10.alloc (.cells #[.int .i64 om.kind, .bool om.b, .bool om.neg, .string om.dg, .int .i64 om.ex, .int .u64 om.u, .int .i64 om.wd, .string om.s, .slice A5 n5 c5] 38) = w11 := ⟨_, rfl⟩
      rw [hw11] at hkt hkx hkm hlt hlx hlm hb12 hc0
      have hhad : ad.block < w11.heap.size := Nat.lt_of_lt_of_le HAD.out (by rw [← hw11]; exact hbb.size)
      have HW11 := Lib.hid hw11
      have HCO := ref_Count 17 vp (.slice A3 n3 c3) w11 w11.heap.size hlx (Nat.le_refl _) (by omega)
      obtain ⟨vc, hvce⟩ : ∃ vc, vp.count = vc := ⟨_, rfl⟩
      rw [hvce] at HCO hgn hvc
      unfold nodeV at HCO
      rw [hox] at HCO
      have HCO' := Lib.hid HCO
      have hct := HCT2.out
      rw [hvce] at hct
      have HCT := Lib.hid hct
      have HKT2 := Lib.hid hkt
      have HKX2 := Lib.hid hkx
      have HKM2 := Lib.hid hkm
      have HLT2 := Lib.hid hlt
      have HLM2 := Lib.hid hlm
      have HB12 := Lib.hid hb12
      have HC0 := Lib.hid hc0
      have HAD2 := Lib.hid hhad
      clear HCO hct hkt hkx hkm hlt hlx hlm hb12 hc0 hw11 hbb ha hb hly HKT HKX HLT HLX HB10 HC9 HAD HDE' HCT2 hhad hvce
      go_wp2_with (first | (simp only [HW11.out]; (refine wpList_load_row rfl 38 (.tmp 8) rfl w8.heap.size rfl 38 _ (0, 0) _ HKX2.out Tryz.underlying38 rfl (by kernel_rfl) ?_)) | fail)
      refine HCO'.out.mono ?_
      rintro e w12 ⟨rfl, hb⟩
      have hc0 := (hb.cell (p := ad.add (k * 2)) (by rw [add_block]; exact HAD2.out)).trans HC0.out
      have HB13 := Lib.hid (HB12.out.trans (hb.mono HB12.out.size))
      have HKT3 := Lib.hid (HKT2.out.below hb HKT2.out.lt)
      have HKM3 := Lib.hid (HKM2.out.below hb HKM2.out.lt)
      have HCT3 := Lib.hid (fun (W : World) (hW : Below w12.heap.size w12 W) => ref_Count 17 t (.slice A1 n1 c1) W w11.heap.size (HLT2.out.below (hb.trans (hW.mono hb.size)) (Nat.le_refl _)) (hb.trans (hW.mono hb.size)).size (by omega))
      have HCM3 := Lib.hid (fun (W : World) (hW : Below w12.heap.size w12 W) => ref_Count D5 m (.slice A5 n5 c5) W w11.heap.size (HLM2.out.below (hb.trans (hW.mono hb.size)) (Nat.le_refl _)) (hb.trans (hW.mono hb.size)).size (by have := HCT.out; omega))
      have HRM3 := Lib.hid (fun (W : World) (hW : Below w12.heap.size w12 W) => ref_RightT m (.slice A5 n5 c5) W w11.heap.size D5 (HLM2.out.below (hb.trans (hW.mono hb.size)) (Nat.le_refl _)) (hb.trans (hW.mono hb.size)).size hoy (by have := HCT.out; omega))
      have hct := HCT.out
      have hrd := HRD2.out
      obtain ⟨tc, htce⟩ : ∃ tc, t.count = tc := ⟨_, rfl⟩
      obtain ⟨mc, hmce⟩ : ∃ mc, m.count = mc := ⟨_, rfl⟩
      simp only [htce] at HCT3 hct htc hvc
      simp only [hmce] at HCM3 hct
      simp only [hrd] at HRM3
      unfold nodeV at HCT3 HCM3 HRM3
      rw [hot] at HCT3
      rw [hom] at HCM3 HRM3
      have HSUM := Lib.hid hct
      clear hb HCO' HKX2 HC0 HAD2 HLT2 HLM2 HB12 hct hrd HCT HRD2 htce hmce HKT2 HKM2
      by_cases hneg : s.1 < 0
      · have HS := Lib.hid (show mc + (vc + 1) = tc by have := HSUM.out; rwa [if_pos hneg] at this)
        clear HSUM
        go_wp2_with fail
        obtain ⟨gn, hge⟩ : ∃ gn : Int, (vc : Int) + 1 = gn := ⟨_, rfl⟩
        rw [hge]
        have hsub3 : (tc : Int) - gn = mc := by
          have := HS.out
          omega
        have hwm : IntKind.i64.wrap (mc : Int) = mc := (IntWalk.i64_left _).trans (wrap_nat mc (by have := HS.out; omega))
        clear HS hge hc0 hnt hni hni2 hneg
        refine wp_region_tail (R := fun W W' => Below W.heap.size W W') 21 (by kernel_rfl) (by kernel_rfl) (fun _ => Below.refl _ _) (by kernel_rfl) (by kernel_rfl) (fun W => Below w12.heap.size w12 W)
          [fun v _ => v = .bool true, fun v _ => v = .bool true, fun v _ => v = .bool true, fun v _ => v = .bool true, fun v _ => v = .bool true, fun v _ => v = .int .i64 0, fun v _ => v = .bool true, fun v _ => v = .bool true, fun v _ => v = .bool true, fun v _ => v = .agg #[.int .i64 om.kind, .bool om.b, .bool om.neg, .string om.dg, .int .i64 om.ex, .int .u64 om.u, .int .i64 om.wd, .string om.s, .slice A5 n5 c5], fun v _ => v = .int .i64 mc, fun v _ => v = .agg #[.int .i64 ot.kind, .bool ot.b, .bool ot.neg, .string ot.dg, .int .i64 ot.ex, .int .u64 ot.u, .int .i64 ot.wd, .string ot.s, .slice A1 n1 c1], fun v _ => v = .int .i64 tc, fun v _ => v = .int .i64 gn, fun v _ => v = .int .i64 mc, fun v _ => v = .bool true, fun v _ => v = .bool true, fun v _ => v = .bool true, fun v _ => v = .agg #[.int .i64 om.kind, .bool om.b, .bool om.neg, .string om.dg, .int .i64 om.ex, .int .u64 om.u, .int .i64 om.wd, .string om.s, .slice A5 n5 c5], fun v _ => v = .bool true, fun v _ => v = .bool true] ?_ ?_ ?_ ?_ ?_
        case refine_1 => exact (Below.refl _ _).drew
        case refine_2 => exact fun W W' he hr => he.trans (hr.mono he.size)
        case refine_3 =>
          intro q hq v W W' _ hv hr
          simp only [List.mem_cons, List.not_mem_nil, or_false] at hq
          rcases hq with rfl | rfl | rfl | rfl | rfl | rfl | rfl | rfl | rfl | rfl | rfl | rfl | rfl | rfl | rfl | rfl | rfl | rfl | rfl | rfl | rfl <;> exact hv
        case refine_4 =>
          refine flow_cons (flow_op rfl rfl (by kernel_rfl) (by kernel_rfl) ?_) ?_
          · intro env W hE hn ρ hρ hc hf hg K hK
            have r5 : ρ (.tmp 5) = .bool true := by rw [hρ]; kernel_rfl
            clear hρ hn hg
            simp [opLands, go_sem, r5]
            exact hK _ _ rfl (Below.refl _ _)
          refine flow_cons (flow_op rfl rfl (by kernel_rfl) (by kernel_rfl) ?_) ?_
          · intro env W hE hn ρ hρ hc hf hg K hK
            have r63 := (show ρ (.tmp 63) = env 0 by rw [hρ]; kernel_rfl).trans (hn 0 (by kernel_rfl))
            clear hρ hn hg
            simp [opLands, go_sem, r63]
            exact hK _ _ rfl (Below.refl _ _)
          refine flow_cons (flow_opY 1 true 64 rfl rfl rfl (by kernel_rfl) (by kernel_rfl) ?_ ?_) ?_
          · intro env W hE hn ρ hρ
            exact (show ρ (.tmp 64) = env 1 by rw [hρ]; kernel_rfl).trans (hn 1 (by kernel_rfl))
          · intro env W hE hn ρ hρ hc hf hg K hK
            have r9 : ρ (.tmp 9) = .bool true := by rw [hρ]; kernel_rfl
            clear hρ hn hg
            simp [opLands, go_sem, r9]
            exact hK _ _ rfl (Below.refl _ _)
          refine flow_cons (flow_op rfl rfl (by kernel_rfl) (by kernel_rfl) ?_) ?_
          · intro env W hE hn ρ hρ hc hf hg K hK
            have r64 := (show ρ (.tmp 64) = env 1 by rw [hρ]; kernel_rfl).trans (hn 1 (by kernel_rfl))
            have r65 := (show ρ (.tmp 65) = env 2 by rw [hρ]; kernel_rfl).trans (hn 2 (by kernel_rfl))
            clear hρ hn hg
            simp [opLands, go_sem, hc, r64, r65]
            exact hK _ _ rfl (Below.refl _ _)
          refine flow_cons (flow_op rfl rfl (by kernel_rfl) (by kernel_rfl) ?_) ?_
          · intro env W hE hn ρ hρ hc hf hg K hK
            have r66 := (show ρ (.tmp 66) = env 3 by rw [hρ]; kernel_rfl).trans (hn 3 (by kernel_rfl))
            clear hρ hn hg
            simp [opLands, go_sem, r66]
            exact hK _ _ rfl (Below.refl _ _)
          refine flow_cons (flow_opY 4 true 67 rfl rfl rfl (by kernel_rfl) (by kernel_rfl) ?_ ?_) ?_
          · intro env W hE hn ρ hρ
            exact (show ρ (.tmp 67) = env 4 by rw [hρ]; kernel_rfl).trans (hn 4 (by kernel_rfl))
          · intro env W hE hn ρ hρ hc hf hg K hK
            have r11 : ρ (.tmp 11) = .int .i64 0 := by rw [hρ]; kernel_rfl
            clear hρ hn hg
            simp [opLands, go_sem, r11]
            exact hK _ _ rfl (Below.refl _ _)
          refine flow_cons (flow_opY 4 true 67 rfl rfl rfl (by kernel_rfl) (by kernel_rfl) ?_ ?_) ?_
          · intro env W hE hn ρ hρ
            exact (show ρ (.tmp 67) = env 4 by rw [hρ]; kernel_rfl).trans (hn 4 (by kernel_rfl))
          · intro env W hE hn ρ hρ hc hf hg K hK
            have r68 := (show ρ (.tmp 68) = env 5 by rw [hρ]; kernel_rfl).trans (hn 5 (by kernel_rfl))
            clear hρ hn hg
            simp [opLands, go_sem, hc, r68]
            exact hK _ _ rfl (Below.refl _ _)
          refine flow_cons (flow_op rfl rfl (by kernel_rfl) (by kernel_rfl) ?_) ?_
          · intro env W hE hn ρ hρ hc hf hg K hK
            have r67 := (show ρ (.tmp 67) = env 4 by rw [hρ]; kernel_rfl).trans (hn 4 (by kernel_rfl))
            have r69 := (show ρ (.tmp 69) = env 6 by rw [hρ]; kernel_rfl).trans (hn 6 (by kernel_rfl))
            clear hρ hn hg
            simp [opLands, go_sem, hc, r67, r69]
            exact hK _ _ rfl (Below.refl _ _)
          refine flow_cons (flow_op rfl rfl (by kernel_rfl) (by kernel_rfl) ?_) ?_
          · intro env W hE hn ρ hρ hc hf hg K hK
            have r70 := (show ρ (.tmp 70) = env 7 by rw [hρ]; kernel_rfl).trans (hn 7 (by kernel_rfl))
            clear hρ hn hg
            simp [opLands, go_sem, r70]
            exact hK _ _ rfl (Below.refl _ _)
          refine flow_cons (flow_opY 8 true 71 rfl rfl rfl (by kernel_rfl) (by kernel_rfl) ?_ ?_) ?_
          · intro env W hE hn ρ hρ
            exact (show ρ (.tmp 71) = env 8 by rw [hρ]; kernel_rfl).trans (hn 8 (by kernel_rfl))
          · intro env W hE hn ρ hρ hc hf hg K hK
            have r10 : ρ (.tmp 10) = .pointer (some ⟨w10.heap.size, 0, none⟩) := by rw [hρ]; kernel_rfl
            clear hρ hn hg
            exact lands_load_row 38 (.tmp 10) rfl w10.heap.size r10 38 _ (0, 0) _ (HKM3.out.below hE HKM3.out.lt) Tryz.underlying38 rfl (by kernel_rfl) (hK _ _ rfl (Below.refl _ _))
          refine flow_cons (flow_opY 8 true 71 rfl rfl rfl (by kernel_rfl) (by kernel_rfl) ?_ ?_) ?_
          · intro env W hE hn ρ hρ
            exact (show ρ (.tmp 71) = env 8 by rw [hρ]; kernel_rfl).trans (hn 8 (by kernel_rfl))
          · intro env W hE hn ρ hρ hc hf hg K hK
            have r72 := (show ρ (.tmp 72) = env 9 by rw [hρ]; kernel_rfl).trans (hn 9 (by kernel_rfl))
            clear hρ hn hg
            refine lands_call rfl (by kernel_rfl) hf ?_
            rw [show #[Operand.tmp 72].map ρ = #[.agg #[.int .i64 om.kind, .bool om.b, .bool om.neg, .string om.dg, .int .i64 om.ex, .int .u64 om.u, .int .i64 om.wd, .string om.s, .slice A5 n5 c5]] by simp [r72]]
            refine (HCM3.out W hE).mono ?_
            rintro e W' ⟨rfl, hb⟩
            exact ⟨_, rfl, hK _ _ rfl hb⟩
          refine flow_cons (flow_opY 8 true 71 rfl rfl rfl (by kernel_rfl) (by kernel_rfl) ?_ ?_) ?_
          · intro env W hE hn ρ hρ
            exact (show ρ (.tmp 71) = env 8 by rw [hρ]; kernel_rfl).trans (hn 8 (by kernel_rfl))
          · intro env W hE hn ρ hρ hc hf hg K hK
            have r2 : ρ (.tmp 2) = .pointer (some ⟨w.heap.size, 0, none⟩) := by rw [hρ]; kernel_rfl
            clear hρ hn hg
            exact lands_load_row 38 (.tmp 2) rfl w.heap.size r2 38 _ (0, 0) _ (HKT3.out.below hE HKT3.out.lt) Tryz.underlying38 rfl (by kernel_rfl) (hK _ _ rfl (Below.refl _ _))
          refine flow_cons (flow_opY 8 true 71 rfl rfl rfl (by kernel_rfl) (by kernel_rfl) ?_ ?_) ?_
          · intro env W hE hn ρ hρ
            exact (show ρ (.tmp 71) = env 8 by rw [hρ]; kernel_rfl).trans (hn 8 (by kernel_rfl))
          · intro env W hE hn ρ hρ hc hf hg K hK
            have r74 := (show ρ (.tmp 74) = env 11 by rw [hρ]; kernel_rfl).trans (hn 11 (by kernel_rfl))
            clear hρ hn hg
            refine lands_call rfl (by kernel_rfl) hf ?_
            rw [show #[Operand.tmp 74].map ρ = #[.agg #[.int .i64 ot.kind, .bool ot.b, .bool ot.neg, .string ot.dg, .int .i64 ot.ex, .int .u64 ot.u, .int .i64 ot.wd, .string ot.s, .slice A1 n1 c1]] by simp [r74]]
            refine (HCT3.out W hE).mono ?_
            rintro e W' ⟨rfl, hb⟩
            exact ⟨_, rfl, hK _ _ rfl hb⟩
          refine flow_cons (flow_opY 8 true 71 rfl rfl rfl (by kernel_rfl) (by kernel_rfl) ?_ ?_) ?_
          · intro env W hE hn ρ hρ
            exact (show ρ (.tmp 71) = env 8 by rw [hρ]; kernel_rfl).trans (hn 8 (by kernel_rfl))
          · intro env W hE hn ρ hρ hc hf hg K hK
            have r12 : ρ (.tmp 12) = .int .i64 gn := by rw [hρ]; kernel_rfl
            clear hρ hn hg
            simp [opLands, go_sem, r12]
            exact hK _ _ rfl (Below.refl _ _)
          refine flow_cons (flow_opY 8 true 71 rfl rfl rfl (by kernel_rfl) (by kernel_rfl) ?_ ?_) ?_
          · intro env W hE hn ρ hρ
            exact (show ρ (.tmp 71) = env 8 by rw [hρ]; kernel_rfl).trans (hn 8 (by kernel_rfl))
          · intro env W hE hn ρ hρ hc hf hg K hK
            have r75 := (show ρ (.tmp 75) = env 12 by rw [hρ]; kernel_rfl).trans (hn 12 (by kernel_rfl))
            have r76 := (show ρ (.tmp 76) = env 13 by rw [hρ]; kernel_rfl).trans (hn 13 (by kernel_rfl))
            clear hρ hn hg
            simp [opLands, go_sem, r75, r76, hsub3, hwm]
            exact hK _ _ rfl (Below.refl _ _)
          refine flow_cons (flow_opY 8 true 71 rfl rfl rfl (by kernel_rfl) (by kernel_rfl) ?_ ?_) ?_
          · intro env W hE hn ρ hρ
            exact (show ρ (.tmp 71) = env 8 by rw [hρ]; kernel_rfl).trans (hn 8 (by kernel_rfl))
          · intro env W hE hn ρ hρ hc hf hg K hK
            have r73 := (show ρ (.tmp 73) = env 10 by rw [hρ]; kernel_rfl).trans (hn 10 (by kernel_rfl))
            have r77 := (show ρ (.tmp 77) = env 14 by rw [hρ]; kernel_rfl).trans (hn 14 (by kernel_rfl))
            clear hρ hn hg
            simp [opLands, go_sem, r73, r77]
            exact hK _ _ rfl (Below.refl _ _)
          refine flow_cons (flow_op rfl rfl (by kernel_rfl) (by kernel_rfl) ?_) ?_
          · intro env W hE hn ρ hρ hc hf hg K hK
            have r71 := (show ρ (.tmp 71) = env 8 by rw [hρ]; kernel_rfl).trans (hn 8 (by kernel_rfl))
            have r78 := (show ρ (.tmp 78) = env 15 by rw [hρ]; kernel_rfl).trans (hn 15 (by kernel_rfl))
            clear hρ hn hg
            simp [opLands, go_sem, hc, r71, r78]
            exact hK _ _ rfl (Below.refl _ _)
          refine flow_cons (flow_op rfl rfl (by kernel_rfl) (by kernel_rfl) ?_) ?_
          · intro env W hE hn ρ hρ hc hf hg K hK
            have r79 := (show ρ (.tmp 79) = env 16 by rw [hρ]; kernel_rfl).trans (hn 16 (by kernel_rfl))
            clear hρ hn hg
            simp [opLands, go_sem, r79]
            exact hK _ _ rfl (Below.refl _ _)
          refine flow_cons (flow_opY 17 true 80 rfl rfl rfl (by kernel_rfl) (by kernel_rfl) ?_ ?_) ?_
          · intro env W hE hn ρ hρ
            exact (show ρ (.tmp 80) = env 17 by rw [hρ]; kernel_rfl).trans (hn 17 (by kernel_rfl))
          · intro env W hE hn ρ hρ hc hf hg K hK
            have r10 : ρ (.tmp 10) = .pointer (some ⟨w10.heap.size, 0, none⟩) := by rw [hρ]; kernel_rfl
            clear hρ hn hg
            exact lands_load_row 38 (.tmp 10) rfl w10.heap.size r10 38 _ (0, 0) _ (HKM3.out.below hE HKM3.out.lt) Tryz.underlying38 rfl (by kernel_rfl) (hK _ _ rfl (Below.refl _ _))
          refine flow_cons (flow_opY 17 true 80 rfl rfl rfl (by kernel_rfl) (by kernel_rfl) ?_ ?_) ?_
          · intro env W hE hn ρ hρ
            exact (show ρ (.tmp 80) = env 17 by rw [hρ]; kernel_rfl).trans (hn 17 (by kernel_rfl))
          · intro env W hE hn ρ hρ hc hf hg K hK
            have r81 := (show ρ (.tmp 81) = env 18 by rw [hρ]; kernel_rfl).trans (hn 18 (by kernel_rfl))
            clear hρ hn hg
            refine lands_call rfl (by kernel_rfl) hf ?_
            rw [show #[Operand.tmp 81].map ρ = #[.agg #[.int .i64 om.kind, .bool om.b, .bool om.neg, .string om.dg, .int .i64 om.ex, .int .u64 om.u, .int .i64 om.wd, .string om.s, .slice A5 n5 c5]] by simp [r81]]
            refine (HRM3.out W hE).mono ?_
            rintro e W' ⟨rfl, hb⟩
            exact ⟨_, rfl, hK _ _ rfl hb⟩
          refine flow_cons (flow_op rfl rfl (by kernel_rfl) (by kernel_rfl) ?_) flow_nil
          · intro env W hE hn ρ hρ hc hf hg K hK
            have r80 := (show ρ (.tmp 80) = env 17 by rw [hρ]; kernel_rfl).trans (hn 17 (by kernel_rfl))
            have r82 := (show ρ (.tmp 82) = env 19 by rw [hρ]; kernel_rfl).trans (hn 19 (by kernel_rfl))
            clear hρ hn hg
            simp [opLands, go_sem, hc, r80, r82]
            exact hK _ _ rfl (Below.refl _ _)
        case refine_5 =>
          intro env W hE hn
          have e20 : env 20 = .bool true := hn 20 (by decide)
          clear hn
          simp only [List.take_succ_cons, List.take_zero, List.drop_succ_cons, List.drop_zero, frameAll, e20]
          go_simp
          clear e20
          have hbE := HB13.out.trans (hE.mono HB13.out.size)
          clear hE
          go_wp2_with fail
          go_ret
          exact ⟨rfl, hbE⟩
      · have HS := Lib.hid (show mc + vc = tc by have := HSUM.out; rwa [if_neg hneg] at this)
        clear HSUM
        go_wp2_with fail
        obtain ⟨gn, hge⟩ : ∃ gn : Int, (vc : Int) = gn := ⟨_, rfl⟩
        rw [hge]
        have hsub3 : (tc : Int) - gn = mc := by
          have := HS.out
          omega
        have hwm : IntKind.i64.wrap (mc : Int) = mc := (IntWalk.i64_left _).trans (wrap_nat mc (by have := HS.out; omega))
        clear HS hge hc0 hnt hni hni2 hneg
        refine wp_region_tail (R := fun W W' => Below W.heap.size W W') 21 (by kernel_rfl) (by kernel_rfl) (fun _ => Below.refl _ _) (by kernel_rfl) (by kernel_rfl) (fun W => Below w12.heap.size w12 W)
          [fun v _ => v = .bool true, fun v _ => v = .bool true, fun v _ => v = .bool true, fun v _ => v = .bool true, fun v _ => v = .bool true, fun v _ => v = .int .i64 0, fun v _ => v = .bool true, fun v _ => v = .bool true, fun v _ => v = .bool true, fun v _ => v = .agg #[.int .i64 om.kind, .bool om.b, .bool om.neg, .string om.dg, .int .i64 om.ex, .int .u64 om.u, .int .i64 om.wd, .string om.s, .slice A5 n5 c5], fun v _ => v = .int .i64 mc, fun v _ => v = .agg #[.int .i64 ot.kind, .bool ot.b, .bool ot.neg, .string ot.dg, .int .i64 ot.ex, .int .u64 ot.u, .int .i64 ot.wd, .string ot.s, .slice A1 n1 c1], fun v _ => v = .int .i64 tc, fun v _ => v = .int .i64 gn, fun v _ => v = .int .i64 mc, fun v _ => v = .bool true, fun v _ => v = .bool true, fun v _ => v = .bool true, fun v _ => v = .agg #[.int .i64 om.kind, .bool om.b, .bool om.neg, .string om.dg, .int .i64 om.ex, .int .u64 om.u, .int .i64 om.wd, .string om.s, .slice A5 n5 c5], fun v _ => v = .bool true, fun v _ => v = .bool true] ?_ ?_ ?_ ?_ ?_
        case refine_1 => exact (Below.refl _ _).drew
        case refine_2 => exact fun W W' he hr => he.trans (hr.mono he.size)
        case refine_3 =>
          intro q hq v W W' _ hv hr
          simp only [List.mem_cons, List.not_mem_nil, or_false] at hq
          rcases hq with rfl | rfl | rfl | rfl | rfl | rfl | rfl | rfl | rfl | rfl | rfl | rfl | rfl | rfl | rfl | rfl | rfl | rfl | rfl | rfl | rfl <;> exact hv
        case refine_4 =>
          refine flow_cons (flow_op rfl rfl (by kernel_rfl) (by kernel_rfl) ?_) ?_
          · intro env W hE hn ρ hρ hc hf hg K hK
            have r5 : ρ (.tmp 5) = .bool true := by rw [hρ]; kernel_rfl
            clear hρ hn hg
            simp [opLands, go_sem, r5]
            exact hK _ _ rfl (Below.refl _ _)
          refine flow_cons (flow_op rfl rfl (by kernel_rfl) (by kernel_rfl) ?_) ?_
          · intro env W hE hn ρ hρ hc hf hg K hK
            have r63 := (show ρ (.tmp 63) = env 0 by rw [hρ]; kernel_rfl).trans (hn 0 (by kernel_rfl))
            clear hρ hn hg
            simp [opLands, go_sem, r63]
            exact hK _ _ rfl (Below.refl _ _)
          refine flow_cons (flow_opY 1 true 64 rfl rfl rfl (by kernel_rfl) (by kernel_rfl) ?_ ?_) ?_
          · intro env W hE hn ρ hρ
            exact (show ρ (.tmp 64) = env 1 by rw [hρ]; kernel_rfl).trans (hn 1 (by kernel_rfl))
          · intro env W hE hn ρ hρ hc hf hg K hK
            have r9 : ρ (.tmp 9) = .bool true := by rw [hρ]; kernel_rfl
            clear hρ hn hg
            simp [opLands, go_sem, r9]
            exact hK _ _ rfl (Below.refl _ _)
          refine flow_cons (flow_op rfl rfl (by kernel_rfl) (by kernel_rfl) ?_) ?_
          · intro env W hE hn ρ hρ hc hf hg K hK
            have r64 := (show ρ (.tmp 64) = env 1 by rw [hρ]; kernel_rfl).trans (hn 1 (by kernel_rfl))
            have r65 := (show ρ (.tmp 65) = env 2 by rw [hρ]; kernel_rfl).trans (hn 2 (by kernel_rfl))
            clear hρ hn hg
            simp [opLands, go_sem, hc, r64, r65]
            exact hK _ _ rfl (Below.refl _ _)
          refine flow_cons (flow_op rfl rfl (by kernel_rfl) (by kernel_rfl) ?_) ?_
          · intro env W hE hn ρ hρ hc hf hg K hK
            have r66 := (show ρ (.tmp 66) = env 3 by rw [hρ]; kernel_rfl).trans (hn 3 (by kernel_rfl))
            clear hρ hn hg
            simp [opLands, go_sem, r66]
            exact hK _ _ rfl (Below.refl _ _)
          refine flow_cons (flow_opY 4 true 67 rfl rfl rfl (by kernel_rfl) (by kernel_rfl) ?_ ?_) ?_
          · intro env W hE hn ρ hρ
            exact (show ρ (.tmp 67) = env 4 by rw [hρ]; kernel_rfl).trans (hn 4 (by kernel_rfl))
          · intro env W hE hn ρ hρ hc hf hg K hK
            have r11 : ρ (.tmp 11) = .int .i64 0 := by rw [hρ]; kernel_rfl
            clear hρ hn hg
            simp [opLands, go_sem, r11]
            exact hK _ _ rfl (Below.refl _ _)
          refine flow_cons (flow_opY 4 true 67 rfl rfl rfl (by kernel_rfl) (by kernel_rfl) ?_ ?_) ?_
          · intro env W hE hn ρ hρ
            exact (show ρ (.tmp 67) = env 4 by rw [hρ]; kernel_rfl).trans (hn 4 (by kernel_rfl))
          · intro env W hE hn ρ hρ hc hf hg K hK
            have r68 := (show ρ (.tmp 68) = env 5 by rw [hρ]; kernel_rfl).trans (hn 5 (by kernel_rfl))
            clear hρ hn hg
            simp [opLands, go_sem, hc, r68]
            exact hK _ _ rfl (Below.refl _ _)
          refine flow_cons (flow_op rfl rfl (by kernel_rfl) (by kernel_rfl) ?_) ?_
          · intro env W hE hn ρ hρ hc hf hg K hK
            have r67 := (show ρ (.tmp 67) = env 4 by rw [hρ]; kernel_rfl).trans (hn 4 (by kernel_rfl))
            have r69 := (show ρ (.tmp 69) = env 6 by rw [hρ]; kernel_rfl).trans (hn 6 (by kernel_rfl))
            clear hρ hn hg
            simp [opLands, go_sem, hc, r67, r69]
            exact hK _ _ rfl (Below.refl _ _)
          refine flow_cons (flow_op rfl rfl (by kernel_rfl) (by kernel_rfl) ?_) ?_
          · intro env W hE hn ρ hρ hc hf hg K hK
            have r70 := (show ρ (.tmp 70) = env 7 by rw [hρ]; kernel_rfl).trans (hn 7 (by kernel_rfl))
            clear hρ hn hg
            simp [opLands, go_sem, r70]
            exact hK _ _ rfl (Below.refl _ _)
          refine flow_cons (flow_opY 8 true 71 rfl rfl rfl (by kernel_rfl) (by kernel_rfl) ?_ ?_) ?_
          · intro env W hE hn ρ hρ
            exact (show ρ (.tmp 71) = env 8 by rw [hρ]; kernel_rfl).trans (hn 8 (by kernel_rfl))
          · intro env W hE hn ρ hρ hc hf hg K hK
            have r10 : ρ (.tmp 10) = .pointer (some ⟨w10.heap.size, 0, none⟩) := by rw [hρ]; kernel_rfl
            clear hρ hn hg
            exact lands_load_row 38 (.tmp 10) rfl w10.heap.size r10 38 _ (0, 0) _ (HKM3.out.below hE HKM3.out.lt) Tryz.underlying38 rfl (by kernel_rfl) (hK _ _ rfl (Below.refl _ _))
          refine flow_cons (flow_opY 8 true 71 rfl rfl rfl (by kernel_rfl) (by kernel_rfl) ?_ ?_) ?_
          · intro env W hE hn ρ hρ
            exact (show ρ (.tmp 71) = env 8 by rw [hρ]; kernel_rfl).trans (hn 8 (by kernel_rfl))
          · intro env W hE hn ρ hρ hc hf hg K hK
            have r72 := (show ρ (.tmp 72) = env 9 by rw [hρ]; kernel_rfl).trans (hn 9 (by kernel_rfl))
            clear hρ hn hg
            refine lands_call rfl (by kernel_rfl) hf ?_
            rw [show #[Operand.tmp 72].map ρ = #[.agg #[.int .i64 om.kind, .bool om.b, .bool om.neg, .string om.dg, .int .i64 om.ex, .int .u64 om.u, .int .i64 om.wd, .string om.s, .slice A5 n5 c5]] by simp [r72]]
            refine (HCM3.out W hE).mono ?_
            rintro e W' ⟨rfl, hb⟩
            exact ⟨_, rfl, hK _ _ rfl hb⟩
          refine flow_cons (flow_opY 8 true 71 rfl rfl rfl (by kernel_rfl) (by kernel_rfl) ?_ ?_) ?_
          · intro env W hE hn ρ hρ
            exact (show ρ (.tmp 71) = env 8 by rw [hρ]; kernel_rfl).trans (hn 8 (by kernel_rfl))
          · intro env W hE hn ρ hρ hc hf hg K hK
            have r2 : ρ (.tmp 2) = .pointer (some ⟨w.heap.size, 0, none⟩) := by rw [hρ]; kernel_rfl
            clear hρ hn hg
            exact lands_load_row 38 (.tmp 2) rfl w.heap.size r2 38 _ (0, 0) _ (HKT3.out.below hE HKT3.out.lt) Tryz.underlying38 rfl (by kernel_rfl) (hK _ _ rfl (Below.refl _ _))
          refine flow_cons (flow_opY 8 true 71 rfl rfl rfl (by kernel_rfl) (by kernel_rfl) ?_ ?_) ?_
          · intro env W hE hn ρ hρ
            exact (show ρ (.tmp 71) = env 8 by rw [hρ]; kernel_rfl).trans (hn 8 (by kernel_rfl))
          · intro env W hE hn ρ hρ hc hf hg K hK
            have r74 := (show ρ (.tmp 74) = env 11 by rw [hρ]; kernel_rfl).trans (hn 11 (by kernel_rfl))
            clear hρ hn hg
            refine lands_call rfl (by kernel_rfl) hf ?_
            rw [show #[Operand.tmp 74].map ρ = #[.agg #[.int .i64 ot.kind, .bool ot.b, .bool ot.neg, .string ot.dg, .int .i64 ot.ex, .int .u64 ot.u, .int .i64 ot.wd, .string ot.s, .slice A1 n1 c1]] by simp [r74]]
            refine (HCT3.out W hE).mono ?_
            rintro e W' ⟨rfl, hb⟩
            exact ⟨_, rfl, hK _ _ rfl hb⟩
          refine flow_cons (flow_opY 8 true 71 rfl rfl rfl (by kernel_rfl) (by kernel_rfl) ?_ ?_) ?_
          · intro env W hE hn ρ hρ
            exact (show ρ (.tmp 71) = env 8 by rw [hρ]; kernel_rfl).trans (hn 8 (by kernel_rfl))
          · intro env W hE hn ρ hρ hc hf hg K hK
            have r12 : ρ (.tmp 12) = .int .i64 gn := by rw [hρ]; kernel_rfl
            clear hρ hn hg
            simp [opLands, go_sem, r12]
            exact hK _ _ rfl (Below.refl _ _)
          refine flow_cons (flow_opY 8 true 71 rfl rfl rfl (by kernel_rfl) (by kernel_rfl) ?_ ?_) ?_
          · intro env W hE hn ρ hρ
            exact (show ρ (.tmp 71) = env 8 by rw [hρ]; kernel_rfl).trans (hn 8 (by kernel_rfl))
          · intro env W hE hn ρ hρ hc hf hg K hK
            have r75 := (show ρ (.tmp 75) = env 12 by rw [hρ]; kernel_rfl).trans (hn 12 (by kernel_rfl))
            have r76 := (show ρ (.tmp 76) = env 13 by rw [hρ]; kernel_rfl).trans (hn 13 (by kernel_rfl))
            clear hρ hn hg
            simp [opLands, go_sem, r75, r76, hsub3, hwm]
            exact hK _ _ rfl (Below.refl _ _)
          refine flow_cons (flow_opY 8 true 71 rfl rfl rfl (by kernel_rfl) (by kernel_rfl) ?_ ?_) ?_
          · intro env W hE hn ρ hρ
            exact (show ρ (.tmp 71) = env 8 by rw [hρ]; kernel_rfl).trans (hn 8 (by kernel_rfl))
          · intro env W hE hn ρ hρ hc hf hg K hK
            have r73 := (show ρ (.tmp 73) = env 10 by rw [hρ]; kernel_rfl).trans (hn 10 (by kernel_rfl))
            have r77 := (show ρ (.tmp 77) = env 14 by rw [hρ]; kernel_rfl).trans (hn 14 (by kernel_rfl))
            clear hρ hn hg
            simp [opLands, go_sem, r73, r77]
            exact hK _ _ rfl (Below.refl _ _)
          refine flow_cons (flow_op rfl rfl (by kernel_rfl) (by kernel_rfl) ?_) ?_
          · intro env W hE hn ρ hρ hc hf hg K hK
            have r71 := (show ρ (.tmp 71) = env 8 by rw [hρ]; kernel_rfl).trans (hn 8 (by kernel_rfl))
            have r78 := (show ρ (.tmp 78) = env 15 by rw [hρ]; kernel_rfl).trans (hn 15 (by kernel_rfl))
            clear hρ hn hg
            simp [opLands, go_sem, hc, r71, r78]
            exact hK _ _ rfl (Below.refl _ _)
          refine flow_cons (flow_op rfl rfl (by kernel_rfl) (by kernel_rfl) ?_) ?_
          · intro env W hE hn ρ hρ hc hf hg K hK
            have r79 := (show ρ (.tmp 79) = env 16 by rw [hρ]; kernel_rfl).trans (hn 16 (by kernel_rfl))
            clear hρ hn hg
            simp [opLands, go_sem, r79]
            exact hK _ _ rfl (Below.refl _ _)
          refine flow_cons (flow_opY 17 true 80 rfl rfl rfl (by kernel_rfl) (by kernel_rfl) ?_ ?_) ?_
          · intro env W hE hn ρ hρ
            exact (show ρ (.tmp 80) = env 17 by rw [hρ]; kernel_rfl).trans (hn 17 (by kernel_rfl))
          · intro env W hE hn ρ hρ hc hf hg K hK
            have r10 : ρ (.tmp 10) = .pointer (some ⟨w10.heap.size, 0, none⟩) := by rw [hρ]; kernel_rfl
            clear hρ hn hg
            exact lands_load_row 38 (.tmp 10) rfl w10.heap.size r10 38 _ (0, 0) _ (HKM3.out.below hE HKM3.out.lt) Tryz.underlying38 rfl (by kernel_rfl) (hK _ _ rfl (Below.refl _ _))
          refine flow_cons (flow_opY 17 true 80 rfl rfl rfl (by kernel_rfl) (by kernel_rfl) ?_ ?_) ?_
          · intro env W hE hn ρ hρ
            exact (show ρ (.tmp 80) = env 17 by rw [hρ]; kernel_rfl).trans (hn 17 (by kernel_rfl))
          · intro env W hE hn ρ hρ hc hf hg K hK
            have r81 := (show ρ (.tmp 81) = env 18 by rw [hρ]; kernel_rfl).trans (hn 18 (by kernel_rfl))
            clear hρ hn hg
            refine lands_call rfl (by kernel_rfl) hf ?_
            rw [show #[Operand.tmp 81].map ρ = #[.agg #[.int .i64 om.kind, .bool om.b, .bool om.neg, .string om.dg, .int .i64 om.ex, .int .u64 om.u, .int .i64 om.wd, .string om.s, .slice A5 n5 c5]] by simp [r81]]
            refine (HRM3.out W hE).mono ?_
            rintro e W' ⟨rfl, hb⟩
            exact ⟨_, rfl, hK _ _ rfl hb⟩
          refine flow_cons (flow_op rfl rfl (by kernel_rfl) (by kernel_rfl) ?_) flow_nil
          · intro env W hE hn ρ hρ hc hf hg K hK
            have r80 := (show ρ (.tmp 80) = env 17 by rw [hρ]; kernel_rfl).trans (hn 17 (by kernel_rfl))
            have r82 := (show ρ (.tmp 82) = env 19 by rw [hρ]; kernel_rfl).trans (hn 19 (by kernel_rfl))
            clear hρ hn hg
            simp [opLands, go_sem, hc, r80, r82]
            exact hK _ _ rfl (Below.refl _ _)
        case refine_5 =>
          intro env W hE hn
          have e20 : env 20 = .bool true := hn 20 (by decide)
          clear hn
          simp only [List.take_succ_cons, List.take_zero, List.drop_succ_cons, List.drop_zero, frameAll, e20]
          go_simp
          clear e20
          have hbE := HB13.out.trans (hE.mono HB13.out.size)
          clear hE
          go_wp2_with fail
          go_ret
          exact ⟨rfl, hbE⟩
end Go.Proofs.YtgfeeakcpojicaaGreatDoor
