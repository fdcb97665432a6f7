/- The texts DecF, put together. -/
import Derived.Test.YtfckekaegjjmkaaGreatDoorPh13
import Derived.Test.YtfckekaegjjmkaaGreatDoorPh10
import Derived.Test.YtfckekaegjjmkaaGreatDoorPh08
import Derived.Test.YtfckekaegjjmkaaGreatDoorPh09
import Derived.Deep.RegionHeld3
import Derived.Lib.ItoaNum
import Derived.Lib.AppendIntMem
namespace Go.Proofs.YtfckekaegjjmkaaGreatDoor
open Go.RowKit Go.Shelf
attribute [local go_sem] Oper.semAt_some

abbrev Pow10F (w:World):Prop:=Lib.TabIs Tryz.prog w "internal/strconv.uint64pow10" .u64 Lib.pow10Tab
theorem decOk_bounds {neg:Bool} {dg:ByteArray} {ex:Int} (h:decOk neg dg ex=true):1 ≤ dg.size ∧ dg.size ≤ 100 ∧ -100 ≤ ex ∧ ex ≤ 100:=by
 rcases dec_parts h with ⟨h1,h2,h3⟩ | ⟨h1,h2,h3,h4⟩
 ·have:dg.data.toList.length=1:=by rw [h1]; rfl
  have:dg.size=1:=by simpa using this
  omega
 ·have h0:dg.data.toList ≠ [48]:=fun e=>h3 (by rw [e]; rfl)
  have hp:1 ≤ dg.size:=by
   have:=List.length_pos_iff.2 h1
   have e:dg.data.toList.length=dg.size:=by simp
   omega
  unfold decOk at h
  rw [Bool.and_eq_true,Bool.and_eq_true,decide_eq_true_iff,ByteArray.toList_eq,if_neg h0,Bool.and_eq_true,Bool.and_eq_true,decide_eq_true_iff,decide_eq_true_iff] at h
  exact ⟨hp,h.2.1,h.2.2.1,h.2.2.2.1⟩
theorem itoa_same (n:Int):Lib.itoa n=itoaL n:=by
 unfold Lib.itoa itoaL
 by_cases h:n < 0
 ·rw [if_pos h,if_pos h]
  rfl
 ·rw [if_neg h,if_neg h,show n.natAbs=n.toNat by omega]
  rfl
theorem below_moreF (w:World) (os:Array Obj):Below w.heap.size w { w with heap:=w.heap ++ os }:=
 ⟨rfl,rfl,rfl,by simp,fun k hk=>by
  show (w.heap ++ os)[k]? = w.heap[k]?
  rw [Array.getElem?_append_left hk]⟩
theorem itoa_F (n:Int) (h0 : -100 ≤ n) (h1:n ≤ 100) (w:World) (h:Pow10F w) :
  Calls Tryz.prog 176 #[.int .i64 n] w fun e w'=>e=.returned (.string ⟨(itoaL n).toArray⟩) ∧ Below w.heap.size w w':=by
 refine (Tryz.strconv_Itoa n (by omega) (by omega) w h).mono ?_
 rintro e w' ⟨he,k,os,rfl⟩
 rw [itoa_same] at he
 exact ⟨he,(below_drewN (Below.refl _ w) k).trans (below_moreF (w.drewN k) os)⟩
theorem itoaL_len (n:Int) (h0 : -100 ≤ n) (h1:n ≤ 100):(itoaL n).length ≤ 21:=by
 have hl:(Lib.decDigits n.natAbs).length ≤ 20:=by
  obtain ⟨f1,f2,f3⟩:=dec_facts n.natAbs
  rcases Nat.eq_zero_or_pos n.natAbs with e | e
  ·rw [e,Lib.decDigits_one (by decide)]
   decide
  ·have h1:=dval_head f3 f2 (dec_head0 n.natAbs n.natAbs (Nat.le_refl _) e)
   rw [f1] at h1
   apply Decidable.byContradiction
   intro hc
   have h2:10 ^ 4 ≤ 10 ^ ((Lib.decDigits n.natAbs).length - 1):=Nat.pow_le_pow_right (by decide) (by omega)
   have h3:(10:Nat) ^ 4=10000:=by decide
   omega
 unfold itoaL
 rw [List.length_append]
 split
 ·show 1 + _ ≤ _
  omega
 ·show 0 + _ ≤ _
  omega
theorem rep_one (c:UInt8) (n:Nat):Lib.repeatL [c] n=List.replicate n c:=by
 induction n with
 | zero=>rfl
 | succ n ih =>
  rw [List.replicate_succ]
  show [c] ++ Lib.repeatL [c] n=_
  rw [ih]
  rfl
theorem rep_F (n:Nat) (hn:n ≤ 1000) (w:World) :
  Calls Tryz.prog 141 #[.string ⟨#[48]⟩,.int .i64 n] w fun e w'=>e=.returned (.string ⟨(List.replicate n 48).toArray⟩) ∧ Below w.heap.size w w':=by
 have:=Tryz.strings_Repeat ⟨#[48]⟩ n w (by omega) (by show 1 * n ≤ _; omega)
 rw [show (⟨#[48]⟩:ByteArray).data.toList=[48] from rfl,rep_one] at this
 exact this
theorem app_list (a b:ByteArray):(a ++ b).data.toList=a.data.toList ++ b.data.toList:=by simp

set_option maxHeartbeats 4000000 in
set_option maxRecDepth 100000 in
theorem fmt_an (dg:ByteArray) (ex:Int) (hok:decOk true dg ex=true) (hc:ex < -20 ∨ 20 < ex) (w:World) (htab:Pow10F w) :
  Calls Tryz.prog 144 #[.agg #[.bool true,.string dg,.int .i64 ex]] w fun e w'=>e=.returned (.tuple #[.string ⟨(fmtD true dg.data.toList ex).toArray⟩,.int .i64 0]) ∧ Below w.heap.size w w':=by
 obtain ⟨hd1,hd2,he1,he2⟩:=decOk_bounds hok
 have hdl:dg.data.toList.length=dg.size:=by simp
 obtain ⟨r,hr⟩:∃ r:ByteArray,(⟨(itoaL ex).toArray⟩:ByteArray)=r:=⟨_,rfl⟩
 have hrl:r.data.toList=itoaL ex:=by rw [← hr]
 have hrz:r.size ≤ 21:=by
  have:=itoaL_len ex he1 he2
  rw [← hrl] at this
  simpa using this
 have HI:=Lib.hid (fun (W:World) (hb:Below w.heap.size w W)=>itoa_F ex he1 he2 W (Lib.tabBelow_of_tabIs htab W hb))
 rw [hr] at HI
 obtain ⟨s1,hs1⟩:∃ s1,dg ++ ⟨#[101]⟩=s1:=⟨_,rfl⟩
 have hs1z:s1.size=dg.size + 1:=by rw [← hs1,ByteArray.size_append]; rfl
 obtain ⟨s2,hs2⟩:∃ s2,s1 ++ r=s2:=⟨_,rfl⟩
 have hs2z:s2.size=s1.size + r.size:=by rw [← hs2,ByteArray.size_append]
 have hfin:[45] ++ s2.data.toList=fmtD true dg.data.toList ex:=by
  unfold fmtD
  rw [if_pos hc,← hs2,app_list,← hs1,app_list,hrl]
  simp
 have yw:(decide (-20 ≤ ex) && decide (ex ≤ 20))=false:=by
  rcases hc with hc | hc
  ·rw [decide_eq_false (by omega)]
   rfl
  ·rw [decide_eq_false (show ¬ ex ≤ 20 by omega),Bool.and_false]
 obtain ⟨fin,hfn⟩:∃ fin,fmtD true dg.data.toList ex=fin:=⟨_,rfl⟩
 rw [hfn] at hfin ⊢
 have HR:=Lib.hid (dec_Right true dg ex (by omega) (w.alloc (.cells #[.bool true,.string dg,.int .i64 ex] 23)))
 rw [hok] at HR
 have HW:=Lib.hid (fun W=>dec_within ex 20 (by decide) (by decide) W)
 simp only [yw] at HW
 have hk1:=Blk.new w #[.bool true,.string dg,.int .i64 ex] 23
 have hb1:=(Below.refl w.heap.size w).alloc (Nat.le_refl _) (.cells #[.bool true,.string dg,.int .i64 ex] 23)
 have c0:=hk1.cell 0
 have c1:=hk1.cell 1
 have c2:=hk1.cell 2
 have HFIN:=Lib.hid hfin
 have HS2Z:=Lib.hid (show s2.size ≤ 1000 by omega)
 have yl:wrap64 ((dg.size:Int) + ex)=(dg.size:Int) + ex:=by unfold wrap64; omega
 have ys1:¬ 9223372036854775807 < dg.size + 1:=by omega
 have ys2:¬ 9223372036854775807 < dg.size + 1 + r.size:=by omega
 have HS1:=Lib.hid hs1
 have HS2:=Lib.hid hs2
 clear hok hfin hfn hs2 hs2z yw hdl htab hs1 hs1z hr hrl hrz hc he1 he2
 go_enter Tryz.func144,Tryz.ntmps144
 go_wp2_with fail
 refine HR.out.mono ?_
 rintro e w2 ⟨rfl,hbR⟩
 have hk2:=hk1.below hbR hk1.lt
 have hb2:=hb1.trans (hbR.mono hb1.size)
 have hI3:IsB w.heap.size w2.heap.size (Lib.byteCells []) (w2.alloc (.cells #[.pointer none,.slice none 0 0] 81)):=
  .inl ⟨hb2.size,.slice none 0 0,Blk.new _ _ _,World.ownsRowF_nil _ _ _ _,by simp [Value.ownBlock]⟩
 have hk3:=hk2.alloc (.cells #[.pointer none,.slice none 0 0] 81)
 have hb3:=hb2.alloc hb2.size (.cells #[.pointer none,.slice none 0 0] 81)
 have hz3:w.heap.size < w2.heap.size:=hk2.lt
 clear hk1 hb1 c0 c1 c2 hbR HR hk2
 have c0:=hk3.cell 0
 have c1:=hk3.cell 1
 have c2:=hk3.cell 2
 have HB:=Lib.hid (b_WriteByte w.heap.size w2.heap.size [] 45 _ hI3 (by simp) hb3.size)
 clear hI3
 go_wp2_with fail
 refine HB.out.mono ?_
 rintro e w4 ⟨rfl,hA4,hb4,ho4⟩
 have hk4:=others_blk ho4 hk3 (by omega) (by decide)
 have hI4:IsB w.heap.size w2.heap.size (Lib.byteCells [45]) w4:=hA4.is
 have hB4:=hb3.trans hb4
 clear hk3 hb3 c0 c1 c2 hA4 hb4 ho4 HB
 have c0:=hk4.cell 0
 have c1:=hk4.cell 1
 have c2:=hk4.cell 2
 have hz4:=hB4.size
 obtain ⟨b,hbe⟩:∃ b,w2.heap.size=b:=⟨_,rfl⟩
 rw [hbe] at hI4 hz3 ⊢
 clear hbe hb2
 go_wp2_with fail
 refine (HW.out _).mono ?_
 rintro e w5 ⟨rfl,rfl⟩
 have HWS:=Lib.hid (fun (W:World) (hI:IsB w.heap.size b (Lib.byteCells [45]) W) (hz:w.heap.size ≤ W.heap.size)=>b_WriteString w.heap.size b (Lib.byteCells [45]) s2 W hI (by have:=HS2Z.out; rw [Lib.byteCells_length]; show 1 + _ ≤ _; omega) hz)
 have hfc:∀ (l:List UInt8),Lib.byteCells l ++ Lib.strCells s2=Lib.byteCells (l ++ s2.data.toList):=fun l=>by simp [Lib.byteCells,Lib.strCells]
 simp only [hfc,HFIN.out] at HWS
 clear hfc HW
 have HI4:=Lib.hid hI4
 have HB4:=Lib.hid hB4
 have HK4:=Lib.hid hk4
 clear hI4 hB4 hk4
 go_wp2_with fail
 go_region_held3 (fun w'=>w'.cell? ⟨w.heap.size,0,none⟩=some (.bool true) ∧ w'.cell? ⟨w.heap.size,1,none⟩=some (.string dg) ∧ w'.cell? ⟨w.heap.size,2,none⟩=some (.int .i64 ex)) (go_keep)
  (first | (go_at_call 176; refine (HI.out _ (HB4.out.trans (((Below.refl w4.heap.size w4).drew).mono HB4.out.size))).mono ?_; rintro e w6 ⟨rfl,hb6⟩; have hk6:=(Blk.drew HK4.out).below hb6 (Blk.drew HK4.out).lt; have c60:=hk6.cell 0; have c61:=hk6.cell 1; have c62:=hk6.cell 2) | (go_at_call 173; rw [HS1.out,HS2.out]; refine (HWS.out _ (isB_grown HI4.out (below_none (((Below.refl w4.heap.size w4).drew).trans hb6)) (fun r e=>by cases e)) (Nat.le_trans hz4 hb6.size)).mono ?_; rintro e w7 ⟨rfl,hA7,hb7,ho7⟩; have hk7:=others_blk ho7 hk6 (by omega) (by decide); have c70:=hk7.cell 0; have c71:=hk7.cell 1; have c72:=hk7.cell 2))
 have hB7:Below w.heap.size w w7:=(HB4.out.trans ((((Below.refl w4.heap.size w4).drew).trans hb6).mono HB4.out.size)).trans hb7
 have HST:=Lib.hid (Tryz.Builder_String_any_k w.heap.size b fin w7 hA7.is hB7.size)
 clear hk7 hb7 ho7 hA7 HWS HFIN HS2Z HS2 HB4 HK4 HI4
 go_wp2_with fail
 refine HST.out.mono ?_
 rintro e w8 ⟨rfl,_,hb8,_⟩
 have hB8:=hB7.trans hb8
 clear hB7 hb8 HST
 go_wp2_with fail
 refine bodyPost_ret (v:=.tuple #[.string ⟨fin.toArray⟩,.int .i64 0]) (by simp [results,Tryz.results144,go_sem]) rfl ⟨rfl,hB8⟩

set_option maxHeartbeats 4000000 in
set_option maxRecDepth 100000 in
theorem fmt_ap (dg:ByteArray) (ex:Int) (hok:decOk false dg ex=true) (hc:ex < -20 ∨ 20 < ex) (w:World) (htab:Pow10F w) :
  Calls Tryz.prog 144 #[.agg #[.bool false,.string dg,.int .i64 ex]] w fun e w'=>e=.returned (.tuple #[.string ⟨(fmtD false dg.data.toList ex).toArray⟩,.int .i64 0]) ∧ Below w.heap.size w w':=by
 obtain ⟨hd1,hd2,he1,he2⟩:=decOk_bounds hok
 have hdl:dg.data.toList.length=dg.size:=by simp
 obtain ⟨r,hr⟩:∃ r:ByteArray,(⟨(itoaL ex).toArray⟩:ByteArray)=r:=⟨_,rfl⟩
 have hrl:r.data.toList=itoaL ex:=by rw [← hr]
 have hrz:r.size ≤ 21:=by
  have:=itoaL_len ex he1 he2
  rw [← hrl] at this
  simpa using this
 have HI:=Lib.hid (fun (W:World) (hb:Below w.heap.size w W)=>itoa_F ex he1 he2 W (Lib.tabBelow_of_tabIs htab W hb))
 rw [hr] at HI
 obtain ⟨s1,hs1⟩:∃ s1,dg ++ ⟨#[101]⟩=s1:=⟨_,rfl⟩
 have hs1z:s1.size=dg.size + 1:=by rw [← hs1,ByteArray.size_append]; rfl
 obtain ⟨s2,hs2⟩:∃ s2,s1 ++ r=s2:=⟨_,rfl⟩
 have hs2z:s2.size=s1.size + r.size:=by rw [← hs2,ByteArray.size_append]
 have hfin:[] ++ s2.data.toList=fmtD false dg.data.toList ex:=by
  unfold fmtD
  rw [if_pos hc,← hs2,app_list,← hs1,app_list,hrl]
  simp
 have yw:(decide (-20 ≤ ex) && decide (ex ≤ 20))=false:=by
  rcases hc with hc | hc
  ·rw [decide_eq_false (by omega)]
   rfl
  ·rw [decide_eq_false (show ¬ ex ≤ 20 by omega),Bool.and_false]
 obtain ⟨fin,hfn⟩:∃ fin,fmtD false dg.data.toList ex=fin:=⟨_,rfl⟩
 rw [hfn] at hfin ⊢
 have HR:=Lib.hid (dec_Right false dg ex (by omega) (w.alloc (.cells #[.bool false,.string dg,.int .i64 ex] 23)))
 rw [hok] at HR
 have HW:=Lib.hid (fun W=>dec_within ex 20 (by decide) (by decide) W)
 simp only [yw] at HW
 have hk1:=Blk.new w #[.bool false,.string dg,.int .i64 ex] 23
 have hb1:=(Below.refl w.heap.size w).alloc (Nat.le_refl _) (.cells #[.bool false,.string dg,.int .i64 ex] 23)
 have c0:=hk1.cell 0
 have c1:=hk1.cell 1
 have c2:=hk1.cell 2
 have HFIN:=Lib.hid hfin
 have HS2Z:=Lib.hid (show s2.size ≤ 1000 by omega)
 have yl:wrap64 ((dg.size:Int) + ex)=(dg.size:Int) + ex:=by unfold wrap64; omega
 have ys1:¬ 9223372036854775807 < dg.size + 1:=by omega
 have ys2:¬ 9223372036854775807 < dg.size + 1 + r.size:=by omega
 have HS1:=Lib.hid hs1
 have HS2:=Lib.hid hs2
 clear hok hfin hfn hs2 hs2z yw hdl htab hs1 hs1z hr hrl hrz hc he1 he2
 go_enter Tryz.func144,Tryz.ntmps144
 go_wp2_with fail
 refine HR.out.mono ?_
 rintro e w2 ⟨rfl,hbR⟩
 have hk2:=hk1.below hbR hk1.lt
 have hb2:=hb1.trans (hbR.mono hb1.size)
 have hI3:IsB w.heap.size w2.heap.size (Lib.byteCells []) (w2.alloc (.cells #[.pointer none,.slice none 0 0] 81)):=
  .inl ⟨hb2.size,.slice none 0 0,Blk.new _ _ _,World.ownsRowF_nil _ _ _ _,by simp [Value.ownBlock]⟩
 have hk3:=hk2.alloc (.cells #[.pointer none,.slice none 0 0] 81)
 have hb3:=hb2.alloc hb2.size (.cells #[.pointer none,.slice none 0 0] 81)
 have hz3:w.heap.size < w2.heap.size:=hk2.lt
 clear hk1 hb1 c0 c1 c2 hbR HR hk2
 have c0:=hk3.cell 0
 have c1:=hk3.cell 1
 have c2:=hk3.cell 2
 go_wp2_with fail
 obtain ⟨w4,hw4⟩:∃ W,w2.alloc (.cells #[.pointer none,.slice none 0 0] 81)=W:=⟨_,rfl⟩
 rw [hw4] at hI3 hk3 hb3 c0 c1 c2 ⊢
 have hk4:=hk3
 have hI4:=hI3
 have hB4:=hb3
 clear hk3 hb3 hI3 hw4
 have hz4:=hB4.size
 obtain ⟨b,hbe⟩:∃ b,w2.heap.size=b:=⟨_,rfl⟩
 rw [hbe] at hI4 hz3 ⊢
 clear hbe hb2
 refine (HW.out _).mono ?_
 rintro e w5 ⟨rfl,rfl⟩
 have HWS:=Lib.hid (fun (W:World) (hI:IsB w.heap.size b (Lib.byteCells []) W) (hz:w.heap.size ≤ W.heap.size)=>b_WriteString w.heap.size b (Lib.byteCells []) s2 W hI (by have:=HS2Z.out; rw [Lib.byteCells_length]; show 0 + _ ≤ _; omega) hz)
 have hfc:∀ (l:List UInt8),Lib.byteCells l ++ Lib.strCells s2=Lib.byteCells (l ++ s2.data.toList):=fun l=>by simp [Lib.byteCells,Lib.strCells]
 simp only [hfc,HFIN.out] at HWS
 clear hfc HW
 have HI4:=Lib.hid hI4
 have HB4:=Lib.hid hB4
 have HK4:=Lib.hid hk4
 clear hI4 hB4 hk4
 go_wp2_with fail
 go_region_held3 (fun w'=>w'.cell? ⟨w.heap.size,0,none⟩=some (.bool false) ∧ w'.cell? ⟨w.heap.size,1,none⟩=some (.string dg) ∧ w'.cell? ⟨w.heap.size,2,none⟩=some (.int .i64 ex)) (go_keep)
  (first | (go_at_call 176; refine (HI.out _ (HB4.out.trans (((Below.refl w4.heap.size w4).drew).mono HB4.out.size))).mono ?_; rintro e w6 ⟨rfl,hb6⟩; have hk6:=(Blk.drew HK4.out).below hb6 (Blk.drew HK4.out).lt; have c60:=hk6.cell 0; have c61:=hk6.cell 1; have c62:=hk6.cell 2) | (go_at_call 173; rw [HS1.out,HS2.out]; refine (HWS.out _ (isB_grown HI4.out (below_none (((Below.refl w4.heap.size w4).drew).trans hb6)) (fun r e=>by cases e)) (Nat.le_trans hz4 hb6.size)).mono ?_; rintro e w7 ⟨rfl,hA7,hb7,ho7⟩; have hk7:=others_blk ho7 hk6 (by omega) (by decide); have c70:=hk7.cell 0; have c71:=hk7.cell 1; have c72:=hk7.cell 2))
 have hB7:Below w.heap.size w w7:=(HB4.out.trans ((((Below.refl w4.heap.size w4).drew).trans hb6).mono HB4.out.size)).trans hb7
 have HST:=Lib.hid (Tryz.Builder_String_any_k w.heap.size b fin w7 hA7.is hB7.size)
 clear hk7 hb7 ho7 hA7 HWS HFIN HS2Z HS2 HB4 HK4 HI4
 go_wp2_with fail
 refine HST.out.mono ?_
 rintro e w8 ⟨rfl,_,hb8,_⟩
 have hB8:=hB7.trans hb8
 clear hB7 hb8 HST
 go_wp2_with fail
 refine bodyPost_ret (v:=.tuple #[.string ⟨fin.toArray⟩,.int .i64 0]) (by simp [results,Tryz.results144,go_sem]) rfl ⟨rfl,hB8⟩

set_option maxHeartbeats 4000000 in
set_option maxRecDepth 100000 in
theorem fmt_bn (dg:ByteArray) (ex:Int) (hok:decOk true dg ex=true) (hc:0 ≤ ex) (hc2:ex ≤ 20) (w:World) :
  Calls Tryz.prog 144 #[.agg #[.bool true,.string dg,.int .i64 ex]] w fun e w'=>e=.returned (.tuple #[.string ⟨(fmtD true dg.data.toList ex).toArray⟩,.int .i64 0]) ∧ Below w.heap.size w w':=by
 obtain ⟨hd1,hd2,he1,he2⟩:=decOk_bounds hok
 have hdl:dg.data.toList.length=dg.size:=by simp
 obtain ⟨k,hk⟩:∃ k:Nat,ex=k:=⟨ex.toNat,by omega⟩
 subst hk
 obtain ⟨r,hr⟩:∃ r:ByteArray,(⟨(List.replicate k 48).toArray⟩:ByteArray)=r:=⟨_,rfl⟩
 have hrl:r.data.toList=List.replicate k 48:=by rw [← hr]
 have hrz:r.size=k:=by
  have:r.data.toList.length=k:=by rw [hrl,List.length_replicate]
  simpa using this
 have HI:=Lib.hid (fun (W:World)=>rep_F k (by omega) W)
 rw [hr] at HI
 obtain ⟨s2,hs2⟩:∃ s2,dg ++ r=s2:=⟨_,rfl⟩
 have hs2z:s2.size=dg.size + r.size:=by rw [← hs2,ByteArray.size_append]
 have hfin:[45] ++ s2.data.toList=fmtD true dg.data.toList k:=by
  unfold fmtD
  rw [if_neg (show ¬ ((k:Int) < -20 ∨ 20 < (k:Int)) by omega),if_pos hc,← hs2,app_list,hrl]
  simp
 have yw:(decide (-20 ≤ (k:Int)) && decide ((k:Int) ≤ 20))=true:=by
  rw [decide_eq_true (show -20 ≤ (k:Int) by omega),decide_eq_true hc2]
  rfl
 obtain ⟨fin,hfn⟩:∃ fin,fmtD true dg.data.toList (k:Int)=fin:=⟨_,rfl⟩
 rw [hfn] at hfin ⊢
 have HR:=Lib.hid (dec_Right true dg (k:Int) (by omega) (w.alloc (.cells #[.bool true,.string dg,.int .i64 (k:Int)] 23)))
 rw [hok] at HR
 have HW:=Lib.hid (fun W=>dec_within (k:Int) 20 (by decide) (by decide) W)
 simp only [yw] at HW
 have hk1:=Blk.new w #[.bool true,.string dg,.int .i64 (k:Int)] 23
 have hb1:=(Below.refl w.heap.size w).alloc (Nat.le_refl _) (.cells #[.bool true,.string dg,.int .i64 (k:Int)] 23)
 have c0:=hk1.cell 0
 have c1:=hk1.cell 1
 have c2:=hk1.cell 2
 have HFIN:=Lib.hid hfin
 have HS2Z:=Lib.hid (show s2.size ≤ 1000 by omega)
 have yl:wrap64 ((dg.size:Int) + (k:Int))=(dg.size:Int) + (k:Int):=by unfold wrap64; omega
 have ys2:¬ 9223372036854775807 < dg.size + r.size:=by omega
 have HS2:=Lib.hid hs2
 clear hok hfin hfn hs2 hs2z yw hdl hr hrl hrz he1 he2
 go_enter Tryz.func144,Tryz.ntmps144
 go_wp2_with fail
 refine HR.out.mono ?_
 rintro e w2 ⟨rfl,hbR⟩
 have hk2:=hk1.below hbR hk1.lt
 have hb2:=hb1.trans (hbR.mono hb1.size)
 have hI3:IsB w.heap.size w2.heap.size (Lib.byteCells []) (w2.alloc (.cells #[.pointer none,.slice none 0 0] 81)):=
  .inl ⟨hb2.size,.slice none 0 0,Blk.new _ _ _,World.ownsRowF_nil _ _ _ _,by simp [Value.ownBlock]⟩
 have hk3:=hk2.alloc (.cells #[.pointer none,.slice none 0 0] 81)
 have hb3:=hb2.alloc hb2.size (.cells #[.pointer none,.slice none 0 0] 81)
 have hz3:w.heap.size < w2.heap.size:=hk2.lt
 clear hk1 hb1 c0 c1 c2 hbR HR hk2
 have c0:=hk3.cell 0
 have c1:=hk3.cell 1
 have c2:=hk3.cell 2
 have HB:=Lib.hid (b_WriteByte w.heap.size w2.heap.size [] 45 _ hI3 (by simp) hb3.size)
 clear hI3
 go_wp2_with fail
 refine HB.out.mono ?_
 rintro e w4 ⟨rfl,hA4,hb4,ho4⟩
 have hk4:=others_blk ho4 hk3 (by omega) (by decide)
 have hI4:IsB w.heap.size w2.heap.size (Lib.byteCells [45]) w4:=hA4.is
 have hB4:=hb3.trans hb4
 clear hk3 hb3 c0 c1 c2 hA4 hb4 ho4 HB
 have c0:=hk4.cell 0
 have c1:=hk4.cell 1
 have c2:=hk4.cell 2
 have hz4:=hB4.size
 obtain ⟨b,hbe⟩:∃ b,w2.heap.size=b:=⟨_,rfl⟩
 rw [hbe] at hI4 hz3 ⊢
 clear hbe hb2
 go_wp2_with fail
 refine (HW.out _).mono ?_
 rintro e w5 ⟨rfl,rfl⟩
 have HWS:=Lib.hid (fun (W:World) (hI:IsB w.heap.size b (Lib.byteCells [45]) W) (hz:w.heap.size ≤ W.heap.size)=>b_WriteString w.heap.size b (Lib.byteCells [45]) s2 W hI (by have:=HS2Z.out; rw [Lib.byteCells_length]; show 1 + _ ≤ _; omega) hz)
 have hfc:∀ (l:List UInt8),Lib.byteCells l ++ Lib.strCells s2=Lib.byteCells (l ++ s2.data.toList):=fun l=>by simp [Lib.byteCells,Lib.strCells]
 simp only [hfc,HFIN.out] at HWS
 clear hfc HW
 have HI4:=Lib.hid hI4
 have HB4:=Lib.hid hB4
 have HK4:=Lib.hid hk4
 clear hI4 hB4 hk4
 go_wp2_with fail
 go_region_held3 (fun w'=>w'.cell? ⟨w.heap.size,0,none⟩=some (.bool true) ∧ w'.cell? ⟨w.heap.size,1,none⟩=some (.string dg) ∧ w'.cell? ⟨w.heap.size,2,none⟩=some (.int .i64 (k:Int))) (go_keep)
  (first | (go_at_call 141; refine (HI.out _).mono ?_; rintro e w6 ⟨rfl,hb6⟩; have hk6:=(Blk.drew HK4.out).below hb6 (Blk.drew HK4.out).lt; have c60:=hk6.cell 0; have c61:=hk6.cell 1; have c62:=hk6.cell 2) | (go_at_call 173; rw [HS2.out]; refine (HWS.out _ (isB_grown HI4.out (below_none (((Below.refl w4.heap.size w4).drew).trans hb6)) (fun r e=>by cases e)) (Nat.le_trans hz4 hb6.size)).mono ?_; rintro e w7 ⟨rfl,hA7,hb7,ho7⟩; have hk7:=others_blk ho7 hk6 (by omega) (by decide); have c70:=hk7.cell 0; have c71:=hk7.cell 1; have c72:=hk7.cell 2))
 have hB7:Below w.heap.size w w7:=(HB4.out.trans ((((Below.refl w4.heap.size w4).drew).trans hb6).mono HB4.out.size)).trans hb7
 have HST:=Lib.hid (Tryz.Builder_String_any_k w.heap.size b fin w7 hA7.is hB7.size)
 clear hk7 hb7 ho7 hA7 HWS HFIN HS2Z HS2 HB4 HK4 HI4
 go_wp2_with fail
 refine HST.out.mono ?_
 rintro e w8 ⟨rfl,_,hb8,_⟩
 have hB8:=hB7.trans hb8
 clear hB7 hb8 HST
 go_wp2_with fail
 refine bodyPost_ret (v:=.tuple #[.string ⟨fin.toArray⟩,.int .i64 0]) (by simp [results,Tryz.results144,go_sem]) rfl ⟨rfl,hB8⟩

set_option maxHeartbeats 4000000 in
set_option maxRecDepth 100000 in
theorem fmt_bp (dg:ByteArray) (ex:Int) (hok:decOk false dg ex=true) (hc:0 ≤ ex) (hc2:ex ≤ 20) (w:World) :
  Calls Tryz.prog 144 #[.agg #[.bool false,.string dg,.int .i64 ex]] w fun e w'=>e=.returned (.tuple #[.string ⟨(fmtD false dg.data.toList ex).toArray⟩,.int .i64 0]) ∧ Below w.heap.size w w':=by
 obtain ⟨hd1,hd2,he1,he2⟩:=decOk_bounds hok
 have hdl:dg.data.toList.length=dg.size:=by simp
 obtain ⟨k,hk⟩:∃ k:Nat,ex=k:=⟨ex.toNat,by omega⟩
 subst hk
 obtain ⟨r,hr⟩:∃ r:ByteArray,(⟨(List.replicate k 48).toArray⟩:ByteArray)=r:=⟨_,rfl⟩
 have hrl:r.data.toList=List.replicate k 48:=by rw [← hr]
 have hrz:r.size=k:=by
  have:r.data.toList.length=k:=by rw [hrl,List.length_replicate]
  simpa using this
 have HI:=Lib.hid (fun (W:World)=>rep_F k (by omega) W)
 rw [hr] at HI
 obtain ⟨s2,hs2⟩:∃ s2,dg ++ r=s2:=⟨_,rfl⟩
 have hs2z:s2.size=dg.size + r.size:=by rw [← hs2,ByteArray.size_append]
 have hfin:[] ++ s2.data.toList=fmtD false dg.data.toList k:=by
  unfold fmtD
  rw [if_neg (show ¬ ((k:Int) < -20 ∨ 20 < (k:Int)) by omega),if_pos hc,← hs2,app_list,hrl]
  simp
 have yw:(decide (-20 ≤ (k:Int)) && decide ((k:Int) ≤ 20))=true:=by
  rw [decide_eq_true (show -20 ≤ (k:Int) by omega),decide_eq_true hc2]
  rfl
 obtain ⟨fin,hfn⟩:∃ fin,fmtD false dg.data.toList (k:Int)=fin:=⟨_,rfl⟩
 rw [hfn] at hfin ⊢
 have HR:=Lib.hid (dec_Right false dg (k:Int) (by omega) (w.alloc (.cells #[.bool false,.string dg,.int .i64 (k:Int)] 23)))
 rw [hok] at HR
 have HW:=Lib.hid (fun W=>dec_within (k:Int) 20 (by decide) (by decide) W)
 simp only [yw] at HW
 have hk1:=Blk.new w #[.bool false,.string dg,.int .i64 (k:Int)] 23
 have hb1:=(Below.refl w.heap.size w).alloc (Nat.le_refl _) (.cells #[.bool false,.string dg,.int .i64 (k:Int)] 23)
 have c0:=hk1.cell 0
 have c1:=hk1.cell 1
 have c2:=hk1.cell 2
 have HFIN:=Lib.hid hfin
 have HS2Z:=Lib.hid (show s2.size ≤ 1000 by omega)
 have yl:wrap64 ((dg.size:Int) + (k:Int))=(dg.size:Int) + (k:Int):=by unfold wrap64; omega
 have ys2:¬ 9223372036854775807 < dg.size + r.size:=by omega
 have HS2:=Lib.hid hs2
 clear hok hfin hfn hs2 hs2z yw hdl hr hrl hrz he1 he2
 go_enter Tryz.func144,Tryz.ntmps144
 go_wp2_with fail
 refine HR.out.mono ?_
 rintro e w2 ⟨rfl,hbR⟩
 have hk2:=hk1.below hbR hk1.lt
 have hb2:=hb1.trans (hbR.mono hb1.size)
 have hI3:IsB w.heap.size w2.heap.size (Lib.byteCells []) (w2.alloc (.cells #[.pointer none,.slice none 0 0] 81)):=
  .inl ⟨hb2.size,.slice none 0 0,Blk.new _ _ _,World.ownsRowF_nil _ _ _ _,by simp [Value.ownBlock]⟩
 have hk3:=hk2.alloc (.cells #[.pointer none,.slice none 0 0] 81)
 have hb3:=hb2.alloc hb2.size (.cells #[.pointer none,.slice none 0 0] 81)
 have hz3:w.heap.size < w2.heap.size:=hk2.lt
 clear hk1 hb1 c0 c1 c2 hbR HR hk2
 have c0:=hk3.cell 0
 have c1:=hk3.cell 1
 have c2:=hk3.cell 2
 go_wp2_with fail
 obtain ⟨w4,hw4⟩:∃ W,w2.alloc (.cells #[.pointer none,.slice none 0 0] 81)=W:=⟨_,rfl⟩
 rw [hw4] at hI3 hk3 hb3 c0 c1 c2 ⊢
 have hk4:=hk3
 have hI4:=hI3
 have hB4:=hb3
 clear hk3 hb3 hI3 hw4
 have hz4:=hB4.size
 obtain ⟨b,hbe⟩:∃ b,w2.heap.size=b:=⟨_,rfl⟩
 rw [hbe] at hI4 hz3 ⊢
 clear hbe hb2
 refine (HW.out _).mono ?_
 rintro e w5 ⟨rfl,rfl⟩
 have HWS:=Lib.hid (fun (W:World) (hI:IsB w.heap.size b (Lib.byteCells []) W) (hz:w.heap.size ≤ W.heap.size)=>b_WriteString w.heap.size b (Lib.byteCells []) s2 W hI (by have:=HS2Z.out; rw [Lib.byteCells_length]; show 0 + _ ≤ _; omega) hz)
 have hfc:∀ (l:List UInt8),Lib.byteCells l ++ Lib.strCells s2=Lib.byteCells (l ++ s2.data.toList):=fun l=>by simp [Lib.byteCells,Lib.strCells]
 simp only [hfc,HFIN.out] at HWS
 clear hfc HW
 have HI4:=Lib.hid hI4
 have HB4:=Lib.hid hB4
 have HK4:=Lib.hid hk4
 clear hI4 hB4 hk4
 go_wp2_with fail
 go_region_held3 (fun w'=>w'.cell? ⟨w.heap.size,0,none⟩=some (.bool false) ∧ w'.cell? ⟨w.heap.size,1,none⟩=some (.string dg) ∧ w'.cell? ⟨w.heap.size,2,none⟩=some (.int .i64 (k:Int))) (go_keep)
  (first | (go_at_call 141; refine (HI.out _).mono ?_; rintro e w6 ⟨rfl,hb6⟩; have hk6:=(Blk.drew HK4.out).below hb6 (Blk.drew HK4.out).lt; have c60:=hk6.cell 0; have c61:=hk6.cell 1; have c62:=hk6.cell 2) | (go_at_call 173; rw [HS2.out]; refine (HWS.out _ (isB_grown HI4.out (below_none (((Below.refl w4.heap.size w4).drew).trans hb6)) (fun r e=>by cases e)) (Nat.le_trans hz4 hb6.size)).mono ?_; rintro e w7 ⟨rfl,hA7,hb7,ho7⟩; have hk7:=others_blk ho7 hk6 (by omega) (by decide); have c70:=hk7.cell 0; have c71:=hk7.cell 1; have c72:=hk7.cell 2))
 have hB7:Below w.heap.size w w7:=(HB4.out.trans ((((Below.refl w4.heap.size w4).drew).trans hb6).mono HB4.out.size)).trans hb7
 have HST:=Lib.hid (Tryz.Builder_String_any_k w.heap.size b fin w7 hA7.is hB7.size)
 clear hk7 hb7 ho7 hA7 HWS HFIN HS2Z HS2 HB4 HK4 HI4
 go_wp2_with fail
 refine HST.out.mono ?_
 rintro e w8 ⟨rfl,_,hb8,_⟩
 have hB8:=hB7.trans hb8
 clear hB7 hb8 HST
 go_wp2_with fail
 refine bodyPost_ret (v:=.tuple #[.string ⟨fin.toArray⟩,.int .i64 0]) (by simp [results,Tryz.results144,go_sem]) rfl ⟨rfl,hB8⟩

set_option maxHeartbeats 4000000 in
set_option maxRecDepth 100000 in
theorem fmt_cn (dg:ByteArray) (ex:Int) (hok:decOk true dg ex=true) (hc:ex < 0) (hc2 : -20 ≤ ex) (hc3:0 < (dg.size:Int) + ex) (w:World) :
  Calls Tryz.prog 144 #[.agg #[.bool true,.string dg,.int .i64 ex]] w fun e w'=>e=.returned (.tuple #[.string ⟨(fmtD true dg.data.toList ex).toArray⟩,.int .i64 0]) ∧ Below w.heap.size w w':=by
 obtain ⟨hd1,hd2,he1,he2⟩:=decOk_bounds hok
 have hdl:dg.data.toList.length=dg.size:=by simp
 obtain ⟨k,hk⟩:∃ k:Nat,(dg.size:Int) + ex=k:=⟨((dg.size:Int) + ex).toNat,by omega⟩
 have hkn:k ≤ dg.size:=by omega
 obtain ⟨p1,hp1⟩:∃ p1,dg.extract 0 k=p1:=⟨_,rfl⟩
 obtain ⟨p2,hp2⟩:∃ p2,dg.extract k dg.size=p2:=⟨_,rfl⟩
 have hp1l:p1.data.toList=dg.data.toList.take k:=by rw [← hp1]; simp
 have hp2l:p2.data.toList=dg.data.toList.drop k:=by
  rw [← hp2]
  simp [List.take_of_length_le]
 have hp1z:p1.size=k:=by
  have:p1.data.toList.length=k:=by rw [hp1l,List.length_take]; omega
  simpa using this
 have hp2z:p2.size=dg.size - k:=by
  have:p2.data.toList.length=dg.size - k:=by rw [hp2l,List.length_drop,hdl]
  simpa using this
 obtain ⟨s1,hs1⟩:∃ s1,p1 ++ ⟨#[46]⟩=s1:=⟨_,rfl⟩
 have hs1z:s1.size=p1.size + 1:=by rw [← hs1,ByteArray.size_append]; rfl
 obtain ⟨s2,hs2⟩:∃ s2,s1 ++ p2=s2:=⟨_,rfl⟩
 have hs2z:s2.size=s1.size + p2.size:=by rw [← hs2,ByteArray.size_append]
 have hfin:[45] ++ s2.data.toList=fmtD true dg.data.toList ex:=by
  unfold fmtD
  rw [if_neg (show ¬ (ex < -20 ∨ 20 < ex) by omega),if_neg (show ¬ 0 ≤ ex by omega),hdl,if_pos hc3,hk,Int.toNat_natCast,← hs2,app_list,← hs1,app_list,hp1l,hp2l]
  simp
 have yw:(decide (-20 ≤ ex) && decide (ex ≤ 20))=true:=by
  rw [decide_eq_true hc2,decide_eq_true (show ex ≤ 20 by omega)]
  rfl
 obtain ⟨fin,hfn⟩:∃ fin,fmtD true dg.data.toList ex=fin:=⟨_,rfl⟩
 rw [hfn] at hfin ⊢
 have HR:=Lib.hid (dec_Right true dg ex (by omega) (w.alloc (.cells #[.bool true,.string dg,.int .i64 ex] 23)))
 rw [hok] at HR
 have HW:=Lib.hid (fun W=>dec_within ex 20 (by decide) (by decide) W)
 simp only [yw] at HW
 have hk1:=Blk.new w #[.bool true,.string dg,.int .i64 ex] 23
 have hb1:=(Below.refl w.heap.size w).alloc (Nat.le_refl _) (.cells #[.bool true,.string dg,.int .i64 ex] 23)
 have c0:=hk1.cell 0
 have c1:=hk1.cell 1
 have c2:=hk1.cell 2
 have HFIN:=Lib.hid hfin
 have HS2Z:=Lib.hid (show s2.size ≤ 1000 by omega)
 have yl:wrap64 ((dg.size:Int) + ex)=k:=by unfold wrap64; omega
 have yc:¬ (0:Int) ≤ ex:=by omega
 have yp1:(0:Int) ≤ k:=by omega
 have yp2:(k:Int) ≤ dg.size:=by omega
 have yp3:(0:Int) < k:=by omega
 have yp4:min k dg.size=k:=by omega
 have ys1:¬ 9223372036854775807 < k + 1:=by omega
 have ys2:¬ 9223372036854775807 < k + 1 + (dg.size - k):=by omega
 have HS1:=Lib.hid hs1
 have HS2:=Lib.hid hs2
 have HP1:=Lib.hid hp1
 have HP2:=Lib.hid hp2
 clear hok hfin hfn hs2 hs2z yw hdl hs1 hs1z hp1 hp2 hp1l hp2l hp1z hp2z he1 he2
 go_enter Tryz.func144,Tryz.ntmps144
 go_wp2_with fail
 refine HR.out.mono ?_
 rintro e w2 ⟨rfl,hbR⟩
 have hk2:=hk1.below hbR hk1.lt
 have hb2:=hb1.trans (hbR.mono hb1.size)
 have hI3:IsB w.heap.size w2.heap.size (Lib.byteCells []) (w2.alloc (.cells #[.pointer none,.slice none 0 0] 81)):=
  .inl ⟨hb2.size,.slice none 0 0,Blk.new _ _ _,World.ownsRowF_nil _ _ _ _,by simp [Value.ownBlock]⟩
 have hk3:=hk2.alloc (.cells #[.pointer none,.slice none 0 0] 81)
 have hb3:=hb2.alloc hb2.size (.cells #[.pointer none,.slice none 0 0] 81)
 have hz3:w.heap.size < w2.heap.size:=hk2.lt
 clear hk1 hb1 c0 c1 c2 hbR HR hk2
 have c0:=hk3.cell 0
 have c1:=hk3.cell 1
 have c2:=hk3.cell 2
 have HB:=Lib.hid (b_WriteByte w.heap.size w2.heap.size [] 45 _ hI3 (by simp) hb3.size)
 clear hI3
 go_wp2_with fail
 refine HB.out.mono ?_
 rintro e w4 ⟨rfl,hA4,hb4,ho4⟩
 have hk4:=others_blk ho4 hk3 (by omega) (by decide)
 have hI4:IsB w.heap.size w2.heap.size (Lib.byteCells [45]) w4:=hA4.is
 have hB4:=hb3.trans hb4
 clear hk3 hb3 c0 c1 c2 hA4 hb4 ho4 HB
 have c0:=hk4.cell 0
 have c1:=hk4.cell 1
 have c2:=hk4.cell 2
 have hz4:=hB4.size
 obtain ⟨b,hbe⟩:∃ b,w2.heap.size=b:=⟨_,rfl⟩
 rw [hbe] at hI4 hz3 ⊢
 clear hbe hb2
 go_wp2_with fail
 refine (HW.out _).mono ?_
 rintro e w5 ⟨rfl,rfl⟩
 have HWS:=Lib.hid (fun (W:World) (hI:IsB w.heap.size b (Lib.byteCells [45]) W) (hz:w.heap.size ≤ W.heap.size)=>b_WriteString w.heap.size b (Lib.byteCells [45]) s2 W hI (by have:=HS2Z.out; rw [Lib.byteCells_length]; show 1 + _ ≤ _; omega) hz)
 have hfc:∀ (l:List UInt8),Lib.byteCells l ++ Lib.strCells s2=Lib.byteCells (l ++ s2.data.toList):=fun l=>by simp [Lib.byteCells,Lib.strCells]
 simp only [hfc,HFIN.out] at HWS
 clear hfc HW
 have HI4:=Lib.hid hI4
 have HB4:=Lib.hid hB4
 have HK4:=Lib.hid hk4
 clear hI4 hB4 hk4
 go_wp2_with fail
 go_region_held3 (fun w'=>w'.cell? ⟨w.heap.size,0,none⟩=some (.bool true) ∧ w'.cell? ⟨w.heap.size,1,none⟩=some (.string dg) ∧ w'.cell? ⟨w.heap.size,2,none⟩=some (.int .i64 ex)) (go_keep)
  (first | (go_at_call 173; rw [HP1.out,HP2.out,HS1.out,HS2.out]; refine (HWS.out _ (isB_grown HI4.out (below_none ((Below.refl w4.heap.size w4).drew)) (fun r e=>by cases e)) hz4).mono ?_; rintro e w7 ⟨rfl,hA7,hb7,ho7⟩; have hk7:=others_blk ho7 (Blk.drew HK4.out) (by omega) (by decide); have c70:=hk7.cell 0; have c71:=hk7.cell 1; have c72:=hk7.cell 2))
 have hB7:Below w.heap.size w w7:=(HB4.out.trans (((Below.refl w4.heap.size w4).drew).mono HB4.out.size)).trans hb7
 have HST:=Lib.hid (Tryz.Builder_String_any_k w.heap.size b fin w7 hA7.is hB7.size)
 clear hk7 hb7 ho7 hA7 HWS HFIN HS2Z HS2 HB4 HK4 HI4
 go_wp2_with fail
 refine HST.out.mono ?_
 rintro e w8 ⟨rfl,_,hb8,_⟩
 have hB8:=hB7.trans hb8
 clear hB7 hb8 HST
 go_wp2_with fail
 refine bodyPost_ret (v:=.tuple #[.string ⟨fin.toArray⟩,.int .i64 0]) (by simp [results,Tryz.results144,go_sem]) rfl ⟨rfl,hB8⟩

set_option maxHeartbeats 4000000 in
set_option maxRecDepth 100000 in
theorem fmt_cp (dg:ByteArray) (ex:Int) (hok:decOk false dg ex=true) (hc:ex < 0) (hc2 : -20 ≤ ex) (hc3:0 < (dg.size:Int) + ex) (w:World) :
  Calls Tryz.prog 144 #[.agg #[.bool false,.string dg,.int .i64 ex]] w fun e w'=>e=.returned (.tuple #[.string ⟨(fmtD false dg.data.toList ex).toArray⟩,.int .i64 0]) ∧ Below w.heap.size w w':=by
 obtain ⟨hd1,hd2,he1,he2⟩:=decOk_bounds hok
 have hdl:dg.data.toList.length=dg.size:=by simp
 obtain ⟨k,hk⟩:∃ k:Nat,(dg.size:Int) + ex=k:=⟨((dg.size:Int) + ex).toNat,by omega⟩
 have hkn:k ≤ dg.size:=by omega
 obtain ⟨p1,hp1⟩:∃ p1,dg.extract 0 k=p1:=⟨_,rfl⟩
 obtain ⟨p2,hp2⟩:∃ p2,dg.extract k dg.size=p2:=⟨_,rfl⟩
 have hp1l:p1.data.toList=dg.data.toList.take k:=by rw [← hp1]; simp
 have hp2l:p2.data.toList=dg.data.toList.drop k:=by
  rw [← hp2]
  simp [List.take_of_length_le]
 have hp1z:p1.size=k:=by
  have:p1.data.toList.length=k:=by rw [hp1l,List.length_take]; omega
  simpa using this
 have hp2z:p2.size=dg.size - k:=by
  have:p2.data.toList.length=dg.size - k:=by rw [hp2l,List.length_drop,hdl]
  simpa using this
 obtain ⟨s1,hs1⟩:∃ s1,p1 ++ ⟨#[46]⟩=s1:=⟨_,rfl⟩
 have hs1z:s1.size=p1.size + 1:=by rw [← hs1,ByteArray.size_append]; rfl
 obtain ⟨s2,hs2⟩:∃ s2,s1 ++ p2=s2:=⟨_,rfl⟩
 have hs2z:s2.size=s1.size + p2.size:=by rw [← hs2,ByteArray.size_append]
 have hfin:[] ++ s2.data.toList=fmtD false dg.data.toList ex:=by
  unfold fmtD
  rw [if_neg (show ¬ (ex < -20 ∨ 20 < ex) by omega),if_neg (show ¬ 0 ≤ ex by omega),hdl,if_pos hc3,hk,Int.toNat_natCast,← hs2,app_list,← hs1,app_list,hp1l,hp2l]
  simp
 have yw:(decide (-20 ≤ ex) && decide (ex ≤ 20))=true:=by
  rw [decide_eq_true hc2,decide_eq_true (show ex ≤ 20 by omega)]
  rfl
 obtain ⟨fin,hfn⟩:∃ fin,fmtD false dg.data.toList ex=fin:=⟨_,rfl⟩
 rw [hfn] at hfin ⊢
 have HR:=Lib.hid (dec_Right false dg ex (by omega) (w.alloc (.cells #[.bool false,.string dg,.int .i64 ex] 23)))
 rw [hok] at HR
 have HW:=Lib.hid (fun W=>dec_within ex 20 (by decide) (by decide) W)
 simp only [yw] at HW
 have hk1:=Blk.new w #[.bool false,.string dg,.int .i64 ex] 23
 have hb1:=(Below.refl w.heap.size w).alloc (Nat.le_refl _) (.cells #[.bool false,.string dg,.int .i64 ex] 23)
 have c0:=hk1.cell 0
 have c1:=hk1.cell 1
 have c2:=hk1.cell 2
 have HFIN:=Lib.hid hfin
 have HS2Z:=Lib.hid (show s2.size ≤ 1000 by omega)
 have yl:wrap64 ((dg.size:Int) + ex)=k:=by unfold wrap64; omega
 have yc:¬ (0:Int) ≤ ex:=by omega
 have yp1:(0:Int) ≤ k:=by omega
 have yp2:(k:Int) ≤ dg.size:=by omega
 have yp3:(0:Int) < k:=by omega
 have yp4:min k dg.size=k:=by omega
 have ys1:¬ 9223372036854775807 < k + 1:=by omega
 have ys2:¬ 9223372036854775807 < k + 1 + (dg.size - k):=by omega
 have HS1:=Lib.hid hs1
 have HS2:=Lib.hid hs2
 have HP1:=Lib.hid hp1
 have HP2:=Lib.hid hp2
 clear hok hfin hfn hs2 hs2z yw hdl hs1 hs1z hp1 hp2 hp1l hp2l hp1z hp2z he1 he2
 go_enter Tryz.func144,Tryz.ntmps144
 go_wp2_with fail
 refine HR.out.mono ?_
 rintro e w2 ⟨rfl,hbR⟩
 have hk2:=hk1.below hbR hk1.lt
 have hb2:=hb1.trans (hbR.mono hb1.size)
 have hI3:IsB w.heap.size w2.heap.size (Lib.byteCells []) (w2.alloc (.cells #[.pointer none,.slice none 0 0] 81)):=
  .inl ⟨hb2.size,.slice none 0 0,Blk.new _ _ _,World.ownsRowF_nil _ _ _ _,by simp [Value.ownBlock]⟩
 have hk3:=hk2.alloc (.cells #[.pointer none,.slice none 0 0] 81)
 have hb3:=hb2.alloc hb2.size (.cells #[.pointer none,.slice none 0 0] 81)
 have hz3:w.heap.size < w2.heap.size:=hk2.lt
 clear hk1 hb1 c0 c1 c2 hbR HR hk2
 have c0:=hk3.cell 0
 have c1:=hk3.cell 1
 have c2:=hk3.cell 2
 go_wp2_with fail
 obtain ⟨w4,hw4⟩:∃ W,w2.alloc (.cells #[.pointer none,.slice none 0 0] 81)=W:=⟨_,rfl⟩
 rw [hw4] at hI3 hk3 hb3 c0 c1 c2 ⊢
 have hk4:=hk3
 have hI4:=hI3
 have hB4:=hb3
 clear hk3 hb3 hI3 hw4
 have hz4:=hB4.size
 obtain ⟨b,hbe⟩:∃ b,w2.heap.size=b:=⟨_,rfl⟩
 rw [hbe] at hI4 hz3 ⊢
 clear hbe hb2
 refine (HW.out _).mono ?_
 rintro e w5 ⟨rfl,rfl⟩
 have HWS:=Lib.hid (fun (W:World) (hI:IsB w.heap.size b (Lib.byteCells []) W) (hz:w.heap.size ≤ W.heap.size)=>b_WriteString w.heap.size b (Lib.byteCells []) s2 W hI (by have:=HS2Z.out; rw [Lib.byteCells_length]; show 0 + _ ≤ _; omega) hz)
 have hfc:∀ (l:List UInt8),Lib.byteCells l ++ Lib.strCells s2=Lib.byteCells (l ++ s2.data.toList):=fun l=>by simp [Lib.byteCells,Lib.strCells]
 simp only [hfc,HFIN.out] at HWS
 clear hfc HW
 have HI4:=Lib.hid hI4
 have HB4:=Lib.hid hB4
 have HK4:=Lib.hid hk4
 clear hI4 hB4 hk4
 go_wp2_with fail
 go_region_held3 (fun w'=>w'.cell? ⟨w.heap.size,0,none⟩=some (.bool false) ∧ w'.cell? ⟨w.heap.size,1,none⟩=some (.string dg) ∧ w'.cell? ⟨w.heap.size,2,none⟩=some (.int .i64 ex)) (go_keep)
  (first | (go_at_call 173; rw [HP1.out,HP2.out,HS1.out,HS2.out]; refine (HWS.out _ (isB_grown HI4.out (below_none ((Below.refl w4.heap.size w4).drew)) (fun r e=>by cases e)) hz4).mono ?_; rintro e w7 ⟨rfl,hA7,hb7,ho7⟩; have hk7:=others_blk ho7 (Blk.drew HK4.out) (by omega) (by decide); have c70:=hk7.cell 0; have c71:=hk7.cell 1; have c72:=hk7.cell 2))
 have hB7:Below w.heap.size w w7:=(HB4.out.trans (((Below.refl w4.heap.size w4).drew).mono HB4.out.size)).trans hb7
 have HST:=Lib.hid (Tryz.Builder_String_any_k w.heap.size b fin w7 hA7.is hB7.size)
 clear hk7 hb7 ho7 hA7 HWS HFIN HS2Z HS2 HB4 HK4 HI4
 go_wp2_with fail
 refine HST.out.mono ?_
 rintro e w8 ⟨rfl,_,hb8,_⟩
 have hB8:=hB7.trans hb8
 clear hB7 hb8 HST
 go_wp2_with fail
 refine bodyPost_ret (v:=.tuple #[.string ⟨fin.toArray⟩,.int .i64 0]) (by simp [results,Tryz.results144,go_sem]) rfl ⟨rfl,hB8⟩

set_option maxHeartbeats 4000000 in
set_option maxRecDepth 100000 in
theorem fmt_dn (dg:ByteArray) (ex:Int) (hok:decOk true dg ex=true) (hc:ex < 0) (hc2 : -20 ≤ ex) (hc3:¬ 0 < (dg.size:Int) + ex) (w:World) :
  Calls Tryz.prog 144 #[.agg #[.bool true,.string dg,.int .i64 ex]] w fun e w'=>e=.returned (.tuple #[.string ⟨(fmtD true dg.data.toList ex).toArray⟩,.int .i64 0]) ∧ Below w.heap.size w w':=by
 obtain ⟨hd1,hd2,he1,he2⟩:=decOk_bounds hok
 have hdl:dg.data.toList.length=dg.size:=by simp
 obtain ⟨k,hk⟩:∃ k:Nat,-((dg.size:Int) + ex)=k:=⟨(-((dg.size:Int) + ex)).toNat,by omega⟩
 obtain ⟨r,hr⟩:∃ r:ByteArray,(⟨(List.replicate k 48).toArray⟩:ByteArray)=r:=⟨_,rfl⟩
 have hrl:r.data.toList=List.replicate k 48:=by rw [← hr]
 have hrz:r.size=k:=by
  have:r.data.toList.length=k:=by rw [hrl,List.length_replicate]
  simpa using this
 have HI:=Lib.hid (fun (W:World)=>rep_F k (by omega) W)
 rw [hr] at HI
 obtain ⟨s1,hs1⟩:∃ s1,(⟨#[48,46]⟩:ByteArray) ++ r=s1:=⟨_,rfl⟩
 have hs1z:s1.size=2 + r.size:=by rw [← hs1,ByteArray.size_append]; rfl
 obtain ⟨s2,hs2⟩:∃ s2,s1 ++ dg=s2:=⟨_,rfl⟩
 have hs2z:s2.size=s1.size + dg.size:=by rw [← hs2,ByteArray.size_append]
 have hfin:[45] ++ s2.data.toList=fmtD true dg.data.toList ex:=by
  unfold fmtD
  rw [if_neg (show ¬ (ex < -20 ∨ 20 < ex) by omega),if_neg (show ¬ 0 ≤ ex by omega),hdl,if_neg hc3,hk,Int.toNat_natCast,← hs2,app_list,← hs1,app_list,hrl]
  simp
 have yw:(decide (-20 ≤ ex) && decide (ex ≤ 20))=true:=by
  rw [decide_eq_true hc2,decide_eq_true (show ex ≤ 20 by omega)]
  rfl
 obtain ⟨fin,hfn⟩:∃ fin,fmtD true dg.data.toList ex=fin:=⟨_,rfl⟩
 rw [hfn] at hfin ⊢
 have HR:=Lib.hid (dec_Right true dg ex (by omega) (w.alloc (.cells #[.bool true,.string dg,.int .i64 ex] 23)))
 rw [hok] at HR
 have HW:=Lib.hid (fun W=>dec_within ex 20 (by decide) (by decide) W)
 simp only [yw] at HW
 have hk1:=Blk.new w #[.bool true,.string dg,.int .i64 ex] 23
 have hb1:=(Below.refl w.heap.size w).alloc (Nat.le_refl _) (.cells #[.bool true,.string dg,.int .i64 ex] 23)
 have c0:=hk1.cell 0
 have c1:=hk1.cell 1
 have c2:=hk1.cell 2
 have HFIN:=Lib.hid hfin
 have HS2Z:=Lib.hid (show s2.size ≤ 1000 by omega)
 have yl:wrap64 ((dg.size:Int) + ex)=(dg.size:Int) + ex:=by unfold wrap64; omega
 have yn:¬ (0:Int) < (dg.size:Int) + ex:=hc3
 have yc:¬ (0:Int) ≤ ex:=by omega
 have ys1:¬ 9223372036854775807 < 2 + r.size:=by omega
 have ys2:¬ 9223372036854775807 < 2 + r.size + dg.size:=by omega
 have yk:IntKind.i64.wrap (-((dg.size:Int) + ex))=k:=by rw [IntKind.wrap_i64]; omega
 have HS1:=Lib.hid hs1
 have HS2:=Lib.hid hs2
 clear hok hfin hfn hs2 hs2z yw hdl hs1 hs1z hr hrl hrz he1 he2 hk
 go_enter Tryz.func144,Tryz.ntmps144
 go_wp2_with fail
 refine HR.out.mono ?_
 rintro e w2 ⟨rfl,hbR⟩
 have hk2:=hk1.below hbR hk1.lt
 have hb2:=hb1.trans (hbR.mono hb1.size)
 have hI3:IsB w.heap.size w2.heap.size (Lib.byteCells []) (w2.alloc (.cells #[.pointer none,.slice none 0 0] 81)):=
  .inl ⟨hb2.size,.slice none 0 0,Blk.new _ _ _,World.ownsRowF_nil _ _ _ _,by simp [Value.ownBlock]⟩
 have hk3:=hk2.alloc (.cells #[.pointer none,.slice none 0 0] 81)
 have hb3:=hb2.alloc hb2.size (.cells #[.pointer none,.slice none 0 0] 81)
 have hz3:w.heap.size < w2.heap.size:=hk2.lt
 clear hk1 hb1 c0 c1 c2 hbR HR hk2
 have c0:=hk3.cell 0
 have c1:=hk3.cell 1
 have c2:=hk3.cell 2
 have HB:=Lib.hid (b_WriteByte w.heap.size w2.heap.size [] 45 _ hI3 (by simp) hb3.size)
 clear hI3
 go_wp2_with fail
 refine HB.out.mono ?_
 rintro e w4 ⟨rfl,hA4,hb4,ho4⟩
 have hk4:=others_blk ho4 hk3 (by omega) (by decide)
 have hI4:IsB w.heap.size w2.heap.size (Lib.byteCells [45]) w4:=hA4.is
 have hB4:=hb3.trans hb4
 clear hk3 hb3 c0 c1 c2 hA4 hb4 ho4 HB
 have c0:=hk4.cell 0
 have c1:=hk4.cell 1
 have c2:=hk4.cell 2
 have hz4:=hB4.size
 obtain ⟨b,hbe⟩:∃ b,w2.heap.size=b:=⟨_,rfl⟩
 rw [hbe] at hI4 hz3 ⊢
 clear hbe hb2
 go_wp2_with fail
 refine (HW.out _).mono ?_
 rintro e w5 ⟨rfl,rfl⟩
 have HWS:=Lib.hid (fun (W:World) (hI:IsB w.heap.size b (Lib.byteCells [45]) W) (hz:w.heap.size ≤ W.heap.size)=>b_WriteString w.heap.size b (Lib.byteCells [45]) s2 W hI (by have:=HS2Z.out; rw [Lib.byteCells_length]; show 1 + _ ≤ _; omega) hz)
 have hfc:∀ (l:List UInt8),Lib.byteCells l ++ Lib.strCells s2=Lib.byteCells (l ++ s2.data.toList):=fun l=>by simp [Lib.byteCells,Lib.strCells]
 simp only [hfc,HFIN.out] at HWS
 clear hfc HW
 have HI4:=Lib.hid hI4
 have HB4:=Lib.hid hB4
 have HK4:=Lib.hid hk4
 clear hI4 hB4 hk4
 go_wp2_with fail
 go_region_held3 (fun w'=>w'.cell? ⟨w.heap.size,0,none⟩=some (.bool true) ∧ w'.cell? ⟨w.heap.size,1,none⟩=some (.string dg) ∧ w'.cell? ⟨w.heap.size,2,none⟩=some (.int .i64 ex)) (go_keep)
  (first | (go_at_call 141; refine (HI.out _).mono ?_; rintro e w6 ⟨rfl,hb6⟩; have hk6:=(Blk.drew HK4.out).below hb6 (Blk.drew HK4.out).lt; have c60:=hk6.cell 0; have c61:=hk6.cell 1; have c62:=hk6.cell 2) | (go_at_call 173; rw [HS1.out,HS2.out]; refine (HWS.out _ (isB_grown HI4.out (below_none (((Below.refl w4.heap.size w4).drew).trans hb6)) (fun r e=>by cases e)) (Nat.le_trans hz4 hb6.size)).mono ?_; rintro e w7 ⟨rfl,hA7,hb7,ho7⟩; have hk7:=others_blk ho7 hk6 (by omega) (by decide); have c70:=hk7.cell 0; have c71:=hk7.cell 1; have c72:=hk7.cell 2))
 have hB7:Below w.heap.size w w7:=(HB4.out.trans ((((Below.refl w4.heap.size w4).drew).trans hb6).mono HB4.out.size)).trans hb7
 have HST:=Lib.hid (Tryz.Builder_String_any_k w.heap.size b fin w7 hA7.is hB7.size)
 clear hk7 hb7 ho7 hA7 HWS HFIN HS2Z HS2 HB4 HK4 HI4
 go_wp2_with fail
 refine HST.out.mono ?_
 rintro e w8 ⟨rfl,_,hb8,_⟩
 have hB8:=hB7.trans hb8
 clear hB7 hb8 HST
 go_wp2_with fail
 refine bodyPost_ret (v:=.tuple #[.string ⟨fin.toArray⟩,.int .i64 0]) (by simp [results,Tryz.results144,go_sem]) rfl ⟨rfl,hB8⟩

set_option maxHeartbeats 4000000 in
set_option maxRecDepth 100000 in
theorem fmt_dp (dg:ByteArray) (ex:Int) (hok:decOk false dg ex=true) (hc:ex < 0) (hc2 : -20 ≤ ex) (hc3:¬ 0 < (dg.size:Int) + ex) (w:World) :
  Calls Tryz.prog 144 #[.agg #[.bool false,.string dg,.int .i64 ex]] w fun e w'=>e=.returned (.tuple #[.string ⟨(fmtD false dg.data.toList ex).toArray⟩,.int .i64 0]) ∧ Below w.heap.size w w':=by
 obtain ⟨hd1,hd2,he1,he2⟩:=decOk_bounds hok
 have hdl:dg.data.toList.length=dg.size:=by simp
 obtain ⟨k,hk⟩:∃ k:Nat,-((dg.size:Int) + ex)=k:=⟨(-((dg.size:Int) + ex)).toNat,by omega⟩
 obtain ⟨r,hr⟩:∃ r:ByteArray,(⟨(List.replicate k 48).toArray⟩:ByteArray)=r:=⟨_,rfl⟩
 have hrl:r.data.toList=List.replicate k 48:=by rw [← hr]
 have hrz:r.size=k:=by
  have:r.data.toList.length=k:=by rw [hrl,List.length_replicate]
  simpa using this
 have HI:=Lib.hid (fun (W:World)=>rep_F k (by omega) W)
 rw [hr] at HI
 obtain ⟨s1,hs1⟩:∃ s1,(⟨#[48,46]⟩:ByteArray) ++ r=s1:=⟨_,rfl⟩
 have hs1z:s1.size=2 + r.size:=by rw [← hs1,ByteArray.size_append]; rfl
 obtain ⟨s2,hs2⟩:∃ s2,s1 ++ dg=s2:=⟨_,rfl⟩
 have hs2z:s2.size=s1.size + dg.size:=by rw [← hs2,ByteArray.size_append]
 have hfin:[] ++ s2.data.toList=fmtD false dg.data.toList ex:=by
  unfold fmtD
  rw [if_neg (show ¬ (ex < -20 ∨ 20 < ex) by omega),if_neg (show ¬ 0 ≤ ex by omega),hdl,if_neg hc3,hk,Int.toNat_natCast,← hs2,app_list,← hs1,app_list,hrl]
  simp
 have yw:(decide (-20 ≤ ex) && decide (ex ≤ 20))=true:=by
  rw [decide_eq_true hc2,decide_eq_true (show ex ≤ 20 by omega)]
  rfl
 obtain ⟨fin,hfn⟩:∃ fin,fmtD false dg.data.toList ex=fin:=⟨_,rfl⟩
 rw [hfn] at hfin ⊢
 have HR:=Lib.hid (dec_Right false dg ex (by omega) (w.alloc (.cells #[.bool false,.string dg,.int .i64 ex] 23)))
 rw [hok] at HR
 have HW:=Lib.hid (fun W=>dec_within ex 20 (by decide) (by decide) W)
 simp only [yw] at HW
 have hk1:=Blk.new w #[.bool false,.string dg,.int .i64 ex] 23
 have hb1:=(Below.refl w.heap.size w).alloc (Nat.le_refl _) (.cells #[.bool false,.string dg,.int .i64 ex] 23)
 have c0:=hk1.cell 0
 have c1:=hk1.cell 1
 have c2:=hk1.cell 2
 have HFIN:=Lib.hid hfin
 have HS2Z:=Lib.hid (show s2.size ≤ 1000 by omega)
 have yl:wrap64 ((dg.size:Int) + ex)=(dg.size:Int) + ex:=by unfold wrap64; omega
 have yn:¬ (0:Int) < (dg.size:Int) + ex:=hc3
 have yc:¬ (0:Int) ≤ ex:=by omega
 have ys1:¬ 9223372036854775807 < 2 + r.size:=by omega
 have ys2:¬ 9223372036854775807 < 2 + r.size + dg.size:=by omega
 have yk:IntKind.i64.wrap (-((dg.size:Int) + ex))=k:=by rw [IntKind.wrap_i64]; omega
 have HS1:=Lib.hid hs1
 have HS2:=Lib.hid hs2
 clear hok hfin hfn hs2 hs2z yw hdl hs1 hs1z hr hrl hrz he1 he2 hk
 go_enter Tryz.func144,Tryz.ntmps144
 go_wp2_with fail
 refine HR.out.mono ?_
 rintro e w2 ⟨rfl,hbR⟩
 have hk2:=hk1.below hbR hk1.lt
 have hb2:=hb1.trans (hbR.mono hb1.size)
 have hI3:IsB w.heap.size w2.heap.size (Lib.byteCells []) (w2.alloc (.cells #[.pointer none,.slice none 0 0] 81)):=
  .inl ⟨hb2.size,.slice none 0 0,Blk.new _ _ _,World.ownsRowF_nil _ _ _ _,by simp [Value.ownBlock]⟩
 have hk3:=hk2.alloc (.cells #[.pointer none,.slice none 0 0] 81)
 have hb3:=hb2.alloc hb2.size (.cells #[.pointer none,.slice none 0 0] 81)
 have hz3:w.heap.size < w2.heap.size:=hk2.lt
 clear hk1 hb1 c0 c1 c2 hbR HR hk2
 have c0:=hk3.cell 0
 have c1:=hk3.cell 1
 have c2:=hk3.cell 2
 go_wp2_with fail
 obtain ⟨w4,hw4⟩:∃ W,w2.alloc (.cells #[.pointer none,.slice none 0 0] 81)=W:=⟨_,rfl⟩
 rw [hw4] at hI3 hk3 hb3 c0 c1 c2 ⊢
 have hk4:=hk3
 have hI4:=hI3
 have hB4:=hb3
 clear hk3 hb3 hI3 hw4
 have hz4:=hB4.size
 obtain ⟨b,hbe⟩:∃ b,w2.heap.size=b:=⟨_,rfl⟩
 rw [hbe] at hI4 hz3 ⊢
 clear hbe hb2
 refine (HW.out _).mono ?_
 rintro e w5 ⟨rfl,rfl⟩
 have HWS:=Lib.hid (fun (W:World) (hI:IsB w.heap.size b (Lib.byteCells []) W) (hz:w.heap.size ≤ W.heap.size)=>b_WriteString w.heap.size b (Lib.byteCells []) s2 W hI (by have:=HS2Z.out; rw [Lib.byteCells_length]; show 0 + _ ≤ _; omega) hz)
 have hfc:∀ (l:List UInt8),Lib.byteCells l ++ Lib.strCells s2=Lib.byteCells (l ++ s2.data.toList):=fun l=>by simp [Lib.byteCells,Lib.strCells]
 simp only [hfc,HFIN.out] at HWS
 clear hfc HW
 have HI4:=Lib.hid hI4
 have HB4:=Lib.hid hB4
 have HK4:=Lib.hid hk4
 clear hI4 hB4 hk4
 go_wp2_with fail
 go_region_held3 (fun w'=>w'.cell? ⟨w.heap.size,0,none⟩=some (.bool false) ∧ w'.cell? ⟨w.heap.size,1,none⟩=some (.string dg) ∧ w'.cell? ⟨w.heap.size,2,none⟩=some (.int .i64 ex)) (go_keep)
  (first | (go_at_call 141; refine (HI.out _).mono ?_; rintro e w6 ⟨rfl,hb6⟩; have hk6:=(Blk.drew HK4.out).below hb6 (Blk.drew HK4.out).lt; have c60:=hk6.cell 0; have c61:=hk6.cell 1; have c62:=hk6.cell 2) | (go_at_call 173; rw [HS1.out,HS2.out]; refine (HWS.out _ (isB_grown HI4.out (below_none (((Below.refl w4.heap.size w4).drew).trans hb6)) (fun r e=>by cases e)) (Nat.le_trans hz4 hb6.size)).mono ?_; rintro e w7 ⟨rfl,hA7,hb7,ho7⟩; have hk7:=others_blk ho7 hk6 (by omega) (by decide); have c70:=hk7.cell 0; have c71:=hk7.cell 1; have c72:=hk7.cell 2))
 have hB7:Below w.heap.size w w7:=(HB4.out.trans ((((Below.refl w4.heap.size w4).drew).trans hb6).mono HB4.out.size)).trans hb7
 have HST:=Lib.hid (Tryz.Builder_String_any_k w.heap.size b fin w7 hA7.is hB7.size)
 clear hk7 hb7 ho7 hA7 HWS HFIN HS2Z HS2 HB4 HK4 HI4
 go_wp2_with fail
 refine HST.out.mono ?_
 rintro e w8 ⟨rfl,_,hb8,_⟩
 have hB8:=hB7.trans hb8
 clear hB7 hb8 HST
 go_wp2_with fail
 refine bodyPost_ret (v:=.tuple #[.string ⟨fin.toArray⟩,.int .i64 0]) (by simp [results,Tryz.results144,go_sem]) rfl ⟨rfl,hB8⟩

theorem dec_Format (neg:Bool) (dg:ByteArray) (ex:Int) (hok:decOk neg dg ex=true) (w:World) (htab:Pow10F w) :
  Calls Tryz.prog 144 #[.agg #[.bool neg,.string dg,.int .i64 ex]] w fun e w'=>e=.returned (.tuple #[.string ⟨(fmtD neg dg.data.toList ex).toArray⟩,.int .i64 0]) ∧ Below w.heap.size w w':=by
 by_cases h1:ex < -20 ∨ 20 < ex
 ·cases neg
  ·exact fmt_ap dg ex hok h1 w htab
  ·exact fmt_an dg ex hok h1 w htab
 ·by_cases h2:0 ≤ ex
  ·cases neg
   ·exact fmt_bp dg ex hok h2 (by omega) w
   ·exact fmt_bn dg ex hok h2 (by omega) w
  ·by_cases h3:0 < (dg.size:Int) + ex
   ·cases neg
    ·exact fmt_cp dg ex hok (by omega) (by omega) h3 w
    ·exact fmt_cn dg ex hok (by omega) (by omega) h3 w
   ·cases neg
    ·exact fmt_dp dg ex hok (by omega) (by omega) h3 w
    ·exact fmt_dn dg ex hok (by omega) (by omega) h3 w
end Go.Proofs.YtfckekaegjjmkaaGreatDoor
