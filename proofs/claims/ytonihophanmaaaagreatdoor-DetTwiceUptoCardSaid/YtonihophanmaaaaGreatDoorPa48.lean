/- The texts DtK, DsT, put together. -/
import Derived.Test.YtonihophanmaaaaGreatDoorPa46
import Derived.Test.YtonihophanmaaaaGreatDoorPa47
import Derived.Test.YtonihophanmaaaaGreatDoorPa18
namespace Go.Proofs.YtonihophanmaaaaGreatDoor
open Go.RowKit Go.Shelf
theorem risesTo_iff (it:Nat→ByteArray):∀ m,risesTo it m=true↔∀ i,i+1<m→Op.bytesLess (it i).toList (it (i+1)).toList=true
 | 0=>by simp [risesTo]
 | 1=>by simp [risesTo]
 | m+2=>by
  rw [risesTo,Bool.and_eq_true,risesTo_iff it (m+1)]
  constructor
  ·intro ⟨h1,h2⟩ i hi
   by_cases e:i=m
   ·rw [e]; exact h2
   ·exact h1 i (by omega)
  ·exact fun h=>⟨fun i hi=>h i (by omega),h m (by omega)⟩
theorem risesB_iff (it:Tr→List UInt8):∀ l:List Tr,risesB it l=true↔∀ i a b,l[2*i]? = some a→l[2*i+2]? = some b→2*i+3<l.length→it a<it b
 | []=>by simp [risesB]
 | [_]=>by simp [risesB]
 | [_,_]=>by simp [risesB]
 | [_,_,_]=>by
  simp only [risesB,true_iff]
  intro i a b _ _ h
  simp only [List.length_cons,List.length_nil]at h
  omega
 | k::v::k2::v2::l=>by
  rw [risesB,Bool.and_eq_true,decide_eq_true_iff,risesB_iff it (k2::v2::l)]
  constructor
  ·intro ⟨h1,h2⟩ i a b ha hb hi
   cases i with
   | zero =>
    have ha':k=a:=by simpa using ha
    have hb':k2=b:=by simpa using hb
    rw [← ha',← hb']
    exact h1
   | succ i =>
    exact h2 i a b (by rw [show 2*(i+1)=2*i+1+1 from by omega]at ha; simpa using ha) (by rw [show 2*(i+1)+2=2*i+2+1+1 from by omega]at hb; simpa using hb) (by simp at hi ⊢; omega)
  ·intro h
   exact ⟨h 0 k k2 (by simp) (by simp) (by simp),fun i a b ha hb hi=>h (i+1) a b (by rw [show 2*(i+1)=2*i+1+1 from by omega]; simpa using ha) (by rw [show 2*(i+1)+2=2*i+2+1+1 from by omega]; simpa using hb) (by simp at hi ⊢; omega)⟩
theorem itemS_key {k:Tr} (h:checkT 2 flC (keyOf k)=0):itemS k=bs (cbT k):=by
 unfold itemS wroteC
 rw [h,if_pos rfl]
 rfl
theorem key_ok3 {o:Own} {l:List Tr} {k:Tr} (ha:allB (.nd o l)=true) (hf:fitT 3 flR (.nd o l)=true) (h8:o.kind=8) (i:Nat) (hk:l[2*i]? = some k):checkT 2 flC (keyOf k)=0:=by
 have hm:k∈l:=List.mem_of_getElem? hk
 have hi:=(List.getElem?_eq_some_iff.1 hk).1
 have ha':=allL_mem (own_of_all ha).2 hm
 have hf':=fitL_mem (fit_parts hf).2 hm
 have hkf:=keysFit_mem 3 l i hi (fit_keys (fit_parts hf).1 h8)
 rw [List.getElem?_eq_getElem hi]at hk
 rw [Option.some.inj hk,keyO_23]at hkf
 refine (key1_check k).2 ⟨ha',?_,hkf⟩
 obtain ⟨ok,lk⟩:=k
 obtain ⟨h1,_,h4⟩:=keyO_leaf hkf (own_of_all ha').1
 subst h1
 have:=(fit_parts hf').1
 rw [fitO_23 flR flC ok [] h4]at this
 rw [fitT,this,fitL]
 rfl
mutual
theorem srt_sort:∀ t:Tr,allB t=true→fitT 3 flR t=true→srtT t=sortB cbT t
 | .nd o l,ha,hf=>by
  rw [srtT,sortB,srt_sortL l (own_of_all ha).2 (fit_parts hf).2]
  by_cases h8:o.kind=8
  ·have hev:=(own_even (own_of_all ha).1 h8).1
   have e:risesTo (itemN l) (l.length / 2)=risesB cbT l:=by
    rw [Bool.eq_iff_iff,risesTo_iff,risesB_iff]
    have hitem:∀ i k,l[2*i]? = some k→(itemN l i).toList=cbT k:=fun i k hk=>by
     unfold itemN
     rw [List.getD_eq_getElem?_getD,hk]
     show (itemS k).toList=_
     rw [itemS_key (key_ok3 ha hf h8 i hk),ByteArray.toList_eq]
     rfl
    constructor
    ·intro h i a b h1 h2 hi
     have:=h i (by omega)
     rw [hitem i a h1,hitem (i+1) b (by rw [show 2*(i+1)=2*i+2 from by omega]; exact h2),Go.Proofs.bytesLess_eq,decide_eq_true_iff]at this
     exact this
    ·intro h i hi
     have h1:l[2*i]? = some l[2*i]:=List.getElem?_eq_getElem (by omega)
     have h2:l[2*(i+1)]? = some l[2*(i+1)]:=List.getElem?_eq_getElem (by omega)
     rw [hitem i _ h1,hitem (i+1) _ h2,Go.Proofs.bytesLess_eq,decide_eq_true_iff]
     exact h i _ _ h1 (by rw [show 2*i+2=2*(i+1) from by omega]; exact h2) (by omega)
   rw [e]
  ·rw [decide_eq_false h8]
   rfl
theorem srt_sortL:∀ l:List Tr,allL l=true→fitL 3 flR l=true→srtL l=sortBL cbT l
 | [],_,_=>by rw [srtL,sortBL]
 | t::l,ha,hf=>by
  rw [srtL,sortBL,srt_sort t (all_cons ha).1 (fit_cons hf).1,srt_sortL l (all_cons ha).2 (fit_cons hf).2]
end
theorem settled_facts {t:Tr} (h:checkT 2 flC t=0) (hs:SetOk t):checkT 2 flC (setT cbT narR t)=0∧setT cbT narR (setT cbT narR t)=setT cbT narR t∧checkT 3 flR (setT cbT narR t)=0∧srtT (setT cbT narR t)=true∧(setT cbT narR t).count=t.count∧(setT cbT narR t).depth=t.depth:=by
 obtain ⟨h1,h2,h3,h4⟩:=check_zero.1 h
 obtain ⟨i1,i2,i3,i4⟩:=set_inv (it:=cbT) narR_ok t hs.all
 have h5:=set_fit (it:=cbT) narR_ok narR_fit t hs.all hs.fit
 refine ⟨set_check narR_ok t h,set_set narR_ok items_okC t hs.all hs.ok,check_zero.2 ⟨by omega,by omega,i3,h5⟩,?_,i1,i2⟩
 rw [srt_sort _ i3 h5]
 exact set_sorted narR_ok items_okC t hs.all hs.fit hs.ok
theorem few_okD {t:Tr} (h:OwnOk t.own):OwnOk (fewT t).own:=by
 rw [fewT_own]
 exact cut_ok h
set_option maxHeartbeats 8000000 in
set_option maxRecDepth 100000 in
theorem twice_walk {aT aF:Addr} (t0:Tr) (vt:Value) (w:World) (h:RW w aT aF) (D:Nat) (hl:ListAt w w.heap.size D t0.kids vt) (ho:OwnOk t0.own) (hc:t0.count≤1048576) :
  Calls Tryz.prog 8 #[nodeV t0.own vt] w fun e w'=>e=.returned (.bool true)∧Below w.heap.size w w':=by
 have H0:=Lib.hid (fun W (hW:Below w.heap.size w W)=>det_shown (aT:=aT) (aF:=aF) W (h.below hW))
 have HU:=Lib.hid (fun W (hW:Below w.heap.size w W)=>(h.below hW).g)
 have HF:=Lib.hid (fun W (hW:Below w.heap.size w W)=>law_FewT t0 vt W w.heap.size D (hl.below hW (Nat.le_refl _)) ho hW.size (by omega))
 have hto:=few_okD ho
 have htc:=few_count t0
 have hv:∃ A m c,vt=.slice A m c:=by
  obtain ⟨_,A,c,e⟩:=hl.slice
  exact ⟨A,_,c,e⟩
 obtain ⟨o0,ho0⟩:∃ o,t0.own=o:=⟨_,rfl⟩
 rw [ho0]at HF ⊢
 generalize fewT t0=t at HF hto htc
 obtain ⟨kind0,b0,neg0,dg0,ex0,u0,wd0,s0⟩:=o0
 unfold nodeV at HF ⊢
 simp only []at HF ⊢
 have hb1:Below w.heap.size w (w.alloc (.cells #[.int .i64 kind0,.bool b0,.bool neg0,.string dg0,.int .i64 ex0,.int .u64 u0,.int .i64 wd0,.string s0,vt] 28)):=(Below.refl _ _).alloc (Nat.le_refl _) _
 have hk1:=Blk.new w #[.int .i64 kind0,.bool b0,.bool neg0,.string dg0,.int .i64 ex0,.int .u64 u0,.int .i64 wd0,.string s0,vt] 28
 have HB1:=Lib.hid hb1
 have HK1:=Lib.hid hk1
 clear hl ho hc ho0 h hb1 hk1
 obtain ⟨A0,m0,c0,rfl⟩:=hv
 go_enter Tryz.func8,Tryz.ntmps8
 go_wp2_with fail
 refine (H0.out _ HB1.out).mono ?_
 rintro e w2 ⟨rfl,hb2⟩
 have hbw2:=HB1.out.trans (hb2.mono HB1.out.size)
 have hk2:=HK1.out.below hb2 HK1.out.lt
 have HK2:=Lib.hid hk2
 have HBW2:=Lib.hid hbw2
 clear hb2 hbw2 hk2 HB1 HK1 H0
 go_wp2_with (refine wpList_load_row rfl 28 (.tmp 1) rfl w.heap.size rfl 28 _ (0,0) _ HK2.out Tryz.underlying28 rfl (by kernel_rfl) ?_)
 refine (HF.out _ HBW2.out).mono ?_
 rintro e w3 ⟨⟨y,rfl,hly⟩,hb3⟩
 obtain ⟨_,A1,c1,rfl⟩:=hly.slice
 obtain ⟨n1,hn1⟩:∃ n1,t.kids.length=n1:=⟨_,rfl⟩
 rw [hn1]at hly ⊢
 obtain ⟨⟨kind1,b1,neg1,dg1,ex1,u1,wd1,s1⟩,ho1⟩:∃ o,t.own=o:=⟨_,rfl⟩
 have HTO:=Lib.hid hto
 rw [ho1]
 simp only []
 have hk3:=HK2.out.below hb3 HK2.out.lt
 have hbw3:=HBW2.out.trans (hb3.mono HBW2.out.size)
 have hz2:=HBW2.out.size
 have hz3:=hb3.size
 have hlt2:=HK2.out.lt
 obtain ⟨W4,hW4⟩:∃ W4,w3.setRow w.heap.size #[.int .i64 kind1,.bool b1,.bool neg1,.string dg1,.int .i64 ex1,.int .u64 u1,.int .i64 wd1,.string s1,.slice A1 n1 c1]=W4:=⟨_,rfl⟩
 have hg4:w3.grownBy W4 (some w.heap.size):=by rw [← hW4]; exact grown_row w3 w.heap.size #[.int .i64 kind1,.bool b1,.bool neg1,.string dg1,.int .i64 ex1,.int .u64 u1,.int .i64 wd1,.string s1,.slice A1 n1 c1]
 have hz4:W4.heap.size=w3.heap.size:=by rw [← hW4,setRow_size]
 have hk4:Blk W4 w.heap.size #[.int .i64 kind1,.bool b1,.bool neg1,.string dg1,.int .i64 ex1,.int .u64 u1,.int .i64 wd1,.string s1,.slice A1 n1 c1] 28:=by rw [← hW4]; exact blk_row hk3 #[.int .i64 kind1,.bool b1,.bool neg1,.string dg1,.int .i64 ex1,.int .u64 u1,.int .i64 wd1,.string s1,.slice A1 n1 c1]
 have hbw4:Below w.heap.size w W4:=hbw3.grown hg4 hbw3.size (fun q e=>by cases e; exact Nat.le_refl _)
 have hl4:LAt W4 (fun q=>w.heap.size<q∧q<W4.heap.size) 17 t.kids (.slice A1 n1 c1):=(hly.keep (fun q hq=>hg4.block q hq.2 (fun e=>by injection e with e; omega))).mono (fun q hq=>⟨by have:=hq.1; omega,by rw [hz4]; exact hq.2⟩)
 have HK3:=Lib.hid hk3
 have HK4:=Lib.hid hk4
 have HBW4:=Lib.hid hbw4
 have HL4:=Lib.hid hl4
 have HW4:=Lib.hid hW4
 have HO1:=Lib.hid ho1
 have HN1:=Lib.hid hn1
 have hlt4:=hk4.lt
 clear hk3 hbw3 hz2 hz3 hlt2 hg4 hk4 hbw4 hl4 hW4 hb3 hly HK2 HBW2 HF ho1 hto
 go_upto_region 3 with (refine wpList_store_row rfl 28 (.tmp 1) (.tmp 10) rfl w.heap.size #[.int .i64 kind1,.bool b1,.bool neg1,.string dg1,.int .i64 ex1,.int .u64 u1,.int .i64 wd1,.string s1,.slice A1 n1 c1] rfl rfl 28 _ HK3.out (by kernel_rfl) rfl (by simp [Value.oneCell']) ?_)
 rw [HW4.out]
 clear HW4 HK3 hz4
 have hse:=fun (W:World) (hW:Below W4.heap.size W4 W)=>det_Settle t (.slice A1 n1 c1) W (fun q=>w.heap.size<q∧q<W4.heap.size) 17 aT aF (HL4.out.keep (fun q hq=>hW.block q hq.2)) HTO.out (fun q hq=>Nat.lt_of_lt_of_le hq.2 hW.size) (by omega) (HU.out W (HBW4.out.trans (hW.mono HBW4.out.size)))
 have hse:=hse W4 (Below.refl _ _)
 rw [HO1.out]at hse
 unfold nodeV at hse
 simp only []at hse
 have HSE:=Lib.hid hse
 clear hse
 go_wp2_with (refine wpList_load_row rfl 28 (.tmp 1) rfl w.heap.size rfl 28 _ (0,0) _ HK4.out Tryz.underlying28 rfl (by kernel_rfl) ?_)
 refine HSE.out.mono ?_
 rintro e w5 ⟨⟨A2,c2,rfl,hl5⟩,hb5⟩
 obtain ⟨sa,hsa⟩:∃ sa,detS t=sa:=⟨_,rfl⟩
 rw [hsa]at hl5 ⊢
 obtain ⟨n2,hn2⟩:∃ n2,sa.kids.length=n2:=⟨_,rfl⟩
 rw [hn2]at hl5 ⊢
 have hoa:OwnOk sa.own:=by
  rw [← hsa]
  unfold detS
  split
  ·exact set_ownok HTO.out
  ·exact zeroO_ok
 have hca:sa.count≤400:=by
  rw [← hsa]
  unfold detS
  split
  ·rename_i h0
   rw [set_count (setOk_of HL4.out HTO.out h0)]
   exact htc
  ·decide
 obtain ⟨⟨kind2,b2,neg2,dg2,ex2,u2,wd2,s2⟩,ho2⟩:∃ o,sa.own=o:=⟨_,rfl⟩
 rw [ho2]
 simp only []
 obtain ⟨W5,hW5⟩:∃ W5,w5.alloc (.cells #[.int .i64 kind2,.bool b2,.bool neg2,.string dg2,.int .i64 ex2,.int .u64 u2,.int .i64 wd2,.string s2,.slice A2 n2 c2] 28)=W5:=⟨_,rfl⟩
 have hal5:Below w5.heap.size w5 W5:=by rw [← hW5]; exact (Below.refl _ _).alloc (Nat.le_refl _) _
 have hkA:Blk W5 w5.heap.size #[.int .i64 kind2,.bool b2,.bool neg2,.string dg2,.int .i64 ex2,.int .u64 u2,.int .i64 wd2,.string s2,.slice A2 n2 c2] 28:=by rw [← hW5]; exact Blk.new _ _ _
 have hb45:Below W4.heap.size W4 W5:=hb5.trans (hal5.mono hb5.size)
 have hkN:=HK4.out.below hb45 HK4.out.lt
 have hbw5:=HBW4.out.trans (hb45.mono HBW4.out.size)
 have hlN:=HL4.out.keep (W':=W5) (fun q hq=>hb45.block q hq.2)
 have hlA:LAt W5 (fun q=>w.heap.size<q∧q<w5.heap.size) 17 sa.kids (.slice A2 n2 c2):=(hl5.keep (fun q hq=>hal5.block q hq.2)).mono (fun q hq=>⟨by rcases hq.1 with hh | hh; exact hh.1; omega,hq.2⟩)
 have HKN:=Lib.hid hkN
 have HKA:=Lib.hid hkA
 have HBW5:=Lib.hid hbw5
 have HLN:=Lib.hid hlN
 have HLA:=Lib.hid hlA
 have HSA:=Lib.hid hsa
 have HOA:=Lib.hid hoa
 have HO2:=Lib.hid ho2
 have HN2:=Lib.hid hn2
 have HW5:=Lib.hid hW5
 have hz54:=hb45.size
 have hz5:w5.heap.size<W5.heap.size:=hkA.lt
 have hck:=fun (h0:checkT 2 flC t=0)=>settled_facts h0 (setOk_of HL4.out HTO.out h0)
 obtain ⟨e0,he0⟩:∃ e0,checkT 2 flC t=e0:=⟨_,rfl⟩
 rw [he0]
 have HCK:=Lib.hid hck
 have HE0:=Lib.hid he0
 clear hW5 hal5 hkA hb45 hkN hbw5 hlN hlA hsa hoa ho2 hn2 hl5 hb5 HK4 HBW4 HL4 HSE hck he0
 go_upto_region 4 with fail
 rw [HW5.out]
 clear HW5
 have hse:=det_Settle sa (.slice A2 n2 c2) W5 (fun q=>w.heap.size<q∧q<w5.heap.size) 17 aT aF HLA.out HOA.out (fun q hq=>by omega) (by omega) (HU.out W5 HBW5.out)
 rw [HO2.out]at hse
 unfold nodeV at hse
 simp only []at hse
 have HSE:=Lib.hid hse
 clear hse
 go_wp2_with (refine wpList_load_row rfl 28 (.tmp 4) rfl w5.heap.size rfl 28 _ (0,0) _ HKA.out Tryz.underlying28 rfl (by kernel_rfl) ?_)
 refine HSE.out.mono ?_
 rintro e w6 ⟨⟨A3,c3,rfl,hl6⟩,hb6⟩
 obtain ⟨sb,hsb⟩:∃ sb,detS sa=sb:=⟨_,rfl⟩
 obtain ⟨e1,he1⟩:∃ e1,checkT 2 flC sa=e1:=⟨_,rfl⟩
 rw [hsb]at hl6
 rw [hsb,he1]
 obtain ⟨n3,hn3⟩:∃ n3,sb.kids.length=n3:=⟨_,rfl⟩
 rw [hn3]at hl6 ⊢
 obtain ⟨⟨kind3,b3,neg3,dg3,ex3,u3,wd3,s3⟩,ho3⟩:∃ o,sb.own=o:=⟨_,rfl⟩
 rw [ho3]
 simp only []
 obtain ⟨W0,hW0⟩:∃ W0,w6.alloc (.cells #[.int .i64 kind3,.bool b3,.bool neg3,.string dg3,.int .i64 ex3,.int .u64 u3,.int .i64 wd3,.string s3,.slice A3 n3 c3] 28)=W0:=⟨_,rfl⟩
 have hal6:Below w6.heap.size w6 W0:=by rw [← hW0]; exact (Below.refl _ _).alloc (Nat.le_refl _) _
 have hkB:Blk W0 w6.heap.size #[.int .i64 kind3,.bool b3,.bool neg3,.string dg3,.int .i64 ex3,.int .u64 u3,.int .i64 wd3,.string s3,.slice A3 n3 c3] 28:=by rw [← hW0]; exact Blk.new _ _ _
 have hb50:Below W5.heap.size W5 W0:=hb6.trans (hal6.mono hb6.size)
 have hkN:=HKN.out.below hb50 HKN.out.lt
 have hkA:=HKA.out.below hb50 HKA.out.lt
 have hbw0:=HBW5.out.trans (hb50.mono HBW5.out.size)
 have hz0:=hkB.lt
 have hz56:=hb6.size
 have hlN:ListAt W0 w6.heap.size 17 t.kids (.slice A1 n1 c1):=(HLN.out.keep (W':=W0) (fun q hq=>hb50.block q (by omega))).mono (fun q hq=>by omega)
 have hlA:ListAt W0 w6.heap.size 17 sa.kids (.slice A2 n2 c2):=(HLA.out.keep (W':=W0) (fun q hq=>hb50.block q (by omega))).mono (fun q hq=>by omega)
 have hlB:ListAt W0 w6.heap.size 17 sb.kids (.slice A3 n3 c3):=(hl6.keep (fun q hq=>hal6.block q hq.2)).mono (fun q hq=>hq.2)
 have HKN:=Lib.hid hkN
 have HKA:=Lib.hid hkA
 have HKB:=Lib.hid hkB
 have HBW0:=Lib.hid hbw0
 have HLN:=Lib.hid hlN
 have HLA:=Lib.hid hlA
 have HLB:=Lib.hid hlB
 have HSB:=Lib.hid hsb
 have HO3:=Lib.hid ho3
 have HN3:=Lib.hid hn3
 have HE1:=Lib.hid he1
 have HW0:=Lib.hid hW0
 clear hW0 hal6 hkB hb50 hkN hkA hbw0 hlN hlA hlB hsb ho3 hn3 he1 hl6 hb6 HSE
 have HCN:=Lib.hid (fun (f:Int) (fl:Own→Bool) (hfits:FitsC aT aF f fl) (W:World) (hW:Below W0.heap.size W0 W)=>tree_Check f fl hfits t (.slice A1 n1 c1) W w6.heap.size 17 (HLN.out.below hW (by omega)) HTO.out (by have:=hW.size; omega) (by omega) (HU.out W (HBW0.out.trans (hW.mono HBW0.out.size))))
 by_cases h0:e0=0
 ·subst h0
  have hck0:=HE0.out
  obtain ⟨f1,f2,f3,f4,f5,f6⟩:=HCK.out hck0
  have hsa:sa=setT cbT narR t:=by
   rw [← HSA.out]
   exact if_pos hck0
  rw [← hsa]at f1 f2 f3 f4 f5 f6
  have he1:e1=0:=HE1.out.symm.trans f1
  have hsb:sb=sa:=by
   rw [← HSB.out]
   exact (if_pos f1).trans f2
  subst he1
  have hsm:=fun (W:World) (hW:Below W0.heap.size W0 W)=>ref_SameT 17 sa sb (.slice A2 n2 c2) (.slice A3 n3 c3) W w6.heap.size 17 (HLA.out.below hW (by omega)) (HLB.out.below hW (by omega)) (by have:=hW.size; omega)
  rw [show sameT sa sb=true by rw [hsb]; exact sameT_refl _]at hsm
  have his:=fun (W:World) (hW:Below W0.heap.size W0 W)=>det_IsSettled sa (.slice A2 n2 c2) W w6.heap.size 17 aT aF (HLA.out.below hW (by omega)) HOA.out (by have:=hW.size; omega) (by omega) (HU.out W (HBW0.out.trans (hW.mono HBW0.out.size)))
  rw [f3,f4]at his
  have hcd:=fun (W:World) (hW:Below W0.heap.size W0 W)=>tree_Check 3 flR (fits_at_D aT aF) sa (.slice A2 n2 c2) W w6.heap.size 17 (HLA.out.below hW (by omega)) HOA.out (by have:=hW.size; omega) (by omega) (HU.out W (HBW0.out.trans (hW.mono HBW0.out.size)))
  rw [f3]at hcd
  have hca:=fun (W:World) (hW:Below W0.heap.size W0 W)=>tree_Count sa (.slice A2 n2 c2) W w6.heap.size 17 (HLA.out.below hW (by omega)) HOA.out (by have:=hW.size; omega) (by omega)
  have hcn:=fun (W:World) (hW:Below W0.heap.size W0 W)=>tree_Count t (.slice A1 n1 c1) W w6.heap.size 17 (HLN.out.below hW (by omega)) HTO.out (by have:=hW.size; omega) (by omega)
  have hda:=fun (W:World) (hW:Below W0.heap.size W0 W)=>tree_Depth 17 sa (.slice A2 n2 c2) W w6.heap.size (HLA.out.below hW (by omega)) (by have:=hW.size; omega) (by omega)
  have hdn:=fun (W:World) (hW:Below W0.heap.size W0 W)=>tree_Depth 17 t (.slice A1 n1 c1) W w6.heap.size (HLN.out.below hW (by omega)) (by have:=hW.size; omega) (by omega)
  rw [f5]at hca
  rw [f6]at hda
  obtain ⟨cn,hcnE⟩:∃ cn,t.count=cn:=⟨_,rfl⟩
  obtain ⟨dp,hdpE⟩:∃ dp,t.depth=dp:=⟨_,rfl⟩
  rw [hcnE]at hca hcn
  rw [hdpE]at hda hdn
  simp only [HO1.out,HO2.out,HO3.out]at hsm his hcd hca hcn hda hdn
  unfold nodeV at hsm his hcd hca hcn hda hdn
  simp only [decide_true,Bool.and_self]at hsm his hcd hca hcn hda hdn
  have HSM:=Lib.hid hsm
  have HIS:=Lib.hid his
  have HCD:=Lib.hid hcd
  have HCA:=Lib.hid hca
  have HCN:=Lib.hid hcn
  have HDA:=Lib.hid hda
  have HDN:=Lib.hid hdn
  clear hsm his hcd hca hcn hda hdn f1 f2 f3 f4 f5 f6 hsa hsb hck0 hcnE hdpE
  go_upto_region 5 with fail
  rw [HW0.out]
  clear HW0
  go_wp2_with fail
  refine wp_region_tail (R:=fun A B=>Below A.heap.size A B) 33 (by kernel_rfl) (by kernel_rfl) (fun _=>Below.refl _ _) (by kernel_rfl) (by kernel_rfl) (fun X=>Below W0.heap.size W0 X)
   [fun v _=>v=.bool true,fun v _=>v=.bool true,fun v _=>v=.int .i64 0,fun v _=>v=.bool true,fun v _=>v=.bool true,fun v _=>v=.bool true,fun v _=>v=.agg #[.int .i64 kind2,.bool b2,.bool neg2,.string dg2,.int .i64 ex2,.int .u64 u2,.int .i64 wd2,.string s2,.slice A2 n2 c2],fun v _=>v=.agg #[.int .i64 kind3,.bool b3,.bool neg3,.string dg3,.int .i64 ex3,.int .u64 u3,.int .i64 wd3,.string s3,.slice A3 n3 c3],fun v _=>v=.bool true,fun v _=>v=.bool true,fun v _=>v=.bool true,fun v _=>v=.agg #[.int .i64 kind2,.bool b2,.bool neg2,.string dg2,.int .i64 ex2,.int .u64 u2,.int .i64 wd2,.string s2,.slice A2 n2 c2],fun v _=>v=.bool true,fun v _=>v=.bool true,fun v _=>v=.bool true,fun v _=>v=.agg #[.int .i64 kind2,.bool b2,.bool neg2,.string dg2,.int .i64 ex2,.int .u64 u2,.int .i64 wd2,.string s2,.slice A2 n2 c2],fun v _=>v=.int .i64 0,fun v _=>v=.bool true,fun v _=>v=.bool true,fun v _=>v=.bool true,fun v _=>v=.agg #[.int .i64 kind2,.bool b2,.bool neg2,.string dg2,.int .i64 ex2,.int .u64 u2,.int .i64 wd2,.string s2,.slice A2 n2 c2],fun v _=>v=.int .i64 (cn:Nat),fun v _=>v=.agg #[.int .i64 kind1,.bool b1,.bool neg1,.string dg1,.int .i64 ex1,.int .u64 u1,.int .i64 wd1,.string s1,.slice A1 n1 c1],fun v _=>v=.int .i64 (cn:Nat),fun v _=>v=.bool true,fun v _=>v=.bool true,fun v _=>v=.bool true,fun v _=>v=.agg #[.int .i64 kind2,.bool b2,.bool neg2,.string dg2,.int .i64 ex2,.int .u64 u2,.int .i64 wd2,.string s2,.slice A2 n2 c2],fun v _=>v=.int .i64 (dp:Nat),fun v _=>v=.agg #[.int .i64 kind1,.bool b1,.bool neg1,.string dg1,.int .i64 ex1,.int .u64 u1,.int .i64 wd1,.string s1,.slice A1 n1 c1],fun v _=>v=.int .i64 (dp:Nat),fun v _=>v=.bool true,fun v _=>v=.bool true] (Below.drew (Below.refl _ _)) (fun _ _ he hr=>he.trans (hr.mono he.size)) ?_ ?_ ?_
  ·intro p hp v X Y hE hv hr
   simp only [List.mem_cons,List.not_mem_nil,or_false]at hp
   rcases hp with rfl|rfl|rfl|rfl|rfl|rfl|rfl|rfl|rfl|rfl|rfl|rfl|rfl|rfl|rfl|rfl|rfl|rfl|rfl|rfl|rfl|rfl|rfl|rfl|rfl|rfl|rfl|rfl|rfl|rfl|rfl|rfl|rfl
   all_goals exact hv
  ·refine flow_cons (flow_op rfl rfl (by kernel_rfl) (by kernel_rfl) ?_) ?_
   ·intro env W hE hn ρ hρ hc hf hg K hK
    have r3:ρ (.tmp 3)=.bool true:=by rw [hρ]; kernel_rfl
    clear hρ hn hg
    simp [opLands,go_sem,r3]
    exact hK _ _ rfl (Below.refl _ _)
   refine flow_cons (flow_op rfl rfl (by kernel_rfl) (by kernel_rfl) ?_) ?_
   ·intro env W hE hn ρ hρ hc hf hg K hK
    have r30:=(show ρ (.tmp 30)=env 0 by rw [hρ]; kernel_rfl).trans (hn 0 (by kernel_rfl))
    clear hρ hn hg
    simp [opLands,go_sem,r30]
    exact hK _ _ rfl (Below.refl _ _)
   refine flow_cons (flow_opY 1 true 31 rfl rfl rfl (by kernel_rfl) (by kernel_rfl) ?_ ?_) ?_
   ·intro env W hE hn ρ hρ
    exact (show ρ (.tmp 31)=env 1 by rw [hρ]; kernel_rfl).trans (hn 1 (by kernel_rfl))
   ·intro env W hE hn ρ hρ hc hf hg K hK
    have r7:ρ (.tmp 7)=.int .i64 0:=by rw [hρ]; kernel_rfl
    clear hρ hn hg
    simp [opLands,go_sem,r7]
    exact hK _ _ rfl (Below.refl _ _)
   refine flow_cons (flow_opY 1 true 31 rfl rfl rfl (by kernel_rfl) (by kernel_rfl) ?_ ?_) ?_
   ·intro env W hE hn ρ hρ
    exact (show ρ (.tmp 31)=env 1 by rw [hρ]; kernel_rfl).trans (hn 1 (by kernel_rfl))
   ·intro env W hE hn ρ hρ hc hf hg K hK
    have r32:=(show ρ (.tmp 32)=env 2 by rw [hρ]; kernel_rfl).trans (hn 2 (by kernel_rfl))
    clear hρ hn hg
    simp [opLands,go_sem,hc,r32]
    exact hK _ _ rfl (Below.refl _ _)
   refine flow_cons (flow_op rfl rfl (by kernel_rfl) (by kernel_rfl) ?_) ?_
   ·intro env W hE hn ρ hρ hc hf hg K hK
    have r31:=(show ρ (.tmp 31)=env 1 by rw [hρ]; kernel_rfl).trans (hn 1 (by kernel_rfl))
    have r33:=(show ρ (.tmp 33)=env 3 by rw [hρ]; kernel_rfl).trans (hn 3 (by kernel_rfl))
    clear hρ hn hg
    simp [opLands,go_sem,hc,r31,r33]
    exact hK _ _ rfl (Below.refl _ _)
   refine flow_cons (flow_op rfl rfl (by kernel_rfl) (by kernel_rfl) ?_) ?_
   ·intro env W hE hn ρ hρ hc hf hg K hK
    have r34:=(show ρ (.tmp 34)=env 4 by rw [hρ]; kernel_rfl).trans (hn 4 (by kernel_rfl))
    clear hρ hn hg
    simp [opLands,go_sem,r34]
    exact hK _ _ rfl (Below.refl _ _)
   refine flow_cons (flow_opY 5 true 35 rfl rfl rfl (by kernel_rfl) (by kernel_rfl) ?_ ?_) ?_
   ·intro env W hE hn ρ hρ
    exact (show ρ (.tmp 35)=env 5 by rw [hρ]; kernel_rfl).trans (hn 5 (by kernel_rfl))
   ·intro env W hE hn ρ hρ hc hf hg K hK
    have r4:ρ (.tmp 4)=.pointer (some ⟨w5.heap.size,0,none⟩):=by rw [hρ]; kernel_rfl
    clear hρ hn hg
    exact lands_load_row 28 (.tmp 4) rfl w5.heap.size r4 28 _ (0,0) _ ((HKA.out).below hE (HKA.out).lt) Tryz.underlying28 rfl (by kernel_rfl) (hK _ _ rfl (Below.refl _ _))
   refine flow_cons (flow_opY 5 true 35 rfl rfl rfl (by kernel_rfl) (by kernel_rfl) ?_ ?_) ?_
   ·intro env W hE hn ρ hρ
    exact (show ρ (.tmp 35)=env 5 by rw [hρ]; kernel_rfl).trans (hn 5 (by kernel_rfl))
   ·intro env W hE hn ρ hρ hc hf hg K hK
    have r6:ρ (.tmp 6)=.pointer (some ⟨w6.heap.size,0,none⟩):=by rw [hρ]; kernel_rfl
    clear hρ hn hg
    exact lands_load_row 28 (.tmp 6) rfl w6.heap.size r6 28 _ (0,0) _ ((HKB.out).below hE (HKB.out).lt) Tryz.underlying28 rfl (by kernel_rfl) (hK _ _ rfl (Below.refl _ _))
   refine flow_cons (flow_opY 5 true 35 rfl rfl rfl (by kernel_rfl) (by kernel_rfl) ?_ ?_) ?_
   ·intro env W hE hn ρ hρ
    exact (show ρ (.tmp 35)=env 5 by rw [hρ]; kernel_rfl).trans (hn 5 (by kernel_rfl))
   ·intro env W hE hn ρ hρ hc hf hg K hK
    have r36:=(show ρ (.tmp 36)=env 6 by rw [hρ]; kernel_rfl).trans (hn 6 (by kernel_rfl))
    have r37:=(show ρ (.tmp 37)=env 7 by rw [hρ]; kernel_rfl).trans (hn 7 (by kernel_rfl))
    clear hρ hn hg
    refine lands_call rfl (by kernel_rfl) hf ?_
    rw [show #[Operand.tmp 36,Operand.tmp 37].map ρ = #[.agg #[.int .i64 kind2,.bool b2,.bool neg2,.string dg2,.int .i64 ex2,.int .u64 u2,.int .i64 wd2,.string s2,.slice A2 n2 c2],.agg #[.int .i64 kind3,.bool b3,.bool neg3,.string dg3,.int .i64 ex3,.int .u64 u3,.int .i64 wd3,.string s3,.slice A3 n3 c3]] by simp [r36,r37]]
    refine (HSM.out W hE).mono ?_
    rintro e W' ⟨rfl,hbb⟩
    exact ⟨_,rfl,hK _ _ rfl hbb⟩
   refine flow_cons (flow_op rfl rfl (by kernel_rfl) (by kernel_rfl) ?_) ?_
   ·intro env W hE hn ρ hρ hc hf hg K hK
    have r35:=(show ρ (.tmp 35)=env 5 by rw [hρ]; kernel_rfl).trans (hn 5 (by kernel_rfl))
    have r38:=(show ρ (.tmp 38)=env 8 by rw [hρ]; kernel_rfl).trans (hn 8 (by kernel_rfl))
    clear hρ hn hg
    simp [opLands,go_sem,hc,r35,r38]
    exact hK _ _ rfl (Below.refl _ _)
   refine flow_cons (flow_op rfl rfl (by kernel_rfl) (by kernel_rfl) ?_) ?_
   ·intro env W hE hn ρ hρ hc hf hg K hK
    have r39:=(show ρ (.tmp 39)=env 9 by rw [hρ]; kernel_rfl).trans (hn 9 (by kernel_rfl))
    clear hρ hn hg
    simp [opLands,go_sem,r39]
    exact hK _ _ rfl (Below.refl _ _)
   refine flow_cons (flow_opY 10 true 40 rfl rfl rfl (by kernel_rfl) (by kernel_rfl) ?_ ?_) ?_
   ·intro env W hE hn ρ hρ
    exact (show ρ (.tmp 40)=env 10 by rw [hρ]; kernel_rfl).trans (hn 10 (by kernel_rfl))
   ·intro env W hE hn ρ hρ hc hf hg K hK
    have r4:ρ (.tmp 4)=.pointer (some ⟨w5.heap.size,0,none⟩):=by rw [hρ]; kernel_rfl
    clear hρ hn hg
    exact lands_load_row 28 (.tmp 4) rfl w5.heap.size r4 28 _ (0,0) _ ((HKA.out).below hE (HKA.out).lt) Tryz.underlying28 rfl (by kernel_rfl) (hK _ _ rfl (Below.refl _ _))
   refine flow_cons (flow_opY 10 true 40 rfl rfl rfl (by kernel_rfl) (by kernel_rfl) ?_ ?_) ?_
   ·intro env W hE hn ρ hρ
    exact (show ρ (.tmp 40)=env 10 by rw [hρ]; kernel_rfl).trans (hn 10 (by kernel_rfl))
   ·intro env W hE hn ρ hρ hc hf hg K hK
    have r41:=(show ρ (.tmp 41)=env 11 by rw [hρ]; kernel_rfl).trans (hn 11 (by kernel_rfl))
    clear hρ hn hg
    refine lands_call rfl (by kernel_rfl) hf ?_
    rw [show #[Operand.tmp 41].map ρ = #[.agg #[.int .i64 kind2,.bool b2,.bool neg2,.string dg2,.int .i64 ex2,.int .u64 u2,.int .i64 wd2,.string s2,.slice A2 n2 c2]] by simp [r41]]
    refine (HIS.out W hE).mono ?_
    rintro e W' ⟨rfl,hbb⟩
    exact ⟨_,rfl,hK _ _ rfl hbb⟩
   refine flow_cons (flow_op rfl rfl (by kernel_rfl) (by kernel_rfl) ?_) ?_
   ·intro env W hE hn ρ hρ hc hf hg K hK
    have r40:=(show ρ (.tmp 40)=env 10 by rw [hρ]; kernel_rfl).trans (hn 10 (by kernel_rfl))
    have r42:=(show ρ (.tmp 42)=env 12 by rw [hρ]; kernel_rfl).trans (hn 12 (by kernel_rfl))
    clear hρ hn hg
    simp [opLands,go_sem,hc,r40,r42]
    exact hK _ _ rfl (Below.refl _ _)
   refine flow_cons (flow_op rfl rfl (by kernel_rfl) (by kernel_rfl) ?_) ?_
   ·intro env W hE hn ρ hρ hc hf hg K hK
    have r43:=(show ρ (.tmp 43)=env 13 by rw [hρ]; kernel_rfl).trans (hn 13 (by kernel_rfl))
    clear hρ hn hg
    simp [opLands,go_sem,r43]
    exact hK _ _ rfl (Below.refl _ _)
   refine flow_cons (flow_opY 14 true 44 rfl rfl rfl (by kernel_rfl) (by kernel_rfl) ?_ ?_) ?_
   ·intro env W hE hn ρ hρ
    exact (show ρ (.tmp 44)=env 14 by rw [hρ]; kernel_rfl).trans (hn 14 (by kernel_rfl))
   ·intro env W hE hn ρ hρ hc hf hg K hK
    have r4:ρ (.tmp 4)=.pointer (some ⟨w5.heap.size,0,none⟩):=by rw [hρ]; kernel_rfl
    clear hρ hn hg
    exact lands_load_row 28 (.tmp 4) rfl w5.heap.size r4 28 _ (0,0) _ ((HKA.out).below hE (HKA.out).lt) Tryz.underlying28 rfl (by kernel_rfl) (hK _ _ rfl (Below.refl _ _))
   refine flow_cons (flow_opY 14 true 44 rfl rfl rfl (by kernel_rfl) (by kernel_rfl) ?_ ?_) ?_
   ·intro env W hE hn ρ hρ
    exact (show ρ (.tmp 44)=env 14 by rw [hρ]; kernel_rfl).trans (hn 14 (by kernel_rfl))
   ·intro env W hE hn ρ hρ hc hf hg K hK
    have r45:=(show ρ (.tmp 45)=env 15 by rw [hρ]; kernel_rfl).trans (hn 15 (by kernel_rfl))
    clear hρ hn hg
    refine lands_call rfl (by kernel_rfl) hf ?_
    rw [show #[Operand.tmp 45,Operand.const (Value.int IntKind.i64 3)].map ρ = #[.agg #[.int .i64 kind2,.bool b2,.bool neg2,.string dg2,.int .i64 ex2,.int .u64 u2,.int .i64 wd2,.string s2,.slice A2 n2 c2],.int .i64 3] by simp [hc,r45]]
    refine (HCD.out W hE).mono ?_
    rintro e W' ⟨rfl,hbb⟩
    exact ⟨_,rfl,hK _ _ rfl hbb⟩
   refine flow_cons (flow_opY 14 true 44 rfl rfl rfl (by kernel_rfl) (by kernel_rfl) ?_ ?_) ?_
   ·intro env W hE hn ρ hρ
    exact (show ρ (.tmp 44)=env 14 by rw [hρ]; kernel_rfl).trans (hn 14 (by kernel_rfl))
   ·intro env W hE hn ρ hρ hc hf hg K hK
    have r46:=(show ρ (.tmp 46)=env 16 by rw [hρ]; kernel_rfl).trans (hn 16 (by kernel_rfl))
    clear hρ hn hg
    simp [opLands,go_sem,hc,r46]
    exact hK _ _ rfl (Below.refl _ _)
   refine flow_cons (flow_op rfl rfl (by kernel_rfl) (by kernel_rfl) ?_) ?_
   ·intro env W hE hn ρ hρ hc hf hg K hK
    have r44:=(show ρ (.tmp 44)=env 14 by rw [hρ]; kernel_rfl).trans (hn 14 (by kernel_rfl))
    have r47:=(show ρ (.tmp 47)=env 17 by rw [hρ]; kernel_rfl).trans (hn 17 (by kernel_rfl))
    clear hρ hn hg
    simp [opLands,go_sem,hc,r44,r47]
    exact hK _ _ rfl (Below.refl _ _)
   refine flow_cons (flow_op rfl rfl (by kernel_rfl) (by kernel_rfl) ?_) ?_
   ·intro env W hE hn ρ hρ hc hf hg K hK
    have r48:=(show ρ (.tmp 48)=env 18 by rw [hρ]; kernel_rfl).trans (hn 18 (by kernel_rfl))
    clear hρ hn hg
    simp [opLands,go_sem,r48]
    exact hK _ _ rfl (Below.refl _ _)
   refine flow_cons (flow_opY 19 true 49 rfl rfl rfl (by kernel_rfl) (by kernel_rfl) ?_ ?_) ?_
   ·intro env W hE hn ρ hρ
    exact (show ρ (.tmp 49)=env 19 by rw [hρ]; kernel_rfl).trans (hn 19 (by kernel_rfl))
   ·intro env W hE hn ρ hρ hc hf hg K hK
    have r4:ρ (.tmp 4)=.pointer (some ⟨w5.heap.size,0,none⟩):=by rw [hρ]; kernel_rfl
    clear hρ hn hg
    exact lands_load_row 28 (.tmp 4) rfl w5.heap.size r4 28 _ (0,0) _ ((HKA.out).below hE (HKA.out).lt) Tryz.underlying28 rfl (by kernel_rfl) (hK _ _ rfl (Below.refl _ _))
   refine flow_cons (flow_opY 19 true 49 rfl rfl rfl (by kernel_rfl) (by kernel_rfl) ?_ ?_) ?_
   ·intro env W hE hn ρ hρ
    exact (show ρ (.tmp 49)=env 19 by rw [hρ]; kernel_rfl).trans (hn 19 (by kernel_rfl))
   ·intro env W hE hn ρ hρ hc hf hg K hK
    have r50:=(show ρ (.tmp 50)=env 20 by rw [hρ]; kernel_rfl).trans (hn 20 (by kernel_rfl))
    clear hρ hn hg
    refine lands_call rfl (by kernel_rfl) hf ?_
    rw [show #[Operand.tmp 50].map ρ = #[.agg #[.int .i64 kind2,.bool b2,.bool neg2,.string dg2,.int .i64 ex2,.int .u64 u2,.int .i64 wd2,.string s2,.slice A2 n2 c2]] by simp [r50]]
    refine (HCA.out W hE).mono ?_
    rintro e W' ⟨rfl,hbb⟩
    exact ⟨_,rfl,hK _ _ rfl hbb⟩
   refine flow_cons (flow_opY 19 true 49 rfl rfl rfl (by kernel_rfl) (by kernel_rfl) ?_ ?_) ?_
   ·intro env W hE hn ρ hρ
    exact (show ρ (.tmp 49)=env 19 by rw [hρ]; kernel_rfl).trans (hn 19 (by kernel_rfl))
   ·intro env W hE hn ρ hρ hc hf hg K hK
    have r1:ρ (.tmp 1)=.pointer (some ⟨w.heap.size,0,none⟩):=by rw [hρ]; kernel_rfl
    clear hρ hn hg
    exact lands_load_row 28 (.tmp 1) rfl w.heap.size r1 28 _ (0,0) _ ((HKN.out).below hE (HKN.out).lt) Tryz.underlying28 rfl (by kernel_rfl) (hK _ _ rfl (Below.refl _ _))
   refine flow_cons (flow_opY 19 true 49 rfl rfl rfl (by kernel_rfl) (by kernel_rfl) ?_ ?_) ?_
   ·intro env W hE hn ρ hρ
    exact (show ρ (.tmp 49)=env 19 by rw [hρ]; kernel_rfl).trans (hn 19 (by kernel_rfl))
   ·intro env W hE hn ρ hρ hc hf hg K hK
    have r52:=(show ρ (.tmp 52)=env 22 by rw [hρ]; kernel_rfl).trans (hn 22 (by kernel_rfl))
    clear hρ hn hg
    refine lands_call rfl (by kernel_rfl) hf ?_
    rw [show #[Operand.tmp 52].map ρ = #[.agg #[.int .i64 kind1,.bool b1,.bool neg1,.string dg1,.int .i64 ex1,.int .u64 u1,.int .i64 wd1,.string s1,.slice A1 n1 c1]] by simp [r52]]
    refine (HCN.out W hE).mono ?_
    rintro e W' ⟨rfl,hbb⟩
    exact ⟨_,rfl,hK _ _ rfl hbb⟩
   refine flow_cons (flow_opY 19 true 49 rfl rfl rfl (by kernel_rfl) (by kernel_rfl) ?_ ?_) ?_
   ·intro env W hE hn ρ hρ
    exact (show ρ (.tmp 49)=env 19 by rw [hρ]; kernel_rfl).trans (hn 19 (by kernel_rfl))
   ·intro env W hE hn ρ hρ hc hf hg K hK
    have r51:=(show ρ (.tmp 51)=env 21 by rw [hρ]; kernel_rfl).trans (hn 21 (by kernel_rfl))
    have r53:=(show ρ (.tmp 53)=env 23 by rw [hρ]; kernel_rfl).trans (hn 23 (by kernel_rfl))
    clear hρ hn hg
    simp [opLands,go_sem,r51,r53]
    exact hK _ _ rfl (Below.refl _ _)
   refine flow_cons (flow_op rfl rfl (by kernel_rfl) (by kernel_rfl) ?_) ?_
   ·intro env W hE hn ρ hρ hc hf hg K hK
    have r49:=(show ρ (.tmp 49)=env 19 by rw [hρ]; kernel_rfl).trans (hn 19 (by kernel_rfl))
    have r54:=(show ρ (.tmp 54)=env 24 by rw [hρ]; kernel_rfl).trans (hn 24 (by kernel_rfl))
    clear hρ hn hg
    simp [opLands,go_sem,hc,r49,r54]
    exact hK _ _ rfl (Below.refl _ _)
   refine flow_cons (flow_op rfl rfl (by kernel_rfl) (by kernel_rfl) ?_) ?_
   ·intro env W hE hn ρ hρ hc hf hg K hK
    have r55:=(show ρ (.tmp 55)=env 25 by rw [hρ]; kernel_rfl).trans (hn 25 (by kernel_rfl))
    clear hρ hn hg
    simp [opLands,go_sem,r55]
    exact hK _ _ rfl (Below.refl _ _)
   refine flow_cons (flow_opY 26 true 56 rfl rfl rfl (by kernel_rfl) (by kernel_rfl) ?_ ?_) ?_
   ·intro env W hE hn ρ hρ
    exact (show ρ (.tmp 56)=env 26 by rw [hρ]; kernel_rfl).trans (hn 26 (by kernel_rfl))
   ·intro env W hE hn ρ hρ hc hf hg K hK
    have r4:ρ (.tmp 4)=.pointer (some ⟨w5.heap.size,0,none⟩):=by rw [hρ]; kernel_rfl
    clear hρ hn hg
    exact lands_load_row 28 (.tmp 4) rfl w5.heap.size r4 28 _ (0,0) _ ((HKA.out).below hE (HKA.out).lt) Tryz.underlying28 rfl (by kernel_rfl) (hK _ _ rfl (Below.refl _ _))
   refine flow_cons (flow_opY 26 true 56 rfl rfl rfl (by kernel_rfl) (by kernel_rfl) ?_ ?_) ?_
   ·intro env W hE hn ρ hρ
    exact (show ρ (.tmp 56)=env 26 by rw [hρ]; kernel_rfl).trans (hn 26 (by kernel_rfl))
   ·intro env W hE hn ρ hρ hc hf hg K hK
    have r57:=(show ρ (.tmp 57)=env 27 by rw [hρ]; kernel_rfl).trans (hn 27 (by kernel_rfl))
    clear hρ hn hg
    refine lands_call rfl (by kernel_rfl) hf ?_
    rw [show #[Operand.tmp 57].map ρ = #[.agg #[.int .i64 kind2,.bool b2,.bool neg2,.string dg2,.int .i64 ex2,.int .u64 u2,.int .i64 wd2,.string s2,.slice A2 n2 c2]] by simp [r57]]
    refine (HDA.out W hE).mono ?_
    rintro e W' ⟨rfl,hbb⟩
    exact ⟨_,rfl,hK _ _ rfl hbb⟩
   refine flow_cons (flow_opY 26 true 56 rfl rfl rfl (by kernel_rfl) (by kernel_rfl) ?_ ?_) ?_
   ·intro env W hE hn ρ hρ
    exact (show ρ (.tmp 56)=env 26 by rw [hρ]; kernel_rfl).trans (hn 26 (by kernel_rfl))
   ·intro env W hE hn ρ hρ hc hf hg K hK
    have r1:ρ (.tmp 1)=.pointer (some ⟨w.heap.size,0,none⟩):=by rw [hρ]; kernel_rfl
    clear hρ hn hg
    exact lands_load_row 28 (.tmp 1) rfl w.heap.size r1 28 _ (0,0) _ ((HKN.out).below hE (HKN.out).lt) Tryz.underlying28 rfl (by kernel_rfl) (hK _ _ rfl (Below.refl _ _))
   refine flow_cons (flow_opY 26 true 56 rfl rfl rfl (by kernel_rfl) (by kernel_rfl) ?_ ?_) ?_
   ·intro env W hE hn ρ hρ
    exact (show ρ (.tmp 56)=env 26 by rw [hρ]; kernel_rfl).trans (hn 26 (by kernel_rfl))
   ·intro env W hE hn ρ hρ hc hf hg K hK
    have r59:=(show ρ (.tmp 59)=env 29 by rw [hρ]; kernel_rfl).trans (hn 29 (by kernel_rfl))
    clear hρ hn hg
    refine lands_call rfl (by kernel_rfl) hf ?_
    rw [show #[Operand.tmp 59].map ρ = #[.agg #[.int .i64 kind1,.bool b1,.bool neg1,.string dg1,.int .i64 ex1,.int .u64 u1,.int .i64 wd1,.string s1,.slice A1 n1 c1]] by simp [r59]]
    refine (HDN.out W hE).mono ?_
    rintro e W' ⟨rfl,hbb⟩
    exact ⟨_,rfl,hK _ _ rfl hbb⟩
   refine flow_cons (flow_opY 26 true 56 rfl rfl rfl (by kernel_rfl) (by kernel_rfl) ?_ ?_) ?_
   ·intro env W hE hn ρ hρ
    exact (show ρ (.tmp 56)=env 26 by rw [hρ]; kernel_rfl).trans (hn 26 (by kernel_rfl))
   ·intro env W hE hn ρ hρ hc hf hg K hK
    have r58:=(show ρ (.tmp 58)=env 28 by rw [hρ]; kernel_rfl).trans (hn 28 (by kernel_rfl))
    have r60:=(show ρ (.tmp 60)=env 30 by rw [hρ]; kernel_rfl).trans (hn 30 (by kernel_rfl))
    clear hρ hn hg
    simp [opLands,go_sem,r58,r60]
    exact hK _ _ rfl (Below.refl _ _)
   refine flow_cons (flow_op rfl rfl (by kernel_rfl) (by kernel_rfl) ?_) flow_nil
   ·intro env W hE hn ρ hρ hc hf hg K hK
    have r56:=(show ρ (.tmp 56)=env 26 by rw [hρ]; kernel_rfl).trans (hn 26 (by kernel_rfl))
    have r61:=(show ρ (.tmp 61)=env 31 by rw [hρ]; kernel_rfl).trans (hn 31 (by kernel_rfl))
    clear hρ hn hg
    simp [opLands,go_sem,hc,r56,r61]
    exact hK _ _ rfl (Below.refl _ _)
  intro env X hE hn
  have e32:env 32=.bool true:=hn 32 (by decide)
  clear hn
  simp only [List.take_succ_cons,List.take_zero,List.drop_succ_cons,List.drop_zero,frameAll,e32]
  clear e32
  go_simp
  have hbX:=HBW0.out.trans (hE.mono HBW0.out.size)
  go_wp2_with fail
  go_ret
  exact ⟨by simp,hbX⟩
 ·have y0:(e0 == 0)=false:=by rw [beq_eq_false_iff_ne]; exact h0
  have hcn:=HCN.out 2 flC (fits_at_C aT aF) W0 (Below.refl _ _)
  rw [HE0.out,HO1.out]at hcn
  unfold nodeV at hcn
  simp only []at hcn
  have HCN:=Lib.hid hcn
  clear hcn
  go_upto_region 5 with fail
  rw [HW0.out]
  clear HW0
  have kk:=fun i=>HKN.out.cell i
  go_wp2_with fail
  refine HCN.out.mono ?_
  rintro e w8 ⟨rfl,hb8⟩
  have hbw8:=HBW0.out.trans (hb8.mono HBW0.out.size)
  clear hb8
  go_wp2_with fail
  go_ret
  exact ⟨by simp,hbw8⟩
end Go.Proofs.YtonihophanmaaaaGreatDoor
