/- The texts DtN, DsX, LaidV, CbV, CsV, put together. -/
import Derived.Test.YtonihophanmaaaaGreatDoorPc46
import Derived.Test.YtonihophanmaaaaGreatDoorPc47
import Derived.Test.YtonihophanmaaaaGreatDoorPc01
import Derived.Test.YtonihophanmaaaaGreatDoorRows
import Derived.Test.YtonihophanmaaaaGreatDoorPc07
import Derived.Lib.LaidU8T
import Derived.PinnedBridge
import Derived.Stop.LaidErr
import Derived.Stop.Joined
import Derived.LaidMore
import Derived.LaidLaws
import Derived.Lay
import Derived.SevenTiedAt
import Derived.ProofKit
import Derived.OpenShut
import Derived.Lib.LaidTab
import Derived.Test.YtonihophanmaaaaGreatDoorPc11
import Derived.LaidHandle
set_option maxHeartbeats 16000000
set_option maxRecDepth 100000
namespace Go.Proofs.YtonihophanmaaaaGreatDoor
open Go.RowKit Go.Shelf
mutual
def vp:Tr→Prop
 | .nd o l=>zt o∧k9 l
def k9:List Tr→Prop
 | []=>True
 | t::l=>vp t∧k9 l
end
theorem zf4:∀ l:List Tr,k9 l↔∀ t∈l,vp t
 | []=>by rw [k9]; simp
 | t::l=>by rw [k9,zf4 l]; simp
mutual
theorem zhI:∀ t:Tr,okC t→vp t
 | .nd o l,h=>by
  rw [okC]at h
  rw [vp]
  exact ⟨h.1.ok,zf5 l h.2⟩
theorem zf5:∀ l:List Tr,qW l→k9 l
 | [],_=>by rw [k9]; trivial
 | t::l,h=>by
  rw [qW]at h
  rw [k9]
  exact ⟨zhI t h.1,zf5 l h.2⟩
end
theorem zdh:∀ l:List Tr,l.length≤zm l
 | []=>Nat.zero_le _
 | t::l=>by
  have:=zdh l
  have:=Tr.count_eq t
  rw [List.length_cons,zm]
  omega
mutual
theorem zhK:∀ t:Tr,vp t→jk t=true→jf 2 flC t=true→t.count≤1000→okC t
 | .nd o l,h,b,a,hc=>by
  rw [vp]at h
  rw [Tr.count]at hc
  have g:=zdh l
  rw [okC]
  exact ⟨⟨(js b).1,(qh a).1,h.1,by omega⟩,zf9 l h.2 (js b).2 (qh a).2 (by omega)⟩
theorem zf9:∀ l:List Tr,k9 l→jy l=true→jp 2 flC l=true→zm l≤1000→qW l
 | [],_,_,_,_=>by rw [qW]; trivial
 | t::l,h,b,a,hc=>by
  rw [k9]at h
  rw [zm]at hc
  obtain ⟨c,d⟩:=all_cons b
  have e:=vE a (List.mem_cons_self ..)
  have f:jp 2 flC l=true:=by
   rw [jp,Bool.and_eq_true]at a
   exact a.2
  rw [qW]
  exact ⟨zhK t h.1 c e (by omega),zf9 l h.2 d f (by omega)⟩
end
theorem zgF:∀ (a:List (Tr×Tr)) (t:Tr),t∈unp a→∃ p∈a,t=p.1∨t=p.2
 | [],t,h=>by cases h
 | p::a,t,h=>by
  rw [unp]at h
  rcases List.mem_cons.1 h with rfl | h
  ·exact ⟨p,by simp,.inl rfl⟩
  ·rcases List.mem_cons.1 h with rfl | h
   ·exact ⟨p,by simp,.inr rfl⟩
   ·obtain ⟨q,b,c⟩:=zgF a t h
    exact ⟨q,by simp [b],c⟩
mutual
theorem zdU:∀ t:Tr,vp t→vp (zz cbT zD t)
 | .nd o l,h=>by
  rw [vp]at h
  rw [zz]
  split
  ·rw [vp,show zD o=jw o from zdT h.1]
   exact ⟨zdl h.1,h.2⟩
  ·split
   ·rw [vp,zf4]
    refine ⟨h.1,fun t b=>?_⟩
    obtain ⟨p,a,e⟩:=zgF _ _ b
    have:=zf7 l h.2 p ((qI cbT (zM cbT zD l)).mem_iff.1 a)
    rcases e with rfl|rfl
    ·exact this.1
    ·exact this.2
   ·rw [vp]
    exact ⟨h.1,zf6 l h.2⟩
theorem zf6:∀ l:List Tr,k9 l→k9 (jL cbT zD l)
 | [],_=>by rw [jL,k9]; trivial
 | t::l,h=>by
  rw [k9]at h
  rw [jL,k9]
  exact ⟨zdU t h.1,zf6 l h.2⟩
theorem zf7:∀ l:List Tr,k9 l→∀ p∈zM cbT zD l,vp p.1∧vp p.2
 | [],_,p,a=>by rw [zM]at a; cases a
 | [_],_,p,a=>by rw [zM]at a; cases a
 | k::v::l,h,p,a=>by
  rw [k9,k9]at h
  rw [zM]at a
  rcases List.mem_cons.1 a with rfl | a
  ·exact ⟨h.1,zdU v h.2.1⟩
  ·exact zf7 l h.2.2 p a
end
theorem zm1 {t:Tr} (h:zj 2 flC t=0) (a:ki t):okC (zz cbT zD t):=by
 obtain ⟨b,_,_,_,c,_⟩:=xO h a
 obtain ⟨c1,_,c3,c4⟩:=qn.1 b
 exact zhK _ (zdU t (zhI t a.ok)) c3 c4 (by omega)
theorem zfS {t:Tr} (h:zj 2 flC t=0) (a:ki t):xL (bs (cbT (zz cbT zD t)))=.good (zz cbT zD t) []:=by
 obtain ⟨b,_,_,_,_,_⟩:=xO h a
 have hd:=(qn.1 b).2.1
 have e:(bs (cbT (zz cbT zD t))).data.toList=cbT (zz cbT zD t):=by simp [bs]
 unfold xL
 rw [e]
 have:=zaR ((bs (cbT (zz cbT zD t))).size+1) (zz cbT zD t) 16 [] (zm1 h a) (by omega)
 rwa [List.append_nil]at this
theorem zkc {t:Tr} (h:zj 2 flC t=0) (b:ki t) (g:(qY t).size≤4000):RD (qY t)=(0,zz cbT zD t):=by
 obtain ⟨a,d,_,_,_,_⟩:=xO h b
 have e:qY t=bs (cbT (zz cbT zD t)):=by unfold qY; rw [if_pos h]
 have f:RC (qY t)=(0,zz cbT zD t):=zmm (by rw [e]; exact zfS h b) g a
 have c:qY (zz cbT zD t)=qY t:=by
  rw [e]
  unfold qY
  rw [if_pos a,d]
 unfold RD
 rw [f,if_pos rfl,if_pos ⟨a,c⟩]
theorem zlC {s:ByteArray} {x:Tr} (h:RD s=(0,x)) (k:zj 2 flC x=0→ki x):RC s=(0,x)∧zj 2 flC x=0∧qY x=s∧zj 3 flR x=0∧xF x=true∧x.count≤1000:=by
 unfold RD at h
 rcases zaB s with ⟨a,_⟩ | ⟨a,l,_,_,f,_⟩
 ·rw [if_neg a]at h
  exact absurd (congrArg Prod.fst h) a
 rw [if_pos a]at h
 by_cases hc:zj 2 flC (RC s).2=0∧qY (RC s).2=s
 ·rw [if_pos hc]at h
  have i:(RC s).2=x:=congrArg Prod.snd h
  rw [i]at hc f
  have b:=k hc.1
  have g:=zfS hc.1 b
  have e:bs (cbT (zz cbT zD x))=s:=by
   have:=hc.2
   unfold qY at this
   rwa [if_pos hc.1]at this
  rw [e,f]at g
  have j:x=zz cbT zD x:=by injection g
  obtain ⟨_,_,c,d,_,_⟩:=xO hc.1 b
  rw [← j]at c d
  exact ⟨by rw [← i,← a],hc.1,hc.2,c,d,by have:=(qn.1 hc.1).1; omega⟩
 ·rw [if_neg hc]at h
  exact absurd (congrArg Prod.fst h) (show ¬ (130:Int)=0 by decide)
theorem zlM (s:ByteArray):(RD s).2.count≤4000:=by
 unfold RD
 rcases zaB s with ⟨a,_⟩ | ⟨a,_,_,b,_,c⟩
 ·rw [if_neg a]
  show (Tr.nd zv []).count≤4000
  rw [Tr.count,zm]
  omega
 ·rw [if_pos a]
  split
  ·show (RC s).2.count≤4000
   omega
  ·show (Tr.nd zv []).count≤4000
   rw [Tr.count,zm]
   omega
theorem zlL (s:ByteArray):(RC s).2.count≤4000:=by
 rcases zaB s with ⟨_,a⟩ | ⟨_,_,_,b,_,c⟩
 ·rw [a,Tr.count,zm]
  omega
 ·omega
theorem zkb {aT aF:Addr} (t0:Tr) (vt:Value) (r0:ByteArray) (w:World) (h:RW w aT aF) (D:Nat) (hl:zq w w.heap.size D t0.kids vt) (ho:zt t0.own) (hc:t0.count≤1048576) (hr0:r0.size≤9223372036854775807) :
  Calls Tryz.prog 9 #[ze t0.own vt,.string r0] w fun e w'=>e=.returned (.bool true)∧Below w.heap.size w w':=by
 have H0:=Lib.hid (fun W (hW:Below w.heap.size w W)=>zjw (aT:=aT) (aF:=aF) W (h.below hW))
 have HU:=Lib.hid (fun W (hW:Below w.heap.size w W)=>h.below hW)
 have HF:=Lib.hid (fun W (hW:Below w.heap.size w W)=>zll t0 vt W w.heap.size D (hl.below hW (Nat.le_refl _)) ho hW.size (by omega))
 have hto:=zmC ho
 have htc:=zjy t0
 have hv:∃ A m c,vt=.slice A m c:=by
  obtain ⟨_,A,c,e⟩:=hl.slice
  exact ⟨A,_,c,e⟩
 obtain ⟨o0,ho0⟩:∃ o,t0.own=o:=⟨_,rfl⟩
 rw [ho0]at HF ⊢
 generalize yD t0=t at HF hto htc
 obtain ⟨kind0,b0,neg0,dg0,ex0,u0,wd0,s0⟩:=o0
 unfold ze at HF ⊢
 simp only []at HF ⊢
 have hb1:Below w.heap.size w (w.alloc (.cells #[.int .i64 kind0,.bool b0,.bool neg0,.string dg0,.int .i64 ex0,.int .u64 u0,.int .i64 wd0,.string s0,vt] 28)):=(Below.refl _ _).alloc (Nat.le_refl _) _
 have hk1:=Blk.new w #[.int .i64 kind0,.bool b0,.bool neg0,.string dg0,.int .i64 ex0,.int .u64 u0,.int .i64 wd0,.string s0,vt] 28
 have HB1:=Lib.hid hb1
 have HK1:=Lib.hid hk1
 clear hl ho hc ho0 h hb1 hk1
 obtain ⟨A0,m0,c0,rfl⟩:=hv
 obtain ⟨kz,hkz⟩:∃ k,min r0.size 1000=k:=⟨_,rfl⟩
 have e0:(min (r0.size:Int) 1000).toNat=kz:=by omega
 have e1:(if (1000:Int)<r0.size then 1000 else (r0.size:Int))=(kz:Int):=by split <;> omega
 have hmn:0≤min (r0.size:Int) 1000∧min (r0.size:Int) 1000≤(r0.size:Int):=by omega
 have e2:(kz:Int)≤r0.size:=by omega
 obtain ⟨s,hs⟩:∃ s,r0.extract 0 kz=s:=⟨_,rfl⟩
 have hsz:s.size≤1000:=by
  rw [← hs,ByteArray.size_extract]
  omega
 clear hkz
 go_enter Tryz.func9,Tryz.ntmps9
 go_wp2_with fail
 refine (H0.out _ HB1.out).mono ?_
 rintro e w2 ⟨rfl,hb2⟩
 have hbw2:=HB1.out.trans (hb2.mono HB1.out.size)
 have hk2:=HK1.out.below hb2 HK1.out.lt
 have HK2:=Lib.hid hk2
 have HBW2:=Lib.hid hbw2
 clear hb2 hbw2 hk2 HB1 HK1 H0
 go_wp2_with (refine wpList_load_row rfl 28 (.tmp 2) rfl w.heap.size rfl 28 _ (0,0) _ HK2.out Tryz.underlying28 rfl (by kernel_rfl) ?_)
 refine (HF.out _ HBW2.out).mono ?_
 rintro e w3 ⟨⟨y,rfl,hly⟩,hb3⟩
 obtain ⟨_,A1,c1,rfl⟩:=hly.slice
 obtain ⟨n1,hn1⟩:∃ n1,t.kids.length=n1:=⟨_,rfl⟩
 rw [hn1]at hly ⊢
 obtain ⟨⟨kind1,b1,neg1,dg1,ex1,u1,wd1,s1⟩,ho1⟩:∃ o,t.own=o:=⟨_,rfl⟩
 have HTO:=Lib.hid hto
 rw [ho1]
 simp only []
 have hk3:=HK2.out.below hb3 HK2.out.lt
 have hbw3:=HBW2.out.trans (hb3.mono HBW2.out.size)
 have hz2:=HBW2.out.size
 have hz3:=hb3.size
 have hlt2:=HK2.out.lt
 obtain ⟨W4,hW4⟩:∃ W4,w3.setRow w.heap.size #[.int .i64 kind1,.bool b1,.bool neg1,.string dg1,.int .i64 ex1,.int .u64 u1,.int .i64 wd1,.string s1,.slice A1 n1 c1]=W4:=⟨_,rfl⟩
 have hg4:w3.grownBy W4 (some w.heap.size):=by rw [← hW4]; exact zx w3 w.heap.size #[.int .i64 kind1,.bool b1,.bool neg1,.string dg1,.int .i64 ex1,.int .u64 u1,.int .i64 wd1,.string s1,.slice A1 n1 c1]
 have hz4:W4.heap.size=w3.heap.size:=by rw [← hW4,setRow_size]
 have hk4:Blk W4 w.heap.size #[.int .i64 kind1,.bool b1,.bool neg1,.string dg1,.int .i64 ex1,.int .u64 u1,.int .i64 wd1,.string s1,.slice A1 n1 c1] 28:=by rw [← hW4]; exact zB hk3 #[.int .i64 kind1,.bool b1,.bool neg1,.string dg1,.int .i64 ex1,.int .u64 u1,.int .i64 wd1,.string s1,.slice A1 n1 c1]
 have hbw4:Below w.heap.size w W4:=hbw3.grown hg4 hbw3.size (fun q e=>by cases e; exact Nat.le_refl _)
 have hl4:LAt W4 (fun q=>w.heap.size<q∧q<W4.heap.size) 17 t.kids (.slice A1 n1 c1):=(hly.keep (fun q hq=>hg4.block q hq.2 (fun e=>by injection e with e; omega))).mono (fun q hq=>⟨by have:=hq.1; omega,by rw [hz4]; exact hq.2⟩)
 have hso:=fun h0=>zaH hl4 hto h0
 have hone:=fun (h0:zj 2 flC t=0) (hz:(qY t).size≤4000)=>zkc h0 (hso h0) hz
 have hst:zj 2 flC t=0→zbb t=zz cbT zD t∧(zz cbT zD t).count≤400:=fun h0=>⟨if_pos h0,by rw [zey (hso h0)]; exact htc⟩
 have HSO:=Lib.hid hso
 have HK3:=Lib.hid hk3
 have HK4:=Lib.hid hk4
 have HBW4:=Lib.hid hbw4
 have HL4:=Lib.hid hl4
 have HW4:=Lib.hid hW4
 have HO1:=Lib.hid ho1
 have HN1:=Lib.hid hn1
 have hlt4:=hk4.lt
 clear hk3 hbw3 hz2 hz3 hlt2 hg4 hk4 hbw4 hl4 hW4 hb3 hly HK2 HBW2 HF ho1 hto hso
 go_upto_region 3 with (refine wpList_store_row rfl 28 (.tmp 2) (.tmp 20) rfl w.heap.size #[.int .i64 kind1,.bool b1,.bool neg1,.string dg1,.int .i64 ex1,.int .u64 u1,.int .i64 wd1,.string s1,.slice A1 n1 c1] rfl rfl 28 _ HK3.out (by kernel_rfl) rfl (by simp [Value.oneCell']) ?_)
 rw [HW4.out]
 clear HW4 HK3 hz4
 have hwr:=yh t (.slice A1 n1 c1) W4 (fun q=>w.heap.size<q∧q<W4.heap.size) 17 aT aF HL4.out HTO.out (fun q hq=>hq.2) (by omega) (HU.out W4 HBW4.out).g
 have hse:=fun (W:World) (hW:Below W4.heap.size W4 W)=>zcZ t (.slice A1 n1 c1) W (fun q=>w.heap.size<q∧q<W4.heap.size) 17 aT aF (HL4.out.keep (fun q hq=>hW.block q hq.2)) HTO.out (fun q hq=>Nat.lt_of_lt_of_le hq.2 hW.size) (by omega) (HU.out W (HBW4.out.trans (hW.mono HBW4.out.size))).g
 obtain ⟨a,ha⟩:∃ a,qY t=a:=⟨_,rfl⟩
 obtain ⟨ck,hck⟩:∃ ck,zj 2 flC t=ck:=⟨_,rfl⟩
 obtain ⟨sa,hsa⟩:∃ sa,zbb t=sa:=⟨_,rfl⟩
 obtain ⟨st,hst0⟩:∃ st,zz cbT zD t=st:=⟨_,rfl⟩
 simp only [hsa,hck]at hse
 rw [ha,hck]at hwr hone
 rw [hck,hst0,hsa]at hst
 rw [hst0]at hone
 rw [HO1.out]at hwr hse
 unfold ze at hwr hse
 simp only []at hwr hse
 have HWR:=Lib.hid hwr
 have HSE:=Lib.hid hse
 have HONE:=Lib.hid hone
 have HST:=Lib.hid hst
 clear hwr hse hone hst ha hck hsa hst0
 go_upto_region 4 with fail
 try simp only [e0,e1,hs]
 have HS:=Lib.hid hs
 clear e0 e1 e2 hmn hs
 go_wp2_with (refine wpList_load_row rfl 28 (.tmp 2) rfl w.heap.size rfl 28 _ (0,0) _ HK4.out Tryz.underlying28 rfl (by kernel_rfl) ?_)
 refine HWR.out.mono ?_
 rintro e w5 ⟨rfl,hb5⟩
 have hbw5:=HBW4.out.trans (hb5.mono (Nat.le_of_lt HK4.out.lt))
 have hk5:=HK4.out.below hb5 HK4.out.lt
 have HK5:=Lib.hid hk5
 have HBW5:=Lib.hid hbw5
 have HB45:=Lib.hid hb5
 have hz5:=hb5.size
 have hz5w:=hbw5.size
 clear hbw5 hk5 hb5 HWR HK4
 have hcase:(ck=0∧(a.size:Int)≤4000)∨(ck=0∧¬ (a.size:Int)≤4000)∨(ck == 0)=false:=by
  by_cases h0:ck=0
  ·by_cases h1:(a.size:Int)≤4000
   ·exact .inl ⟨h0,h1⟩
   ·exact .inr (.inl ⟨h0,h1⟩)
  ·exact .inr (.inr (by rw [beq_eq_false_iff_ne]; exact h0))
 rcases hcase with ⟨rfl,y1⟩ | ⟨rfl,y1⟩ | y1
 have hra:=zcm (aT:=aT) (aF:=aF) a (by omega) w5 (HU.out w5 HBW5.out)
 rw [HONE.out rfl (by omega)]at hra
 unfold xP at hra
 simp only []at hra
 obtain ⟨hst1,hst2⟩:=HST.out rfl
 subst hst1
 obtain ⟨n2,hn2⟩:∃ n2,sa.kids.length=n2:=⟨_,rfl⟩
 obtain ⟨⟨kind2,b2,neg2,dg2,ex2,u2,wd2,s2⟩,ho2⟩:∃ o,sa.own=o:=⟨_,rfl⟩
 have hse:=HSE.out
 simp only [hn2,ho2]at hse
 have HRA:=Lib.hid hra
 have HSE2:=Lib.hid hse
 have HO2:=Lib.hid ho2
 have HN2:=Lib.hid hn2
 clear hra hse ho2 hn2 hst2 HSE HST HONE
 go_wp2_with fail
 refine HRA.out.mono ?_
 rintro e w6 ⟨hb6,A2,n,c2,rfl,hl6,hot6⟩
 obtain ⟨_,A2',c2',hsl⟩:=hl6.slice
 obtain ⟨rfl,rfl,rfl⟩:A2=A2'∧n=sa.kids.length∧c2=c2':=by injection hsl with h1 h2 h3; exact ⟨h1,h2,h3⟩
 rw [HN2.out]at hl6
 rw [HN2.out,HO2.out]
 unfold ze
 simp only []
 obtain ⟨W7,hW7⟩:∃ W7,w6.alloc (.cells #[.int .i64 kind2,.bool b2,.bool neg2,.string dg2,.int .i64 ex2,.int .u64 u2,.int .i64 wd2,.string s2,.slice A2 n2 c2] 28)=W7:=⟨_,rfl⟩
 obtain ⟨q7,hq7⟩:∃ b,w6.heap.size=b:=⟨_,rfl⟩
 have hal:Below w6.heap.size w6 W7:=by rw [← hW7]; exact (Below.refl _ _).alloc (Nat.le_refl _) _
 have hkq7:Blk W7 q7 #[.int .i64 kind2,.bool b2,.bool neg2,.string dg2,.int .i64 ex2,.int .u64 u2,.int .i64 wd2,.string s2,.slice A2 n2 c2] 28:=by rw [← hW7]; exact j3 hq7 _ _
 have hb67:=hb6.trans (hal.mono hb6.size)
 have hb47:=HB45.out.trans (hb67.mono hz5)
 have hl7:LAt W7 (fun q=>w5.heap.size≤q∧q<w6.heap.size) 16 sa.kids (.slice A2 n2 c2):=hl6.keep (fun q hq=>hal.block q hq.2)
 have HK7:=Lib.hid (HK5.out.below hb67 HK5.out.lt)
 have HKB7:=Lib.hid hkq7
 have HL7:=Lib.hid hl7
 have HB47:=Lib.hid hb47
 have HB7:=Lib.hid (HBW5.out.trans (hb67.mono hz5w))
 have HW7:=Lib.hid hW7
 have HQ7:=Lib.hid hq7
 have hzz7:=hkq7.lt
 have hz7:=hb67.size
 clear hW7 hq7 hal hkq7 hl7 hb47 hb67 hb6 hl6 hsl hot6 HRA
 go_upto_region 7 with fail
 rw [HW7.out,HQ7.out]
 clear HW7
 go_wp2_with (refine wpList_load_row rfl 28 (.tmp 2) rfl w.heap.size rfl 28 _ (0,0) _ HK7.out Tryz.underlying28 rfl (by kernel_rfl) ?_)
 refine (HSE2.out W7 HB47.out).mono ?_
 rintro e w8 ⟨⟨A3,c3,rfl,hl8⟩,hb8⟩
 obtain ⟨W9,hW9⟩:∃ W9,w8.alloc (.cells #[.int .i64 kind2,.bool b2,.bool neg2,.string dg2,.int .i64 ex2,.int .u64 u2,.int .i64 wd2,.string s2,.slice A3 n2 c3] 28)=W9:=⟨_,rfl⟩
 obtain ⟨q9,hq9⟩:∃ b,w8.heap.size=b:=⟨_,rfl⟩
 have hal:Below w8.heap.size w8 W9:=by rw [← hW9]; exact (Below.refl _ _).alloc (Nat.le_refl _) _
 have hkq9:Blk W9 q9 #[.int .i64 kind2,.bool b2,.bool neg2,.string dg2,.int .i64 ex2,.int .u64 u2,.int .i64 wd2,.string s2,.slice A3 n2 c3] 28:=by rw [← hW9]; exact j3 hq9 _ _
 have hb89:=hb8.trans (hal.mono hb8.size)
 have hz8:=hb8.size
 have hz9:=hkq9.lt
 have hqq:=HQ7.out
 have hlA:zq W9 q9 16 sa.kids (.slice A2 n2 c2):=(HL7.out.keep (fun q hq=>hb89.block q (by omega))).mono (fun q hq=>by omega)
 have hlB:zq W9 q9 17 sa.kids (.slice A3 n2 c3):=(hl8.keep (fun q hq=>hal.block q hq.2)).mono (fun q hq=>by omega)
 have hsm:=zeq 16 sa sa (.slice A2 n2 c2) (.slice A3 n2 c3) W9 q9 17 hlA hlB (by omega)
 rw [vv,HO2.out]at hsm
 unfold ze at hsm
 simp only []at hsm
 have HSM:=Lib.hid hsm
 have HKA9:=Lib.hid (HKB7.out.below hb89 HKB7.out.lt)
 have HKB9:=Lib.hid hkq9
 have HB9:=Lib.hid (HB7.out.trans (hb89.mono (by omega)))
 have HW9:=Lib.hid hW9
 have HQ9:=Lib.hid hq9
 clear hW9 hq9 hal hkq9 hb89 hb8 hl8 hlA hlB hsm hqq HSE2 HL7 HK7 HKB7 HB47 HB7
 go_upto_region 8 with fail
 rw [HW9.out,HQ9.out]
 clear HW9 HQ9
 have kka:=fun i=>HKA9.out.cell i
 have kkb:=fun i=>HKB9.out.cell i
 go_wp2_with fail
 refine HSM.out.mono ?_
 rintro e WX ⟨rfl,hbx⟩
 have HBX:=Lib.hid (HB9.out.trans (hbx.mono HB9.out.size))
 clear kka kkb hbx HSM HKA9 HKB9 HB9
 clear HK5 HBW5 HB45
 go_upto_region 10 with fail
 rotate_left
 obtain ⟨WX,hWX⟩:∃ W,w5=W:=⟨_,rfl⟩
 rw [hWX]at HBW5
 have HBX:=HBW5
 go_upto_region 10 with fail
 rw [hWX]
 clear HSE HST HONE HK5 HB45 hz5 hz5w hWX HBW5
 rotate_left
 obtain ⟨WX,hWX⟩:∃ W,w5=W:=⟨_,rfl⟩
 rw [hWX]at HBW5
 have HBX:=HBW5
 go_upto_region 10 with fail
 rw [hWX]
 clear HSE HST HONE HK5 HB45 hz5 hz5w hWX HBW5
 rotate_left
 all_goals
  have hzx:=HBX.out.size
  have hrs:=zcm (aT:=aT) (aF:=aF) s (by omega) WX (HU.out WX HBX.out)
  have hcnt:=zlM s
  have hcnt2:=zlL s
  have hrc:=fun (W:World) (hW:Below w.heap.size w W)=>zhp (aT:=aT) (aF:=aF) s (by omega) W (HU.out W hW)
  have hor:=fun (x:Tr) (e:RD s=(0,x)) (hso:zj 2 flC x=0→ki x)=>zlC e hso
  obtain ⟨⟨hh,x⟩,hrd⟩:∃ rd,RD s=rd:=⟨_,rfl⟩
  obtain ⟨⟨jj,y⟩,hrc0⟩:∃ rc,RC s=rc:=⟨_,rfl⟩
  rw [hrd]at hrs hcnt
  simp only [hrc0]at hrc hcnt2
  simp only [hrd,hrc0]at hor
  unfold xP at hrs hrc
  simp only []at hrs hrc hcnt hcnt2
  have HRS:=Lib.hid hrs
  have HRC:=Lib.hid hrc
  have HOR:=Lib.hid hor
  clear hrs hrc hor hrd hrc0
  go_wp2_with fail
  refine HRS.out.mono ?_
  rintro e w10 ⟨hb10,A4,n4,c4,rfl,hl10,hot10⟩
  obtain ⟨_,A4',c4',hsl⟩:=hl10.slice
  obtain ⟨rfl,rfl,rfl⟩:A4=A4'∧n4=x.kids.length∧c4=c4':=by injection hsl with h1 h2 h3; exact ⟨h1,h2,h3⟩
  have hso:zj 2 flC x=0→ki x:=fun h=>zaH hl10 hot10 h
  have hfa:=fun (e:hh=0)=>HOR.out x (by rw [e]) hso
  obtain ⟨n4,hn4⟩:∃ n,x.kids.length=n:=⟨_,rfl⟩
  obtain ⟨⟨kind4,b4,neg4,dg4,ex4,u4,wd4,s4⟩,ho4⟩:∃ o,x.own=o:=⟨_,rfl⟩
  rw [hn4]at hl10
  rw [hn4,ho4]
  unfold ze
  simp only []
  obtain ⟨W11,hW11⟩:∃ W11,w10.alloc (.cells #[.int .i64 kind4,.bool b4,.bool neg4,.string dg4,.int .i64 ex4,.int .u64 u4,.int .i64 wd4,.string s4,.slice A4 n4 c4] 28)=W11:=⟨_,rfl⟩
  obtain ⟨q11,hq11⟩:∃ b,w10.heap.size=b:=⟨_,rfl⟩
  have hal:Below w10.heap.size w10 W11:=by rw [← hW11]; exact (Below.refl _ _).alloc (Nat.le_refl _) _
  have hkq11:Blk W11 q11 #[.int .i64 kind4,.bool b4,.bool neg4,.string dg4,.int .i64 ex4,.int .u64 u4,.int .i64 wd4,.string s4,.slice A4 n4 c4] 28:=by rw [← hW11]; exact j3 hq11 _ _
  have hb11:=hb10.trans (hal.mono hb10.size)
  have hz11:=hkq11.lt
  have hl11:LAt W11 (fun q=>q<q11) 16 x.kids (.slice A4 n4 c4):=(hl10.keep (fun q hq=>hal.block q hq.2)).mono (fun q hq=>by omega)
  have hB11:=HBX.out.trans (hb11.mono hzx)
  have hwx:=yh x (.slice A4 n4 c4) W11 (fun q=>q<q11) 16 aT aF hl11 hot10 (fun q hq=>by omega) (by omega) (HU.out W11 hB11).g
  obtain ⟨tw,htw⟩:∃ a,qY x=a:=⟨_,rfl⟩
  obtain ⟨cx,hcx⟩:∃ c,zj 2 flC x=c:=⟨_,rfl⟩
  rw [htw,hcx]at hwx
  simp only [htw,hcx]at hfa
  rw [ho4]at hwx
  unfold ze at hwx
  simp only []at hwx
  have HWX:=Lib.hid hwx
  have HFA:=Lib.hid hfa
  have HL11:=Lib.hid hl11
  have HK11:=Lib.hid hkq11
  have HB11:=Lib.hid hB11
  have HOT:=Lib.hid hot10
  have HO4:=Lib.hid ho4
  have HN4:=Lib.hid hn4
  have HW11:=Lib.hid hW11
  have HQ11:=Lib.hid hq11
  clear hW11 hq11 hal hkq11 hb11 hl11 hB11 hwx hfa hb10 hl10 hsl hot10 hso ho4 hn4 htw hcx HRS HOR HBX
  go_upto_region 11 with fail
  rw [HW11.out,HQ11.out]
  clear HW11 HQ11
  go_wp2_with (refine wpList_load_row rfl 28 (.tmp 12) rfl q11 rfl 28 _ (0,0) _ HK11.out Tryz.underlying28 rfl (by kernel_rfl) ?_)
  refine HWX.out.mono ?_
  rintro e w12 ⟨rfl,hb12⟩
  have hB12:=HB11.out.trans (hb12.mono HB11.out.size)
  have HB12:=Lib.hid hB12
  have HL12:=Lib.hid (HL11.out.keep (W':=w12) (fun q hq=>hb12.block q (by omega)))
  have HK12:=Lib.hid (HK11.out.below hb12 HK11.out.lt)
  have hz12:=hb12.size
  clear hb12 hB12 HWX HB11 HL11 HK11
  go_upto_region 12 with fail
  go_wp2_with fail
  refine (HRC.out w12 HB12.out).mono ?_
  rintro e w13 ⟨hb13,A5,n6,c5,rfl,hl13,hot13⟩
  obtain ⟨_,A5',c5',hsl⟩:=hl13.slice
  obtain ⟨rfl,rfl,rfl⟩:A5=A5'∧n6=y.kids.length∧c5=c5':=by injection hsl with h1 h2 h3; exact ⟨h1,h2,h3⟩
  obtain ⟨n6,hn6⟩:∃ n,y.kids.length=n:=⟨_,rfl⟩
  obtain ⟨⟨kind6,b6,neg6,dg6,ex6,u6,wd6,s6⟩,ho6⟩:∃ o,y.own=o:=⟨_,rfl⟩
  rw [hn6]at hl13
  rw [hn6,ho6]
  unfold ze
  simp only []
  obtain ⟨W14,hW14⟩:∃ W14,w13.alloc (.cells #[.int .i64 kind6,.bool b6,.bool neg6,.string dg6,.int .i64 ex6,.int .u64 u6,.int .i64 wd6,.string s6,.slice A5 n6 c5] 28)=W14:=⟨_,rfl⟩
  obtain ⟨q14,hq14⟩:∃ b,w13.heap.size=b:=⟨_,rfl⟩
  have hal:Below w13.heap.size w13 W14:=by rw [← hW14]; exact (Below.refl _ _).alloc (Nat.le_refl _) _
  have hkq14:Blk W14 q14 #[.int .i64 kind6,.bool b6,.bool neg6,.string dg6,.int .i64 ex6,.int .u64 u6,.int .i64 wd6,.string s6,.slice A5 n6 c5] 28:=by rw [← hW14]; exact j3 hq14 _ _
  have hb14:=hb13.trans (hal.mono hb13.size)
  have hz14:=hkq14.lt
  have hzb:=hb13.size
  have hlA:zq W14 q14 16 x.kids (.slice A4 n4 c4):=(HL12.out.keep (fun q hq=>hb14.block q (by omega))).mono (fun q hq=>by omega)
  have hlB:zq W14 q14 16 y.kids (.slice A5 n6 c5):=(hl13.keep (fun q hq=>hal.block q hq.2)).mono (fun q hq=>by omega)
  have HKA:=Lib.hid (HK12.out.below hb14 HK12.out.lt)
  have HKB:=Lib.hid hkq14
  have HB14:=Lib.hid (HB12.out.trans (hb14.mono HB12.out.size))
  have HLA:=Lib.hid hlA
  have HLB:=Lib.hid hlB
  have HO6:=Lib.hid ho6
  have HN6:=Lib.hid hn6
  have HW14:=Lib.hid hW14
  have HQ14:=Lib.hid hq14
  clear hW14 hq14 hal hkq14 hb14 hlA hlB ho6 hn6 hb13 hl13 hsl hot13 HL12 HK12 HB12 HRC
  go_upto_region 13 with fail
  rw [HW14.out,HQ14.out]
  clear HW14 HQ14
  by_cases h0:hh=0
  ·obtain ⟨f1,f2,f3,f4,f5,f6⟩:=HFA.out h0
   obtain ⟨rfl,rfl⟩:jj=0∧y=x:=by injection f1 with h1 h2; exact ⟨h1,h2⟩
   subst h0
   subst f2
   subst f3
   have hsm:=fun (W:World) (hW:Below W14.heap.size W14 W)=>zeq 16 y y (.slice A4 n4 c4) (.slice A5 n6 c5) W q14 16 (HLA.out.below hW (by omega)) (HLB.out.below hW (by omega)) (by have:=hW.size; omega)
   rw [vv,HO6.out]at hsm
   have his:=zeP y (.slice A4 n4 c4) W14 q14 16 aT aF HLA.out HOT.out (by omega) (by omega) (HU.out W14 HB14.out).g
   rw [f4,f5,HO6.out]at his
   have ho:=HO4.out
   rw [HO6.out]at ho
   injection ho with g1 g2 g3 g4 g5 g6 g7 g8
   subst g1 g2 g3 g4 g5 g6 g7 g8
   unfold ze at hsm his
   simp only [decide_true,Bool.and_self]at hsm his
   have HSM:=Lib.hid hsm
   have HIS:=Lib.hid his
   have kka:=fun i=>HKA.out.cell i
   clear hsm his f1 f4 f5 f6 HFA HLA HLB
   go_wp2_with fail
   refine HIS.out.mono ?_
   rintro e w15 ⟨rfl,hb15⟩
   have kkc:=fun i=>(HKA.out.below hb15 HKA.out.lt).cell i
   have kkb:=fun i=>(HKB.out.below hb15 HKB.out.lt).cell i
   clear kka
   go_wp2_with fail
   refine (HSM.out w15 hb15).mono ?_
   rintro e w16 ⟨rfl,hb16⟩
   have hbX:=HB14.out.trans ((hb15.trans (hb16.mono hb15.size)).mono HB14.out.size)
   clear kkc kkb hb15 hb16 HSM HIS HKA HKB
   go_wp2_with fail
   go_ret
   exact ⟨by simp,hbX⟩
  ·have y0:(hh != 0)=true:=by rw [bne_iff_ne]; exact h0
   clear HFA HLA HLB
   go_wp2_with fail
   go_ret
   exact ⟨by simp,HB14.out⟩
end Go.Proofs.YtonihophanmaaaaGreatDoor
namespace Go.Proofs.YtonihophanmaaaaGreatDoor
open Go.RowKit Go.Shelf Go.Lib
theorem xq {P:Program} {W:World}:∀ (k:Nat) {l:List (String×DataW Unit)},laidMet P l W→laidMet P (l.drop k) W
 | 0,_,h=>h
 | _+1,[],h=>h
 | k+1,_::_,h=>xq k h.tail
theorem zb9 {n:String} {g:Nat} {text:List UInt8} {r:List (String×DataW Unit)} {W:World} (h:laidMet Tryz.prog ((n,.iface "*errors.errorString" (.ptr (.agg [.lit (.string text)])))::r) W)
  (G:Tryz.prog.globalNamed n=some g) (H:(Tryz.prog.globals[g]?).map (·.type)=some 48)
  (l:∃ C,Tryz.prog.underlying 48=some (.interface C)) (m:∀ u,Tryz.prog.typeName? 3 u=some "*errors.errorString"→u=321)
  (k:∃ f:Field,Tryz.prog.underlying 323=some (.struct #[f])∧f.type=9∧f.offset=0) (hc:Tryz.prog.cellsOf 323=1) (w:Tryz.prog.cellsOf 9=1) :
  ∃ a:Addr,W.cell? ⟨g,0,none⟩=some (.iface 321 (.pointer (some a)))∧(∃ c t,W.heap[a.block]? = some (.cells c t (0,0)))∧∃ s:ByteArray,W.cell? a=some (.string s)∧s.data.toList=text:=by
 obtain ⟨C,l⟩:=l
 obtain ⟨f,k,z,y⟩:=k
 obtain ⟨O,⟨M,E,o,L,N,P,d,B,i,x,_,F⟩,_,b⟩:=h
 obtain rfl:=Option.some.inj (G.symm.trans d)
 obtain rfl:=Option.some.inj (H.symm.trans B)
 subst F
 obtain ⟨I⟩:=o
 have D:∀ u v,I=[.iface u v]→Value.okWide Tryz.prog W .any 0 u v:=fun u v e=>by
  subst e
  exact (b g 0 (by simp [MemPlace.row])).2 u v (by simpa using World.var?_cell d i 0)
 obtain ⟨j,J,rfl,q,A,K,rfl⟩:=errorString_of_trod l m Tryz.underlying321 k z y Tryz.underlying9 hc w x D
 obtain ⟨c0,E,p⟩:=(b j.block j.off (by simp [MemPlace.row])).1
 refine ⟨j,?_,⟨c0,E,p⟩,J,q,A⟩
 simpa using World.var?_cell d i 0
theorem zm4:U8Extra Tryz.prog Tryz.lays196_ren:={ n3:=by kernel_rfl,n4:=by kernel_rfl,y3:=by kernel_rfl,y4:=by kernel_rfl,c5:=by kernel_rfl,c119:=by kernel_rfl,c138:=by kernel_rfl }
theorem zhv : "*" ++ "errors.errorString" = "*errors.errorString" := by decide
theorem zfB (u:TypeId) (h:Tryz.prog.typeName? 3 u=some "*errors.errorString"):u=321:=
 typeName_ptr_named (nm := "errors.errorString") (by rw [zhv]; kernel_rfl) (by kernel_rfl) (by decide) u (by rw [zhv]; exact h)
theorem zcp:∃ a,Tryz.prog.underlying 48=some (.interface a):=⟨_,Tryz.underlying48⟩
theorem zbf:∃ f:Field,Tryz.prog.underlying 323=some (.struct #[f])∧f.type=9∧f.offset=0:=⟨_,Tryz.underlying323,rfl,rfl⟩
theorem zco:Tryz.prog.cellsOf 323=1:=by kernel_rfl
theorem zbe:Tryz.prog.cellsOf 9=1:=by kernel_rfl
theorem wf_i64 {a:Int} (h:(Lit.int .i64 a).wf=true) : -9223372036854775808≤a∧a<9223372036854775808:=by
 simp [Lit.wf,IntKind.min,IntKind.max,IntKind.signed,IntKind.bits]at h
 omega
theorem zeO {w:World} {a:Addr} {v:Value} (h:w.cell? a=some v):a.block<w.heap.size:=by
 unfold World.cell? at h
 cases hh:w.heap[a.block]? with
 | none=>rw [hh]at h; cases h
 | some o=>exact (Array.getElem?_eq_some_iff.1 hh).1
theorem zgm {n:String} {g:Nat} {d:List UInt8} {r:List (String×DataW Unit)} {W:World} (h:laidMet Tryz.prog ((n,.iface "*errors.errorString" (.ptr (.agg [.lit (.string d)])))::r) W)
  (t:Tryz.prog.globalNamed n=some g) (x:(Tryz.prog.globals[g]?).map (·.type)=some 48):∃ z p,W.var? Tryz.prog n=some #[.iface z p]:=by
 obtain ⟨G,w⟩:=zcp
 obtain ⟨f,s,l,k⟩:=zbf
 obtain ⟨I,⟨F,L,i,E,H,J,b,m,c,j,_,q⟩,_,a⟩:=h
 obtain rfl:=Option.some.inj (t.symm.trans b)
 obtain rfl:=Option.some.inj (x.symm.trans m)
 subst q
 obtain ⟨y⟩:=i
 have o:∀ u v,y=[.iface u v]→Value.okWide Tryz.prog W .any 0 u v:=fun u v e=>by
  subst e
  exact (a g 0 (by simp [MemPlace.row])).2 u v (by simpa using World.var?_cell b c 0)
 obtain ⟨D,K,rfl,A,B,C,rfl⟩:=errorString_of_trod w zfB Tryz.underlying321 s l k Tryz.underlying9 zco zbe j o
 exact ⟨_,_,c⟩
theorem gR:Tryz.prog.globalNamed "strconv.ErrRange" = some 6:=by kernel_rfl
theorem tR:(Tryz.prog.globals[6]?).map (·.type)=some 48:=by kernel_rfl
theorem gTr:Tryz.prog.globalNamed "targum/tree.errTree" = some 0:=by kernel_rfl
theorem gFo:Tryz.prog.globalNamed "targum/tree.errForm" = some 1:=by kernel_rfl
theorem tTr:(Tryz.prog.globals[0]?).map (·.type)=some 48:=by kernel_rfl
theorem tFo:(Tryz.prog.globals[1]?).map (·.type)=some 48:=by kernel_rfl
structure zfc (l:List (String×DataW Unit)):Prop where
 eT:∃ k r,l.drop k=("targum/tree.errTree",.iface "*errors.errorString" (.ptr (.agg [.lit (.string [110,111,32,116,114,101,101])])))::r
 eF:∃ k r,l.drop k=("targum/tree.errForm",.iface "*errors.errorString" (.ptr (.agg [.lit (.string [110,111,32,115,117,99,104,32,102,111,114,109])])))::r
 ra:("unicode/utf8.acceptRanges",acceptData)∈l
 fi:("unicode/utf8.first",firstData)∈l
 eR:∃ k r,l.drop k=("strconv.ErrRange",.iface "*errors.errorString" (.ptr (.agg [.lit (.string [118,97,108,117,101,32,111,117,116,32,111,102,32,114,97,110,103,101])])))::r
theorem zii {l:List (String×DataW Unit)} (a:zfc l) {W:World} (h:laidMet Tryz.prog l W):∃ b aF,GW W b aF:=by
 obtain ⟨n,s,eT⟩:=a.eT
 obtain ⟨k,q,eF⟩:=a.eF
 obtain ⟨m,r,eR⟩:=a.eR
 have hT:=xq n h
 have hF:=xq k h
 have d:=xq m h
 rw [eT]at hT
 rw [eF]at hF
 rw [eR]at d
 obtain ⟨b,i,bT,u,j,o⟩:=zb9 hT gTr tTr zcp zfB zbf zco zbe
 obtain ⟨aF,g,bF,t,c,f⟩:=zb9 hF gFo tFo zcp zfB zbf zco zbe
 refine ⟨b,aF,i,g,?_,bT,bF,?_,zgm d gR tR⟩
 ·rintro rfl
  rw [j]at c
  cases c
  rw [o]at f
  cases f
 ·obtain ⟨p,e,_,_⟩:=h
  exact utf8Tabs_of_readsT (U8Types.of196 Tryz.lays196) zm4 (LaidVars_reads e _ _ a.fi) (LaidVars_reads e _ _ a.ra)
noncomputable abbrev kY:List (String×DataW Unit):=[("math/bits.deBruijn32tab",Rows.laid_math_bits_deBruijn32tab),("math/bits.deBruijn64tab",Rows.laid_math_bits_deBruijn64tab),("internal/strconv.uint64pow10",Rows.laid_internal_strconv_uint64pow10),("unicode/utf8.acceptRanges",Rows.laid_unicode_utf8_acceptRanges),("strconv.ErrRange",Rows.laid_strconv_ErrRange),("strconv.ErrSyntax",Rows.laid_strconv_ErrSyntax),("targum/tree.errTree",Rows.laid_targum_tree_errTree),("targum/tree.errForm",Rows.laid_targum_tree_errForm),("unicode/utf8.first",Rows.laid_unicode_utf8_first)]
noncomputable abbrev wK:List (String×DataW Unit):=[("math/bits.deBruijn32tab",Rows.laid_math_bits_deBruijn32tab),("math/bits.deBruijn64tab",Rows.laid_math_bits_deBruijn64tab),("internal/strconv.uint64pow10",Rows.laid_internal_strconv_uint64pow10),("unicode/utf8.acceptRanges",Rows.laid_unicode_utf8_acceptRanges),("errors.errorType",Rows.laid_errors_errorType),("strconv.ErrRange",Rows.laid_strconv_ErrRange),("strconv.ErrSyntax",Rows.laid_strconv_ErrSyntax),("targum/tree.errTree",Rows.laid_targum_tree_errTree),("targum/tree.errForm",Rows.laid_targum_tree_errForm),("unicode/utf8.first",Rows.laid_unicode_utf8_first)]
theorem zij {W:World} (h:laidMetH Tryz.prog wK W):laidMet Tryz.prog kY W∧handlesMet Tryz.prog [("errors.errorType",Rows.laid_errors_errorType)] W:=by
 have a:(wK.filter fun x=>x.2.handleName?.isSome)=[("errors.errorType",Rows.laid_errors_errorType)]:=by kernel_rfl
 have b:(wK.filter fun x=>x.2.handleName?.isNone)=kY:=by kernel_rfl
 unfold laidMetH at h
 rw [a,b]at h
 exact h
theorem zmF:Tryz.prog.globalNamed "errors.errorType" = some 2:=by kernel_rfl
theorem zmG:(Tryz.prog.cutTypes.find? (·.1 == "internal/reflectlite.rtype")).map (·.2)=some 107:=by kernel_rfl
theorem zjF:Tryz.prog.types.size=359:=by kernel_rfl
theorem zlb:((List.range 359).filter fun t=>Tryz.prog.rowNamed t [101,114,114,111,114])=[48]:=by kernel_rfl
theorem zmH {W:World} (h:handlesMet Tryz.prog [("errors.errorType",Rows.laid_errors_errorType)] W):zeZ W:=by
 obtain ⟨a,u,ty,d,e,f,g,b⟩:=h _ (List.mem_singleton.2 rfl)
 have i:a=[101,114,114,111,114]:=(Option.some.inj d).symm
 subst i
 obtain rfl:=Option.some.inj (zmG.symm.trans e)
 have c:ty∈(List.range 359).filter fun t=>Tryz.prog.rowNamed t [101,114,114,111,114]:=List.mem_filter.2 ⟨List.mem_range.2 (by rw [← zjF]; exact f),g⟩
 rw [zlb]at c
 obtain rfl:=List.mem_singleton.1 c
 have j:typeHandle Tryz.prog 48=.pointer (some ⟨11,48,none⟩):=by kernel_rfl
 rw [j]at b
 simpa using World.var?_cell zmF b 0
theorem ziN:zfc kY where
 eT:=⟨6,_,rfl⟩
 eF:=⟨7,_,rfl⟩
 ra:=by
  rw [show (acceptData:DataW Unit)=Rows.laid_unicode_utf8_acceptRanges from by kernel_rfl]
  exact .tail _ (.tail _ (.tail _ (.head _)))
 fi:=by
  rw [show (firstData:DataW Unit)=Rows.laid_unicode_utf8_first from by kernel_rfl]
  exact .tail _ (.tail _ (.tail _ (.tail _ (.tail _ (.tail _ (.tail _ (.tail _ (.head _))))))))
 eR:=⟨4,_,rfl⟩
theorem znW:Tryz.prog.globalNamed "internal/strconv.uint64pow10" = some 8:=by kernel_rfl
theorem znX:(Tryz.prog.globals[8]?).map (·.type)=some 326:=by kernel_rfl
theorem znY:Tryz.prog.cellsOf 25=1:=by kernel_rfl
theorem znV:Tryz.prog.cellsOf 326=20:=by kernel_rfl
theorem ziR {W:World} (h:laidMetH Tryz.prog wK W):∃ a aF,RW W a aF:=by
 obtain ⟨b,c⟩:=zij h
 obtain ⟨a,aF,e⟩:=zii ziN b
 have d:=xq 2 b
 exact ⟨a,aF,e,tabIs_of_head znW znX Tryz.underlying326 Tryz.underlying25 znY znV d,zmH c⟩
noncomputable def zmg (os:Os):World:=
 let w0:=World.holding Tryz.prog os ⟨#[],#[],[]⟩
 { w0 with heap:=w0.heap.modify 2 fun
   | .cells _ t frozen=>.cells #[.iface 107 (.agg #[.pointer (some ⟨11,48,none⟩)])] t frozen
   | o=>o }
noncomputable def zau (os:Os):World:=(zmg os).layVars Tryz.prog kY
theorem zlk (os:Os):(zau os).os=os:=World.layVars_os _ _ _
theorem zjT (os:Os) (args:Array Value):laidMetH Tryz.prog wK ((zau os).forCall (fun _ _=>0) ⟨#[],args,[]⟩).memory:=by
 refine laidMetH_of_parts ?_ ?_
 ·have c:(wK.filter fun x=>x.2.handleName?.isNone)=kY:=by kernel_rfl
  rw [c]
  have a:(kY.filter fun x=>(kY.map (·.1)).contains x.1)=kY:=List.filter_eq_self.2 fun x b=>List.contains_iff_mem.2 (List.mem_map.2 ⟨x,b,rfl⟩)
  have d:(kY.filter fun x=>!(kY.map (·.1)).contains x.1)=[]:=List.filter_eq_nil_iff.2 fun x b=>by rw [List.contains_iff_mem.2 (List.mem_map.2 ⟨x,b,rfl⟩)]; simp
  have h:laidMet Tryz.prog kY (zau os):=laidMet_layVars (w0:=zmg os) (kY.map (·.1)) [] (by rw [a]; rfl) (by rw [a]; kernel_rfl) (by rw [a]; kernel_rfl) (by rw [d]; exact LaidIn.none)
  exact h.of_heap (by simp [World.memory,World.forCall,Input.heap])
 ·kernel_rfl
theorem zfV (os:Os) (args:Array Value):((zau os).forCall (fun _ _=>0) ⟨#[],args,[]⟩).Shaped Tryz.prog:=World.shaped_of_ZipB (by kernel_rfl) (by kernel_rfl)
end Go.Proofs.YtonihophanmaaaaGreatDoor
