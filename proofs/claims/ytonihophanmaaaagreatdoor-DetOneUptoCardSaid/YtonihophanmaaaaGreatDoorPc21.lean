/- The texts CbG, CbH, CbI, DsB, put together. -/
import Derived.Test.YtonihophanmaaaaGreatDoorPc20
import Derived.Test.YtonihophanmaaaaGreatDoorPc14
import Derived.Test.YtonihophanmaaaaGreatDoorPc18
import Derived.Test.YtonihophanmaaaaGreatDoorPc08
import Derived.Test.YtonihophanmaaaaGreatDoorPc09
import Derived.Sort.Walk0
set_option maxHeartbeats 8000000
set_option maxRecDepth 100000
namespace Go.Proofs.YtonihophanmaaaaGreatDoor
open Go.RowKit Go.Shelf
theorem zcv:∀ {l:List Tr} {t:Tr},qW l→t∈l→okC t
 | [],_,_,h=>absurd h (by simp)
 | s::l,t,h,a=>by
  rw [qW]at h
  rcases List.mem_cons.1 a with rfl | a
  ·exact h.1
  ·exact zcv h.2 a
theorem zmv {a l:List Tr} {t:Tr} (h:a++[t] <+: l):(cbL a).length+(cbT t).length≤(cbL l).length:=by
 obtain ⟨s,rfl⟩:=h
 rw [wq,wq,List.length_append,List.length_append]
 show (cbL a).length+(cbT t).length≤(cbL a).length+(cbT t++[]).length+_
 rw [List.append_nil]
 omega
theorem zmw (t:Tr):1≤(cbT t).length:=by
 rw [yY]
 unfold kl
 rw [List.cons_append,List.length_cons]
 omega
theorem zdF:∀ l:List Tr,l.length≤(cbL l).length
 | []=>Nat.zero_le _
 | t::l=>by
  have a:=zdF l
  have b:=zmw t
  show l.length+1≤(cbT t++cbL l).length
  rw [List.length_append]
  omega
theorem zlj (t:Tr):t.kids.length≤(cbT t).length:=by
 have a:=zdF t.kids
 rw [yY,List.length_append,List.length_append]
 omega
theorem zaQ {B p:Nat} {d:List UInt8} {W A A':World} {row:Option Nat} (f:B≤W.heap.size) (h:WP B p d W A) (a:A.grownBy A' row) (c:∀ r,row=some r→W.heap.size≤r∧∃ o:Obj,A.heap[r]? = some o∧o.isCells=false):WP B p d W A':=
 ⟨zeh h.is a (fun r e=>.inr (c r e).2),h.below.grown a (Nat.le_trans f h.below.size) (fun k e=>Nat.le_trans f (c k e).1),
  fun k o b g i=>(a.block k (Nat.lt_of_lt_of_le (Array.getElem?_eq_some_iff.1 b).1 h.below.size) (fun e=>by have:=(c k e.symm).1; have:=(Array.getElem?_eq_some_iff.1 b).1; omega)).trans (h.others k o b g i)⟩
section
attribute [local go_sem] Oper.semAt_some qi jA
theorem zmn (l:List Tr) (ih:∀ t∈l,zdA t.kids):zdA l:=by
 intro M B p d q A n c w0 W aT aF hl T hB hb hI hG ax bl hn bB
 have bC:=(zC hI).2
 have U:=(zC hI).1
 obtain ⟨Wm,z⟩:∃ Wm,W.alloc (.map (vh p) 10)=Wm:=⟨_,rfl⟩
 obtain ⟨Wn,x⟩:∃ Wn,(Wm.alloc (.cells #[.map (some W.heap.size)] 159)).alloc (.cells #[.slice A n c] 26)=Wn:=⟨_,rfl⟩
 have af:Wm.heap.size=W.heap.size+1:=by rw [← z]; simp
 have a7:Wn.heap.size=W.heap.size+3:=by rw [← x]; simp [af]
 have ap:Wm.heap[W.heap.size]? = some (.map (vh p) 10):=by rw [← z]; exact heap_alloc_new W _
 have X:Below W.heap.size W Wm:=by rw [← z]; exact (Below.refl _ _).alloc (Nat.le_refl _) _
 have ae:Below Wm.heap.size Wm Wn:=by rw [← x]; exact ((Below.refl _ _).alloc (Nat.le_refl _) _).alloc (by simp) _
 have G:Below W.heap.size W Wn:=X.trans (ae.mono X.size)
 have ar:Wn.heap[W.heap.size]? = some (.map (vh p) 10):=(ae.block _ (by omega)).trans ap
 obtain ⟨_,ab,ac⟩:=qa Wm #[.map (some W.heap.size)] #[.slice A n c] 159 26
 rw [x,af]at ab ac
 have J:=WP.step hI G U
 have HN:=Lib.hid (zm6 (.pointer (some ⟨p,0,none⟩)) A n c (Wm.alloc (.cells #[.map (some W.heap.size)] 159)))
 rw [x]at HN
 have HF:=Lib.hid (zm5 p W)
 simp only [z]at HF
 have aW:=Lib.hid x
 have aQ:=Lib.hid ab
 have aR:=Lib.hid ac
 have aS:=Lib.hid ar
 have am:=Lib.hid J
 have HL:=Lib.hid hl
 have HB:=Lib.hid (hb.trans (G.mono (Nat.le_trans hB U)))
 have HG:=Lib.hid hG
 have aU:=Lib.hid ax
 have aO:=Lib.hid ih
 have bz:=Lib.hid G
 clear z x ab ac ar J hl hb hG ax ih ap X ae G hI
 refine jo Tryz.func71 rfl ?_
 simp only [Tryz.ntmps71,List.size_toArray,List.length_cons,List.length_nil,Nat.reduceAdd,Nat.reduceSub,Array.replicate_succ,Array.replicate_zero,List.push_toArray,List.append_toArray,List.nil_append,List.cons_append]
 go_wp2_with fail
 go_step3
 go_wp2_with fail
 refine HF.out.mono ?_
 rintro e W1 ⟨rfl,rfl⟩
 clear HF
 go_wp2_with fail
 go_step3
 go_wp2_with fail
 refine HN.out.mono ?_
 rintro e W4 ⟨rfl,rfl⟩
 simp only [World.size_alloc,af]
 clear HN aW
 go_wp2_with fail
 have Q:=Lib.hid a7
 refine qz (gf:=169) (lb:=#[.pointer (some ⟨W.heap.size+1+1,0,none⟩)]) rfl (enters_of Tryz.func169 (by kernel_rfl) rfl)
  (zi7 (W.heap.size+1+1) p B M d l A n c Wn (by omega) (by omega) aR.out (HL.out.below HB.out T) hn)
  ?hMv ?hA0 ?hKt ?hKb ?hps
  (fun b V=>WP B p (q++cbL (b.map Prod.fst)) Wn V)
  (fun _ _ _=>False)
  ?hI ?hIx ?hIM ?hIxM ?h0 ?hCt
  (fun tm b y a' V=>∃ N,Blk V N (zf y.1.own y.2) 28∧p≠N∧(b++[y]).map Prod.fst <+: l∧x9 Wn M y∧a'={ tmps:=(tm.setIfInBounds 13 (ze y.1.own y.2)).setIfInBounds 5 (.pointer (some ⟨N,0,none⟩)),defers:=[] })
  ?hAx ?assign ?body ?hS ?hSp ?done ?stop
 case hMv=>exact fun A B k o hM hk ho _=>(hM.block k (Array.getElem?_eq_some_iff.1 ho).1).trans ho
 case hA0=>exact fun o o'=>((Below.refl _ Wn).alloc (Nat.le_refl _) o).alloc (by simp) o'
 case hKt=>exact fun R h2=>R.trans h2
 case hKb=>exact fun V l o o' hl h ho=>KpW.putObj V l o o' (by omega) h ho
 case hps=>exact fun _=>rfl
 case hI=>exact fun s A A' aA h hg hr=>zaQ (by omega) h hg hr
 case hIx=>exact fun _ _ _ _ _ h _ _=>h.elim
 case hIM=>exact fun s A A' h hM=>zaQ (by omega) h (xy hM) (fun r e=>by cases e)
 case hIxM=>exact fun _ _ _ _ h _=>h.elim
 case h0 =>
  show WP B p (q++[]) Wn Wn
  rw [List.append_nil]
  exact ⟨am.out.is,Below.refl _ _,Lib.OthersKept.refl _ _ _⟩
 case hCt=>exact fun _ _ _ _=>trivial
 case hAx =>
  rintro b y a' _ A B' aA ⟨N,R,h2,h3⟩ hg hr
  exact ⟨N,jx _ _ (fun _:Unit=>_) () A B' aA R hg (fun r e=>(hr r e).2),h2,h3⟩
 case assign =>
  rintro l1 b ⟨ty,vy⟩ V K hI hT hK
  have g:x9 Wn M (ty,vy):=hT.2 (ty,vy) (by simp)
  have j:=hT.1
  have bD:=(zC hI.is).2
  have a8:=hI.below.size
  obtain ⟨_,F,i⟩:=id g
  have i:zq Wn M F ty.kids vy:=i
  obtain ⟨_,O,c2,rfl⟩:=i.slice
  obtain ⟨n2,f⟩:∃ n2,ty.kids.length=n2:=⟨_,rfl⟩
  have ak:=Lib.hid f
  have aP:=Lib.hid hK
  have aN:=Lib.hid g
  have aV:=Lib.hid j
  have HI:=Lib.hid hI
  obtain ⟨⟨L,b2,ag,an,ao,u2,aB,s2⟩,w⟩:∃ o,ty.own=o:=⟨_,rfl⟩
  have al:=Lib.hid w
  unfold zbd
  simp only [w,f]
  unfold ze
  simp only []
  clear hK hT g j w i f hI
  gi_wp2
  have au:Below V.heap.size V (V.alloc (.cells #[.int .i64 L,.bool b2,.bool ag,.string an,.int .i64 ao,.int .u64 u2,.int .i64 aB,.string s2,.slice O n2 c2] 28)):=(Below.refl _ _).alloc (Nat.le_refl _) _
  refine aP.out _ _ ((KeepsOthers.alloc _ _).from _) (KpW.below au (by have:=Q.out; omega)) (zaQ (by have:=Q.out; omega) HI.out (xy au) (fun r e=>by cases e)) ⟨V.heap.size,?_,by omega,aV.out,aN.out,?_⟩
  ·simp only [al.out,ak.out]
   exact Blk.new _ _ _
  ·simp only [al.out,ak.out]
   rfl
 case body =>
  rintro l1 b ⟨ty,vy⟩ a' V hl bA hI ⟨N,a,bE,j,g,rfl⟩
  obtain ⟨_,F,i⟩:=g.back HB.out T
  have i:zq w0 M F ty.kids vy:=i
  obtain ⟨_,O,c2,rfl⟩:=i.slice
  obtain ⟨n2,f⟩:∃ n2,ty.kids.length=n2:=⟨_,rfl⟩
  have C:ty∈l:=j.subset (by simp)
  have E:=zcv aU.out C
  have I:b.map Prod.fst++[ty] <+: l:=by
   rw [List.map_append]at j
   exact j
  have a4:=zmv I
  have a8:=hI.below.size
  have aw:=zga E
  have H:(cbT ty).length+(q++cbL (b.map Prod.fst)).length≤900000000:=by
   rw [List.length_append]
   omega
  have a3:=zlj ty
  have a5:n2≤1000000000000:=by
   rw [List.length_append]at H
   omega
  have m:=znD ty E (aO.out ty C) M B p F (q++cbL (b.map Prod.fst)) O n2 c2 w0 V aT aF (by rw [← f]; exact i) T hB (HB.out.trans (hI.below.mono hB)) hI.is HG.out (by omega) f a5
  have u:1≤ty.own.kind∧ty.own.kind≤10:=by
   rcases aw.1.shape with ⟨h,_⟩ | ⟨h,_⟩ | ⟨_,_,h,_,_⟩ | ⟨h,_,_⟩ | ⟨h,_,_,_⟩ | ⟨h,_,_⟩ | ⟨h⟩ | ⟨h,_,_,_⟩ | ⟨h,_⟩ | ⟨h,_,_⟩ <;> rw [h] <;> simp
  have aq:V.heap[W.heap.size]? = some (.map (vh p) 10):=hI.others _ _ aS.out (fun e=>by injection e with e; omega) (fun c fz e=>by cases e)
  have Y:=hI.blk aQ.out (by omega) (by decide)
  have ad:=zie p V W.heap.size aq ty.own.kind u.1 u.2
  have Z:=zi8 ty.own.kind u.1 u.2
  have HI:=Lib.hid hI
  have aa:q++cbL (b.map Prod.fst)++cbT ty=q++cbL ((b++[(ty,Value.slice O n2 c2)]).map Prod.fst):=by
   rw [List.map_append,wq,List.append_assoc]
   show _=q++(cbL (b.map Prod.fst)++(cbT ty++[]))
   rw [List.append_nil]
  have P:=Lib.hid aa
  obtain ⟨rs,ay⟩:∃ rs,q++cbL (b.map Prod.fst)++cbT ty=rs:=⟨_,rfl⟩
  rw [ay]at P m
  clear ay aa
  simp only [f]at a
  obtain ⟨⟨L,b2,ag,an,ao,u2,aB,s2⟩,w⟩:∃ o,ty.own=o:=⟨_,rfl⟩
  simp only [w]at m ad Z a u
  simp only [w,f]
  unfold ze at m ⊢
  unfold zf at a
  simp only []at m a ad Z u ⊢
  have k0:=a.cell 0
  have k1:=a.cell 1
  have k2:=a.cell 2
  have k3:=a.cell 3
  have k4:=a.cell 4
  have k5:=a.cell 5
  have k6:=a.cell 6
  have k7:=a.cell 7
  have k8:=a.cell 8
  have m0:=Y.cell 0
  have m:=Lib.hid m
  clear hI i E C j I aw aq Y a w f a4 H a3 g u
  simp only [List.setIfInBounds_toArray,List.set_cons_zero,List.set_cons_succ]
  gi_wp2_with fail
  refine (show CallsIn (Fence.wide.inRound l1) 6 _ _ _ _ _ from (callsIn_wide.2 m.out:CallsIn Fence.wide 6 _ _ _ _ _)).mono ?_
  rintro e V5 ⟨rfl,S⟩
  have az:=S.below.size
  have hall:=HI.out.trans S
  have a0:KeepsFrom Wn.heap.size V V5:=zgb S.others az HI.out.is
  have a1:KpW p B V V5:=KpW.of S az
  clear k0 k1 k2 k3 k4 k5 k6 k7 k8 m0 S ad Z m
  gi_wp2_with fail
  refine ⟨a0,a1,?_⟩
  show WP B p (q++cbL ((b++[(ty,Value.slice O n2 c2)]).map Prod.fst)) Wn V5
  rw [← P.out]
  exact hall
 case hS=>exact fun _ _ _ _ h _ _=>h
 case hSp=>exact fun _ _ _ _ h _ _=>h
 case done =>
  rintro D xs V hD ⟨hS,_⟩ hI av
  rw [hS]at hI
  have aX:W.heap.size≤D:=by have:=Q.out; omega
  have a6:WP B p (q++cbL l) W (V.putObj D (.deferred none)):=by
   have R:WP B p (q++cbL l) W V:=am.out.trans hI
   refine zaQ U R (grownBy_putObj' V D _) (fun r e=>?_)
   cases e
   exact ⟨aX,_,av,rfl⟩
  clear hS hI
  go_wp2_with fail
  refine zhE (v:=.tuple #[]) av (by simp [results,Tryz.results71,go_sem]) rfl ⟨rfl,a6⟩
 case stop=>exact fun _ _ _ _ _ _ h _=>h.elim
end
theorem znK (l:List Tr):zdA l:=
 zmn l (fun t _=>Tr.rec (motive_1:=fun t=>zdA t.kids) (motive_2:=fun l=>∀ t∈l,zdA t.kids)
  (fun _ l d=>zmn l d) (fun _ h=>absurd h (by simp)) (fun _ _ a b s c=>(List.mem_cons.1 c).elim (fun e=>by rw [e]; exact a) (b s)) t)
end Go.Proofs.YtonihophanmaaaaGreatDoor
namespace Go.Proofs.YtonihophanmaaaaGreatDoor
open Go.RowKit Go.Shelf
theorem zbU:∀ {l:List Tr},(∀ t∈l,okC t)→qW l
 | [],_=>by
  rw [qW]
  trivial
 | t::l,h=>by
  rw [qW]
  exact ⟨h t (by simp),zbU (fun s a=>h s (by simp [a]))⟩
theorem wL:∀ {l:List Tr} {t:Tr},jy l=true→t∈l→jk t=true
 | [],_,_,h=>absurd h (by simp)
 | s::l,t,h,a=>by
  rw [jy,Bool.and_eq_true]at h
  rcases List.mem_cons.1 a with rfl | a
  ·exact h.1
  ·exact wL h.2 a
theorem vE {f:Int} {fl:Own→Bool}:∀ {l:List Tr} {t:Tr},jp f fl l=true→t∈l→jf f fl t=true
 | [],_,_,h=>absurd h (by simp)
 | s::l,t,h,a=>by
  rw [jp,Bool.and_eq_true]at h
  rcases List.mem_cons.1 a with rfl | a
  ·exact h.1
  ·exact vE h.2 a
theorem vX {W:World} {S:Nat→Prop} (t:Tr):∀ (d:Nat) (x:Value),LAt W S d t.kids x→zt t.own→jk t=true→jf 2 flC t=true→okC t:=
 Tr.rec (motive_1:=fun t=>∀ (d:Nat) (x:Value),LAt W S d t.kids x→zt t.own→jk t=true→jf 2 flC t=true→okC t)
  (motive_2:=fun l=>∀ t∈l,∀ (d:Nat) (x:Value),LAt W S d t.kids x→zt t.own→jk t=true→jf 2 flC t=true→okC t)
  (fun o l v d x j u f g=>by
   rw [jk,Bool.and_eq_true]at f
   rw [jf,Bool.and_eq_true]at g
   rw [okC]
   refine ⟨⟨f.1,g.1,u,by have:=j.slice.1; exact Nat.lt_of_le_of_lt this (by decide)⟩,zbU (fun s b=>?_)⟩
   obtain ⟨i,r,rfl⟩:=List.mem_iff_getElem.1 b
   obtain ⟨_,A,c,rfl⟩:=j.slice
   obtain ⟨n,a,w,_,_,_,m,_,k⟩:=j.at_ r
   exact v _ b n w k m (wL f.2 b) (vE g.2 b))
  (fun _ h=>absurd h (by simp))
  (fun _ _ p q s b=>(List.mem_cons.1 b).elim (fun e=>by rw [e]; exact p) (q s)) t
theorem zli {x:Nat×Nat×Nat} (h:za1 x):(kl x).length≤9:=by
 unfold kl wQ
 rw [List.length_cons,beBytes_length]
 have:=h.info
 split
 ·omega
 ·have:∀ m,m≤3→2 ^ m≤8:=fun m a=>Nat.pow_le_pow_right (show 0<2 by decide) a
  have:=this (x.2.1 - 24) (by omega)
  omega
theorem znC {o:Own} {l:List Tr} (h:ya o l):(txO o).length≤400:=by
 unfold txO
 split
 ·rename_i a
  rcases h.shape with ⟨h,_⟩ | ⟨h,_⟩ | ⟨neg,m,h,c,_⟩ | ⟨h,d,_⟩ | ⟨h,b,_,_⟩ | ⟨h,b,_⟩ | ⟨h⟩ | ⟨h,_,_,_⟩ | ⟨h,_⟩ | ⟨h,_,_⟩
  all_goals first | exact b | (rw [h]at a; simp at a)
 ·exact Nat.zero_le _
mutual
theorem za6:∀ t:Tr,okC t→(cbT t).length≤409*t.count
 | .nd o l,h=>by
  rw [okC]at h
  have a:=zli (zaq h.1).1
  have b:=znC h.1
  have c:=zd5 l h.2
  rw [cbT,List.length_append,List.length_append,Tr.count]
  omega
theorem zd5:∀ l:List Tr,qW l→(cbL l).length≤409*zm l
 | [],_=>by simp [cbL]
 | t::l,h=>by
  rw [qW]at h
  have a:=za6 t h.1
  have b:=zd5 l h.2
  rw [cbL,List.length_append,zm]
  omega
end
theorem zdi {W:World} {B d:Nat} {t:Tr} {x:Value} (g:zq W B d t.kids x) (h:zt t.own) {k:Nat} (f:Blk W k (zf t.own x) 28) (a:B≤k+1):zq W (k+1) (d+1) [t] (.slice (some ⟨k,0,none⟩) 1 1):=by
 refine ⟨_,_,rfl,⟨by simp,by simp⟩,fun i e=>?_⟩
 have:i=0:=by simpa using e
 subst this
 refine ⟨_,x,rfl,Nat.lt_succ_self k,h,fun j u m=>?_,g.mono (fun q l=>Nat.lt_of_lt_of_le l a)⟩
 have hc:=f.cell j
 have c:(zf t.own x)[j]? = some u:=by
  rw [← m]
  unfold zf zp
  simp
 rw [← c,← hc]
 have b:(⟨k,0,none⟩:Addr).add (0*9+j)=⟨k,j,none⟩:=by
  unfold Addr.add
  split
  ·have:j=0:=by omega
   rw [this]
  ·simp
 rw [b]
theorem zcT (l:List Tr) (A:Option Addr) (n c:Nat) (w:World) (B d:Nat) (aT aF:Addr) (t:zq w B d l (.slice A n c)) (x:B≤w.heap.size) (r:GW w aT aF) (m:qW l) (b:(cbL l).length≤900000000) (hn:l.length=n) (k:l≠[]) :
  Calls Tryz.prog 47 #[.slice A n c] w fun e w'=>e=.returned (.string ⟨(cbL l).toArray⟩)∧Below w.heap.size w w':=by
 have j:Below w.heap.size w (w.alloc (.cells #[.pointer none,.slice none 0 0] 99)):=(Below.refl _ _).alloc (Nat.le_refl _) _
 have i:IsW w.heap.size w.heap.size (Lib.byteCells []) (w.alloc (.cells #[.pointer none,.slice none 0 0] 99)):=Lib.IsBuilderF.of (Lib.fresh_isBuilder 99 5 w)
 have f:=zdF l
 have g:cbL l≠[]:=fun e=>by
  rw [e]at f
  exact k (List.length_eq_zero_iff.1 (Nat.le_zero.1 f))
 have o:=Lib.hid (znK l B w.heap.size w.heap.size d [] A n c w _ aT aF t x (Nat.le_refl _) j i r m (by simpa using b) hn (by omega))
 have p:=Lib.hid (fun W (h:WP w.heap.size w.heap.size ([]++cbL l) (w.alloc (.cells #[.pointer none,.slice none 0 0] 99)) W)=>zkA w.heap.size w.heap.size (cbL l) W h.is g)
 obtain ⟨out,a⟩:∃ out,cbL l=out:=⟨_,rfl⟩
 rw [a]at o ⊢
 simp only [a]at p
 clear i g t r m b f k a
 go_enter Tryz.func47,Tryz.ntmps47
 go_wp2_with fail
 refine o.out.mono ?_
 rintro e u ⟨rfl,q⟩
 go_wp2_with fail
 refine (p.out u q).mono ?_
 rintro e y ⟨rfl,v⟩
 have s:=(j.trans q.below).trans v
 go_wp2_with fail
 go_ret
 exact ⟨rfl,s⟩
theorem zci {f:Int} {fl:Own→Bool} {t:Tr} (h:zj f fl t=0):t.count≤300∧t.depth≤16∧jk t=true∧jf f fl t=true:=by
 unfold zj at h
 split at h
 ·rename_i a
  split at h
  ·rename_i b
   unfold xt at a
   simp only [Bool.and_eq_true,decide_eq_true_iff]at a
   exact ⟨a.1,a.2.1,a.2.2,b⟩
  ·cases h
 ·cases h
def kr (t:Tr) (e:Int):ByteArray:=if e=0 then ⟨(cbT t).toArray⟩ else ⟨#[]⟩
theorem zkT (t:Tr) (x:Value) (w:World) (B d:Nat) (aT aF:Addr) (r:zq w B d t.kids x) (y:zt t.own) (n:B≤w.heap.size) (hc:t.count≤1000000000) (h:GW w aT aF) :
  Calls Tryz.prog 37 #[ze t.own x] w fun e w'=>e=.returned (.tuple #[.string (kr t (zj 2 flC t)),.int .i64 (zj 2 flC t)])∧Below w.heap.size w w':=by
 have f:Below w.heap.size w (w.alloc (.cells (zf t.own x) 28)):=(Below.refl _ _).alloc (Nat.le_refl _) _
 have a:=Blk.new w (zf t.own x) 28
 have j:=Lib.hid (vA 2 flC (yp aT aF) t x _ B d (r.below f n) y (Nat.le_trans n f.size) hc (h.below f))
 have g:=Lib.hid (fun W (A:Below w.heap.size w W) (k:zj 2 flC t=0)=>zcT [t] (some ⟨W.heap.size,0,none⟩) 1 1 (W.alloc (.cells (zf t.own x) 28)) (W.heap.size+1) (d+1) aT aF
  (zdi ((r.below A n).below ((Below.refl _ W).alloc (Nat.le_refl _) _) (Nat.le_trans n A.size)) y (Blk.new _ _ _) (by have:=A.size; omega)) (by simp) ((h.below A).below ((Below.refl _ W).alloc (Nat.le_refl _) _))
  (zbU (fun s S=>by
   rw [List.mem_singleton.1 S]
   obtain ⟨_,_,E,F⟩:=zci k
   exact vX t d x r y E F)) (by
   obtain ⟨T,_,E,F⟩:=zci k
   have:=za6 t (vX t d x r y E F)
   show (cbT t++[]).length≤_
   rw [List.append_nil]
   omega) rfl (by simp))
 have D:∀ s,cbL [s]=cbT s:=fun s=>by
  show cbT s++[]=_
  rw [List.append_nil]
 simp only [D]at g
 have P:=Lib.hid (yz 2 flC t)
 unfold kr
 obtain ⟨ct,q⟩:∃ ct,cbT t=ct:=⟨_,rfl⟩
 obtain ⟨ck,p⟩:∃ ck,zj 2 flC t=ck:=⟨_,rfl⟩
 rw [p]at j P ⊢
 simp only [q,p]at g
 rw [q]
 clear r y n hc h q p D
 obtain ⟨⟨kind,b,neg,dg,ex,u,wd,s⟩,z⟩:∃ o,t.own=o:=⟨_,rfl⟩
 simp only [z]at j g a f
 rw [z]
 unfold ze at j ⊢
 unfold zf at j g a f
 simp only []at j g a f ⊢
 have G:=a.cell 0
 have H:=a.cell 1
 have I:=a.cell 2
 have J:=a.cell 3
 have K:=a.cell 4
 have L:=a.cell 5
 have M:=a.cell 6
 have N:=a.cell 7
 have O:=a.cell 8
 clear z
 go_enter Tryz.func37,Tryz.ntmps37
 go_wp2_with fail
 refine j.out.mono ?_
 rintro e R ⟨rfl,l⟩
 have i:=f.trans (l.mono f.size)
 have c:=a.below l a.lt
 clear G H I J K L M N O l a f j
 have G:=c.cell 0
 have H:=c.cell 1
 have I:=c.cell 2
 have J:=c.cell 3
 have K:=c.cell 4
 have L:=c.cell 5
 have M:=c.cell 6
 have N:=c.cell 7
 have O:=c.cell 8
 by_cases k:ck=0
 ·have C:=Lib.hid (g.out R i k)
  have m:=Lib.hid (i.trans (((Below.refl _ R).alloc (o:=.cells #[.int .i64 kind,.bool b,.bool neg,.string dg,.int .i64 ex,.int .u64 u,.int .i64 wd,.string s,x] 28) (Nat.le_refl _)).mono i.size))
  subst k
  clear g i c
  go_wp2_with fail
  refine C.out.mono ?_
  rintro e U ⟨rfl,l⟩
  have Q:=m.out.trans (l.mono m.out.size)
  clear G H I J K L M N O l C m
  go_wp2_with fail
  refine bodyPost_ret (v:=.tuple #[.string ⟨ct.toArray⟩,.int .i64 0]) (by simp [results,Tryz.results37,go_sem]) rfl ⟨by simp,Q⟩
 ·have V:¬ ck=0:=k
  clear g
  go_wp2_with fail
  refine bodyPost_ret (v:=.tuple #[.string ⟨#[]⟩,.int .i64 ck]) (by simp [results,Tryz.results37,go_sem]) rfl ⟨rfl,i⟩
theorem ziy {W:World} {B d:Nat} {t t2:Tr} {x c:Value} (s:zq W B d t.kids x) (v:zt t.own) (l:zq W B d t2.kids c) (n:zt t2.own) {k:Nat} (h:Blk W k (zf t.own x++zf t2.own c) 28) (f:B≤k+1):zq W (k+1) (d+1) [t,t2] (.slice (some ⟨k,0,none⟩) 2 2):=by
 have g:∀ m,(⟨k,0,none⟩:Addr).add m=⟨k,m,none⟩:=fun m=>by
  unfold Addr.add
  split
  ·rename_i e
   rw [e]
  ·simp
 refine ⟨_,_,rfl,⟨by simp,by simp⟩,fun i p=>?_⟩
 have:i=0∨i=1:=by
  simp only [List.length_cons,List.length_nil]at p
  omega
 rcases this with rfl|rfl
 ·refine ⟨_,x,rfl,Nat.lt_succ_self k,v,fun j u a=>?_,s.mono (fun q b=>Nat.lt_of_lt_of_le b f)⟩
  rw [g,h.cell]
  have r:j<9:=by
   have:=(List.getElem?_eq_some_iff.1 a).1
   simpa [zp] using this
  have o:(zf t.own x)[j]? = some u:=by
   rw [← a]
   unfold zf zp
   simp
  rw [Array.getElem?_append_left (by simpa [zf] using r),Nat.zero_mul,Nat.zero_add,o]
 ·refine ⟨_,c,rfl,Nat.lt_succ_self k,n,fun j u a=>?_,l.mono (fun q b=>Nat.lt_of_lt_of_le b f)⟩
  rw [g,h.cell]
  have w:(zf t.own x).size=9:=rfl
  rw [Array.getElem?_append_right (by omega),w,show 1*9+j - 9=j by omega]
  rw [← a]
  unfold zf zp
  simp
abbrev zmj:Tr:=.nd { zv with kind:=1 } []
abbrev keyOf (t:Tr):Tr:=.nd { zv with kind:=8 } [t,zmj]
theorem zb5 {t:Tr} (h:zj 2 flC (keyOf t)=0):jk t=true∧jf 2 flC t=true∧t.count≤300:=by
 obtain ⟨c,_,a,b⟩:=zci h
 rw [zms,Bool.and_eq_true]at a
 rw [zmE,Bool.and_eq_true]at b
 refine ⟨wL a.2 (by simp [Tr.kids]),vE b.2 (by simp [Tr.kids]),?_⟩
 rw [Tr.count,zm]at c
 omega
theorem zcS (t:Tr) (x:Value) (w:World) (B d:Nat) (aT aF:Addr) (C:zq w B d t.kids x) (D:zt t.own) (y:B≤w.heap.size) (hc:t.count≤1000000) (h:GW w aT aF) :
  Calls Tryz.prog 32 #[ze t.own x] w fun e w'=>e=.returned (.tuple #[.string (kr t (zj 2 flC (keyOf t))),.int .i64 (if zj 2 flC (keyOf t)=0 then 0 else 61)])∧Below w.heap.size w w':=by
 have g:Below w.heap.size w (w.alloc (.cells (zf t.own x) 28)):=(Below.refl _ _).alloc (Nat.le_refl _) _
 have a:=Blk.new w (zf t.own x) 28
 have J:zt { zv with kind:=1 }:=⟨by decide,by decide,by decide,by decide,by decide,by decide⟩
 have I:zt { zv with kind:=8 }:=⟨by decide,by decide,by decide,by decide,by decide,by decide⟩
 have K:=Lib.hid (fun W k (l:Below w.heap.size w W) (hk:Blk W k (zf t.own x++zf { zv with kind:=1 } (.slice none 0 0)) 28) (Y:B≤k+1) =>
  vA 2 flC (yp aT aF) (keyOf t) (.slice (some ⟨k,0,none⟩) 2 2) W (k+1) (d+1) (ziy (t2:=zmj) (C.below l y) D (LAt.nil _ _ _ _ _) J hk Y) I hk.lt (by rw [keyOf,Tr.count,zm,zm,zm,Tr.count,zm]; omega) (h.below l))
 have i:=Lib.hid (fun W (l:Below w.heap.size w W) (p:zj 2 flC (keyOf t)=0)=>zcT [t] (some ⟨W.heap.size,0,none⟩) 1 1 (W.alloc (.cells (zf t.own x) 28)) (W.heap.size+1) (d+1) aT aF
  (zdi ((C.below l y).below ((Below.refl _ W).alloc (Nat.le_refl _) _) (Nat.le_trans y l.size)) D (Blk.new _ _ _) (by have:=l.size; omega)) (by simp) ((h.below l).below ((Below.refl _ W).alloc (Nat.le_refl _) _))
  (zbU (fun s hs=>by
   rw [List.mem_singleton.1 hs]
   obtain ⟨L,M,_⟩:=zb5 p
   exact vX t d x C D L M)) (by
   obtain ⟨L,M,h2⟩:=zb5 p
   have:=za6 t (vX t d x C D L M)
   show (cbT t++[]).length≤_
   rw [List.append_nil]
   omega) rfl (by simp))
 have G:∀ s,cbL [s]=cbT s:=fun s=>by
  show cbT s++[]=_
  rw [List.append_nil]
 simp only [G]at i
 have HB:=Lib.hid y
 have X:=Lib.hid (yz 2 flC (keyOf t))
 unfold kr
 obtain ⟨ct,z⟩:∃ ct,cbT t=ct:=⟨_,rfl⟩
 obtain ⟨ck,n⟩:∃ ck,zj 2 flC (keyOf t)=ck:=⟨_,rfl⟩
 simp only [n]at K
 rw [n]at X ⊢
 simp only [z,n]at i
 rw [z]
 have f:Hid (∀ (W:World) (k:Nat),Below w.heap.size w W→Blk W k (zf t.own x++zf { zv with kind:=1 } (.slice none 0 0)) 28→B≤k+1 →
   Calls Tryz.prog 16 #[ze { zv with kind:=8 } (.slice (some ⟨k,0,none⟩) 2 2),.int .i64 2] W fun e w'=>e=.returned (.int .i64 ck)∧Below W.heap.size W w'):=K
 clear K C D y hc h z n G J I
 obtain ⟨⟨kind,b,neg,dg,ex,u,wd,s⟩,E⟩:∃ o,t.own=o:=⟨_,rfl⟩
 simp only [E]at f i a g
 rw [E]
 unfold ze at f ⊢
 unfold zf at f i a g
 simp only [List.append_toArray,List.cons_append,List.nil_append]at f i a g ⊢
 have N:=a.cell 0
 have O:=a.cell 1
 have P:=a.cell 2
 have Q:=a.cell 3
 have R:=a.cell 4
 have S:=a.cell 5
 have T:=a.cell 6
 have U:=a.cell 7
 have V:=a.cell 8
 clear E
 go_enter Tryz.func32,Tryz.ntmps32
 go_wp2_with fail
 apply jJ 0 rfl
 go_wp2_with fail
 have m:Below w.heap.size w (((w.alloc (.cells #[.int .i64 kind,.bool b,.bool neg,.string dg,.int .i64 ex,.int .u64 u,.int .i64 wd,.string s,x] 28)).alloc (.cells #[.int .i64 kind,.bool b,.bool neg,.string dg,.int .i64 ex,.int .u64 u,.int .i64 wd,.string s,x,.int .i64 1,.bool false,.bool false,.string ⟨#[]⟩,.int .i64 0,.int .u64 0,.int .i64 0,.string ⟨#[]⟩,.slice none 0 0] 28)).alloc (.cells #[.int .i64 8,.bool false,.bool false,.string ⟨#[]⟩,.int .i64 0,.int .u64 0,.int .i64 0,.string ⟨#[]⟩,.slice (some ⟨w.heap.size+1,0,none⟩) 2 2] 28)):=(g.alloc g.size _).alloc (by simp; omega) _
 have H:Blk (((w.alloc (.cells #[.int .i64 kind,.bool b,.bool neg,.string dg,.int .i64 ex,.int .u64 u,.int .i64 wd,.string s,x] 28)).alloc (.cells #[.int .i64 kind,.bool b,.bool neg,.string dg,.int .i64 ex,.int .u64 u,.int .i64 wd,.string s,x,.int .i64 1,.bool false,.bool false,.string ⟨#[]⟩,.int .i64 0,.int .u64 0,.int .i64 0,.string ⟨#[]⟩,.slice none 0 0] 28)).alloc (.cells #[.int .i64 8,.bool false,.bool false,.string ⟨#[]⟩,.int .i64 0,.int .u64 0,.int .i64 0,.string ⟨#[]⟩,.slice (some ⟨w.heap.size+1,0,none⟩) 2 2] 28)) (w.heap.size+1) #[.int .i64 kind,.bool b,.bool neg,.string dg,.int .i64 ex,.int .u64 u,.int .i64 wd,.string s,x,.int .i64 1,.bool false,.bool false,.string ⟨#[]⟩,.int .i64 0,.int .u64 0,.int .i64 0,.string ⟨#[]⟩,.slice none 0 0] 28:=by
  have:=Blk.new (w.alloc (.cells #[.int .i64 kind,.bool b,.bool neg,.string dg,.int .i64 ex,.int .u64 u,.int .i64 wd,.string s,x] 28)) #[.int .i64 kind,.bool b,.bool neg,.string dg,.int .i64 ex,.int .u64 u,.int .i64 wd,.string s,x,.int .i64 1,.bool false,.bool false,.string ⟨#[]⟩,.int .i64 0,.int .u64 0,.int .i64 0,.string ⟨#[]⟩,.slice none 0 0] 28
  rw [World.size_alloc]at this
  exact this.alloc _
 have A:Blk (((w.alloc (.cells #[.int .i64 kind,.bool b,.bool neg,.string dg,.int .i64 ex,.int .u64 u,.int .i64 wd,.string s,x] 28)).alloc (.cells #[.int .i64 kind,.bool b,.bool neg,.string dg,.int .i64 ex,.int .u64 u,.int .i64 wd,.string s,x,.int .i64 1,.bool false,.bool false,.string ⟨#[]⟩,.int .i64 0,.int .u64 0,.int .i64 0,.string ⟨#[]⟩,.slice none 0 0] 28)).alloc (.cells #[.int .i64 8,.bool false,.bool false,.string ⟨#[]⟩,.int .i64 0,.int .u64 0,.int .i64 0,.string ⟨#[]⟩,.slice (some ⟨w.heap.size+1,0,none⟩) 2 2] 28)) w.heap.size #[.int .i64 kind,.bool b,.bool neg,.string dg,.int .i64 ex,.int .u64 u,.int .i64 wd,.string s,x] 28:=(a.alloc _).alloc _
 refine (f.out _ (w.heap.size+1) m H (by have:=HB.out; omega)).mono ?_
 rintro e w4 ⟨rfl,q⟩
 have j:=m.trans (q.mono m.size)
 have c:=A.below q A.lt
 clear N O P Q R S T U V q a g H A m f
 have N:=c.cell 0
 have O:=c.cell 1
 have P:=c.cell 2
 have Q:=c.cell 3
 have R:=c.cell 4
 have S:=c.cell 5
 have T:=c.cell 6
 have U:=c.cell 7
 have V:=c.cell 8
 by_cases p:ck=0
 ·have F:=Lib.hid (i.out w4 j p)
  have r:=Lib.hid (j.trans (((Below.refl _ w4).alloc (o:=.cells #[.int .i64 kind,.bool b,.bool neg,.string dg,.int .i64 ex,.int .u64 u,.int .i64 wd,.string s,x] 28) (Nat.le_refl _)).mono j.size))
  subst p
  clear i j c
  go_wp2_with fail
  refine F.out.mono ?_
  rintro e w5 ⟨rfl,q⟩
  have Z:=r.out.trans (q.mono r.out.size)
  clear N O P Q R S T U V q F r
  go_wp2_with fail
  rw [jO]
  refine bodyPost_ret (v:=.tuple #[.string ⟨ct.toArray⟩,.int .i64 0]) (by simp [results,Tryz.results32,go_sem]) rfl ⟨by simp,Z⟩
 ·have y1:¬ ck=0:=p
  clear i
  go_wp2_with fail
  go_step3
  simp +zetaDelta only [Exit.then,ju]
  go_wp2_with fail
  refine bodyPost_ret (v:=.tuple #[.string ⟨#[]⟩,.int .i64 61]) (by simp [results,Tryz.results32,go_sem]) rfl ⟨rfl,j⟩
theorem zjU (a b:Tr):yw cbT a b=(([(if zj 2 flC (keyOf a)=0 then (0:Int) else 61),if zj 2 flC (keyOf b)=0 then (0:Int) else 61].all qF) && Op.bytesLess (kr a (zj 2 flC (keyOf a))).toList (kr b (zj 2 flC (keyOf b))).toList):=by
 have e:keyOf a=vm a:=rfl
 have f:keyOf b=vm b:=rfl
 rw [e,f,Go.Proofs.bytesLess_eq]
 unfold yw
 by_cases c:zj 2 flC (vm a)=0
 ·by_cases d:zj 2 flC (vm b)=0
  ·rw [if_pos c,if_pos d,c,d]
   unfold kr
   rw [if_pos rfl,if_pos rfl]
   simp [qF,ByteArray.toList_eq]
  ·rw [if_neg d,decide_eq_false d]
   simp [qF]
 ·rw [if_neg c,decide_eq_false c]
  simp [qF]
theorem zf1 {W:World} {a:Nat} {b:Array Value} {t:TypeId} (h:Blk W a b t):xg W (a+1) 1 (some ⟨a,0,none⟩) b.size b.toList:=by
 refine ⟨by simp,fun _=>⟨_,rfl,Nat.lt_succ_self _,fun j u d=>?_⟩⟩
 have e:(⟨a,0,none⟩:Addr).add j=⟨a,j,none⟩:=by
  unfold Addr.add
  split
  ·rename_i c
   rw [c]
  ·simp
 rw [e,h.cell]
 simpa using d
theorem zju (e f:Int) (a:Nat) (t:TypeId) (W:World) (h:Blk W a #[.int .i64 e,.int .i64 f] t) :
  Calls Tryz.prog 33 #[.slice (some ⟨a,0,none⟩) 2 2] W fun x w'=>x=.returned (.bool ([e,f].all qF))∧Below W.heap.size W w':=
 zfu (some ⟨a,0,none⟩) 2 2 [e,f] (a+1) W (by omega) (zf1 h) h.lt
theorem zfs (a b:Tr) (A C:Option Addr) (G H D E:Nat) (w:World) (B d:Nat) (aT aF:Addr) (N:zq w B d a.kids (.slice A G D)) (O:zq w B d b.kids (.slice C H E)) (R:zt a.own) (S:zt b.own)
  (r:B≤w.heap.size) (L:a.count≤1000000) (M:b.count≤1000000) (h:GW w aT aF) :
  Calls Tryz.prog 15 #[ze a.own (.slice A G D),ze b.own (.slice C H E)] w fun e w'=>e=.returned (.bool (yw cbT a b))∧Below w.heap.size w w':=by
 rw [zjU]
 have g:=fun W (k:Below w.heap.size w W)=>zcS a (.slice A G D) W B d aT aF (N.below k r) R (Nat.le_trans r k.size) L (h.below k)
 have j:=fun W (k:Below w.heap.size w W)=>zcS b (.slice C H E) W B d aT aF (O.below k r) S (Nat.le_trans r k.size) M (h.below k)
 obtain ⟨s,X⟩:∃ s,kr a (zj 2 flC (keyOf a))=s:=⟨_,rfl⟩
 obtain ⟨t,Y⟩:∃ t,kr b (zj 2 flC (keyOf b))=t:=⟨_,rfl⟩
 obtain ⟨e,U⟩:∃ e:Int,(if zj 2 flC (keyOf a)=0 then (0:Int) else 61)=e:=⟨_,rfl⟩
 obtain ⟨f,V⟩:∃ e:Int,(if zj 2 flC (keyOf b)=0 then (0:Int) else 61)=e:=⟨_,rfl⟩
 simp only [X,U]at g
 simp only [Y,V]at j
 rw [X,Y,U,V]
 obtain ⟨⟨kind,b0,neg,dg,ex,u,wd,s0⟩,P⟩:∃ o,a.own=o:=⟨_,rfl⟩
 obtain ⟨⟨F,aa,Z,ab,ac,u',ag,af⟩,Q⟩:∃ o,b.own=o:=⟨_,rfl⟩
 rw [P]at g ⊢
 rw [Q]at j ⊢
 unfold ze at g j ⊢
 simp only []at g j ⊢
 have g:=Lib.hid g
 have j:=Lib.hid j
 have I:=Lib.hid (qa w #[.int .i64 kind,.bool b0,.bool neg,.string dg,.int .i64 ex,.int .u64 u,.int .i64 wd,.string s0,.slice A G D] #[.int .i64 F,.bool aa,.bool Z,.string ab,.int .i64 ac,.int .u64 u',.int .i64 ag,.string af,.slice C H E] 28 28)
 obtain ⟨q,hq⟩:∃ q,[e,f].all qF=q:=⟨_,rfl⟩
 have p:=fun bk t W h=>zju e f bk t W h
 rw [hq]at p ⊢
 have p:=Lib.hid p
 clear X Y U V P Q N O R S r L M h hq
 go_enter Tryz.func15,Tryz.ntmps15
 obtain ⟨n,ad,z⟩:=I.out
 go_wp2_with fail
 refine (g.out _ n).mono ?_
 rintro x w1 ⟨rfl,v⟩
 have c:=n.trans (v.mono n.size)
 have T:=z.below v z.lt
 clear n ad z v g I
 have kk:=fun i=>T.cell i
 go_wp2_with fail
 refine (j.out _ c).mono ?_
 rintro x w2 ⟨rfl,J⟩
 have l:=c.trans (J.mono c.size)
 clear J c T kk j
 have m:=l.alloc l.size (.cells #[.int .i64 e,.int .i64 f] 29)
 have hn:=Blk.new w2 #[.int .i64 e,.int .i64 f] 29
 go_wp2_with fail
 refine (p.out _ _ _ hn).mono ?_
 rintro x w4 ⟨rfl,K⟩
 have y:=m.trans (K.mono m.size)
 clear K m l hn p
 cases q with
 | true =>
  go_wp2_with fail
  go_ret
  exact ⟨by simp,y⟩
 | false =>
  go_wp2_with fail
  go_ret
  exact ⟨by simp,y⟩
end Go.Proofs.YtonihophanmaaaaGreatDoor
