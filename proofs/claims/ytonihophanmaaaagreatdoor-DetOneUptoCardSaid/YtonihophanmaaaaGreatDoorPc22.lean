/- The texts DsG, put together. -/
import Derived.Test.YtonihophanmaaaaGreatDoorPc08
import Derived.Test.YtonihophanmaaaaGreatDoorPc21
import Derived.Test.YtonihophanmaaaaGreatDoorPc06
set_option maxHeartbeats 8000000
set_option maxRecDepth 100000
namespace Go.Proofs.YtonihophanmaaaaGreatDoor
open Go.RowKit Go.Shelf
attribute [local go_sem] Oper.semAt_some qi jA
noncomputable def zdb (k:Tr):ByteArray:=kr k (zj 2 flC (keyOf k))
noncomputable def xb (l:List Tr) (i:Nat):ByteArray:=zdb (l.getD (2*i) (.nd zv []))
def jZ (it:Nat→ByteArray):Nat→Bool
 | 0=>true
 | 1=>true
 | k+2=>jZ it (k+1) && Op.bytesLess (it k).toList (it (k+1)).toList
theorem zbB (it:Nat→ByteArray) {a:Nat} (h:jZ it a=false):∀ b,a≤b→jZ it b=false
 | 0,c=>by
  rw [show a=0 from by omega]at h
  exact h
 | 1,c=>by
  rcases (by omega:a=0∨a=1) with e | e <;> (rw [e]at h; exact absurd h (by simp [jZ]))
 | b+2,c=>by
  rcases (by omega:a=b+2∨a≤b+1) with e | e
  ·rw [← e]; exact h
  ·rw [jZ,zbB it h (b+1) e,Bool.false_and]
def za3 (it:Nat→ByteArray) (bL m j:Nat) (W:World):Prop:=
 (j=0∧Blk W bL #[.pointer none] 133)∨(∃ i k cs,j=i+1∧Blk W bL #[.pointer (some ⟨k,0,none⟩)] 133∧m≤k∧Blk W k cs 122∧cs[9]? = some (.string (it i)))
theorem zdf {it:Nat→ByteArray} {e m j:Nat} {X Y:World} {row:Option Nat} (h:za3 it e m j X) (c:X.grownBy Y row) (d:∀ r,row=some r→∃ o:Obj,X.heap[r]? = some o∧o.isCells=false):za3 it e m j Y:=by
 rcases h with ⟨a,b⟩ | ⟨i,k,f,a,b,g,l,n⟩
 ·exact .inl ⟨a,kw b c d⟩
 ·exact .inr ⟨i,k,f,a,kw b c d,g,kw l c d,n⟩
theorem zfX {it:Nat→ByteArray} {a m j b:Nat} {X Y:World} (h:za3 it a m j X) (f:X.grownBy Y (some b)) (p:b≠a) (q:b<m):za3 it a m j Y:=by
 rcases h with ⟨c,d⟩ | ⟨i,k,g,c,d,l,n,o⟩
 ·exact .inl ⟨c,d.kept f (fun e=>by cases e; omega)⟩
 ·exact .inr ⟨i,k,g,c,d.kept f (fun e=>by cases e; omega),l,n.kept f (fun e=>by cases e; omega),o⟩
def zkG (N:Nat) (it:Nat→ByteArray) (w:World) (pre:List Nat) (W:World):Prop:=
 (Blk W (N+1) #[.bool true] 4∧za3 it N (N+4) pre.length W∧jZ it pre.length=true)∧Below N w W
def zna (N n:Nat) (it:Nat→ByteArray) (w:World) (c:Code) (_:List Nat) (W:World):Prop:=
 (c=.exit 0∧Blk W (N+1) #[.bool false] 4∧jZ it (n / 2)=false)∧Below N w W
def zn2 (A:Option Addr) (n:Nat) (T:Array Value) (pre:List Nat) (x:Nat) (a':Act) (_:World):Prop:=
 (x=pre.length∧pre.length<n / 2)∧a'={ tmps:=(T.setIfInBounds 10 (.slice (xN A x) 2 2)).setIfInBounds 5 (.slice (xN A x) 2 2),defers:=[] }
theorem zlO (N:Nat) (it:Nat→ByteArray) (w:World) {m:Nat} (f:N≤m) (g:N≤w.heap.size):OwnFrom m (zkG N it w):=by
 refine fun s X Y d a b c=>⟨⟨kw a.1.1 b (fun r e=>(c r e).2),zdf a.1.2.1 b (fun r e=>(c r e).2),a.1.2.2⟩,?_⟩
 exact ownFrom_below (β:=Unit) g f () X Y d a.2 b c
theorem zlP (N n:Nat) (it:Nat→ByteArray) (w:World) {m:Nat} (g:N≤m) (h:N≤w.heap.size) (c:Code):OwnFrom m (zna N n it w c):=by
 refine fun s X Y f a b d=>⟨⟨a.1.1,kw a.1.2.1 b (fun r e=>(d r e).2),a.1.2.2⟩,?_⟩
 exact ownFrom_below (β:=Unit) h g () X Y f a.2 b d
theorem zgj {N:Nat} {it:Nat→ByteArray} {w W a:World} {i:List Nat} {x k:Nat} {c:Array Value} {y:Value} (h:KeepsFrom k W a) (g:KpD N (N+2) (N+3) W a) (p:Blk a N #[y] 133)
  (s:Blk a (N+1) #[.bool true] 4) (t:Below N w a) (z:N+4≤W.heap.size) (v:c[9]? = some (.string (it x))) (u:jZ it (x+1)=true) (o:(i++[x]).length=x+1) :
  KeepsFrom k W ((a.setCell ⟨N,0,none⟩ (.pointer (some ⟨a.heap.size,0,none⟩))).alloc (.cells c 122))∧KpD N (N+2) (N+3) W ((a.setCell ⟨N,0,none⟩ (.pointer (some ⟨a.heap.size,0,none⟩))).alloc (.cells c 122)) ∧
   zkG N it w (i++[x]) ((a.setCell ⟨N,0,none⟩ (.pointer (some ⟨a.heap.size,0,none⟩))).alloc (.cells c 122)):=by
 have A:=h.size
 have d:=qq a N 0 (.pointer (some ⟨a.heap.size,0,none⟩))
 obtain ⟨W6,b⟩:∃ W6,a.setCell ⟨N,0,none⟩ (.pointer (some ⟨a.heap.size,0,none⟩))=W6:=⟨_,rfl⟩
 have r:W6.heap.size=a.heap.size:=by rw [← b]; simp [World.setCell]
 have n:Blk W6 N #[.pointer (some ⟨a.heap.size,0,none⟩)] 133:=by rw [← b]; exact p.set 0 _
 have j:KeepsFrom k W W6:=by rw [← b]; exact h.trans ((KeepsOthers.setCell _ _ _).from _)
 rw [b]at d ⊢
 have f:Below W6.heap.size W6 (W6.alloc (.cells c 122)):=(Below.refl _ _).alloc (Nat.le_refl _) _
 have l:Below N w W6:=t.grown d (by omega) (fun q e=>by cases e; omega)
 have m:Below N a W6:=(Below.refl _ _).grown d (by omega) (fun q e=>by cases e; omega)
 refine ⟨j.trans (kC f),⟨(g.1.trans m).trans (f.mono (by omega)),fun _=>?_,fun _=>?_⟩,⟨⟨?_,?_,?_⟩,?_⟩⟩
 ·rw [f.block _ (by omega),d.block _ (by omega) (fun e=>absurd (Option.some.inj e) (by omega))]
  exact g.2.1 (by omega)
 ·rw [f.block _ (by omega),d.block _ (by omega) (fun e=>absurd (Option.some.inj e) (by omega))]
  exact g.2.2 (by omega)
 ·exact (s.kept d (by simp)).alloc _
 ·rw [o]
  exact .inr ⟨x,a.heap.size,c,rfl,n.alloc _,by omega,j3 r _ _,v⟩
 ·rw [o]; exact u
 ·exact l.trans (f.mono (by omega))
theorem zjv (l:List Tr) (A:Option Addr) (n c:Nat) (w:World) (B d:Nat) (aT aF:Addr) (U:zq w B d l (.slice A n c)) (hn:l.length=n) (hB:B≤w.heap.size) (hc:∀ t∈l,t.count≤1000000) (h:GW w aT aF) (bD:n≤1000000) :
  Calls Tryz.prog 64 #[.slice A n c] w fun e w'=>e=.returned (.bool (jZ (xb l) (n / 2)))∧Below w.heap.size w w':=by
 have bE:=U.cap
 have hA:0<n→∃ a,A=some a:=fun h0=>by
  obtain ⟨_,ad,_,_,hd,_⟩:=U.at_ (k:=0) (by omega)
  exact ⟨ad,hd⟩
 obtain ⟨N,J⟩:∃ N,w.heap.size=N:=⟨_,rfl⟩
 have HL:=Lib.hid U
 have HG:=Lib.hid h
 have HN:=Lib.hid hn
 have HC:=Lib.hid hc
 have aG:Below N w (w.alloc (.cells #[.pointer none] 133)):=(Below.refl _ w).alloc (by omega) _
 clear U h hn hc
 refine jo Tryz.func64 rfl ?_
 simp only [Tryz.ntmps64,List.size_toArray,List.length_cons,List.length_nil,Nat.reduceAdd,Nat.reduceSub,Array.replicate_succ,Array.replicate_zero,List.push_toArray,List.append_toArray,List.nil_append,List.cons_append]
 go_wp2_with fail
 go_step3
 go_wp2_with fail
 go_step3
 go_wp2_with fail
 refine (zc0 A n c _).mono ?_
 rintro e w5 ⟨rfl,C⟩
 simp only [World.size_alloc]at C ⊢
 rw [J]
 have bH:w5.heap.size=N+4:=by rw [← C]; simp [J]
 have a3:Below N w w5:=by
  rw [← C]
  exact ((aG.alloc (by simp; omega) _).alloc (by simp; omega) _).alloc (by simp; omega) _
 have a4:Blk w5 N #[.pointer none] 133:=by
  rw [← C]
  exact (((j3 J _ _).alloc _).alloc _).alloc _
 have a5:Blk w5 (N+1) #[.bool true] 4:=by
  rw [← C]
  exact ((j3 (by simp [J]) _ _).alloc _).alloc _
 have a6:Blk w5 (N+2) #[.slice A n c] 26:=by
  rw [← C]
  exact (j3 (by simp [J]) _ _).alloc _
 have a7:Blk w5 (N+3) #[.int .i64 2] 3:=by
  rw [← C]
  exact j3 (by simp [J]) _ _
 clear C aG
 go_wp2_with fail
 refine qz (gf:=134) (lb:=#[.pointer (some ⟨N+2,0,none⟩),.pointer (some ⟨N+3,0,none⟩)]) rfl (enters_of Tryz.func134 (by kernel_rfl) rfl)
  (zcV N (N+2) (N+3) n c A (by omega) (by have:=HN.out; omega) hA (by omega)) ?hMv ?hA0 ?hKt ?hKb ?hps (zkG N (xb l) w) (zna N n (xb l) w) ?hI ?hIx ?hIM ?hIxM ?h0 ?hCt
  (zn2 A n) ?hAx ?assign ?body ?hS ?hSp ?done ?stop
 case hMv =>
  intro X Y k o hM hk ho _
  exact (hM.block k (Array.getElem?_eq_some_iff.1 ho).1 (fun e=>by cases e; omega)).trans ho
 case hA0 =>
  intro o o'
  exact ⟨(a6.alloc o).alloc o',(a7.alloc o).alloc o'⟩
 case hKt =>
  intro X Y Z F G
  exact zei F G
 case hKb =>
  intro W k o o' U ho hc
  exact zhD W k o o' (by omega:N≤w5.heap.size) (by omega) (by omega) U ho
 case hps=>intro x; rfl
 case hI=>exact zlO _ _ _ (by omega) (by omega)
 case hIx=>exact fun c'=>zlP _ _ _ _ (by omega) (by omega) c'
 case hIM =>
  rintro s X Y ⟨⟨F,G,m⟩,p⟩ T
  exact ⟨⟨F.kept T (by simp),zfX G T (by omega) (by omega),m⟩,p.grown T (by have:=p.size; omega) (fun q e=>by cases e; omega)⟩
 case hIxM =>
  rintro c' s X Y ⟨⟨F,G,m⟩,p⟩ T
  exact ⟨⟨F,G.kept T (by simp),m⟩,p.grown T (by have:=p.size; omega) (fun q e=>by cases e; omega)⟩
 case h0=>exact ⟨⟨a5,.inl ⟨rfl,a4⟩,rfl⟩,a3⟩
 case hCt=>intros; trivial
 case hAx =>
  intro E x a' _ X Y aN hs _ _
  exact hs
 case hS =>
  intro s' X Y aN hs _ _
  exact hs
 case hSp =>
  intro s' X Y aN hs _ _
  exact hs
 case assign =>
  rintro k E x W K hI hT S
  have H:=Lib.hid S
  have HI:=Lib.hid hI
  rw [List.length_append,List.length_singleton,List.range_succ]at hT
  obtain ⟨ac,a8⟩:=hT
  obtain ⟨ac,Q⟩:=List.append_inj' ac rfl
  have Q:x=E.length:=by injection Q
  have aY:=Lib.hid (show E.length<n / 2 by omega)
  have aZ:=Lib.hid Q
  clear S hI ac a8 Q
  simp only [zh1]
  gi_wp2
  exact H.out _ _ (KeepsFrom.refl _ _) ⟨Below.refl _ _,fun _=>rfl,fun _=>rfl⟩ HI.out ⟨⟨aZ.out,aY.out⟩,rfl⟩
 case body =>
  rintro k E x a' W hk ⟨rr,bh⟩ ⟨⟨F,G,m⟩,p⟩ ⟨⟨hx,bg⟩,rfl⟩
  have af:(E++[x]).length=E.length+1:=by simp
  obtain ⟨j,hj⟩:∃ j,E.length=j:=⟨_,rfl⟩
  rw [hj]at hx G m bg af
  have aC:=Lib.hid af
  clear hj af
  subst hx
  obtain ⟨a,rfl⟩:=hA (by omega)
  have I:Below w.heap.size w W:=by rw [J]; exact p
  have ah:2*x<l.length:=by have:=HN.out; omega
  obtain ⟨d1,ad,y,bd,ba,a9,aM,aj,R⟩:=(HL.out.below I hB).at_ ah
  obtain rfl:a=ad:=by injection ba
  obtain ⟨_,A2,c2,rfl⟩:=R.slice
  obtain ⟨n2,aK⟩:∃ n2,l[2*x].kids.length=n2:=⟨_,rfl⟩
  rw [aK]at aj R
  have ag:=HC.out l[2*x] (List.getElem_mem ah)
  have H:=fun W2 (ae:Below W.heap.size W W2)=>zcS l[2*x] (.slice A2 n2 c2) W2 B d1 aT aF (R.below ae (Nat.le_trans hB I.size)) aM (Nat.le_trans hB (Nat.le_trans I.size ae.size)) ag (HG.out.below (I.trans (ae.mono I.size)))
  have aJ:xb l x=kr l[2*x] (zj 2 flC (keyOf l[2*x])):=by
   unfold xb zdb
   rw [List.getD_eq_getElem?_getD,List.getElem?_eq_getElem ah]
   rfl
  rw [← aJ]at H
  obtain ⟨e0,aI⟩:∃ e0:Int,(if zj 2 flC (keyOf l[2*x])=0 then (0:Int) else 61)=e0:=⟨_,rfl⟩
  simp only [aI]at H
  obtain ⟨⟨kind,b,neg,dg,ex,u,wd,s⟩,aL⟩:∃ o,l[2*x].own=o:=⟨_,rfl⟩
  rw [aL]at H aj
  unfold ze at H
  simp only []at H
  obtain ⟨k0,k1,k2,k3,k4,k5,k6,k7,k8⟩:=aj
  simp only [show 2*x*9=x*18 from by omega]at k0 k1 k2 k3 k4 k5 k6 k7 k8
  unfold xN
  rw [Option.map_some]
  have aS:(a.add (x*18)).block<B:=by rw [add_block]; exact a9
  obtain ⟨a0,aE⟩:∃ a0,a.add (x*18)=a0:=⟨_,rfl⟩
  rw [aE]at k0 k1 k2 k3 k4 k5 k6 k7 k8 aS ⊢
  clear aE
  simp only [List.setIfInBounds_toArray,List.set_cons_zero,List.set_cons_succ]
  have H:=Lib.hid H
  have bG:=I.size
  have aH:=Below.refl W.heap.size W
  clear aI aJ aL aK aM R bd ag
  gi_wp2_with fail
  refine (callsIn_wide.2 (H.out _ aH)).mono ?_
  rintro e w6 ⟨rfl,g⟩
  have bI:=g.size
  have ai:w6.heap[a0.block]? = W.heap[a0.block]? := g.block _ (by omega)
  have mk:∀ o,w6.cell? ⟨a0.block,o,none⟩=W.cell? ⟨a0.block,o,none⟩:=fun o=>jd (a:=⟨a0.block,o,none⟩) ai
  have m0:=(jd (a:=a0) ai).trans k0
  have m1:=(mk _).trans k1
  have m2:=(mk _).trans k2
  have m3:=(mk _).trans k3
  have m4:=(mk _).trans k4
  have m5:=(mk _).trans k5
  have m6:=(mk _).trans k6
  have m7:=(mk _).trans k7
  have m8:=(mk _).trans k8
  have z:=F.below g F.lt
  have a2:=zdf G (below_grown g none) (fun r e=>nomatch e)
  have L:=p.trans (g.mono (by omega))
  have O:KeepsFrom w5.heap.size W w6:=KeepsFrom.of_grownBy (below_grown g none) (fun j e=>nomatch e)
  have M:KpD N (N+2) (N+3) W w6:=⟨g.mono (by omega),fun h=>g.block _ h,fun h=>g.block _ h⟩
  clear G k0 k1 k2 k3 k4 k5 k6 k7 k8 g H aH ai mk
  obtain ⟨s2,an⟩:∃ s2,xb l x=s2:=⟨_,rfl⟩
  rw [an]
  have ab:=Lib.hid an
  clear an
  have aD:N+4≤W.heap.size:=by
   have:=(Array.getElem?_eq_some_iff.1 bh).1
   omega
  rcases a2 with ⟨rfl,f⟩ | ⟨i,bk,cs,rfl,f,bC,bc,bb⟩
  ·have c0:=f.cell 0
   have f0:=f.frozen 0
   have P:=Lib.hid z
   have aU:=f.lt
   have aV:=z.lt
   have V:=Lib.hid f
   have HX:=Lib.hid O
   have HY:=Lib.hid M
   have HB:=Lib.hid L
   clear z f F m O M L
   gi_wp2_with fail
   exact zgj HX.out HY.out V.out P.out HB.out aD (by rw [ab.out]; rfl) rfl aC.out
  ·have c0:=f.cell 0
   have f0:=f.frozen 0
   have c9:=(bc.cell 9).trans bb
   obtain ⟨s1,am⟩:∃ s1,xb l i=s1:=⟨_,rfl⟩
   rw [am]at c9
   have aX:=Lib.hid am
   obtain ⟨q,hq⟩:∃ q,Op.bytesLess s1.toList s2.toList=q:=⟨_,rfl⟩
   have bF:Value.pointer (some (⟨bk,0,none⟩:Addr))≠.pointer none:=by simp
   have b1:=z.cell 0
   have g1:=z.frozen 0
   have ak:jZ (xb l) (i+1+1)=q:=by
    rw [jZ,m,aX.out,ab.out,hq,Bool.true_and]
   have aa:=Lib.hid ak
   have P:=Lib.hid z
   have aU:=f.lt
   have aV:=z.lt
   have V:=Lib.hid f
   have HX:=Lib.hid O
   have HY:=Lib.hid M
   have HB:=Lib.hid L
   clear F m am z f ak O M L
   cases q with
   | true =>
    gi_wp2_with fail
    exact zgj HX.out HY.out V.out P.out HB.out aD (by rw [ab.out]; rfl) aa.out aC.out
   | false =>
    gi_wp2_with fail
    exact ⟨HX.out.trans ((KeepsOthers.setCell _ _ _).from _),⟨rfl,P.out.set 0 _,zbB _ aa.out _ (by omega)⟩,HB.out.grown (qq w6 (N+1) 0 _) (by omega) (fun q e=>by cases e; omega)⟩
 case done =>
  rintro D xs W hD rfl ⟨⟨F,G,m⟩,p⟩ S
  rw [List.length_range]at m
  have be:=F.cell 0
  have hz:=p.size
  have H3:=Lib.hid m
  clear m
  go_wp2_with fail
  rw [Exit.noGoto_ret]
  exact leave1 (v:=.bool true) S (by simp [results,Tryz.results64,go_sem]) rfl ⟨by rw [H3.out],by rw [J]; exact jX p (by omega) (by omega) _⟩
 case stop =>
  rintro D c' E W hD _ ⟨⟨rfl,G,m⟩,p⟩ S
  have be:=G.cell 0
  have hz:=p.size
  have H3:=Lib.hid m
  clear m
  go_wp2_with fail
  rw [Exit.noGoto_ret]
  exact leave1 (v:=.bool false) S (by simp [results,Tryz.results64,go_sem]) rfl ⟨by rw [H3.out],by rw [J]; exact jX p (by omega) (by omega) _⟩
end Go.Proofs.YtonihophanmaaaaGreatDoor
