/- The texts RangeK, GateV, GateO, put together. -/
import Derived.Test.YtonihophanmaaaaGreatDoorPc01
import Derived.Test.YtonihophanmaaaaGreatDoorPc14
import Derived.Test.YtonihophanmaaaaGreatDoorPc13
set_option maxHeartbeats 8000000
set_option maxRecDepth 100000
namespace Go.Proofs.YtonihophanmaaaaGreatDoor
open Go.RowKit Go.Shelf
def KpB (K:Nat→Prop) (A B:World):Prop:=(∀ q,K q→B.heap[q]? = A.heap[q]?)∧KeepsWalks A B
theorem KpB.trans {K:Nat→Prop} {A B C:World} (h:KpB K A B) (k:KpB K B C):KpB K A C:=⟨fun q a=>(k.1 q a).trans (h.1 q a),h.2.trans k.2⟩
theorem KpB.refl (K:Nat→Prop) (A:World):KpB K A A:=⟨fun _ _=>rfl,KeepsWalks.refl _⟩
theorem KpB.below {K:Nat→Prop} {A B:World} (h:Below A.heap.size A B) (b:∀ q,K q→q<A.heap.size):KpB K A B:=⟨fun q c=>h.block q (b q c),h.size,fun k _ a _=>(h.block k (Array.getElem?_eq_some_iff.1 a).1).trans a⟩
theorem KpB.putObj {K:Nat→Prop} {W:World} {l n:Nat} {o:Obj} (o':Obj) (a:∀ q,K q→q<n) (d:n≤l) (h:W.heap[l]? = some o) (c:o.isWalk=false):KpB K W (W.putObj l o'):=
 ⟨fun q b=>World.putObj_heap_other (by have:=a q b; omega),KeepsWalks.putObj o' h c⟩
theorem kC {n:Nat} {A B:World} (h:Below A.heap.size A B):KeepsFrom n A B:=⟨h.size,fun k _ _ a _=>(h.block k (Array.getElem?_eq_some_iff.1 a).1).trans a⟩
theorem zfQ {o:Obj} (h:o.isCells=true):o.isWalk=false:=by
 cases o <;> first | rfl | cases h
theorem KpB.row {K:Nat→Prop} {A B:World} {g:Nat} (h:A.grownBy B (some g)) (b:∀ q,K q→q<A.heap.size∧q≠g) (f:∀ o,A.heap[g]? = some o→o.isCells=true):KpB K A B:=
 ⟨fun q d=>h.block q (b q d).1 (fun e=>(b q d).2 (by injection e)),h.size,fun k o a c=>(h.block k (Array.getElem?_eq_some_iff.1 a).1 (fun e=>by
  cases e
  rw [zfQ (f o a)]at c
  cases c)).trans a⟩
def zcL (K:Nat→Prop) (A B:World):Prop:=∀ q,K q→B.heap[q]? = A.heap[q]?
theorem zcL.lt {K:Nat→Prop} {A B:World} (h:zcL K A B) (c:∀ q,K q→q<A.heap.size) (q:Nat) (b:K q):q<B.heap.size:=by
 have a:=h q b
 rw [Array.getElem?_eq_getElem (c q b)]at a
 exact (Array.getElem?_eq_some_iff.1 a).1
theorem zcL.grown {K:Nat→Prop} {A B C:World} {r:Option Nat} (h:zcL K A B) (b:∀ q,K q→q<A.heap.size) (c:B.grownBy C r) (d:∀ g,r=some g→¬ K g):zcL K A C:=
 fun q a=>(c.block q (h.lt b q a) (fun e=>d q e.symm a)).trans (h q a)
end Go.Proofs.YtonihophanmaaaaGreatDoor
namespace Go.Proofs.YtonihophanmaaaaGreatDoor
open Go.RowKit Go.Shelf
theorem zfg:(∀ t:Tr,jk t=(jY t).all (fun x=>ownB x.own x.kids)):=fun t =>
 Tr.rec (motive_1:=fun t=>jk t=(jY t).all (fun x=>ownB x.own x.kids)) (motive_2:=fun l=>jy l=(qd l).all (fun x=>ownB x.own x.kids))
  (fun o l c=>by rw [jk,jY,List.all_cons,c]; rfl) (by rw [jy,qd]; rfl) (fun t l a b=>by rw [jy,qd,List.all_append,a,b]) t
theorem zk7 (f:Int) (fl:Own→Bool):(∀ t:Tr,jf f fl t=(jY t).all (fun x=>qc f fl x.own x.kids)):=fun t =>
 Tr.rec (motive_1:=fun t=>jf f fl t=(jY t).all (fun x=>qc f fl x.own x.kids)) (motive_2:=fun l=>jp f fl l=(qd l).all (fun x=>qc f fl x.own x.kids))
  (fun o l c=>by rw [jf,jY,List.all_cons,c]; rfl) (by rw [jp,qd]; rfl) (fun t l a b=>by rw [jp,qd,List.all_append,a,b]) t
theorem zg3 (t:Tr):t.kids.length+1≤t.count:=by
 rw [Tr.count_eq]
 have:∀ l:List Tr,l.length≤zm l:=fun l=>by
  induction l with
  | nil=>exact Nat.le_refl _
  | cons t l a =>
   rw [zm,List.length_cons]
   have:=Tr.count_eq t
   omega
 have:=this t.kids
 omega
theorem zkh:(∀ t:Tr,∀ s∈jY t,s.count≤t.count):=fun t =>
 Tr.rec (motive_1:=fun t=>∀ s∈jY t,s.count≤t.count) (motive_2:=fun l=>∀ s∈qd l,s.count≤zm l)
  (fun o l d s a=>by
   rw [jY]at a
   rcases List.mem_cons.1 a with rfl | h
   ·exact Nat.le_refl _
   ·have:=d s h
    rw [Tr.count]
    omega)
  (fun s a=>by rw [qd]at a; cases a)
  (fun t l b c s a=>by
   rw [qd]at a
   rw [zm]
   rcases List.mem_append.1 a with h | h
   ·have:=b s h
    omega
   ·have:=c s h
    omega) t
def ze0 (aT aF:Addr) (f:Int) (fl:Own→Bool):Prop:=∀ (o:Own) (l:List Tr) (A:Option Addr) (n c:Nat) (w:World) (B d:Nat),zq w B d l (.slice A n c)→B≤w.heap.size→l.length=n→n≤1000000000000→zt o→GW w aT aF →
  Calls Tryz.prog 51 #[.agg #[.int .i64 f],ze o (.slice A n c)] w fun e w'=>e=.returned (.bool (qc f fl o l))∧Below w.heap.size w w'
abbrev qZ (a:Addr):Value:=.iface 321 (.pointer (some a))
def zbM (aF:Addr) (b:Bool):Value:=if b=true then qZ aF else .nilIface
def xh (f:Int) (fl:Own→Bool) (pre:List TV):Bool:=pre.any (fun s=>!qc f fl s.1.own s.1.kids)
theorem zgN (f:Int) (fl:Own→Bool) (a:List TV) (s:TV):xh f fl (a++[s])=(xh f fl a || !qc f fl s.1.own s.1.kids):=by
 unfold xh
 rw [List.any_append]
 simp
noncomputable def zdJ (aT aF:Addr) (k:Int):Value:=if k=60 then qZ aT else if k=61 then qZ aF else .nilIface
theorem zcU {f:Int} {fl:Own→Bool} {t:Tr} (h:¬ (t.depth≤16∧t.count≤300)):zj f fl t=60:=by
 unfold zj xt
 rw [if_neg]
 rw [Bool.and_eq_true,Bool.and_eq_true,decide_eq_true_iff,decide_eq_true_iff]
 exact fun q=>h ⟨q.2.1,q.1⟩
theorem zjl {f:Int} {fl:Own→Bool} {t:Tr} (s:Tr) (a:s∈jY t) (h:ownB s.own s.kids=false):zj f fl t=60:=by
 unfold zj xt
 rw [if_neg]
 rw [zfg,Bool.and_eq_true,Bool.and_eq_true,List.all_eq_true]
 intro q
 have:=q.2.2 s a
 rw [h]at this
 cases this
theorem zh3 {f:Int} {fl:Own→Bool} {t:Tr} (a:t.depth≤16) (b:t.count≤300) (c:∀ s∈jY t,ownB s.own s.kids=true):zj f fl t=if jf f fl t=true then 0 else 61:=by
 unfold zj xt
 rw [if_pos]
 rw [zfg,decide_eq_true a,decide_eq_true b,Bool.true_and,Bool.true_and,List.all_eq_true]
 exact c
def kO (w0:World) (b:Nat) (W:World):Prop:=w0.heap.size≤W.heap.size∧∀ q,q<w0.heap.size→q≠b→W.heap[q]? = w0.heap[q]?
theorem kO.refl (w0:World) (b:Nat):kO w0 b w0:=⟨Nat.le_refl _,fun _ _ _=>rfl⟩
theorem kO.moved {w0 A B:World} {b:Nat} (h:kO w0 b A) (a:Below A.heap.size A B):kO w0 b B:=⟨Nat.le_trans h.1 a.size,fun q c d=>(a.block q (Nat.lt_of_lt_of_le c h.1)).trans (h.2 q c d)⟩
theorem kO.grown {w0 A B:World} {b:Nat} {row:Option Nat} (h:kO w0 b A) (a:A.grownBy B row) (f:∀ r,row=some r→w0.heap.size≤r):kO w0 b B:=
 ⟨Nat.le_trans h.1 a.size,fun q c d=>(a.block q (Nat.lt_of_lt_of_le c h.1) (fun e=>by have:=f q e.symm; omega)).trans (h.2 q c d)⟩
theorem kO.set {w0 A:World} {b:Nat} (h:kO w0 b A) (i:Nat) (v:Value):kO w0 b (A.setCell ⟨b,i,none⟩ v):=
 ⟨by simpa [World.setCell] using h.1,fun q c a=>(Below.heap_setCell A ⟨b,i,none⟩ v q a).trans (h.2 q c a)⟩
theorem kO.blk {w0 A:World} {b q:Nat} {a:Array Value} {t:TypeId} (h:kO w0 b A) (c:Blk w0 q a t) (d:q≠b):Blk A q a t:=(h.2 q c.lt d).trans c
def zaY (pre:List TV):Prop:=∀ s∈pre,ownB s.1.own s.1.kids=true
def yU (pre:List TV):Prop:=∃ s∈pre,ownB s.1.own s.1.kids=false
theorem zaY.snoc {a:List TV} {s:TV} (h:zaY a) (b:ownB s.1.own s.1.kids=true):zaY (a++[s]):=fun x c =>
 (List.mem_append.1 c).elim (h x) (fun q=>by rw [List.mem_singleton.1 q]; exact b)
theorem yU.snoc {a:List TV} {s:TV} (b:ownB s.1.own s.1.kids=false):yU (a++[s]):=⟨s,by simp,b⟩
theorem zkf {o:Own} {l:List Tr} (h:¬ (1≤o.kind∧o.kind≤11)):ownB o l=false:=by
 unfold ownB
 rw [if_neg (by omega),if_neg (by omega),if_neg (by omega),if_neg (by omega),if_neg (by omega),if_neg (by omega),if_neg (by omega),if_neg (by omega),if_neg (by omega),if_neg (by omega),if_neg (by omega)]
section
attribute [local go_sem] Oper.semAt_some qi jA
theorem zgB {aT aF:Addr} (f:Int) (fl:Own→Bool) (aR:ze0 aT aF f fl) (t:Tr) (x:Value) (w:World) (B d:Nat) (hl:zq w B d t.kids x) (ho:zt t.own) (hB:B≤w.heap.size) (hc:t.count≤1000000000) (h:GW w aT aF) :
  Calls Tryz.prog 34 #[.agg #[.int .i64 f],ze t.own x] w fun e w'=>e=.returned (zdJ aT aF (zj f fl t))∧Below w.heap.size w w':=by
 obtain ⟨aa,al,z⟩:=qa w #[.int .i64 f] (zf t.own x) 52 28
 have HD:=Lib.hid (fun (W:World) (hW:Below w.heap.size w W)=>ziY d t x W B (hl.below hW hB) (Nat.le_trans hB hW.size) (by omega))
 have HC:=Lib.hid (fun (W:World) (hW:Below w.heap.size w W)=>ziX t x W B d (hl.below hW hB) ho (Nat.le_trans hB hW.size) (by omega))
 have HN:=Lib.hid (zdv x t.own)
 have HK:=Lib.hid zi0
 have HO:=Lib.hid ho
 have HL:=Lib.hid hl
 have bt:=Lib.hid aR
 have HG:=Lib.hid h
 have bK:=yB t
 have cf:=Lib.hid (show t.count≤1000000000 from hc)
 refine jo Tryz.func34 rfl ?_
 simp only [Tryz.ntmps34,List.size_toArray,List.length_cons,List.length_nil,Nat.reduceAdd,Nat.reduceSub,Array.replicate_succ,Array.replicate_zero,List.push_toArray,List.append_toArray,List.nil_append,List.cons_append]
 obtain ⟨td,aW⟩:∃ td,t.depth=td:=⟨_,rfl⟩
 obtain ⟨tc,ax⟩:∃ tc,t.count=tc:=⟨_,rfl⟩
 have bE:=Lib.hid aW
 have bD:=Lib.hid ax
 simp only [aW]at HD
 simp only [ax]at HC
 rw [aW,ax]at bK
 rw [ax]at hc
 have cB:=h.hT
 obtain ⟨⟨kind,b,neg,dg,ex,u,wd,s⟩,bp⟩:∃ o,t.own=o:=⟨_,rfl⟩
 have cn:=Lib.hid bp
 rw [bp]at HN HD HC al z aa ⊢
 unfold ze at HN HD HC ⊢
 unfold zf at al z aa
 simp only []at HN HD HC al z aa ⊢
 have z0:=z.cell 0
 have z1:=z.cell 1
 have z2:=z.cell 2
 have z3:=z.cell 3
 have z4:=z.cell 4
 have z5:=z.cell 5
 have z6:=z.cell 6
 have z7:=z.cell 7
 have z8:=z.cell 8
 have c0:(tc:Int)≤1000000000:=by omega
 have c1:(td:Int)≤1000000000:=by omega
 clear hl ho aR h aW ax bp hc bK
 go_wp2_with fail
 go_step3
 go_wp2_with fail
 refine (HD.out _ aa).mono ?_
 rintro e w1 ⟨rfl,hb⟩
 have ai:=aa.trans (hb.mono aa.size)
 have bm:=al.below hb al.lt
 have G:=z.below hb z.lt
 have cz:=(HG.out.below ai).hT
 clear z0 z1 z2 z3 z4 z5 z6 z7 z8 cB hb aa al z HD
 have z0:=G.cell 0
 have z1:=G.cell 1
 have z2:=G.cell 2
 have z3:=G.cell 3
 have z4:=G.cell 4
 have z5:=G.cell 5
 have z6:=G.cell 6
 have z7:=G.cell 7
 have z8:=G.cell 8
 by_cases az:td≤16
 case neg =>
  have y1:(16:Int)<td:=by omega
  have HR:=Lib.hid (zcU (f:=f) (fl:=fl) (t:=t) (fun q=>az (by rw [← bE.out]; exact q.1)))
  go_wp2_with fail
  rw [Exit.noGoto_ret]
  refine leave0 (v:=qZ aT) (by simp [results,Tryz.results34,go_sem]) rfl ⟨by rw [HR.out]; rfl,ai⟩
 have y1:¬ (16:Int)<td:=by omega
 go_wp2_with fail
 refine (HC.out _ ai).mono ?_
 rintro e a ⟨rfl,hb⟩
 have aj:=ai.trans (hb.mono ai.size)
 have bL:=bm.below hb bm.lt
 have J:=G.below hb G.lt
 have cA:=(HG.out.below aj).hT
 clear z0 z1 z2 z3 z4 z5 z6 z7 z8 cz hb ai bm G HC
 have z0:=J.cell 0
 have z1:=J.cell 1
 have z2:=J.cell 2
 have z3:=J.cell 3
 have z4:=J.cell 4
 have z5:=J.cell 5
 have z6:=J.cell 6
 have z7:=J.cell 7
 have z8:=J.cell 8
 by_cases aQ:tc≤300
 case neg =>
  have y2:(300:Int)<tc:=by omega
  have HR:=Lib.hid (zcU (f:=f) (fl:=fl) (t:=t) (fun q=>aQ (by rw [← bD.out]; exact q.2)))
  go_wp2_with fail
  rw [Exit.noGoto_ret]
  refine leave0 (v:=qZ aT) (by simp [results,Tryz.results34,go_sem]) rfl ⟨by rw [HR.out]; rfl,aj⟩
 have y2:¬ (300:Int)<tc:=by omega
 go_wp2_with fail
 refine (HK.out _).mono ?_
 rintro e w3 ⟨rfl,am⟩
 have bF:w3.heap[a.heap.size]? = some (.map kF 11):=by
  rw [am]
  exact heap_alloc_new a _
 have S:w3.heap.size=a.heap.size+1:=by rw [am]; simp
 have i:Below w.heap.size w w3:=by
  rw [am]
  exact aj.alloc aj.size _
 have aS:Blk w3 w.heap.size #[.int .i64 f] 52:=by
  rw [am]
  exact bL.alloc _
 have bn:Blk w3 (w.heap.size+1) #[.int .i64 kind,.bool b,.bool neg,.string dg,.int .i64 ex,.int .u64 u,.int .i64 wd,.string s,x] 28:=by
  rw [am]
  exact J.alloc _
 clear am bL J z0 z1 z2 z3 z4 z5 z6 z7 z8 cA HK
 obtain ⟨C,aU,ap⟩:=qa w3 #[.map (some a.heap.size)] #[.nilIface] 65 48
 have F:=bn.below C bn.lt
 have z0:=F.cell 0
 have z1:=F.cell 1
 have z2:=F.cell 2
 have z3:=F.cell 3
 have z4:=F.cell 4
 have z5:=F.cell 5
 have z6:=F.cell 6
 have z7:=F.cell 7
 have z8:=F.cell 8
 go_wp2_with fail
 go_step3
 go_wp2_with fail
 refine (HN.out _).mono ?_
 rintro e w4 ⟨rfl,aX⟩
 have bs:w4.heap.size=a.heap.size+1+1+1+1:=by rw [← aX]; simp [S]
 have ah:Below ((w3.alloc (.cells #[.map (some a.heap.size)] 65)).alloc (.cells #[.nilIface] 48)).heap.size ((w3.alloc (.cells #[.map (some a.heap.size)] 65)).alloc (.cells #[.nilIface] 48)) w4:=by
  rw [← aX]
  exact (Below.refl _ _).alloc (Nat.le_refl _) _
 have bH:Below w.heap.size w w4:=(i.trans (C.mono i.size)).trans (ah.mono (Nat.le_trans i.size C.size))
 have bI:Blk w4 (a.heap.size+1+1+1) #[.int .i64 kind,.bool b,.bool neg,.string dg,.int .i64 ex,.int .u64 u,.int .i64 wd,.string s,x] 28:=by
  rw [← aX]
  have:=Blk.new ((w3.alloc (.cells #[.map (some a.heap.size)] 65)).alloc (.cells #[.nilIface] 48)) #[.int .i64 kind,.bool b,.bool neg,.string dg,.int .i64 ex,.int .u64 u,.int .i64 wd,.string s,x] 28
  simp only [World.size_alloc,S]at this
  exact this
 rw [S]at aU ap
 have aw:Blk w4 (a.heap.size+1) #[.map (some a.heap.size)] 65:=aU.below ah aU.lt
 have bN:Blk w4 (a.heap.size+1+1) #[.nilIface] 48:=ap.below ah ap.lt
 have bO:Blk w4 w.heap.size #[.int .i64 f] 52:=(aS.below C aS.lt).below ah (Nat.lt_of_lt_of_le aS.lt C.size)
 have bG:w4.heap[a.heap.size]? = some (.map kF 11):=by
  have H:=C.block a.heap.size (by rw [S]; omega)
  have g:=ah.block a.heap.size (by have:=C.size; omega)
  exact g.trans (H.trans bF)
 have c6:w.heap.size≤a.heap.size:=aj.size
 simp only [World.size_alloc,S]
 clear aX ah aS bn aU ap F bF i C aj z0 z1 z2 z3 z4 z5 z6 z7 z8 S HN
 go_wp2_with fail
 have cd:=Lib.hid bI
 have cr:=Lib.hid bO
 have cp:=Lib.hid aw
 have cm:=Lib.hid bG
 have bx:=Lib.hid bH
 have cq:=Lib.hid bN
 have bJ:∀ s∈jY t,s.kids.length≤1000000000000:=fun s hs=>by
  have H:=zkh t s hs
  have g:=zg3 s
  have I:=cf.out
  omega
 have ce:=Lib.hid bJ
 clear bI bO aw bG bH bN bJ
 have c3:td≤16:=az
 have cP:=Lib.hid bs
 refine qz (gf:=54) (lb:=#[.pointer (some ⟨a.heap.size+1+1+1,0,none⟩)]) rfl (enters_of Tryz.func54 (by kernel_rfl) rfl)
  (zem (a.heap.size+1+1+1) B d w4.heap.size (fun q=>q=a.heap.size+1+1) t x w4 (by omega) (Nat.le_refl _) (fun q hq=>by omega) (fun q hq=>by omega) (by rw [cn.out]; exact cd.out) (HL.out.below bx.out hB) HO.out)
  ?hMv ?hA0 ?hKt ?hKb ?hps
  (fun pre W=>(zaY pre∧Blk W (a.heap.size+1+1) #[zbM aF (xh f fl pre)] 48∧kO w4 (a.heap.size+1+1) W)∧Below w.heap.size w W)
  (fun c pre W=>((c=.exit 0∧yU pre)∧Blk W (a.heap.size+1+1) #[qZ aT] 48)∧Below w.heap.size w W)
  ?hI ?hIx ?hIM ?hIxM ?h0 ?hCt
  (fun tm _ y a' W=>∃ Bx,Blk W Bx (zf y.1.own y.2) 28∧(a.heap.size+1+1<Bx)∧x9 w4 B y∧y.1.kids.length≤1000000000000∧a'={ tmps:=(tm.setIfInBounds 22 (ze y.1.own y.2)).setIfInBounds 7 (.pointer (some ⟨Bx,0,none⟩)),defers:=[] })
  ?hAx ?assign ?body ?hS ?hSp ?done ?stop
 case hMv=>exact fun A B k o V hk ho _=>(V.block k (Array.getElem?_eq_some_iff.1 ho).1).trans ho
 case hA0=>exact fun o o'=>((Below.refl _ w4).alloc (Nat.le_refl _) o).alloc (by simp) o'
 case hKt=>exact fun H g=>H.trans g
 case hKb=>exact fun W l o o' hl h ho=>KpC.putObj W l o o' hl h ho
 case hps=>exact fun _=>rfl
 case hI =>
  refine OwnFrom.and ?_ (ownFrom_below (by omega) (by omega))
  rintro s A B' aY ⟨H,g,I⟩ hg hr
  exact ⟨H,g.kept hg (fun e=>by
   obtain ⟨_,o,ho,hc⟩:=hr _ e.symm
   rw [show A.heap[a.heap.size+1+1]? = _ from g]at ho
   cases ho
   cases hc),I.grown hg (fun r e=>(hr r e).1)⟩
 case hIx =>
  intro c
  refine OwnFrom.and (Own.from ?_ _) (ownFrom_below (by omega) (by omega))
  rintro s A B' aY ⟨H,g⟩ hg hr
  exact ⟨H,jx _ _ (fun _:Unit=>_) () A B' aY g hg hr⟩
 case hIM=>exact fun s A B' h V=>⟨⟨h.1.1,h.1.2.1.below V h.1.2.1.lt,h.1.2.2.moved V⟩,h.2.trans (V.mono h.2.size)⟩
 case hIxM=>exact fun c s A B' h V=>⟨⟨h.1.1,h.1.2.below V h.1.2.lt⟩,h.2.trans (V.mono h.2.size)⟩
 case h0=>exact ⟨⟨fun s hs=>absurd hs (by simp),cq.out,kO.refl _ _⟩,bx.out⟩
 case hCt=>exact fun _ _ _ _=>trivial
 case hAx =>
  rintro pre y a' _ A B' aY ⟨Bx,H,g,I⟩ hg hr
  exact ⟨Bx,jx _ _ (fun _:Unit=>_) () A B' aY H hg (fun r e=>(hr r e).2),g,I⟩
 case assign =>
  rintro l pre ⟨ty,vy⟩ W K ⟨⟨H,g,I⟩,E⟩ hT hK
  have P:x9 w4 B (ty,vy):=hT.2 (ty,vy) (by simp)
  have R:ty.kids.length≤1000000000000:=ce.out ty (hT.1.subset (by simp))
  obtain ⟨_,af,N⟩:=id P
  have N:zq w4 B af ty.kids vy:=N
  obtain ⟨_,A2,c2,rfl⟩:=N.slice
  obtain ⟨n2,L⟩:∃ n2,ty.kids.length=n2:=⟨_,rfl⟩
  have bB:=Lib.hid L
  have ck:=Lib.hid hK
  have cg:=Lib.hid P
  have cl:=Lib.hid R
  have bU:=g.lt
  obtain ⟨⟨M,b2,b6,cw,cx,u2,cJ,s2⟩,T⟩:∃ o,ty.own=o:=⟨_,rfl⟩
  have aO:=Lib.hid T
  unfold zbd
  simp only [T,L]
  unfold ze
  simp only []
  clear hK hT P R T N L
  gi_wp2
  refine ck.out _ _ ((KeepsOthers.alloc _ _).from _) (KpC.below ((Below.refl _ _).alloc (Nat.le_refl _) _) I.1) ⟨⟨H,g.alloc _,I.moved ((Below.refl _ _).alloc (Nat.le_refl _) _)⟩,E.alloc E.size _⟩ ⟨W.heap.size,?_,bU,cg.out,cl.out,?_⟩
  ·simp only [aO.out,bB.out]
   exact Blk.new _ _ _
  ·simp only [aO.out,bB.out]
   rfl
 case body =>
  rintro l pre ⟨ty,vy⟩ a' W hl c4 ⟨⟨H,g,I⟩,E⟩ ⟨Bx,m,c5,P,R,rfl⟩
  obtain ⟨av,af,N⟩:=P
  have N:zq w4 B af ty.kids vy:=N
  have av:zt ty.own:=av
  have R:ty.kids.length≤1000000000000:=R
  have aA:zq W B af ty.kids vy:=N.keep (fun q hq=>I.2 q (by omega) (by omega))
  obtain ⟨_,A2,c2,rfl⟩:=N.slice
  obtain ⟨n2,L⟩:∃ n2,ty.kids.length=n2:=⟨_,rfl⟩
  have cH:w4.heap.size≤W.heap.size:=I.1
  have aq:=HG.out.below E
  have Y:=fun (hk:1≤ty.own.kind∧ty.own.kind≤11)=>zmL f ty.own ty.kids A2 n2 c2 W B af (by rw [← L]; exact aA) (by omega) L (by omega) av aq.tabs hk.1 hk.2
  have au:=Lib.hid (fun (W2:World) (bh:Below W.heap.size W W2)=>bt.out ty.own ty.kids A2 n2 c2 W2 B af (by rw [← L]; exact aA.below bh (by omega)) (Nat.le_trans (by omega) bh.size) L (by omega) av (aq.below bh))
  have aV:=I.blk cr.out (by omega)
  have aw:=I.blk cp.out (by omega)
  have V:W.heap[a.heap.size]? = some (.map kF 11):=(I.2 _ (by omega) (by omega)).trans cm.out
  have cE:=aq.hT
  have cD:=aq.hF
  obtain ⟨bo,bj⟩:∃ bo,ownB ty.own ty.kids=bo:=⟨_,rfl⟩
  obtain ⟨bf,ak⟩:∃ bf,qc f fl ty.own ty.kids=bf:=⟨_,rfl⟩
  simp only [bj]at Y
  simp only [ak]at au
  have bA:=Lib.hid bj
  have bz:=Lib.hid ak
  simp only [L]at m
  obtain ⟨⟨M,b2,b6,cw,cx,u2,cJ,s2⟩,T⟩:∃ o,ty.own=o:=⟨_,rfl⟩
  have aO:=Lib.hid T
  simp only [T]at Y au m
  simp only [T,L]
  unfold ze at Y au ⊢
  unfold zf at m
  simp only []at Y au m ⊢
  have k0:=m.cell 0
  have k1:=m.cell 1
  have k2:=m.cell 2
  have k3:=m.cell 3
  have k4:=m.cell 4
  have k5:=m.cell 5
  have k6:=m.cell 6
  have k7:=m.cell 7
  have k8:=m.cell 8
  have x0:=aV.cell 0
  have m0:=aw.cell 0
  have e6:=g.cell 0
  have f6:=g.frozen 0
  have H1:=Lib.hid H
  clear av N aA aq bj ak T L R H
  simp only [List.setIfInBounds_toArray,List.set_cons_zero,List.set_cons_succ]
  by_cases ad:1≤M∧M≤11
  ·have bM:=ziv W a.heap.size V M ad.1 ad.2
   have cC:=zio M ad.1 ad.2
   have HI:=Lib.hid (Y ad)
   clear Y
   gi_wp2_with fail
   refine (show CallsIn (Fence.wide.inRound l) 6 _ _ _ _ _ from (callsIn_wide.2 HI.out:CallsIn Fence.wide 6 _ _ _ _ _)).mono ?_
   rintro e W5 ⟨rfl,i⟩
   have Q:=E.trans (i.mono E.size)
   have O:=m.below i m.lt
   have bq:=aV.below i aV.lt
   have Z:=g.below i g.lt
   have bd:=I.moved i
   have G5:=HG.out.below Q
   have bS:=G5.hT
   clear k0 k1 k2 k3 k4 k5 k6 k7 k8 x0 m0 e6 f6 cE cD bM cC HI V aw
   have k0:=O.cell 0
   have k1:=O.cell 1
   have k2:=O.cell 2
   have k3:=O.cell 3
   have k4:=O.cell 4
   have k5:=O.cell 5
   have k6:=O.cell 6
   have k7:=O.cell 7
   have k8:=O.cell 8
   have x0:=bq.cell 0
   have e6:=Z.cell 0
   have f6:=Z.frozen 0
   have c7:=i.size
   cases bo with
   | false =>
    have aN:=Lib.hid ((kC (n:=w4.heap.size) i).trans (KeepsFrom.of_grownBy (jm W5 (a.heap.size+1+1) 0 (qZ aT)) (fun j e=>by cases e; omega)))
    have bb:=Lib.hid (Z.set 0 (qZ aT))
    have ar:=Lib.hid (Q.setCell (p:=⟨a.heap.size+1+1,0,none⟩) (by show w.heap.size≤a.heap.size+1+1; omega) (qZ aT))
    clear g I i Q Z bd
    gi_wp2_with fail
    exact ⟨aN.out,⟨⟨rfl,yU.snoc (s:=(ty,_)) bA.out⟩,bb.out⟩,ar.out⟩
   | true =>
    gi_wp2_with fail
    refine (show CallsIn (Fence.wide.inRound l) 6 _ _ _ _ _ from (callsIn_wide.2 (au.out W5 i):CallsIn Fence.wide 6 _ _ _ _ _)).mono ?_
    rintro e W6 ⟨rfl,C⟩
    have ao:=Q.trans (C.mono Q.size)
    have ab:=i.trans (C.mono i.size)
    have ag:=Z.below C Z.lt
    have aP:=bd.moved C
    have G6:=HG.out.below ao
    have cR:=G6.hF
    have c8:=ab.size
    have bw:=Lib.hid (zaY.snoc (s:=(ty,.slice A2 n2 c2)) H1.out bA.out)
    have br:=zgN f fl pre (ty,.slice A2 n2 c2)
    have ak:qc f fl ty.own ty.kids=bf:=bz.out
    simp only [ak]at br
    have bC:=Lib.hid br
    clear k0 k1 k2 k3 k4 k5 k6 k7 k8 x0 e6 f6 bS O bq Z bd Q i C br ak g I m aV bz
    have e6:=ag.cell 0
    have f6:=ag.frozen 0
    have a7:=Lib.hid (kC (n:=w4.heap.size) ab)
    have a9:=Lib.hid (KpC.below (X:=fun q=>q=a.heap.size+1+1) (n:=w4.heap.size) ab cH)
    cases bf with
    | true =>
     have U:xh f fl (pre++[(ty,.slice A2 n2 c2)])=xh f fl pre:=by rw [bC.out]; simp
     have bc:=Lib.hid U
     have ca:=Lib.hid ag
     have cb:=Lib.hid aP
     clear U ag aP ab
     gi_wp2_with fail
     refine ⟨a7.out,a9.out,⟨bw.out,?_,cb.out⟩,ao⟩
     rw [bc.out]
     exact ca.out
    | false =>
     have U:zbM aF (xh f fl (pre++[(ty,.slice A2 n2 c2)]))=qZ aF:=by
      rw [bC.out]
      simp [zbM]
     have bc:=Lib.hid U
     have cj:=Lib.hid (a7.out.trans (KeepsFrom.of_grownBy (jm W6 (a.heap.size+1+1) 0 (qZ aF)) (fun j e=>by cases e; omega)))
     have co:=Lib.hid (a9.out.trans (KpC.setCell W6 (a.heap.size+1+1) 0 (qZ aF) rfl))
     have cs:=Lib.hid (ag.set 0 (qZ aF))
     have cc:=Lib.hid (aP.set 0 (qZ aF))
     have ar:=Lib.hid (ao.setCell (p:=⟨a.heap.size+1+1,0,none⟩) (by show w.heap.size≤a.heap.size+1+1; omega) (qZ aF))
     clear U ag aP ab a7 a9 ao
     gi_wp2_with fail
     refine ⟨cj.out,co.out,⟨bw.out,?_,cc.out⟩,ar.out⟩
     rw [bc.out]
     exact cs.out
  ·have bM:=zfU W a.heap.size V M ad
   have bk:ownB ty.own ty.kids=false:=zkf (by rw [aO.out]; exact ad)
   have bP:=Lib.hid bk
   have aN:=Lib.hid (KeepsFrom.of_grownBy (B:=w4.heap.size) (jm W (a.heap.size+1+1) 0 (qZ aT)) (fun j e=>by cases e; omega))
   have bb:=Lib.hid (g.set 0 (qZ aT))
   have ar:=Lib.hid (E.setCell (p:=⟨a.heap.size+1+1,0,none⟩) (by show w.heap.size≤a.heap.size+1+1; omega) (qZ aT))
   rw [bs]at aN
   clear Y bk g I E
   gi_wp2_with fail
   exact ⟨aN.out,⟨⟨rfl,yU.snoc (s:=(ty,_)) bP.out⟩,bb.out⟩,ar.out⟩
 case hS=>exact fun _ _ _ _ h _ _=>h
 case hSp=>exact fun _ _ _ _ h _ _=>h
 case done =>
  rintro D xs W hD ⟨hS,_⟩ ⟨⟨H,g,I⟩,E⟩ bl
  have ac:=zh3 (f:=f) (fl:=fl) (t:=t) (by rw [bE.out]; exact az) (by rw [bD.out]; exact aQ) (fun s hs=>by
   rw [← hS]at hs
   obtain ⟨y,hy,rfl⟩:=List.mem_map.1 hs
   exact H y hy)
  have bi:xh f fl xs = !jf f fl t:=by
   rw [zk7,← hS,List.all_map]
   unfold xh
   rw [List.any_eq_not_all_not]
   simp [Function.comp_def]
  have aC:zdJ aT aF (zj f fl t)=zbM aF (xh f fl xs):=by
   rw [ac,bi]
   cases jf f fl t <;> rfl
  obtain ⟨wv,U⟩:∃ wv,zbM aF (xh f fl xs)=wv:=⟨_,rfl⟩
  rw [U]at g aC
  have y6:=g.cell 0
  have bQ:=Lib.hid aC
  clear ac bi aC U hS H
  go_wp2_with fail
  rw [Exit.noGoto_ret]
  refine leave1 (v:=wv) bl (by simp [results,Tryz.results34,go_sem]) rfl ⟨by rw [bQ.out],jX E (by omega) E.size _⟩
 case stop =>
  rintro D c pre W hD ⟨hS,_⟩ ⟨⟨⟨rfl,sb,cG,bV⟩,g⟩,E⟩ bl
  have ac:=zjl (f:=f) (fl:=fl) (t:=t) sb.1 (hS.subset (List.mem_map.2 ⟨sb,cG,rfl⟩)) bV
  have HR:=Lib.hid (show zdJ aT aF (zj f fl t)=qZ aT by rw [ac]; rfl)
  clear ac
  have y6:=g.cell 0
  go_wp2_with fail
  rw [Exit.noGoto_ret]
  refine leave1 (v:=qZ aT) bl (by simp [results,Tryz.results34,go_sem]) rfl ⟨by rw [HR.out],jX E (by omega) E.size _⟩
end
end Go.Proofs.YtonihophanmaaaaGreatDoor
namespace Go.Proofs.YtonihophanmaaaaGreatDoor
open Go.RowKit Go.Shelf
theorem ji (id:Int) (b:Nat) (zs:List Int) (n:Nat) (t:TypeId) (w:World) (g:Blk w b (zs.map (Value.int .i64)).toArray t) (hn:zs.length=n) (k:n≤4) :
  Calls Tryz.prog 88 #[.agg #[.int .i64 id],.slice (some ⟨b,0,none⟩) n n] w fun e w'=>e=.returned (.bool (zs.contains id))∧Below w.heap.size w w':=by
 have f:Below w.heap.size w (w.alloc (.cells #[.int .i64 id] 50)):=(Below.refl _ _).alloc (Nat.le_refl _) _
 have c:=Blk.new w #[.int .i64 id] 50
 have d:=Lib.hid (show Calls Tryz.prog 130 #[.slice (some ⟨b,0,none⟩) n n,.int .i64 id] (w.alloc (.cells #[.int .i64 id] 50)) fun e w'=>e=.returned (.bool (zs.contains id))∧w'=(w.alloc (.cells #[.int .i64 id] 50)) from by
  have:=Tryz.slices_Contains_int b 0 n n zs id (w.alloc (.cells #[.int .i64 id] 50)) (by omega) (by omega) (fun j i=>by
   have h:=(g.alloc (.cells #[.int .i64 id] 50)).cell j
   rw [Nat.zero_add,h]
   simp [i])
  rw [← hn,List.take_length]at this
  rw [← hn]
  exact this)
 obtain ⟨cb,a⟩:∃ cb,zs.contains id=cb:=⟨_,rfl⟩
 rw [a]at d ⊢
 have m:=c.cell 0
 clear g hn c a
 go_enter Tryz.func88,Tryz.ntmps88
 go_wp2_with fail
 refine d.out.mono ?_
 rintro e l ⟨rfl,rfl⟩
 go_wp2_with fail
 go_ret
 exact ⟨rfl,f⟩
theorem ziZ {aT aF:Addr} (id:Int) (o:Own) (A:Option Addr) (n c:Nat) (w:World) (O:zt o) (h:GW w aT aF) :
  Calls Tryz.prog 86 #[.agg #[.int .i64 id],ze o (.slice A n c)] w fun e w'=>e=.returned (.bool (kg id o))∧Below w.heap.size w w':=by
 obtain ⟨kind,b,neg,dg,ex,u,wd,s⟩:=o
 have D:=O.dg
 simp only []at D
 unfold ze kg
 simp only []
 obtain ⟨k,t,a⟩:=qa w #[.int .i64 id] #[.int .i64 kind,.bool b,.bool neg,.string dg,.int .i64 ex,.int .u64 u,.int .i64 wd,.string s,.slice A n c] 52 28
 have I:=Lib.hid (yf neg dg ex D _ (h.below k))
 obtain ⟨ans,g⟩:∃ ans,(if kind=5 then true else if id=1 then false else if kind=3 then (jv neg dg ex).isSome else decide (kind=6) || (decide (kind=2) || decide (kind=1)))=ans:=⟨_,rfl⟩
 rw [g]
 obtain ⟨M,sb,G,H⟩:∃ (M:Value×Value) (sb:Bool),zbK (jv neg dg ex)=.tuple #[M.1,M.2,.bool sb]∧(jv neg dg ex).isSome=sb:=by
  cases jv neg dg ex with
  | none=>exact ⟨(_,_),false,rfl,rfl⟩
  | some r=>exact ⟨(_,_),true,rfl,rfl⟩
 rw [G]at I
 rw [H]at g
 have f:=Lib.hid g
 have B:=a.cell 0
 have Q:=a.cell 1
 have R:=a.cell 2
 have S:=a.cell 3
 have T:=a.cell 4
 clear G H g h O
 go_enter Tryz.func86,Tryz.ntmps86
 go_wp2_with fail
 refine I.out.mono ?_
 rintro e z ⟨rfl,j⟩
 have l:=k.trans (j.mono k.size)
 have v:=a.below j a.lt
 have E:=t.below j t.lt
 clear B Q R S T j k t a I
 have B:=v.cell 0
 have P:=E.cell 0
 by_cases m:kind=5
 ·obtain rfl:true=ans:=by
   have:=f.out
   rw [if_pos m]at this
   exact this
  subst m
  go_wp2_with fail
  go_ret
  exact ⟨rfl,l⟩
 have Y:(kind == 5)=false:=by rw [beq_eq_false_iff_ne]; exact m
 have F:Blk (z.alloc (.cells #[.int .i64 1] 3)) z.heap.size #[.int .i64 1] 3:=Blk.new _ _ _
 have J:=Lib.hid (ji id z.heap.size [1] 1 3 (z.alloc (.cells #[.int .i64 1] 3)) F rfl (by decide))
 have p:=l.alloc l.size (.cells #[.int .i64 1] 3)
 have x:=v.alloc (.cells #[.int .i64 1] 3)
 obtain ⟨fb,q⟩:∃ fb,([1]:List Int).contains id=fb:=⟨_,rfl⟩
 rw [q]at J
 have C:=Lib.hid q
 clear q F
 go_wp2_with fail
 refine J.out.mono ?_
 rintro e U ⟨rfl,j⟩
 have d:=p.trans (j.mono p.size)
 have N:=x.below j x.lt
 clear B P j p l v E x J
 have B:=N.cell 0
 cases fb with
 | true =>
  have i:id=1:=by simpa using C.out
  obtain rfl:false=ans:=by
   have:=f.out
   rw [if_neg m,if_pos i]at this
   exact this
  go_wp2_with fail
  go_ret
  exact ⟨rfl,d⟩
 | false =>
  have i:¬ id=1:=by
   have:=C.out
   simpa using this
  by_cases y:kind=3
  ·obtain rfl:sb=ans:=by
    have:=f.out
    rw [if_neg m,if_neg i,if_pos y]at this
    exact this
   subst y
   go_wp2_with fail
   go_ret
   exact ⟨rfl,d⟩
  ·have X:(kind == 3)=false:=by rw [beq_eq_false_iff_ne]; exact y
   obtain rfl:(decide (kind=6) || (decide (kind=2) || decide (kind=1)))=ans:=by
    have:=f.out
    rw [if_neg m,if_neg i,if_neg y]at this
    exact this
   by_cases L:kind=6
   ·subst L
    go_wp2_with fail
    go_ret
    exact ⟨rfl,d⟩
   have Z:(kind == 6)=false:=by rw [beq_eq_false_iff_ne]; exact L
   by_cases K:kind=2
   ·subst K
    go_wp2_with fail
    go_ret
    exact ⟨rfl,d⟩
   have W:(kind == 2)=false:=by rw [beq_eq_false_iff_ne]; exact K
   by_cases i:kind=1
   ·subst i
    go_wp2_with fail
    go_ret
    exact ⟨rfl,d⟩
   have V:(kind == 1)=false:=by rw [beq_eq_false_iff_ne]; exact i
   go_wp2_with fail
   go_ret
   exact ⟨zL (by rw [decide_eq_false L,decide_eq_false K,decide_eq_false i]; rfl),d⟩
theorem zfH {aT aF:Addr} (id:Int) (y:Tr) (t:Value) (m:Nat) (w:World) (B d:Nat) (q:zq w B d y.kids t) (r:zt y.own) (j:Blk w m #[.int .i64 id] 52) (h:GW w aT aF) :
  Calls Tryz.prog 85 #[ze y.own t,.pointer (some ⟨m,0,none⟩)] w fun e w'=>e=.returned (.bool (!kg id y.own))∧Below w.heap.size w w':=by
 obtain ⟨_,A,c,rfl⟩:=q.slice
 obtain ⟨n,hn⟩:∃ n,y.kids.length=n:=⟨_,rfl⟩
 rw [hn]
 have f:Below w.heap.size w (w.alloc (.cells (zf y.own (.slice A n c)) 28)):=(Below.refl _ _).alloc (Nat.le_refl _) _
 have g:=ziZ id y.own A n c _ r (h.below f)
 have a:=Blk.new w (zf y.own (.slice A n c)) 28
 have i:=j.alloc (.cells (zf y.own (.slice A n c)) 28)
 obtain ⟨kb,k⟩:∃ kb,kg id y.own=kb:=⟨_,rfl⟩
 obtain ⟨⟨kind,b,neg,dg,ex,u,wd,s⟩,l⟩:∃ o,y.own=o:=⟨_,rfl⟩
 rw [k]at g ⊢
 rw [l]at g f a i ⊢
 unfold ze at g ⊢
 unfold zf at g f a i
 simp only []at g f a i ⊢
 have g:=Lib.hid g
 have C:=a.cell 0
 have D:=a.cell 1
 have E:=a.cell 2
 have F:=a.cell 3
 have G:=a.cell 4
 have H:=a.cell 5
 have I:=a.cell 6
 have J:=a.cell 7
 have K:=a.cell 8
 have z:=i.cell 0
 clear q r j h hn k l a i
 go_enter Tryz.func85,Tryz.ntmps85
 go_wp2_with fail
 refine g.out.mono ?_
 rintro e x ⟨rfl,v⟩
 have p:=f.trans (v.mono f.size)
 go_wp2_with fail
 go_ret
 exact ⟨rfl,p⟩
end Go.Proofs.YtonihophanmaaaaGreatDoor
