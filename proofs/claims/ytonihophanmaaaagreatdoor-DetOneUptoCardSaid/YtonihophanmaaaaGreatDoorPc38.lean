/- The texts CrO, put together. -/
import Derived.Test.YtonihophanmaaaaGreatDoorPc36
import Derived.Outline
import Derived.Test.YtonihophanmaaaaGreatDoorPc37
import Derived.Test.YtonihophanmaaaaGreatDoorPc15
set_option maxHeartbeats 8000000
set_option maxRecDepth 100000
namespace Go.Proofs.YtonihophanmaaaaGreatDoor
open Go.RowKit Go.Shelf
attribute [local go_sem] Oper.semAt_some qi jA
theorem zkW (p:Nat) (c b a size:Int) (w:World) :
  Calls Tryz.prog 207 #[.pointer (some ⟨p,0,none⟩),.agg #[.int .i64 c,.int .i64 b,.int .u64 a],.int .i64 size] w fun e d=>e=.returned (.func (.func 242) #[] #[.pointer (some ⟨w.heap.size+1,0,none⟩),.pointer (some ⟨w.heap.size,0,none⟩),.pointer (some ⟨w.heap.size+2,0,none⟩)]) ∧
   d=(((w.alloc (.cells #[.pointer (some ⟨p,0,none⟩)] 84)).alloc (.cells #[.int .i64 c,.int .i64 b,.int .u64 a] 137)).alloc (.cells #[.int .i64 size] 3)):=by
 go_enter Tryz.func207,Tryz.ntmps207
 go_wp2
 go_ret
 exact ⟨rfl,rfl⟩
def zmb (n:Nat) (kd:Int) (d p sz:Nat) (w:World) (pre:List Ev) (W:World):Prop:=
 (((∀ x∈pre,x.isOk)∧pre.length≤sz)∧n+7≤W.heap.size)∧w.grownBy W (some p)∧Blk W (n+1) #[.int .i64 0,.bool false,.bool false,.string ⟨#[]⟩,.int .i64 0,.int .u64 0,.int .i64 0,.string ⟨#[]⟩,.slice none 0 0] 28∧Blk W (n+3) #[.nilIface] 48∧∃ v xs,Blk W (n+2) #[.int .i64 kd,.bool false,.bool false,.string ⟨#[]⟩,.int .i64 0,.int .u64 0,.int .i64 0,.string ⟨#[]⟩,v] 28∧W.ownsRow (n+7) 28 9 v pre.length xs∧zV W (fun q=>n+7≤q∧q<W.heap.size∧v.ownBlock≠some q) d (qv pre) xs
def zmc (n:Nat) (kd:Int) (dp p sz:Nat) (w:World) (c:Code) (pre:List Ev) (W:World):Prop:=
 c=.exit 0∧w.grownBy W (some p)∧Blk W (n+1) #[.int .i64 0,.bool false,.bool false,.string ⟨#[]⟩,.int .i64 0,.int .u64 0,.int .i64 0,.string ⟨#[]⟩,.slice none 0 0] 28∧(∃ xs o v e,pre=xs++[.no o v e]∧e≠0∧Blk W (n+3) #[jD e] 48)∧(∃ A m c,Blk W (n+2) #[.int .i64 kd,.bool false,.bool false,.string ⟨#[]⟩,.int .i64 0,.int .u64 0,.int .i64 0,.string ⟨#[]⟩,.slice A m c] 28)∧RdX p dp sz W
def znI (n:Nat) (kd:Int) (d dp p sz:Nat) (T:Array Value) (pre:List Ev) (x:Ev) (a':Act) (W:World):Prop:=
 ∃ k,n+7≤k∧k≤W.heap.size∧(∀ v,Blk W (n+2) #[.int .i64 kd,.bool false,.bool false,.string ⟨#[]⟩,.int .i64 0,.int .u64 0,.int .i64 0,.string ⟨#[]⟩,v] 28→∀ q,v.ownBlock=some q→q<k)∧wI p dp k d sz (pre++[x]) W∧∃ b,(k≤b∧b<W.heap.size)∧match x with
  | .ok t v=>Blk W b (zf t.own v) 28∧a'={ tmps:=(((T.setIfInBounds 20 (ze t.own v)).setIfInBounds 21 .nilIface).setIfInBounds 9 (.pointer (some ⟨b,0,none⟩))).setIfInBounds 10 .nilIface,defers:=[] }
  | .no o v e=>Blk W b (zf o v) 28∧a'={ tmps:=(((T.setIfInBounds 20 (ze o v)).setIfInBounds 21 (jD e)).setIfInBounds 9 (.pointer (some ⟨b,0,none⟩))).setIfInBounds 10 (jD e),defers:=[] }
theorem zbt (n:Nat) (o:Int) (d p sz:Nat) (w:World) {B:Nat} (x:n+7≤B) (y:w.heap.size=n):OwnFrom B (zmb n o d p sz w):=by
 rintro s X Y u ⟨f,h,i,j,v,t,k,l,m⟩ a g
 have b:=fun r e=>(g r e).2
 refine ⟨⟨f.1,Nat.le_trans f.2 a.size⟩,zbR h a (n:=n) (by omega) (fun r e=>by have:=(g r e).1; omega),kw i a b,kw j a b,v,t,kw k a b,vZ l a b,?_⟩
 exact (m.keptC a b).mono (fun q c=>⟨c.1,Nat.lt_of_lt_of_le c.2.1 a.size,c.2.2⟩)
theorem zjZ (n:Nat) (x:Int) (f p sz:Nat) (w:World) {B:Nat} (D:n+7≤B) (E:w.heap.size=n) (c:Code):OwnFrom B (zmc n x f p sz w c):=by
 rintro s X Y C ⟨g,h,i,⟨z,o,v,e,j,k,l⟩,⟨A,m,c,q⟩,y,t,u⟩ b d
 have a:=fun r e=>(d r e).2
 exact ⟨g,zbR h b (n:=n) (by omega) (fun r e=>by have:=(d r e).1; omega),kw i b a,⟨z,o,v,e,j,k,kw l b a⟩,⟨A,m,c,kw q b a⟩,y,kw t b a,u⟩
theorem zat (p f n d sz:Nat) (b:List Ev) {X Y:World} {row:Option Nat} (h:wI p f n d sz b X) (c:X.grownBy Y row) (a:∀ r,row=some r→∃ o:Obj,X.heap[r]? = some o∧o.isCells=false):wI p f n d sz b Y:=by
 refine ⟨h.1,fun j x i=>?_⟩
 have:=h.2 j x i
 cases x with
 | ok t v=>exact ⟨this.1,(this.2.1.keptC c a).mono (fun q g=>⟨g.1,Nat.lt_of_lt_of_le g.2 c.size⟩),this.2.2⟩
 | no o v e=>exact ⟨this.1,this.2.1,this.2.2.choose,kw this.2.2.choose_spec.1 c a,this.2.2.choose_spec.2⟩
theorem zfp {w0:World} (F d p hi ha mj sz:Nat) (U:Int) (hm:(mj=4∧U=7∧sz=1)∨(mj=5∧U=8∧sz=2)) (hI:wm w0 F d) (s:ByteArray) (w:World) (ci:Below w0.heap.size w0 w) (co:w0.heap.size≤p) (hr:RdB w p s (16 - d)) (N:s.size≤1000000000) (hF:s.size<F) (S:OkS s) (cU:ha<18446744073709551616) :
  Calls Tryz.prog 147 #[.pointer (some ⟨p,0,none⟩),qu (mj,hi,ha)] w (jc p (16 - d) (d+1) w s (zS (xB F (zE F d) sz (mj,hi,ha)) (fun l=>jC (xM U l)) s.data.toList)):=by
 have aC:sz=1∨sz=2:=by rcases hm with ⟨_,_,h⟩ | ⟨_,_,h⟩ <;> simp [h]
 have cL:Hid (0≤U∧U≤100):=Lib.hid (by rcases hm with ⟨_,h,_⟩ | ⟨_,h,_⟩ <;> rw [h] <;> decide)
 have dw:=hr.lt
 have br:=Blk.new w #[.int .i64 mj,.int .i64 hi,.int .u64 ha] 137
 have z0:=br.cell 0
 obtain ⟨n,hn⟩:∃ n,w.heap.size=n:=⟨_,rfl⟩
 have ar:∃ st:PR (List Tr),xB F (zE F d) sz (mj,hi,ha) s.data.toList=st∧zhW Tryz.prog 242 #[.pointer (some ⟨n+5,0,none⟩),.pointer (some ⟨n+4,0,none⟩),.pointer (some ⟨n+6,0,none⟩)] Ev.enc (MvR p (16 - d) s.size) (zdB n (n+5) (n+4) (n+6)) Ev.isOk (fun Q A W=>wI p (16 - d) A.heap.size d s.size Q W)
   (za2 p (16 - d) s.size st) (yT st) (fun W=>zfd w0 p (16 - d) (n+5) (n+4) (n+6) sz (mj,hi,ha) s W∧n+7≤W.heap.size):=by
  by_cases bC:hi=31
  ·subst bC
   exact ⟨_,rfl,zir F d p (n+7) n (n+5) (n+4) (n+6) sz mj ha s hI co (by omega) (by omega) (by omega) (by omega) aC N hF S⟩
  ·refine ⟨_,rfl,?_⟩
   have h:=zjQ F d p (n+7) n (n+5) (n+4) (n+6) sz mj hi ha s hI co (by omega) (by omega) (by omega) (by omega) aC N hF S bC cU
   have e:xB F (zE F d) sz (mj,hi,ha) s.data.toList=jr (zE F d) (sz*ha) [] s.data.toList:=by
    unfold xB
    rw [if_neg bC]
   rw [e]
   exact h
 obtain ⟨st,aK,ar⟩:=ar
 have bN:=yd (xB F (zE F d) sz (mj,hi,ha)) (xM U) s.data.toList
 rw [aK]at bN
 rw [bN]
 obtain ⟨dp,cj⟩:∃ dp,16 - d=dp:=⟨_,rfl⟩
 rw [cj]at hr ar ⊢
 clear aK bN cj hI S aC
 refine jo Tryz.func147 rfl ?_
 simp only [Tryz.ntmps147,List.size_toArray,List.length_cons,List.length_nil,Nat.reduceAdd,Nat.reduceSub,Array.replicate_succ,Array.replicate_zero,List.push_toArray,List.append_toArray,List.nil_append,List.cons_append]
 rw [hn]at z0
 rcases hm with ⟨e1,e2,e3⟩ | ⟨e1,e2,e3⟩
 all_goals
  go_wp2_with fail
  go_step3
  go_wp2_with fail
  go_step3
  go_wp2_with fail
  refine (zkW p _ hi ha _ _).mono ?_
  rintro e w5 ⟨rfl,ae⟩
  simp only [World.size_alloc]
  rw [hn]
  have c5:w5.heap.size=n+7:=by rw [ae]; simp [hn]
  have bp:Below w.heap.size w w5:=by
   rw [ae]
   exact ((((((Below.refl _ w).alloc (Nat.le_refl _) _).alloc (by simp) _).alloc (by simp; omega) _).alloc (by simp; omega) _).alloc (by simp; omega) _).alloc (by simp; omega) _ |>.alloc (by simp; omega) _
  have bL:RdB w5 p s dp:=hr.below bp hr.lt
  have bG:Blk w5 (n+1) #[.int .i64 0,.bool false,.bool false,.string ⟨#[]⟩,.int .i64 0,.int .u64 0,.int .i64 0,.string ⟨#[]⟩,.slice none 0 0] 28:=by
   rw [ae]
   exact ((((((j3 (by simp [hn]) _ _).alloc _).alloc _).alloc _).alloc _).alloc _)
  have aj:Blk w5 (n+2) #[.int .i64 U,.bool false,.bool false,.string ⟨#[]⟩,.int .i64 0,.int .u64 0,.int .i64 0,.string ⟨#[]⟩,.slice none 0 0] 28:=by
   rw [ae,e2]
   exact (((((j3 (by simp [hn]) _ _).alloc _).alloc _).alloc _).alloc _)
  have bH:Blk w5 (n+3) #[.nilIface] 48:=by
   rw [ae]
   exact ((((j3 (by simp [hn]) _ _).alloc _).alloc _).alloc _)
  have bI:Blk w5 (n+4) #[.pointer (some ⟨p,0,none⟩)] 84:=by
   rw [ae]
   exact (((j3 (by simp [hn]) _ _).alloc _).alloc _)
  have bJ:Blk w5 (n+5) #[.int .i64 mj,.int .i64 hi,.int .u64 ha] 137:=by
   rw [ae,e1]
   exact ((j3 (by simp [hn]) _ _).alloc _)
  have bK:Blk w5 (n+6) #[.int .i64 (sz:Nat)] 3:=by
   rw [ae,e3]
   exact (j3 (by simp [hn]) _ _)
  have a6:=ci.trans (bp.mono ci.size)
  have a7:w.grownBy w5 (some p):=below_grown bp _
  clear ae bp z0 br hr e1 e2 e3
  go_wp2_with fail
  refine zeY (gf:=242) (lb:=#[.pointer (some ⟨n+5,0,none⟩),.pointer (some ⟨n+4,0,none⟩),.pointer (some ⟨n+6,0,none⟩)]) rfl (enters_of Tryz.func242 (by kernel_rfl) rfl)
   ar ?hMv ?hA0 ?hKt ?hKb ?hps (zmb n U d p s.size w) (zmc n U dp p s.size w) ?hI ?hIx ?hIM ?hIxM ?h0 ?hCt
   (znI n U d dp p s.size) ?hAx ?assign ?body ?hS ?hSp ?done ?stop
  case hMv =>
   intro A B k o hM hk ho _
   exact (hM.1.block k (Array.getElem?_eq_some_iff.1 ho).1 (fun e=>by cases e; omega)).trans ho
  case hA0 =>
   intro o o'
   exact ⟨⟨(a6.alloc a6.size o).alloc (by have:=a6.size; simp; omega) o',(bL.alloc o).alloc o',(bJ.alloc o).alloc o',(bI.alloc o).alloc o',(bK.alloc o).alloc o'⟩,by simp; omega⟩
  case hKt =>
   intro A B C Z h2
   have hz:=Z.1.size
   exact ⟨Z.1.trans h2.1,fun J=>(h2.2.1 (by omega)).trans (Z.2.1 J),fun J=>(h2.2.2.1 (by omega)).trans (Z.2.2.1 J),fun J=>(h2.2.2.2 (by omega)).trans (Z.2.2.2 J)⟩
  case hKb =>
   intro W l o o' hl ho hc
   have cY:=(Array.getElem?_eq_some_iff.1 ho).1
   exact ⟨(Below.refl _ W).grown (grownBy_putObj' W l o') (by omega) (fun k e=>by cases e; omega),fun _=>World.putObj_heap_other (by omega),fun _=>World.putObj_heap_other (by omega),fun _=>World.putObj_heap_other (by omega)⟩
  case hps =>
   intro x
   cases x <;> rfl
  case hI=>exact zbt _ _ _ _ _ _ (by omega) hn
  case hIx=>exact fun c=>zjZ _ _ _ _ _ _ (by omega) hn c
  case hIM =>
   rintro s' X Y ⟨Z,h2,h3,h4,v,xs,h5,h6,h7⟩ ⟨z,_⟩
   have hv:v.ownBlock≠some p:=fun e=>by
    have:=(h6.lt p e).1
    omega
   refine ⟨⟨Z.1,Nat.le_trans Z.2 z.size⟩,zu h2 z,RdB.grown h3 z (by omega),RdB.grown h4 z (by omega),v,xs,RdB.grown h5 z (by omega),h6.kept z (.inr hv),?_⟩
   refine (h7.keep (fun q S=>z.block q S.2.1 (fun e=>?_))).mono (fun q S=>⟨S.1,Nat.lt_of_lt_of_le S.2.1 z.size,S.2.2⟩)
   have:q=p:=by first | exact Option.some.inj e | exact (Option.some.inj e).symm
   omega
  case hIxM =>
   rintro c s' X Y ⟨Z,h2,h3,⟨xs,o,v,e,h4,h5,h6⟩,⟨A,m,c',h7⟩,h8⟩ ⟨z,G⟩
   exact ⟨Z,zu h2 z,RdB.grown h3 z (by omega),⟨xs,o,v,e,h4,h5,RdB.grown h6 z (by omega)⟩,⟨A,m,c',RdB.grown h7 z (by omega)⟩,G h8⟩
  case h0=>exact ⟨⟨⟨by simp,by simp⟩,by omega⟩,a7,bG,bH,.slice none 0 0,[],aj,World.ownsRow_nil _ _ _ _,rfl⟩
  case hCt =>
   rintro Q x W ⟨Z,_⟩
   exact Z.1.1 x (List.mem_append_right _ (List.mem_singleton.2 rfl))
  case hAx =>
   rintro Q x a' u X Y cv ⟨k,br,cV,cW,Z,b,h2,h3⟩ z hr
   have bW:=fun r e=>(hr r e).2
   refine ⟨k,br,Nat.le_trans cV z.size,fun v hv=>cW v ?_,zat _ _ _ _ _ _ Z z bW,b,⟨h2.1,Nat.lt_of_lt_of_le h2.2 z.size⟩,?_⟩
   ·exact (z.block (n+2) (by omega) (fun e=>by have:=(hr (n+2) e.symm).1; omega)).symm.trans hv
   cases x with
   | ok t v=>exact ⟨kw h3.1 z bW,h3.2⟩
   | no o v e=>exact ⟨kw h3.1 z bW,h3.2⟩
  case hS =>
   rintro s' X Y cv ⟨Z,r,h2,h3,h4⟩ z hr
   exact ⟨Z,r,h2,kw h3 z (fun r e=>(hr r e).2),h4⟩
  case hSp =>
   intro s' X Y cv N _ _
   exact N
  case assign =>
   rintro l Q x A0 W K bF bU hI hT L
   have hT:wI p dp A0.heap.size d s.size (Q++[x]) W:=hT
   have hz:=hI.2.1.size
   have cu:=bF.1.2
   have bR:=bU.1.size
   have aN:∀ (o:Obj) (v:Value),Blk (W.alloc o) (n+2) #[.int .i64 U,.bool false,.bool false,.string ⟨#[]⟩,.int .i64 0,.int .u64 0,.int .i64 0,.string ⟨#[]⟩,v] 28→∀ q,v.ownBlock=some q→q<A0.heap.size:=fun o v hv q e=>by
    obtain ⟨⟨_,dF⟩,_,_,_,v0,dK,bh,ax,_⟩:=bF
    have Z:Blk (W.alloc o) (n+2) _ _:=(RdB.grown bh bU.1 (by omega)).alloc o
    have h2:(some (Obj.cells _ _ _):Option Obj)=some (Obj.cells _ _ _):=Z.symm.trans hv
    injection h2 with h2
    injection h2 with h2 _ _
    have h3:v0=v:=by
     have:=congrArg (fun a:Array Value=>a[8]?) h2
     simpa using this
    exact (ax.lt q (by rw [h3]; exact e)).2
   clear bF bU
   cases x with
   | ok t v =>
    obtain ⟨⟨A,m,c,rfl⟩,bT,bt,b2⟩:=hT.2 Q _ rfl
    have aY:=(zbt n U d p s.size w (B:=n+7) (Nat.le_refl _) hn) Q W (W.alloc (.cells (zf t.own (.slice A m c)) 28)) none hI (World.grownBy_alloc _ _ _) (fun r e=>by cases e)
    have aZ:=zat p dp A0.heap.size d s.size (Q++[.ok t (.slice A m c)]) hT (World.grownBy_alloc W (.cells (zf t.own (.slice A m c)) 28) none) (fun r e=>by cases e)
    have aX:=Blk.new W (zf t.own (.slice A m c)) 28
    have aA:=aN (.cells (zf t.own (.slice A m c)) 28)
    have aR:=Lib.hid aA
    have aQ:=Lib.hid aY
    have aS:=Lib.hid aZ
    have HB:=Lib.hid aX
    have HK:=Lib.hid L
    clear L hI hT bT bt aY aZ aX aA aN
    unfold zf at aQ HB aS aR
    simp only [Ev.enc]
    unfold ze
    gi_wp2
    exact HK.out _ _ (kC ((Below.refl _ _).alloc (Nat.le_refl _) _)) ⟨(Below.refl _ _).alloc (by omega) _,fun h=>Below.heap_alloc _ _ _ h,fun h=>Below.heap_alloc _ _ _ h,fun h=>Below.heap_alloc _ _ _ h⟩ aQ.out ⟨A0.heap.size,cu,by simp; omega,aR.out,aS.out,_,⟨bR,by simp⟩,HB.out,rfl⟩
   | no o v e =>
    obtain ⟨⟨A,m,c,rfl⟩,a9,bZ⟩:=hT.2 Q _ rfl
    have aY:=(zbt n U d p s.size w (B:=n+7) (Nat.le_refl _) hn) Q W (W.alloc (.cells (zf o (.slice A m c)) 28)) none hI (World.grownBy_alloc _ _ _) (fun r e=>by cases e)
    have aZ:=zat p dp A0.heap.size d s.size (Q++[.no o (.slice A m c) e]) hT (World.grownBy_alloc W (.cells (zf o (.slice A m c)) 28) none) (fun r e=>by cases e)
    have aX:=Blk.new W (zf o (.slice A m c)) 28
    have aA:=aN (.cells (zf o (.slice A m c)) 28)
    have aR:=Lib.hid aA
    have aQ:=Lib.hid aY
    have aS:=Lib.hid aZ
    have HB:=Lib.hid aX
    have HK:=Lib.hid L
    obtain ⟨ev,az⟩:∃ ev,jD e=ev:=⟨_,rfl⟩
    have bA:=Lib.hid az
    clear L hI hT bZ aY aZ aX aA aN
    unfold zf at aQ HB aS aR
    simp only [Ev.enc]
    unfold ze
    rw [az]
    clear az
    gi_wp2
    exact HK.out _ _ (kC ((Below.refl _ _).alloc (Nat.le_refl _) _)) ⟨(Below.refl _ _).alloc (by omega) _,fun h=>Below.heap_alloc _ _ _ h,fun h=>Below.heap_alloc _ _ _ h,fun h=>Below.heap_alloc _ _ _ h⟩ aQ.out ⟨A0.heap.size,cu,by simp; omega,aR.out,aS.out,_,⟨bR,by simp⟩,HB.out,by rw [bA.out]; rfl⟩
  case body =>
   rintro l Q x a' W hl _ ⟨⟨Z,hz⟩,z,aJ,al,v,xs,au,ac,aB⟩ ⟨k,dG,bR,aA,hT,b,⟨hb,du⟩,ha⟩
   have c3:=al.cell 0
   have f3:=al.frozen 0
   cases x with
   | no o v' e =>
    obtain ⟨⟨A,m,c,rfl⟩,a9,bZ⟩:=hT.2 Q _ rfl
    obtain ⟨bO,rfl⟩:=ha
    simp only [List.setIfInBounds_toArray,List.set_cons_zero,List.set_cons_succ]
    have cq:=al.set 0 (jD e)
    obtain ⟨O,c2,rfl⟩:=xE ac
    obtain ⟨y,hy⟩:∃ y,jD e=.iface 144 y:=⟨_,xA a9⟩
    have HY:=Lib.hid hy
    rw [hy]at cq ⊢
    clear hy hT
    gi_wp2_with fail
    obtain ⟨s',c0,c1⟩:=bZ
    exact ⟨(KeepsOthers.setCell W _ _).from _,rfl,jE z (jm W (n+3) 0 _) (by omega),aJ.other (by omega) 0 _,⟨Q,o,_,e,rfl,a9,by rw [HY.out]; exact cq⟩,⟨O,Q.length,c2,au.other (by omega) 0 _⟩,s',c0.other (by omega) 0 _,c1⟩
   | ok t v' =>
    obtain ⟨⟨A,m,c,rfl⟩,bT,bt,b2⟩:=hT.2 Q _ rfl
    obtain ⟨bO,rfl⟩:=ha
    simp only [List.setIfInBounds_toArray,List.set_cons_zero,List.set_cons_succ]
    clear hT
    obtain ⟨O,c2,rfl⟩:=xE ac
    have aM:=aA _ au
    have bu:=zaO Z.1
    obtain ⟨gn,cl⟩:∃ gn,Q.length=gn:=⟨_,rfl⟩
    rw [cl]at ac au aB aM b2 bu
    have c4:xs.length=gn*9:=by rw [aB.len,bu]
    obtain ⟨⟨ap,b3,aD,aU,aV,u3,bd,s3⟩,bV⟩:∃ o,t.own=o:=⟨_,rfl⟩
    rw [bV]at bO bt
    obtain ⟨i0,hi,cs,ct,b4⟩:=info_parts xQ
    have HI:=Lib.hid hi
    have cM:=Lib.hid cs
    have cN:=Lib.hid ct
    have cO:=Lib.hid b4
    clear hi cs ct b4
    gi_wp2_with fail
    obtain ⟨W0,ak⟩:∃ W0,W.setCell ⟨n+1+1+1,0,none⟩ .nilIface=W0:=⟨_,rfl⟩
    have cA:Blk W0 (n+1) #[.int .i64 0,.bool false,.bool false,.string ⟨#[]⟩,.int .i64 0,.int .u64 0,.int .i64 0,.string ⟨#[]⟩,.slice none 0 0] 28:=by rw [← ak]; exact aJ.other (by omega) 0 _
    have bh:Blk W0 (n+2) #[.int .i64 U,.bool false,.bool false,.string ⟨#[]⟩,.int .i64 0,.int .u64 0,.int .i64 0,.string ⟨#[]⟩,.slice O gn c2] 28:=by rw [← ak]; exact au.other (by omega) 0 _
    have cB:Blk W0 (n+3) #[.nilIface] 48:=by rw [← ak]; exact al.set 0 _
    have cC:Blk W0 b #[.int .i64 ap,.bool b3,.bool aD,.string aU,.int .i64 aV,.int .u64 u3,.int .i64 bd,.string s3,.slice A m c] 28:=by rw [← ak]; exact bO.other (by omega) 0 _
    have ax:W0.ownsRow (n+7) 28 9 (.slice O gn c2) gn xs:=by rw [← ak]; exact ownsRow_setCell_other ac (a:=⟨n+1+1+1,0,none⟩) (fun e=>by have:=(ac.lt (n+3) e).1; omega) _
    have dI:W0.heap.size=W.heap.size:=by rw [← ak]; simp [World.setCell]
    have cS:b<W0.heap.size:=by omega
    rw [ak]
    refine zcE (R:=ku n W0.heap.size (.slice O gn c2)) (by kernel_rfl) (by kernel_rfl) (fun _=>ku.refl _ _ _ _) (by kernel_rfl) (by kernel_rfl) (ku n W0.heap.size (.slice O gn c2) W0)
     [fun f _=>f 0=.pointer (some ⟨n+2,8,none⟩),fun f _=>f 1=.slice O gn c2,fun f _=>f 2=.agg #[.int .i64 ap,.bool b3,.bool aD,.string aU,.int .i64 aV,.int .u64 u3,.int .i64 bd,.string s3,.slice A m c],fun f _=>f 3=.int .i64 gn,fun f _=>∃ zb,f 4=.slice (some ⟨zb,0,none⟩) 1 1,
      fun f _=>∃ g V,f 5=.slice (some ⟨g,0,none⟩) (gn+1) V∧((Value.slice O gn c2).ownBlock=some g∨W0.heap.size≤g),fun f _=>∃ g V,f 5=.slice (some ⟨g,0,none⟩) (gn+1) V∧((Value.slice O gn c2).ownBlock=some g∨W0.heap.size≤g)∧f 6=.pointer (some ⟨g,gn*9,none⟩),fun _ _=>True,fun f _=>f 8=.pointer (some ⟨n+2,8,none⟩),fun _ _=>True]
     (zaZ n W0.heap.size gn (.slice O gn c2) (fun v=>#[.int .i64 U,.bool false,.bool false,.string ⟨#[]⟩,.int .i64 0,.int .u64 0,.int .i64 0,.string ⟨#[]⟩,v]) xs [.int .i64 ap,.bool b3,.bool aD,.string aU,.int .i64 aV,.int .u64 u3,.int .i64 bd,.string s3,.slice A m c] [.int .i64 0,.bool false,.bool false,.string ⟨#[]⟩,.int .i64 0,.int .u64 0,.int .i64 0,.string ⟨#[]⟩,.slice none 0 0]) ?_ ?_ ?_ ?_ ?_ ?_
    case refine_1=>exact ⟨Below.drew (Below.refl _ _),fun _ _ _ _=>rfl,⟨Nat.le_refl _,fun _ _ _ h _=>h⟩⟩
    case refine_2=>exact fun _=>⟨⟨fun h=>(nomatch h),fun h=>(nomatch h),fun h=>(nomatch h)⟩,bh,fun _=>ax,fun h=>(nomatch h),fun h=>(nomatch h)⟩
    case refine_3=>exact fun A B M hR=>M.trans hR
    case refine_4 =>
     intro i o f ay A B ho hk _ J _
     have e:∀ k,k=i→ay k=f k:=fun k h=>(hk k (.inl h)).symm
     unfold kS at J ⊢
     match i,ho,J,e with
     | 0,_,J,e=>exact (e 0 rfl).trans J
     | 1,_,J,e=>exact (e 1 rfl).trans J
     | 2,_,J,e=>exact (e 2 rfl).trans J
     | 3,_,J,e=>exact (e 3 rfl).trans J
     | 4,_,J,e=>obtain ⟨zb,J⟩:=J; exact ⟨zb,(e 4 rfl).trans J⟩
     | 5,_,J,e=>obtain ⟨g,V,J,h⟩:=J; exact ⟨g,V,(e 5 rfl).trans J,h⟩
     | 6,ho,J,e =>
      obtain ⟨g,V,J,S,h⟩:=J
      have ae:waitsFor o 5=true:=by
       rw [← Option.some.inj ho]
       first | kernel_rfl | decide +kernel
      have h5:=hk 5 (.inr ae)
      exact ⟨g,V,h5.symm.trans J,S,(e 6 rfl).trans h⟩
     | 7,_,_,_=>trivial
     | 8,_,J,e=>exact (e 8 rfl).trans J
     | 9,_,_,_=>trivial
     | i+10,ho,_,_=>simp at ho
    case refine_5 =>
     refine zg (zw rfl rfl (by kernel_rfl) (by kernel_rfl) ?_) ?_
     ·intro E f W M hn G N I ρ H hc hf z K L
      have r6:ρ (.tmp 6)=.pointer (some ⟨n+2,0,none⟩):=by rw [H]; kernel_rfl
      clear H z
      simp [zd,go_sem,r6]
      exact L _ _ (zi _ _ _) (xV G 0 _ (by decide) (by decide) (by decide) (by decide)) (ku.refl _ _ _ _)
     refine zg (zw rfl rfl (by kernel_rfl) (by kernel_rfl) ?_) ?_
     ·intro E f W M hn G N I ρ H hc hf z K L
      have da:=(show ρ (.tmp 25)=f 0 by rw [H]; kernel_rfl).trans (hn 0 (I 0 (by kernel_rfl)))
      clear H z
      have h9:E 9=false:=by
       cases h:E 9 with
       | false=>rfl
       | true=>rw [G.1.1 h]at N; cases N
      have q0:W.cell? ⟨n+2,8,none⟩=some (.slice O gn c2):=by
       have:=G.2.1
       rw [h9]at this
       exact this.cell 8
      simp [zd,go_sem,da,q0]
      exact L _ _ (zi _ _ _) (xV G 1 _ (by decide) (by decide) (by decide) (by decide)) (ku.refl _ _ _ _)
     refine zg (zw rfl rfl (by kernel_rfl) (by kernel_rfl) ?_) ?_
     ·intro E f W M hn G N I ρ H hc hf z K L
      have r9:ρ (.tmp 9)=.pointer (some ⟨b,0,none⟩):=by rw [H]; kernel_rfl
      clear H z
      exact jh 28 (.tmp 9) rfl b r9 28 _ (0,0) _ ((M.2.1 b cS (by omega) (fun e=>by have:=aM b e; omega)).trans cC) Tryz.underlying28 rfl (by kernel_rfl) (L _ _ (zi _ _ _) (xV G 2 _ (by decide) (by decide) (by decide) (by decide)) (ku.refl _ _ _ _))
     refine zg (zw rfl rfl (by kernel_rfl) (by kernel_rfl) ?_) ?_
     ·intro E f W M hn G N I ρ H hc hf z K L
      have b5:=(show ρ (.tmp 26)=f 1 by rw [H]; kernel_rfl).trans (hn 1 (I 1 (by kernel_rfl)))
      clear H z
      simp [zd,go_sem,b5]
      exact L _ _ (zi _ _ _) (xV G 3 _ (by decide) (by decide) (by decide) (by decide)) (ku.refl _ _ _ _)
     refine zg (zw rfl rfl (by kernel_rfl) (by kernel_rfl) ?_) ?_
     ·intro E f W M hn G N I ρ H hc hf z K L
      clear H z
      simp [zd,go_sem,hc]
      obtain ⟨a1,a2,a3,a4,a5⟩:=G
      have aC:=M.1.size
      refine L _ _ ⟨W.heap.size,zi _ _ _⟩ ?_ (ku.of (World.grownBy_alloc _ _ none) (by omega) (by omega) (fun g e=>by cases e))
      unfold zaZ
      rw [zr E (show (9:Nat)≠4 by decide),zr E (show (1:Nat)≠4 by decide),zr E (show (5:Nat)≠4 by decide),zr E (show (7:Nat)≠4 by decide),zU f _ (show (5:Nat)≠4 by decide),zi]
      exact ⟨a1,a2.alloc _,fun h=>(a3 h).alloc _,fun h=>(a4 h).alloc _,fun _ _=>⟨_,rfl,by omega,Blk.new _ _ _⟩⟩
     refine zg (zw rfl rfl (by kernel_rfl) (by kernel_rfl) ?_) ?_
     ·intro E f W M hn G N I ρ H hc hf z K L
      have b5:=(show ρ (.tmp 26)=f 1 by rw [H]; kernel_rfl).trans (hn 1 (I 1 (by kernel_rfl)))
      obtain ⟨zb,cg⟩:=(hn 4 (I 4 (by kernel_rfl)))
      have dd:=(show ρ (.tmp 29)=f 4 by rw [H]; kernel_rfl).trans cg
      clear H z
      obtain ⟨⟨a1,bo,aL⟩,a2,a3,a4,a5⟩:=G
      have aC:=M.1.size
      obtain ⟨be,ez,dJ,c6⟩:=a5 (I 4 (by kernel_rfl)) N
      have c7:be=zb:=by
       rw [cg]at ez
       injection ez with ez
       injection ez with ez
       injection ez with ez
       exact ez.symm
      subst c7
      have h9:E 9=false:=by
       cases h:E 9 with
       | false=>rfl
       | true=>rw [bo h]at N; cases N
      have h7:E 7=false:=by
       cases h:E 7 with
       | false=>rfl
       | true=>rw [aL h]at N; cases N
      obtain ⟨g,V,w',cH,cf,cn,cR,cY⟩:=run_append_lies (P:=Tryz.prog) W 26 26 (n+7) 28 i0 _ 9 104 Tryz.underlying26 HI.out cM.out cN.out cO.out rfl (by decide) (.slice O gn c2) gn xs (a3 N) ⟨be,0,none⟩ 1 1 [.int .i64 0,.bool false,.bool false,.string ⟨#[]⟩,.int .i64 0,.int .u64 0,.int .i64 0,.string ⟨#[]⟩,.slice none 0 0] rfl (fun j u hu=>by
       have:=c6.cell j
       rw [show (⟨be,0,none⟩:Addr).add j=⟨be,j,none⟩ by unfold Addr.add; split <;> rename_i q <;> simp_all]
       rw [this,← hu]
       simp) (by decide) (by decide) (by unfold maxLen; omega) (by omega) (by omega) W.heap.size rfl
      refine zfW (.tmp 26) (.tmp 29) 26 rfl (.slice O gn c2) (.slice (some ⟨be,0,none⟩) 1 1) _ w' b5 dd cH (L _ _ ⟨g,V,zi _ _ _,by rcases cR with h | h; exact .inl h; exact .inr (by omega)⟩ ?_ (ku.of cn (by omega) (by omega) (fun g' e=>⟨by have:=((a3 N).lt g' e).1; omega,.inr (.inl e),.inr (fun o ho=>by
       obtain ⟨o',ba,bP⟩:=xu (a3 N) e
       rw [ho]at ba
       cases ba
       exact bP)⟩)))
      unfold zaZ
      rw [zr E (show (9:Nat)≠5 by decide),zr E (show (1:Nat)≠5 by decide),kN,zr E (show (7:Nat)≠5 by decide),h9,h7]
      refine ⟨⟨fun h=>(nomatch h),fun h=>(nomatch h),fun h=>(nomatch h)⟩,?_,fun h=>(nomatch h),fun _=>(by rw [zi]; exact cf),fun _ h=>(nomatch h)⟩
      rw [h9]at a2
      exact (cn.block (n+2) a2.lt (fun e=>by have:=((a3 N).lt (n+2) (by first | exact e.symm | exact e)).1; omega)).trans a2
     refine zg (zw rfl rfl (by kernel_rfl) (by kernel_rfl) ?_) ?_
     ·intro E f W M hn G N I ρ H hc hf z K L
      obtain ⟨g,V,ah,bq⟩:=(hn 5 (I 5 (by kernel_rfl)))
      have b6:=(show ρ (.tmp 30)=f 5 by rw [H]; kernel_rfl).trans ah
      have dc:=(show ρ (.tmp 28)=f 3 by rw [H]; kernel_rfl).trans (hn 3 (I 3 (by kernel_rfl)))
      clear H z
      have y6:(gn:Int)<(gn:Int)+1:=by omega
      simp [zd,go_sem,b6,dc,y6]
      exact L _ _ ⟨g,V,(zU f _ (show (5:Nat)≠6 by decide)).trans ah,bq,zi _ _ _⟩ (xV G 6 _ (by decide) (by decide) (by decide) (by decide)) (ku.refl _ _ _ _)
     refine zg (kK rfl rfl (by kernel_rfl) rfl ?_) ?_
     ·intro E f W M hn G N I ρ H hc hf z K L
      obtain ⟨g,V,ah,bq,cP⟩:=(hn 6 (I 6 (by kernel_rfl)))
      have de:=(show ρ (.tmp 31)=f 6 by rw [H]; kernel_rfl).trans cP
      have db:=(show ρ (.tmp 27)=f 2 by rw [H]; kernel_rfl).trans (hn 2 (I 2 (by kernel_rfl)))
      clear H z
      obtain ⟨⟨a1,bo,aL⟩,a2,a3,a4,a5⟩:=G
      have aC:=M.1.size
      have s5:=I 5 (by kernel_rfl)
      have ao:=a4 s5
      rw [N,if_neg (by decide),ah]at ao
      have cT:=ao.lt g rfl
      refine zde 28 (.tmp 31) (.tmp 27) rfl g (gn*9) #[.int .i64 ap,.bool b3,.bool aD,.string aU,.int .i64 aV,.int .u64 u3,.int .i64 bd,.string s3,.slice A m c] de db (zkj ao) (by kernel_rfl) (by simp [Value.oneCell']) (L _ _ trivial ?_ (ku.of (vF g _ _ W) (by omega) (by omega) (fun g' e=>by
       cases e
       obtain ⟨o',ba,bP⟩:=xu ao rfl
       refine ⟨by omega,?_,.inr (fun o ho=>?_)⟩
       ·rcases bq with h | h
        ·exact .inr (.inl h)
        ·exact .inr (.inr h)
       ·rw [ho]at ba
        cases ba
        exact bP)))
      unfold zaZ
      rw [zr E (show (9:Nat)≠7 by decide),zr E (show (1:Nat)≠7 by decide),zr E (show (5:Nat)≠7 by decide),kN,zr E (show (4:Nat)≠7 by decide)]
      refine ⟨⟨a1,bo,fun _=>s5⟩,?_,fun h=>(by rw [s5]at h; cases h),fun _=>?_,fun _ h=>(by rw [s5]at h; cases h)⟩
      ·exact ((vF g _ _ W).block (n+2) a2.lt (fun e=>by cases e; omega)).trans a2
      ·rw [if_pos rfl,zU f undef (show (5:Nat)≠7 by decide),ah]
       exact zhc ao c4 rfl
     refine zg (zw rfl rfl (by kernel_rfl) (by kernel_rfl) ?_) ?_
     ·intro E f W M hn G N I ρ H hc hf z K L
      have r6:ρ (.tmp 6)=.pointer (some ⟨n+2,0,none⟩):=by rw [H]; kernel_rfl
      clear H z
      simp [zd,go_sem,r6]
      exact L _ _ (zi _ _ _) (xV G 8 _ (by decide) (by decide) (by decide) (by decide)) (ku.refl _ _ _ _)
     refine zg (kK rfl rfl (by kernel_rfl) rfl ?_) xp
     ·intro E f W M hn G N I ρ H hc hf z K L
      have df:=(show ρ (.tmp 32)=f 8 by rw [H]; kernel_rfl).trans (hn 8 (I 8 (by kernel_rfl)))
      obtain ⟨g,V,ah,bq⟩:=(hn 5 (I 5 (by kernel_rfl)))
      have b6:=(show ρ (.tmp 30)=f 5 by rw [H]; kernel_rfl).trans ah
      clear H z
      obtain ⟨⟨a1,bo,aL⟩,a2,a3,a4,a5⟩:=G
      have aC:=M.1.size
      have s5:=I 5 (by kernel_rfl)
      have s1:=I 1 (by kernel_rfl)
      rw [N,if_neg (by decide)]at a2
      have q0:W.cell? ⟨n+2,8,none⟩=some (.slice O gn c2):=a2.cell 8
      have f0:=a2.frozen 8
      have aO:=a4 s5
      have cT:=aO.lt g (by rw [ah]; rfl)
      simp [zd,go_sem,df,b6,q0,f0]
      refine L _ _ trivial ?_ (ku.of (jm W (n+2) 8 _) (by omega) (by omega) (fun g' e=>by cases e; exact ⟨by omega,.inl rfl,.inl (by omega)⟩))
      unfold zaZ
      rw [kN,zr E (show (1:Nat)≠9 by decide),zr E (show (5:Nat)≠9 by decide),zr E (show (7:Nat)≠9 by decide),zr E (show (4:Nat)≠9 by decide)]
      refine ⟨⟨fun _=>s1,fun _=>s5,aL⟩,?_,fun h=>(by rw [s5]at h; cases h),fun _=>?_,fun _ h=>(by rw [s5]at h; cases h)⟩
      ·rw [if_pos rfl,zU f undef (show (5:Nat)≠9 by decide),ah]
       exact a2.set 8 _
      ·rw [zU f undef (show (5:Nat)≠9 by decide)]
       exact ownsRow_setCell_other aO (a:=⟨n+2,8,none⟩) (fun e=>by have:=(aO.lt (n+2) e).1; omega) _
    case refine_6 =>
     intro f W2 M a8 G
     obtain ⟨g,V,e5,a7⟩:=a8 5 (by decide)
     have q2:Blk W2 (n+2) #[.int .i64 U,.bool false,.bool false,.string ⟨#[]⟩,.int .i64 0,.int .u64 0,.int .i64 0,.string ⟨#[]⟩,f 5] 28:=G.2.1
     have q4:W2.ownsRow (n+7) 28 9 (f 5) (gn+1) (xs++[.int .i64 ap,.bool b3,.bool aD,.string aU,.int .i64 aV,.int .u64 u3,.int .i64 bd,.string s3,.slice A m c]):=G.2.2.2.1 rfl
     rw [e5]at q2 q4
     have ck:W.grownBy W0 (some (n+3)):=by rw [← ak]; exact jm W (n+3) 0 _
     have cQ:Below n W W0:=(Below.refl _ W).grown ck (by omega) (fun k e=>by cases e; omega)
     have aH:Below n W W2:=cQ.trans M.1
     have bb:∀ q,(Value.slice O gn c2).ownBlock=some q→n+7≤q:=fun q e=>(ax.lt q e).1
     have b4:=M.1.size
     have aE:∀ q,q<W.heap.size→q≠n+2→q≠n+3→(Value.slice O gn c2).ownBlock≠some q→W2.heap[q]? = W.heap[q]? := fun q Z h2 h3 h4 =>
      (M.2.1 q (by omega) h2 h4).trans (ck.block q Z (fun e=>h3 (by first | exact Option.some.inj e | exact (Option.some.inj e).symm)))
     have cm:∀ q,q<W.heap.size→(Value.slice O gn c2).ownBlock≠some q→(Value.slice (some ⟨g,0,none⟩) (gn+1) V).ownBlock≠some q:=fun q Z h2 e=>by
      have e:g=q:=by simpa [Value.ownBlock] using e
      subst e
      rcases a7 with h | h
      ·exact h2 h
      ·omega
     have bS:(Q++[Ev.ok t (.slice A m c)]).length=gn+1:=by rw [List.length_append,List.length_singleton,cl]
     have cE:LAt W2 (fun q=>n+7≤q∧q<W2.heap.size∧(Value.slice (some ⟨g,0,none⟩) (gn+1) V).ownBlock≠some q) d t.kids (.slice A m c):=
      (bT.keep (fun q S=>aE q S.2 (by omega) (by omega) (fun e=>by have:=aM q e; omega))).mono (fun q S=>⟨by omega,by omega,cm q S.2 (fun e=>by have:=aM q e; omega)⟩)
     have cG:zV W2 (fun q=>n+7≤q∧q<W2.heap.size∧(Value.slice (some ⟨g,0,none⟩) (gn+1) V).ownBlock≠some q) d (qv Q) xs:=
      (aB.keep (fun q S=>aE q S.2.1 (by omega) (by omega) S.2.2)).mono (fun q S=>⟨S.1,by omega,cm q S.2.1 S.2.2⟩)
     have ch:=zV.one (t:=t) (by rw [bV]; exact bt) cE
     rw [bV]at ch
     have cp:=ch.append cG
     rw [← yO Q t (.slice A m c)]at cp
     refine ⟨?_,⟨aH,fun _=>aE _ (by omega) (by omega) (by omega) (fun e=>by have:=bb _ e; omega),fun _=>aE _ (by omega) (by omega) (by omega) (fun e=>by have:=bb _ e; omega),fun _=>aE _ (by omega) (by omega) (by omega) (fun e=>by have:=bb _ e; omega)⟩,
      ⟨⟨fun x G=>?_,by rw [bS]; exact b2⟩,by omega⟩,?_,?_,?_,_,_,q2,by rw [bS]; exact q4,cp⟩
     ·rw [c5]
      exact (show KeepsFrom (n+7) W W0 by rw [← ak]; exact (KeepsOthers.setCell W _ _).from _).trans M.2.2
     ·rcases List.mem_append.1 G with h | h
      ·exact Z.1 x h
      ·rw [List.mem_singleton.1 h]
       exact trivial
     ·exact ⟨aH.os.trans z.os,aH.tape.trans z.tape,aH.output.trans z.output,Nat.le_trans z.size aH.size,fun i hi J=>(aH.block i (by omega)).trans (z.block i hi J)⟩
     ·exact (M.2.1 (n+1) (by omega) (by omega) (fun e=>by have:=bb _ e; omega)).trans cA
     ·exact (M.2.1 (n+3) (by omega) (by omega) (fun e=>by have:=bb _ e; omega)).trans cB
  case done =>
   rintro D xs W hD ⟨hall,r,aK,bX,bY⟩ ⟨⟨⟨_,dH⟩,hz⟩,z,aJ,al,v,ys,au,ac,aB⟩ L
   subst aK
   obtain ⟨O,c2,rfl⟩:=xE ac
   have b1:Blk W.drew (n+1) #[.int .i64 0,.bool false,.bool false,.string ⟨#[]⟩,.int .i64 0,.int .u64 0,.int .i64 0,.string ⟨#[]⟩,.slice none 0 0] 28:=aJ
   clear ar bG aj bH bI bJ bK bL a6 a7
   go_wp2_with fail
   refine zah (R:=fun A B=>A.grownBy B (some (n+1))) (by kernel_rfl) (by kernel_rfl) (fun _=>jB _ _) (by kernel_rfl) (fun A=>Blk A (n+2) #[.int .i64 U,.bool false,.bool false,.string ⟨#[]⟩,.int .i64 0,.int .u64 0,.int .i64 0,.string ⟨#[]⟩,.slice O xs.length c2] 28∧Blk A (n+3) #[.nilIface] 48)
    [fun f _=>f 0=.agg #[.int .i64 U,.bool false,.bool false,.string ⟨#[]⟩,.int .i64 0,.int .u64 0,.int .i64 0,.string ⟨#[]⟩,.slice O xs.length c2],fun f _=>f 1=.nilIface,fun _ _=>True,fun f _=>f 3=.nilIface]
    (fun E _ A=>W.grownBy A (some (n+1))∧Blk A (n+1) (if E 2=true then #[.int .i64 U,.bool false,.bool false,.string ⟨#[]⟩,.int .i64 0,.int .u64 0,.int .i64 0,.string ⟨#[]⟩,.slice O xs.length c2] else #[.int .i64 0,.bool false,.bool false,.string ⟨#[]⟩,.int .i64 0,.int .u64 0,.int .i64 0,.string ⟨#[]⟩,.slice none 0 0]) 28) ?_ ?_ ?_ ?_ ?_ ?_
   case refine_1=>exact ⟨au,al⟩
   case refine_2=>exact fun _=>⟨vk W _ 1,b1⟩
   case refine_3=>exact fun A B M z=>⟨RdB.grown M.1 z (by omega),RdB.grown M.2 z (by omega)⟩
   case refine_4 =>
    intro i o f ay A B ho hk _ J _
    have e:∀ k,k=i→ay k=f k:=fun k h=>(hk k (.inl h)).symm
    unfold kS at J ⊢
    match i,ho,J,e with
    | 0,_,J,e=>exact (e 0 rfl).trans J
    | 1,_,J,e=>exact (e 1 rfl).trans J
    | 2,_,_,_=>trivial
    | 3,_,J,e=>exact (e 3 rfl).trans J
    | i+4,ho,_,_=>simp at ho
   case refine_5 =>
    refine zg (zw rfl rfl (by kernel_rfl) (by kernel_rfl) ?_) ?_
    ·intro E f W M hn G N I ρ H hc hf z K L
     have r6:ρ (.tmp 6)=.pointer (some ⟨n+2,0,none⟩):=by rw [H]; kernel_rfl
     clear H z
     exact jh 28 (.tmp 6) rfl (n+2) r6 28 _ (0,0) _ M.1 Tryz.underlying28 rfl (by kernel_rfl) (L _ _ (zi _ _ _) ⟨G.1,by rw [zr E (show (2:Nat)≠0 by decide)]; exact G.2⟩ (jB _ _))
    refine zg (zw rfl rfl (by kernel_rfl) (by kernel_rfl) ?_) ?_
    ·intro E f W M hn G N I ρ H hc hf z K L
     have r8:ρ (.tmp 8)=.pointer (some ⟨n+3,0,none⟩):=by rw [H]; kernel_rfl
     clear H z
     have q0:W.cell? ⟨n+3,0,none⟩=some (.nilIface):=M.2.cell 0
     simp [zd,go_sem,r8,q0]
     exact L _ _ (zi _ _ _) ⟨G.1,by rw [zr E (show (2:Nat)≠1 by decide)]; exact G.2⟩ (jB _ _)
    refine zg (kK rfl rfl (by kernel_rfl) rfl ?_) ?_
    ·intro E f W M hn G N I ρ H hc hf z K L
     have r4:ρ (.tmp 4)=.pointer (some ⟨n+1,0,none⟩):=by rw [H]; kernel_rfl
     have b7:=(show ρ (.tmp 33)=f 0 by rw [H]; kernel_rfl).trans (hn 0 (I 0 (by kernel_rfl)))
     clear H z
     have hb:=G.2
     rw [N,if_neg (by decide)]at hb
     exact qK 28 (.tmp 4) (.tmp 33) rfl (n+1) #[.int .i64 U,.bool false,.bool false,.string ⟨#[]⟩,.int .i64 0,.int .u64 0,.int .i64 0,.string ⟨#[]⟩,.slice O xs.length c2] r4 b7 28 _ hb (by kernel_rfl) rfl (by simp [Value.oneCell']) (L _ _ trivial ⟨zu G.1 (zx _ _ _),by rw [kN,if_pos rfl]; exact zB hb _⟩ (zx _ _ _))
    refine zg (zw rfl rfl (by kernel_rfl) (by kernel_rfl) ?_) xp
    ·intro E f W M hn G N I ρ H hc hf z K L
     have b8:=(show ρ (.tmp 34)=f 1 by rw [H]; kernel_rfl).trans (hn 1 (I 1 (by kernel_rfl)))
     clear H z
     simp [zd,go_sem,b8]
     exact L _ _ (zi _ _ _) ⟨G.1,by rw [zr E (show (2:Nat)≠3 by decide)]; exact G.2⟩ (jB _ _)
   case refine_6 =>
    intro f W2 M a8 G
    have e3:=a8 3 (by decide)
    have an:=G.1
    have bM:Blk W2 (n+1) #[.int .i64 U,.bool false,.bool false,.string ⟨#[]⟩,.int .i64 0,.int .u64 0,.int .i64 0,.string ⟨#[]⟩,.slice O xs.length c2] 28:=G.2
    have bu:=zaO hall
    have cD:LAt W (fun q=>n+7≤q∧q<W.heap.size) (d+1) (qv xs) (.slice O xs.length c2):=aB.list ac bu.symm (by omega) (fun q S=>⟨S.1,S.2.1⟩) (fun a e=>by
     subst e
     exact ac.lt a.block rfl)
    have aj:W2.heap[D]? = some (.deferred (some [])):=(an.block D (Array.getElem?_eq_some_iff.1 L).1 (fun e=>by cases e; omega)).trans L
    have am:=grownBy_putObj' W2 D (.deferred none)
    have aI:∀ r,some D=some r→∃ o:Obj,W2.heap[r]? = some o∧o.isCells=false:=fun r e=>by
     cases e
     exact ⟨_,aj,rfl⟩
    have cX:=((cD.keep (fun q S=>an.block q S.2 (fun e=>by cases e; omega))).keptC am aI).mono (S':=fun q=>w.heap.size≤q∧q<(W2.putObj D (.deferred none)).heap.size) (fun q S=>⟨by omega,Nat.lt_of_lt_of_le S.2 (Nat.le_trans an.size am.size)⟩)
    have bl:RdB (W2.putObj D (.deferred none)) p (bs r) dp:=kw (RdB.grown bX an (by omega)) am aI
    have bi:=kw bM am aI
    have bQ:w.grownBy (W2.putObj D (.deferred none)) (some p):=zbR (jE z an (by omega)) am (n:=n) (by omega) (fun r e=>by cases e; omega)
    refine (‹∀ (a:Act) (w:World),Code.wp _ Code.ret _ a w→_›) _ _ (wp_ret ?_)
    rw [Exit.noGoto_ret]
    refine leave1 aj (zo (T:=28) (b:=n+1) rfl (by kernel_rfl) ((show _=f 3 by kernel_rfl).trans e3) bi Tryz.underlying28 rfl (by kernel_rfl)) rfl ?_
    exact ⟨bQ,⟨O,xs.length,c2,rfl,cX⟩,zaz U 0 0 cL.out (by decide) (by decide),bl,bY⟩
  case stop =>
   rintro D c Q W hD cr ⟨rfl,z,aJ,⟨ys,o,v,e,bk,a9,al⟩,⟨O,m2,c2,au⟩,s',bX,bY⟩ L
   have aK:st=.bad e:=by
    rcases cr with ⟨zs,o',v',e',hz,Z,_⟩ | cZ
    ·rw [bk]at hz
     obtain ⟨_,hz⟩:=List.append_inj' hz rfl
     injection hz with hz _
     injection hz with _ _ hz
     rw [Z,hz]
    ·exact (cZ (.no o v e) (by rw [bk]; exact List.mem_append_right _ (List.mem_singleton.2 rfl))).elim
   subst aK
   obtain ⟨ev,az⟩:∃ ev,jD e=ev:=⟨_,rfl⟩
   have bA:=Lib.hid az
   rw [az]at al
   have b1:Blk W.drew (n+1) #[.int .i64 0,.bool false,.bool false,.string ⟨#[]⟩,.int .i64 0,.int .u64 0,.int .i64 0,.string ⟨#[]⟩,.slice none 0 0] 28:=aJ
   clear ar bG aj bH bI bJ bK bL a6 a7 cr bk az
   go_wp2_with fail
   refine zah (R:=fun A B=>A.grownBy B (some (n+1))) (by kernel_rfl) (by kernel_rfl) (fun _=>jB _ _) (by kernel_rfl) (fun A=>Blk A (n+2) #[.int .i64 U,.bool false,.bool false,.string ⟨#[]⟩,.int .i64 0,.int .u64 0,.int .i64 0,.string ⟨#[]⟩,.slice O m2 c2] 28∧Blk A (n+3) #[ev] 48)
    [fun f _=>f 0=.agg #[.int .i64 U,.bool false,.bool false,.string ⟨#[]⟩,.int .i64 0,.int .u64 0,.int .i64 0,.string ⟨#[]⟩,.slice O m2 c2],fun f _=>f 1=ev,fun _ _=>True,fun f _=>f 3=ev]
    (fun E _ A=>W.grownBy A (some (n+1))∧Blk A (n+1) (if E 2=true then #[.int .i64 U,.bool false,.bool false,.string ⟨#[]⟩,.int .i64 0,.int .u64 0,.int .i64 0,.string ⟨#[]⟩,.slice O m2 c2] else #[.int .i64 0,.bool false,.bool false,.string ⟨#[]⟩,.int .i64 0,.int .u64 0,.int .i64 0,.string ⟨#[]⟩,.slice none 0 0]) 28) ?_ ?_ ?_ ?_ ?_ ?_
   case refine_1=>exact ⟨au,al⟩
   case refine_2=>exact fun _=>⟨vk W _ 1,b1⟩
   case refine_3=>exact fun A B M z=>⟨RdB.grown M.1 z (by omega),RdB.grown M.2 z (by omega)⟩
   case refine_4 =>
    intro i o f ay A B ho hk _ J _
    have e:∀ k,k=i→ay k=f k:=fun k h=>(hk k (.inl h)).symm
    unfold kS at J ⊢
    match i,ho,J,e with
    | 0,_,J,e=>exact (e 0 rfl).trans J
    | 1,_,J,e=>exact (e 1 rfl).trans J
    | 2,_,_,_=>trivial
    | 3,_,J,e=>exact (e 3 rfl).trans J
    | i+4,ho,_,_=>simp at ho
   case refine_5 =>
    refine zg (zw rfl rfl (by kernel_rfl) (by kernel_rfl) ?_) ?_
    ·intro E f W M hn G N I ρ H hc hf z K L
     have r6:ρ (.tmp 6)=.pointer (some ⟨n+2,0,none⟩):=by rw [H]; kernel_rfl
     clear H z
     exact jh 28 (.tmp 6) rfl (n+2) r6 28 _ (0,0) _ M.1 Tryz.underlying28 rfl (by kernel_rfl) (L _ _ (zi _ _ _) ⟨G.1,by rw [zr E (show (2:Nat)≠0 by decide)]; exact G.2⟩ (jB _ _))
    refine zg (zw rfl rfl (by kernel_rfl) (by kernel_rfl) ?_) ?_
    ·intro E f W M hn G N I ρ H hc hf z K L
     have r8:ρ (.tmp 8)=.pointer (some ⟨n+3,0,none⟩):=by rw [H]; kernel_rfl
     clear H z
     have q0:W.cell? ⟨n+3,0,none⟩=some (ev):=M.2.cell 0
     simp [zd,go_sem,r8,q0]
     exact L _ _ (zi _ _ _) ⟨G.1,by rw [zr E (show (2:Nat)≠1 by decide)]; exact G.2⟩ (jB _ _)
    refine zg (kK rfl rfl (by kernel_rfl) rfl ?_) ?_
    ·intro E f W M hn G N I ρ H hc hf z K L
     have r4:ρ (.tmp 4)=.pointer (some ⟨n+1,0,none⟩):=by rw [H]; kernel_rfl
     have b7:=(show ρ (.tmp 33)=f 0 by rw [H]; kernel_rfl).trans (hn 0 (I 0 (by kernel_rfl)))
     clear H z
     have hb:=G.2
     rw [N,if_neg (by decide)]at hb
     exact qK 28 (.tmp 4) (.tmp 33) rfl (n+1) #[.int .i64 U,.bool false,.bool false,.string ⟨#[]⟩,.int .i64 0,.int .u64 0,.int .i64 0,.string ⟨#[]⟩,.slice O m2 c2] r4 b7 28 _ hb (by kernel_rfl) rfl (by simp [Value.oneCell']) (L _ _ trivial ⟨zu G.1 (zx _ _ _),by rw [kN,if_pos rfl]; exact zB hb _⟩ (zx _ _ _))
    refine zg (zw rfl rfl (by kernel_rfl) (by kernel_rfl) ?_) xp
    ·intro E f W M hn G N I ρ H hc hf z K L
     have b8:=(show ρ (.tmp 34)=f 1 by rw [H]; kernel_rfl).trans (hn 1 (I 1 (by kernel_rfl)))
     clear H z
     simp [zd,go_sem,b8]
     exact L _ _ (zi _ _ _) ⟨G.1,by rw [zr E (show (2:Nat)≠3 by decide)]; exact G.2⟩ (jB _ _)
   case refine_6 =>
    intro f W2 M a8 G
    have e3:=a8 3 (by decide)
    have an:=G.1
    have bM:Blk W2 (n+1) #[.int .i64 U,.bool false,.bool false,.string ⟨#[]⟩,.int .i64 0,.int .u64 0,.int .i64 0,.string ⟨#[]⟩,.slice O m2 c2] 28:=G.2
    have aj:W2.heap[D]? = some (.deferred (some [])):=(an.block D (Array.getElem?_eq_some_iff.1 L).1 (fun e=>by cases e; omega)).trans L
    have am:=grownBy_putObj' W2 D (.deferred none)
    have aI:∀ r,some D=some r→∃ o:Obj,W2.heap[r]? = some o∧o.isCells=false:=fun r e=>by
     cases e
     exact ⟨_,aj,rfl⟩
    have bl:RdB (W2.putObj D (.deferred none)) p s' dp:=kw (RdB.grown bX an (by omega)) am aI
    have bi:=kw bM am aI
    have bQ:w.grownBy (W2.putObj D (.deferred none)) (some p):=zbR (jE z an (by omega)) am (n:=n) (by omega) (fun r e=>by cases e; omega)
    refine (‹∀ (a:Act) (w:World),Code.wp _ Code.ret _ a w→_›) _ _ (wp_ret ?_)
    rw [Exit.noGoto_ret]
    refine leave1 aj (zo (T:=28) (b:=n+1) rfl (by kernel_rfl) ((show _=f 3 by kernel_rfl).trans e3) bi Tryz.underlying28 rfl (by kernel_rfl)) rfl ?_
    exact ⟨bQ,⟨{ zv with kind:=U },O,m2,c2,by rw [bA.out]; rfl⟩,a9,s',bl,bY⟩
end Go.Proofs.YtonihophanmaaaaGreatDoor
