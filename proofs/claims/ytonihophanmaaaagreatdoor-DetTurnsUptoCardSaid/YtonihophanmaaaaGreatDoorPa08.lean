/- The texts Range, DsF, DsJ, DsA, DtF, put together. -/
import Derived.Test.YtonihophanmaaaaGreatDoorPa01
import Derived.Test.YtonihophanmaaaaGreatDoorPa03
import Derived.Test.YtonihophanmaaaaGreatDoorPa07
import Derived.Test.YtonihophanmaaaaGreatDoorPa05
namespace Go.Proofs.YtonihophanmaaaaGreatDoor
open Go.RowKit Go.Shelf
def SeqW {α:Type} (P:Program) (g:Nat) (lb:Array Value) (encs:α→Array Value) (Mv Kp:World→World→Prop) (Ct:α→Prop) (T:List α→World→Prop) (S Sp:List α→World→Prop) (A0:World→Prop):Prop:=
 ∀ (l:Nat) (J Jx:List α→World→Prop) (W:World),A0 W→(∀ s A B,J s A→Mv A B→J s B)→(∀ s A B,Jx s A→Mv A B→Jx s B) →
  (∀ pre x W1,J pre W1→T (pre++[x]) W1→YieldAt Fence.wide 7 P l (encs x) W1 fun e W' =>
   (e=.returned (.bool true)∧Ct x∧J (pre++[x]) W'∧Kp W1 W')∨(e=.returned (.bool false)∧Jx (pre++[x]) W')) →
  J [] W →
  CallsIn Fence.wide 8 P g (#[.func (.yield l) #[] #[]]++lb) W fun e W'=>(∃ v,e=.returned v)∧((∃ xs,S xs W'∧J xs W')∨(∃ pre,Sp pre W'∧Jx pre W'))
theorem wp_rangeFuncW {P:Program} {α:Type} {g:Operand} {ps:Array Tmp} {assign body:Code} {Q:Exit→Act→World→Prop} {a:Act} {w:World}
  {gf:Nat} {lb:Array Value} (hg:a.eval g=.func (.func gf) #[] lb) (eg:∀ args w,(callFunc gf args).run P w=.ok (.enter gf args) w)
  {encs:α→Array Value} {Mv Kp:World→World→Prop} {Ct:α→Prop} {T S Sp:List α→World→Prop} {A0:World→Prop} (hseq:SeqW P gf lb encs Mv Kp Ct T S Sp A0)
  (hMv:∀ (A B:World) (k:Nat) (o:Obj),Mv A B→w.heap.size≤k→A.heap[k]? = some o→o.isCells=false→B.heap[k]? = some o)
  (hA0:∀ o o',A0 ((w.alloc o).alloc o'))
  (hKt:∀ {A B C:World},Kp A B→Kp B C→Kp A C) (hKb:∀ (W:World) (l:Nat) (o o':Obj),w.heap.size≤l→W.heap[l]? = some o→o.isCells=false→Kp W (W.putObj l o')) (hps:∀ x,(encs x).size=ps.size)
  (I:List α→World→Prop) (Ix:Code→List α→World→Prop) (hI:OwnFrom w.heap.size I) (hIx:∀ c,OwnFrom w.heap.size (Ix c))
  (hIM:∀ s A B,I s A→Mv A B→I s B) (hIxM:∀ c s A B,Ix c s A→Mv A B→Ix c s B) (h0:I [] w) (hCt:∀ pre x W,I (pre++[x]) W→Ct x)
  (Ax:Array Value→List α→α→Act→World→Prop) (hAx:∀ pre x a',OwnFrom w.heap.size (fun (_:Unit) W=>Ax a.tmps pre x a' W))
  (hassign:∀ (l:Nat) (pre:List α) (x:α) (W:World) (K:Act→World→Prop),I pre W→T (pre++[x]) W→(∀ a' W',KeepsFrom w.heap.size W W'→Kp W W'→I pre W'→Ax a.tmps pre x a' W'→K a' W') →
   assign.wpIn (Fence.wide.inRound l) 7 P (Exit.then K (fun _ _ _=>False)) { tmps:=(ps.zip (encs x)).foldl (fun t (p,v)=>t.setIfInBounds p v) a.tmps,defers:=[] } W)
  (hbody:∀ (l:Nat) (pre:List α) (x:α) (a':Act) (W:World),w.heap.size≤l→(∃ r,W.heap[l]? = some (.loop r))→I pre W→Ax a.tmps pre x a' W→body.wpIn (Fence.wide.inRound l) 7 P (ownPostG w.heap.size Kp I Ix (pre++[x]) W) a' W)
  (hS:OwnFrom w.heap.size S) (hSp:OwnFrom w.heap.size Sp)
  (hdone:∀ (D:Nat) (xs:List α) (W:World),w.heap.size≤D→S xs W→I xs W→W.heap[D]? = some (.deferred (some []))→Q .normal { a with defers:={ target:=.collected D,args:=#[] }::a.defers } W)
  (hstop:∀ (D:Nat) (c:Code) (pre:List α) (W:World),w.heap.size≤D→Sp pre W→Ix c pre W→W.heap[D]? = some (.deferred (some []))→c.wp P Q { a with defers:={ target:=.collected D,args:=#[] }::a.defers } W) :
  (Code.rangeFunc g ps assign body).wp P Q a w:=by
 refine (wpIn_wide (n:=9)).1 ?_
 refine wpIn_rangeFunc ?_
 intro fn hfn
 rw [show Fence.wide.round=none from rfl]
 obtain ⟨rec,hrec⟩:∃ rec:LoopState→Option Code→Loop,rec=fun st pe=>{ state:=st,pending:=pe,fn,tmps:=a.tmps,params:=ps,assign,body,defers:=w.heap.size }:=⟨_,rfl⟩
 obtain ⟨W1,hW1⟩:∃ W1,(w.alloc (.deferred (some []))).alloc (.loop (rec .ready none))=W1:=⟨_,rfl⟩
 have hL1:W1.heap[w.heap.size+1]? = some (.loop (rec .ready none)):=by
  have h:=World.alloc_heap_new (w.alloc (.deferred (some []))) (.loop (rec .ready none))
  rw [World.size_alloc]at h
  rw [← hW1]
  exact h
 have hK1:W1.heap[w.heap.size]? = some (.deferred (some [])):=by
  rw [← hW1]
  exact (Below.heap_alloc _ _ _ (by simp)).trans (World.alloc_heap_new w _)
 have hI1:I [] W1:=by rw [← hW1]; exact hI.alloc _ (hI.alloc _ h0)
 have hA1:A0 W1:=by rw [← hW1]; exact hA0 _ _
 refine ⟨w.heap.size+1,[{ target:=.collected w.heap.size,args:=#[] }],W1,{ target:=.fn (.func gf) lb,args:=#[.func (.yield (w.heap.size+1)) #[] #[]] },W1,gf,
  #[.func (.yield (w.heap.size+1)) #[] #[]]++lb,W1,?_,?_,?_,?_,fun _=>by omega,?_⟩
 ·rw [← hW1,hrec]
  exact run_enterLoop_outer _ _ _ _ _
 ·simp only [resolve,hg]
  simp [go_sem]
 ·intro f' _
  exact trivial
 ·simp [invoke,go_sem,eg]
 ·refine (hseq (w.heap.size+1)
   (fun pre W=>I pre W∧W.heap[w.heap.size+1]? = some (.loop (rec .ready none))∧W.heap[w.heap.size]? = some (.deferred (some [])))
   (fun pre W=>∃ c,Ix c pre W∧W.heap[w.heap.size+1]? = some (.loop (rec .done (some c)))∧W.heap[w.heap.size]? = some (.deferred (some [])))
   W1 hA1
   (fun s A B hs hm=>⟨hIM s A B hs.1 hm,hMv A B _ _ hm (by omega) hs.2.1 rfl,hMv A B _ _ hm (by omega) hs.2.2 rfl⟩)
   (fun s A B hs hm=>by
    obtain ⟨c,hc,hl,hk⟩:=hs
    exact ⟨c,hIxM c s A B hc hm,hMv A B _ _ hm (by omega) hl rfl,hMv A B _ _ hm (by omega) hk rfl⟩)
   ?_ ⟨hI1,hL1,hK1⟩).mono ?_
  ·rintro pre x W ⟨hi,hl,hk⟩ hT
   have hy:=run_yield (P:=P) (args:=encs x) hl (by rw [hrec]; exact hps x)
   rw [hrec]at hy
   refine ⟨fn,_,assign,body,hy,roundIn_of_wpIn hfn (hassign _ pre x W _ hi hT ?_)⟩
   intro a' Wa hkfa hkpa hia hax
   have hla:=hkfa.same _ _ (by omega) hl rfl
   have hka:=hkfa.same _ _ (Nat.le_refl _) hk rfl
   have hlt:w.heap.size+1<Wa.heap.size:=(Array.getElem?_eq_some_iff.1 hla).1
   refine ⟨_,run_beginRound hla (by rw [hrec]),?_⟩
   have hl2:(Wa.putObj (w.heap.size+1) (.loop { rec .ready none with state:=.busy })).heap[w.heap.size+1]? = some (.loop { rec .ready none with state:=.busy }):=World.putObj_heap_same hlt
   have hk2:(Wa.putObj (w.heap.size+1) (.loop { rec .ready none with state:=.busy })).heap[w.heap.size]? = some (.deferred (some [])):=(World.putObj_heap_other (by omega)).trans hka
   have hw2:Kp Wa (Wa.putObj (w.heap.size+1) (.loop { rec .ready none with state:=.busy })):=hKb _ _ _ _ (by omega) hla rfl
   refine wpIn_mono (hbody _ pre x a' _ (by omega) ⟨_,hl2⟩ (hI.putObj _ hia (by omega) hla rfl) ((hAx pre x a').putObj (s:=()) _ hax (by omega) hla rfl)) ?_
   have fin:∀ (jump:Option Code) (W3:World),KeepsFrom w.heap.size (Wa.putObj (w.heap.size+1) (.loop { rec .ready none with state:=.busy })) W3 →
     (Instr.endRound (w.heap.size+1) jump).run P W3=.ok (.bool jump.isNone) (W3.putObj (w.heap.size+1) (.loop (rec (if jump.isNone then .ready else .done) jump))) ∧
     W3.heap[w.heap.size+1]? = some (.loop { rec .ready none with state:=.busy }) ∧
     (W3.putObj (w.heap.size+1) (.loop (rec (if jump.isNone then .ready else .done) jump))).heap[w.heap.size+1]? = some (.loop (rec (if jump.isNone then .ready else .done) jump)) ∧
     (W3.putObj (w.heap.size+1) (.loop (rec (if jump.isNone then .ready else .done) jump))).heap[w.heap.size]? = some (.deferred (some [])):=fun jump W3 hk3=>by
    have hl3:=hk3.same _ _ (by omega) hl2 rfl
    have hr:=run_endRound (P:=P) jump hl3
    rw [hrec]at hr ⊢
    exact ⟨hr,by rw [hrec]at hl3; exact hl3,World.putObj_heap_same (Array.getElem?_eq_some_iff.1 hl3).1,(World.putObj_heap_other (by omega)).trans (hk3.same _ _ (Nat.le_refl _) hk2 rfl)⟩
   rintro e a3 W3 hp
   cases e with
   | normal =>
    obtain ⟨hk3,hkp3,hi3⟩:=hp
    obtain ⟨hr,hl3,hl4,hk4⟩:=fin none W3 hk3
    exact ⟨_,_,hr,.inl ⟨rfl,hCt _ _ _ hi3,⟨hI.putObj _ hi3 (by omega) hl3 rfl,hl4,hk4⟩,hKt hkpa (hKt (hKt hw2 hkp3) (hKb _ _ _ _ (by omega) hl3 rfl))⟩⟩
   | ret =>
    obtain ⟨hk3,hi3⟩:=hp
    obtain ⟨hr,hl3,hl4,hk4⟩:=fin (some .ret) W3 hk3
    exact ⟨_,_,hr,.inr ⟨rfl,.ret,(hIx _).putObj _ hi3 (by omega) hl3 rfl,hl4,hk4⟩⟩
   | exit id =>
    obtain ⟨hk3,hi3⟩:=hp
    obtain ⟨hr,hl3,hl4,hk4⟩:=fin (some (.exit id)) W3 hk3
    exact ⟨_,_,hr,.inr ⟨rfl,.exit id,(hIx _).putObj _ hi3 (by omega) hl3 rfl,hl4,hk4⟩⟩
   | goto t =>
    obtain ⟨hk3,hi3⟩:=hp
    obtain ⟨hr,hl3,hl4,hk4⟩:=fin (some (.goto t)) W3 hk3
    exact ⟨_,_,hr,.inr ⟨rfl,.goto t,(hIx _).putObj _ hi3 (by omega) hl3 rfl,hl4,hk4⟩⟩
   | panic ch=>exact hp.elim
   | outgrown=>exact hp.elim
  ·rintro e W2 ⟨⟨v,rfl⟩,(⟨xs,hs,hi,hl,hk⟩ | ⟨pre,hs,c,hi,hl,hk⟩)⟩
   ·exact ⟨none,_,by have h:=run_endLoop (P:=P) hl (by rw [hrec]; simp); rw [hrec]at h; exact h,hdone _ xs _ (Nat.le_refl _) (hS.putObj _ hs (by omega) hl rfl) (hI.putObj _ hi (by omega) hl rfl) ((World.putObj_heap_other (by omega)).trans hk)⟩
   ·exact ⟨some c,_,by have h:=run_endLoop (P:=P) hl (by rw [hrec]; simp); rw [hrec]at h; exact h,wpIn_wide.2 (hstop _ c pre _ (Nat.le_refl _) (hSp.putObj _ hs (by omega) hl rfl) ((hIx c).putObj _ hi (by omega) hl rfl) ((World.putObj_heap_other (by omega)).trans hk))⟩
end Go.Proofs.YtonihophanmaaaaGreatDoor
namespace Go.Proofs.YtonihophanmaaaaGreatDoor
open Go.RowKit Go.Shelf
attribute [local go_sem] Oper.semAt_some wide_fn wide_depth
theorem det_chunks (A:Option Addr) (n c:Nat) (w:World) :
  Calls Tryz.prog 93 #[.slice A n c,.int .i64 2] w fun e w'=>e=.returned (.func (.func 134) #[] #[.pointer (some ⟨w.heap.size,0,none⟩),.pointer (some ⟨w.heap.size+1,0,none⟩)])∧(w.alloc (.cells #[.slice A n c] 26)).alloc (.cells #[.int .i64 2] 3)=w':=by
 go_enter Tryz.func93,Tryz.ntmps93
 go_wp2
 go_ret
 exact ⟨by simp,rfl⟩
def partA (A:Option Addr) (j:Nat):Option Addr:=A.map fun a=>a.add (j*18)
def cEnc (A:Option Addr) (j:Nat):Array Value:=#[.slice (partA A j) 2 2]
def KpD (n b bz:Nat) (A B:World):Prop:=Below n A B∧(b<A.heap.size→B.heap[b]? = A.heap[b]?)∧(bz<A.heap.size→B.heap[bz]? = A.heap[bz]?)
theorem kpD_trans {n b bz:Nat} {A B C:World} (h1:KpD n b bz A B) (h2:KpD n b bz B C):KpD n b bz A C:=
 ⟨h1.1.trans h2.1,fun h=>(h2.2.1 (Nat.lt_of_lt_of_le h h1.1.size)).trans (h1.2.1 h),fun h=>(h2.2.2 (Nat.lt_of_lt_of_le h h1.1.size)).trans (h1.2.2 h)⟩
theorem kpD_put {n b bz m:Nat} (W:World) (l:Nat) (o o':Obj) (hn:n≤m) (hb:b<m) (hbz:bz<m) (hl:m≤l) (ho:W.heap[l]? = some o):KpD n b bz W (W.putObj l o'):=by
 have hlt:=(Array.getElem?_eq_some_iff.1 ho).1
 exact ⟨(Below.refl _ W).grown (grownBy_putObj' W l o') (by omega) (fun k e=>by cases e; omega),fun _=>World.putObj_heap_other (by omega),fun _=>World.putObj_heap_other (by omega)⟩
def leftC (W:World) (b:Nat):Nat:=match W.cell? ⟨b,0,none⟩ with
 | some (.slice _ n _)=>n
 | _=>0
theorem leftC_of {W:World} {b n c:Nat} {A:Option Addr} {t:TypeId} (h:Blk W b #[.slice A n c] t):leftC W b=n:=by
 unfold leftC
 rw [h.cell 0]
 rfl
def RestC (W:World) (b n c j:Nat) (A:Option Addr):Prop:=∃ A',Blk W b #[.slice A' (n - 2*j) (c - 2*j)] 26∧(2*j<c→A'=partA A j)
set_option maxHeartbeats 4000000 in
set_option maxRecDepth 100000 in
theorem chunks_seq (n0 b bz n c:Nat) (A:Option Addr) (hbz:b≠bz) (hnc:n≤c) (hA:0<n→∃ a,A=some a) (hn:n≤1000000000000) :
  SeqW Tryz.prog 134 #[.pointer (some ⟨b,0,none⟩),.pointer (some ⟨bz,0,none⟩)] (cEnc A) (fun A B=>A.grownBy B (some b)) (KpD n0 b bz) (fun _=>True) (fun xs _=>xs=List.range xs.length∧xs.length≤n / 2)
   (fun xs _=>xs=List.range (n / 2)) (fun _ _=>True) (fun W=>Blk W b #[.slice A n c] 26∧Blk W bz #[.int .i64 2] 3):=by
 intro l J Jx W hA0 hJ hJx hY h0
 obtain ⟨hk0,hz0⟩:=hA0
 refine callsIn_of_wp Tryz.func134 rfl trivial ?_ rfl
 simp only [Tryz.ntmps134,List.size_toArray,List.length_cons,List.length_nil,Nat.reduceAdd,Nat.reduceSub,Array.replicate_succ,Array.replicate_zero,List.push_toArray,List.append_toArray,List.nil_append,List.cons_append]
 have HY:=Lib.hid hY
 have HJ:=Lib.hid hJ
 clear hY hJ hJx
 gi_wp2
 gi_loopw [] (fun wr=>∃ j:Nat,j≤n / 2∧J (List.range j) wr∧RestC wr b n c j A∧Blk wr bz #[.int .i64 2] 3) (fun wr=>leftC wr b)
 case atStart=>exact ⟨0,Nat.zero_le _,h0,⟨A,hk0,fun _=>by unfold partA; cases A <;> simp [Addr.add]⟩,hz0⟩
 case round =>
  obtain ⟨j,hj,hJ1,⟨A',hk,hAj⟩,hz⟩:=hrel
  have c0:=hk.cell 0
  have z0:=hz.cell 0
  have f0:=hk.frozen 0
  have hms:=leftC_of hk
  by_cases he:n - 2*j<2
  ·have hend:j=n / 2:=by omega
   subst hend
   have y1:¬ (2:Int)≤((n - 2*(n / 2):Nat):Int):=by omega
   gi_wp2_with fail
   go_end0
   exact ⟨⟨_,rfl⟩,.inl hJ1⟩
  ·obtain ⟨a,rfl⟩:=hA (by omega)
   have hA':=hAj (by omega)
   subst hA'
   obtain ⟨m,hm⟩:∃ m,n - 2*j=m:=⟨_,rfl⟩
   obtain ⟨cc,hcc⟩:∃ cc,c - 2*j=cc:=⟨_,rfl⟩
   rw [hm]at c0 hk hms he
   rw [hcc]at c0 hk
   have hj1:j+1≤n / 2:=by omega
   have y1:(2:Int)≤(m:Int):=by omega
   have y2:(m:Int)≤(cc:Int):=by omega
   have y3:(2:Int)≤(cc:Int):=by omega
   obtain ⟨fn,tmps,assign,body,hy,hR⟩:=HY.out (List.range j) j wr hJ1 ⟨by rw [List.length_append,List.length_range,List.length_singleton,List.range_succ],by rw [List.length_append,List.length_range]; exact hj1⟩
   rw [← List.range_succ]at hR
   unfold cEnc partA at hy
   unfold partA at c0 hk
   simp only [Option.map_some]at hy c0 hk
   have HM:=Lib.hid hm
   have HC:=Lib.hid hcc
   clear hm hcc hJ1 h0 hk0 hz0 hj hms hAj
   gi_wp2_with fail
   refine hR.mono ?_
   rintro e W3 (⟨rfl,_,hJ3,hk3⟩ | ⟨rfl,hJx3⟩)
   ·have hkW:Blk W3 b _ _:=(hk3.2.1 hk.lt).trans hk
    have hzW:Blk W3 bz _ _:=(hk3.2.2 hz.lt).trans hz
    have c3:=hkW.cell 0
    have z3:=hzW.cell 0
    have f3:=hkW.frozen 0
    clear hk3 hz c0 z0 f0
    gi_wp2_with fail
    go_roundw
    case rel =>
     refine ⟨j+1,hj1,HJ.out _ _ _ hJ3 (grown_setT W3 b 0 _),⟨(if cc=2 then some (a.add (j*18)) else some ⟨(a.add (j*18)).block,(a.add (j*18)).off+18,none⟩),?_,fun h=>?_⟩,hzW.other (Ne.symm hbz) 0 _⟩
     ·rw [show n - 2*(j+1)=m - 2 from by have:=HM.out; omega,show c - 2*(j+1)=cc - 2 from by have:=HC.out; omega]
      exact hkW.set 0 _
     ·rw [if_neg (by have:=HC.out; omega)]
      unfold partA
      rw [Option.map_some,show (j+1)*18=j*18+(17+1) from by omega,add_field]
    case measure =>
     rw [leftC_of (hkW.set 0 _),leftC_of hk]
     omega
   ·gi_wp2_with fail
    refine bodyPost_ret (results_none rfl _ _ _) rfl ?_
    exact ⟨⟨_,rfl⟩,.inr ⟨_,trivial,hJx3⟩⟩
end Go.Proofs.YtonihophanmaaaaGreatDoor
namespace Go.Proofs.YtonihophanmaaaaGreatDoor
open Go.RowKit Go.Shelf
def PairsAt (W:World) (T:Nat→Prop) (d:Nat) (ps:List PairG):Prop:=∀ p∈ps,(LAt W T d p.k.kids (.slice p.kA p.kn p.kc)∧OwnOk p.k.own)∧LAt W T d p.v.kids (.slice p.hA p.hn p.hc)∧OwnOk p.v.own
theorem PairsAt.keep {W W':World} {T:Nat→Prop} {d:Nat} {ps:List PairG} (h:PairsAt W T d ps) (hk:∀ r,T r→W'.heap[r]? = W.heap[r]?):PairsAt W' T d ps:=fun p hp=>⟨⟨(h p hp).1.1.keep hk,(h p hp).1.2⟩,(h p hp).2.1.keep hk,(h p hp).2.2⟩
theorem PairsAt.mono {W:World} {T T':Nat→Prop} {d:Nat} {ps:List PairG} (h:PairsAt W T d ps) (hk:∀ r,T r→T' r):PairsAt W T' d ps:=fun p hp=>⟨⟨(h p hp).1.1.mono hk,(h p hp).1.2⟩,(h p hp).2.1.mono hk,(h p hp).2.2⟩
theorem PairsAt.keptC {W W':World} {T:Nat→Prop} {d:Nat} {ps:List PairG} {row:Option Nat} (h:PairsAt W T d ps) (hg:W.grownBy W' row) (hr:∀ r,row=some r→∃ o:Obj,W.heap[r]? = some o∧o.isCells=false):PairsAt W' T d ps:=fun p hp=>⟨⟨(h p hp).1.1.keptC hg hr,(h p hp).1.2⟩,(h p hp).2.1.keptC hg hr,(h p hp).2.2⟩
theorem PairsAt.snoc {W:World} {T:Nat→Prop} {d:Nat} {ps:List PairG} {p:PairG} (h:PairsAt W T d ps) (hp:(LAt W T d p.k.kids (.slice p.kA p.kn p.kc)∧OwnOk p.k.own)∧LAt W T d p.v.kids (.slice p.hA p.hn p.hc)∧OwnOk p.v.own):PairsAt W T d (ps++[p]):=fun x hx=>by
 rcases List.mem_append.1 hx with hx | hx
 ·exact h x hx
 ·rw [List.mem_singleton.1 hx]; exact hp
def SrtI (N:Nat) (S:Nat→Prop) (d:Nat) (q:List (Tr×Tr)) (w:World) (pre:List Nat) (W:World):Prop:=
 (∃ v ps,(Blk W N #[v] 117∧W.ownsRow (N+3) 124 19 v pre.length (ps.flatMap encG))∧PairsAt W (fun r=>(S r∨N+3≤r)∧r<W.heap.size∧v.ownBlock≠some r) d ps∧ps.map PairG.key=q.take pre.length∧ps.length=pre.length)∧Below N w W
def SrtX (_:Code) (_:List Nat) (_:World):Prop:=False
def SrtA (A:Option Addr) (n:Nat) (T:Array Value) (pre:List Nat) (x:Nat) (a':Act) (_:World):Prop:=
 (x=pre.length∧pre.length<n / 2)∧a'={ tmps:=(T.setIfInBounds 12 (.slice (partA A x) 2 2)).setIfInBounds 4 (.slice (partA A x) 2 2),defers:=[] }
theorem srtI_own (N:Nat) (S:Nat→Prop) (d:Nat) (q:List (Tr×Tr)) (w:World) {m:Nat} (hm:N≤m) (hw:N≤w.heap.size):OwnFrom m (SrtI N S d q w):=by
 rintro s X Y row ⟨⟨v,ps,⟨h1,h2⟩,h3,h4⟩,h5⟩ hg hr
 have hr2:=fun r e=>(hr r e).2
 refine ⟨⟨v,ps,⟨blkC h1 hg hr2,row_keptC h2 hg hr2⟩,(h3.keptC hg hr2).mono (fun r h=>⟨h.1,Nat.lt_of_lt_of_le h.2.1 hg.size,h.2.2⟩),h4⟩,?_⟩
 exact ownFrom_below (β:=Unit) hw hm () X Y row h5 hg hr
theorem srtI_move {N:Nat} {S:Nat→Prop} {d:Nat} {q:List (Tr×Tr)} {w X Y:World} {pre:List Nat} (hS:∀ r,S r→r<N) (hw:w.heap.size=N) (h:SrtI N S d q w pre X) (hg:X.grownBy Y (some (N+1))):SrtI N S d q w pre Y:=by
 obtain ⟨⟨v,ps,⟨h1,h2⟩,h3,h4⟩,h5⟩:=h
 have hv:v.ownBlock≠some (N+1):=fun e=>by
  have:=(h2.lt _ e).1
  omega
 refine ⟨⟨v,ps,⟨h1.kept hg (by simp),h2.kept hg (.inr hv)⟩,(h3.keep (fun r hr=>hg.block r hr.2.1 (fun e=>?_))).mono (fun r h=>⟨h.1,Nat.lt_of_lt_of_le h.2.1 hg.size,h.2.2⟩),h4⟩,h5.grown hg (by have:=h5.size; omega) (fun q e=>by cases e; omega)⟩
 have e:=Option.some.inj e
 rcases hr.1 with h | h
 ·have:=hS r h
  omega
 ·omega
theorem srt_next {N d j g cap:Nat} {S:Nat→Prop} {q:List (Tr×Tr)} {w W W6 W7 W8:World} {pre:List Nat} {x:Nat} {v:Value} {ps:List PairG} {p:PairG} (hS:∀ r,S r→r<N) (hN:N+3≤W.heap.size) (hb:Below N w W) (hw:w.heap.size=N)
  (hv:Blk W N #[v] 117) (hown:W.ownsRow (N+3) 124 19 v j (ps.flatMap encG)) (hps:PairsAt W (fun r=>(S r∨N+3≤r)∧r<W.heap.size∧v.ownBlock≠some r) d ps)
  (h6:Below W.heap.size W W6) (h7:Below W6.heap.size W6 W7) (hown8:W8.ownsRow (N+3) 124 19 (.slice (some ⟨g,0,none⟩) (j+1) cap) (j+1) (ps.flatMap encG++encG p)) (hg8:W7.grownBy W8 v.ownBlock) (hat:v.ownBlock=some g∨g=W7.heap.size)
  (hk:LAt W S d p.k.kids (.slice p.kA p.kn p.kc)) (hko:OwnOk p.k.own) (hval:LAt W7 (fun r=>(S r∨W6.heap.size≤r)∧r<W7.heap.size) d p.v.kids (.slice p.hA p.hn p.hc)) (hvo:OwnOk p.v.own)
  (hkey:ps.map PairG.key++[p.key]=q.take (j+1)) (hl:(pre++[x]).length=j+1) (hpl:ps.length=j) :
  KeepsFrom (N+3) W (W8.setCell ⟨N,0,none⟩ (.slice (some ⟨g,0,none⟩) (j+1) cap))∧KpD N (N+1) (N+2) W (W8.setCell ⟨N,0,none⟩ (.slice (some ⟨g,0,none⟩) (j+1) cap))∧SrtI N S d q w (pre++[x]) (W8.setCell ⟨N,0,none⟩ (.slice (some ⟨g,0,none⟩) (j+1) cap)):=by
 have hz6:=h6.size
 have hz7:=h7.size
 have hz8:=hg8.size
 have hvb:∀ r,v.ownBlock=some r→N+3≤r∧r<W.heap.size:=fun r e=>hown.lt r e
 have hgg:N+3≤g:=(hown8.lt g rfl).1
 have hgl:g<W8.heap.size:=(hown8.lt g rfl).2
 have hvN:∀ k,k<N+3→v.ownBlock≠some k:=fun k hk e=>by
  have:=(hvb k e).1
  omega
 have e7:∀ k,k<W.heap.size→W7.heap[k]? = W.heap[k]? := fun k hk=>(h7.block k (by omega)).trans (h6.block k hk)
 have hN8:Blk W8 N #[v] 117:=(hg8.block N (by omega) (fun e=>hvN N (by omega) e.symm)).trans ((e7 N (by omega)).trans hv)
 obtain ⟨r,hr⟩:∃ r,Value.slice (some (⟨g,0,none⟩:Addr)) (j+1) cap=r:=⟨_,rfl⟩
 obtain ⟨W9,hW9⟩:∃ W9,W8.setCell ⟨N,0,none⟩ r=W9:=⟨_,rfl⟩
 have hz9:W9.heap.size=W8.heap.size:=by rw [← hW9]; simp [World.setCell]
 have e9:∀ k,k≠N→W9.heap[k]? = W8.heap[k]? := fun k hk=>by rw [← hW9]; exact Below.heap_setCell W8 ⟨N,0,none⟩ _ k hk
 have h9g:W8.grownBy W9 (some N):=by rw [← hW9]; exact grown_setT W8 N 0 r
 have hN9:Blk W9 N #[r] 117:=by rw [← hW9]; exact hN8.set 0 r
 have hown9:W9.ownsRow (N+3) 124 19 r (j+1) (ps.flatMap encG++encG p):=by
  rw [← hr]
  exact hown8.kept h9g (.inr (fun e=>by
   have e:=Option.some.inj e
   simp only at e
   omega))
 have e97:∀ k,k<W7.heap.size→v.ownBlock≠some k→k≠N→W9.heap[k]? = W7.heap[k]? := fun k hk hne hkN=>(e9 k hkN).trans (hg8.block k hk (fun e=>hne e.symm))
 rw [hr,hW9]
 have hrb:r.ownBlock=some g:=by rw [← hr]; rfl
 refine ⟨⟨by omega,fun k o hk ho hc=>?_⟩,⟨⟨?_,?_,?_,by omega,fun k hk=>?_⟩,fun _=>?_,fun _=>?_⟩,⟨⟨r,ps++[p],⟨hN9,?_⟩,?_,?_,?_⟩,?_⟩⟩
 ·have hlt:=(Array.getElem?_eq_some_iff.1 ho).1
  refine ((e97 k (by omega) (fun e=>?_) (by omega)).trans (e7 k hlt)).trans ho
  obtain ⟨o',ho',hc'⟩:=row_cells hown e
  rw [ho]at ho'
  cases ho'
  rw [hc]at hc'
  cases hc'
 ·exact h9g.os.trans (hg8.os.trans (h7.os.trans h6.os))
 ·exact h9g.tape.trans (hg8.tape.trans (h7.tape.trans h6.tape))
 ·exact h9g.output.trans (hg8.output.trans (h7.output.trans h6.output))
 ·exact (e97 k (by omega) (hvN k (by omega)) (by omega)).trans (e7 k (by omega))
 ·exact (e97 _ (by omega) (hvN _ (by omega)) (by omega)).trans (e7 _ (by omega))
 ·exact (e97 _ (by omega) (hvN _ (by omega)) (by omega)).trans (e7 _ (by omega))
 ·rw [hl,List.flatMap_append,List.flatMap_cons,List.flatMap_nil,List.append_nil]
  exact hown9
 ·refine PairsAt.snoc ((hps.keep (fun r hr=>(e97 r (by omega) hr.2.2 (fun e=>?_)).trans (e7 r hr.2.1))).mono (fun r hr=>⟨hr.1,by omega,?_⟩)) ⟨⟨(hk.keep (fun r hr=>?_)).mono (fun r hr=>⟨.inl hr,?_,?_⟩),hko⟩,(hval.keep (fun r hr=>?_)).mono (fun r hr=>⟨?_,?_,?_⟩),hvo⟩
  ·rcases hr.1 with h | h
   ·have:=hS r h
    omega
   ·omega
  ·rw [hrb]
   intro e
   have e:=Option.some.inj e
   rcases hat with h | h
   ·exact hr.2.2 (h.trans (by rw [e]))
   ·omega
  ·have:=hS r hr
   exact (e97 r (by omega) (hvN r (by omega)) (by omega)).trans (e7 r (by omega))
  ·refine e97 r hr.2 (fun e=>?_) ?_
   ·have:=hvb r e
    rcases hr.1 with h | h
    ·have:=hS r h
     omega
    ·omega
   ·rcases hr.1 with h | h
    ·have:=hS r h
     omega
    ·omega
  ·have:=hS r hr
   omega
  ·rw [hrb]
   intro e
   have e:=Option.some.inj e
   have:=hS r hr
   omega
  ·exact hr.1.imp id (fun h=>by omega)
  ·have:=hr.2
   omega
  ·rw [hrb]
   intro e
   have e:=Option.some.inj e
   rcases hr.1 with h | h
   ·have:=hS r h
    omega
   ·rcases hat with h2 | h2
    ·have:=hvb g h2
     omega
    ·have:=hr.2
     omega
 ·rw [List.map_append,hl]
  exact hkey
 ·rw [hl,List.length_append,hpl]
  rfl
 ·refine ⟨h9g.os.trans (hg8.os.trans (h7.os.trans (h6.os.trans hb.os))),h9g.tape.trans (hg8.tape.trans (h7.tape.trans (h6.tape.trans hb.tape))),h9g.output.trans (hg8.output.trans (h7.output.trans (h6.output.trans hb.output))),by have:=hb.size; omega,fun k hk=>?_⟩
  exact ((e97 k (by omega) (hvN k (by omega)) (by omega)).trans (e7 k (by omega))).trans (hb.block k hk)
def isOkE (e:Int):Bool:=decide (e=0)
theorem det_isOK1 (e:Int) (w:World) :
  Calls Tryz.prog 49 #[.int .i64 e] w fun x w'=>x=.returned (.bool (!isOkE e))∧Below w.heap.size w w':=by
 unfold isOkE
 by_cases h:e=0
 ·subst h
  go_enter Tryz.func49,Tryz.ntmps49
  go_wp2_with fail
  go_ret
  exact ⟨rfl,Below.refl _ _⟩
 ·have h1:(e == 0)=false:=by rw [beq_eq_false_iff_ne]; exact h
  rw [decide_eq_false h]
  go_enter Tryz.func49,Tryz.ntmps49
  go_wp2_with fail
  go_ret
  exact ⟨by simp [h],Below.refl _ _⟩
set_option maxHeartbeats 2000000 in
set_option maxRecDepth 100000 in
theorem det_index (A:Option Addr) (n c:Nat) (es:List Int) (B:Nat) (w:World) (hn:n≤9223372036854775807) (hp:Lies w B 1 A n (es.map fun e=>.int .i64 e)) (hB:B≤w.heap.size) :
  Calls Tryz.prog 73 #[.slice A n c,.func (.func 49) #[] #[]] w fun e w'=>(∃ k:Int,e=.returned (.int .i64 k)∧decide (0≤k) = !(es.all isOkE))∧Below w.heap.size w w':=by
 have hlen:es.length=n:=by
  have:=hp.1
  simpa using this
 have HP:=Lib.hid hp
 clear hp
 go_enter Tryz.func73,Tryz.ntmps73
 go_wp2_with fail
 go_loopw [8] (fun i wr=>∃ k:Nat,k≤n∧i=.int .i64 k∧(es.take k).all isOkE=true∧Below w.heap.size w wr) (fun i _=>n - (intOf i).toNat)
 case atStart=>exact ⟨0,by omega,rfl,rfl,Below.refl _ _⟩
 case round =>
  obtain ⟨k,hk,rfl,hall,hbw⟩:=hrel
  by_cases hlt:k<n
  ·have hkp:k<es.length:=by omega
   obtain ⟨ad,rfl,hab,hc⟩:=(HP.out.below hbw hB).at_ hlt
   have hc0:=hc 0 (by omega)
   have htk:(es.take (k+1)).all isOkE=isOkE es[k]:=by
    rw [List.take_succ_eq_append_getElem hkp,List.all_append,hall]
    simp
   have HTK:=Lib.hid htk
   obtain ⟨e,hs⟩:∃ s,es[k]=s:=⟨_,rfl⟩
   rw [List.getElem?_map,Nat.mul_one,Nat.add_zero,List.getElem?_eq_getElem hkp,hs]at hc0
   rw [hs]at HTK
   have HS:=Lib.hid hs
   have HV:=Lib.hid (det_isOK1 e wr)
   have hltz:(k:Int)<n:=by omega
   simp only [Option.map_some]at hc0
   clear hs htk hall hlen hc
   go_wp2_with fail
   with_reducible refine HV.out.mono ?_
   rintro x w1 ⟨rfl,hb⟩
   have hb3:=hbw.trans (hb.mono hbw.size)
   clear hb HV hc0
   cases hs:isOkE e with
   | true =>
    rw [hs]at HTK
    clear hs
    simp only [Bool.not_true]
    go_wp2_with fail
    go_roundw
    case rel=>exact ⟨k+1,by omega,by go_num,HTK.out,hb3⟩
    case measure=>simp [intOf]; omega
   | false =>
    have hf:es.all isOkE=false:=by
     rw [Bool.eq_false_iff]
     intro ha
     have:=List.all_eq_true.1 ha es[k] (List.getElem_mem hkp)
     rw [HS.out,hs]at this
     cases this
    have HF:=Lib.hid hf
    clear hs hf
    simp only [Bool.not_false]
    go_wp2_with fail
    go_ret
    exact ⟨⟨k,rfl,by rw [HF.out]; simp⟩,hb3⟩
  ·obtain rfl:k=n:=by omega
   have hall':es.all isOkE=true:=by
    rw [← hlen,List.take_length]at hall
    exact hall
   have HF:=Lib.hid hall'
   have hz:¬ (k:Int)<k:=by omega
   clear hall hall' hlen
   go_wp2_with fail
   go_ret
   exact ⟨⟨-1,rfl,by rw [HF.out]; rfl⟩,hbw⟩
set_option maxRecDepth 100000 in
theorem det_contains (A:Option Addr) (n c:Nat) (es:List Int) (B:Nat) (w:World) (hn:n≤9223372036854775807) (hp:Lies w B 1 A n (es.map fun e=>.int .i64 e)) (hB:B≤w.heap.size) :
  Calls Tryz.prog 48 #[.slice A n c,.func (.func 49) #[] #[]] w fun e w'=>e=.returned (.bool (!es.all isOkE))∧Below w.heap.size w w':=by
 have HI:=Lib.hid (det_index A n c es B w hn hp hB)
 clear hp
 cases hb:es.all isOkE with
 | true =>
  rw [hb]at HI
  clear hb
  go_enter Tryz.func48,Tryz.ntmps48
  go_wp2_with fail
  refine HI.out.mono ?_
  rintro e w1 ⟨⟨k,rfl,hk⟩,hb⟩
  simp only [Bool.not_true]at hk
  clear HI
  go_wp2_with fail
  go_ret
  exact ⟨rfl,hb⟩
 | false =>
  rw [hb]at HI
  clear hb
  go_enter Tryz.func48,Tryz.ntmps48
  go_wp2_with fail
  refine HI.out.mono ?_
  rintro e w1 ⟨⟨k,rfl,hk⟩,hb⟩
  simp only [Bool.not_false]at hk
  clear HI
  go_wp2_with fail
  go_ret
  exact ⟨rfl,hb⟩
set_option maxRecDepth 100000 in
theorem det_isOK (A:Option Addr) (n c:Nat) (es:List Int) (B:Nat) (w:World) (hn:n≤9223372036854775807) (hp:Lies w B 1 A n (es.map fun e=>.int .i64 e)) (hB:B≤w.heap.size) :
  Calls Tryz.prog 33 #[.slice A n c] w fun e w'=>e=.returned (.bool (es.all isOkE))∧Below w.heap.size w w':=by
 have HI:=Lib.hid (det_contains A n c es B w hn hp hB)
 clear hp
 generalize es.all isOkE=b at HI
 go_enter Tryz.func33,Tryz.ntmps33
 go_wp2_with fail
 refine HI.out.mono ?_
 rintro e w1 ⟨rfl,hb⟩
 clear HI
 go_wp2_with fail
 go_ret
 exact ⟨by simp,hb⟩
end Go.Proofs.YtonihophanmaaaaGreatDoor
namespace Go.Proofs.YtonihophanmaaaaGreatDoor
open Go.RowKit Go.Shelf
abbrev nulT:Tr:=.nd { zeroO with kind:=1 } []
abbrev mpO:Own:={ zeroO with kind:=8 }
abbrev key1T (a:Tr):Tr:=.nd mpO [a,nulT]
theorem nul_facts:allB nulT=true∧fitT 2 flC nulT=true∧nulT.count=1∧nulT.depth=1:=by
 refine ⟨?_,by decide +kernel,by decide +kernel,by decide +kernel⟩
 rw [allB,allL]
 simp [ownB,onlyB]
theorem ownB_mp (l:List Tr):ownB mpO l=(decide (l.length % 2=0) && keysB l):=by
 simp [ownB,onlyB]
theorem fitO_mp (l:List Tr):fitO 2 flC mpO l=keysFit 2 l:=by
 simp [fitO]
theorem check_zero {f:Int} {fl:Own→Bool} {t:Tr}:checkT f fl t=0↔t.count≤300∧t.depth≤16∧allB t=true∧fitT f fl t=true:=by
 unfold checkT
 constructor
 ·intro h
  split at h
  ·rename_i hr
   split at h
   ·rename_i hf
    unfold rightT at hr
    rw [Bool.and_eq_true,Bool.and_eq_true,decide_eq_true_iff,decide_eq_true_iff]at hr
    exact ⟨hr.1,hr.2.1,hr.2.2,hf⟩
   ·cases h
  ·cases h
 ·rintro ⟨h1,h2,h3,h4⟩
  have hr:rightT t=true:=by
   unfold rightT
   rw [decide_eq_true h1,decide_eq_true h2,h3]
   rfl
  rw [if_pos hr,if_pos h4]
theorem key1_check (a:Tr):checkT 2 flC (key1T a)=0↔allB a=true∧fitT 2 flC a=true∧keyO 2 a.own=true:=by
 obtain ⟨n1,n2,n3,n4⟩:=nul_facts
 rw [check_zero]
 have hk:keysB [a,nulT]=true:=by
  rw [keysB_iff]
  intro i k hi hk h1 h2
  simp only [List.length_cons,List.length_nil]at hi
  omega
 have ha:allB (key1T a)=allB a:=by
  rw [allB,ownB_mp,hk,allL,allL,allL,n1]
  simp
 have hf:fitT 2 flC (key1T a)=(keyO 2 a.own && fitT 2 flC a):=by
  rw [fitT,fitO_mp,keysFit,keysFit,fitL,fitL,fitL,n2]
  simp
 rw [ha,hf,Bool.and_eq_true]
 constructor
 ·rintro ⟨_,_,h3,h4,h5⟩
  exact ⟨h3,h5,h4⟩
 ·rintro ⟨h3,h5,h4⟩
  refine ⟨?_,?_,h3,h4,h5⟩
  ·cases a with
   | nd o l =>
    obtain ⟨e,_⟩:=keyO_leaf h4 (own_of_all h3).1
    subst e
    rw [Tr.count,countL,countL,countL,n3,Tr.count,countL]
    decide
  ·cases a with
   | nd o l =>
    obtain ⟨e,_⟩:=keyO_leaf h4 (own_of_all h3).1
    subst e
    rw [Tr.depth,depthL,depthL,depthL,n4,Tr.depth,depthL]
    decide
section
variable (it:Tr→List UInt8)
noncomputable def lessT (a b:Tr):Bool:=decide (checkT 2 flC (key1T a)=0) && (decide (checkT 2 flC (key1T b)=0) && decide (it a<it b))
variable {it}
theorem less_iff {a b:Tr}:lessT it a b=true↔checkT 2 flC (key1T a)=0∧checkT 2 flC (key1T b)=0∧it a<it b:=by
 unfold lessT
 rw [Bool.and_eq_true,Bool.and_eq_true,decide_eq_true_iff,decide_eq_true_iff,decide_eq_true_iff]
end
end Go.Proofs.YtonihophanmaaaaGreatDoor
