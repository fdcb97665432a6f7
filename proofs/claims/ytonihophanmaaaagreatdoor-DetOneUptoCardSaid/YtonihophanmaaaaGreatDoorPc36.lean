/- The texts CrLc, RangeA, CrM, CrN, put together. -/
import Derived.Test.YtonihophanmaaaaGreatDoorPc35
import Derived.Test.YtonihophanmaaaaGreatDoorPc08
set_option maxHeartbeats 8000000
set_option maxRecDepth 100000
namespace Go.Proofs.YtonihophanmaaaaGreatDoor
open Go.RowKit Go.Shelf
def zma (_:UInt8):Prop:=True
def zhT (_:Nat):Prop:=True
def OkS (s:ByteArray):Prop:=∀ b∈s.data.toList,zma b
theorem zbV (s:ByteArray):OkS s:=fun _ _=>trivial
theorem znt:OkS ⟨#[162,97,98,246,97,97,246]⟩:=zbV _
theorem zlc {s:ByteArray} {h:Nat×Nat×Nat} {r:List UInt8} (_:OkS s) (_:jT s.data.toList=.good h r):zhT h.1:=trivial
theorem OkS.rest {s:ByteArray} {r own:List UInt8} (h:OkS s) (e:s.data.toList=own++r):OkS (bs r):=fun b a=>h b (by rw [e]; exact List.mem_append.2 (.inr a))
def wm (w0:World) (F d:Nat):Prop:=∀ (p:Nat) (s:ByteArray) (w:World),Below w0.heap.size w0 w→w0.heap.size≤p→RdB w p s (16 - d)→s.size≤1000000000→s.size<F→OkS s →
 Calls Tryz.prog 68 #[.pointer (some ⟨p,0,none⟩)] w (jc p (16 - d) d w s (zE F d s.data.toList))
def zhW {α:Type} (P:Program) (g:Nat) (lb:Array Value) (encs:α→Array Value) (Mv Kp:World→World→Prop) (Ct:α→Prop) (T:List α→World→World→Prop) (S Sp:List α→World→Prop) (A0:World→Prop):Prop:=
 ∀ (l:Nat) (J Jx:List α→World→Prop) (W:World),A0 W→(∀ s A B,J s A→Mv A B→J s B)→(∀ s A B,Jx s A→Mv A B→Jx s B) →
  (∀ pre x A W1,J pre A→Mv A W1→J pre W1→T (pre++[x]) A W1→YieldAt Fence.wide 7 P l (encs x) W1 fun e W' =>
   (e=.returned (.bool true)∧Ct x∧J (pre++[x]) W'∧Kp W1 W')∨(e=.returned (.bool false)∧Jx (pre++[x]) W')) →
  J [] W →
  CallsIn Fence.wide 8 P g (#[.func (.yield l) #[] #[]]++lb) W fun e W'=>(∃ v,e=.returned v)∧((∃ xs,S xs W'∧J xs W')∨(∃ pre,Sp pre W'∧Jx pre W'))
theorem zeY {P:Program} {α:Type} {g:Operand} {ps:Array Tmp} {assign body:Code} {Q:Exit→Act→World→Prop} {a:Act} {w:World}
  {gf:Nat} {lb:Array Value} (hg:a.eval g=.func (.func gf) #[] lb) (eg:∀ args w,(callFunc gf args).run P w=.ok (.enter gf args) w)
  {encs:α→Array Value} {Z Kp:World→World→Prop} {Ct:α→Prop} {T:List α→World→World→Prop} {S Sp:List α→World→Prop} {A0:World→Prop} (ar:zhW P gf lb encs Z Kp Ct T S Sp A0)
  (R:∀ (A B:World) (k:Nat) (o:Obj),Z A B→w.heap.size≤k→A.heap[k]? = some o→o.isCells=false→B.heap[k]? = some o)
  (aw:∀ o o',A0 ((w.alloc o).alloc o'))
  (ac:∀ {A B C:World},Kp A B→Kp B C→Kp A C) (ak:∀ (W:World) (l:Nat) (o o':Obj),w.heap.size≤l→W.heap[l]? = some o→o.isCells=false→Kp W (W.putObj l o')) (aN:∀ x,(encs x).size=ps.size)
  (I:List α→World→Prop) (U:Code→List α→World→Prop) (hI:OwnFrom w.heap.size I) (O:∀ c,OwnFrom w.heap.size (U c))
  (aB:∀ s A B,I s A→Z A B→I s B) (ao:∀ c s A B,U c s A→Z A B→U c s B) (h0:I [] w) (az:∀ b x W,I (b++[x]) W→Ct x)
  (Ax:Array Value→List α→α→Act→World→Prop) (ay:∀ b x E,OwnFrom w.heap.size (fun (_:Unit) W=>Ax a.tmps b x E W))
  (X:∀ (l:Nat) (b:List α) (x:α) (A W:World) (K:Act→World→Prop),I b A→Z A W→I b W→T (b++[x]) A W→(∀ E W',KeepsFrom w.heap.size W W'→Kp W W'→I b W'→Ax a.tmps b x E W'→K E W') →
   assign.wpIn (Fence.wide.inRound l) 7 P (Exit.then K (fun _ _ _=>False)) { tmps:=(ps.zip (encs x)).foldl (fun t (p,v)=>t.setIfInBounds p v) a.tmps,defers:=[] } W)
  (af:∀ (l:Nat) (b:List α) (x:α) (E:Act) (W:World),w.heap.size≤l→(∃ r,W.heap[l]? = some (.loop r))→I b W→Ax a.tmps b x E W→body.wpIn (Fence.wide.inRound l) 7 P (ownPostG w.heap.size Kp I U (b++[x]) W) E W)
  (hS:OwnFrom w.heap.size S) (aE:OwnFrom w.heap.size Sp)
  (ag:∀ (D:Nat) (xs:List α) (W:World),w.heap.size≤D→S xs W→I xs W→W.heap[D]? = some (.deferred (some []))→Q .normal { a with defers:={ target:=.collected D,args:=#[] }::a.defers } W)
  (ah:∀ (D:Nat) (c:Code) (b:List α) (W:World),w.heap.size≤D→Sp b W→U c b W→W.heap[D]? = some (.deferred (some []))→c.wp P Q { a with defers:={ target:=.collected D,args:=#[] }::a.defers } W) :
  (Code.rangeFunc g ps assign body).wp P Q a w:=by
 refine (wpIn_wide (n:=9)).1 ?_
 refine wpIn_rangeFunc ?_
 intro fn aG
 rw [show Fence.wide.round=none from rfl]
 obtain ⟨rec,f⟩:∃ rec:LoopState→Option Code→Loop,rec=fun st pe=>{ state:=st,pending:=pe,fn,tmps:=a.tmps,params:=ps,assign,body,defers:=w.heap.size }:=⟨_,rfl⟩
 obtain ⟨W1,H⟩:∃ W1,(w.alloc (.deferred (some []))).alloc (.loop (rec .ready none))=W1:=⟨_,rfl⟩
 have aD:W1.heap[w.heap.size+1]? = some (.loop (rec .ready none)):=by
  have h:=World.alloc_heap_new (w.alloc (.deferred (some []))) (.loop (rec .ready none))
  rw [World.size_alloc]at h
  rw [← H]
  exact h
 have aC:W1.heap[w.heap.size]? = some (.deferred (some [])):=by
  rw [← H]
  exact (Below.heap_alloc _ _ _ (by simp)).trans (World.alloc_heap_new w _)
 have aA:I [] W1:=by rw [← H]; exact hI.alloc _ (hI.alloc _ h0)
 have ax:A0 W1:=by rw [← H]; exact aw _ _
 refine ⟨w.heap.size+1,[{ target:=.collected w.heap.size,args:=#[] }],W1,{ target:=.fn (.func gf) lb,args:=#[.func (.yield (w.heap.size+1)) #[] #[]] },W1,gf,
  #[.func (.yield (w.heap.size+1)) #[] #[]]++lb,W1,?_,?_,?_,?_,fun _=>by omega,?_⟩
 ·rw [← H,f]
  exact run_enterLoop_outer _ _ _ _ _
 ·simp only [resolve,hg]
  simp [go_sem]
 ·intro f' _
  exact trivial
 ·simp [invoke,go_sem,eg]
 ·refine (ar (w.heap.size+1)
   (fun b W=>I b W∧W.heap[w.heap.size+1]? = some (.loop (rec .ready none))∧W.heap[w.heap.size]? = some (.deferred (some [])))
   (fun b W=>∃ c,U c b W∧W.heap[w.heap.size+1]? = some (.loop (rec .done (some c)))∧W.heap[w.heap.size]? = some (.deferred (some [])))
   W1 ax
   (fun s A B G M=>⟨aB s A B G.1 M,R A B _ _ M (by omega) G.2.1 rfl,R A B _ _ M (by omega) G.2.2 rfl⟩)
   (fun s A B G M=>by
    obtain ⟨c,hc,u,L⟩:=G
    exact ⟨c,ao c s A B hc M,R A B _ _ M (by omega) u rfl,R A B _ _ M (by omega) L rfl⟩)
   ?_ ⟨aA,aD,aC⟩).mono ?_
  ·rintro b x A W ⟨aH,_,_⟩ aM ⟨hi,u,L⟩ hT
   have hy:=run_yield (P:=P) (args:=encs x) u (by rw [f]; exact aN x)
   rw [f]at hy
   refine ⟨fn,_,assign,body,hy,roundIn_of_wpIn aG (X _ b x A W _ aH aM hi hT ?_)⟩
   intro E V ae aq aI aF
   have J:=ae.same _ _ (by omega) u rfl
   have aK:=ae.same _ _ (Nat.le_refl _) L rfl
   have aL:w.heap.size+1<V.heap.size:=(Array.getElem?_eq_some_iff.1 J).1
   refine ⟨_,run_beginRound J (by rw [f]),?_⟩
   have al:(V.putObj (w.heap.size+1) (.loop { rec .ready none with state:=.busy })).heap[w.heap.size+1]? = some (.loop { rec .ready none with state:=.busy }):=World.putObj_heap_same aL
   have aJ:(V.putObj (w.heap.size+1) (.loop { rec .ready none with state:=.busy })).heap[w.heap.size]? = some (.deferred (some [])):=(World.putObj_heap_other (by omega)).trans aK
   have aO:Kp V (V.putObj (w.heap.size+1) (.loop { rec .ready none with state:=.busy })):=ak _ _ _ _ (by omega) J rfl
   refine wpIn_mono (af _ b x E _ (by omega) ⟨_,al⟩ (hI.putObj _ aI (by omega) J rfl) ((ay b x E).putObj (s:=()) _ aF (by omega) J rfl)) ?_
   have N:∀ (d:Option Code) (q:World),KeepsFrom w.heap.size (V.putObj (w.heap.size+1) (.loop { rec .ready none with state:=.busy })) q →
     (Instr.endRound (w.heap.size+1) d).run P q=.ok (.bool d.isNone) (q.putObj (w.heap.size+1) (.loop (rec (if d.isNone then .ready else .done) d))) ∧
     q.heap[w.heap.size+1]? = some (.loop { rec .ready none with state:=.busy }) ∧
     (q.putObj (w.heap.size+1) (.loop (rec (if d.isNone then .ready else .done) d))).heap[w.heap.size+1]? = some (.loop (rec (if d.isNone then .ready else .done) d)) ∧
     (q.putObj (w.heap.size+1) (.loop (rec (if d.isNone then .ready else .done) d))).heap[w.heap.size]? = some (.deferred (some [])):=fun d q j=>by
    have i:=j.same _ _ (by omega) al rfl
    have F:=run_endRound (P:=P) d i
    rw [f]at F ⊢
    exact ⟨F,by rw [f]at i; exact i,World.putObj_heap_same (Array.getElem?_eq_some_iff.1 i).1,(World.putObj_heap_other (by omega)).trans (j.same _ _ (Nat.le_refl _) aJ rfl)⟩
   rintro e a3 q Y
   cases e with
   | normal =>
    obtain ⟨j,ap,m⟩:=Y
    obtain ⟨F,i,z,y⟩:=N none q j
    exact ⟨_,_,F,.inl ⟨rfl,az _ _ _ m,⟨hI.putObj _ m (by omega) i rfl,z,y⟩,ac aq (ac (ac aO ap) (ak _ _ _ _ (by omega) i rfl))⟩⟩
   | ret =>
    obtain ⟨j,m⟩:=Y
    obtain ⟨F,i,z,y⟩:=N (some .ret) q j
    exact ⟨_,_,F,.inr ⟨rfl,.ret,(O _).putObj _ m (by omega) i rfl,z,y⟩⟩
   | exit id =>
    obtain ⟨j,m⟩:=Y
    obtain ⟨F,i,z,y⟩:=N (some (.exit id)) q j
    exact ⟨_,_,F,.inr ⟨rfl,.exit id,(O _).putObj _ m (by omega) i rfl,z,y⟩⟩
   | goto t =>
    obtain ⟨j,m⟩:=Y
    obtain ⟨F,i,z,y⟩:=N (some (.goto t)) q j
    exact ⟨_,_,F,.inr ⟨rfl,.goto t,(O _).putObj _ m (by omega) i rfl,z,y⟩⟩
   | panic ch=>exact Y.elim
   | outgrown=>exact Y.elim
  ·rintro e W2 ⟨⟨v,rfl⟩,(⟨xs,G,hi,u,L⟩ | ⟨b,G,c,hi,u,L⟩)⟩
   ·exact ⟨none,_,by have h:=run_endLoop (P:=P) u (by rw [f]; simp); rw [f]at h; exact h,ag _ xs _ (Nat.le_refl _) (hS.putObj _ G (by omega) u rfl) (hI.putObj _ hi (by omega) u rfl) ((World.putObj_heap_other (by omega)).trans L)⟩
   ·exact ⟨some c,_,by have h:=run_endLoop (P:=P) u (by rw [f]; simp); rw [f]at h; exact h,wpIn_wide.2 (ah _ c b _ (Nat.le_refl _) (aE.putObj _ G (by omega) u rfl) ((O c).putObj _ hi (by omega) u rfl) ((World.putObj_heap_other (by omega)).trans L))⟩
inductive Ev where
 | ok (t:Tr) (v:Value)
 | no (o:Own) (v:Value) (e:Int)
def Ev.enc:Ev→Array Value
 | .ok t v=>#[ze t.own v,.nilIface]
 | .no o v e=>#[ze o v,jD e]
def Ev.tree:Ev→List Tr
 | .ok t _=>[t]
 | .no _ _ _=>[]
def Ev.isOk:Ev→Prop
 | .ok _ _=>True
 | .no _ _ _=>False
def qv (l:List Ev):List Tr:=l.flatMap Ev.tree
theorem yO (l:List Ev) (t:Tr) (v:Value):qv (l++[.ok t v])=qv l++[t]:=by
 unfold qv
 rw [List.flatMap_append]
 rfl
theorem zaO:∀ {l:List Ev},(∀ x∈l,x.isOk)→(qv l).length=l.length
 | [],_=>rfl
 | .ok t v::l,h=>by
  have:=zaO (l:=l) (fun x a=>h x (by simp [a]))
  unfold qv at this ⊢
  rw [List.flatMap_cons,List.length_append,this,List.length_cons]
  show 1+_=_
  omega
 | .no o v e::l,h=>(h (.no o v e) (by simp)).elim
theorem yr {F d:Nat} {l r:List UInt8} {t:Tr} (h:zE F d l=.good t r):r.length+1≤l.length:=by
 obtain ⟨own,e,g,_⟩:=ww F d l t r h
 have:=zdY (wD F d) g
 rw [e,List.length_append]
 omega
theorem zeB (p:Psr Tr):∀ (a b:Nat) (c:List Tr) (l:List UInt8),jr p (a+b) c l=zS (jr p a c) (fun x=>jr p b x) l
 | 0,b,c,l=>by
  rw [Nat.zero_add]
  rfl
 | a+1,b,c,l=>by
  rw [show a+1+b=(a+b)+1 by omega]
  show zS p _ l=zS (zS p _) _ l
  unfold zS
  cases h:p l with
  | bad e=>simp only
  | good t r =>
   simp only
   exact zeB p a b _ r
def zaF (p:Psr Tr) (m:Nat) (k:List Tr→Psr (List Tr)) (acc:List Tr):Psr (List Tr):=zS (jr p m acc) k
theorem zgi {p:Psr Tr} {m:Nat} {k:List Tr→Psr (List Tr)} {a:List Tr} {l:List UInt8} {e:Int} (h:p l=.bad e):zaF p (m+1) k a l=.bad e:=by
 unfold zaF
 have:jr p (m+1) a l=.bad e:=xi h
 exact xi this
theorem zer {p:Psr Tr} {m:Nat} {k:List Tr→Psr (List Tr)} {a:List Tr} {l r:List UInt8} {t:Tr} (h:p l=.good t r):zaF p (m+1) k a l=zaF p m k (a++[t]) r:=by
 unfold zaF
 have:jr p (m+1) a l=jr p m (a++[t]) r:=qL h
 unfold zS
 rw [this]
def wI (p dp n d sz:Nat) (pre:List Ev) (W:World):Prop:=pre.length≤sz+1∧∀ xs x,pre=xs++[x]→match x with
 | .ok t v=>(∃ A m c,v=.slice A m c)∧LAt W (fun q=>n≤q∧q<W.heap.size) d t.kids v∧zt t.own∧xs.length+1≤sz
 | .no _ v e=>(∃ A m c,v=.slice A m c)∧e≠0∧∃ s',RdB W p s' dp∧s'.size≤sz
def za2 (p dp sz:Nat) (res:PR (List Tr)) (xs:List Ev) (W:World):Prop:=(∀ x∈xs,x.isOk)∧∃ r,res=.good (qv xs) r∧RdB W p (bs r) dp∧(bs r).size≤sz
def yT (res:PR (List Tr)) (pre:List Ev) (_:World):Prop:=(∃ xs o v e,pre=xs++[.no o v e]∧res=.bad e∧e≠0)∨(∀ x∈pre,x.isOk)
def zdB (n bS bP bZ:Nat) (A B:World):Prop:=Below n A B∧(bS<A.heap.size→B.heap[bS]? = A.heap[bS]?)∧(bP<A.heap.size→B.heap[bP]? = A.heap[bP]?)∧(bZ<A.heap.size→B.heap[bZ]? = A.heap[bZ]?)
def RdX (p dp sz:Nat) (W:World):Prop:=∃ s',RdB W p s' dp∧s'.size≤sz
def MvR (p dp sz:Nat) (A B:World):Prop:=A.grownBy B (some p)∧(RdX p dp sz A→RdX p dp sz B)
theorem zaw {p b sz:Nat} {A B:World} (h:Below A.heap.size A B):MvR p b sz A B:=⟨below_grown h _,fun ⟨d,a,c⟩=>⟨d,a.below h a.lt,c⟩⟩
theorem wB {p b sz:Nat} {A B:World} {a:ByteArray} (h:A.grownBy B (some p)) (c:RdB B p a b) (d:a.size≤sz):MvR p b sz A B:=⟨h,fun _=>⟨a,c,d⟩⟩
theorem zk6 {a:ByteArray} {sz:Nat} (h:a.size≤sz):(if a.data.toList.head? = some 255 then bs (a.data.toList.drop 1) else a).size≤sz:=by
 split
 ·rw [jR,List.length_drop]
  have:a.data.toList.length=a.size:=by simp
  omega
 ·exact h
structure zfd (w0:World) (p dp bS bP bZ size:Nat) (h:Nat×Nat×Nat) (s:ByteArray) (W:World):Prop where
 base:Below w0.heap.size w0 W
 rd:RdB W p s dp
 cS:Blk W bS #[.int .i64 h.1,.int .i64 h.2.1,.int .u64 h.2.2] 137
 cP:Blk W bP #[.pointer (some ⟨p,0,none⟩)] 84
 cZ:Blk W bZ #[.int .i64 size] 3
end Go.Proofs.YtonihophanmaaaaGreatDoor
namespace Go.Proofs.YtonihophanmaaaaGreatDoor
open Go.RowKit Go.Shelf
attribute [local go_sem] Oper.semAt_some qi jA
theorem zir {w0:World} (F d p n nk bS Z bZ size hm ha:Nat) (D:ByteArray) (hI:wm w0 F d) (ap:w0.heap.size≤p) (bj:p<nk) (hS:bS≠p) (hP:Z≠p) (hZ:bZ≠p) (b1:size=1∨size=2) (hs:D.size≤1000000000) (hF:D.size<F) (bR:OkS D) :
  zhW Tryz.prog 242 #[.pointer (some ⟨bS,0,none⟩),.pointer (some ⟨Z,0,none⟩),.pointer (some ⟨bZ,0,none⟩)] Ev.enc (MvR p (16 - d) D.size) (zdB nk bS Z bZ) Ev.isOk (fun u A W=>wI p (16 - d) A.heap.size d D.size u W)
   (za2 p (16 - d) D.size (xc (zE F d) size F [] D.data.toList)) (yT (xc (zE F d) size F [] D.data.toList)) (fun W=>zfd w0 p (16 - d) bS Z bZ size (hm,31,ha) D W∧n≤W.heap.size):=by
 intro l J Jx W hA hJ a1 hY h0
 obtain ⟨⟨a5,aO,a3,a2,a4⟩,bg⟩:=hA
 obtain ⟨res,ak⟩:∃ res,xc (zE F d) size F [] D.data.toList=res:=⟨_,rfl⟩
 rw [ak]
 obtain ⟨dp,a8⟩:∃ dp,16 - d=dp:=⟨_,rfl⟩
 have a0:=Lib.hid (fun s W (hb:Below w0.heap.size w0 W) (hR:RdB W p s (16 - d)) (h1:s.size≤1000000000) (h2:s.size<F) (h3:OkS s)=>hI p s W hb ap hR h1 h2 h3)
 rw [a8]at aO a0 hY hJ a1 ⊢
 refine callsIn_of_wp Tryz.func242 rfl trivial ?_ rfl
 simp only [Tryz.ntmps242,List.size_toArray,List.length_cons,List.length_nil,Nat.reduceAdd,Nat.reduceSub,Array.replicate_succ,Array.replicate_zero,List.push_toArray,List.append_toArray,List.nil_append,List.cons_append]
 have HY:=Lib.hid hY
 have HJ:=Lib.hid hJ
 have ax:=Lib.hid ak
 have HO:=Lib.hid (fun w=>xW hm 31 ha w)
 have HO:Hid (∀ w:World,Calls Tryz.prog 106 #[.agg #[.int .i64 hm,.int .i64 31,.int .u64 ha]] w fun x U=>x=.returned (.bool true)∧Below w.heap.size w U):=HO
 clear hY hJ a1 hI ak a8
 gi_wp2
 gi_loopw [5] (fun z wr=>∃ (u:List Ev) (B:ByteArray) (f:Nat),(∃ z0:Nat,z0<18446744073709551616∧z=.int .u64 z0)∧B.size+u.length≤D.size∧B.size<f∧Hid (xc (zE F d) size f (qv u) B.data.toList=res)∧(∀ x∈u,x.isOk)∧OkS B∧J u wr∧Below w0.heap.size w0 wr∧RdB wr p B dp∧Blk wr bS #[.int .i64 hm,.int .i64 31,.int .u64 ha] 137∧Blk wr Z #[.pointer (some ⟨p,0,none⟩)] 84∧Blk wr bZ #[.int .i64 size] 3∧n≤wr.heap.size) (fun _ wr=>zdg p wr)
 case atStart=>exact ⟨[],D,F,⟨0,by omega,rfl⟩,by simp,hF,ax,by simp,bR,h0,a5,aO,a3,a2,a4,bg⟩
 case round =>
  obtain ⟨u,B,f,⟨z0,cj,rfl⟩,bl,hf,T,hall,bX,hj,hb,hr,O,aE,aG,bi⟩:=hrel
  clear a5 aO a3 a2 a4 bg h0 ax
  have bO:=vG hr
  have aT:=O.cell 0
  have aU:=O.cell 1
  have aV:=O.cell 2
  obtain ⟨f,rfl⟩:∃ g,f=g+1:=⟨f - 1,by omega⟩
  gi_wp2_with fail
  refine (callsIn_wide.2 (HO.out _)).mono ?_
  rintro e w1 ⟨rfl,b⟩
  have ba:=HJ.out _ _ _ hj (zaw b)
  have aC:=hb.trans (b.mono hb.size)
  have aP:=hr.below b hr.lt
  have G:=O.below b O.lt
  have ac:=aE.below b aE.lt
  have ai:=aG.below b aG.lt
  have aK:=Nat.le_trans bi b.size
  clear hj hb hr O aE aG bi b aT aU aV
  have aT:=G.cell 0
  have aU:=G.cell 1
  have aV:=G.cell 2
  gi_wp2_with fail
  refine (callsIn_wide.2 (HO.out _)).mono ?_
  rintro e w2 ⟨rfl,b⟩
  have bb:=HJ.out _ _ _ ba (zaw b)
  have a6:=aC.trans (b.mono aC.size)
  have aQ:=aP.below b aP.lt
  have aF:=G.below b G.lt
  have ad:=ac.below b ac.lt
  have aH:=ai.below b ai.lt
  have aL:=Nat.le_trans aK b.size
  clear ba aC aP G ac ai aK b aT aU aV
  have zP:=ad.cell 0
  have HE:=Lib.hid (zfm p dp B w2 aQ (by omega))
  gi_wp2_with fail
  refine (callsIn_wide.2 HE.out).mono ?_
  rintro e w3 ⟨L,rfl,N⟩
  have aI:=HJ.out _ _ _ bb (wB L N (zk6 (by omega)))
  have aD:=qf a6 ap aQ.lt L
  have ag:=RdB.grown aF L hS
  have ae:=RdB.grown ad L hP
  have R:=RdB.grown aH L hZ
  have aM:=Nat.le_trans aL L.size
  clear bb a6 aQ aF ad aH aL L zP HE
  by_cases k:B.data.toList.head? = some 255
  ·rw [if_pos k]at N
   rw [decide_eq_true k]
   have i:ky (qv u) _ B.data.toList=res:=T.out
   rw [zfz k]at i
   have hq:za2 p dp D.size res u w3:=⟨hall,_,i.symm,N,by
    rw [jR,List.length_drop]
    have:B.data.toList.length=B.size:=by simp
    omega⟩
   have HQ:=Lib.hid hq
   clear i k N ag ae R aD T hall
   gi_wp2_with fail
   refine bodyPost_ret (results_none rfl _ _ _) rfl ?_
   exact ⟨⟨_,rfl⟩,.inl ⟨_,HQ.out,aI⟩⟩
  ·rw [if_neg k]at N
   rw [decide_eq_false k]
   have i:ky (qv u) (zS (jr (zE F d) size (qv u)) (fun l=>xc (zE F d) size f l)) B.data.toList=res:=T.out
   rw [zhu k]at i
   have aw:Hid (zaF (zE F d) (size - 0) (fun l=>xc (zE F d) size f l) (qv u) B.data.toList=res):=Lib.hid i
   clear i k T
   have zZ:=R.cell 0
   gi_wp2_with fail
   gi_loopw [23] (fun z wr=>∃ (j:Nat) (a:List Ev) (E:ByteArray),z=.int .i64 j∧j≤size∧E.size+j≤B.size∧E.size+a.length≤D.size∧Hid (zaF (zE F d) (size - j) (fun l=>xc (zE F d) size f l) (qv a) E.data.toList=res)∧(∀ x∈a,x.isOk)∧OkS E∧J a wr∧Below w0.heap.size w0 wr∧RdB wr p E dp∧Blk wr bS #[.int .i64 hm,.int .i64 31,.int .u64 ha] 137∧Blk wr Z #[.pointer (some ⟨p,0,none⟩)] 84∧Blk wr bZ #[.int .i64 size] 3∧n≤wr.heap.size) (fun z _=>size - (intOf z).toNat)
   case atStart=>exact ⟨0,u,B,rfl,by omega,by omega,bl,aw,hall,bX,aI,aD,N,ag,ae,R,aM⟩
   case round =>
    obtain ⟨j,a,E,rfl,cg,ci,bx,C,am,al,M,V,P,Q,K,S,aN⟩:=hrel
    clear aw hall aI aD N ag ae R aM bl zZ
    by_cases cf:j<size
    ·have y4:(j:Int)<size:=by omega
     have zP:=K.cell 0
     have ca:E.data.toList.length=E.size:=by simp
     have I:=a0.out E _ V P (by omega) (by omega) al
     have i:=C.out
     rw [show size - j=(size - (j+1))+1 by omega]at i
     cases hit:zE F d E.data.toList with
     | bad e =>
      rw [zgi hit]at i
      rw [hit]at I
      have I:Hid (Calls Tryz.prog 68 #[.pointer (some ⟨p,0,none⟩)] wr fun x U=>wr.grownBy U (some p)∧(∃ o A n c,x=.returned (.tuple #[ze o (.slice A n c),jD e]))∧e≠0∧∃ s',RdB U p s' dp∧s'.size≤E.size):=Lib.hid I
      have ay:=Lib.hid i
      clear hit i C
      gi_wp2_with fail
      refine (callsIn_wide.2 I.out).mono ?_
      rintro e1 w5 ⟨v,⟨o,A,m,c,rfl⟩,bh,s',H,ch⟩
      have X:=HJ.out _ _ _ M (wB v H (by omega))
      obtain ⟨fn,bA,az,bo,hy,hR⟩:=HY.out a (.no o (.slice A m c) e) wr w5 M (wB v H (by omega)) X ⟨by rw [List.length_append,List.length_singleton]; omega,fun xs x y=>by
       obtain ⟨_,y⟩:=List.append_inj' y rfl
       injection y with y
       subst y
       exact ⟨⟨A,m,c,rfl⟩,bh,s',H,by omega⟩⟩
      have k:∀ W,yT res (a++[.no o (.slice A m c) e]) W:=fun _=>.inl ⟨a,o,_,e,rfl,ay.out.symm,bh⟩
      have bn:=Lib.hid k
      simp only [Ev.enc]at hy hR
      obtain ⟨ev,a9⟩:∃ ev,jD e=ev:=⟨_,rfl⟩
      rw [a9]at hy ⊢
      obtain ⟨nv,Y⟩:∃ nv,ze o (.slice A m c)=nv:=⟨_,rfl⟩
      rw [Y]at hy ⊢
      clear k X I P Q K S V a9 Y M
      gi_wp2_with fail
      refine hR.mono ?_
      rintro e2 w6 (⟨_,y,_⟩ | ⟨rfl,aR⟩)
      ·exact y.elim
      ·gi_wp2_with fail
       refine bodyPost_ret (results_none rfl _ _ _) rfl ?_
       exact ⟨⟨_,rfl⟩,.inr ⟨_,bn.out _,aR⟩⟩
     | good t r =>
      have bL:=yr hit
      rw [zer hit]at i
      rw [hit]at I
      have I:Hid (Calls Tryz.prog 68 #[.pointer (some ⟨p,0,none⟩)] wr fun x U=>wr.grownBy U (some p)∧(∃ A n c,x=.returned (.tuple #[ze t.own (.slice A n c),.nilIface])∧LAt U (fun q=>wr.heap.size≤q∧q<U.heap.size) d t.kids (.slice A n c))∧zt t.own∧RdB U p (bs r) dp∧(bs r).size≤E.size):=Lib.hid I
      have bU:(bs r).size+1≤E.size:=by rw [jR]; omega
      obtain ⟨rb,aq⟩:∃ rb,bs r=rb:=⟨_,rfl⟩
      have bk:r=rb.data.toList:=by rw [← aq]; rfl
      rw [aq]at I bU
      rw [bk]at i
      have ay:=Lib.hid i
      have bz:OkS rb:=by
       rw [← aq]
       obtain ⟨own,e,_⟩:=ww F d _ _ _ hit
       exact al.rest e
      clear hit i C bL aq bk
      gi_wp2_with fail
      refine (callsIn_wide.2 I.out).mono ?_
      rintro e1 w5 ⟨v,⟨A,m,c,rfl,bf⟩,bQ,H,_⟩
      have X:=HJ.out _ _ _ M (wB v H (by omega))
      have a7:=qf V ap P.lt v
      have ah:=RdB.grown Q v hS
      have af:=RdB.grown K v hP
      have aj:=RdB.grown S v hZ
      have bv:=Nat.le_trans aN v.size
      obtain ⟨fn,bA,az,bo,hy,hR⟩:=HY.out a (.ok t (.slice A m c)) wr w5 M (wB v H (by omega)) X ⟨by rw [List.length_append,List.length_singleton]; omega,fun xs x y=>by
       obtain ⟨bV,y⟩:=List.append_inj' y rfl
       injection y with y
       subst y
       refine ⟨⟨A,m,c,rfl⟩,bf,bQ,?_⟩
       rw [← bV]
       omega⟩
      have an:∀ x∈a++[Ev.ok t (.slice A m c)],x.isOk:=fun x y=>by
       rcases List.mem_append.1 y with h | h
       ·exact am x h
       ·rw [List.mem_singleton.1 h]
        exact trivial
      have bm:=yO a t (.slice A m c)
      have b0:(a++[Ev.ok t (.slice A m c)]).length=a.length+1:=by simp
      simp only [Ev.enc]at hy
      obtain ⟨nv,Y⟩:∃ nv,ze t.own (.slice A m c)=nv:=⟨_,rfl⟩
      rw [Y]at hy ⊢
      have bD:=Lib.hid bm
      clear I P Q K S V Y M bf bm X
      gi_wp2_with fail
      refine hR.mono ?_
      rintro e2 w6 (⟨rfl,_,bN,ao,bc,bd,be⟩ | ⟨rfl,aR⟩)
      ·have bT:RdB w6 p rb dp:=(ao.block p bj).trans H
       have bt:Blk w6 bS _ _:=(bc ah.lt).trans ah
       have br:Blk w6 Z _ _:=(bd af.lt).trans af
       have bu:Blk w6 bZ _ _:=(be aj.lt).trans aj
       have bK:=a7.trans (ao.mono (Nat.le_trans ap (Nat.le_of_lt bj)))
       have bw:=Nat.le_trans bv ao.size
       clear ao bc bd be H ah af aj a7
       gi_wp2_with fail
       go_roundw
       case rel=>exact ⟨j+1,_,rb,by go_num,by omega,by omega,by omega,by rw [bD.out]; exact ay,an,bz,bN,bK,bT,bt,br,bu,bw⟩
       case measure=>simp [intOf]; omega
      ·gi_wp2_with fail
       refine bodyPost_ret (results_none rfl _ _ _) rfl ?_
       exact ⟨⟨_,rfl⟩,.inr ⟨_,.inr an,aR⟩⟩
    ·obtain rfl:j=size:=by omega
     have y4:¬ (j:Int)<j:=by omega
     rw [Nat.sub_self]at C
     gi_wp2_with fail
     go_roundw
     case rel=>exact ⟨a,E,f,⟨(z0+1) % 18446744073709551616,by omega,by rw [IntKind.wrap_u64]; rfl⟩,bx,by omega,C,am,al,M,V,P,Q,K,S,aN⟩
     case measure=>rw [vG P,bO]; omega
theorem zjQ {w0:World} (F d p n nk X V Y size hm hi ha:Nat) (B:ByteArray) (hI:wm w0 F d) (aE:w0.heap.size≤p) (a7:p<nk) (hS:X≠p) (hP:V≠p) (hZ:Y≠p) (bK:size=1∨size=2) (hs:B.size≤1000000000) (hF:B.size<F) (bD:OkS B) (bX:hi≠31) (b5:ha<18446744073709551616) :
  zhW Tryz.prog 242 #[.pointer (some ⟨X,0,none⟩),.pointer (some ⟨V,0,none⟩),.pointer (some ⟨Y,0,none⟩)] Ev.enc (MvR p (16 - d) B.size) (zdB nk X V Y) Ev.isOk (fun g A W=>wI p (16 - d) A.heap.size d B.size g W)
   (za2 p (16 - d) B.size (jr (zE F d) (size*ha) [] B.data.toList)) (yT (jr (zE F d) (size*ha) [] B.data.toList)) (fun W=>zfd w0 p (16 - d) X V Y size (hm,hi,ha) B W∧n≤W.heap.size):=by
 intro l J Jx W hA hJ aQ hY h0
 obtain ⟨⟨aU,aF,aS,aR,aT⟩,a4⟩:=hA
 obtain ⟨res,ad⟩:∃ res,jr (zE F d) (size*ha) [] B.data.toList=res:=⟨_,rfl⟩
 rw [ad]
 obtain ⟨dp,aX⟩:∃ dp,16 - d=dp:=⟨_,rfl⟩
 have aP:=Lib.hid (fun s W (hb:Below w0.heap.size w0 W) (hR:RdB W p s (16 - d)) (h1:s.size≤1000000000) (h2:s.size<F) (h3:OkS s)=>hI p s W hb aE hR h1 h2 h3)
 rw [aX]at aF aP hY hJ aQ ⊢
 refine callsIn_of_wp Tryz.func242 rfl trivial ?_ rfl
 simp only [Tryz.ntmps242,List.size_toArray,List.length_cons,List.length_nil,Nat.reduceAdd,Nat.reduceSub,Array.replicate_succ,Array.replicate_zero,List.push_toArray,List.append_toArray,List.nil_append,List.cons_append]
 have HY:=Lib.hid hY
 have HJ:=Lib.hid hJ
 have ap:=Lib.hid ad
 have HO:=Lib.hid (fun w=>xW hm hi ha w)
 have yo:((hi:Int) == 31)=false:=by rw [beq_eq_false_iff_ne]; omega
 rw [yo]at HO
 clear hY hJ aQ hI ad aX
 gi_wp2
 gi_loopw [5] (fun z wr=>∃ (g:List Ev) (I:ByteArray) (k:Nat),z=.int .u64 k∧k≤ha∧I.size+g.length≤B.size∧Hid (jr (zE F d) (size*(ha - k)) (qv g) I.data.toList=res)∧(∀ x∈g,x.isOk)∧OkS I∧J g wr∧Below w0.heap.size w0 wr∧RdB wr p I dp∧Blk wr X #[.int .i64 hm,.int .i64 hi,.int .u64 ha] 137∧Blk wr V #[.pointer (some ⟨p,0,none⟩)] 84∧Blk wr Y #[.int .i64 size] 3∧n≤wr.heap.size) (fun _ wr=>zdg p wr)
 case atStart=>exact ⟨[],B,0,rfl,by omega,by simp,ap,by simp,bD,h0,aU,aF,aS,aR,aT,a4⟩
 case round =>
  obtain ⟨g,I,k,rfl,hk,ba,Q,hall,bI,hj,hb,hr,K,av,ay,a6⟩:=hrel
  clear aU aF aS aR aT a4 h0 ap
  have bA:=vG hr
  have aI:=K.cell 0
  have aJ:=K.cell 1
  have aK:=K.cell 2
  have yk:(k:Int)<18446744073709551616:=by omega
  gi_wp2_with fail
  refine (callsIn_wide.2 (HO.out _)).mono ?_
  rintro e w1 ⟨rfl,b⟩
  have aA:=HJ.out _ _ _ hj (zaw b)
  have ai:=hb.trans (b.mono hb.size)
  have U:=hr.below b hr.lt
  have u:=K.below b K.lt
  have M:=av.below b av.lt
  have O:=ay.below b ay.lt
  have aB:=Nat.le_trans a6 b.size
  clear hj hb hr K av ay a6 b aI aJ aK
  have aI:=u.cell 0
  have aJ:=u.cell 1
  have aK:=u.cell 2
  by_cases b8:k<ha
  ·have y1:(k:Int)<ha:=by omega
   gi_wp2_with fail
   refine (callsIn_wide.2 (HO.out _)).mono ?_
   rintro e w3 ⟨rfl,b⟩
   have aZ:=HJ.out _ _ _ aA (zaw b)
   have aV:=ai.trans (b.mono ai.size)
   have a8:=U.below b U.lt
   have ax:=u.below b u.lt
   have aw:=M.below b M.lt
   have ab:=O.below b O.lt
   have aC:=Nat.le_trans aB b.size
   clear aA ai U u M O aB b aI aJ aK
   have f:=Q.out
   rw [show size*(ha - k)=size+size*(ha - (k+1)) by
    rw [show ha - k=(ha - (k+1))+1 by omega,Nat.mul_succ]
    omega,zeB]at f
   have ao:Hid (zaF (zE F d) (size - 0) (fun l=>jr (zE F d) (size*(ha - (k+1))) l) (qv g) I.data.toList=res):=Lib.hid f
   clear f Q
   have zZ:=ab.cell 0
   gi_wp2_with fail
   gi_loopw [23] (fun z wr=>∃ (j:Nat) (a:List Ev) (C:ByteArray),z=.int .i64 j∧j≤size∧C.size+j≤I.size∧C.size+a.length≤B.size∧Hid (zaF (zE F d) (size - j) (fun l=>jr (zE F d) (size*(ha - (k+1))) l) (qv a) C.data.toList=res)∧(∀ x∈a,x.isOk)∧OkS C∧J a wr∧Below w0.heap.size w0 wr∧RdB wr p C dp∧Blk wr X #[.int .i64 hm,.int .i64 hi,.int .u64 ha] 137∧Blk wr V #[.pointer (some ⟨p,0,none⟩)] 84∧Blk wr Y #[.int .i64 size] 3∧n≤wr.heap.size) (fun z _=>size - (intOf z).toNat)
   case atStart=>exact ⟨0,g,I,rfl,by omega,by omega,ba,ao,hall,bI,aZ,aV,a8,ax,aw,ab,aC⟩
   case round =>
    obtain ⟨j,a,C,rfl,b7,ca,bm,y,ag,ae,H,R,L,N,G,P,aD⟩:=hrel
    clear ao hall aZ aV a8 ax aw ab aC ba zZ
    by_cases b6:j<size
    ·have y4:(j:Int)<size:=by omega
     have zP:=G.cell 0
     have bY:C.data.toList.length=C.size:=by simp
     have E:=aP.out C _ R L (by omega) (by omega) ae
     have f:=y.out
     rw [show size - j=(size - (j+1))+1 by omega]at f
     cases hit:zE F d C.data.toList with
     | bad e =>
      rw [zgi hit]at f
      rw [hit]at E
      have E:Hid (Calls Tryz.prog 68 #[.pointer (some ⟨p,0,none⟩)] wr fun x w'=>wr.grownBy w' (some p)∧(∃ o A n c,x=.returned (.tuple #[ze o (.slice A n c),jD e]))∧e≠0∧∃ s',RdB w' p s' dp∧s'.size≤C.size):=Lib.hid E
      have aq:=Lib.hid f
      clear hit f y
      gi_wp2_with fail
      refine (callsIn_wide.2 E.out).mono ?_
      rintro e1 w5 ⟨i,⟨o,A,m,c,rfl⟩,a5,s',D,b9⟩
      have S:=HJ.out _ _ _ H (wB i D (by omega))
      obtain ⟨fn,bo,ar,be,hy,hR⟩:=HY.out a (.no o (.slice A m c) e) wr w5 H (wB i D (by omega)) S ⟨by rw [List.length_append,List.length_singleton]; omega,fun xs x v=>by
       obtain ⟨_,v⟩:=List.append_inj' v rfl
       injection v with v
       subst v
       exact ⟨⟨A,m,c,rfl⟩,a5,s',D,by omega⟩⟩
      have az:∀ W,yT res (a++[.no o (.slice A m c) e]) W:=fun _=>.inl ⟨a,o,_,e,rfl,aq.out.symm,a5⟩
      have bc:=Lib.hid az
      simp only [Ev.enc]at hy hR
      obtain ⟨ev,aY⟩:∃ ev,jD e=ev:=⟨_,rfl⟩
      rw [aY]at hy ⊢
      obtain ⟨nv,T⟩:∃ nv,ze o (.slice A m c)=nv:=⟨_,rfl⟩
      rw [T]at hy ⊢
      clear az S E L N G P R aY T H
      gi_wp2_with fail
      refine hR.mono ?_
      rintro e2 w6 (⟨_,v,_⟩ | ⟨rfl,aG⟩)
      ·exact v.elim
      ·gi_wp2_with fail
       refine bodyPost_ret (results_none rfl _ _ _) rfl ?_
       exact ⟨⟨_,rfl⟩,.inr ⟨_,bc.out _,aG⟩⟩
     | good t r =>
      have bw:=yr hit
      rw [zer hit]at f
      rw [hit]at E
      have E:Hid (Calls Tryz.prog 68 #[.pointer (some ⟨p,0,none⟩)] wr fun x w'=>wr.grownBy w' (some p)∧(∃ A n c,x=.returned (.tuple #[ze t.own (.slice A n c),.nilIface])∧LAt w' (fun q=>wr.heap.size≤q∧q<w'.heap.size) d t.kids (.slice A n c))∧zt t.own∧RdB w' p (bs r) dp∧(bs r).size≤C.size):=Lib.hid E
      have bF:(bs r).size+1≤C.size:=by rw [jR]; omega
      obtain ⟨rb,ak⟩:∃ rb,bs r=rb:=⟨_,rfl⟩
      have a9:r=rb.data.toList:=by rw [← ak]; rfl
      rw [ak]at E bF
      rw [a9]at f
      have aq:=Lib.hid f
      have bn:OkS rb:=by
       rw [← ak]
       obtain ⟨own,e,_⟩:=ww F d _ _ _ hit
       exact ae.rest e
      clear hit f y bw ak a9
      gi_wp2_with fail
      refine (callsIn_wide.2 E.out).mono ?_
      rintro e1 w5 ⟨i,⟨A,m,c,rfl,a3⟩,bB,D,_⟩
      have S:=HJ.out _ _ _ H (wB i D (by omega))
      have aW:=qf R aE L.lt i
      have aa:=RdB.grown N i hS
      have Z:=RdB.grown G i hP
      have ac:=RdB.grown P i hZ
      have bk:=Nat.le_trans aD i.size
      obtain ⟨fn,bo,ar,be,hy,hR⟩:=HY.out a (.ok t (.slice A m c)) wr w5 H (wB i D (by omega)) S ⟨by rw [List.length_append,List.length_singleton]; omega,fun xs x v=>by
       obtain ⟨bG,v⟩:=List.append_inj' v rfl
       injection v with v
       subst v
       refine ⟨⟨A,m,c,rfl⟩,a3,bB,?_⟩
       rw [← bG]
       omega⟩
      have ah:∀ x∈a++[Ev.ok t (.slice A m c)],x.isOk:=fun x v=>by
       rcases List.mem_append.1 v with h | h
       ·exact ag x h
       ·rw [List.mem_singleton.1 h]
        exact trivial
      have bb:=yO a t (.slice A m c)
      have bJ:(a++[Ev.ok t (.slice A m c)]).length=a.length+1:=by simp
      simp only [Ev.enc]at hy
      obtain ⟨nv,T⟩:∃ nv,ze t.own (.slice A m c)=nv:=⟨_,rfl⟩
      rw [T]at hy ⊢
      have bq:=Lib.hid bb
      clear E L N G P R T H a3 bb S
      gi_wp2_with fail
      refine hR.mono ?_
      rintro e2 w6 (⟨rfl,_,bz,aj,a0,a1,a2⟩ | ⟨rfl,aG⟩)
      ·have bE:RdB w6 p rb dp:=(aj.block p a7).trans D
       have bi:Blk w6 X _ _:=(a0 aa.lt).trans aa
       have bh:Blk w6 V _ _:=(a1 Z.lt).trans Z
       have bj:Blk w6 Y _ _:=(a2 ac.lt).trans ac
       have bv:=aW.trans (aj.mono (Nat.le_trans aE (Nat.le_of_lt a7)))
       have bl:=Nat.le_trans bk aj.size
       clear aj a0 a1 a2 D aa Z ac aW
       gi_wp2_with fail
       go_roundw
       case rel=>exact ⟨j+1,_,rb,by go_num,by omega,by omega,by omega,by rw [bq.out]; exact aq,ah,bn,bz,bv,bE,bi,bh,bj,bl⟩
       case measure=>simp [intOf]; omega
      ·gi_wp2_with fail
       refine bodyPost_ret (results_none rfl _ _ _) rfl ?_
       exact ⟨⟨_,rfl⟩,.inr ⟨_,.inr ah,aG⟩⟩
    ·obtain rfl:j=size:=by omega
     have y4:¬ (j:Int)<j:=by omega
     rw [Nat.sub_self]at y
     gi_wp2_with fail
     go_roundw
     case rel=>exact ⟨a,C,k+1,by go_num,by omega,bm,y,ag,ae,H,R,L,N,G,P,aD⟩
     case measure=>rw [vG L,bA]; omega
  ·obtain rfl:k=ha:=by omega
   have y1:¬ (k:Int)<k:=by omega
   have f:jr (zE F d) (size*(k - k)) (qv g) I.data.toList=res:=Q.out
   rw [Nat.sub_self,Nat.mul_zero]at f
   have hq:za2 p dp B.size res g w1:=⟨hall,I.data.toList,f.symm,by rw [zal]; exact U,by rw [zal]; omega⟩
   have HQ:=Lib.hid hq
   clear f hq U u M O ai Q hall
   gi_wp2_with fail
   refine bodyPost_end (results_none rfl _ _ _) rfl ?_
   exact ⟨⟨_,rfl⟩,.inl ⟨_,HQ.out,aA⟩⟩
end Go.Proofs.YtonihophanmaaaaGreatDoor
