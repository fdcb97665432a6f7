/- The texts DsI, Range, DsF, DsJ, DsA, put together. -/
import Derived.Test.YtonihophanmaaaaGreatDoorPc03
import Derived.Test.YtonihophanmaaaaGreatDoorPc05
import Derived.Test.YtonihophanmaaaaGreatDoorPc06
import Derived.Test.YtonihophanmaaaaGreatDoorPc07
import Derived.Sort.OwnSorted
import Derived.Test.YtonihophanmaaaaGreatDoorPc01
set_option maxHeartbeats 4000000
set_option maxRecDepth 100000
namespace Go.Proofs.YtonihophanmaaaaGreatDoor
open Go.RowKit Go.Shelf
structure jb where
 k:Tr
 kA:Option Addr
 kn:Nat
 kc:Nat
 v:Tr
 hA:Option Addr
 hn:Nat
 hc:Nat
instance:Inhabited jb:=⟨⟨.nd zv [],none,0,0,.nd zv [],none,0,0⟩⟩
def jb.m (p:jb):ze1:=⟨p.k.own,p.kA,p.kn,p.kc,bs (cbT p.k),p.v.own,p.hA,p.hn,p.hc⟩
def jb.key (p:jb):Tr×Tr:=(p.k,p.v)
def qp (p:jb):List Value:=yC p.m
def cfG (p q:jb):Int:=zdG p.m.it q.m.it
theorem ltG (x y:jb):ltOf cfG x y=decide (cbT x.k<cbT y.k):=by
 unfold ltOf cfG zdG
 have e:Op.bytesLess x.m.it.toList y.m.it.toList=decide (cbT x.k<cbT y.k):=by
  rw [Go.Proofs.bytesLess_eq,ByteArray.toList_eq,ByteArray.toList_eq]
  rfl
 rw [e]
 by_cases h:cbT x.k<cbT y.k
 ·simp [h]
 ·simp only [h,decide_false,Bool.false_eq_true,if_false]
  split <;> decide
theorem zoa:Go.Sort.SWO (ltOf cfG) where
 irrefl x:=by rw [ltG]; simp [List.lt_irrefl]
 trans x y z h1 h2:=by
  rw [ltG,decide_eq_true_iff]at *
  exact List.lt_trans h1 h2
 ntrans x y z h1 h2:=by
  rw [ltG,decide_eq_false_iff_not]at *
  exact fun h=>h1 (by
   by_cases e:cbT x.k=cbT y.k
   ·rw [e]at h; exact absurd h h2
   ·rcases ziA e with a | a
    ·exact a
    ·exact absurd (List.lt_trans a h) h2)
theorem flat_get:∀ (l:List jb) (i c:Nat) (a:i<l.length),c<19→(l.flatMap qp)[i*19+c]? = (qp l[i])[c]?
 | [],i,_,h,_=>by simp at h
 | p::l,0,c,_,hc=>by
  rw [List.flatMap_cons,List.getElem?_append_left (by rw [show (qp p).length=19 from rfl]; omega)]
  simp
 | p::l,i+1,c,h,hc=>by
  rw [List.flatMap_cons,List.getElem?_append_right (by rw [show (qp p).length=19 from rfl]; omega),show (qp p).length=19 from rfl,show (i+1)*19+c - 19=i*19+c by omega]
  have:=flat_get l i c (by simpa using h) hc
  simpa using this
theorem zjJ {w:World} {base g n f:Nat} {e:TypeId} {d:Array jb} (h:w.ownsRow base e 19 (.slice (some ⟨g,0,none⟩) n f) n (d.toList.flatMap qp)) (hn:d.size=n):Go.Sort.HoldsK qp 19 w g 0 d:=by
 intro j l
 rw [Go.Sort.size_flatK]at l
 rw [Go.Sort.get_flatK _ _ _ _ l]
 have a:j / 19<d.size:=Nat.div_lt_of_lt_mul (by omega)
 have hc:j % 19<19:=Nat.mod_lt _ (by decide)
 have c:=flat_get d.toList (j / 19) (j % 19) (by simpa using a) hc
 rw [show j / 19*19+j % 19=j by omega]at c
 have p:d[j / 19]! = d.toList[j / 19]'(by simpa using a):=by
  rw [getElem!_pos d (j / 19) a,Array.getElem_toList]
 rw [p]
 have m:j % 19<(qp (d.toList[j / 19]'(by simpa using a))).length:=by rw [show (qp (d.toList[j / 19]'(by simpa using a))).length=19 from rfl]; exact hc
 rw [List.getElem?_eq_getElem m]at c
 rw [getElem!_pos (qp (d.toList[j / 19]'(by simpa using a))) (j % 19) m,Nat.zero_add]
 rcases h.2 with ⟨r,_⟩ | ⟨q,o,u,t,y,k,x,v,z,s⟩
 ·cases r
 ·have i:q=g:=by
   injection t with b
   injection b with b
   injection b with b
   exact b.symm
  subst i
  rw [← s,List.getElem?_take_of_lt (by omega)]at c
  refine ⟨?_,by simp [World.frozen?,k]⟩
  simp only [World.cell?,k]
  simpa using c
theorem ziU (g c n:Nat) (base:Nat) (e:TypeId) (d:Array jb) (w:World) (h:w.ownsRow base e 19 (.slice (some ⟨g,0,none⟩) n c) n (d.toList.flatMap qp)) (hn:d.size=n) (H:n≤1000000) :
  Calls Tryz.prog 94 #[.slice (some ⟨g,0,none⟩) n c,.func (.func 95) #[] #[]] w fun x j=>x=.returned (.tuple #[])∧w.grownBy j (some g) ∧
   ∃ a:Array jb,a.toList.Perm d.toList∧(jP cbT (d.toList.map jb.key)→a.toList.map jb.key=j8 cbT (d.toList.map jb.key))∧Go.Sort.HoldsK qp 19 j g 0 a∧a.size=n:=by
 have o:=zjJ h hn
 have p:g<w.heap.size:=by
  rcases h.2 with ⟨u,_⟩ | ⟨F,s,C,B,G,z,_⟩
  ·cases u
  ·injection B with f
   injection f with f
   injection f with f
   rw [f]
   exact (Array.getElem?_eq_some_iff.1 z).1
 subst hn
 have t:∀ b w,(callFunc 95 b).run Tryz.prog w=.ok (.enter 95 b) w:=enters_of Tryz.func95 (by kernel_rfl) rfl
 have l:=AnyQ.slices_SortFunc Tryz.sortPairs 19 Tryz.isAgg124 Tryz.sizeOf124 qp (fun _=>rfl) (fun x=>zk5 x.m) cfG zoa 95 #[] g 0 c d w t (fun m os E D x y=>(zge x.m y.m _).mono (by
  rintro e j ⟨rfl,rfl⟩
  exact ⟨rfl,0,_,by rw [Go.Sort.alloc_eq_grow,Go.Sort.alloc_eq_grow,Go.Sort.grow_grow]; rfl⟩)) o p (by omega)
 refine l.mono ?_
 rintro x j ⟨rfl,a,m,os,i,r,rfl⟩
 refine ⟨rfl,?_,a,zhM i,fun v=>zgw cbT jb.key (ltOf cfG) (fun x y=>ltG x y) i r v,?_,i.1⟩
 ·unfold sortWorldK Go.Sort.putRowK
  refine ⟨rfl,rfl,rfl,by simp,fun k A q=>?_⟩
  rw [Go.Sort.heap_grow_old _ _ (by simpa using A)]
  have:g≠k:=fun e=>q (by rw [e])
  simp [Go.Sort.putRow,Go.Sort.mapBlock,Go.Sort.ahead,Array.getElem?_modify,this]
 ·exact holdsK_sortWorldK_c qp 19 w g 0 d a m os o p i.1
theorem zg1 (a:Value) (w:World):Calls Tryz.prog 186 #[.slice none 0 0,.int .i64 0,.int .i64 0,a] w fun e b=>e=.returned (.tuple #[])∧b=w:=by
 go_enter Tryz.func186,Tryz.ntmps186
 go_wp2
 refine wp_loop_rounds 1 ?_
 rw [rounds_succ]
 go_wp2
 go_end0
 exact ⟨rfl,rfl⟩
theorem zlI (b:Int) (a:Value) (w:World):Calls Tryz.prog 135 #[.slice none 0 0,.int .i64 0,.int .i64 0,.int .i64 b,a] w fun e c=>e=.returned (.tuple #[])∧c=w:=by
 have d:=Lib.hid (fun W=>zg1 a W)
 go_enter Tryz.func135,Tryz.ntmps135
 go_wp2
 refine wp_loop_rounds 1 ?_
 rw [rounds_succ]
 go_wp2_with fail
 refine (d.out _).mono ?_
 rintro e c ⟨rfl,rfl⟩
 go_wp2_with fail
 (try simp only [Exit.inBlock,Exit.then])
 refine bodyPost_ret (results_none rfl _ _ _) rfl ?_
 exact ⟨rfl,rfl⟩
theorem zko (b:Value) (w:World):Calls Tryz.prog 94 #[.slice none 0 0,b] w fun e a=>e=.returned (.tuple #[])∧a=w:=by
 have f:=Lib.hid (fun c W=>zlI c b W)
 have d:=Lib.hid (fun W=>Tryz.bits_Len 0 W (by omega) (by omega))
 go_enter Tryz.func94,Tryz.ntmps94
 go_wp2_with fail
 refine (d.out _).mono ?_
 rintro e a ⟨rfl,rfl⟩
 go_wp2_with fail
 refine (f.out _ _).mono ?_
 rintro e a ⟨rfl,rfl⟩
 go_wp2_with fail
 go_end0
 exact ⟨rfl,rfl⟩
def zhV (W:World) (V:Value) (m:Nat) (ps:List jb):Prop:=ps.length=m∧∃ A c,V=.slice A m c∧∀ i (h:i<ps.length),∃ g,A=some ⟨g,0,none⟩∧g<W.heap.size∧∀ j u,(qp ps[i])[j]? = some u→W.cell? ⟨g,i*19+j,none⟩=some u
theorem zhV.below {W W':World} {V:Value} {m:Nat} {ps:List jb} (h:zhV W V m ps) (b:Below W.heap.size W W'):zhV W' V m ps:=by
 obtain ⟨f,A,c,k,l⟩:=h
 refine ⟨f,A,c,k,fun i n=>?_⟩
 obtain ⟨g,e,d,hc⟩:=l i n
 exact ⟨g,e,Nat.lt_of_lt_of_le d b.size,fun j u o=>(jd (a:=⟨g,i*19+j,none⟩) (b.block g d)).trans (hc j u o)⟩
theorem zlX (V:Value) (m base:Nat) (e:TypeId) (a:List jb) (w:World) (c:w.ownsRow base e 19 V m (a.flatMap qp)) (o:a.length=m) (E:m≤1000000) (B:jP cbT (a.map jb.key)) :
  Calls Tryz.prog 94 #[V,.func (.func 95) #[] #[]] w fun x f=>x=.returned (.tuple #[])∧w.grownBy f V.ownBlock∧∃ ps':List jb,ps'.Perm a∧ps'.map jb.key=j8 cbT (a.map jb.key)∧zhV f V m ps':=by
 have d:=c
 rcases c.2 with ⟨rfl,J⟩ | ⟨g,h,F,rfl,K,D,H,G,I,L⟩
 ·have p:a=[]:=List.eq_nil_of_length_eq_zero (by omega)
  subst p
  refine (zko _ w).mono ?_
  rintro x f ⟨rfl,rfl⟩
  refine ⟨rfl,jB _ _,[],.refl _,rfl,o,none,0,?_,fun i n=>by simp at n⟩
  rw [← o]
  rfl
 ·have C:a.toArray.size=m:=by simpa using o
  refine (ziU g h m base e a.toArray w (by simpa using d) C E).mono ?_
  rintro x f ⟨rfl,s,b,p,y,A,r⟩
  have v:g<w.heap.size:=(Array.getElem?_eq_some_iff.1 D).1
  refine ⟨rfl,s,b.toList,by simpa using p,by simpa using y (by simpa using B),by simpa using r,some ⟨g,0,none⟩,h,rfl,fun i n=>⟨g,rfl,Nat.lt_of_lt_of_le v s.size,fun j u q=>?_⟩⟩
  have t:j<19:=(List.getElem?_eq_some_iff.1 q).1
  have k:i<b.size:=by simpa using n
  have hc:=(A.cell k t).1
  rw [Nat.zero_add]at hc
  rw [hc]
  have z:b[i]! = b.toList[i]:=by rw [getElem!_pos b i k,Array.getElem_toList]
  rw [z]
  have l:j<(qp b.toList[i]).length:=t
  rw [List.getElem?_eq_getElem l]at q
  rw [getElem!_pos (qp b.toList[i]) j l]
  exact q
def zdC {α:Type} (P:Program) (g:Nat) (lb:Array Value) (encs:α→Array Value) (Mv Kp:World→World→Prop) (Ct:α→Prop) (T:List α→World→Prop) (S Sp:List α→World→Prop) (A0:World→Prop):Prop:=
 ∀ (l:Nat) (J Jx:List α→World→Prop) (W:World),A0 W→(∀ s A B,J s A→Mv A B→J s B)→(∀ s A B,Jx s A→Mv A B→Jx s B) →
  (∀ pre x W1,J pre W1→T (pre++[x]) W1→YieldAt Fence.wide 7 P l (encs x) W1 fun e W' =>
   (e=.returned (.bool true)∧Ct x∧J (pre++[x]) W'∧Kp W1 W')∨(e=.returned (.bool false)∧Jx (pre++[x]) W')) →
  J [] W →
  CallsIn Fence.wide 8 P g (#[.func (.yield l) #[] #[]]++lb) W fun e W'=>(∃ v,e=.returned v)∧((∃ xs,S xs W'∧J xs W')∨(∃ pre,Sp pre W'∧Jx pre W'))
theorem qz {P:Program} {α:Type} {g:Operand} {ps:Array Tmp} {assign body:Code} {Q:Exit→Act→World→Prop} {a:Act} {w:World}
  {gf:Nat} {lb:Array Value} (hg:a.eval g=.func (.func gf) #[] lb) (eg:∀ args w,(callFunc gf args).run P w=.ok (.enter gf args) w)
  {encs:α→Array Value} {Mv Kp:World→World→Prop} {Ct:α→Prop} {T S Sp:List α→World→Prop} {A0:World→Prop} (ar:zdC P gf lb encs Mv Kp Ct T S Sp A0)
  (R:∀ (A B:World) (k:Nat) (o:Obj),Mv A B→w.heap.size≤k→A.heap[k]? = some o→o.isCells=false→B.heap[k]? = some o)
  (aw:∀ o o',A0 ((w.alloc o).alloc o'))
  (ab:∀ {A B C:World},Kp A B→Kp B C→Kp A C) (ak:∀ (W:World) (l:Nat) (o o':Obj),w.heap.size≤l→W.heap[l]? = some o→o.isCells=false→Kp W (W.putObj l o')) (aL:∀ x,(encs x).size=ps.size)
  (I:List α→World→Prop) (U:Code→List α→World→Prop) (hI:OwnFrom w.heap.size I) (O:∀ c,OwnFrom w.heap.size (U c))
  (aB:∀ s A B,I s A→Mv A B→I s B) (ao:∀ c s A B,U c s A→Mv A B→U c s B) (h0:I [] w) (az:∀ b x W,I (b++[x]) W→Ct x)
  (Ax:Array Value→List α→α→Act→World→Prop) (ay:∀ b x E,OwnFrom w.heap.size (fun (_:Unit) W=>Ax a.tmps b x E W))
  (X:∀ (l:Nat) (b:List α) (x:α) (W:World) (K:Act→World→Prop),I b W→T (b++[x]) W→(∀ E Z,KeepsFrom w.heap.size W Z→Kp W Z→I b Z→Ax a.tmps b x E Z→K E Z) →
   assign.wpIn (Fence.wide.inRound l) 7 P (Exit.then K (fun _ _ _=>False)) { tmps:=(ps.zip (encs x)).foldl (fun t (p,v)=>t.setIfInBounds p v) a.tmps,defers:=[] } W)
  (af:∀ (l:Nat) (b:List α) (x:α) (E:Act) (W:World),w.heap.size≤l→(∃ r,W.heap[l]? = some (.loop r))→I b W→Ax a.tmps b x E W→body.wpIn (Fence.wide.inRound l) 7 P (ownPostG w.heap.size Kp I U (b++[x]) W) E W)
  (hS:OwnFrom w.heap.size S) (aE:OwnFrom w.heap.size Sp)
  (ag:∀ (D:Nat) (xs:List α) (W:World),w.heap.size≤D→S xs W→I xs W→W.heap[D]? = some (.deferred (some []))→Q .normal { a with defers:={ target:=.collected D,args:=#[] }::a.defers } W)
  (ah:∀ (D:Nat) (c:Code) (b:List α) (W:World),w.heap.size≤D→Sp b W→U c b W→W.heap[D]? = some (.deferred (some []))→c.wp P Q { a with defers:={ target:=.collected D,args:=#[] }::a.defers } W) :
  (Code.rangeFunc g ps assign body).wp P Q a w:=by
 refine (wpIn_wide (n:=9)).1 ?_
 refine wpIn_rangeFunc ?_
 intro fn aG
 rw [show Fence.wide.round=none from rfl]
 obtain ⟨rec,f⟩:∃ rec:LoopState→Option Code→Loop,rec=fun st pe=>{ state:=st,pending:=pe,fn,tmps:=a.tmps,params:=ps,assign,body,defers:=w.heap.size }:=⟨_,rfl⟩
 obtain ⟨W1,H⟩:∃ W1,(w.alloc (.deferred (some []))).alloc (.loop (rec .ready none))=W1:=⟨_,rfl⟩
 have aD:W1.heap[w.heap.size+1]? = some (.loop (rec .ready none)):=by
  have h:=World.alloc_heap_new (w.alloc (.deferred (some []))) (.loop (rec .ready none))
  rw [World.size_alloc]at h
  rw [← H]
  exact h
 have aC:W1.heap[w.heap.size]? = some (.deferred (some [])):=by
  rw [← H]
  exact (Below.heap_alloc _ _ _ (by simp)).trans (World.alloc_heap_new w _)
 have aA:I [] W1:=by rw [← H]; exact hI.alloc _ (hI.alloc _ h0)
 have ax:A0 W1:=by rw [← H]; exact aw _ _
 refine ⟨w.heap.size+1,[{ target:=.collected w.heap.size,args:=#[] }],W1,{ target:=.fn (.func gf) lb,args:=#[.func (.yield (w.heap.size+1)) #[] #[]] },W1,gf,
  #[.func (.yield (w.heap.size+1)) #[] #[]]++lb,W1,?_,?_,?_,?_,fun _=>by omega,?_⟩
 ·rw [← H,f]
  exact run_enterLoop_outer _ _ _ _ _
 ·simp only [resolve,hg]
  simp [go_sem]
 ·intro f' _
  exact trivial
 ·simp [invoke,go_sem,eg]
 ·refine (ar (w.heap.size+1)
   (fun b W=>I b W∧W.heap[w.heap.size+1]? = some (.loop (rec .ready none))∧W.heap[w.heap.size]? = some (.deferred (some [])))
   (fun b W=>∃ c,U c b W∧W.heap[w.heap.size+1]? = some (.loop (rec .done (some c)))∧W.heap[w.heap.size]? = some (.deferred (some [])))
   W1 ax
   (fun s A B G M=>⟨aB s A B G.1 M,R A B _ _ M (by omega) G.2.1 rfl,R A B _ _ M (by omega) G.2.2 rfl⟩)
   (fun s A B G M=>by
    obtain ⟨c,hc,u,L⟩:=G
    exact ⟨c,ao c s A B hc M,R A B _ _ M (by omega) u rfl,R A B _ _ M (by omega) L rfl⟩)
   ?_ ⟨aA,aD,aC⟩).mono ?_
  ·rintro b x W ⟨hi,u,L⟩ hT
   have hy:=run_yield (P:=P) (args:=encs x) u (by rw [f]; exact aL x)
   rw [f]at hy
   refine ⟨fn,_,assign,body,hy,roundIn_of_wpIn aG (X _ b x W _ hi hT ?_)⟩
   intro E V ad aq aH aF
   have J:=ad.same _ _ (by omega) u rfl
   have aJ:=ad.same _ _ (Nat.le_refl _) L rfl
   have aK:w.heap.size+1<V.heap.size:=(Array.getElem?_eq_some_iff.1 J).1
   refine ⟨_,run_beginRound J (by rw [f]),?_⟩
   have al:(V.putObj (w.heap.size+1) (.loop { rec .ready none with state:=.busy })).heap[w.heap.size+1]? = some (.loop { rec .ready none with state:=.busy }):=World.putObj_heap_same aK
   have aI:(V.putObj (w.heap.size+1) (.loop { rec .ready none with state:=.busy })).heap[w.heap.size]? = some (.deferred (some [])):=(World.putObj_heap_other (by omega)).trans aJ
   have aM:Kp V (V.putObj (w.heap.size+1) (.loop { rec .ready none with state:=.busy })):=ak _ _ _ _ (by omega) J rfl
   refine wpIn_mono (af _ b x E _ (by omega) ⟨_,al⟩ (hI.putObj _ aH (by omega) J rfl) ((ay b x E).putObj (s:=()) _ aF (by omega) J rfl)) ?_
   have N:∀ (d:Option Code) (q:World),KeepsFrom w.heap.size (V.putObj (w.heap.size+1) (.loop { rec .ready none with state:=.busy })) q →
     (Instr.endRound (w.heap.size+1) d).run P q=.ok (.bool d.isNone) (q.putObj (w.heap.size+1) (.loop (rec (if d.isNone then .ready else .done) d))) ∧
     q.heap[w.heap.size+1]? = some (.loop { rec .ready none with state:=.busy }) ∧
     (q.putObj (w.heap.size+1) (.loop (rec (if d.isNone then .ready else .done) d))).heap[w.heap.size+1]? = some (.loop (rec (if d.isNone then .ready else .done) d)) ∧
     (q.putObj (w.heap.size+1) (.loop (rec (if d.isNone then .ready else .done) d))).heap[w.heap.size]? = some (.deferred (some [])):=fun d q j=>by
    have i:=j.same _ _ (by omega) al rfl
    have F:=run_endRound (P:=P) d i
    rw [f]at F ⊢
    exact ⟨F,by rw [f]at i; exact i,World.putObj_heap_same (Array.getElem?_eq_some_iff.1 i).1,(World.putObj_heap_other (by omega)).trans (j.same _ _ (Nat.le_refl _) aI rfl)⟩
   rintro e a3 q Y
   cases e with
   | normal =>
    obtain ⟨j,ap,m⟩:=Y
    obtain ⟨F,i,z,y⟩:=N none q j
    exact ⟨_,_,F,.inl ⟨rfl,az _ _ _ m,⟨hI.putObj _ m (by omega) i rfl,z,y⟩,ab aq (ab (ab aM ap) (ak _ _ _ _ (by omega) i rfl))⟩⟩
   | ret =>
    obtain ⟨j,m⟩:=Y
    obtain ⟨F,i,z,y⟩:=N (some .ret) q j
    exact ⟨_,_,F,.inr ⟨rfl,.ret,(O _).putObj _ m (by omega) i rfl,z,y⟩⟩
   | exit id =>
    obtain ⟨j,m⟩:=Y
    obtain ⟨F,i,z,y⟩:=N (some (.exit id)) q j
    exact ⟨_,_,F,.inr ⟨rfl,.exit id,(O _).putObj _ m (by omega) i rfl,z,y⟩⟩
   | goto t =>
    obtain ⟨j,m⟩:=Y
    obtain ⟨F,i,z,y⟩:=N (some (.goto t)) q j
    exact ⟨_,_,F,.inr ⟨rfl,.goto t,(O _).putObj _ m (by omega) i rfl,z,y⟩⟩
   | panic ch=>exact Y.elim
   | outgrown=>exact Y.elim
  ·rintro e W2 ⟨⟨v,rfl⟩,(⟨xs,G,hi,u,L⟩ | ⟨b,G,c,hi,u,L⟩)⟩
   ·exact ⟨none,_,by have h:=run_endLoop (P:=P) u (by rw [f]; simp); rw [f]at h; exact h,ag _ xs _ (Nat.le_refl _) (hS.putObj _ G (by omega) u rfl) (hI.putObj _ hi (by omega) u rfl) ((World.putObj_heap_other (by omega)).trans L)⟩
   ·exact ⟨some c,_,by have h:=run_endLoop (P:=P) u (by rw [f]; simp); rw [f]at h; exact h,wpIn_wide.2 (ah _ c b _ (Nat.le_refl _) (aE.putObj _ G (by omega) u rfl) ((O c).putObj _ hi (by omega) u rfl) ((World.putObj_heap_other (by omega)).trans L))⟩
end Go.Proofs.YtonihophanmaaaaGreatDoor
namespace Go.Proofs.YtonihophanmaaaaGreatDoor
open Go.RowKit Go.Shelf
attribute [local go_sem] Oper.semAt_some qi jA
theorem zc0 (A:Option Addr) (n c:Nat) (w:World) :
  Calls Tryz.prog 93 #[.slice A n c,.int .i64 2] w fun e w'=>e=.returned (.func (.func 134) #[] #[.pointer (some ⟨w.heap.size,0,none⟩),.pointer (some ⟨w.heap.size+1,0,none⟩)])∧(w.alloc (.cells #[.slice A n c] 26)).alloc (.cells #[.int .i64 2] 3)=w':=by
 go_enter Tryz.func93,Tryz.ntmps93
 go_wp2
 go_ret
 exact ⟨by simp,rfl⟩
def xN (A:Option Addr) (j:Nat):Option Addr:=A.map fun a=>a.add (j*18)
def zh1 (A:Option Addr) (j:Nat):Array Value:=#[.slice (xN A j) 2 2]
def KpD (n b bz:Nat) (A B:World):Prop:=Below n A B∧(b<A.heap.size→B.heap[b]? = A.heap[b]?)∧(bz<A.heap.size→B.heap[bz]? = A.heap[bz]?)
theorem zei {n b c:Nat} {A B C:World} (a:KpD n b c A B) (d:KpD n b c B C):KpD n b c A C:=
 ⟨a.1.trans d.1,fun h=>(d.2.1 (Nat.lt_of_lt_of_le h a.1.size)).trans (a.2.1 h),fun h=>(d.2.2 (Nat.lt_of_lt_of_le h a.1.size)).trans (a.2.2 h)⟩
theorem zhD {n b a m:Nat} (W:World) (l:Nat) (o o':Obj) (hn:n≤m) (g:b<m) (d:a<m) (h:m≤l) (c:W.heap[l]? = some o):KpD n b a W (W.putObj l o'):=by
 have f:=(Array.getElem?_eq_some_iff.1 c).1
 exact ⟨(Below.refl _ W).grown (grownBy_putObj' W l o') (by omega) (fun k e=>by cases e; omega),fun _=>World.putObj_heap_other (by omega),fun _=>World.putObj_heap_other (by omega)⟩
def zix (W:World) (b:Nat):Nat:=match W.cell? ⟨b,0,none⟩ with
 | some (.slice _ n _)=>n
 | _=>0
theorem zct {W:World} {b n c:Nat} {A:Option Addr} {t:TypeId} (h:Blk W b #[.slice A n c] t):zix W b=n:=by
 unfold zix
 rw [h.cell 0]
 rfl
def znJ (W:World) (b n c j:Nat) (A:Option Addr):Prop:=∃ A',Blk W b #[.slice A' (n - 2*j) (c - 2*j)] 26∧(2*j<c→A'=xN A j)
theorem zcV (Y b g n c:Nat) (A:Option Addr) (O:b≠g) (ac:n≤c) (hA:0<n→∃ a,A=some a) (hn:n≤1000000000000) :
  zdC Tryz.prog 134 #[.pointer (some ⟨b,0,none⟩),.pointer (some ⟨g,0,none⟩)] (zh1 A) (fun A B=>A.grownBy B (some b)) (KpD Y b g) (fun _=>True) (fun p _=>p=List.range p.length∧p.length≤n / 2)
   (fun p _=>p=List.range (n / 2)) (fun _ _=>True) (fun W=>Blk W b #[.slice A n c] 26∧Blk W g #[.int .i64 2] 3):=by
 intro l J Jx W H I L N F
 obtain ⟨t,v⟩:=H
 refine callsIn_of_wp Tryz.func134 rfl trivial ?_ rfl
 simp only [Tryz.ntmps134,List.size_toArray,List.length_cons,List.length_nil,Nat.reduceAdd,Nat.reduceSub,Array.replicate_succ,Array.replicate_zero,List.push_toArray,List.append_toArray,List.nil_append,List.cons_append]
 have S:=Lib.hid N
 have Q:=Lib.hid I
 clear N I L
 gi_wp2
 gi_loopw [] (fun wr=>∃ j:Nat,j≤n / 2∧J (List.range j) wr∧znJ wr b n c j A∧Blk wr g #[.int .i64 2] 3) (fun wr=>zix wr b)
 case atStart=>exact ⟨0,Nat.zero_le _,F,⟨A,t,fun _=>by unfold xN; cases A <;> simp [Addr.add]⟩,v⟩
 case round =>
  obtain ⟨j,X,i,⟨A',d,r⟩,q⟩:=hrel
  have c0:=d.cell 0
  have z0:=q.cell 0
  have U:=d.frozen 0
  have u:=zct d
  by_cases V:n - 2*j<2
  ·have z:j=n / 2:=by omega
   subst z
   have y1:¬ (2:Int)≤((n - 2*(n / 2):Nat):Int):=by omega
   gi_wp2_with fail
   go_end0
   exact ⟨⟨_,rfl⟩,.inl i⟩
  ·obtain ⟨a,rfl⟩:=hA (by omega)
   have G:=r (by omega)
   subst G
   obtain ⟨m,C⟩:∃ m,n - 2*j=m:=⟨_,rfl⟩
   obtain ⟨cc,k⟩:∃ cc,c - 2*j=cc:=⟨_,rfl⟩
   rw [C]at c0 d u V
   rw [k]at c0 d
   have s:j+1≤n / 2:=by omega
   have y1:(2:Int)≤(m:Int):=by omega
   have y2:(m:Int)≤(cc:Int):=by omega
   have y3:(2:Int)≤(cc:Int):=by omega
   obtain ⟨fn,Z,E,T,P,M⟩:=S.out (List.range j) j wr i ⟨by rw [List.length_append,List.length_range,List.length_singleton,List.range_succ],by rw [List.length_append,List.length_range]; exact s⟩
   rw [← List.range_succ]at M
   unfold zh1 xN at P
   unfold xN at c0 d
   simp only [Option.map_some]at P c0 d
   have R:=Lib.hid C
   have D:=Lib.hid k
   clear C k i F t v X u r
   gi_wp2_with fail
   refine M.mono ?_
   rintro e x (⟨rfl,_,K,o⟩ | ⟨rfl,y⟩)
   ·have f:Blk x b _ _:=(o.2.1 d.lt).trans d
    have w:Blk x g _ _:=(o.2.2 q.lt).trans q
    have c3:=f.cell 0
    have z3:=w.cell 0
    have f3:=f.frozen 0
    clear o q c0 z0 U
    gi_wp2_with fail
    go_roundw
    case rel =>
     refine ⟨j+1,s,Q.out _ _ _ K (qq x b 0 _),⟨(if cc=2 then some (a.add (j*18)) else some ⟨(a.add (j*18)).block,(a.add (j*18)).off+18,none⟩),?_,fun h=>?_⟩,w.other (Ne.symm O) 0 _⟩
     ·rw [show n - 2*(j+1)=m - 2 from by have:=R.out; omega,show c - 2*(j+1)=cc - 2 from by have:=D.out; omega]
      exact f.set 0 _
     ·rw [if_neg (by have:=D.out; omega)]
      unfold xN
      rw [Option.map_some,show (j+1)*18=j*18+(17+1) from by omega,qS]
    case measure =>
     rw [zct (f.set 0 _),zct d]
     omega
   ·gi_wp2_with fail
    refine bodyPost_ret (results_none rfl _ _ _) rfl ?_
    exact ⟨⟨_,rfl⟩,.inr ⟨_,trivial,y⟩⟩
end Go.Proofs.YtonihophanmaaaaGreatDoor
namespace Go.Proofs.YtonihophanmaaaaGreatDoor
open Go.RowKit Go.Shelf
def qx (W:World) (T:Nat→Prop) (d:Nat) (ps:List jb):Prop:=∀ p∈ps,(LAt W T d p.k.kids (.slice p.kA p.kn p.kc)∧zt p.k.own)∧LAt W T d p.v.kids (.slice p.hA p.hn p.hc)∧zt p.v.own
theorem qx.keep {W W':World} {T:Nat→Prop} {d:Nat} {ps:List jb} (h:qx W T d ps) (b:∀ r,T r→W'.heap[r]? = W.heap[r]?):qx W' T d ps:=fun p a=>⟨⟨(h p a).1.1.keep b,(h p a).1.2⟩,(h p a).2.1.keep b,(h p a).2.2⟩
theorem qx.mono {W:World} {T b:Nat→Prop} {d:Nat} {ps:List jb} (h:qx W T d ps) (c:∀ r,T r→b r):qx W b d ps:=fun p a=>⟨⟨(h p a).1.1.mono c,(h p a).1.2⟩,(h p a).2.1.mono c,(h p a).2.2⟩
theorem qx.keptC {W W':World} {T:Nat→Prop} {d:Nat} {ps:List jb} {row:Option Nat} (h:qx W T d ps) (b:W.grownBy W' row) (c:∀ r,row=some r→∃ o:Obj,W.heap[r]? = some o∧o.isCells=false):qx W' T d ps:=fun p a=>⟨⟨(h p a).1.1.keptC b c,(h p a).1.2⟩,(h p a).2.1.keptC b c,(h p a).2.2⟩
theorem qx.snoc {W:World} {T:Nat→Prop} {d:Nat} {b:List jb} {p:jb} (h:qx W T d b) (c:(LAt W T d p.k.kids (.slice p.kA p.kn p.kc)∧zt p.k.own)∧LAt W T d p.v.kids (.slice p.hA p.hn p.hc)∧zt p.v.own):qx W T d (b++[p]):=fun x a=>by
 rcases List.mem_append.1 a with a | a
 ·exact h x a
 ·rw [List.mem_singleton.1 a]; exact c
def zff (N:Nat) (S:Nat→Prop) (d:Nat) (q:List (Tr×Tr)) (w:World) (pre:List Nat) (W:World):Prop:=
 (∃ v ps,(Blk W N #[v] 117∧W.ownsRow (N+3) 124 19 v pre.length (ps.flatMap qp))∧qx W (fun r=>(S r∨N+3≤r)∧r<W.heap.size∧v.ownBlock≠some r) d ps∧ps.map jb.key=q.take pre.length∧ps.length=pre.length)∧Below N w W
def zn4 (_:Code) (_:List Nat) (_:World):Prop:=False
def zn3 (A:Option Addr) (n:Nat) (T:Array Value) (pre:List Nat) (x:Nat) (a':Act) (_:World):Prop:=
 (x=pre.length∧pre.length<n / 2)∧a'={ tmps:=(T.setIfInBounds 12 (.slice (xN A x) 2 2)).setIfInBounds 4 (.slice (xN A x) 2 2),defers:=[] }
theorem zlY (N:Nat) (S:Nat→Prop) (d:Nat) (q:List (Tr×Tr)) (w:World) {m:Nat} (n:N≤m) (o:N≤w.heap.size):OwnFrom m (zff N S d q w):=by
 rintro s X Y f ⟨⟨v,p,⟨g,i⟩,j,k⟩,l⟩ a c
 have b:=fun r e=>(c r e).2
 refine ⟨⟨v,p,⟨kw g a b,vZ i a b⟩,(j.keptC a b).mono (fun r h=>⟨h.1,Nat.lt_of_lt_of_le h.2.1 a.size,h.2.2⟩),k⟩,?_⟩
 exact ownFrom_below (β:=Unit) o n () X Y f l a c
theorem zkq {N:Nat} {S:Nat→Prop} {d:Nat} {q:List (Tr×Tr)} {w X Y:World} {b:List Nat} (l:∀ r,S r→r<N) (o:w.heap.size=N) (h:zff N S d q w b X) (a:X.grownBy Y (some (N+1))):zff N S d q w b Y:=by
 obtain ⟨⟨v,n,⟨i,c⟩,j,k⟩,f⟩:=h
 have m:v.ownBlock≠some (N+1):=fun e=>by
  have:=(c.lt _ e).1
  omega
 refine ⟨⟨v,n,⟨i.kept a (by simp),c.kept a (.inr m)⟩,(j.keep (fun r g=>a.block r g.2.1 (fun e=>?_))).mono (fun r h=>⟨h.1,Nat.lt_of_lt_of_le h.2.1 a.size,h.2.2⟩),k⟩,f.grown a (by have:=f.size; omega) (fun q e=>by cases e; omega)⟩
 have e:=Option.some.inj e
 rcases g.1 with h | h
 ·have:=l r h
  omega
 ·omega
theorem zlZ {N d j g s:Nat} {S:Nat→Prop} {q:List (Tr×Tr)} {w W G W7 c:World} {L:List Nat} {x:Nat} {v:Value} {B:List jb} {p:jb} (A:∀ r,S r→r<N) (hN:N+3≤W.heap.size) (C:Below N w W) (hw:w.heap.size=N)
  (hv:Blk W N #[v] 117) (D:W.ownsRow (N+3) 124 19 v j (B.flatMap qp)) (ab:qx W (fun r=>(S r∨N+3≤r)∧r<W.heap.size∧v.ownBlock≠some r) d B)
  (u:Below W.heap.size W G) (y:Below G.heap.size G W7) (n:c.ownsRow (N+3) 124 19 (.slice (some ⟨g,0,none⟩) (j+1) s) (j+1) (B.flatMap qp++qp p)) (b:W7.grownBy c v.ownBlock) (I:v.ownBlock=some g∨g=W7.heap.size)
  (i:LAt W S d p.k.kids (.slice p.kA p.kn p.kc)) (X:zt p.k.own) (Q:LAt W7 (fun r=>(S r∨G.heap.size≤r)∧r<W7.heap.size) d p.v.kids (.slice p.hA p.hn p.hc)) (ac:zt p.v.own)
  (M:B.map jb.key++[p.key]=q.take (j+1)) (O:(L++[x]).length=j+1) (aa:B.length=j) :
  KeepsFrom (N+3) W (c.setCell ⟨N,0,none⟩ (.slice (some ⟨g,0,none⟩) (j+1) s))∧KpD N (N+1) (N+2) W (c.setCell ⟨N,0,none⟩ (.slice (some ⟨g,0,none⟩) (j+1) s))∧zff N S d q w (L++[x]) (c.setCell ⟨N,0,none⟩ (.slice (some ⟨g,0,none⟩) (j+1) s)):=by
 have ah:=u.size
 have ai:=y.size
 have aj:=b.size
 have F:∀ r,v.ownBlock=some r→N+3≤r∧r<W.heap.size:=fun r e=>D.lt r e
 have af:N+3≤g:=(n.lt g rfl).1
 have ag:g<c.heap.size:=(n.lt g rfl).2
 have m:∀ k,k<N+3→v.ownBlock≠some k:=fun k i e=>by
  have:=(F k e).1
  omega
 have t:∀ k,k<W.heap.size→W7.heap[k]? = W.heap[k]? := fun k i=>(y.block k (by omega)).trans (u.block k i)
 have T:Blk c N #[v] 117:=(b.block N (by omega) (fun e=>m N (by omega) e.symm)).trans ((t N (by omega)).trans hv)
 obtain ⟨r,a⟩:∃ r,Value.slice (some (⟨g,0,none⟩:Addr)) (j+1) s=r:=⟨_,rfl⟩
 obtain ⟨W9,z⟩:∃ W9,c.setCell ⟨N,0,none⟩ r=W9:=⟨_,rfl⟩
 have ak:W9.heap.size=c.heap.size:=by rw [← z]; simp [World.setCell]
 have e9:∀ k,k≠N→W9.heap[k]? = c.heap[k]? := fun k i=>by rw [← z]; exact Below.heap_setCell c ⟨N,0,none⟩ _ k i
 have l:c.grownBy W9 (some N):=by rw [← z]; exact qq c N 0 r
 have U:Blk W9 N #[r] 117:=by rw [← z]; exact T.set 0 r
 have H:W9.ownsRow (N+3) 124 19 r (j+1) (B.flatMap qp++qp p):=by
  rw [← a]
  exact n.kept l (.inr (fun e=>by
   have e:=Option.some.inj e
   simp only at e
   omega))
 have f:∀ k,k<W7.heap.size→v.ownBlock≠some k→k≠N→W9.heap[k]? = W7.heap[k]? := fun k i Z V=>(e9 k V).trans (b.block k i (fun e=>Z e.symm))
 rw [a,z]
 have E:r.ownBlock=some g:=by rw [← a]; rfl
 refine ⟨⟨by omega,fun k o i P hc=>?_⟩,⟨⟨?_,?_,?_,by omega,fun k i=>?_⟩,fun _=>?_,fun _=>?_⟩,⟨⟨r,B++[p],⟨U,?_⟩,?_,?_,?_⟩,?_⟩⟩
 ·have Y:=(Array.getElem?_eq_some_iff.1 P).1
  refine ((f k (by omega) (fun e=>?_) (by omega)).trans (t k Y)).trans P
  obtain ⟨o',K,J⟩:=xu D e
  rw [P]at K
  cases K
  rw [hc]at J
  cases J
 ·exact l.os.trans (b.os.trans (y.os.trans u.os))
 ·exact l.tape.trans (b.tape.trans (y.tape.trans u.tape))
 ·exact l.output.trans (b.output.trans (y.output.trans u.output))
 ·exact (f k (by omega) (m k (by omega)) (by omega)).trans (t k (by omega))
 ·exact (f _ (by omega) (m _ (by omega)) (by omega)).trans (t _ (by omega))
 ·exact (f _ (by omega) (m _ (by omega)) (by omega)).trans (t _ (by omega))
 ·rw [O,List.flatMap_append,List.flatMap_cons,List.flatMap_nil,List.append_nil]
  exact H
 ·refine qx.snoc ((ab.keep (fun r a=>(f r (by omega) a.2.2 (fun e=>?_)).trans (t r a.2.1))).mono (fun r a=>⟨a.1,by omega,?_⟩)) ⟨⟨(i.keep (fun r a=>?_)).mono (fun r a=>⟨.inl a,?_,?_⟩),X⟩,(Q.keep (fun r a=>?_)).mono (fun r a=>⟨?_,?_,?_⟩),ac⟩
  ·rcases a.1 with h | h
   ·have:=A r h
    omega
   ·omega
  ·rw [E]
   intro e
   have e:=Option.some.inj e
   rcases I with h | h
   ·exact a.2.2 (h.trans (by rw [e]))
   ·omega
  ·have:=A r a
   exact (f r (by omega) (m r (by omega)) (by omega)).trans (t r (by omega))
  ·refine f r a.2 (fun e=>?_) ?_
   ·have:=F r e
    rcases a.1 with h | h
    ·have:=A r h
     omega
    ·omega
   ·rcases a.1 with h | h
    ·have:=A r h
     omega
    ·omega
  ·have:=A r a
   omega
  ·rw [E]
   intro e
   have e:=Option.some.inj e
   have:=A r a
   omega
  ·exact a.1.imp id (fun h=>by omega)
  ·have:=a.2
   omega
  ·rw [E]
   intro e
   have e:=Option.some.inj e
   rcases a.1 with h | h
   ·have:=A r h
    omega
   ·rcases I with R | R
    ·have:=F g R
     omega
    ·have:=a.2
     omega
 ·rw [List.map_append,O]
  exact M
 ·rw [O,List.length_append,aa]
  rfl
 ·refine ⟨l.os.trans (b.os.trans (y.os.trans (u.os.trans C.os))),l.tape.trans (b.tape.trans (y.tape.trans (u.tape.trans C.tape))),l.output.trans (b.output.trans (y.output.trans (u.output.trans C.output))),by have:=C.size; omega,fun k i=>?_⟩
  exact ((f k (by omega) (m k (by omega)) (by omega)).trans (t k (by omega))).trans (C.block k i)
def qF (e:Int):Bool:=decide (e=0)
theorem zjt (e:Int) (w:World) :
  Calls Tryz.prog 49 #[.int .i64 e] w fun x w'=>x=.returned (.bool (!qF e))∧Below w.heap.size w w':=by
 unfold qF
 by_cases h:e=0
 ·subst h
  go_enter Tryz.func49,Tryz.ntmps49
  go_wp2_with fail
  go_ret
  exact ⟨rfl,Below.refl _ _⟩
 ·have a:(e == 0)=false:=by rw [beq_eq_false_iff_ne]; exact h
  rw [decide_eq_false h]
  go_enter Tryz.func49,Tryz.ntmps49
  go_wp2_with fail
  go_ret
  exact ⟨by simp [h],Below.refl _ _⟩
theorem zjs (A:Option Addr) (n c:Nat) (a:List Int) (B:Nat) (w:World) (hn:n≤9223372036854775807) (q:xg w B 1 A n (a.map fun e=>.int .i64 e)) (C:B≤w.heap.size) :
  Calls Tryz.prog 73 #[.slice A n c,.func (.func 49) #[] #[]] w fun e w'=>(∃ k:Int,e=.returned (.int .i64 k)∧decide (0≤k) = !(a.all qF))∧Below w.heap.size w w':=by
 have d:a.length=n:=by
  have:=q.1
  simpa using this
 have y:=Lib.hid q
 clear q
 go_enter Tryz.func73,Tryz.ntmps73
 go_wp2_with fail
 go_loopw [8] (fun i wr=>∃ k:Nat,k≤n∧i=.int .i64 k∧(a.take k).all qF=true∧Below w.heap.size w wr) (fun i _=>n - (intOf i).toNat)
 case atStart=>exact ⟨0,by omega,rfl,rfl,Below.refl _ _⟩
 case round =>
  obtain ⟨k,H,rfl,hall,g⟩:=hrel
  by_cases v:k<n
  ·have l:k<a.length:=by omega
   obtain ⟨G,rfl,F,hc⟩:=(y.out.below g C).at_ v
   have j:=hc 0 (by omega)
   have o:(a.take (k+1)).all qF=qF a[k]:=by
    rw [List.take_succ_eq_append_getElem l,List.all_append,hall]
    simp
   have h:=Lib.hid o
   obtain ⟨e,b⟩:∃ s,a[k]=s:=⟨_,rfl⟩
   rw [List.getElem?_map,Nat.mul_one,Nat.add_zero,List.getElem?_eq_getElem l,b]at j
   rw [b]at h
   have z:=Lib.hid b
   have r:=Lib.hid (zjt e wr)
   have E:(k:Int)<n:=by omega
   simp only [Option.map_some]at j
   clear b o hall d hc
   go_wp2_with fail
   with_reducible refine r.out.mono ?_
   rintro x J ⟨rfl,t⟩
   have m:=g.trans (t.mono g.size)
   clear t r j
   cases b:qF e with
   | true =>
    rw [b]at h
    clear b
    simp only [Bool.not_true]
    go_wp2_with fail
    go_roundw
    case rel=>exact ⟨k+1,by omega,by go_num,h.out,m⟩
    case measure=>simp [intOf]; omega
   | false =>
    have u:a.all qF=false:=by
     rw [Bool.eq_false_iff]
     intro D
     have:=List.all_eq_true.1 D a[k] (List.getElem_mem l)
     rw [z.out,b]at this
     cases this
    have p:=Lib.hid u
    clear b u
    simp only [Bool.not_false]
    go_wp2_with fail
    go_ret
    exact ⟨⟨k,rfl,by rw [p.out]; simp⟩,m⟩
  ·obtain rfl:k=n:=by omega
   have f:a.all qF=true:=by
    rw [← d,List.take_length]at hall
    exact hall
   have p:=Lib.hid f
   have I:¬ (k:Int)<k:=by omega
   clear hall f d
   go_wp2_with fail
   go_ret
   exact ⟨⟨-1,rfl,by rw [p.out]; rfl⟩,g⟩
theorem zft (A:Option Addr) (n c:Nat) (d:List Int) (B:Nat) (w:World) (hn:n≤9223372036854775807) (g:xg w B 1 A n (d.map fun e=>.int .i64 e)) (h:B≤w.heap.size) :
  Calls Tryz.prog 48 #[.slice A n c,.func (.func 49) #[] #[]] w fun e w'=>e=.returned (.bool (!d.all qF))∧Below w.heap.size w w':=by
 have b:=Lib.hid (zjs A n c d B w hn g h)
 clear g
 cases a:d.all qF with
 | true =>
  rw [a]at b
  clear a
  go_enter Tryz.func48,Tryz.ntmps48
  go_wp2_with fail
  refine b.out.mono ?_
  rintro e i ⟨⟨k,rfl,f⟩,a⟩
  simp only [Bool.not_true]at f
  clear b
  go_wp2_with fail
  go_ret
  exact ⟨rfl,a⟩
 | false =>
  rw [a]at b
  clear a
  go_enter Tryz.func48,Tryz.ntmps48
  go_wp2_with fail
  refine b.out.mono ?_
  rintro e i ⟨⟨k,rfl,f⟩,a⟩
  simp only [Bool.not_false]at f
  clear b
  go_wp2_with fail
  go_ret
  exact ⟨rfl,a⟩
theorem zfu (A:Option Addr) (n c:Nat) (a:List Int) (B:Nat) (w:World) (hn:n≤9223372036854775807) (f:xg w B 1 A n (a.map fun e=>.int .i64 e)) (g:B≤w.heap.size) :
  Calls Tryz.prog 33 #[.slice A n c] w fun e w'=>e=.returned (.bool (a.all qF))∧Below w.heap.size w w':=by
 have d:=Lib.hid (zft A n c a B w hn f g)
 clear f
 generalize a.all qF=b at d
 go_enter Tryz.func33,Tryz.ntmps33
 go_wp2_with fail
 refine d.out.mono ?_
 rintro e i ⟨rfl,h⟩
 clear d
 go_wp2_with fail
 go_ret
 exact ⟨by simp,h⟩
end Go.Proofs.YtonihophanmaaaaGreatDoor
