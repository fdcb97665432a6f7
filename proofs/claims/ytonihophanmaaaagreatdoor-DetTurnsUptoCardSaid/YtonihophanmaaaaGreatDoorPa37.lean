/- The texts RangeA, CrM, put together. -/
import Derived.Test.YtonihophanmaaaaGreatDoorPa08
import Derived.Test.YtonihophanmaaaaGreatDoorPa36
namespace Go.Proofs.YtonihophanmaaaaGreatDoor
open Go.RowKit Go.Shelf
def SeqA {α:Type} (P:Program) (g:Nat) (lb:Array Value) (encs:α→Array Value) (Mv Kp:World→World→Prop) (Ct:α→Prop) (T:List α→World→World→Prop) (S Sp:List α→World→Prop) (A0:World→Prop):Prop:=
 ∀ (l:Nat) (J Jx:List α→World→Prop) (W:World),A0 W→(∀ s A B,J s A→Mv A B→J s B)→(∀ s A B,Jx s A→Mv A B→Jx s B) →
  (∀ pre x A W1,J pre A→Mv A W1→J pre W1→T (pre++[x]) A W1→YieldAt Fence.wide 7 P l (encs x) W1 fun e W' =>
   (e=.returned (.bool true)∧Ct x∧J (pre++[x]) W'∧Kp W1 W')∨(e=.returned (.bool false)∧Jx (pre++[x]) W')) →
  J [] W →
  CallsIn Fence.wide 8 P g (#[.func (.yield l) #[] #[]]++lb) W fun e W'=>(∃ v,e=.returned v)∧((∃ xs,S xs W'∧J xs W')∨(∃ pre,Sp pre W'∧Jx pre W'))
theorem wp_rangeFuncA {P:Program} {α:Type} {g:Operand} {ps:Array Tmp} {assign body:Code} {Q:Exit→Act→World→Prop} {a:Act} {w:World}
  {gf:Nat} {lb:Array Value} (hg:a.eval g=.func (.func gf) #[] lb) (eg:∀ args w,(callFunc gf args).run P w=.ok (.enter gf args) w)
  {encs:α→Array Value} {Mv Kp:World→World→Prop} {Ct:α→Prop} {T:List α→World→World→Prop} {S Sp:List α→World→Prop} {A0:World→Prop} (hseq:SeqA P gf lb encs Mv Kp Ct T S Sp A0)
  (hMv:∀ (A B:World) (k:Nat) (o:Obj),Mv A B→w.heap.size≤k→A.heap[k]? = some o→o.isCells=false→B.heap[k]? = some o)
  (hA0:∀ o o',A0 ((w.alloc o).alloc o'))
  (hKt:∀ {A B C:World},Kp A B→Kp B C→Kp A C) (hKb:∀ (W:World) (l:Nat) (o o':Obj),w.heap.size≤l→W.heap[l]? = some o→o.isCells=false→Kp W (W.putObj l o')) (hps:∀ x,(encs x).size=ps.size)
  (I:List α→World→Prop) (Ix:Code→List α→World→Prop) (hI:OwnFrom w.heap.size I) (hIx:∀ c,OwnFrom w.heap.size (Ix c))
  (hIM:∀ s A B,I s A→Mv A B→I s B) (hIxM:∀ c s A B,Ix c s A→Mv A B→Ix c s B) (h0:I [] w) (hCt:∀ pre x W,I (pre++[x]) W→Ct x)
  (Ax:Array Value→List α→α→Act→World→Prop) (hAx:∀ pre x a',OwnFrom w.heap.size (fun (_:Unit) W=>Ax a.tmps pre x a' W))
  (hassign:∀ (l:Nat) (pre:List α) (x:α) (A W:World) (K:Act→World→Prop),I pre A→Mv A W→I pre W→T (pre++[x]) A W→(∀ a' W',KeepsFrom w.heap.size W W'→Kp W W'→I pre W'→Ax a.tmps pre x a' W'→K a' W') →
   assign.wpIn (Fence.wide.inRound l) 7 P (Exit.then K (fun _ _ _=>False)) { tmps:=(ps.zip (encs x)).foldl (fun t (p,v)=>t.setIfInBounds p v) a.tmps,defers:=[] } W)
  (hbody:∀ (l:Nat) (pre:List α) (x:α) (a':Act) (W:World),w.heap.size≤l→(∃ r,W.heap[l]? = some (.loop r))→I pre W→Ax a.tmps pre x a' W→body.wpIn (Fence.wide.inRound l) 7 P (ownPostG w.heap.size Kp I Ix (pre++[x]) W) a' W)
  (hS:OwnFrom w.heap.size S) (hSp:OwnFrom w.heap.size Sp)
  (hdone:∀ (D:Nat) (xs:List α) (W:World),w.heap.size≤D→S xs W→I xs W→W.heap[D]? = some (.deferred (some []))→Q .normal { a with defers:={ target:=.collected D,args:=#[] }::a.defers } W)
  (hstop:∀ (D:Nat) (c:Code) (pre:List α) (W:World),w.heap.size≤D→Sp pre W→Ix c pre W→W.heap[D]? = some (.deferred (some []))→c.wp P Q { a with defers:={ target:=.collected D,args:=#[] }::a.defers } W) :
  (Code.rangeFunc g ps assign body).wp P Q a w:=by
 refine (wpIn_wide (n:=9)).1 ?_
 refine wpIn_rangeFunc ?_
 intro fn hfn
 rw [show Fence.wide.round=none from rfl]
 obtain ⟨rec,hrec⟩:∃ rec:LoopState→Option Code→Loop,rec=fun st pe=>{ state:=st,pending:=pe,fn,tmps:=a.tmps,params:=ps,assign,body,defers:=w.heap.size }:=⟨_,rfl⟩
 obtain ⟨W1,hW1⟩:∃ W1,(w.alloc (.deferred (some []))).alloc (.loop (rec .ready none))=W1:=⟨_,rfl⟩
 have hL1:W1.heap[w.heap.size+1]? = some (.loop (rec .ready none)):=by
  have h:=World.alloc_heap_new (w.alloc (.deferred (some []))) (.loop (rec .ready none))
  rw [World.size_alloc]at h
  rw [← hW1]
  exact h
 have hK1:W1.heap[w.heap.size]? = some (.deferred (some [])):=by
  rw [← hW1]
  exact (Below.heap_alloc _ _ _ (by simp)).trans (World.alloc_heap_new w _)
 have hI1:I [] W1:=by rw [← hW1]; exact hI.alloc _ (hI.alloc _ h0)
 have hA1:A0 W1:=by rw [← hW1]; exact hA0 _ _
 refine ⟨w.heap.size+1,[{ target:=.collected w.heap.size,args:=#[] }],W1,{ target:=.fn (.func gf) lb,args:=#[.func (.yield (w.heap.size+1)) #[] #[]] },W1,gf,
  #[.func (.yield (w.heap.size+1)) #[] #[]]++lb,W1,?_,?_,?_,?_,fun _=>by omega,?_⟩
 ·rw [← hW1,hrec]
  exact run_enterLoop_outer _ _ _ _ _
 ·simp only [resolve,hg]
  simp [go_sem]
 ·intro f' _
  exact trivial
 ·simp [invoke,go_sem,eg]
 ·refine (hseq (w.heap.size+1)
   (fun pre W=>I pre W∧W.heap[w.heap.size+1]? = some (.loop (rec .ready none))∧W.heap[w.heap.size]? = some (.deferred (some [])))
   (fun pre W=>∃ c,Ix c pre W∧W.heap[w.heap.size+1]? = some (.loop (rec .done (some c)))∧W.heap[w.heap.size]? = some (.deferred (some [])))
   W1 hA1
   (fun s A B hs hm=>⟨hIM s A B hs.1 hm,hMv A B _ _ hm (by omega) hs.2.1 rfl,hMv A B _ _ hm (by omega) hs.2.2 rfl⟩)
   (fun s A B hs hm=>by
    obtain ⟨c,hc,hl,hk⟩:=hs
    exact ⟨c,hIxM c s A B hc hm,hMv A B _ _ hm (by omega) hl rfl,hMv A B _ _ hm (by omega) hk rfl⟩)
   ?_ ⟨hI1,hL1,hK1⟩).mono ?_
  ·rintro pre x A W ⟨hiA,_,_⟩ hmv ⟨hi,hl,hk⟩ hT
   have hy:=run_yield (P:=P) (args:=encs x) hl (by rw [hrec]; exact hps x)
   rw [hrec]at hy
   refine ⟨fn,_,assign,body,hy,roundIn_of_wpIn hfn (hassign _ pre x A W _ hiA hmv hi hT ?_)⟩
   intro a' Wa hkfa hkpa hia hax
   have hla:=hkfa.same _ _ (by omega) hl rfl
   have hka:=hkfa.same _ _ (Nat.le_refl _) hk rfl
   have hlt:w.heap.size+1<Wa.heap.size:=(Array.getElem?_eq_some_iff.1 hla).1
   refine ⟨_,run_beginRound hla (by rw [hrec]),?_⟩
   have hl2:(Wa.putObj (w.heap.size+1) (.loop { rec .ready none with state:=.busy })).heap[w.heap.size+1]? = some (.loop { rec .ready none with state:=.busy }):=World.putObj_heap_same hlt
   have hk2:(Wa.putObj (w.heap.size+1) (.loop { rec .ready none with state:=.busy })).heap[w.heap.size]? = some (.deferred (some [])):=(World.putObj_heap_other (by omega)).trans hka
   have hw2:Kp Wa (Wa.putObj (w.heap.size+1) (.loop { rec .ready none with state:=.busy })):=hKb _ _ _ _ (by omega) hla rfl
   refine wpIn_mono (hbody _ pre x a' _ (by omega) ⟨_,hl2⟩ (hI.putObj _ hia (by omega) hla rfl) ((hAx pre x a').putObj (s:=()) _ hax (by omega) hla rfl)) ?_
   have fin:∀ (jump:Option Code) (W3:World),KeepsFrom w.heap.size (Wa.putObj (w.heap.size+1) (.loop { rec .ready none with state:=.busy })) W3 →
     (Instr.endRound (w.heap.size+1) jump).run P W3=.ok (.bool jump.isNone) (W3.putObj (w.heap.size+1) (.loop (rec (if jump.isNone then .ready else .done) jump))) ∧
     W3.heap[w.heap.size+1]? = some (.loop { rec .ready none with state:=.busy }) ∧
     (W3.putObj (w.heap.size+1) (.loop (rec (if jump.isNone then .ready else .done) jump))).heap[w.heap.size+1]? = some (.loop (rec (if jump.isNone then .ready else .done) jump)) ∧
     (W3.putObj (w.heap.size+1) (.loop (rec (if jump.isNone then .ready else .done) jump))).heap[w.heap.size]? = some (.deferred (some [])):=fun jump W3 hk3=>by
    have hl3:=hk3.same _ _ (by omega) hl2 rfl
    have hr:=run_endRound (P:=P) jump hl3
    rw [hrec]at hr ⊢
    exact ⟨hr,by rw [hrec]at hl3; exact hl3,World.putObj_heap_same (Array.getElem?_eq_some_iff.1 hl3).1,(World.putObj_heap_other (by omega)).trans (hk3.same _ _ (Nat.le_refl _) hk2 rfl)⟩
   rintro e a3 W3 hp
   cases e with
   | normal =>
    obtain ⟨hk3,hkp3,hi3⟩:=hp
    obtain ⟨hr,hl3,hl4,hk4⟩:=fin none W3 hk3
    exact ⟨_,_,hr,.inl ⟨rfl,hCt _ _ _ hi3,⟨hI.putObj _ hi3 (by omega) hl3 rfl,hl4,hk4⟩,hKt hkpa (hKt (hKt hw2 hkp3) (hKb _ _ _ _ (by omega) hl3 rfl))⟩⟩
   | ret =>
    obtain ⟨hk3,hi3⟩:=hp
    obtain ⟨hr,hl3,hl4,hk4⟩:=fin (some .ret) W3 hk3
    exact ⟨_,_,hr,.inr ⟨rfl,.ret,(hIx _).putObj _ hi3 (by omega) hl3 rfl,hl4,hk4⟩⟩
   | exit id =>
    obtain ⟨hk3,hi3⟩:=hp
    obtain ⟨hr,hl3,hl4,hk4⟩:=fin (some (.exit id)) W3 hk3
    exact ⟨_,_,hr,.inr ⟨rfl,.exit id,(hIx _).putObj _ hi3 (by omega) hl3 rfl,hl4,hk4⟩⟩
   | goto t =>
    obtain ⟨hk3,hi3⟩:=hp
    obtain ⟨hr,hl3,hl4,hk4⟩:=fin (some (.goto t)) W3 hk3
    exact ⟨_,_,hr,.inr ⟨rfl,.goto t,(hIx _).putObj _ hi3 (by omega) hl3 rfl,hl4,hk4⟩⟩
   | panic ch=>exact hp.elim
   | outgrown=>exact hp.elim
  ·rintro e W2 ⟨⟨v,rfl⟩,(⟨xs,hs,hi,hl,hk⟩ | ⟨pre,hs,c,hi,hl,hk⟩)⟩
   ·exact ⟨none,_,by have h:=run_endLoop (P:=P) hl (by rw [hrec]; simp); rw [hrec]at h; exact h,hdone _ xs _ (Nat.le_refl _) (hS.putObj _ hs (by omega) hl rfl) (hI.putObj _ hi (by omega) hl rfl) ((World.putObj_heap_other (by omega)).trans hk)⟩
   ·exact ⟨some c,_,by have h:=run_endLoop (P:=P) hl (by rw [hrec]; simp); rw [hrec]at h; exact h,wpIn_wide.2 (hstop _ c pre _ (Nat.le_refl _) (hSp.putObj _ hs (by omega) hl rfl) ((hIx c).putObj _ hi (by omega) hl rfl) ((World.putObj_heap_other (by omega)).trans hk))⟩
inductive Ev where
 | ok (t:Tr) (v:Value)
 | no (o:Own) (v:Value) (e:Int)
def Ev.enc:Ev→Array Value
 | .ok t v=>#[nodeV t.own v,.nilIface]
 | .no o v e=>#[nodeV o v,errW e]
def Ev.tree:Ev→List Tr
 | .ok t _=>[t]
 | .no _ _ _=>[]
def Ev.isOk:Ev→Prop
 | .ok _ _=>True
 | .no _ _ _=>False
def treesE (l:List Ev):List Tr:=l.flatMap Ev.tree
theorem treesE_snoc (l:List Ev) (t:Tr) (v:Value):treesE (l++[.ok t v])=treesE l++[t]:=by
 unfold treesE
 rw [List.flatMap_append]
 rfl
theorem treesE_len:∀ {l:List Ev},(∀ x∈l,x.isOk)→(treesE l).length=l.length
 | [],_=>rfl
 | .ok t v::l,h=>by
  have:=treesE_len (l:=l) (fun x hx=>h x (by simp [hx]))
  unfold treesE at this ⊢
  rw [List.flatMap_cons,List.length_append,this,List.length_cons]
  show 1+_=_
  omega
 | .no o v e::l,h=>(h (.no o v e) (by simp)).elim
theorem item_less {F d:Nat} {l r:List UInt8} {t:Tr} (h:itemP F d l=.good t r):r.length+1≤l.length:=by
 obtain ⟨own,e,g,_⟩:=goodP_item F d l t r h
 have:=own_pos (wantP_item F d) g
 rw [e,List.length_append]
 omega
theorem times_add (p:Psr Tr):∀ (a b:Nat) (acc:List Tr) (l:List UInt8),timesP p (a+b) acc l=bindP (timesP p a acc) (fun x=>timesP p b x) l
 | 0,b,acc,l=>by
  rw [Nat.zero_add]
  rfl
 | a+1,b,acc,l=>by
  rw [show a+1+b=(a+b)+1 by omega]
  show bindP p _ l=bindP (bindP p _) _ l
  unfold bindP
  cases h:p l with
  | bad e=>simp only
  | good t r =>
   simp only
   exact times_add p a b _ r
def remP (p:Psr Tr) (m:Nat) (k:List Tr→Psr (List Tr)) (acc:List Tr):Psr (List Tr):=bindP (timesP p m acc) k
theorem remP_bad {p:Psr Tr} {m:Nat} {k:List Tr→Psr (List Tr)} {acc:List Tr} {l:List UInt8} {e:Int} (h:p l=.bad e):remP p (m+1) k acc l=.bad e:=by
 unfold remP
 have:timesP p (m+1) acc l=.bad e:=bindP_bad h
 exact bindP_bad this
theorem remP_good {p:Psr Tr} {m:Nat} {k:List Tr→Psr (List Tr)} {acc:List Tr} {l r:List UInt8} {t:Tr} (h:p l=.good t r):remP p (m+1) k acc l=remP p m k (acc++[t]) r:=by
 unfold remP
 have:timesP p (m+1) acc l=timesP p m (acc++[t]) r:=bindP_of h
 unfold bindP
 rw [this]
def ItemsT (p dp n d sz:Nat) (pre:List Ev) (W:World):Prop:=pre.length≤sz+1∧∀ xs x,pre=xs++[x]→match x with
 | .ok t v=>(∃ A m c,v=.slice A m c)∧LAt W (fun q=>n≤q∧q<W.heap.size) d t.kids v∧OwnOk t.own∧xs.length+1≤sz
 | .no _ v e=>(∃ A m c,v=.slice A m c)∧e≠0∧∃ s',RdB W p s' dp∧s'.size≤sz
def ItemsS (p dp sz:Nat) (res:PR (List Tr)) (xs:List Ev) (W:World):Prop:=(∀ x∈xs,x.isOk)∧∃ r,res=.good (treesE xs) r∧RdB W p (bs r) dp∧(bs r).size≤sz
def ItemsSp (res:PR (List Tr)) (pre:List Ev) (_:World):Prop:=(∃ xs o v e,pre=xs++[.no o v e]∧res=.bad e∧e≠0)∨(∀ x∈pre,x.isOk)
def ItemsKp (n bS bP bZ:Nat) (A B:World):Prop:=Below n A B∧(bS<A.heap.size→B.heap[bS]? = A.heap[bS]?)∧(bP<A.heap.size→B.heap[bP]? = A.heap[bP]?)∧(bZ<A.heap.size→B.heap[bZ]? = A.heap[bZ]?)
def RdX (p dp sz:Nat) (W:World):Prop:=∃ s',RdB W p s' dp∧s'.size≤sz
def MvR (p dp sz:Nat) (A B:World):Prop:=A.grownBy B (some p)∧(RdX p dp sz A→RdX p dp sz B)
theorem mv_below {p dp sz:Nat} {A B:World} (h:Below A.heap.size A B):MvR p dp sz A B:=⟨below_grown h _,fun ⟨s',h1,h2⟩=>⟨s',h1.below h h1.lt,h2⟩⟩
theorem mv_to {p dp sz:Nat} {A B:World} {s':ByteArray} (h:A.grownBy B (some p)) (hr:RdB B p s' dp) (hs:s'.size≤sz):MvR p dp sz A B:=⟨h,fun _=>⟨s',hr,hs⟩⟩
theorem end_size {sr:ByteArray} {sz:Nat} (h:sr.size≤sz):(if sr.data.toList.head? = some 255 then bs (sr.data.toList.drop 1) else sr).size≤sz:=by
 split
 ·rw [bs_size,List.length_drop]
  have:sr.data.toList.length=sr.size:=by simp
  omega
 ·exact h
structure ItemsA (w0:World) (p dp bS bP bZ size:Nat) (h:Nat×Nat×Nat) (s:ByteArray) (W:World):Prop where
 base:Below w0.heap.size w0 W
 rd:RdB W p s dp
 cS:Blk W bS #[.int .i64 h.1,.int .i64 h.2.1,.int .u64 h.2.2] 137
 cP:Blk W bP #[.pointer (some ⟨p,0,none⟩)] 84
 cZ:Blk W bZ #[.int .i64 size] 3
end Go.Proofs.YtonihophanmaaaaGreatDoor
