/- The texts JsE, RangeA, JrF, RowIn, put together. -/
import Derived.Test.YtfckekaegjjmkaaGreatDoorPh23
import Derived.Test.YtfckekaegjjmkaaGreatDoorPh07
import Derived.Test.YtfckekaegjjmkaaGreatDoorPh01
import Derived.Laws.Tables
import Derived.Laws.Rows
namespace Go.Proofs.YtfckekaegjjmkaaGreatDoor
open Go.RowKit Go.Shelf

theorem bindJ_agree {α β:Type} {p p':Psr α} {f f':α → Psr β} {l:List UInt8} (h:p l=p' l) (hf:∀ a r,p' l=.good a r → f a r=f' a r):bindP p f l=bindP p' f' l:=by
 unfold bindP
 rw [h]
 cases hp:p' l with
 | bad e=>rfl
 | good a r=>exact hf a r hp
theorem sp_len (l:List UInt8):(spJ l).length ≤ l.length:=by
 obtain ⟨s,h,_,_⟩:=sp_parts l
 conv=>rhs; rw [h,List.length_append]
 omega
theorem next_agree {en:UInt8} {a:List Tr} {go go':Psr (List Tr)} {s:List UInt8} (h:∀ r,r.length + 1 ≤ s.length → go (spJ r)=go' (spJ r)):nextJ en a go s=nextJ en a go' s:=by
 unfold nextJ
 have hl:=sp_len s
 cases hq:spJ s with
 | nil=>rfl
 | cons c r =>
  rw [hq,List.length_cons] at hl
  simp only []
  rw [h r (by omega)]
section
variable {U:List UInt8 → Option (List UInt8 × List UInt8)} (hU2:∀ l s r,U l=some (s,r) → ∃ own,own ≠ [] ∧ l=own ++ r ∧ ∀ m,U (own ++ m)=some (s,m))
include hU2
theorem value_less {F d:Nat} {l r:List UInt8} {t:Tr} (h:valueJ U F d l=.good t r):r.length + 1 ≤ l.length:=by
 obtain ⟨own,h1,h2,_⟩:=value_own hU2 F d _ _ _ h
 cases own with
 | nil=>exact absurd rfl h1
 | cons c own=>rw [h2,List.length_append,List.length_cons]; omega
theorem member_less {l r:List UInt8} {t:Tr} (h:memberJ U l=.good t r):r.length + 1 ≤ l.length:=by
 obtain ⟨_,own,h1,h2,_⟩:=member_own hU2 h
 cases own with
 | nil=>exact absurd rfl h1
 | cons c own=>rw [h2,List.length_append,List.length_cons]; omega
theorem nodes_agree {v v':Psr Tr} {n:Nat} (hv:∀ l,l.length ≤ n → v l=v' l) (hl:∀ l t r,v' l=.good t r → r.length + 1 ≤ l.length) (mem:Bool) (en:UInt8):∀ (f f':Nat) (acc:List Tr) (l:List UInt8),l.length ≤ n → l.length < f → l.length < f' → nodesJ U v mem en f acc l=nodesJ U v' mem en f' acc l
 | 0,_,_,_,_,h,_=>by omega
 | _ + 1,0,_,_,_,_,h=>by omega
 | f + 1,f' + 1,acc,l,hn,h,h'=>by
  rw [nodesJ,nodesJ]
  cases mem with
  | false =>
   rw [if_neg (by simp),if_neg (by simp)]
   refine bindJ_agree (hv l hn) fun t s hs=>?_
   have h1:=hl _ _ _ hs
   exact next_agree fun r hr=>nodes_agree hv hl false en f f' _ _ (by have:=sp_len r; omega) (by have:=sp_len r; omega) (by have:=sp_len r; omega)
  | true =>
   rw [if_pos rfl,if_pos rfl]
   refine bindJ_agree rfl fun k s0 h0=>?_
   have h2:=member_less hU2 h0
   refine bindJ_agree (hv s0 (by omega)) fun t s hs=>?_
   have h1:=hl _ _ _ hs
   exact next_agree fun r hr=>nodes_agree hv hl true en f f' _ _ (by have:=sp_len r; omega) (by have:=sp_len r; omega) (by have:=sp_len r; omega)
theorem value_fuel:∀ (d F F':Nat) (l:List UInt8),l.length < F → l.length < F' → valueJ U F d l=valueJ U F' d l
 | 0,F,F',l,_,_=>by
  show bodyJ U none F l=bodyJ U none F' l
  rfl
 | d + 1,F,F',l,hF,hF'=>by
  show bodyJ U (some (valueJ U F d)) F l=bodyJ U (some (valueJ U F' d)) F' l
  cases l with
  | nil=>rfl
  | cons c l =>
   rw [List.length_cons] at hF hF'
   have hlist:∀ (mem:Bool) (en:UInt8),listJ U (valueJ U F d) mem en F l=listJ U (valueJ U F' d) mem en F' l:=fun mem en=>by
    have hz:=sp_len l
    have key:∀ q,q.length ≤ l.length → nodesJ U (valueJ U F d) mem en F [] q=nodesJ U (valueJ U F' d) mem en F' [] q:=fun q hq =>
     nodes_agree hU2 (n:=l.length) (fun x hx=>value_fuel d F F' x (by omega) (by omega)) (fun _ _ _ h=>value_less hU2 h) mem en F F' [] q hq (by omega) (by omega)
    unfold listJ
    cases hq:spJ l with
    | nil=>exact key [] (Nat.zero_le _)
    | cons x y =>
     simp only []
     rw [key (x :: y) (by rw [← hq]; exact hz)]
   unfold bodyJ
   simp only []
   split
   ·exact bindJ_agree (hlist false 93) fun _ _ _=>rfl
   ·split
    ·exact bindJ_agree (hlist true 125) fun _ _ _=>rfl
    ·rfl
end
section
variable {U:List UInt8 → Option (List UInt8 × List UInt8)}
end
end Go.Proofs.YtfckekaegjjmkaaGreatDoor
namespace Go.Proofs.YtfckekaegjjmkaaGreatDoor
open Go.RowKit Go.Shelf

def SeqA {α:Type} (P:Program) (g:Nat) (lb:Array Value) (encs:α → Array Value) (Mv Kp:World → World → Prop) (Ct:α → Prop) (T:List α → World → World → Prop) (S Sp:List α → World → Prop) (A0:World → Prop):Prop:=
 ∀ (l:Nat) (J Jx:List α → World → Prop) (W:World),A0 W → (∀ s A B,J s A → Mv A B → J s B) → (∀ s A B,Jx s A → Mv A B → Jx s B) →
  (∀ pre x A W1,J pre A → Mv A W1 → J pre W1 → T (pre ++ [x]) A W1 → YieldAt Fence.wide 7 P l (encs x) W1 fun e W' =>
   (e=.returned (.bool true) ∧ Ct x ∧ J (pre ++ [x]) W' ∧ Kp W1 W') ∨ (e=.returned (.bool false) ∧ Jx (pre ++ [x]) W')) →
  J [] W →
  CallsIn Fence.wide 8 P g (#[.func (.yield l) #[] #[]] ++ lb) W fun e W'=>(∃ v,e=.returned v) ∧ ((∃ xs,S xs W' ∧ J xs W') ∨ (∃ pre,Sp pre W' ∧ Jx pre W'))

theorem wp_rangeFuncA {P:Program} {α:Type} {g:Operand} {ps:Array Tmp} {assign body:Code} {Q:Exit → Act → World → Prop} {a:Act} {w:World}
  {gf:Nat} {lb:Array Value} (hg:a.eval g=.func (.func gf) #[] lb) (eg:∀ args w,(callFunc gf args).run P w=.ok (.enter gf args) w)
  {encs:α → Array Value} {Mv Kp:World → World → Prop} {Ct:α → Prop} {T:List α → World → World → Prop} {S Sp:List α → World → Prop} {A0:World → Prop} (hseq:SeqA P gf lb encs Mv Kp Ct T S Sp A0)
  (hMv:∀ (A B:World) (k:Nat) (o:Obj),Mv A B → w.heap.size ≤ k → A.heap[k]? = some o → o.isCells=false → B.heap[k]? = some o)
  (hA0:∀ o o',A0 ((w.alloc o).alloc o'))
  (hKt:∀ {A B C:World},Kp A B → Kp B C → Kp A C) (hKb:∀ (W:World) (l:Nat) (o o':Obj),w.heap.size ≤ l → W.heap[l]? = some o → o.isCells=false → Kp W (W.putObj l o')) (hps:∀ x,(encs x).size=ps.size)
  (I:List α → World → Prop) (Ix:Code → List α → World → Prop) (hI:OwnFrom w.heap.size I) (hIx:∀ c,OwnFrom w.heap.size (Ix c))
  (hIM:∀ s A B,I s A → Mv A B → I s B) (hIxM:∀ c s A B,Ix c s A → Mv A B → Ix c s B) (h0:I [] w) (hCt:∀ pre x W,I (pre ++ [x]) W → Ct x)
  (Ax:Array Value → List α → α → Act → World → Prop) (hAx:∀ pre x a',OwnFrom w.heap.size (fun (_:Unit) W=>Ax a.tmps pre x a' W))
  (hassign:∀ (l:Nat) (pre:List α) (x:α) (A W:World) (K:Act → World → Prop),I pre A → Mv A W → I pre W → T (pre ++ [x]) A W → (∀ a' W',KeepsFrom w.heap.size W W' → Kp W W' → I pre W' → Ax a.tmps pre x a' W' → K a' W') →
   assign.wpIn (Fence.wide.inRound l) 7 P (Exit.then K (fun _ _ _=>False)) { tmps:=(ps.zip (encs x)).foldl (fun t (p,v)=>t.setIfInBounds p v) a.tmps,defers:=[] } W)
  (hbody:∀ (l:Nat) (pre:List α) (x:α) (a':Act) (W:World),w.heap.size ≤ l → (∃ r,W.heap[l]? = some (.loop r)) → I pre W → Ax a.tmps pre x a' W → body.wpIn (Fence.wide.inRound l) 7 P (ownPostG w.heap.size Kp I Ix (pre ++ [x]) W) a' W)
  (hS:OwnFrom w.heap.size S) (hSp:OwnFrom w.heap.size Sp)
  (hdone:∀ (D:Nat) (xs:List α) (W:World),w.heap.size ≤ D → S xs W → I xs W → W.heap[D]? = some (.deferred (some [])) → Q .normal { a with defers:={ target:=.collected D,args:=#[] } :: a.defers } W)
  (hstop:∀ (D:Nat) (c:Code) (pre:List α) (W:World),w.heap.size ≤ D → Sp pre W → Ix c pre W → W.heap[D]? = some (.deferred (some [])) → c.wp P Q { a with defers:={ target:=.collected D,args:=#[] } :: a.defers } W) :
  (Code.rangeFunc g ps assign body).wp P Q a w:=by
 refine (wpIn_wide (n:=9)).1 ?_
 refine wpIn_rangeFunc ?_
 intro fn hfn
 rw [show Fence.wide.round=none from rfl]
 obtain ⟨rec,hrec⟩:∃ rec:LoopState → Option Code → Loop,rec=fun st pe=>{ state:=st,pending:=pe,fn,tmps:=a.tmps,params:=ps,assign,body,defers:=w.heap.size }:=⟨_,rfl⟩
 obtain ⟨W1,hW1⟩:∃ W1,(w.alloc (.deferred (some []))).alloc (.loop (rec .ready none))=W1:=⟨_,rfl⟩
 have hL1:W1.heap[w.heap.size + 1]? = some (.loop (rec .ready none)):=by
  have h:=World.alloc_heap_new (w.alloc (.deferred (some []))) (.loop (rec .ready none))
  rw [World.size_alloc] at h
  rw [← hW1]
  exact h
 have hK1:W1.heap[w.heap.size]? = some (.deferred (some [])):=by
  rw [← hW1]
  exact (Below.heap_alloc _ _ _ (by simp)).trans (World.alloc_heap_new w _)
 have hI1:I [] W1:=by rw [← hW1]; exact hI.alloc _ (hI.alloc _ h0)
 have hA1:A0 W1:=by rw [← hW1]; exact hA0 _ _
 refine ⟨w.heap.size + 1,[{ target:=.collected w.heap.size,args:=#[] }],W1,{ target:=.fn (.func gf) lb,args:=#[.func (.yield (w.heap.size + 1)) #[] #[]] },W1,gf,
  #[.func (.yield (w.heap.size + 1)) #[] #[]] ++ lb,W1,?_,?_,?_,?_,fun _=>by omega,?_⟩
 ·rw [← hW1,hrec]
  exact run_enterLoop_outer _ _ _ _ _
 ·simp only [resolve,hg]
  simp [go_sem]
 ·intro f' _
  exact trivial
 ·simp [invoke,go_sem,eg]
 ·refine (hseq (w.heap.size + 1)
   (fun pre W=>I pre W ∧ W.heap[w.heap.size + 1]? = some (.loop (rec .ready none)) ∧ W.heap[w.heap.size]? = some (.deferred (some [])))
   (fun pre W=>∃ c,Ix c pre W ∧ W.heap[w.heap.size + 1]? = some (.loop (rec .done (some c))) ∧ W.heap[w.heap.size]? = some (.deferred (some [])))
   W1 hA1
   (fun s A B hs hm=>⟨hIM s A B hs.1 hm,hMv A B _ _ hm (by omega) hs.2.1 rfl,hMv A B _ _ hm (by omega) hs.2.2 rfl⟩)
   (fun s A B hs hm=>by
    obtain ⟨c,hc,hl,hk⟩:=hs
    exact ⟨c,hIxM c s A B hc hm,hMv A B _ _ hm (by omega) hl rfl,hMv A B _ _ hm (by omega) hk rfl⟩)
   ?_ ⟨hI1,hL1,hK1⟩).mono ?_
  ·rintro pre x A W ⟨hiA,_,_⟩ hmv ⟨hi,hl,hk⟩ hT
   have hy:=run_yield (P:=P) (args:=encs x) hl (by rw [hrec]; exact hps x)
   rw [hrec] at hy
   refine ⟨fn,_,assign,body,hy,roundIn_of_wpIn hfn (hassign _ pre x A W _ hiA hmv hi hT ?_)⟩
   intro a' Wa hkfa hkpa hia hax
   have hla:=hkfa.same _ _ (by omega) hl rfl
   have hka:=hkfa.same _ _ (Nat.le_refl _) hk rfl
   have hlt:w.heap.size + 1 < Wa.heap.size:=(Array.getElem?_eq_some_iff.1 hla).1
   refine ⟨_,run_beginRound hla (by rw [hrec]),?_⟩
   have hl2:(Wa.putObj (w.heap.size + 1) (.loop { rec .ready none with state:=.busy })).heap[w.heap.size + 1]? = some (.loop { rec .ready none with state:=.busy }):=World.putObj_heap_same hlt
   have hk2:(Wa.putObj (w.heap.size + 1) (.loop { rec .ready none with state:=.busy })).heap[w.heap.size]? = some (.deferred (some [])):=(World.putObj_heap_other (by omega)).trans hka
   have hw2:Kp Wa (Wa.putObj (w.heap.size + 1) (.loop { rec .ready none with state:=.busy })):=hKb _ _ _ _ (by omega) hla rfl
   refine wpIn_mono (hbody _ pre x a' _ (by omega) ⟨_,hl2⟩ (hI.putObj _ hia (by omega) hla rfl) ((hAx pre x a').putObj (s:=()) _ hax (by omega) hla rfl)) ?_
   have fin:∀ (jump:Option Code) (W3:World),KeepsFrom w.heap.size (Wa.putObj (w.heap.size + 1) (.loop { rec .ready none with state:=.busy })) W3 →
     (Instr.endRound (w.heap.size + 1) jump).run P W3=.ok (.bool jump.isNone) (W3.putObj (w.heap.size + 1) (.loop (rec (if jump.isNone then .ready else .done) jump))) ∧
     W3.heap[w.heap.size + 1]? = some (.loop { rec .ready none with state:=.busy }) ∧
     (W3.putObj (w.heap.size + 1) (.loop (rec (if jump.isNone then .ready else .done) jump))).heap[w.heap.size + 1]? = some (.loop (rec (if jump.isNone then .ready else .done) jump)) ∧
     (W3.putObj (w.heap.size + 1) (.loop (rec (if jump.isNone then .ready else .done) jump))).heap[w.heap.size]? = some (.deferred (some [])):=fun jump W3 hk3=>by
    have hl3:=hk3.same _ _ (by omega) hl2 rfl
    have hr:=run_endRound (P:=P) jump hl3
    rw [hrec] at hr ⊢
    exact ⟨hr,by rw [hrec] at hl3; exact hl3,World.putObj_heap_same (Array.getElem?_eq_some_iff.1 hl3).1,(World.putObj_heap_other (by omega)).trans (hk3.same _ _ (Nat.le_refl _) hk2 rfl)⟩
   rintro e a3 W3 hp
   cases e with
   | normal =>
    obtain ⟨hk3,hkp3,hi3⟩:=hp
    obtain ⟨hr,hl3,hl4,hk4⟩:=fin none W3 hk3
    exact ⟨_,_,hr,.inl ⟨rfl,hCt _ _ _ hi3,⟨hI.putObj _ hi3 (by omega) hl3 rfl,hl4,hk4⟩,hKt hkpa (hKt (hKt hw2 hkp3) (hKb _ _ _ _ (by omega) hl3 rfl))⟩⟩
   | ret =>
    obtain ⟨hk3,hi3⟩:=hp
    obtain ⟨hr,hl3,hl4,hk4⟩:=fin (some .ret) W3 hk3
    exact ⟨_,_,hr,.inr ⟨rfl,.ret,(hIx _).putObj _ hi3 (by omega) hl3 rfl,hl4,hk4⟩⟩
   | exit id =>
    obtain ⟨hk3,hi3⟩:=hp
    obtain ⟨hr,hl3,hl4,hk4⟩:=fin (some (.exit id)) W3 hk3
    exact ⟨_,_,hr,.inr ⟨rfl,.exit id,(hIx _).putObj _ hi3 (by omega) hl3 rfl,hl4,hk4⟩⟩
   | goto t =>
    obtain ⟨hk3,hi3⟩:=hp
    obtain ⟨hr,hl3,hl4,hk4⟩:=fin (some (.goto t)) W3 hk3
    exact ⟨_,_,hr,.inr ⟨rfl,.goto t,(hIx _).putObj _ hi3 (by omega) hl3 rfl,hl4,hk4⟩⟩
   | panic ch=>exact hp.elim
   | outgrown=>exact hp.elim
  ·rintro e W2 ⟨⟨v,rfl⟩,(⟨xs,hs,hi,hl,hk⟩ | ⟨pre,hs,c,hi,hl,hk⟩)⟩
   ·exact ⟨none,_,by have h:=run_endLoop (P:=P) hl (by rw [hrec]; simp); rw [hrec] at h; exact h,hdone _ xs _ (Nat.le_refl _) (hS.putObj _ hs (by omega) hl rfl) (hI.putObj _ hi (by omega) hl rfl) ((World.putObj_heap_other (by omega)).trans hk)⟩
   ·exact ⟨some c,_,by have h:=run_endLoop (P:=P) hl (by rw [hrec]; simp); rw [hrec] at h; exact h,wpIn_wide.2 (hstop _ c pre _ (Nat.le_refl _) (hSp.putObj _ hs (by omega) hl rfl) ((hIx c).putObj _ hi (by omega) hl rfl) ((World.putObj_heap_other (by omega)).trans hk))⟩
end Go.Proofs.YtfckekaegjjmkaaGreatDoor
namespace Go.Proofs.YtfckekaegjjmkaaGreatDoor
open Go.RowKit Go.Shelf

inductive EvJ where
 | ok (t:Tr) (v:Value)
 | no (e:Int)
def EvJ.enc:EvJ → Array Value
 | .ok t v=>#[nodeV t.own v,.nilIface]
 | .no e=>#[zeroJ,errJ e]
def EvJ.tree:EvJ → List Tr
 | .ok t _=>[t]
 | .no _=>[]
def EvJ.isOk:EvJ → Prop
 | .ok _ _=>True
 | .no _=>False
def treesJ (l:List EvJ):List Tr:=l.flatMap EvJ.tree
theorem treesJ_snoc (l:List EvJ) (t:Tr) (v:Value):treesJ (l ++ [.ok t v])=treesJ l ++ [t]:=by
 unfold treesJ
 rw [List.flatMap_append]
 rfl
theorem treesJ_len:∀ {l:List EvJ},(∀ x ∈ l,x.isOk) → (treesJ l).length=l.length
 | [],_=>rfl
 | .ok t v :: l,h=>by
  have:=treesJ_len (l:=l) (fun x hx=>h x (by simp [hx]))
  unfold treesJ at this ⊢
  rw [List.flatMap_cons,List.length_append,this,List.length_cons]
  show 1 + _=_
  omega
 | .no e :: l,h=>(h (.no e) (by simp)).elim
theorem ok_snoc {pre:List EvJ} (h:∀ x ∈ pre,x.isOk) (t:Tr) (v:Value):∀ x ∈ pre ++ [EvJ.ok t v],x.isOk:=fun x hx=>by
 rcases List.mem_append.1 hx with h1 | h1
 ·exact h x h1
 ·rw [List.mem_singleton.1 h1]
  exact trivial
def RdXJ (p sz:Nat) (W:World):Prop:=∃ s' d',RdJ W p s' d' ∧ s'.size ≤ sz
structure MvJ (p m sz:Nat) (A B:World):Prop where
 os:B.os=A.os
 tape:B.tape=A.tape
 output:B.output=A.output
 size:A.heap.size ≤ B.heap.size
 kept:∀ (k:Nat) (o:Obj),A.heap[k]? = some o → k ≠ p → (k=m → o.isCells=false) → B.heap[k]? = some o
 rd:RdXJ p sz A → RdXJ p sz B
theorem MvJ.trans {p m sz:Nat} {A B C:World} (h:MvJ p m sz A B) (k:MvJ p m sz B C):MvJ p m sz A C:=
 ⟨k.os.trans h.os,k.tape.trans h.tape,k.output.trans h.output,Nat.le_trans h.size k.size,fun i o ho hp hm=>k.kept i o (h.kept i o ho hp hm) hp hm,fun x=>k.rd (h.rd x)⟩
theorem MvJ.of_below {p m sz:Nat} {A B:World} (h:Below A.heap.size A B):MvJ p m sz A B:=
 ⟨h.os,h.tape,h.output,h.size,fun k _ ho _ _=>(h.block k (Array.getElem?_eq_some_iff.1 ho).1).trans ho,fun ⟨s',d',h1,h2⟩=>⟨s',d',h1.below h h1.lt,h2⟩⟩
theorem MvJ.to {p m sz:Nat} {A B:World} {s':ByteArray} {d':Nat} (h:A.grownBy B (some p)) (hr:RdJ B p s' d') (hs:s'.size ≤ sz):MvJ p m sz A B:=
 ⟨h.os,h.tape,h.output,h.size,fun k _ ho hp _=>(h.block k (Array.getElem?_eq_some_iff.1 ho).1 (fun e=>hp (by injection e))).trans ho,fun _=>⟨s',d',hr,hs⟩⟩
theorem MvJ.row {p m sz:Nat} {A:World} {cs:Array Value} {t:TypeId} (hk:Blk A m cs t) (hpm:p ≠ m) (cs':Array Value):MvJ p m sz A (A.setRow m cs'):=by
 have hg:=grown_row A m cs'
 refine ⟨hg.os,hg.tape,hg.output,hg.size,fun k o ho hp hm=>?_,fun ⟨s',d',h1,h2⟩=>⟨s',d',blk_row_other h1 hpm _,h2⟩⟩
 by_cases h:k=m
 ·subst h
  rw [show A.heap[k]? = _ from hk] at ho
  cases ho
  exact absurd (hm rfl) (by simp [Obj.isCells])
 ·exact (setRow_other _ _ _ _ h).trans ho
theorem MvJ.blk {p m sz:Nat} {A B:World} (h:MvJ p m sz A B) {k:Nat} {cs:Array Value} {t:TypeId} (hk:Blk A k cs t) (hp:k ≠ p) (hm:k ≠ m):Blk B k cs t:=h.kept k _ hk hp (fun e=>absurd e hm)
theorem MvJ.same {p m sz:Nat} {A B:World} (h:MvJ p m sz A B) {k:Nat} (hk:k < A.heap.size) (hp:k ≠ p) (hm:k ≠ m):B.heap[k]? = A.heap[k]? := by
 have ho:A.heap[k]? = some (A.heap[k]'hk):=Array.getElem?_eq_getElem hk
 rw [ho]
 exact h.kept k _ ho hp (fun e=>absurd e hm)
theorem MvJ.grown {p m sz:Nat} {w A B:World} (h:MvJ p m sz A B) (hg:w.grownBy A (some p)) (hm:w.heap.size ≤ m):w.grownBy B (some p):=
 ⟨h.os.trans hg.os,h.tape.trans hg.tape,h.output.trans hg.output,Nat.le_trans hg.size h.size,fun k hk hp=>(h.same (Nat.lt_of_lt_of_le hk hg.size) (fun e=>hp (by rw [e])) (by omega)).trans (hg.block k hk hp)⟩
theorem MvJ.under {p m sz n:Nat} {w A B:World} (h:MvJ p m sz A B) (hb:Below n w A) (hn:n ≤ w.heap.size) (hp:n ≤ p) (hm:n ≤ m):Below n w B:=by
 refine ⟨h.os.trans hb.os,h.tape.trans hb.tape,h.output.trans hb.output,Nat.le_trans hb.size h.size,fun k hk=>?_⟩
 have:=hb.size
 exact (h.same (by omega) (by omega) (by omega)).trans (hb.block k hk)
def NodesT (p n d sz:Nat) (pre:List EvJ) (W:World):Prop:=pre.length ≤ sz + 1 ∧ ∀ xs x,pre=xs ++ [x] → match x with
 | .ok t v=>(∃ A m c,v=.slice A m c) ∧ LAt W (fun q=>n ≤ q ∧ q < W.heap.size) d t.kids v ∧ OwnOk t.own ∧ xs.length + 1 ≤ sz
 | .no e=>(e=60 ∨ e=80) ∧ RdXJ p sz W
def NodesS (p dp sz:Nat) (res:PR (List Tr)) (xs:List EvJ) (W:World):Prop:=(∀ x ∈ xs,x.isOk) ∧ ∃ r,res=.good (treesJ xs) r ∧ RdJ W p (bsD r) dp ∧ r.length ≤ sz
def NodesSp (res:PR (List Tr)) (pre:List EvJ) (_:World):Prop:=(∃ xs e,pre=xs ++ [.no e] ∧ res=.bad e ∧ (e=60 ∨ e=80)) ∨ (∀ x ∈ pre,x.isOk)
def NodesKp (n bP bE bM m:Nat) (A B:World):Prop:=Below n A B ∧ (bP < A.heap.size → B.heap[bP]? = A.heap[bP]?) ∧ (bE < A.heap.size → B.heap[bE]? = A.heap[bE]?) ∧ (bM < A.heap.size → B.heap[bM]? = A.heap[bM]?) ∧ (∀ o:Obj,A.heap[m]? = some o → o.isCells=true → B.heap[m]? = some o)
structure NodesA (w0:World) (p dp bP bE bM m:Nat) (en:UInt8) (mem:Bool) (s:ByteArray) (W:World):Prop where
 base:Below w0.heap.size w0 W
 rd:RdJ W p s dp
 cP:Blk W bP #[.pointer (some ⟨p,0,none⟩)] 56
 cE:Blk W bE #[.string ⟨#[en]⟩] 9
 cM:Blk W bM #[.bool mem] 4
 sz:W.heap.size=m
def leftJ (p:Nat) (W:World):Nat:=match W.cell? ⟨p,0,none⟩ with
 | some (.string s)=>s.size
 | _=>0
theorem leftJ_of {p d:Nat} {W:World} {s:ByteArray} (h:RdJ W p s d):leftJ p W=s.size:=by
 unfold leftJ
 rw [h.cell 0]
 rfl
theorem takeJ_no (v l:List UInt8) (h:(takeJ v l).1=false):(takeJ v l).2=l:=by
 unfold takeJ at h ⊢
 split
 ·rename_i e
  rw [if_pos e] at h
  cases h
 ·rfl
theorem nextJ_take (en:UInt8) (hen:en ≠ 44) (a:List Tr) (go:Psr (List Tr)) (l:List UInt8):nextJ en a go l=if (takeJ [en] (spJ l)).1=true then .good a (takeJ [en] (spJ l)).2 else if (takeJ [44] (spJ l)).1=true then go (spJ (takeJ [44] (spJ l)).2) else .bad 80:=by
 unfold nextJ takeJ
 cases h:spJ l with
 | nil=>rfl
 | cons c r =>
  by_cases h1:c=en
  ·subst h1
   simp
  ·by_cases h2:c=44
   ·subst h2
    simp [h1]
   ·simp [h1,h2]
theorem listJ_take (U:List UInt8 → Option (List UInt8 × List UInt8)) (v:Psr Tr) (mem:Bool) (en:UInt8) (F:Nat) (l:List UInt8):listJ U v mem en F l=if (takeJ [en] (spJ l)).1=true then .good [] (takeJ [en] (spJ l)).2 else nodesJ U v mem en F [] (spJ l):=by
 unfold listJ takeJ
 cases h:spJ l with
 | nil=>rfl
 | cons c r =>
  by_cases h1:c=en
  ·subst h1
   simp
  ·simp [h1]
def restN (v:Psr Tr) (mem:Bool) (en:UInt8) (f:Nat) (acc:List Tr):Psr (List Tr):=bindP v fun t=>nextJ en (acc ++ [t]) (nodesJ uqJ v mem en f (acc ++ [t]))
theorem nodes_mem (v:Psr Tr) (en:UInt8) (f:Nat) (acc:List Tr) (l:List UInt8):nodesJ uqJ v true en (f + 1) acc l=bindP (memberJ uqJ) (fun k=>restN v true en f (acc ++ [k])) l:=by
 rw [nodesJ,if_pos rfl]
 unfold restN
 simp only [List.append_assoc,List.cons_append,List.nil_append]
theorem nodes_one (v:Psr Tr) (en:UInt8) (f:Nat) (acc:List Tr) (l:List UInt8):nodesJ uqJ v false en (f + 1) acc l=restN v false en f acc l:=by
 rw [nodesJ,if_neg (by decide)]
 rfl
def ValC (w0:World) (F d:Nat):Prop:=∀ (p:Nat) (s:ByteArray) (w:World),Below w0.heap.size w0 w → w0.heap.size ≤ p → RdJ w p s (16 - d) → s.size ≤ 100000000 → s.size < F →
 Calls Tryz.prog 53 #[.pointer (some ⟨p,0,none⟩)] w (ReadJ p (16 - d) d w s (valueJ uqJ F d s.data.toList))
end Go.Proofs.YtfckekaegjjmkaaGreatDoor
namespace Go.Proofs.YtfckekaegjjmkaaGreatDoor
open Go.RowKit Go.Shelf

theorem wpListIn_load_row {F:Fence} {n:Nat} {P:Program} {ops:Array Oper} {rest:List Oper} {o:Oper} {a:Act} {w:World} {Q:Exit → Act → World → Prop} (hgd:o.guard=none) (ty:TypeId) (x:Operand) (ho:o.op=.load ty x)
  (g:Nat) (hx:a.eval x=.pointer (some ⟨g,0,none⟩)) (t:TypeId) (cs:Array Value) (fr:Nat × Nat) (d:TypeDesc) (hg:w.heap[g]? = some (.cells cs t fr))
  (hu:P.underlying ty=some d) (hd:(match d with | .struct _ | .array _ _=>true | _=>false)=true) (hi:(P.info? ty).map (·.size)=some cs.size)
  (h:wpListIn F n P ops Q rest (a.put o.dst (.agg cs)) w):wpListIn F n P ops Q (o :: rest) a w:=by
 refine wpListIn_plain hgd fun K' hK'=>?_
 unfold Oper.wpIn
 refine ⟨by simp [Oper.about,ho],?_⟩
 rw [Oper.semAt_plain F _ _ (by rw [ho]; intro c hc'; cases hc')]
 unfold execOp
 simp only [ho,hx,Instr.loadAt,Instr.sureAddr,Sem.run_bind,Sem.run_pure,Result.andThen_ok,run_loadVar_row w g t ty cs fr d hg hu hd hi]
 exact hK' _ _ h
theorem wpListIn_store_row {F:Fence} {n:Nat} {P:Program} {ops:Array Oper} {rest:List Oper} {o:Oper} {a:Act} {w:World} {Q:Exit → Act → World → Prop} (hgd:o.guard=none) (ty:TypeId) (x y:Operand) (ho:o.op=.store ty x y)
  (g:Nat) (cells:Array Value) (hx:a.eval x=.pointer (some ⟨g,0,none⟩)) (hy:a.eval y=.agg cells)
  (t:TypeId) (old:Array Value) (hg:w.heap[g]? = some (.cells old t (0,0))) (hi:(P.info? ty).map (·.size)=some cells.size)
  (hold:old.size=cells.size) (h1:cells.all (·.oneCell')=true)
  (h:wpListIn F n P ops Q rest (a.put o.dst undef) (w.setRow g cells)):wpListIn F n P ops Q (o :: rest) a w:=by
 refine wpListIn_plain hgd fun K' hK'=>?_
 unfold Oper.wpIn
 refine ⟨by simp [Oper.about,ho],?_⟩
 rw [Oper.semAt_plain F _ _ (by rw [ho]; intro c hc'; cases hc')]
 unfold execOp
 simp only [ho,hx,hy,Instr.storeAt,Instr.sureAddr,Sem.run_bind,Sem.run_pure,Result.andThen_ok,run_storeVar_row w g t ty old cells hg hi hold h1]
 exact hK' _ _ h
theorem wp_scope_again {P:Program} {a:Act} {w:World} {Q:Exit → Act → World → Prop} {c rest:Code} (l:Nat) (J:Act → World → Prop) (μ:Act → World → Nat) (hf:findLabel c l=some (.seq .skip rest))
  (pass:∀ a w,J a w → rest.wp P (Exit.jump l (fun a' w'=>J a' w' ∧ μ a' w' < μ a w) Q) a w)
  (first:(∀ a w,J a w → rest.wp P (Exit.jump l J Q) a w) → c.wp P (Exit.jump l J Q) a w):(Code.scope c).wp P Q a w:=
 wp_scope_jumps l J μ hf (first fun a w h=>wp_mono (pass a w h) fun e a' w' hq=>by
  cases e with
  | goto l'=>exact ⟨hq.1,hq.2.1⟩
  | normal=>exact hq
  | exit id=>exact hq
  | ret=>exact hq
  | panic ch=>exact hq
  | outgrown=>exact hq) (fun a w h=>wp_seq (wp_skip (pass a w h)))
end Go.Proofs.YtfckekaegjjmkaaGreatDoor
