/- The texts Lib, Mem, TreeA, put together. -/
import Derived.Test.YtonihophanmaaaaGreatDoorRows
import Derived.WalkKit
import Derived.WalkSpells
import Derived.WalkLawsBesides
import Derived.RangeFuncNested
import Derived.RangeFuncBound
import Derived.RangeFuncCalls
import Derived.RangeFuncLeaves
import Derived.Shelf.Abstract
import Derived.Shelf.RegionOpen
import Derived.OwnWalkIn
import Derived.TacticsInMore
import Derived.LoopNIn
import Derived.LoopIn
import Derived.Laws.BytesArg
import Derived.ScopeJumps
import Derived.ProofKit
import Derived.OpenShut
import Derived.ShutString
import Derived.WalkMore
import Derived.Lib.Hide
import Derived.Laws.IdiomStrings
namespace Go.Proofs.YtonihophanmaaaaGreatDoor
open Go.RowKit Go.Shelf Go.ChangeShapes Go.WideShapes Go.ChangeAt
theorem wide_fn (k:Nat):Fence.wide.fn k=True:=rfl
theorem wide_depth:Fence.wide.depth=none:=rfl
def Blk (W:World) (b:Nat) (cs:Array Value) (t:TypeId):Prop:=W.heap[b]? = some (.cells cs t (0,0))
theorem Blk.lt {W:World} {b:Nat} {cs:Array Value} {t:TypeId} (h:Blk W b cs t):b<W.heap.size:=(Array.getElem?_eq_some_iff.1 h).1
theorem Blk.cell {W:World} {b:Nat} {cs:Array Value} {t:TypeId} (h:Blk W b cs t) (i:Nat):W.cell? ⟨b,i,none⟩=cs[i]? := by simp [World.cell?,show W.heap[b]? = _ from h]
theorem Blk.frozen {W:World} {b:Nat} {cs:Array Value} {t:TypeId} (h:Blk W b cs t) (i:Nat):W.frozen? ⟨b,i,none⟩=false:=by simp [World.frozen?,show W.heap[b]? = _ from h]
theorem Blk.new (W:World) (cs:Array Value) (t:TypeId):Blk (W.alloc (.cells cs t)) W.heap.size cs t:=World.alloc_heap_new W _
theorem Blk.kept {W W':World} {row:Option Nat} {b:Nat} {cs:Array Value} {t:TypeId} (h:Blk W b cs t) (hg:W.grownBy W' row) (hne:some b≠row):Blk W' b cs t:=(hg.block b h.lt hne).trans h
theorem Blk.alloc {W:World} {b:Nat} {cs:Array Value} {t:TypeId} (h:Blk W b cs t) (o:Obj):Blk (W.alloc o) b cs t:=h.kept (World.grownBy_alloc W o none) (by simp)
theorem Blk.below {W W':World} {b n:Nat} {cs:Array Value} {t:TypeId} (h:Blk W b cs t) (hb:Below n W W') (hn:b<n):Blk W' b cs t:=(hb.block b hn).trans h
theorem Blk.set {W:World} {b:Nat} {cs:Array Value} {t:TypeId} (h:Blk W b cs t) (i:Nat) (v:Value):Blk (W.setCell ⟨b,i,none⟩ v) b (cs.setIfInBounds i v) t:=by
 have hh:W.heap[b]? = some (.cells cs t (0,0)):=h
 have hlt:=h.lt
 unfold Blk
 simp only [World.setCell,Array.getElem?_modify,if_true,hh,Option.map_some]
 simp
theorem Blk.other {W:World} {b b':Nat} {cs:Array Value} {t:TypeId} (h:Blk W b cs t) (hne:b≠b') (i:Nat) (v:Value):Blk (W.setCell ⟨b',i,none⟩ v) b cs t:=
 (Below.heap_setCell W ⟨b',i,none⟩ v b hne).trans h
theorem Blk.drew {W:World} {b:Nat} {cs:Array Value} {t:TypeId} (h:Blk W b cs t):Blk W.drew b cs t:=h
theorem blk_own {β:Type} (b:Nat) (t:TypeId) (f:β→Array Value):Own (fun s W=>Blk W b (f s) t):=fun s X Y row hs hg hrow =>
 Blk.kept hs hg (fun e=>by
  obtain ⟨o,ho,hc⟩:=hrow b e.symm
  rw [show X.heap[b]? = _ from hs]at ho
  cases ho
  cases hc)
theorem below_none {W W':World} (h:Below W.heap.size W W'):W.grownBy W' none:=⟨h.os,h.tape,h.output,h.size,fun k hk _=>h.block k hk⟩
def BodyM (P:Program) (fn:Func) (R:Ending→World→Prop) (e:Exit) (a:Act) (w:World):Prop:=bodyPostM Fence.wide 9 P fn R e a w
theorem leave0 {P:Program} {fn:Func} {R:Ending→World→Prop} {a:Act} {w:World} {v:Value}
  (hr:(results fn a.tmps).run P w=.ok v w) (hd:a.defers=[]) (hR:R (.returned v) w):BodyM P fn R .ret a w:=by
 show LeavesInM Fence.wide 9 P fn a.tmps R a.defers .returning w
 rw [hd]
 exact ⟨v,hr,hR⟩
theorem leave1 {P:Program} {fn:Func} {R:Ending→World→Prop} {a:Act} {w:World} {D:Nat} {v:Value}
  (hK:w.heap[D]? = some (.deferred (some [])))
  (hr:(results fn a.tmps).run P (w.putObj D (.deferred none))=.ok v (w.putObj D (.deferred none))) (hd:a.defers=[{ target:=.collected D,args:=#[] }])
  (hR:R (.returned v) (w.putObj D (.deferred none))):BodyM P fn R .ret a w:=by
 show LeavesInM Fence.wide 9 P fn a.tmps R a.defers .returning w
 rw [hd]
 exact ⟨by simp,.inl ⟨_,_,rfl,run_takeDeferred hK,v,hr,hR⟩⟩
theorem leave1n {P:Program} {fn:Func} {R:Ending→World→Prop} {a:Act} {w:World} {D:Nat} {v:Value}
  (hK:w.heap[D]? = some (.deferred (some [])))
  (hr:(results fn a.tmps).run P (w.putObj D (.deferred none))=.ok v (w.putObj D (.deferred none))) (hd:a.defers=[{ target:=.collected D,args:=#[] }])
  (hR:R (.returned v) (w.putObj D (.deferred none))):BodyM P fn R .normal a w:=leave1 hK hr hd hR
theorem Blk.shut {W:World} {b:Nat} {cs:Array Value} {t:TypeId} (h:Blk W b cs t) {D:Nat} {o:Obj} (hK:W.heap[D]? = some o) (ho:o.isCells=false) (o':Obj):Blk (W.putObj D o') b cs t:=
 h.kept (grownBy_putObj' W D o') (fun e=>by cases e; rw [show W.heap[b]? = _ from h]at hK; cases hK; cases ho)
theorem below_shut {B:Nat} {w W:World} (h:Below B w W) {D:Nat} (hD:B≤D) (hB:B≤W.heap.size) (o':Obj):Below B w (W.putObj D o'):=
 h.grown (grownBy_putObj' W D o') hB (fun k e=>by cases e; exact hD)
theorem calls_of_marks {P:Program} {f:FuncId} {fn:Func} {c:Code} {args:Array Value} {w:World} {R:Ending→World→Prop}
  (hf:P.funcs[f]? = some fn) (hb:fn.body=some c)
  (h:c.wp P (BodyM P fn R) { tmps:=args++Array.replicate (fn.ntmps - args.size) undef,defers:=[] } w):Calls P f args w R:=
 (callsIn_wide (n:=9)).1 (callsIn_of_wp_marks hf hb trivial (wpIn_wide.2 h) rfl)
theorem wp_rangeFunc {P:Program} {α:Type} {g:Operand} {ps:Array Tmp} {assign body:Code} {Q:Exit→Act→World→Prop} {a:Act} {w:World}
  {gf:Nat} {lb:Array Value} (hg:a.eval g=.func (.func gf) #[] lb) (eg:∀ args w,(callFunc gf args).run P w=.ok (.enter gf args) w)
  {encs:α→Array Value} {n₀:Nat} {S Sp:List α→Prop} {N:Nat} {w0:World} (hseq:SeqStopsK Fence.wide 8 P gf lb encs (Below n₀) S Sp N w0)
  (hn₀:n₀≤w.heap.size) (hb0:Below w0.heap.size w0 w) (hps:∀ x,(encs x).size=ps.size)
  (I:List α→World→Prop) (Ix:Code→List α→World→Prop) (hI:OwnFrom w.heap.size I) (hIx:∀ c,OwnFrom w.heap.size (Ix c)) (h0:I [] w) (Ax:Array Value→α→Act→World→Prop) (hAx:∀ x a',OwnFrom w.heap.size (fun (_:Unit) W=>Ax a.tmps x a' W))
  (hassign:∀ (l:Nat) (pre:List α) (x:α) (W:World) (K:Act→World→Prop),I pre W→(∀ a' W',KeepsFrom w.heap.size W W'→Below n₀ W W'→I pre W'→Ax a.tmps x a' W'→K a' W') →
   assign.wpIn (Fence.wide.inRound l) 7 P (Exit.then K (fun _ _ _=>False)) { tmps:=(ps.zip (encs x)).foldl (fun t (p,v)=>t.setIfInBounds p v) a.tmps,defers:=[] } W)
  (hbody:∀ (l:Nat) (pre:List α) (x:α) (a':Act) (W:World),w.heap.size≤l→(∃ r,W.heap[l]? = some (.loop r))→I pre W→Ax a.tmps x a' W→pre.length<N→body.wpIn (Fence.wide.inRound l) 7 P (ownPostG w.heap.size (Below n₀) I Ix (pre++[x]) W) a' W)
  (hdone:∀ (D:Nat) (xs:List α) (W:World),w.heap.size≤D→S xs→I xs W→W.heap[D]? = some (.deferred (some []))→Q .normal { a with defers:={ target:=.collected D,args:=#[] }::a.defers } W)
  (hstop:∀ (D:Nat) (c:Code) (pre:List α) (W:World),w.heap.size≤D→Sp pre→Ix c pre W→W.heap[D]? = some (.deferred (some []))→c.wp P Q { a with defers:={ target:=.collected D,args:=#[] }::a.defers } W) :
  (Code.rangeFunc g ps assign body).wp P Q a w:=by
 refine (wpIn_wide (n:=9)).1 ?_
 exact wpIn_rangeFunc_ownH (F:=Fence.wide) (n:=9) rfl (by omega) hg trivial eg (encs:=encs) (Kp:=Below n₀) (S:=S) (Sp:=Sp) (N:=N) (w0:=w0) hseq belowK_t (belowK_b hn₀) hb0 hps I Ix hI hIx h0 (Ax a.tmps) hAx hassign hbody hdone
  (fun D c pre W hD hS hx hK=>wpIn_wide.2 (hstop D c pre W hD hS hx hK))
def byteVals (l:List UInt8):List Value:=l.map fun b=>Value.int .u8 (b.toNat:Int)
theorem byteVals_get (l:List UInt8) (j:Nat) (h:j<l.length):(byteVals l)[j]? = some (.int .u8 (l[j].toNat:Int)):=by simp [byteVals,h]
theorem run_string_own {P:Program} {w:World} {src dst e:TypeId} {base n:Nat} {v:Value} {l:List UInt8} (hs:P.underlying src=some (.slice e)) (he:P.underlying e=some (.int .u8)) (hd:P.underlying dst=some .string)
  (h:w.ownsRow base e 1 v n (byteVals l)):(convert src dst v).run P w=.ok (.string ⟨l.toArray⟩) w:=by
 obtain ⟨hl,h | ⟨g,cap,cur,rfl,hg,hb,hn,hc,hz,ht⟩⟩:=h
 ·obtain ⟨rfl,rfl⟩:=h
  have:l=[]:=by simpa [byteVals] using hl
  subst this
  rw [run_convert_bytes_nil w src e hs he _ _ dst hd]
  rfl
 ·have hln:l.length=n:=by simpa [byteVals] using hl
  subst hln
  refine run_convert_bytes_back w src dst e ⟨g,0,none⟩ cap l hs he hd (fun j hj=>?_)
  have:cur[j]? = some (.int .u8 (l[j].toNat:Int)):=by
   have h1:(cur.toList.take (l.length*1))[j]? = some (.int .u8 (l[j].toNat:Int)):=by rw [ht]; exact byteVals_get l j hj
   rw [List.getElem?_take_of_lt (by omega)]at h1
   simpa using h1
  have ea:(⟨g,0,none⟩:Addr).add j=⟨g,j,none⟩:=by
   unfold Addr.add
   split
   ·rename_i h0; rw [h0]
   ·simp
  rw [ea,World.cell?,hb]
  simpa using this
theorem wp_scope_forward {P:Program} {a:Act} {w:World} {Q:Exit→Act→World→Prop} {c rest:Code} (l:Nat) (hf:findLabel c l=some rest)
  (h:c.wp P (Exit.jump l (fun a w=>rest.wp P (Exit.noGoto Q) a w) Q) a w):(Code.scope c).wp P Q a w:=by
 refine wp_scope_jumps l (fun a w=>rest.wp P (Exit.noGoto Q) a w) (fun _ _=>0) hf h (fun a w hJ=>wp_mono hJ ?_)
 intro e a' w' hq
 cases e with
 | goto l'=>exact hq.elim
 | _=>exact hq
theorem jump_normal {l:Nat} {J:Act→World→Prop} {Q:Exit→Act→World→Prop} {a:Act} {w:World}:Exit.jump l J Q .normal a w=Q .normal a w:=rfl
theorem jump_exit {l:Nat} {J:Act→World→Prop} {Q:Exit→Act→World→Prop} {a:Act} {w:World} (id:Nat):Exit.jump l J Q (.exit id) a w=Q (.exit id) a w:=rfl
theorem jump_ret {l:Nat} {J:Act→World→Prop} {Q:Exit→Act→World→Prop} {a:Act} {w:World}:Exit.jump l J Q .ret a w=Q .ret a w:=rfl
theorem jump_panic {l:Nat} {J:Act→World→Prop} {Q:Exit→Act→World→Prop} {a:Act} {w:World} (ch:List PanicEntry):Exit.jump l J Q (.panic ch) a w=Q (.panic ch) a w:=rfl
theorem jump_goto {l:Nat} {J:Act→World→Prop} {Q:Exit→Act→World→Prop} {a:Act} {w:World}:Exit.jump l J Q (.goto l) a w=J a w:=by simp [Exit.jump]
theorem trodAll_later {H:Type} {enc:TypeId×Value→H} {P:Program} (hl:laidOutB P=true) {W W':World} (hb:Below W.heap.size W W') :
  ∀ (ts:List TypeId) (vs:List Value) (ds:List (DataW H)) (ps:List MemPlace),(ts.all fun t=>P.readableRec t && decide (t<P.types.size))=true →
   DataW.TrodAll enc P W 0 (fun _=>true) true ts vs ds ps→(∀ x∈ps,x.block<W.heap.size) →
   DataW.TrodAll enc P W' 0 (fun b=>decide (b<W.heap.size)) true ts vs ds ps
 | [],[],[],_,_,h,_=>h
 | t::ts,v::vs,d::ds,ps,ht,⟨p,q,h1,h2,e⟩,hlt=>by
  subst e
  rw [List.all_cons,Bool.and_eq_true,Bool.and_eq_true,decide_eq_true_eq]at ht
  exact ⟨p,q,Below.trod hl ht.1.1 ht.1.2 h1 hb (fun x hx=>hlt x (List.mem_append_left _ hx)),
   trodAll_later hl hb ts vs ds q ht.2 h2 (fun x hx=>hlt x (List.mem_append_right _ hx)),rfl⟩
theorem law_post {H:Type} {enc:TypeId×Value→H} {P:Program} {f:Func} {s:ChangeSpec} {fresh handsOn:Bool} {W W':World} {args:Array Value} {ds gs:List (DataW H)} {before:List MemPlace} {tb:TypeId}
  (hl:laidOutB P=true) (hr:(f.params.toList.all fun t=>P.readableRec t && decide (t<P.types.size))=true)
  (ht:f.resultTypes = #[tb]) (hu:P.underlying tb=some .bool) (hv:s.vars=[])
  (hfn:(s.fn H (ds++gs)).results=[.lit (.bool true)]) (hfa:(s.fn H (ds++gs)).args=ds) (hfv:(s.fn H (ds++gs)).vars=[])
  (hW:DataW.Whole enc P f.params.toList s.vars false W args.toList ds gs before) (hb:Below W.heap.size W W') :
  s.post enc P f false fresh handsOn false W args (.bool true) W':=by
 have hlt:=hW.lt
 obtain ⟨p,q,hA,hV,he,hz,hn⟩:=id hW
 rw [hv]at hV
 obtain ⟨rfl,rfl⟩:=trodVars_none hV
 rw [List.append_nil]at he
 subst he
 refine ⟨ds,[],before,[],before,[],hW,?_,?_,?_,?_,fun h=>by cases h⟩
 ·rw [hfn,ht]
  exact trodAll_cons_mk (shut_bool hu true) trodAll_mk0
 ·rw [hfa]
  exact trodAll_later hl hb _ _ _ _ hr hA hlt
 ·rw [hfv,hv]
  rfl
 ·exact World.keptBut_mono (fun x hx=>⟨hx,.inr (.inl hx)⟩) (hb.frame (·∈before))
end Go.Proofs.YtonihophanmaaaaGreatDoor
namespace Go.Proofs.YtonihophanmaaaaGreatDoor
open Go.RowKit Go.Shelf
theorem add_block (a:Addr) (n:Nat):(a.add n).block=a.block:=by
 unfold Addr.add
 split <;> rfl
theorem add_add' (a:Addr) (i j:Nat):(a.add i).add j=a.add (i+j):=by
 unfold Addr.add
 by_cases hi:i=0
 ·subst hi
  simp
 ·by_cases hj:j=0
  ·subst hj
   simp
  ·rw [if_neg hi,if_neg hj,if_neg (by omega)]
   simp [Nat.add_assoc]
def Lies (W:World) (B size:Nat) (A:Option Addr) (n:Nat) (xs:List Value):Prop:=
 xs.length=n*size∧(0<n→∃ ad,A=some ad∧ad.block<B∧∀ j u,xs[j]? = some u→W.cell? (ad.add j)=some u)
theorem Lies.nil (W:World) (B size:Nat) (A:Option Addr):Lies W B size A 0 []:=⟨by simp,fun h=>absurd h (by omega)⟩
theorem Lies.below {W W':World} {B size n:Nat} {A:Option Addr} {xs:List Value} (h:Lies W B size A n xs) {m:Nat} (hb:Below m W W') (hm:B≤m):Lies W' B size A n xs:=
 ⟨h.1,fun hn=>by
  obtain ⟨ad,e,hlt,hc⟩:=h.2 hn
  refine ⟨ad,e,hlt,fun j u hu=>?_⟩
  rw [← hc j u hu]
  exact hb.cell (by rw [add_block]; omega)⟩
theorem Lies.more {W:World} {B B' size n:Nat} {A:Option Addr} {xs:List Value} (h:Lies W B size A n xs) (hB:B≤B'):Lies W B' size A n xs:=
 ⟨h.1,fun hn=>by
  obtain ⟨ad,e,hlt,hc⟩:=h.2 hn
  exact ⟨ad,e,by omega,hc⟩⟩
theorem Lies.at_ {W:World} {B size n:Nat} {A:Option Addr} {xs:List Value} (h:Lies W B size A n xs) {k:Nat} (hk:k<n) :
  ∃ ad,A=some ad∧ad.block<B∧∀ i,i<size→W.cell? (ad.add (k*size+i))=xs[k*size+i]? := by
 obtain ⟨ad,e,hlt,hc⟩:=h.2 (by omega)
 refine ⟨ad,e,hlt,fun i hi=>?_⟩
 have hl:k*size+i<xs.length:=by
  rw [h.1]
  have:(k+1)*size≤n*size:=Nat.mul_le_mul_right _ hk
  rw [Nat.add_mul]at this
  omega
 rw [List.getElem?_eq_getElem hl]
 exact hc _ _ (List.getElem?_eq_getElem hl)
theorem Lies.own {W:World} {base size n c:Nat} {e:TypeId} {A:Option Addr} {xs:List Value} (h:W.ownsRow base e size (.slice A n c) n xs):Lies W W.heap.size size A n xs:=by
 refine ⟨h.1,fun hn=>?_⟩
 rcases h.2 with ⟨_,h0⟩ | ⟨g,cap,cur,hv,hg,hb,hnc,hcm,hz,ht⟩
 ·omega
 ·have hA:A=some ⟨g,0,none⟩:=by injection hv
  subst hA
  refine ⟨_,rfl,(Array.getElem?_eq_some_iff.1 hb).1,fun j u hu=>?_⟩
  have ea:(⟨g,0,none⟩:Addr).add j=⟨g,j,none⟩:=by
   unfold Addr.add
   split
   ·rename_i h0
    rw [h0]
   ·simp
  rw [ea]
  rw [← ht]at hu
  have hj:j<n*size:=by
   have:=(List.getElem?_eq_some_iff.1 hu).1
   rw [List.length_take]at this
   omega
  rw [List.getElem?_take_of_lt hj]at hu
  simp only [World.cell?,hb]
  simpa using hu
theorem add_field (a:Addr) (j i:Nat):a.add (j+(i+1))=⟨(a.add j).block,(a.add j).off+(i+1),none⟩:=by
 rw [← add_add']
 unfold Addr.add
 rw [if_neg (by omega:¬ i+1=0)]
structure Own where
 kind:Int
 b:Bool
 neg:Bool
 dg:ByteArray
 ex:Int
 u:Int
 wd:Int
 s:ByteArray
inductive Tr where
 | nd (o:Own) (l:List Tr)
def Tr.own:Tr→Own
 | .nd o _=>o
def Tr.kids:Tr→List Tr
 | .nd _ l=>l
def nodeCells (o:Own) (v:Value):List Value:=[.int .i64 o.kind,.bool o.b,.bool o.neg,.string o.dg,.int .i64 o.ex,.int .u64 o.u,.int .i64 o.wd,.string o.s,v]
def nodeV (o:Own) (v:Value):Value:=.agg #[.int .i64 o.kind,.bool o.b,.bool o.neg,.string o.dg,.int .i64 o.ex,.int .u64 o.u,.int .i64 o.wd,.string o.s,v]
abbrev zeroO:Own:=⟨0,false,false,⟨#[]⟩,0,0,0,⟨#[]⟩⟩
abbrev zeroN:Value:=nodeV zeroO (.slice none 0 0)
def zeroCs:Array Value:=#[.int .i64 0,.bool false,.bool false,.string ⟨#[]⟩,.int .i64 0,.int .u64 0,.int .i64 0,.string ⟨#[]⟩,.slice none 0 0]
structure OwnOk (o:Own):Prop where
 dg:o.dg.size≤9223372036854775807
 s:o.s.size≤9223372036854775807
 kind : -9223372036854775808≤o.kind∧o.kind<9223372036854775808
 ex : -9223372036854775808≤o.ex∧o.ex<9223372036854775808
 u:0≤o.u∧o.u<18446744073709551616
 wd : -9223372036854775808≤o.wd∧o.wd<9223372036854775808
def LAt (W:World) (S:Nat→Prop):Nat→List Tr→Value→Prop
 | 0,l,v=>l=[]∧∃ A c,v=.slice A 0 c
 | d+1,l,v=>∃ A c,v=.slice A l.length c∧(l.length≤9223372036854775807∧l.length≤c)∧∀ i (h:i<l.length),∃ a x,A=some a∧S a.block∧OwnOk l[i].own ∧
   (∀ j u,(nodeCells l[i].own x)[j]? = some u→W.cell? (a.add (i*9+j))=some u)∧LAt W S d l[i].kids x
abbrev ListAt (W:World) (B:Nat):Nat→List Tr→Value→Prop:=LAt W (fun q=>q<B)
theorem cell_keep {W W':World} {a:Addr} (h:W'.heap[a.block]? = W.heap[a.block]?):W'.cell? a=W.cell? a:=by
 unfold World.cell?
 rw [h]
theorem LAt.keep {W W':World} {S:Nat→Prop} (hk:∀ q,S q→W'.heap[q]? = W.heap[q]?):∀ {d:Nat} {l:List Tr} {v:Value},LAt W S d l v→LAt W' S d l v
 | 0,_,_,h=>h
 | d+1,l,v,⟨A,c,hv,hl,h⟩=>⟨A,c,hv,hl,fun i hi=>by
   obtain ⟨a,x,ha,hs,ho,hc,hkk⟩:=h i hi
   exact ⟨a,x,ha,hs,ho,fun j u hu=>by
    rw [← hc j u hu]
    exact cell_keep (by rw [add_block]; exact hk _ hs),hkk.keep hk⟩⟩
theorem LAt.mono {W:World} {S S':Nat→Prop} (hS:∀ q,S q→S' q):∀ {d:Nat} {l:List Tr} {v:Value},LAt W S d l v→LAt W S' d l v
 | 0,_,_,h=>h
 | d+1,l,v,⟨A,c,hv,hl,h⟩=>⟨A,c,hv,hl,fun i hi=>by
   obtain ⟨a,x,ha,hs,ho,hc,hkk⟩:=h i hi
   exact ⟨a,x,ha,hS _ hs,ho,hc,hkk.mono hS⟩⟩
theorem LAt.below {W W':World} {B m:Nat} (hb:Below m W W') (hm:B≤m) {d:Nat} {l:List Tr} {v:Value} (h:ListAt W B d l v):ListAt W' B d l v:=
 LAt.keep (fun q hq=>hb.block q (by omega)) h
theorem LAt.more {W:World} {B B':Nat} (hB:B≤B') {d:Nat} {l:List Tr} {v:Value} (h:ListAt W B d l v):ListAt W B' d l v:=
 LAt.mono (fun q hq=>by omega) h
theorem LAt.slice {W:World} {S:Nat→Prop}:∀ {d:Nat} {l:List Tr} {v:Value},LAt W S d l v→l.length≤9223372036854775807∧∃ A c,v=.slice A l.length c
 | 0,_,_,⟨h,A,c,hv⟩=>by
  subst h
  exact ⟨by simp,A,c,hv⟩
 | _+1,_,_,⟨A,c,hv,hl,_⟩=>⟨hl.1,A,c,hv⟩
theorem LAt.cap {W:World} {S:Nat→Prop}:∀ {d:Nat} {l:List Tr} {A:Option Addr} {n c:Nat},LAt W S d l (.slice A n c)→l.length≤c
 | 0,_,_,_,_,⟨h,_⟩=>by
  subst h
  exact Nat.zero_le _
 | _+1,_,_,_,_,⟨_,_,hv,hl,_⟩=>by
  injection hv with _ _ hc
  rw [hc]
  exact hl.2
theorem LAt.nil (W:World) (S:Nat→Prop) (d:Nat) (A:Option Addr) (c:Nat):LAt W S d [] (.slice A 0 c):=by
 cases d with
 | zero=>exact ⟨rfl,A,c,rfl⟩
 | succ d=>exact ⟨A,c,rfl,by simp,fun i hi=>absurd hi (by simp)⟩
theorem LAt.deeper {W:World} {S:Nat→Prop}:∀ {d d':Nat} {l:List Tr} {v:Value},d≤d'→LAt W S d l v→LAt W S d' l v
 | 0,d',l,v,_,⟨h,A,c,hv⟩=>by
  subst h hv
  exact LAt.nil W S d' A c
 | d+1,0,_,_,h,_=>absurd h (by omega)
 | d+1,d'+1,l,v,hd,⟨A,c,hv,hl,h⟩=>⟨A,c,hv,hl,fun i hi=>by
   obtain ⟨a,x,ha,hlt,ho,hc,hk⟩:=h i hi
   exact ⟨a,x,ha,hlt,ho,hc,hk.deeper (by omega)⟩⟩
structure NodeAt (W:World) (a:Addr) (o:Own) (x:Value):Prop where
 c0:W.cell? a=some (.int .i64 o.kind)
 c1:W.cell? ⟨a.block,a.off+1,none⟩=some (.bool o.b)
 c2:W.cell? ⟨a.block,a.off+2,none⟩=some (.bool o.neg)
 c3:W.cell? ⟨a.block,a.off+3,none⟩=some (.string o.dg)
 c4:W.cell? ⟨a.block,a.off+4,none⟩=some (.int .i64 o.ex)
 c5:W.cell? ⟨a.block,a.off+5,none⟩=some (.int .u64 o.u)
 c6:W.cell? ⟨a.block,a.off+6,none⟩=some (.int .i64 o.wd)
 c7:W.cell? ⟨a.block,a.off+7,none⟩=some (.string o.s)
 c8:W.cell? ⟨a.block,a.off+8,none⟩=some x
theorem NodeAt.of {W:World} {a:Addr} {o:Own} {x:Value} {k:Nat} (h:∀ j u,(nodeCells o x)[j]? = some u→W.cell? (a.add (k+j))=some u):NodeAt W (a.add k) o x where
 c0:=h 0 _ rfl
 c1:=by rw [← add_field a k 0]; exact h 1 _ rfl
 c2:=by rw [← add_field a k 1]; exact h 2 _ rfl
 c3:=by rw [← add_field a k 2]; exact h 3 _ rfl
 c4:=by rw [← add_field a k 3]; exact h 4 _ rfl
 c5:=by rw [← add_field a k 4]; exact h 5 _ rfl
 c6:=by rw [← add_field a k 5]; exact h 6 _ rfl
 c7:=by rw [← add_field a k 6]; exact h 7 _ rfl
 c8:=by rw [← add_field a k 7]; exact h 8 _ rfl
theorem LAt.at_ {W:World} {S:Nat→Prop} {d:Nat} {l:List Tr} {A:Option Addr} {n c:Nat} (h:LAt W S d l (.slice A n c)) {k:Nat} (hk:k<l.length) :
  ∃ d' a x,d=d'+1∧A=some a∧S a.block∧OwnOk l[k].own∧NodeAt W (a.add (k*9)) l[k].own x∧LAt W S d' l[k].kids x:=by
 cases d with
 | zero =>
  obtain ⟨rfl,_⟩:=h
  simp at hk
 | succ d =>
  obtain ⟨A',c',hv,_,h⟩:=h
  obtain ⟨a,x,ha,hlt,ho,hc,hkk⟩:=h k hk
  have:A=A':=by injection hv
  subst this
  exact ⟨d,a,x,rfl,ha,hlt,ho,NodeAt.of hc,hkk⟩
def RowT (W:World) (S:Nat→Prop) (d:Nat):List Tr→List Value→Prop
 | [],xs=>xs=[]
 | t::l,xs=>∃ y r,xs=nodeCells t.own y++r∧OwnOk t.own∧LAt W S d t.kids y∧RowT W S d l r
theorem RowT.keep {W W':World} {S:Nat→Prop} (hk:∀ q,S q→W'.heap[q]? = W.heap[q]?) {d:Nat}:∀ {l:List Tr} {xs:List Value},RowT W S d l xs→RowT W' S d l xs
 | [],_,h=>h
 | _::_,_,⟨y,r,hx,ho,hl,h⟩=>⟨y,r,hx,ho,hl.keep hk,h.keep hk⟩
theorem RowT.mono {W:World} {S S':Nat→Prop} (hS:∀ q,S q→S' q) {d:Nat}:∀ {l:List Tr} {xs:List Value},RowT W S d l xs→RowT W S' d l xs
 | [],_,h=>h
 | _::_,_,⟨y,r,hx,ho,hl,h⟩=>⟨y,r,hx,ho,hl.mono hS,h.mono hS⟩
theorem RowT.append {W:World} {S:Nat→Prop} {d:Nat} {l':List Tr} {xs':List Value} (h':RowT W S d l' xs'):∀ {l:List Tr} {xs:List Value},RowT W S d l xs→RowT W S d (l++l') (xs++xs')
 | [],_,h=>by
  have h:_=[]:=h
  subst h
  exact h'
 | _::_,_,⟨y,r,hx,ho,hl,h⟩=>⟨y,r++xs',by rw [hx,List.append_assoc],ho,hl,RowT.append h' h⟩
theorem RowT.one {W:World} {S:Nat→Prop} {d:Nat} {t:Tr} {y:Value} (ho:OwnOk t.own) (hl:LAt W S d t.kids y):RowT W S d [t] (nodeCells t.own y):=
 ⟨y,[],by rw [List.append_nil],ho,hl,rfl⟩
theorem RowT.len {W:World} {S:Nat→Prop} {d:Nat}:∀ {l:List Tr} {xs:List Value},RowT W S d l xs→xs.length=l.length*9
 | [],_,h=>by
  have h:_=[]:=h
  subst h
  rfl
 | _::l,_,⟨y,r,hx,_,_,h⟩=>by
  rw [hx,List.length_append,h.len]
  simp [nodeCells]
  omega
theorem RowT.get {W:World} {S:Nat→Prop} {d:Nat}:∀ {l:List Tr} {xs:List Value} (_:RowT W S d l xs) (i:Nat) (hi:i<l.length),
  ∃ y,OwnOk l[i].own∧(∀ j u,(nodeCells l[i].own y)[j]? = some u→xs[i*9+j]? = some u)∧LAt W S d l[i].kids y
 | [],_,_,i,hi=>absurd hi (by simp)
 | t::l,_,⟨y,r,hx,ho,hl,h⟩,0,_=>⟨y,ho,fun j u hu=>by
   have hu':(nodeCells t.own y)[j]? = some u:=hu
   rw [hx,Nat.zero_mul,Nat.zero_add,List.getElem?_append_left (List.getElem?_eq_some_iff.1 hu').1]
   exact hu',hl⟩
 | t::l,_,⟨y,r,hx,ho,hl,h⟩,i+1,hi=>by
  obtain ⟨y',ho',hc,hl'⟩:=h.get i (by simpa using hi)
  refine ⟨y',ho',fun j u hu=>?_,hl'⟩
  have:=hc j u hu
  rw [hx,List.getElem?_append_right (by simp [nodeCells]; omega)]
  rw [← this]
  congr 1
  simp [nodeCells]
  omega
theorem RowT.list {W:World} {S S':Nat→Prop} {d base n c:Nat} {e:TypeId} {A:Option Addr} {l:List Tr} {xs:List Value} (h:RowT W S d l xs) (hown:W.ownsRow base e 9 (.slice A n c) n xs) (hn:n=l.length) (hl:n≤9223372036854775807)
  (hS:∀ q,S q→S' q) (hA:∀ a,A=some a→S' a.block):LAt W S' (d+1) l (.slice A n c):=by
 subst hn
 refine ⟨A,c,rfl,⟨hl,?_⟩,fun i hi=>?_⟩
 ·rcases hown.2 with ⟨h1,h2⟩ | ⟨_,_,_,h1,_,_,h2,_⟩
  ·omega
  ·injection h1 with _ _ h1
   omega
 obtain ⟨_,hlies⟩:=Lies.own hown
 obtain ⟨a,ha,_,hc⟩:=hlies (by omega)
 obtain ⟨y,ho,hg,hk⟩:=h.get i hi
 exact ⟨a,y,ha,hA a ha,ho,fun j u hu=>hc _ _ (hg j u hu),hk.mono hS⟩
mutual
def Tr.count:Tr→Nat
 | .nd _ l=>1+countL l
def countL:List Tr→Nat
 | []=>0
 | t::l=>t.count+countL l
end
theorem Tr.count_eq (t:Tr):t.count=1+countL t.kids:=by
 cases t
 rw [Tr.count]
 rfl
theorem countL_append:∀ a b:List Tr,countL (a++b)=countL a+countL b
 | [],b=>by simp [countL]
 | t::a,b=>by
  show t.count+countL (a++b)=t.count+countL a+countL b
  rw [countL_append a b]
  omega
theorem countL_take (l:List Tr) (k:Nat) (hk:k<l.length):countL (l.take (k+1))=countL (l.take k)+l[k].count:=by
 rw [List.take_succ_eq_append_getElem hk,countL_append]
 simp [countL]
theorem countL_mono (l:List Tr) (k:Nat):countL (l.take k)≤countL l:=by
 have:=countL_append (l.take k) (l.drop k)
 rw [List.take_append_drop]at this
 omega
set_option maxHeartbeats 2000000 in
set_option maxRecDepth 100000 in
theorem ref_Count (d:Nat):∀ (t:Tr) (x:Value) (w:World) (B:Nat),ListAt w B d t.kids x→B≤w.heap.size→t.count≤1000000000000 →
  Calls Tryz.prog 31 #[nodeV t.own x] w fun e w'=>e=.returned (.int .i64 (t.count:Nat))∧Below w.heap.size w w':=by
 induction d using Nat.strongRecOn with
 | _ d ih =>
 intro t x w B hl hB hc
 obtain ⟨hlen,A,c,rfl⟩:=hl.slice
 rw [Tr.count_eq]at hc ⊢
 obtain ⟨l,hkl⟩:∃ l,t.kids=l:=⟨_,rfl⟩
 rw [hkl]at hl hlen hc ⊢
 obtain ⟨n,hn⟩:∃ n,l.length=n:=⟨_,rfl⟩
 rw [hn]at hl hlen ⊢
 obtain ⟨⟨kind,b,neg,dg,ex,u,wd,s⟩,ho⟩:∃ o,t.own=o:=⟨_,rfl⟩
 rw [ho]
 unfold nodeV
 have HL:=Lib.hid hl
 have IH:=Lib.hid ih
 have hbx:=(Below.refl w.heap.size w).alloc (Nat.le_refl _) (.cells #[.int .i64 kind,.bool b,.bool neg,.string dg,.int .i64 ex,.int .u64 u,.int .i64 wd,.string s,.slice A n c] 28)
 have hBx:Blk (w.alloc (.cells #[.int .i64 kind,.bool b,.bool neg,.string dg,.int .i64 ex,.int .u64 u,.int .i64 wd,.string s,.slice A n c] 28)) w.heap.size #[.int .i64 kind,.bool b,.bool neg,.string dg,.int .i64 ex,.int .u64 u,.int .i64 wd,.string s,.slice A n c] 28:=Blk.new _ _ _
 clear hl ih ho hkl
 simp only []
 go_enter Tryz.func31,Tryz.ntmps31
 go_wp2_with fail
 go_loopw [3,4] (fun m i wr=>∃ k:Nat,k≤n∧i=.int .i64 k∧m=.int .i64 ((1+countL (l.take k):Nat):Int)∧Below w.heap.size w wr∧Blk wr w.heap.size #[.int .i64 kind,.bool b,.bool neg,.string dg,.int .i64 ex,.int .u64 u,.int .i64 wd,.string s,.slice A n c] 28) (fun _ i _=>n - (intOf i).toNat)
 case atStart=>exact ⟨0,by omega,rfl,rfl,hbx,hBx⟩
 case round =>
  obtain ⟨k,hk,rfl,rfl,hbw,hbk⟩:=hrel
  have hfl:wr.cell? ⟨w.heap.size,8,none⟩=some (.slice A n c):=hbk.cell 8
  by_cases hlt:k<n
  ·have hkl:k<l.length:=by omega
   obtain ⟨d',ad,x',hdd,rfl,hab,hok,hna,hkk⟩:=(HL.out.below hbw hB).at_ hkl
   have htk:=countL_take l k hkl
   have hm:=countL_mono l (k+1)
   obtain ⟨m0,hm0⟩:∃ m0,countL (l.take k)=m0:=⟨_,rfl⟩
   obtain ⟨m1,hm1⟩:∃ m1,l[k].count=m1:=⟨_,rfl⟩
   rw [hm0,hm1]at htk
   rw [htk]at hm
   have HC:=IH.out d' (by omega) l[k] x' wr B hkk (Nat.le_trans hB hbw.size) (by omega)
   rw [hm1]at HC
   obtain ⟨⟨kind',b',neg',dg',ex',u',wd',s'⟩,ho'⟩:∃ o,l[k].own=o:=⟨_,rfl⟩
   rw [ho']at HC hna
   unfold nodeV at HC
   obtain ⟨k0,k1,k2,k3,k4,k5,k6,k7,k8⟩:=hna
   simp only []at k0 k1 k2 k3 k4 k5 k6 k7 k8 HC
   have HC:=Lib.hid HC
   have HT:=Lib.hid htk
   rw [hm0]
   have y1:(k:Int)<n:=by omega
   have y2:((1+m0:Nat):Int)+(m1:Int)≤2000000000000:=by omega
   clear htk hm hm0 hm1 ho' hkk hok hdd
   go_wp2_with fail
   refine HC.out.mono ?_
   rintro e w2 ⟨rfl,hb2⟩
   have hb3:=hbw.trans (hb2.mono hbw.size)
   have hbk2:=hbk.below hb2 hbk.lt
   clear hb2 HC hbk k0 k1 k2 k3 k4 k5 k6 k7 k8 hfl
   go_wp2_with fail
   go_roundw
   case rel=>exact ⟨k+1,by omega,by go_num,by rw [HT.out]; congr 1; omega,hb3,hbk2⟩
   case measure=>simp [intOf]; omega
  ·obtain rfl:k=n:=by omega
   have y1:¬ (k:Int)<k:=by omega
   have hf:l.take k=l:=by rw [← hn,List.take_length]
   rw [hf]
   clear hn hf
   go_wp2_with fail
   go_ret
   exact ⟨rfl,hbw⟩
end Go.Proofs.YtonihophanmaaaaGreatDoor
