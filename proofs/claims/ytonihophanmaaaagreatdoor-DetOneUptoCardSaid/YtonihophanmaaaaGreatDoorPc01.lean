/- The texts Lib, Mem, TreeA, put together. -/
import Derived.Test.YtonihophanmaaaaGreatDoorRows
import Derived.WalkKit
import Derived.WalkSpells
import Derived.WalkLawsBesides
import Derived.RangeFuncNested
import Derived.RangeFuncBound
import Derived.RangeFuncCalls
import Derived.RangeFuncLeaves
import Derived.Shelf.Abstract
import Derived.Shelf.RegionOpen
import Derived.OwnWalkIn
import Derived.TacticsInMore
import Derived.LoopNIn
import Derived.LoopIn
import Derived.Laws.BytesArg
import Derived.ScopeJumps
import Derived.ProofKit
import Derived.OpenShut
import Derived.ShutString
import Derived.WalkMore
import Derived.Lib.Hide
import Derived.Laws.IdiomStrings
set_option maxHeartbeats 2000000
set_option maxRecDepth 100000
namespace Go.Proofs.YtonihophanmaaaaGreatDoor
open Go.RowKit Go.Shelf Go.ChangeShapes Go.WideShapes Go.ChangeAt
theorem qi (k:Nat):Fence.wide.fn k=True:=rfl
theorem jA:Fence.wide.depth=none:=rfl
def Blk (W:World) (b:Nat) (cs:Array Value) (t:TypeId):Prop:=W.heap[b]? = some (.cells cs t (0,0))
theorem Blk.lt {W:World} {b:Nat} {a:Array Value} {t:TypeId} (h:Blk W b a t):b<W.heap.size:=(Array.getElem?_eq_some_iff.1 h).1
theorem Blk.cell {W:World} {b:Nat} {a:Array Value} {t:TypeId} (h:Blk W b a t) (i:Nat):W.cell? ⟨b,i,none⟩=a[i]? := by simp [World.cell?,show W.heap[b]? = _ from h]
theorem Blk.frozen {W:World} {b:Nat} {a:Array Value} {t:TypeId} (h:Blk W b a t) (i:Nat):W.frozen? ⟨b,i,none⟩=false:=by simp [World.frozen?,show W.heap[b]? = _ from h]
theorem Blk.new (W:World) (a:Array Value) (t:TypeId):Blk (W.alloc (.cells a t)) W.heap.size a t:=World.alloc_heap_new W _
theorem Blk.kept {W W':World} {row:Option Nat} {b:Nat} {a:Array Value} {t:TypeId} (h:Blk W b a t) (d:W.grownBy W' row) (c:some b≠row):Blk W' b a t:=(d.block b h.lt c).trans h
theorem Blk.alloc {W:World} {b:Nat} {a:Array Value} {t:TypeId} (h:Blk W b a t) (o:Obj):Blk (W.alloc o) b a t:=h.kept (World.grownBy_alloc W o none) (by simp)
theorem Blk.below {W W':World} {b n:Nat} {a:Array Value} {t:TypeId} (h:Blk W b a t) (c:Below n W W') (hn:b<n):Blk W' b a t:=(c.block b hn).trans h
theorem Blk.set {W:World} {b:Nat} {a:Array Value} {t:TypeId} (h:Blk W b a t) (i:Nat) (v:Value):Blk (W.setCell ⟨b,i,none⟩ v) b (a.setIfInBounds i v) t:=by
 have c:W.heap[b]? = some (.cells a t (0,0)):=h
 have d:=h.lt
 unfold Blk
 simp only [World.setCell,Array.getElem?_modify,if_true,c,Option.map_some]
 simp
theorem Blk.other {W:World} {b b':Nat} {a:Array Value} {t:TypeId} (h:Blk W b a t) (c:b≠b') (i:Nat) (v:Value):Blk (W.setCell ⟨b',i,none⟩ v) b a t:=
 (Below.heap_setCell W ⟨b',i,none⟩ v b c).trans h
theorem Blk.drew {W:World} {b:Nat} {a:Array Value} {t:TypeId} (h:Blk W b a t):Blk W.drew b a t:=h
theorem jx {β:Type} (b:Nat) (t:TypeId) (f:β→Array Value):Own (fun s W=>Blk W b (f s) t):=fun s X Y h d g a =>
 Blk.kept d g (fun e=>by
  obtain ⟨o,c,hc⟩:=a b e.symm
  rw [show X.heap[b]? = _ from d]at c
  cases c
  cases hc)
theorem xy {W W':World} (h:Below W.heap.size W W'):W.grownBy W' none:=⟨h.os,h.tape,h.output,h.size,fun k a _=>h.block k a⟩
def zcJ (P:Program) (fn:Func) (R:Ending→World→Prop) (e:Exit) (a:Act) (w:World):Prop:=bodyPostM Fence.wide 9 P fn R e a w
theorem leave0 {P:Program} {b:Func} {R:Ending→World→Prop} {a:Act} {w:World} {v:Value}
  (d:(results b a.tmps).run P w=.ok v w) (hd:a.defers=[]) (c:R (.returned v) w):zcJ P b R .ret a w:=by
 show LeavesInM Fence.wide 9 P b a.tmps R a.defers .returning w
 rw [hd]
 exact ⟨v,d,c⟩
theorem leave1 {P:Program} {b:Func} {R:Ending→World→Prop} {a:Act} {w:World} {D:Nat} {v:Value}
  (c:w.heap[D]? = some (.deferred (some [])))
  (e:(results b a.tmps).run P (w.putObj D (.deferred none))=.ok v (w.putObj D (.deferred none))) (hd:a.defers=[{ target:=.collected D,args:=#[] }])
  (d:R (.returned v) (w.putObj D (.deferred none))):zcJ P b R .ret a w:=by
 show LeavesInM Fence.wide 9 P b a.tmps R a.defers .returning w
 rw [hd]
 exact ⟨by simp,.inl ⟨_,_,rfl,run_takeDeferred c,v,e,d⟩⟩
theorem zhE {P:Program} {b:Func} {R:Ending→World→Prop} {a:Act} {w:World} {D:Nat} {v:Value}
  (c:w.heap[D]? = some (.deferred (some [])))
  (e:(results b a.tmps).run P (w.putObj D (.deferred none))=.ok v (w.putObj D (.deferred none))) (hd:a.defers=[{ target:=.collected D,args:=#[] }])
  (d:R (.returned v) (w.putObj D (.deferred none))):zcJ P b R .normal a w:=leave1 c e hd d
theorem Blk.shut {W:World} {b:Nat} {a:Array Value} {t:TypeId} (h:Blk W b a t) {D:Nat} {o:Obj} (c:W.heap[D]? = some o) (d:o.isCells=false) (o':Obj):Blk (W.putObj D o') b a t:=
 h.kept (grownBy_putObj' W D o') (fun e=>by cases e; rw [show W.heap[b]? = _ from h]at c; cases c; cases d)
theorem jX {B:Nat} {w W:World} (h:Below B w W) {D:Nat} (b:B≤D) (a:B≤W.heap.size) (o':Obj):Below B w (W.putObj D o'):=
 h.grown (grownBy_putObj' W D o') a (fun k e=>by cases e; exact b)
theorem jo {P:Program} {f:FuncId} {a:Func} {c:Code} {args:Array Value} {w:World} {R:Ending→World→Prop}
  (d:P.funcs[f]? = some a) (b:a.body=some c)
  (h:c.wp P (zcJ P a R) { tmps:=args++Array.replicate (a.ntmps - args.size) undef,defers:=[] } w):Calls P f args w R:=
 (callsIn_wide (n:=9)).1 (callsIn_of_wp_marks d b trivial (wpIn_wide.2 h) rfl)
theorem wZ {P:Program} {α:Type} {g:Operand} {y:Array Tmp} {d i:Code} {Q:Exit→Act→World→Prop} {a:Act} {w:World}
  {gf:Nat} {lb:Array Value} (T:a.eval g=.func (.func gf) #[] lb) (H:∀ args w,(callFunc gf args).run P w=.ok (.enter gf args) w)
  {encs:α→Array Value} {j:Nat} {S Sp:List α→Prop} {N:Nat} {w0:World} (u:SeqStopsK Fence.wide 8 P gf lb encs (Below j) S Sp N w0)
  (C:j≤w.heap.size) (B:Below w0.heap.size w0 w) (E:∀ x,(encs x).size=y.size)
  (I:List α→World→Prop) (m:Code→List α→World→Prop) (M:OwnFrom w.heap.size I) (A:∀ c,OwnFrom w.heap.size (m c)) (J:I [] w) (k:Array Value→α→Act→World→Prop) (z:∀ x e,OwnFrom w.heap.size (fun (_:Unit) W=>k a.tmps x e W))
  (f:∀ (l:Nat) (b:List α) (x:α) (W:World) (K:Act→World→Prop),I b W→(∀ e h,KeepsFrom w.heap.size W h→Below j W h→I b h→k a.tmps x e h→K e h) →
   d.wpIn (Fence.wide.inRound l) 7 P (Exit.then K (fun _ _ _=>False)) { tmps:=(y.zip (encs x)).foldl (fun t (p,v)=>t.setIfInBounds p v) a.tmps,defers:=[] } W)
  (o:∀ (l:Nat) (b:List α) (x:α) (e:Act) (W:World),w.heap.size≤l→(∃ r,W.heap[l]? = some (.loop r))→I b W→k a.tmps x e W→b.length<N→i.wpIn (Fence.wide.inRound l) 7 P (ownPostG w.heap.size (Below j) I m (b++[x]) W) e W)
  (q:∀ (D:Nat) (G:List α) (W:World),w.heap.size≤D→S G→I G W→W.heap[D]? = some (.deferred (some []))→Q .normal { a with defers:={ target:=.collected D,args:=#[] }::a.defers } W)
  (s:∀ (D:Nat) (c:Code) (b:List α) (W:World),w.heap.size≤D→Sp b→m c b W→W.heap[D]? = some (.deferred (some []))→c.wp P Q { a with defers:={ target:=.collected D,args:=#[] }::a.defers } W) :
  (Code.rangeFunc g y d i).wp P Q a w:=by
 refine (wpIn_wide (n:=9)).1 ?_
 exact wpIn_rangeFunc_ownH (F:=Fence.wide) (n:=9) rfl (by omega) T trivial H (encs:=encs) (Kp:=Below j) (S:=S) (Sp:=Sp) (N:=N) (w0:=w0) u belowK_t (belowK_b C) B E I m M A J (k a.tmps) z f o q
  (fun D c b W L R U O=>wpIn_wide.2 (s D c b W L R U O))
def qM (l:List UInt8):List Value:=l.map fun b=>Value.int .u8 (b.toNat:Int)
theorem zfk (l:List UInt8) (j:Nat) (h:j<l.length):(qM l)[j]? = some (.int .u8 (l[j].toNat:Int)):=by simp [qM,h]
theorem zdZ {P:Program} {w:World} {src dst e:TypeId} {base n:Nat} {v:Value} {l:List UInt8} (k:P.underlying src=some (.slice e)) (d:P.underlying e=some (.int .u8)) (hd:P.underlying dst=some .string)
  (h:w.ownsRow base e 1 v n (qM l)):(convert src dst v).run P w=.ok (.string ⟨l.toArray⟩) w:=by
 obtain ⟨f,h | ⟨g,b,a,rfl,s,p,hn,hc,t,r⟩⟩:=h
 ·obtain ⟨rfl,rfl⟩:=h
  have:l=[]:=by simpa [qM] using f
  subst this
  rw [run_convert_bytes_nil w src e k d _ _ dst hd]
  rfl
 ·have i:l.length=n:=by simpa [qM] using f
  subst i
  refine run_convert_bytes_back w src dst e ⟨g,0,none⟩ b l k d hd (fun j q=>?_)
  have:a[j]? = some (.int .u8 (l[j].toNat:Int)):=by
   have c:(a.toList.take (l.length*1))[j]? = some (.int .u8 (l[j].toNat:Int)):=by rw [r]; exact zfk l j q
   rw [List.getElem?_take_of_lt (by omega)]at c
   simpa using c
  have m:(⟨g,0,none⟩:Addr).add j=⟨g,j,none⟩:=by
   unfold Addr.add
   split
   ·rename_i o; rw [o]
   ·simp
  rw [m,World.cell?,p]
  simpa using this
theorem jJ {P:Program} {a:Act} {w:World} {Q:Exit→Act→World→Prop} {c rest:Code} (l:Nat) (f:findLabel c l=some rest)
  (h:c.wp P (Exit.jump l (fun a w=>rest.wp P (Exit.noGoto Q) a w) Q) a w):(Code.scope c).wp P Q a w:=by
 refine wp_scope_jumps l (fun a w=>rest.wp P (Exit.noGoto Q) a w) (fun _ _=>0) f h (fun a w d=>wp_mono d ?_)
 intro e g j b
 cases e with
 | goto i=>exact b.elim
 | _=>exact b
theorem zg2 {l:Nat} {J:Act→World→Prop} {Q:Exit→Act→World→Prop} {a:Act} {w:World}:Exit.jump l J Q .normal a w=Q .normal a w:=rfl
theorem zjR {l:Nat} {J:Act→World→Prop} {Q:Exit→Act→World→Prop} {a:Act} {w:World} (id:Nat):Exit.jump l J Q (.exit id) a w=Q (.exit id) a w:=rfl
theorem jO {l:Nat} {J:Act→World→Prop} {Q:Exit→Act→World→Prop} {a:Act} {w:World}:Exit.jump l J Q .ret a w=Q .ret a w:=rfl
theorem zis {l:Nat} {J:Act→World→Prop} {Q:Exit→Act→World→Prop} {a:Act} {w:World} (b:List PanicEntry):Exit.jump l J Q (.panic b) a w=Q (.panic b) a w:=rfl
theorem ju {l:Nat} {J:Act→World→Prop} {Q:Exit→Act→World→Prop} {a:Act} {w:World}:Exit.jump l J Q (.goto l) a w=J a w:=by simp [Exit.jump]
theorem zaV {H:Type} {enc:TypeId×Value→H} {P:Program} (m:laidOutB P=true) {W W':World} (l:Below W.heap.size W W') :
  ∀ (a:List TypeId) (i:List Value) (c:List (DataW H)) (g:List MemPlace),(a.all fun t=>P.readableRec t && decide (t<P.types.size))=true →
   DataW.TrodAll enc P W 0 (fun _=>true) true a i c g→(∀ x∈g,x.block<W.heap.size) →
   DataW.TrodAll enc P W' 0 (fun b=>decide (b<W.heap.size)) true a i c g
 | [],[],[],_,_,h,_=>h
 | t::a,v::i,d::c,g,f,⟨p,q,n,o,e⟩,j=>by
  subst e
  rw [List.all_cons,Bool.and_eq_true,Bool.and_eq_true,decide_eq_true_eq]at f
  exact ⟨p,q,Below.trod m f.1.1 f.1.2 n l (fun x k=>j x (List.mem_append_left _ k)),
   zaV m l a i c q f.2 o (fun x k=>j x (List.mem_append_right _ k)),rfl⟩
theorem zlm {H:Type} {enc:TypeId×Value→H} {P:Program} {f:Func} {s:ChangeSpec} {d c:Bool} {W W':World} {args:Array Value} {b e:List (DataW H)} {a:List MemPlace} {v:TypeId}
  (w:laidOutB P=true) (y:(f.params.toList.all fun t=>P.readableRec t && decide (t<P.types.size))=true)
  (z:f.resultTypes = #[v]) (A:P.underlying v=some .bool) (r:s.vars=[])
  (m:(s.fn H (b++e)).results=[.lit (.bool true)]) (l:(s.fn H (b++e)).args=b) (n:(s.fn H (b++e)).vars=[])
  (g:DataW.Whole enc P f.params.toList s.vars false W args.toList b e a) (j:Below W.heap.size W W') :
  s.post enc P f false d c false W args (.bool true) W':=by
 have o:=g.lt
 obtain ⟨p,q,hA,i,k,B,hn⟩:=id g
 rw [r]at i
 obtain ⟨rfl,rfl⟩:=trodVars_none i
 rw [List.append_nil]at k
 subst k
 refine ⟨b,[],a,[],a,[],g,?_,?_,?_,?_,fun h=>by cases h⟩
 ·rw [m,z]
  exact trodAll_cons_mk (shut_bool A true) trodAll_mk0
 ·rw [l]
  exact zaV w j _ _ _ _ y hA o
 ·rw [n,r]
  rfl
 ·exact World.keptBut_mono (fun x u=>⟨u,.inr (.inl u)⟩) (j.frame (·∈a))
end Go.Proofs.YtonihophanmaaaaGreatDoor
namespace Go.Proofs.YtonihophanmaaaaGreatDoor
open Go.RowKit Go.Shelf
theorem add_block (a:Addr) (n:Nat):(a.add n).block=a.block:=by
 unfold Addr.add
 split <;> rfl
theorem add_add' (a:Addr) (i j:Nat):(a.add i).add j=a.add (i+j):=by
 unfold Addr.add
 by_cases b:i=0
 ·subst b
  simp
 ·by_cases c:j=0
  ·subst c
   simp
  ·rw [if_neg b,if_neg c,if_neg (by omega)]
   simp [Nat.add_assoc]
def xg (W:World) (B size:Nat) (A:Option Addr) (n:Nat) (xs:List Value):Prop:=
 xs.length=n*size∧(0<n→∃ ad,A=some ad∧ad.block<B∧∀ j u,xs[j]? = some u→W.cell? (ad.add j)=some u)
theorem xg.nil (W:World) (B size:Nat) (A:Option Addr):xg W B size A 0 []:=⟨by simp,fun h=>absurd h (by omega)⟩
theorem xg.below {W W':World} {B size n:Nat} {A:Option Addr} {xs:List Value} (h:xg W B size A n xs) {m:Nat} (c:Below m W W') (f:B≤m):xg W' B size A n xs:=
 ⟨h.1,fun hn=>by
  obtain ⟨b,e,a,hc⟩:=h.2 hn
  refine ⟨b,e,a,fun j u d=>?_⟩
  rw [← hc j u d]
  exact c.cell (by rw [add_block]; omega)⟩
theorem xg.more {W:World} {B a size n:Nat} {A:Option Addr} {xs:List Value} (h:xg W B size A n xs) (d:B≤a):xg W a size A n xs:=
 ⟨h.1,fun hn=>by
  obtain ⟨b,e,c,hc⟩:=h.2 hn
  exact ⟨b,e,by omega,hc⟩⟩
theorem xg.at_ {W:World} {B size n:Nat} {A:Option Addr} {xs:List Value} (h:xg W B size A n xs) {k:Nat} (d:k<n) :
  ∃ a,A=some a∧a.block<B∧∀ i,i<size→W.cell? (a.add (k*size+i))=xs[k*size+i]? := by
 obtain ⟨a,e,c,hc⟩:=h.2 (by omega)
 refine ⟨a,e,c,fun i f=>?_⟩
 have b:k*size+i<xs.length:=by
  rw [h.1]
  have:(k+1)*size≤n*size:=Nat.mul_le_mul_right _ d
  rw [Nat.add_mul]at this
  omega
 rw [List.getElem?_eq_getElem b]
 exact hc _ _ (List.getElem?_eq_getElem b)
theorem xg.own {W:World} {base size n c:Nat} {e:TypeId} {A:Option Addr} {xs:List Value} (h:W.ownsRow base e size (.slice A n c) n xs):xg W W.heap.size size A n xs:=by
 refine ⟨h.1,fun hn=>?_⟩
 rcases h.2 with ⟨_,b⟩ | ⟨g,m,o,l,r,d,q,p,s,k⟩
 ·omega
 ·have hA:A=some ⟨g,0,none⟩:=by injection l
  subst hA
  refine ⟨_,rfl,(Array.getElem?_eq_some_iff.1 d).1,fun j u a=>?_⟩
  have f:(⟨g,0,none⟩:Addr).add j=⟨g,j,none⟩:=by
   unfold Addr.add
   split
   ·rename_i b
    rw [b]
   ·simp
  rw [f]
  rw [← k]at a
  have i:j<n*size:=by
   have:=(List.getElem?_eq_some_iff.1 a).1
   rw [List.length_take]at this
   omega
  rw [List.getElem?_take_of_lt i]at a
  simp only [World.cell?,d]
  simpa using a
theorem qS (a:Addr) (j i:Nat):a.add (j+(i+1))=⟨(a.add j).block,(a.add j).off+(i+1),none⟩:=by
 rw [← add_add']
 unfold Addr.add
 rw [if_neg (by omega:¬ i+1=0)]
structure Own where
 kind:Int
 b:Bool
 neg:Bool
 dg:ByteArray
 ex:Int
 u:Int
 wd:Int
 s:ByteArray
inductive Tr where
 | nd (o:Own) (l:List Tr)
def Tr.own:Tr→Own
 | .nd o _=>o
def Tr.kids:Tr→List Tr
 | .nd _ l=>l
def zp (o:Own) (v:Value):List Value:=[.int .i64 o.kind,.bool o.b,.bool o.neg,.string o.dg,.int .i64 o.ex,.int .u64 o.u,.int .i64 o.wd,.string o.s,v]
def ze (o:Own) (v:Value):Value:=.agg #[.int .i64 o.kind,.bool o.b,.bool o.neg,.string o.dg,.int .i64 o.ex,.int .u64 o.u,.int .i64 o.wd,.string o.s,v]
abbrev zv:Own:=⟨0,false,false,⟨#[]⟩,0,0,0,⟨#[]⟩⟩
abbrev zdz:Value:=ze zv (.slice none 0 0)
def wh:Array Value:=#[.int .i64 0,.bool false,.bool false,.string ⟨#[]⟩,.int .i64 0,.int .u64 0,.int .i64 0,.string ⟨#[]⟩,.slice none 0 0]
structure zt (o:Own):Prop where
 dg:o.dg.size≤9223372036854775807
 s:o.s.size≤9223372036854775807
 kind : -9223372036854775808≤o.kind∧o.kind<9223372036854775808
 ex : -9223372036854775808≤o.ex∧o.ex<9223372036854775808
 u:0≤o.u∧o.u<18446744073709551616
 wd : -9223372036854775808≤o.wd∧o.wd<9223372036854775808
def LAt (W:World) (S:Nat→Prop):Nat→List Tr→Value→Prop
 | 0,l,v=>l=[]∧∃ A c,v=.slice A 0 c
 | d+1,l,v=>∃ A c,v=.slice A l.length c∧(l.length≤9223372036854775807∧l.length≤c)∧∀ i (h:i<l.length),∃ a x,A=some a∧S a.block∧zt l[i].own ∧
   (∀ j u,(zp l[i].own x)[j]? = some u→W.cell? (a.add (i*9+j))=some u)∧LAt W S d l[i].kids x
abbrev zq (W:World) (B:Nat):Nat→List Tr→Value→Prop:=LAt W (fun q=>q<B)
theorem jd {W W':World} {a:Addr} (h:W'.heap[a.block]? = W.heap[a.block]?):W'.cell? a=W.cell? a:=by
 unfold World.cell?
 rw [h]
theorem LAt.keep {W W':World} {S:Nat→Prop} (b:∀ q,S q→W'.heap[q]? = W.heap[q]?):∀ {d:Nat} {l:List Tr} {v:Value},LAt W S d l v→LAt W' S d l v
 | 0,_,_,h=>h
 | d+1,l,v,⟨A,c,p,m,h⟩=>⟨A,c,p,m,fun i k=>by
   obtain ⟨a,x,g,f,n,hc,e⟩:=h i k
   exact ⟨a,x,g,f,n,fun j u o=>by
    rw [← hc j u o]
    exact jd (by rw [add_block]; exact b _ f),e.keep b⟩⟩
theorem LAt.mono {W:World} {S S':Nat→Prop} (b:∀ q,S q→S' q):∀ {d:Nat} {l:List Tr} {v:Value},LAt W S d l v→LAt W S' d l v
 | 0,_,_,h=>h
 | d+1,l,v,⟨A,c,n,j,h⟩=>⟨A,c,n,j,fun i g=>by
   obtain ⟨a,x,f,m,k,hc,e⟩:=h i g
   exact ⟨a,x,f,b _ m,k,hc,e.mono b⟩⟩
theorem LAt.below {W W':World} {B m:Nat} (a:Below m W W') (b:B≤m) {d:Nat} {l:List Tr} {v:Value} (h:zq W B d l v):zq W' B d l v:=
 LAt.keep (fun q c=>a.block q (by omega)) h
theorem LAt.more {W:World} {B a:Nat} (b:B≤a) {d:Nat} {l:List Tr} {v:Value} (h:zq W B d l v):zq W a d l v:=
 LAt.mono (fun q c=>by omega) h
theorem LAt.slice {W:World} {S:Nat→Prop}:∀ {d:Nat} {l:List Tr} {v:Value},LAt W S d l v→l.length≤9223372036854775807∧∃ A c,v=.slice A l.length c
 | 0,_,_,⟨h,A,c,a⟩=>by
  subst h
  exact ⟨by simp,A,c,a⟩
 | _+1,_,_,⟨A,c,a,b,_⟩=>⟨b.1,A,c,a⟩
theorem LAt.cap {W:World} {S:Nat→Prop}:∀ {d:Nat} {l:List Tr} {A:Option Addr} {n c:Nat},LAt W S d l (.slice A n c)→l.length≤c
 | 0,_,_,_,_,⟨h,_⟩=>by
  subst h
  exact Nat.zero_le _
 | _+1,_,_,_,_,⟨_,_,b,a,_⟩=>by
  injection b with _ _ hc
  rw [hc]
  exact a.2
theorem LAt.nil (W:World) (S:Nat→Prop) (d:Nat) (A:Option Addr) (c:Nat):LAt W S d [] (.slice A 0 c):=by
 cases d with
 | zero=>exact ⟨rfl,A,c,rfl⟩
 | succ d=>exact ⟨A,c,rfl,by simp,fun i a=>absurd a (by simp)⟩
theorem LAt.deeper {W:World} {S:Nat→Prop}:∀ {d b:Nat} {l:List Tr} {v:Value},d≤b→LAt W S d l v→LAt W S b l v
 | 0,b,l,v,_,⟨h,A,c,e⟩=>by
  subst h e
  exact LAt.nil W S b A c
 | d+1,0,_,_,h,_=>absurd h (by omega)
 | d+1,b+1,l,v,o,⟨A,c,e,m,h⟩=>⟨A,c,e,m,fun i j=>by
   obtain ⟨a,x,g,f,n,hc,k⟩:=h i j
   exact ⟨a,x,g,f,n,hc,k.deeper (by omega)⟩⟩
structure vQ (W:World) (a:Addr) (o:Own) (x:Value):Prop where
 c0:W.cell? a=some (.int .i64 o.kind)
 c1:W.cell? ⟨a.block,a.off+1,none⟩=some (.bool o.b)
 c2:W.cell? ⟨a.block,a.off+2,none⟩=some (.bool o.neg)
 c3:W.cell? ⟨a.block,a.off+3,none⟩=some (.string o.dg)
 c4:W.cell? ⟨a.block,a.off+4,none⟩=some (.int .i64 o.ex)
 c5:W.cell? ⟨a.block,a.off+5,none⟩=some (.int .u64 o.u)
 c6:W.cell? ⟨a.block,a.off+6,none⟩=some (.int .i64 o.wd)
 c7:W.cell? ⟨a.block,a.off+7,none⟩=some (.string o.s)
 c8:W.cell? ⟨a.block,a.off+8,none⟩=some x
theorem vQ.of {W:World} {a:Addr} {o:Own} {x:Value} {k:Nat} (h:∀ j u,(zp o x)[j]? = some u→W.cell? (a.add (k+j))=some u):vQ W (a.add k) o x where
 c0:=h 0 _ rfl
 c1:=by rw [← qS a k 0]; exact h 1 _ rfl
 c2:=by rw [← qS a k 1]; exact h 2 _ rfl
 c3:=by rw [← qS a k 2]; exact h 3 _ rfl
 c4:=by rw [← qS a k 3]; exact h 4 _ rfl
 c5:=by rw [← qS a k 4]; exact h 5 _ rfl
 c6:=by rw [← qS a k 5]; exact h 6 _ rfl
 c7:=by rw [← qS a k 6]; exact h 7 _ rfl
 c8:=by rw [← qS a k 7]; exact h 8 _ rfl
theorem LAt.at_ {W:World} {S:Nat→Prop} {d:Nat} {l:List Tr} {A:Option Addr} {n c:Nat} (h:LAt W S d l (.slice A n c)) {k:Nat} (e:k<l.length) :
  ∃ b a x,d=b+1∧A=some a∧S a.block∧zt l[k].own∧vQ W (a.add (k*9)) l[k].own x∧LAt W S b l[k].kids x:=by
 cases d with
 | zero =>
  obtain ⟨rfl,_⟩:=h
  simp at e
 | succ d =>
  obtain ⟨A',o,m,_,h⟩:=h
  obtain ⟨a,x,i,g,j,hc,f⟩:=h k e
  have:A=A':=by injection m
  subst this
  exact ⟨d,a,x,rfl,i,g,j,vQ.of hc,f⟩
def zV (W:World) (S:Nat→Prop) (d:Nat):List Tr→List Value→Prop
 | [],xs=>xs=[]
 | t::l,xs=>∃ y r,xs=zp t.own y++r∧zt t.own∧LAt W S d t.kids y∧zV W S d l r
theorem zV.keep {W W':World} {S:Nat→Prop} (a:∀ q,S q→W'.heap[q]? = W.heap[q]?) {d:Nat}:∀ {l:List Tr} {b:List Value},zV W S d l b→zV W' S d l b
 | [],_,h=>h
 | _::_,_,⟨y,r,f,e,c,h⟩=>⟨y,r,f,e,c.keep a,h.keep a⟩
theorem zV.mono {W:World} {S S':Nat→Prop} (a:∀ q,S q→S' q) {d:Nat}:∀ {l:List Tr} {b:List Value},zV W S d l b→zV W S' d l b
 | [],_,h=>h
 | _::_,_,⟨y,r,f,e,c,h⟩=>⟨y,r,f,e,c.mono a,h.mono a⟩
theorem zV.append {W:World} {S:Nat→Prop} {d:Nat} {l':List Tr} {a:List Value} (b:zV W S d l' a):∀ {l:List Tr} {c:List Value},zV W S d l c→zV W S d (l++l') (c++a)
 | [],_,h=>by
  have h:_=[]:=h
  subst h
  exact b
 | _::_,_,⟨y,r,g,f,e,h⟩=>⟨y,r++a,by rw [g,List.append_assoc],f,e,zV.append b h⟩
theorem zV.one {W:World} {S:Nat→Prop} {d:Nat} {t:Tr} {y:Value} (b:zt t.own) (a:LAt W S d t.kids y):zV W S d [t] (zp t.own y):=
 ⟨y,[],by rw [List.append_nil],b,a,rfl⟩
theorem zV.len {W:World} {S:Nat→Prop} {d:Nat}:∀ {l:List Tr} {a:List Value},zV W S d l a→a.length=l.length*9
 | [],_,h=>by
  have h:_=[]:=h
  subst h
  rfl
 | _::l,_,⟨y,r,b,_,_,h⟩=>by
  rw [b,List.length_append,h.len]
  simp [zp]
  omega
theorem zV.get {W:World} {S:Nat→Prop} {d:Nat}:∀ {l:List Tr} {n:List Value} (_:zV W S d l n) (i:Nat) (a:i<l.length),
  ∃ y,zt l[i].own∧(∀ j u,(zp l[i].own y)[j]? = some u→n[i*9+j]? = some u)∧LAt W S d l[i].kids y
 | [],_,_,i,a=>absurd a (by simp)
 | t::l,_,⟨y,r,e,k,f,h⟩,0,_=>⟨y,k,fun j u c=>by
   have b:(zp t.own y)[j]? = some u:=c
   rw [e,Nat.zero_mul,Nat.zero_add,List.getElem?_append_left (List.getElem?_eq_some_iff.1 b).1]
   exact b,f⟩
 | t::l,_,⟨y,r,e,k,f,h⟩,i+1,a=>by
  obtain ⟨o,m,hc,g⟩:=h.get i (by simpa using a)
  refine ⟨o,m,fun j u c=>?_,g⟩
  have:=hc j u c
  rw [e,List.getElem?_append_right (by simp [zp]; omega)]
  rw [← this]
  congr 1
  simp [zp]
  omega
theorem zV.list {W:World} {S S':Nat→Prop} {d base n c:Nat} {e:TypeId} {A:Option Addr} {l:List Tr} {xs:List Value} (h:zV W S d l xs) (b:W.ownsRow base e 9 (.slice A n c) n xs) (hn:n=l.length) (t:n≤9223372036854775807)
  (o:∀ q,S q→S' q) (hA:∀ a,A=some a→S' a.block):LAt W S' (d+1) l (.slice A n c):=by
 subst hn
 refine ⟨A,c,rfl,⟨t,?_⟩,fun i r=>?_⟩
 ·rcases b.2 with ⟨g,m⟩ | ⟨_,_,_,g,_,_,m,_⟩
  ·omega
  ·injection g with _ _ g
   omega
 obtain ⟨_,f⟩:=xg.own b
 obtain ⟨a,k,_,hc⟩:=f (by omega)
 obtain ⟨y,v,p,s⟩:=h.get i r
 exact ⟨a,y,k,hA a k,v,fun j u w=>hc _ _ (p j u w),s.mono o⟩
mutual
def Tr.count:Tr→Nat
 | .nd _ l=>1+zm l
def zm:List Tr→Nat
 | []=>0
 | t::l=>t.count+zm l
end
theorem Tr.count_eq (t:Tr):t.count=1+zm t.kids:=by
 cases t
 rw [Tr.count]
 rfl
theorem kW:∀ a b:List Tr,zm (a++b)=zm a+zm b
 | [],b=>by simp [zm]
 | t::a,b=>by
  show t.count+zm (a++b)=t.count+zm a+zm b
  rw [kW a b]
  omega
theorem yA (l:List Tr) (k:Nat) (a:k<l.length):zm (l.take (k+1))=zm (l.take k)+l[k].count:=by
 rw [List.take_succ_eq_append_getElem a,kW]
 simp [zm]
theorem vN (l:List Tr) (k:Nat):zm (l.take k)≤zm l:=by
 have:=kW (l.take k) (l.drop k)
 rw [List.take_append_drop]at this
 omega
theorem zki (d:Nat):∀ (t:Tr) (x:Value) (w:World) (B:Nat),zq w B d t.kids x→B≤w.heap.size→t.count≤1000000000000 →
  Calls Tryz.prog 31 #[ze t.own x] w fun e w'=>e=.returned (.int .i64 (t.count:Nat))∧Below w.heap.size w w':=by
 induction d using Nat.strongRecOn with
 | _ d P =>
 intro t x w B q F hc
 obtain ⟨r,A,c,rfl⟩:=q.slice
 rw [Tr.count_eq]at hc ⊢
 obtain ⟨l,g⟩:∃ l,t.kids=l:=⟨_,rfl⟩
 rw [g]at q r hc ⊢
 obtain ⟨n,hn⟩:∃ n,l.length=n:=⟨_,rfl⟩
 rw [hn]at q r ⊢
 obtain ⟨⟨kind,b,neg,dg,ex,u,wd,s⟩,N⟩:∃ o,t.own=o:=⟨_,rfl⟩
 rw [N]
 unfold ze
 have HL:=Lib.hid q
 have IH:=Lib.hid P
 have I:=(Below.refl w.heap.size w).alloc (Nat.le_refl _) (.cells #[.int .i64 kind,.bool b,.bool neg,.string dg,.int .i64 ex,.int .u64 u,.int .i64 wd,.string s,.slice A n c] 28)
 have G:Blk (w.alloc (.cells #[.int .i64 kind,.bool b,.bool neg,.string dg,.int .i64 ex,.int .u64 u,.int .i64 wd,.string s,.slice A n c] 28)) w.heap.size #[.int .i64 kind,.bool b,.bool neg,.string dg,.int .i64 ex,.int .u64 u,.int .i64 wd,.string s,.slice A n c] 28:=Blk.new _ _ _
 clear q P N g
 simp only []
 go_enter Tryz.func31,Tryz.ntmps31
 go_wp2_with fail
 go_loopw [3,4] (fun m i wr=>∃ k:Nat,k≤n∧i=.int .i64 k∧m=.int .i64 ((1+zm (l.take k):Nat):Int)∧Below w.heap.size w wr∧Blk wr w.heap.size #[.int .i64 kind,.bool b,.bool neg,.string dg,.int .i64 ex,.int .u64 u,.int .i64 wd,.string s,.slice A n c] 28) (fun _ i _=>n - (intOf i).toNat)
 case atStart=>exact ⟨0,by omega,rfl,rfl,I,G⟩
 case round =>
  obtain ⟨k,hk,rfl,rfl,f,h⟩:=hrel
  have L:wr.cell? ⟨w.heap.size,8,none⟩=some (.slice A n c):=h.cell 8
  by_cases al:k<n
  ·have g:k<l.length:=by omega
   obtain ⟨d',ad,x',J,rfl,ak,O,C,z⟩:=(HL.out.below f F).at_ g
   have j:=yA l k g
   have M:=vN l (k+1)
   obtain ⟨m0,v⟩:∃ m0,zm (l.take k)=m0:=⟨_,rfl⟩
   obtain ⟨m1,y⟩:∃ m1,l[k].count=m1:=⟨_,rfl⟩
   rw [v,y]at j
   rw [j]at M
   have a:=IH.out d' (by omega) l[k] x' wr B z (Nat.le_trans F f.size) (by omega)
   rw [y]at a
   obtain ⟨⟨Z,b',af,ai,aj,u',am,s'⟩,D⟩:∃ o,l[k].own=o:=⟨_,rfl⟩
   rw [D]at a C
   unfold ze at a
   obtain ⟨Q,R,S,T,U,V,W,X,Y⟩:=C
   simp only []at Q R S T U V W X Y a
   have a:=Lib.hid a
   have HT:=Lib.hid j
   rw [v]
   have y1:(k:Int)<n:=by omega
   have y2:((1+m0:Nat):Int)+(m1:Int)≤2000000000000:=by omega
   clear j M v y D z O J
   go_wp2_with fail
   refine a.out.mono ?_
   rintro e w2 ⟨rfl,p⟩
   have H:=f.trans (p.mono f.size)
   have E:=h.below p h.lt
   clear p a h Q R S T U V W X Y L
   go_wp2_with fail
   go_roundw
   case rel=>exact ⟨k+1,by omega,by go_num,by rw [HT.out]; congr 1; omega,H,E⟩
   case measure=>simp [intOf]; omega
  ·obtain rfl:k=n:=by omega
   have y1:¬ (k:Int)<k:=by omega
   have K:l.take k=l:=by rw [← hn,List.take_length]
   rw [K]
   clear hn K
   go_wp2_with fail
   go_ret
   exact ⟨rfl,f⟩
end Go.Proofs.YtonihophanmaaaaGreatDoor
