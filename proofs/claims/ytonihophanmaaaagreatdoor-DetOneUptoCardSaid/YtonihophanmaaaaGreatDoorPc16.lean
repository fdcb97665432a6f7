/- The texts FlowR, put together. -/
import Derived.Test.YtonihophanmaaaaGreatDoorPc01
import Derived.Orders
import Derived.Still
import Derived.Laws.Rows
import Derived.Laws.Tables
import Derived.Deep.MidRow
namespace Go.Proofs.YtonihophanmaaaaGreatDoor
open Go.RowKit
def waitsFor (o:Oper) (j:Nat):Bool:=o.after.any fun e=>Region.binds .any e && e.on == j
def zj0 (ops:Array Oper) (o:Oper) (d:Option Tmp):Bool:=
 match d with
 | some d=>(o.looksAt ops).contains d
 | none=>false
def wu (ops:Array Oper):Bool:=
 (List.range ops.size).all fun i =>
  match ops[i]? with
  | none=>true
  | some o =>
   (o.op matches .select .. ) == false &&
   (o.after.all fun e=>!Region.binds .any e || decide (e.on<i)) &&
   (List.range ops.size).all fun j =>
    match ops[j]? with
    | none=>true
    | some p=>i == j || ((!(zj0 ops o p.dst) || waitsFor o j || waitsFor p i) && (p.dst.isNone || !(p.dst == o.dst)))
def zJ (ops:Array Oper) (a:Act) (sel:Nat→Bool) (env:Nat→Value):List Nat→Act
 | []=>a
 | i::r=>if sel i then (zJ ops a sel env r).put ((ops[i]?).bind (·.dst)) (env i) else zJ ops a sel env r
section
variable {P:Program} {R:World→World→Prop} {ops:Array Oper}
theorem wj {a:Act} {sel sel':Nat→Bool} {env env':Nat→Value}:∀ (l:List Nat),(∀ i∈l,sel i=sel' i∧(sel i=true→env i=env' i))→zJ ops a sel env l=zJ ops a sel' env' l
 | [],_=>rfl
 | i::r,h=>by
  have c:=h i (List.mem_cons_self ..)
  have d:=wj (a:=a) r (fun j e=>h j (List.mem_cons_of_mem _ e))
  unfold zJ
  rw [← c.1,d]
  by_cases b:sel i=true
  ·rw [if_pos b,if_pos b,c.2 b]
  ·rw [if_neg b,if_neg b]
theorem zb2 {a:Act} {sel:Nat→Bool} {env:Nat→Value} {i:Nat} (v:Value)
  (f:∀ j,j≠i→sel j=true→∀ d,(ops[i]?).bind (·.dst)=some d→(ops[j]?).bind (·.dst)≠some d) :
  ∀ (l:List Nat),l.Nodup→i∈l→sel i=false →
   zJ ops a (fun j=>j == i || sel j) (fun j=>if j=i then v else env j) l=(zJ ops a sel env l).put ((ops[i]?).bind (·.dst)) v
 | [],_,h,_=>by cases h
 | k::r,hn,p,m=>by
  rw [List.nodup_cons]at hn
  unfold zJ
  by_cases c:k=i
  ·subst c
   have n:(k == k || sel k)=true:=by simp
   rw [if_pos n,m]
   simp only [if_true,Bool.false_eq_true,if_false]
   congr 1
   refine wj r (fun j o=>?_)
   have:j≠k:=fun e=>hn.1 (e▸o)
   exact ⟨by simp [this],fun _=>by rw [if_neg this]⟩
  ·have g:i∈r:=by
    rcases List.mem_cons.1 p with h | h
    ·exact absurd h.symm c
    ·exact h
   have q:=zb2 (a:=a) (env:=env) v f r hn.2 g m
   rw [q]
   by_cases b:sel k=true
   ·rw [if_pos (by simp [b]),if_pos b,if_neg c]
    exact Act.put_comm _ _ _ (fun d hd=>f k c b d hd)
   ·rw [if_neg (by simp [b,c]),if_neg b]
theorem qH {a:Act} {sel:Nat→Bool} {env:Nat→Value}:∀ (l:List Nat),(zJ ops a sel env l).tmps.size=a.tmps.size
 | []=>rfl
 | k::r=>by
  have b:=qH (a:=a) (sel:=sel) (env:=env) r
  unfold zJ
  split
  ·cases (ops[k]?).bind (·.dst) with
   | none=>exact b
   | some d=>simp [Act.put,b]
  ·exact b
theorem zbk {a:Act} {sel sel':Nat→Bool} {env:Nat→Value} {t:Tmp}:∀ (l:List Nat),
  (∀ j∈l,sel j≠sel' j→(ops[j]?).bind (·.dst)≠some t)→(zJ ops a sel env l).tmps[t]? = (zJ ops a sel' env l).tmps[t]?
 | [],_=>rfl
 | k::r,h=>by
  have o:=zbk (a:=a) (env:=env) r (fun j q=>h j (List.mem_cons_of_mem _ q))
  have c:∀ (b:Act) (v:Value),(ops[k]?).bind (·.dst)≠some t→(b.put ((ops[k]?).bind (·.dst)) v).tmps[t]? = b.tmps[t]? := fun b v f=>by
   cases i:(ops[k]?).bind (·.dst) with
   | none=>rfl
   | some d =>
    rw [i]at f
    exact Array.getElem?_setIfInBounds_ne (fun e=>f (by rw [e]))
  have s:=h k (List.mem_cons_self ..)
  unfold zJ
  by_cases n:sel k=sel' k
  ·rw [n]
   by_cases g:sel' k=true
   ·rw [if_pos g,if_pos g]
    by_cases i:(ops[k]?).bind (·.dst)=some t
    ·have u:=qH (ops:=ops) (a:=a) (sel:=sel) (env:=env) r
     have w:=qH (ops:=ops) (a:=a) (sel:=sel') (env:=env) r
     rw [i]
     simp [Act.put,Array.getElem?_setIfInBounds,u,w]
    ·rw [c _ _ i,c _ _ i,o]
   ·rw [if_neg g,if_neg g,o]
  ·have f:=s n
   by_cases g:sel k=true
   ·have m:sel' k=false:=by cases h2:sel' k; rfl; exact absurd (g.trans h2.symm) n
    rw [if_pos g,m,c _ _ f]
    simpa using o
   ·have p:sel k=false:=by simpa using g
    have m:sel' k=true:=by cases h2:sel' k; exact absurd (p.trans h2.symm) n; rfl
    rw [p,if_pos m,c _ _ f]
    simpa using o
def xI (o:Oper) (x:Act):Value:=
 match o.dst with
 | some d=>x.tmps.getD d undef
 | none=>undef
def za0 (P:Program) (R:World→World→Prop) (ops:Array Oper) (a:Act) (E:World→Prop) (Φ:Nat→Value→World→Prop) (i:Nat) (o:Oper):Prop:=
 ∀ (env:Nat→Value) (w:World),E w→(∀ j,waitsFor o j=true→Φ j (env j) w) →
  ∀ a',a'=zJ ops a (fun j=>waitsFor o j) env (List.range ops.size) →
   if Region.wanted o (yielded ops a'.tmps) then
    ∀ K:Act→World→Prop,(∀ x w',x.defers=a'.defers→Φ i (xI o x) w'→R w w'→K x w')→o.wp P a' w K (fun _ _ _=>False)
   else Φ i undef w
theorem zkz {o:Oper} {a A:Act} {K i:Act→World→Prop} {Q:Exit→Act→World→Prop} (r:Result Next)
  (j:∀ v b,K (a.put o.dst v) b→i (A.put o.dst v) b) (hd:∀ d b,K (({ a with defers:=d::a.defers }:Act).put o.dst undef) b→False)
  (h:o.upon P a K (fun _ _ _=>False) r):o.upon P A i Q r:=by
 cases r with
 | ok n b =>
  cases n <;> simp only [Oper.upon]at h ⊢
  case value v=>exact j _ _ h
  case skip=>exact j _ _ h
  case defer d=>exact (hd _ _ h).elim
  case enter f args =>
   refine Calls.mono h (fun e l g=>?_)
   cases e with
   | returned v=>exact j _ _ g
   | panicked c=>exact g.elim
   | outgrown=>obtain ⟨_,_,k⟩:=g; exact k.elim
  case row row args=>exact Rows.mono h (fun _ _ g=>j _ _ g)
 | halt x b=>cases x <;> simp only [Oper.upon]at h
theorem zgM {t t':Array Value} {j:Nat} (h:∀ d,(ops[j]?).bind (·.dst)=some d→t[d]? = t'[d]?):yielded ops t j=yielded ops t' j:=by
 unfold yielded
 cases hq:(ops[j]?).bind (·.dst) with
 | none=>simp
 | some d=>simp [h d hq]
theorem zed (h:wu ops=true) {i:Nat} {o:Oper} (m:ops[i]? = some o) :
  (∀ k b,o.op≠.select k b)∧(∀ e∈o.after,Region.binds .any e=true→e.on<i) ∧
  (∀ j p,ops[j]? = some p→j≠i→(∀ d,p.dst=some d→d∈o.looksAt ops→waitsFor o j=true∨waitsFor p i=true)∧(∀ d,p.dst=some d→o.dst≠some d)):=by
 have q:i<ops.size:=(Array.getElem?_eq_some_iff.1 m).1
 have f:=List.all_eq_true.1 h i (List.mem_range.2 q)
 rw [m]at f
 simp only [Bool.and_eq_true]at f
 obtain ⟨⟨l,s⟩,t⟩:=f
 refine ⟨fun k b e=>?_,fun e v u=>?_,fun j p n r=>?_⟩
 ·rw [e]at l
  cases l
 ·have a:=Array.all_eq_true'.1 s e v
  rw [u]at a
  simpa using a
 ·have g:j<ops.size:=(Array.getElem?_eq_some_iff.1 n).1
  have a:=List.all_eq_true.1 t j (List.mem_range.2 g)
  rw [n]at a
  simp only [Bool.or_eq_true,beq_iff_eq,Bool.and_eq_true,Bool.not_eq_true',Option.isNone_iff_eq_none]at a
  rcases a with a | ⟨a,c⟩
  ·exact absurd a.symm r
  ·refine ⟨fun d hd w=>?_,fun d hd e=>?_⟩
   ·rcases a with (a | a) | a
    ·rw [hd]at a
     simp only [zj0]at a
     have:(o.looksAt ops).contains d=true:=by simpa using w
     rw [this]at a
     cases a
    ·exact .inl a
    ·exact .inr a
   ·rcases c with c | c
    ·rw [hd]at c; cases c
    ·rw [hd,e]at c; simp at c
theorem zgG {o:Oper} {j:Nat} (h:waitsFor o j=true):∃ e∈o.after,Region.binds .any e=true∧e.on=j:=by
 unfold waitsFor at h
 obtain ⟨e,b,a⟩:=Array.any_eq_true'.1 h
 simp only [Bool.and_eq_true,beq_iff_eq]at a
 exact ⟨e,b,a.1,a.2⟩
theorem vY {a:Array Bool} {i:Nat} (h:i∈Region.ready .any ops a) :
  ∃ o,ops[i]? = some o∧a.getD i true=false∧∀ j,waitsFor o j=true→a.getD j false=true:=by
 unfold Region.ready at h
 obtain ⟨b,c⟩:=List.mem_filter.1 h
 have b:=List.mem_range.1 b
 obtain ⟨o,f⟩:∃ o,ops[i]? = some o:=⟨ops[i],Array.getElem?_eq_getElem b⟩
 rw [f]at c
 simp only [Bool.and_eq_true,Bool.not_eq_true',Option.map_some,Option.getD_some]at c
 refine ⟨o,f,c.1,fun j l=>?_⟩
 obtain ⟨e,k,g,rfl⟩:=zgG l
 have d:=Array.all_eq_true'.1 c.2 e k
 rw [g]at d
 simpa using d
theorem zhY (l:wu ops=true) {listed:Array Bool} (p:listed.size=ops.size) (h:Region.ready .any ops listed=[]):∀ i,i<ops.size→listed.getD i false=true:=by
 intro i
 induction i using Nat.strongRecOn with
 | _ i n =>
  intro f
  apply Decidable.byContradiction
  intro hn
  obtain ⟨o,j⟩:∃ o,ops[i]? = some o:=⟨ops[i],Array.getElem?_eq_getElem f⟩
  have b:=(zed l j).2.1
  have a:i∈Region.ready .any ops listed:=by
   unfold Region.ready
   refine List.mem_filter.2 ⟨List.mem_range.2 f,?_⟩
   rw [j]
   simp only [Bool.and_eq_true,Bool.not_eq_true',Option.map_some,Option.getD_some]
   refine ⟨?_,Array.all_eq_true'.2 fun e m=>?_⟩
   ·have k:i<listed.size:=by omega
    simp only [Array.getD,k,dif_pos]at hn ⊢
    simpa using hn
   ·by_cases c:Region.binds .any e=true
    ·have g:=b e m c
     have:=n e.on g (by omega)
     simp [this]
    ·have d:Region.binds .any e=false:=by simpa using c
     simp [d]
  rw [h]at a
  cases a
theorem za8:∀ (l:List Bool) (i:Nat),l[i]? = some false→((l.set i true).filter (! ·)).length+1=(l.filter (! ·)).length
 | [],_,h=>by cases h
 | b::l,0,h=>by
  simp at h
  subst h
  simp
 | b::l,i+1,h=>by
  simp at h
  have:=za8 l i h
  cases b <;> simp at this ⊢ <;> omega
def zaE (ops:Array Oper) (sel:Nat→Bool) (env:Nat→Value) (t:Tmp) (dflt:Value):List Nat→Value
 | []=>dflt
 | k::r=>if sel k && (ops[k]?).bind (·.dst) == some t then env k else zaE ops sel env t dflt r
theorem vi {a:Act} {sel:Nat→Bool} {env:Nat→Value} {t:Tmp} (i:t<a.tmps.size):∀ (l:List Nat),
  (zJ ops a sel env l).tmps.getD t undef=zaE ops sel env t (a.tmps.getD t undef) l
 | []=>rfl
 | k::r=>by
  have j:=vi (a:=a) (sel:=sel) (env:=env) i r
  have m:=qH (ops:=ops) (a:=a) (sel:=sel) (env:=env) r
  unfold zJ zaE
  by_cases c:sel k=true
  ·rw [if_pos c,c]
   by_cases b:(ops[k]?).bind (·.dst)=some t
   ·have f:((ops[k]?).bind (·.dst) == some t)=true:=by simp [b]
    rw [b]
    simp [Act.put,m,i]
   ·have f:((ops[k]?).bind (·.dst) == some t)=false:=by simp [b]
    rw [f,Bool.and_false,if_neg (by decide),← j]
    cases hq2:(ops[k]?).bind (·.dst) with
    | none=>rfl
    | some d =>
     rw [hq2]at b
     have g:d≠t:=fun e=>b (by rw [e])
     simp only [Array.getD_eq_getD_getElem?,Act.put,Array.getElem?_setIfInBounds_ne g]
  ·have h:sel k=false:=by simpa using c
   rw [if_neg c,h,Bool.false_and,if_neg (by decide),j]
def xH (ops:Array Oper) (a:Act) (sel:Nat→Bool) (env:Nat→Value):Operand→Value
 | .tmp t=>zaE ops sel env t (a.eval (.tmp t)) (List.range ops.size)
 | x=>a.eval x
def zd (P:Program) (o:Oper) (ρ:Operand→Value) (w:World) (R:Value→World→Prop):Prop:=
 match (execOp ρ o).run P w with
 | .ok (.value v) w'=>R v w'
 | .ok .skip w'=>R undef w'
 | .ok (.enter f args) w'=>Calls P f args w' fun e w''=>∃ v,e=.returned v∧R v w''
 | _=>False
theorem zej {o:Oper} {ρ:Operand→Value} {w a:World} {R:Value→World→Prop} (v:Value) (h:(execOp ρ o).run P w=.ok (.value v) a) (b:R v a):zd P o ρ w R:=by
 unfold zd
 rw [h]
 exact b
theorem jh {o:Oper} {ρ:Operand→Value} {w:World} {R:Value→World→Prop} (ty:TypeId) (x:Operand) (h:o.op=.load ty x)
  (g:Nat) (j:ρ x=.pointer (some ⟨g,0,none⟩)) (t:TypeId) (a:Array Value) (b:Nat×Nat) (d:TypeDesc) (e:w.heap[g]? = some (.cells a t b))
  (i:P.underlying ty=some d) (hd:(match d with | .struct _ | .array _ _=>true | _=>false)=true) (f:(P.info? ty).map (·.size)=some a.size) (c:R (.agg a) w):zd P o ρ w R:=by
 refine zej (.agg a) ?_ c
 unfold execOp
 simp only [h,j,Instr.loadAt,Instr.sureAddr,Sem.run_bind,Sem.run_pure,Result.andThen_ok,run_loadVar_row w g t ty a b d e i hd f]
theorem zde {o:Oper} {ρ:Operand→Value} {w:World} {R:Value→World→Prop} (ty:TypeId) (x y:Operand) (g:o.op=.store ty x y)
  (b i:Nat) (a:Array Value) (j:ρ x=.pointer (some ⟨b,i,none⟩)) (k:ρ y=.agg a) (h:w.there b i a.size) (f:(P.info? ty).map (·.size)=some a.size) (d:a.all (·.oneCell')=true)
  (e:R undef (w.setCells b i a.toList)):zd P o ρ w R:=by
 unfold zd
 have c:(execOp ρ o).run P w=.ok .skip (w.setCells b i a.toList):=by
  unfold execOp
  simp only [g,j,k,Instr.storeAt,Instr.sureAddr,Sem.run_bind,Sem.run_pure,Result.andThen_ok,run_storeVar_mid w b i ty a h f d]
 rw [c]
 exact e
def yX (P:Program) (f:FuncId):Bool:=
 match P.funcs[f]? with
 | some fn=>!(fn.name == "runtime.NumGoroutine") && fn.body.isSome
 | none=>false
theorem jl {o:Oper} {ρ:Operand→Value} {w:World} {R:Value→World→Prop} {f:FuncId} {args:Array Operand} {c:Array TypeId}
  (g:o.op=.call { callee:=.value (.func f),args,argTypes:=c }) (a:yX P f=true) (k:∀ f,ρ (.func f)=.func (.func f) #[] #[])
  (h:Calls P f (args.map ρ) w fun e i=>∃ v,e=.returned v∧R v i):zd P o ρ w R:=by
 have b:(execOp ρ o).run P w=.ok (.enter f (args.map ρ)) w:=by
  unfold yX at a
  cases hq:P.funcs[f]? with
  | none=>rw [hq]at a; cases a
  | some d =>
   rw [hq]at a
   simp only [Bool.and_eq_true,Bool.not_eq_true',beq_eq_false_iff_ne,ne_eq]at a
   have j:¬ d.body=none:=by cases hx:d.body <;> simp_all
   unfold execOp
   simp [g,resolve,Deferred.ofValue,invoke,callFunc,hq,a.1,j,k]
 unfold zd
 rw [b]
 exact h
theorem zax {a k:Act} {env:Nat→Value} {w:World} {o:Oper} {K:Act→World→Prop} {X:Value→World→Prop} (i:(o.op matches .select ..)=false) (z:(o.looksAt ops).all (fun t=>decide (t<a.tmps.size))=true) (m:k=zJ ops a (fun j=>waitsFor o j) env (List.range ops.size))
  (h:zd P o (xH ops a (waitsFor o) env) w X) (c:∀ v d,X v d→K (k.put o.dst v) d):o.wp P k w K (fun _ _ _=>False):=by
 have l:execOp k.eval o=execOp (xH ops a (waitsFor o) env) o:=execOp_congr o (fun A b e=>by rw [e]at i; cases i) (fun x y=>by
  cases x with
  | tmp t =>
   have r:t∈o.looksAt ops:=List.mem_append_left _ (List.mem_filterMap.2 ⟨.tmp t,by simpa using y,rfl⟩)
   have s:t<a.tmps.size:=by simpa using List.all_eq_true.1 z t r
   rw [m]
   exact vi s _
  | const v=>rfl
  | global g=>rfl
  | func f=>rfl)
 unfold Oper.wp
 rw [l]
 unfold zd at h
 revert h
 cases (execOp (xH ops a (waitsFor o) env) o).run P w with
 | halt x d=>exact False.elim
 | ok n d =>
  cases n <;> simp only [Oper.upon]
  case value v=>exact c v d
  case skip=>exact c undef d
  case enter f args =>
   intro h
   refine Calls.mono h (fun e p q=>?_)
   obtain ⟨v,rfl,u⟩:=q
   exact c v p u
  all_goals exact False.elim
theorem put_defers (a:Act) (d:Option Tmp) (v:Value):(a.put d v).defers=a.defers:=by cases d <;> rfl
theorem zcC {a b:Act} {env:Nat→Value} {o:Oper} (hd:(match o.dst with | some d=>decide (d<a.tmps.size) | none=>false)=true) (c:b=zJ ops a (fun j=>waitsFor o j) env (List.range ops.size)) (v:Value):xI o (b.put o.dst v)=v:=by
 unfold xI
 cases hq:o.dst with
 | none=>rw [hq]at hd; cases hd
 | some d =>
  rw [hq]at hd
  have:d<b.tmps.size:=by rw [c,qH]; simpa using hd
  simp [Act.put,this]
theorem zn {a:Act} {E:World→Prop} {Φ:Nat→Value→World→Prop} {i:Nat} {o:Oper} (r:o.guard=none) (k:(o.op matches .select ..)=false)
  (u:(o.looksAt ops).all (fun t=>decide (t<a.tmps.size))=true) (hd:(match o.dst with | some d=>decide (d<a.tmps.size) | none=>false)=true)
  (h:∀ (c:Nat→Value) (w:World),E w→(∀ j,waitsFor o j=true→Φ j (c j) w) →
   ∀ ρ,ρ=xH ops a (waitsFor o) c→(∀ v,ρ (.const v)=v)→(∀ f,ρ (.func f)=.func (.func f) #[] #[])→(∀ g,ρ (.global g)=.pointer (some ⟨g,0,none⟩)) →
    ∀ K:Value→World→Prop,(∀ v b,Φ i v b→R w b→K v b)→zd P o ρ w K) :
  za0 P R ops a E Φ i o:=by
 intro c w p hn l e
 have s:Region.wanted o (yielded ops l.tmps)=true:=by unfold Region.wanted; rw [r]
 rw [if_pos s]
 intro K q
 exact zax k u e (h c w p hn _ rfl (fun _=>rfl) (fun _=>rfl) (fun _=>rfl) (fun v b=>Φ i v b∧R w b) (fun _ _ m n=>⟨m,n⟩)) (fun v b h=>q _ _ (put_defers _ _ _) (by rw [zcC hd e v]; exact h.1) h.2)
def wE (P:Program) (R:World→World→Prop) (ops:Array Oper) (a:Act) (E:World→Prop) (Φ:Nat→Value→World→Prop) (k:Nat) (l:List Oper):Prop:=
 ∀ i o,l[i]? = some o→za0 P R ops a E Φ (k+i) o
theorem xn {a:Act} {E:World→Prop} {Φ:Nat→Value→World→Prop} {k:Nat}:wE P R ops a E Φ k []:=fun i o h=>by simp at h
theorem za {a:Act} {E:World→Prop} {Φ:Nat→Value→World→Prop} {k:Nat} {o:Oper} {r:List Oper} (h:za0 P R ops a E Φ k o) (c:wE P R ops a E Φ (k+1) r) :
  wE P R ops a E Φ k (o::r)
 | 0,p,b=>by simp at b; subst b; exact h
 | i+1,p,b=>by
  have:=c i p (by simpa using b)
  rwa [show k+(i+1)=k+1+i by omega]
def vu (l:List (Value→World→Prop)) (i:Nat):Value→World→Prop:=l.getD i fun _ _=>True
def jM (env:Nat→Value) (a:Act):Nat→List Oper→Act
 | _,[]=>a
 | k,o::r=>(jM env a (k+1) r).put o.dst (env k)
theorem zb1 {l:List Oper} {a:Act} {env:Nat→Value}:∀ (r:List Oper) (k:Nat),(∀ i,l[k+i]? = r[i]?) →
  zJ l.toArray a (fun _=>true) env (List.range' k r.length)=jM env a k r
 | [],_,_=>rfl
 | o::r,k,h=>by
  have b:l[k]? = some o:=by simpa using h 0
  have c:=zb1 (a:=a) (env:=env) r (k+1) (fun i=>by
   have:=h (i+1)
   rw [show k+(i+1)=k+1+i by omega]at this
   simpa using this)
  rw [List.length_cons,List.range'_succ]
  unfold zJ jM
  rw [if_pos rfl,c]
  simp [b]
end
end Go.Proofs.YtonihophanmaaaaGreatDoor
