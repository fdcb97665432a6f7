/- The texts CrQ, FlowK, CrP, put together. -/
import Derived.Test.YtonihophanmaaaaGreatDoorPc06
import Derived.Test.YtonihophanmaaaaGreatDoorPc17
import Derived.Test.YtonihophanmaaaaGreatDoorPc03
namespace Go.Proofs.YtonihophanmaaaaGreatDoor
open Go.RowKit Go.Shelf
theorem znw (l:List Value) (o:Nat) (v:Value) (h:o<l.length):l.set o v=l.take o++v::l.drop (o+1):=by
 rw [List.set_eq_take_append_cons_drop,if_pos h]
theorem zd6 (g:Nat) (e:TypeId):∀ (c:List Value) (o:Nat) (w:World) (a:Array Value),w.heap[g]? = some (.cells a e (0,0))→o+c.length≤a.size →
  ∃ b:Array Value,(w.setCells g o c).heap[g]? = some (.cells b e (0,0))∧b.toList=a.toList.take o++c++a.toList.drop (o+c.length)
 | [],o,w,a,h,_=>⟨a,h,by simp⟩
 | v::r,o,w,a,h,m=>by
  rw [List.length_cons]at m
  have l:Blk w g a e:=h
  have i:(w.setCell ⟨g,o,none⟩ v).heap[g]? = some (.cells (a.setIfInBounds o v) e (0,0)):=l.set o v
  obtain ⟨b,j,k⟩:=zd6 g e r (o+1) _ (a.setIfInBounds o v) i (by simp; omega)
  refine ⟨b,j,?_⟩
  have n:o<a.toList.length:=by simp; omega
  rw [k,Array.toList_setIfInBounds,znw _ _ _ n,List.length_cons]
  have d:(a.toList.take o++v::a.toList.drop (o+1)).take (o+1)=a.toList.take o++[v]:=by
   rw [List.take_append,List.take_of_length_le (by simp; omega)]
   simp
   rw [show o+1 - min o a.size=1 by omega]
   rfl
  have f:(a.toList.take o++v::a.toList.drop (o+1)).drop (o+1+r.length)=a.toList.drop (o+(r.length+1)):=by
   rw [List.drop_append,List.drop_eq_nil_of_le (by simp; omega),List.nil_append]
   rw [show o+1+r.length - (a.toList.take o).length=r.length+1 by simp; omega,List.drop_succ_cons,List.drop_drop]
   congr 1
   omega
  rw [d,f]
  simp
theorem zhc {w:World} {base n c g:Nat} {e:TypeId} {xs zs ys:List Value} (h:w.ownsRow base e 9 (.slice (some ⟨g,0,none⟩) (n+1) c) (n+1) (xs++zs)) (f:xs.length=n*9) (i:ys.length=9) :
  (w.setCells g (n*9) ys).ownsRow base e 9 (.slice (some ⟨g,0,none⟩) (n+1) c) (n+1) (xs++ys):=by
 obtain ⟨x,j⟩:=h
 rcases j with ⟨j,_⟩ | ⟨v,o,d,b,p,q,hn,hc,k,s⟩
 ·cases j
 ·injection b with b _ l
  injection b with b
  injection b with b
  subst b l
  obtain ⟨a,t,m⟩:=zd6 g e ys (n*9) w d q (by rw [i,k]; omega)
  have u:d.toList.length=c*9:=by simpa using k
  refine ⟨by rw [List.length_append,f,i]; omega,.inr ⟨g,c,a,rfl,p,t,hn,hc,?_,?_⟩⟩
  ·have:=congrArg List.length m
   rw [List.length_append,List.length_append,List.length_take,List.length_drop,i]at this
   have y:a.toList.length=a.size:=by simp
   omega
  ·have r:d.toList.take (n*9)=xs:=by
    have:=congrArg (List.take (n*9)) s
    rw [List.take_take,Nat.min_eq_left (by omega),List.take_append_of_le_length (by omega),← f,List.take_length,f]at this
    exact this
   rw [m,r,List.take_append_of_le_length (by rw [List.length_append,f,i]; omega),List.take_of_length_le (by rw [List.length_append,f,i]; omega)]
end Go.Proofs.YtonihophanmaaaaGreatDoor
namespace Go.Proofs.YtonihophanmaaaaGreatDoor
end Go.Proofs.YtonihophanmaaaaGreatDoor
namespace Go.Proofs.YtonihophanmaaaaGreatDoor
open Go.RowKit Go.Shelf
theorem zih (w:World) (r:Option Nat):w.grownBy w r:=⟨rfl,rfl,rfl,Nat.le_refl _,fun _ _ _=>rfl⟩
theorem vF (g:Nat):∀ (a:List Value) (o:Nat) (w:World),w.grownBy (w.setCells g o a) (some g)
 | [],_,w=>zih w _
 | v::r,o,w=>zu (jm w g o v) (vF g r (o+1) _)
def ku (n s0:Nat) (v:Value) (A B:World):Prop:=Below n A B∧(∀ q,q<s0→q≠n+2→v.ownBlock≠some q→B.heap[q]? = A.heap[q]?)∧KeepsFrom (n+7) A B
theorem ku.refl (n a:Nat) (v:Value) (A:World):ku n a v A A:=⟨Below.refl _ _,fun _ _ _ _=>rfl,KeepsFrom.refl _ _⟩
theorem ku.trans {n a:Nat} {v:Value} {A B C:World} (h:ku n a v A B) (k:ku n a v B C):ku n a v A C:=
 ⟨h.1.trans k.1,fun q b c d=>(k.2.1 q b c d).trans (h.2.1 q b c d),h.2.2.trans k.2.2⟩
theorem ku.of {n d:Nat} {v:Value} {A B:World} {r:Option Nat} (a:A.grownBy B r) (m:d≤A.heap.size) (hn:n≤A.heap.size) (c:∀ g,r=some g→n≤g∧(g=n+2∨v.ownBlock=some g∨d≤g)∧(g<n+7∨∀ o,A.heap[g]? = some o→o.isCells=true)):ku n d v A B:=by
 refine ⟨(Below.refl _ A).grown a hn (fun g e=>(c g e).1),fun q j f i=>a.block q (by omega) (fun e=>?_),⟨a.size,fun k o l b hc=>?_⟩⟩
 ·rcases (c q e.symm).2.1 with h | h | h
  ·exact f h
  ·exact i h
  ·omega
 ·refine (a.block k (Array.getElem?_eq_some_iff.1 b).1 (fun e=>?_)).trans b
  rcases (c k e.symm).2.2 with h | h
  ·omega
  ·rw [h o b]at hc
   cases hc
def zaZ (n s0 gn:Nat) (v:Value) (O:Value→Array Value) (xs nx zl:List Value) (sel:Nat→Bool) (env:Nat→Value) (A:World):Prop:=
 ((sel 9=true→sel 1=true)∧(sel 9=true→sel 5=true)∧(sel 7=true→sel 5=true)) ∧
 Blk A (n+2) (O (if sel 9=true then env 5 else v)) 28 ∧
 (sel 5=false→A.ownsRow (n+7) 28 9 v gn xs) ∧
 (sel 5=true→A.ownsRow (n+7) 28 9 (env 5) (gn+1) (xs++(if sel 7=true then nx else zl))) ∧
 (sel 4=true→sel 5=false→∃ zb,env 4=.slice (some ⟨zb,0,none⟩) 1 1∧s0≤zb∧Blk A zb zl.toArray 28)
theorem xV {n k a:Nat} {v:Value} {O:Value→Array Value} {xs j l:List Value} {sel:Nat→Bool} {env:Nat→Value} {A:World} (h:zaZ n k a v O xs j l sel env A) (i:Nat) (u:Value) (d:i≠4) (g:i≠5) (r:i≠7) (s:i≠9):zaZ n k a v O xs j l (kI sel i) (j2 env i u) A:=by
 obtain ⟨⟨m,o,p⟩,b,c,e,f⟩:=h
 unfold zaZ
 rw [zr sel (Ne.symm s),zr sel (Ne.symm g),zr sel (Ne.symm r),zr sel (Ne.symm d),zU env u (Ne.symm g),zU env u (Ne.symm d)]
 refine ⟨⟨fun q=>?_,o,p⟩,b,c,e,f⟩
 unfold kI
 rw [m q,Bool.or_true]
theorem zfW {P:Program} {o:Oper} {ρ:Operand→Value} {w:World} {R:Value→World→Prop} (s x:Operand) (t:TypeId) (b:o.op=.call { callee:=.builtin .append,args:=#[s,x],argTypes:=#[t,t] }) (v c r:Value) (d:World)
  (f:ρ s=v) (g:ρ x=c) (a:(Builtin.append_ #[t,t] o.type #[v,c]).run P w=.ok r d) (e:R r d):zd P o ρ w R:=by
 refine zej r ?_ e
 unfold execOp
 simp only [b,resolve,invoke,builtin,Sem.run_bind,Sem.run_pure,Result.andThen_ok,List.map_toArray,List.map_cons,List.map_nil,f,g,a]
end Go.Proofs.YtonihophanmaaaaGreatDoor
