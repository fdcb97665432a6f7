/- The texts DtE, FlowI, AppR, TreeH, put together. -/
import Derived.Test.YtonihophanmaaaaGreatDoorPc27
import Derived.Test.YtonihophanmaaaaGreatDoorPc04
import Derived.Test.YtonihophanmaaaaGreatDoorPc17
import Derived.ArgAppend
import Derived.Deep.AppendLies
import Derived.Test.YtonihophanmaaaaGreatDoorPc03
import Derived.Deep.MidRow
import Derived.Lib.LazyBuf
import Derived.Test.YtonihophanmaaaaGreatDoorPc16
namespace Go.Proofs.YtonihophanmaaaaGreatDoor
open Go.RowKit Go.Shelf
def zD (o:Own):Own:=if 0≤o.u∧o.u<18446744073709551616 then jw o else o
theorem zdT {o:Own} (h:zt o):zD o=jw o:=by
 unfold zD
 rw [if_pos h.u]
theorem vH:xa zD where
 kind o h:=by
  unfold zD
  split
  ·exact h
  ·exact h
 own o h4 h:=by
  unfold zD
  split
  ·rename_i a
   exact zlt a h4 h
  ·exact h
 idem o h4 h:=by
  by_cases a:0≤o.u∧o.u<18446744073709551616
  ·have b:zD o=jw o:=by
    unfold zD
    rw [if_pos a]
   have c:0≤(jw o).u∧(jw o).u<18446744073709551616:=(xD (o:=o) a).1
   have d:zD (jw o)=jw (jw o):=by
    unfold zD
    rw [if_pos c]
   rw [b,d,zj1 a]
  ·have b:zD o=o:=by
    unfold zD
    rw [if_neg a]
   rw [b,b]
theorem zlu:zcM zD flR where
 yes o h4 h:=by
  unfold zD
  split
  ·rename_i a
   unfold flR
   rw [if_pos (show 0≤(jw o).u∧(jw o).u<18446744073709551616 from (xD (o:=o) a).1)]
   exact zls a
  ·rename_i a
   unfold flR
   rw [if_neg a]
 self o h4 h hf:=by
  unfold zD
  split
  ·rename_i a
   unfold flR at hf
   rw [if_pos a]at hf
   exact zj2 a h4 h hf
  ·rfl
theorem zdl {o:Own} (h:zt o):zt (jw o):=by
 obtain ⟨a,b,c,d,e,i⟩:=h
 have f:j4 (je o.u o.wd)=16∨j4 (je o.u o.wd)=32∨j4 (je o.u o.wd)=64:=by
  unfold j4
  split
  ·exact .inl rfl
  split
  ·exact .inr (.inl rfl)
  ·exact .inr (.inr rfl)
 have g:=(xD (o:=o) e).1
 refine ⟨a,b,c,d,g,?_⟩
 show -9223372036854775808≤j4 (je o.u o.wd)∧j4 (je o.u o.wd)<9223372036854775808
 rcases f with h | h | h <;> rw [h] <;> decide
end Go.Proofs.YtonihophanmaaaaGreatDoor
namespace Go.Proofs.YtonihophanmaaaaGreatDoor
end Go.Proofs.YtonihophanmaaaaGreatDoor
namespace Go.Proofs.YtonihophanmaaaaGreatDoor
open Go.RowKit Go.Shelf
theorem zaX {F:Fence} {g:Nat} {P:Program} (w:World) {ops:Array Oper} {rest:List Oper} {o:Oper} {a:Act} {Q:Exit→Act→World→Prop}
  (k:o.guard=none) (s x:Operand) (t:TypeId) (b:o.op=.call { callee:=.builtin .append,args:=#[s,x],argTypes:=#[t,t] }) (v h r:Value) (i:World)
  (l:a.eval s=v) (m:a.eval x=h) (d:(Builtin.append_ #[t,t] o.type #[v,h]).run P w=.ok r i) (j:wpListIn F g P ops Q rest (a.put o.dst r) i) :
  wpListIn F g P ops Q (o::rest) a w:=by
 refine wpListIn_plain k fun K e=>?_
 unfold Oper.wpIn
 refine ⟨by simp [Oper.about,b,resolve,Target.leads],?_⟩
 rw [Oper.semAt_plain F _ _ (by rw [b]; intro c f; cases f)]
 unfold execOp
 simp only [b,resolve,invoke,builtin,Sem.run_bind,Sem.run_pure,Result.andThen_ok,List.map_toArray,List.map_cons,List.map_nil,l,m,d]
 exact e _ _ j
theorem wT {a b c:World} {r:Option Nat} (h:a.grownBy b r) (k:b.grownBy c r):a.grownBy c r:=
 ⟨k.os.trans h.os,k.tape.trans h.tape,k.output.trans h.output,Nat.le_trans h.size k.size,fun i d e=>(k.block i (Nat.lt_of_lt_of_le d h.size) e).trans (h.block i d e)⟩
theorem zb4 (w:World) (r:Option Nat):w.grownBy w r:=⟨rfl,rfl,rfl,Nat.le_refl _,fun _ _ _=>rfl⟩
theorem qE (b:Nat):∀ (a:List Value) (o:Nat) (w:World),w.grownBy (w.setCells b o a) (some b)
 | [],_,w=>zb4 w _
 | v::r,o,w=>by
  rw [World.setCells]
  exact wT (qq w b o v) (qE b r (o+1) _)
theorem zhX (g j:Nat):(⟨g,0,none⟩:Addr).add j=⟨g,j,none⟩:=by
 unfold Addr.add
 split
 ·rename_i a
  rw [a]
 ·simp
def setAt (xs:List Value) (k:Nat) (c:List Value):List Value:=xs.take (k*9)++c++xs.drop (k*9+9)
theorem zV.setAt {W:World} {S:Nat→Prop} {d:Nat}:∀ {l:List Tr} {i:List Value} (_:zV W S d l i) (k:Nat) (b:k<l.length) {y:Value} (_:LAt W S d l[k].kids y),
  zV W S d l (Go.Proofs.YtonihophanmaaaaGreatDoor.setAt i k (zp l[k].own y))
 | [],_,_,k,b,_,_=>absurd b (by simp)
 | t::l,_,⟨a,r,e,c,g,h⟩,0,_,y,f=>by
  refine ⟨y,r,?_,c,f,h⟩
  subst e
  unfold Go.Proofs.YtonihophanmaaaaGreatDoor.setAt
  simp [zp]
 | t::l,_,⟨a,r,e,c,g,h⟩,k+1,b,y,f=>by
  have j:=zV.setAt h k (by simpa using b) f
  refine ⟨a,_,?_,c,g,j⟩
  subst e
  unfold Go.Proofs.YtonihophanmaaaaGreatDoor.setAt
  have m:(zp t.own a++r).take ((k+1)*9)=zp t.own a++r.take (k*9):=by
   rw [List.take_append,List.take_of_length_le (by simp only [zp,List.length_cons,List.length_nil]; omega)]
   congr 2
   simp only [zp,List.length_cons,List.length_nil]
   omega
  have n:(zp t.own a++r).drop ((k+1)*9+9)=r.drop (k*9+9):=by
   rw [List.drop_append,List.drop_eq_nil_of_le (by simp only [zp,List.length_cons,List.length_nil]; omega),List.nil_append]
   congr 1
   simp only [zp,List.length_cons,List.length_nil]
   omega
  rw [m,n]
  simp
theorem zgn {xs:List Value} {k:Nat} {c:List Value} (hc:c.length=9) (a:k*9+9≤xs.length):(setAt xs k c).length=xs.length:=by
 unfold setAt
 rw [List.length_append,List.length_append,List.length_take,List.length_drop]
 omega
theorem zV.listR {W:World} {S S':Nat→Prop} {d g c:Nat} {l:List Tr} {xs:List Value} (h:zV W S d l xs) (p:W.rangeAt g 0 xs) (n:l.length≤9223372036854775807) (b:l.length≤c)
  (e:∀ q,S q→S' q) (f:S' g):LAt W S' (d+1) l (.slice (some ⟨g,0,none⟩) l.length c):=by
 refine ⟨_,c,rfl,⟨n,b⟩,fun i k=>?_⟩
 obtain ⟨y,o,a,m⟩:=h.get i k
 refine ⟨⟨g,0,none⟩,y,rfl,f,o,fun j u r=>?_,m.mono e⟩
 rw [zhX]
 have:=p _ _ (a j u r)
 rw [Nat.zero_add]at this
 exact this
theorem row_of {W:World} {S:Nat→Prop} {d:Nat} {a:Addr}:∀ (l:List Tr) (k:Nat),(∀ i (h:i<l.length),∃ x,zt l[i].own∧(∀ j u,(zp l[i].own x)[j]? = some u→W.cell? (a.add ((k+i)*9+j))=some u)∧LAt W S d l[i].kids x) →
  ∃ n,zV W S d l n∧∀ j u,n[j]? = some u→W.cell? (a.add (k*9+j))=some u
 | [],_,_=>⟨[],rfl,fun j u h=>by simp at h⟩
 | t::l,k,h=>by
  obtain ⟨x,s,hc,q⟩:=h 0 (by simp)
  obtain ⟨r,v,m⟩:=row_of l (k+1) (fun i o=>by
   obtain ⟨w,g,c,f⟩:=h (i+1) (by simpa using o)
   refine ⟨w,g,fun j u b=>?_,f⟩
   have:=c j u b
   rwa [show k+(i+1)=k+1+i by omega]at this)
  refine ⟨zp t.own x++r,⟨x,r,rfl,s,q,v⟩,fun j u b=>?_⟩
  by_cases p:j<9
  ·rw [List.getElem?_append_left (by simpa [zp] using p)]at b
   have:=hc j u b
   rwa [Nat.add_zero]at this
  ·rw [List.getElem?_append_right (by simp [zp]; omega)]at b
   have e:(zp t.own x).length=9:=rfl
   rw [e]at b
   have:=m _ u b
   rwa [show (k+1)*9+(j - 9)=k*9+j by omega]at this
theorem LAt.row {W:World} {S:Nat→Prop} {d n c:Nat} {a:Addr} {l:List Tr} (h:LAt W S (d+1) l (.slice (some a) n c)):∃ b,zV W S d l b∧∀ j u,b[j]? = some u→W.cell? (a.add j)=some u:=by
 obtain ⟨A',s,q,_,h⟩:=h
 have hA:some a=A':=by injection q
 subst hA
 obtain ⟨b,f,g⟩:=row_of (W:=W) (S:=S) (d:=d) (a:=a) l 0 (fun i m=>by
  obtain ⟨r,x,k,_,p,hc,o⟩:=h i m
  cases k
  exact ⟨x,p,fun j u e=>by
   have:=hc j u e
   rwa [Nat.zero_add],o⟩)
 exact ⟨b,f,fun j u e=>by
  have:=g j u e
  rwa [Nat.zero_mul,Nat.zero_add]at this⟩
theorem zV.cells1 {W:World} {S:Nat→Prop} {d:Nat}:∀ {l:List Tr} {b:List Value},zV W S d l b→∀ u∈b,u.oneCell'=true
 | [],_,h,u,a=>by
  have h:_=[]:=h
  subst h
  cases a
 | t::l,_,⟨y,r,f,_,e,h⟩,u,a=>by
  subst f
  rcases List.mem_append.1 a with a | a
  ·obtain ⟨_,A,c,rfl⟩:=e.slice
   unfold zp at a
   simp only [List.mem_cons,List.not_mem_nil,or_false]at a
   rcases a with rfl|rfl|rfl|rfl|rfl|rfl|rfl|rfl|rfl <;> rfl
  ·exact h.cells1 u a
theorem ziO {W W':World} {g o:Nat} {cs:List Value} (h:W.rangeAt g o cs) (b:W'.heap[g]? = W.heap[g]?):W'.rangeAt g o cs:=fun j v a=>by
 rw [← h j v a]
 exact jd b
theorem zaN {W W':World} {g o n:Nat} (h:W.there g o n) (b:W'.heap[g]? = W.heap[g]?):W'.there g o n:=fun j c=>by
 have:=h j c
 refine ⟨?_,?_⟩
 ·rw [jd (W:=W) (W':=W') b]
  exact this.1
 ·have a:=this.2
  unfold World.frozen? at a ⊢
  rw [b]
  exact a
theorem LAt.grown {W W':World} {T:Nat→Prop} {g:Nat} {d:Nat} {l:List Tr} {v:Value} (h:LAt W (fun q=>T q∧q<W.heap.size) d l v) (b:W.grownBy W' (some g)) (hT:∀ q,T q→q≠g):LAt W' (fun q=>T q∧q<W'.heap.size) d l v:=
 (h.keep (fun q a=>b.block q a.2 (fun e=>hT q a.1 (by injection e)))).mono (fun q a=>⟨a.1,Nat.lt_of_lt_of_le a.2 b.size⟩)
def zfe (T:Nat→Prop) (g k d n:Nat) (o:Own) (l':List Tr) (xs:List Value) (W:World):Prop:=
 ∃ y,LAt W (fun q=>T q∧q<W.heap.size) d l' y∧W.rangeAt g 0 (setAt xs k (zp o y))∧W.there g 0 (n*9)
theorem zfe.keep {T:Nat→Prop} {g k d n:Nat} {o:Own} {l':List Tr} {xs:List Value} {W W':World} (h:zfe T g k d n o l' xs W) (f:W.grownBy W' (some g)) (hT:∀ q,T q→q≠g) (a:W'.heap[g]? = W.heap[g]?):zfe T g k d n o l' xs W':=by
 obtain ⟨y,b,c,e⟩:=h
 exact ⟨y,b.grown f hT,ziO c a,zaN e a⟩
theorem zlS {xs c:List Value} {k j:Nat} (hc:c.length=9) (b:k*9+9≤xs.length) (a:j<9):(setAt xs k c)[k*9+j]? = c[j]? := by
 unfold setAt
 rw [List.append_assoc,List.getElem?_append_right (by rw [List.length_take]; omega),List.length_take,List.getElem?_append_left (by omega)]
 congr 1
 omega
theorem zkn {xs c:List Value} {k j:Nat} (hc:c.length=9) (b:k*9+9≤xs.length) (a:j<k*9∨k*9+9≤j):(setAt xs k c)[j]? = xs[j]? := by
 unfold setAt
 rcases a with a | a
 ·rw [List.append_assoc,List.getElem?_append_left (by rw [List.length_take]; omega),List.getElem?_take_of_lt a]
 ·rw [List.getElem?_append_right (by rw [List.length_append,List.length_take]; omega),List.length_append,List.length_take,List.getElem?_drop]
  congr 1
  omega
theorem zg8 {W:World} {g k n:Nat} {xs c:List Value} (f:∀ j,(j<k*9∨k*9+9≤j)→∀ v,xs[j]? = some v→W.cell? ⟨g,j,none⟩=some v) (e:W.there g 0 (n*9)) (p:xs.length=n*9) (o:k<n) (hc:c.length=9) :
  (W.setCells g (k*9) c).rangeAt g 0 (setAt xs k c)∧(W.setCells g (k*9) c).there g 0 (n*9):=by
 have m:k*9+9≤n*9:=by omega
 refine ⟨fun j v a=>?_,World.there_setCells e _ _ _⟩
 rw [Nat.zero_add]
 by_cases b:j<k*9∨k*9+9≤j
 ·rw [zkn hc (by omega) b]at a
  rw [World.cell?_setCells_out g c (k*9) W ⟨g,j,none⟩ (fun _ _=>by rw [hc]; exact b)]
  exact f j b v a
 ·obtain ⟨i,rfl⟩:∃ i,j=k*9+i:=⟨j - k*9,by omega⟩
  rw [zlS hc (by omega) (by omega)]at a
  have d:i<c.length:=(List.getElem?_eq_some_iff.1 a).1
  rw [World.cell?_setCells_in g c (k*9) W (fun h l=>by
   have:=(e (k*9+h) (by omega)).1
   rwa [Nat.zero_add]at this) i d,← a,List.getElem?_eq_getElem d]
theorem zks {W:World} {g n k:Nat} (a:W.there g 0 (n*9)) (c:k<n):W.there g (k*9) 9:=fun j b=>by
 have:=a (k*9+j) (by omega)
 rwa [Nat.zero_add]at this
theorem wz {t:Tr}:t.kids.length<t.count:=by
 rw [Tr.count_eq]
 have:∀ l:List Tr,l.length≤zm l:=by
  intro l
  induction l with
  | nil=>simp
  | cons t l a =>
   show l.length+1≤t.count+zm l
   have:=Tr.count_eq t
   omega
 have:=this t.kids
 omega
theorem zjS {t:Tr} {k:Nat} (a:k<t.kids.length):(t.kids[k]).count<t.count:=by
 have b:=yA t.kids k a
 have c:=vN t.kids (k+1)
 rw [Tr.count_eq t]
 omega
theorem zhC {t u:Tr} (h:u∈t.kids):u.count<t.count:=by
 obtain ⟨k,a,rfl⟩:=List.getElem_of_mem h
 exact zjS a
structure yR (w wr:World) (g k n bx:Nat) (cs cs2 cs3:Array Value) (ys:List Value) (t:TypeId) (W:World):Prop where
 bel:Below w.heap.size w W
 gr:wr.grownBy W (some g)
 b1:Blk W w.heap.size cs t
 b2:Blk W (w.heap.size+1) cs2 t
 b3:Blk W bx cs3 t
 out:∀ j,(j<k*9∨k*9+9≤j)→∀ v,ys[j]? = some v→W.cell? ⟨g,j,none⟩=some v
 th:W.there g 0 (n*9)
 glt:g<W.heap.size
theorem yR.below {w wr:World} {g k n d:Nat} {e b c:Array Value} {ys:List Value} {t:TypeId} {W W':World} (h:yR w wr g k n d e b c ys t W) (a:Below W.heap.size W W'):yR w wr g k n d e b c ys t W' where
 bel:=h.bel.trans (a.mono h.bel.size)
 gr:=wT h.gr ⟨a.os,a.tape,a.output,a.size,fun k i _=>a.block k i⟩
 b1:=h.b1.below a h.b1.lt
 b2:=h.b2.below a h.b2.lt
 b3:=h.b3.below a h.b3.lt
 out:=fun j f v l=>by
  rw [← h.out j f v l]
  exact jd (a.block g h.glt)
 th:=zaN h.th (a.block g h.glt)
 glt:=Nat.lt_of_lt_of_le h.glt a.size
theorem yR.store {w wr:World} {g k n d:Nat} {f a b:Array Value} {ys:List Value} {t:TypeId} {W:World} (h:yR w wr g k n d f a b ys t W) (o:w.heap.size+2≤g) (m:d≠g) (c:List Value) (hc:c.length=9):yR w wr g k n d f a b ys t (W.setCells g (k*9) c) where
 bel:=h.bel.grown (qE g c (k*9) W) h.bel.size (fun q e=>by cases e; omega)
 gr:=wT h.gr (qE g c (k*9) W)
 b1:=h.b1.kept (qE g c (k*9) W) (fun e=>by injection e with e; omega)
 b2:=h.b2.kept (qE g c (k*9) W) (fun e=>by injection e with e; omega)
 b3:=h.b3.kept (qE g c (k*9) W) (fun e=>by injection e with e; exact m e)
 out:=fun j i v l=>by
  rw [World.cell?_setCells_out g c (k*9) W ⟨g,j,none⟩ (fun _ _=>by rw [hc]; exact i)]
  exact h.out j i v l
 th:=World.there_setCells h.th _ _ _
 glt:=Nat.lt_of_lt_of_le h.glt (qE g c (k*9) W).size
def zi9 (E A:World→Prop) (g:Nat) (W W':World):Prop:=W.grownBy W' (some g)∧(E W→E W')∧(E W→A W→A W')
theorem zi9.refl (E A:World→Prop) (g:Nat) (W:World):zi9 E A g W W:=⟨zb4 _ _,id,fun _ h=>h⟩
theorem zV.set {W:World} {S:Nat→Prop} {d:Nat}:∀ {l:List Tr} {m:List Value} (_:zV W S d l m) (k:Nat) (_:k<l.length) {a:Tr} {y:Value} (_:zt a.own) (_:LAt W S d a.kids y),
  zV W S d (l.set k a) (Go.Proofs.YtonihophanmaaaaGreatDoor.setAt m k (zp a.own y))
 | [],_,_,k,e,_,_,_,_=>absurd e (by simp)
 | t::l,_,⟨c,r,f,j,i,h⟩,0,_,a,y,b,g=>by
  refine ⟨y,r,?_,b,g,h⟩
  subst f
  unfold Go.Proofs.YtonihophanmaaaaGreatDoor.setAt
  simp [zp]
 | t::l,_,⟨c,r,f,j,i,h⟩,k+1,e,a,y,b,g=>by
  have n:=zV.set h k (by simpa using e) b g
  refine ⟨c,_,?_,j,i,n⟩
  subst f
  unfold Go.Proofs.YtonihophanmaaaaGreatDoor.setAt
  have o:(zp t.own c++r).take ((k+1)*9)=zp t.own c++r.take (k*9):=by
   rw [List.take_append,List.take_of_length_le (by simp only [zp,List.length_cons,List.length_nil]; omega)]
   congr 2
   simp only [zp,List.length_cons,List.length_nil]
   omega
  have p:(zp t.own c++r).drop ((k+1)*9+9)=r.drop (k*9+9):=by
   rw [List.drop_append,List.drop_eq_nil_of_le (by simp only [zp,List.length_cons,List.length_nil]; omega),List.nil_append]
   congr 1
   simp only [zp,List.length_cons,List.length_nil]
   omega
  rw [o,p]
  simp
theorem zgo (W:World) (a:Addr) (v:Value):(W.setCell a v).heap.size=W.heap.size:=by simp [World.setCell]
theorem setCells_size (b:Nat):∀ (a:List Value) (o:Nat) (W:World),(W.setCells b o a).heap.size=W.heap.size
 | [],_,_=>rfl
 | v::r,o,W=>by rw [World.setCells,setCells_size b r,zgo]
end Go.Proofs.YtonihophanmaaaaGreatDoor
