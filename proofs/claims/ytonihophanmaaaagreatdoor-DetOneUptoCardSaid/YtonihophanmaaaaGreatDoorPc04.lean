/- The texts DecP, Psr, DtA, DtB, DtC, DtD, DtI, put together. -/
import Derived.Test.YtonihophanmaaaaGreatDoorPc03
import Derived.Test.YtonihophanmaaaaGreatDoorPc01
namespace Go.Proofs.YtonihophanmaaaaGreatDoor
open Go.RowKit Go.Shelf
def qj (l:List UInt8):List UInt8:=l.dropWhile (· == 48)
def kq (l:List UInt8):List UInt8:=(qj l.reverse).reverse
theorem zdw (c:UInt8) (l:List UInt8):qj (c::l)=if c=48 then qj l else c::l:=by
 unfold qj
 rw [List.dropWhile_cons]
 by_cases h:c=48
 ·rw [if_pos h,if_pos (by simpa using h)]
 ·rw [if_neg h,if_neg (by simpa using h)]
theorem yP:∀ l:List UInt8,∃ k,l=List.replicate k 48++qj l∧(qj l).head?≠some 48
 | []=>⟨0,rfl,by simp [qj]⟩
 | c::l=>by
  obtain ⟨k,a,b⟩:=yP l
  rw [zdw]
  by_cases h:c=48
  ·rw [if_pos h]
   refine ⟨k+1,?_,b⟩
   rw [List.replicate_succ,List.cons_append,← a,h]
  ·rw [if_neg h]
   exact ⟨0,rfl,by simpa using h⟩
theorem yQ (l:List UInt8):∃ k,l=kq l++List.replicate k 48∧(kq l).getLast?≠some 48:=by
 obtain ⟨k,a,b⟩:=yP l.reverse
 refine ⟨k,?_,?_⟩
 ·have:=congrArg List.reverse a
  rw [List.reverse_reverse,List.reverse_append,List.reverse_replicate]at this
  exact this
 ·unfold kq
  rw [List.getLast?_reverse]
  exact b
theorem zi1 {l:List UInt8} (h:l.head?≠some 48):qj l=l:=by
 cases l with
 | nil=>rfl
 | cons c l=>rw [zdw,if_neg (by simpa using h)]
def zav (neg:Bool) (dg:List UInt8) (ex:Int):Option (Bool×ByteArray×Int):=
 if dg=[]∨400<dg.length∨¬ (-1000≤ex∧ex≤1000)∨¬ (dg.all zy=true) then none
 else if qj dg=[] then some (false,⟨#[48]⟩,0)
 else if qo neg ⟨(kq (qj dg)).toArray⟩ (ex+((qj dg).length:Int) - ((kq (qj dg)).length:Int))=true then
  some (neg,⟨(kq (qj dg)).toArray⟩,ex+((qj dg).length:Int) - ((kq (qj dg)).length:Int))
 else none
theorem zh7:qo false ⟨#[48]⟩ 0=true:=by decide +kernel
theorem zk1 {neg:Bool} {l:List UInt8} {ex:Int} (h:l≠[]) (i:l.length≤100) (j:∀ c∈l,zy c=true) (d:l.head?≠some 48) (k:l.getLast?≠some 48) (f : -100≤ex∧ex≤100):qo neg ⟨l.toArray⟩ ex=true:=by
 have g:(⟨l.toArray⟩:ByteArray).size=l.length:=rfl
 have a:(⟨l.toArray⟩:ByteArray).data.toList=l:=rfl
 have b:1≤l.length:=by
  rcases Nat.eq_zero_or_pos l.length with e | e
  ·exact absurd (List.eq_nil_of_length_eq_zero e) h
  ·exact e
 have hn:qR ⟨l.toArray⟩=true:=by
  unfold qR
  rw [g,a,decide_eq_true b,decide_eq_true (by omega:l.length≤400),decide_eq_false d,Bool.and_false,List.all_eq_true.2 j]
  rfl
 unfold qo
 rw [hn,g,decide_eq_true i,a,ByteArray.toList_eq,a,if_neg (fun e=>d (by rw [e]; rfl)),decide_eq_true f.1,decide_eq_true f.2,decide_eq_false k]
 rfl
theorem zbX (l:List UInt8):∀ k:Nat,zK 0 (l++List.replicate k 48)=zK 0 l*10 ^ k
 | 0=>by simp
 | k+1=>by
  rw [List.replicate_succ',← List.append_assoc,kx,zbX l k]
  have:(48:UInt8).toNat=48:=rfl
  rw [this,Nat.pow_succ,← Nat.mul_assoc]
  omega
theorem zdk (neg:Bool) (n:Nat) (hn:n≤18446744073709551616) (u:0<n) :
  ∃ d e,zav neg (Lib.decDigits n) 0=some (neg,d,e)∧qo neg d e=true∧0≤e∧e≤20∧qX d e=n:=by
 obtain ⟨o,m,f⟩:=qg n
 have b:=kj n n (Nat.le_refl _) u
 have z:(Lib.decDigits n).length≤20:=by
  have v:=xk f m b
  rw [o]at v
  apply Decidable.byContradiction
  intro hc
  have x:10 ^ 20≤10 ^ ((Lib.decDigits n).length - 1):=Nat.pow_le_pow_right (by decide) (by omega)
  have y:(10:Nat) ^ 20=100000000000000000000:=by decide
  omega
 generalize Lib.decDigits n=l at *
 have p:(qj l)=l:=zi1 b
 obtain ⟨k,a,t⟩:=yQ l
 have w:l.length=(kq l).length+k:=by
  have:=congrArg List.length a
  rw [List.length_append,List.length_replicate]at this
  exact this
 have j:kq l≠[]:=fun e=>by
  rw [e,List.nil_append]at a
  cases k with
  | zero=>exact f a
  | succ k =>
   rw [a,List.replicate_succ]at b
   exact b rfl
 have q:∀ c∈kq l,zy c=true:=fun c hc=>m c (by rw [a]; exact List.mem_append_left _ hc)
 have s:(kq l).head?≠some 48:=by
  rw [a]at b
  cases g:kq l with
  | nil=>exact absurd g j
  | cons c r =>
   rw [g]at b
   exact b
 have g:(0:Int)+(l.length:Int) - ((kq l).length:Int)=(k:Int):=by omega
 have i:=zk1 (neg:=neg) (ex:=(k:Int)) j (by omega) q s t (by omega)
 refine ⟨⟨(kq l).toArray⟩,k,?_,i,by omega,by omega,?_⟩
 ·unfold zav
  have hc:¬ (l=[]∨400<l.length∨¬ (-1000≤(0:Int)∧(0:Int)≤1000)∨¬ (l.all zy=true)):=by
   rintro (h | h | h | h)
   ·exact f h
   ·omega
   ·omega
   ·exact h (List.all_eq_true.2 m)
  rw [if_neg hc,p,if_neg f,g,if_pos i]
 ·unfold qX
  rw [Int.toNat_natCast]
  show zK 0 (kq l)*10 ^ k=n
  rw [← zbX,← a,o]
def ofN (neg:Bool) (n:Nat):Bool×ByteArray×Int:=(zav neg (Lib.decDigits n) 0).getD (false,⟨#[]⟩,0)
theorem zel (neg:Bool):zav neg (Lib.decDigits 0) 0=some (false,⟨#[48]⟩,0):=by
 rw [Lib.decDigits_one (by decide)]
 rfl
theorem zf8 (neg:Bool) (n:Nat) (hn:n≤18446744073709551616):zav neg (Lib.decDigits n) 0=some (ofN neg n)∧qo (ofN neg n).1 (ofN neg n).2.1 (ofN neg n).2.2=true:=by
 unfold ofN
 rcases Nat.eq_zero_or_pos n with h | h
 ·subst h
  rw [zel]
  exact ⟨rfl,zh7⟩
 ·obtain ⟨d,e,a,b,_⟩:=zdk neg n hn h
  rw [a]
  exact ⟨rfl,b⟩
theorem zka (neg:Bool) (n:Nat) (hn:n<18446744073709551616) (a:neg=true→0<n):jv (ofN neg n).1 (ofN neg n).2.1 (ofN neg n).2.2=some (neg,n):=by
 unfold ofN
 rcases Nat.eq_zero_or_pos n with h | h
 ·subst h
  have j:neg=false:=by
   cases neg with
   | false=>rfl
   | true=>exact absurd (a rfl) (by decide)
  subst j
  rw [zel]
  decide +kernel
 ·obtain ⟨d,e,b,c,f,g,i⟩:=zdk neg n (by omega) h
  rw [b]
  show jv neg d e=some (neg,n)
  unfold jv
  rw [if_pos ⟨c,f,g,by omega⟩,i]
theorem zkt {neg:Bool} {d:ByteArray} {e:Int} {f:Bool} {n:Nat} (h:jv neg d e=some (f,n)):ofN f n=(neg,d,e):=by
 obtain ⟨g,i⟩:=xv h
 have j:=zka f n g i
 obtain ⟨a,b,c⟩:=zeC j h
 rw [← a,← b,← c]
inductive PR (α:Type) where
 | good (a:α) (r:List UInt8)
 | bad (e:Int)
abbrev Psr (α:Type):=List UInt8→PR α
def zS {α β:Type} (p:Psr α) (f:α→Psr β):Psr β:=fun l=>match p l with
 | .good a r=>f a r
 | .bad e=>.bad e
def jC {α:Type} (a:α):Psr α:=fun l=>.good a l
def wO {α:Type} (e:Int):Psr α:=fun _=>.bad e
theorem qk {α β:Type} {p:Psr α} {f:α→Psr β} {l r:List UInt8} {b:β} (h:zS p f l=.good b r):∃ a s,p l=.good a s∧f a s=.good b r:=by
 unfold zS at h
 split at h
 ·rename_i a s e
  exact ⟨a,s,e,h⟩
 ·cases h
theorem qL {α β:Type} {p:Psr α} {f:α→Psr β} {l s:List UInt8} {a:α} (h:p l=.good a s):zS p f l=f a s:=by
 unfold zS
 rw [h]
theorem xi {α β:Type} {p:Psr α} {f:α→Psr β} {l:List UInt8} {e:Int} (h:p l=.bad e):zS p f l=.bad e:=by
 unfold zS
 rw [h]
def kU (kind:Int) (l:List UInt8):Tr:=.nd { zv with kind:=kind,s:=⟨l.toArray⟩ } []
def boolT (b:Bool):Tr:=.nd { zv with kind:=2,b:=b } []
def zlz:Tr:=.nd { zv with kind:=1 } []
def xM (kind:Int) (l:List Tr):Tr:=.nd { zv with kind:=kind } l
theorem zgA (s:ByteArray):(⟨s.data.toList.toArray⟩:ByteArray)=s:=by
 apply ByteArray.ext
 simp
theorem kZ {o x:Own} {k:Int} (h:zI o x=true) (a:o.kind=k):o={ x with kind:=k }:=by
 unfold zI at h
 rw [decide_eq_true_iff]at h
 rw [← a]
 exact h
mutual
theorem zew:∀ (t c:Tr),j1 t c=true→t=c
 | .nd o l,.nd d a,h=>by
  rw [j1,Bool.and_eq_true,Bool.and_eq_true,decide_eq_true_iff,decide_eq_true_iff]at h
  rw [h.1.1,zev l a h.1.2 h.2]
theorem zev:∀ (l a:List Tr),l.length=a.length→qt l a=true→l=a
 | [],[],_,_=>rfl
 | [],_::_,b,_=>by simp at b
 | _::_,[],b,_=>by simp at b
 | t::l,c::a,b,h=>by
  rw [qt,Bool.and_eq_true]at h
  rw [zew t c h.1,zev l a (by simpa using b) h.2]
end
end Go.Proofs.YtonihophanmaaaaGreatDoor
namespace Go.Proofs.YtonihophanmaaaaGreatDoor
open Go.RowKit Go.Shelf
def unp:List (Tr×Tr)→List Tr
 | []=>[]
 | p::l=>p.1::p.2::unp l
theorem vK:∀ a:List (Tr×Tr),(unp a).length=2*a.length
 | []=>rfl
 | p::a=>by rw [unp,List.length_cons,List.length_cons,vK a,List.length_cons]; omega
theorem zdy:∀ a b:List (Tr×Tr),unp (a++b)=unp a++unp b
 | [],_=>rfl
 | p::a,b=>by rw [List.cons_append,unp,zdy a b,unp]; rfl
section
variable (it:Tr→List UInt8)
def ltP (a b:Tr×Tr):Bool:=decide (it a.1<it b.1)
def zdM (p:Tr×Tr):List (Tr×Tr)→List (Tr×Tr)
 | []=>[p]
 | q::l=>if ltP it q p=true then q::zdM p l else p::q::l
def j8:List (Tr×Tr)→List (Tr×Tr)
 | []=>[]
 | p::l=>zdM it p (j8 l)
theorem zcr (p:Tr×Tr):∀ l,(zdM it p l).Perm (p::l)
 | []=>.refl _
 | q::l=>by
  rw [zdM]
  split
  ·exact ((zcr p l).cons q).trans (.swap p q l)
  ·exact .refl _
theorem qI:∀ l,(j8 it l).Perm l
 | []=>.refl _
 | p::l=>(zcr it p (j8 it l)).trans ((qI l).cons p)
def xG (l:List (Tr×Tr)):Prop:=l.Pairwise fun a b=>it a.1<it b.1
def jP (l:List (Tr×Tr)):Prop:=l.Pairwise fun a b=>it a.1≠it b.1
theorem ziA {a b:List UInt8} (h:a≠b):a<b∨b<a:=by
 rcases Classical.em (a<b) with c | c
 ·exact .inl c
 ·rcases Classical.em (b<a) with d | d
  ·exact .inr d
  ·exact absurd (List.le_antisymm (List.not_lt.1 d) (List.not_lt.1 c)) h
theorem zeg (p:Tr×Tr):∀ l,xG it l→(∀ q∈l,it q.1≠it p.1)→xG it (zdM it p l)
 | [],_,_=>List.pairwise_singleton _ _
 | q::l,h,f=>by
  obtain ⟨e,g⟩:=List.pairwise_cons.1 h
  rw [zdM]
  split
  ·rename_i b
   refine List.pairwise_cons.2 ⟨fun x a=>?_,zeg p l g (fun y i=>f y (by simp [i]))⟩
   rcases List.mem_cons.1 ((zcr it p l).mem_iff.1 a) with rfl | a
   ·exact of_decide_eq_true b
   ·exact e x a
  ·rename_i b
   have c:it p.1<it q.1:=by
    rcases ziA (f q (by simp)) with d | d
    ·exact absurd (decide_eq_true d) b
    ·exact d
   refine List.pairwise_cons.2 ⟨fun x a=>?_,h⟩
   rcases List.mem_cons.1 a with rfl | a
   ·exact c
   ·exact List.lt_trans c (e x a)
theorem vz:∀ l,jP it l→xG it (j8 it l)
 | [],_=>List.Pairwise.nil
 | p::l,h=>by
  obtain ⟨a,b⟩:=List.pairwise_cons.1 h
  exact zeg it p _ (vz l b) (fun q c=>(a q ((qI it l).mem_iff.1 c)).symm)
theorem zbC:∀ (a b:List (Tr×Tr)),a.Perm b→xG it a→xG it b→a=b
 | [],b,h,_,_=>h.nil_eq
 | x::a,[],h,_,_=>absurd h.length_eq (by simp)
 | x::a,y::b,h,i,j=>by
  obtain ⟨f,g⟩:=List.pairwise_cons.1 i
  obtain ⟨b1,b2⟩:=List.pairwise_cons.1 j
  have d:x=y:=by
   rcases List.mem_cons.1 (h.mem_iff.1 (List.mem_cons_self ..)) with e | e
   ·exact e
   ·rcases List.mem_cons.1 (h.mem_iff.2 (List.mem_cons_self ..)) with c | c
    ·exact c.symm
    ·exact absurd (List.lt_trans (f y c) (b1 x e)) (List.lt_irrefl _)
  subst d
  rw [zbC a b (List.perm_cons _ |>.1 h) g b2]
theorem zhZ {a b:List (Tr×Tr)} (h:a.Perm b):jP it a→jP it b:=fun c=>h.pairwise c (fun h=>Ne.symm h)
theorem zhb {a:List (Tr×Tr)} (h:xG it a):jP it a:=by
 unfold xG at h
 unfold jP
 refine List.Pairwise.imp ?_ h
 intro x y h e
 rw [e]at h
 exact List.lt_irrefl (it y.1) h
theorem zkp {a:List (Tr×Tr)} (h:xG it a):j8 it a=a:=
 zbC it _ _ (qI it a) (vz it a (zhb it h)) h
variable (nar:Own→Own)
mutual
def zz:Tr→Tr
 | .nd o l=>if o.kind=4 then .nd (nar o) l else if o.kind=8 then .nd o (unp (j8 it (zM l))) else .nd o (jL l)
def jL:List Tr→List Tr
 | []=>[]
 | t::l=>zz t::jL l
def zM:List Tr→List (Tr×Tr)
 | []=>[]
 | [_]=>[]
 | k::v::l=>(k,zz v)::zM l
end
end
theorem ziK {a b:List (Tr×Tr)} (h:a.Perm b):zm (unp a)=zm (unp b):=by
 induction h with
 | nil=>rfl
 | cons p _ e=>rw [unp,unp,zm,zm,zm,zm,e]
 | swap p q l=>simp only [unp,zm]; omega
 | trans _ _ c d=>exact c.trans d
theorem ziL {a b:List (Tr×Tr)} (h:a.Perm b):zW (unp a)=zW (unp b):=by
 induction h with
 | nil=>rfl
 | cons p _ e=>rw [unp,unp,zW,zW,zW,zW,e]
 | swap p q l=>simp only [unp,zW]; omega
 | trans _ _ c d=>exact c.trans d
theorem zlJ {a b:List (Tr×Tr)} (h:a.Perm b):jy (unp a)=jy (unp b):=by
 induction h with
 | nil=>rfl
 | cons p _ e=>rw [unp,unp,jy,jy,jy,jy,e]
 | swap p q l =>
  simp only [unp,jy]
  cases jk p.1 <;> cases jk p.2 <;> cases jk q.1 <;> cases jk q.2 <;> rfl
 | trans _ _ c d=>exact c.trans d
theorem zgg (f:Int) (fl:Own→Bool) {a b:List (Tr×Tr)} (h:a.Perm b):jp f fl (unp a)=jp f fl (unp b):=by
 induction h with
 | nil=>rfl
 | cons p _ e=>rw [unp,unp,jp,jp,jp,jp,e]
 | swap p q l =>
  simp only [unp,jp]
  cases jf f fl p.1 <;> cases jf f fl p.2 <;> cases jf f fl q.1 <;> cases jf f fl q.2 <;> rfl
 | trans _ _ c d=>exact c.trans d
theorem zeo (f:Int) {a b:List (Tr×Tr)} (h:a.Perm b):zG f (unp a)=zG f (unp b):=by
 induction h with
 | nil=>rfl
 | cons p _ e=>rw [unp,unp,zG,zG,e]
 | swap p q l =>
  simp only [unp,zG]
  cases kg f p.1.own <;> cases kg f q.1.own <;> rfl
 | trans _ _ c d=>exact c.trans d
theorem zaf:∀ (a:List (Tr×Tr)) (i:Nat) (h:i<a.length),(unp a)[2*i]? = some a[i].1∧(unp a)[2*i+1]? = some a[i].2
 | [],_,h=>by simp at h
 | p::a,0,_=>⟨rfl,rfl⟩
 | p::a,i+1,h=>by
  have b:=zaf a i (by simpa using h)
  rw [show 2*(i+1)=2*i+1+1 by omega,unp]
  simp only [List.getElem?_cons_succ,List.getElem_cons_succ]
  exact b
theorem zdt (a b:Tr) (h:j1 a b=false):j1 b a=false:=by
 cases h1:j1 b a with
 | false=>rfl
 | true =>
  have:=zew _ _ h1
  rw [this,vv]at h
  cases h
theorem yb (c:List (Tr×Tr)):kh (unp c)↔c.Pairwise fun a b=>j1 b.1 a.1=false:=by
 have n:=vK c
 rw [List.pairwise_iff_getElem]
 constructor
 ·intro h i j g k l
  have f:=h (2*j) (2*i) (by omega) (by omega) (by omega) (by omega)
  have d:=(zaf c j k).1
  have e:=(zaf c i g).1
  rw [List.getElem?_eq_getElem (by omega)]at d e
  rw [Option.some.inj d,Option.some.inj e]at f
  exact f
 ·intro h x y o p ex m
  obtain ⟨a,rfl⟩:∃ a,x=2*a:=⟨x / 2,by omega⟩
  obtain ⟨b,rfl⟩:∃ b,y=2*b:=⟨y / 2,by omega⟩
  have d:=(zaf c a (by omega)).1
  have e:=(zaf c b (by omega)).1
  rw [List.getElem?_eq_getElem (by omega)]at d e
  rw [Option.some.inj d,Option.some.inj e]
  exact h b a (by omega) (by omega) (by omega)
theorem ziJ {a b:List (Tr×Tr)} (h:a.Perm b):kh (unp a)↔kh (unp b):=by
 rw [yb,yb]
 exact ⟨fun q=>h.pairwise q (fun e=>zdt _ _ e),fun q=>h.symm.pairwise q (fun e=>zdt _ _ e)⟩
theorem qU (l:List Tr):qP l=true↔kh l:=by
 unfold qP
 exact @decide_eq_true_iff _ (Classical.propDecidable _)
theorem ziM {a b:List (Tr×Tr)} (h:a.Perm b):qP (unp a)=qP (unp b):=by
 rw [Bool.eq_iff_iff,qU,qU]
 exact ziJ h
end Go.Proofs.YtonihophanmaaaaGreatDoor
namespace Go.Proofs.YtonihophanmaaaaGreatDoor
open Go.RowKit Go.Shelf
theorem js {o:Own} {l:List Tr} (h:jk (.nd o l)=true):ownB o l=true∧jy l=true:=by
 rw [jk,Bool.and_eq_true]at h
 exact h
theorem all_cons {t:Tr} {l:List Tr} (h:jy (t::l)=true):jk t=true∧jy l=true:=by
 rw [jy,Bool.and_eq_true]at h
 exact h
theorem zlE {o:Own} {l l':List Tr} (h:o.kind≠8) (a:l.length=l'.length):ownB o l=ownB o l':=by
 unfold ownB
 rw [a,if_neg h,if_neg h]
theorem zlF {o:Own} {l l':List Tr} (h:o.kind=8) (b:l.length % 2=l'.length % 2) (a:qP l=qP l'):ownB o l=ownB o l':=by
 unfold ownB
 rw [h]
 simp only [show ¬ (8:Int)=1 by decide,show ¬ (8:Int)=2 by decide,show ¬ (8:Int)=3 by decide,show ¬ (8:Int)=4 by decide,show ¬ (8:Int)=5 by decide,show ¬ (8:Int)=6 by decide,show ¬ (8:Int)=7 by decide,if_false,if_true]
 rw [b,a]
theorem vJ {o:Own} {l:List Tr} (h:ownB o l=true) (a:o.kind=8):l.length % 2=0∧qP l=true:=by
 unfold ownB at h
 rw [a]at h
 simp only [show ¬ (8:Int)=1 by decide,show ¬ (8:Int)=2 by decide,show ¬ (8:Int)=3 by decide,show ¬ (8:Int)=4 by decide,show ¬ (8:Int)=5 by decide,show ¬ (8:Int)=6 by decide,show ¬ (8:Int)=7 by decide,if_false,if_true,Bool.and_eq_true,decide_eq_true_iff]at h
 exact h.2
theorem yx {o:Own} {l:List Tr} (h:ownB o l=true) (a:o.kind=4):l=[]:=by
 unfold ownB at h
 rw [a]at h
 simp only [show ¬ (4:Int)=1 by decide,show ¬ (4:Int)=2 by decide,show ¬ (4:Int)=3 by decide,if_false,if_true,Bool.and_eq_true,decide_eq_true_iff]at h
 exact List.eq_nil_of_length_eq_zero h.1
def kR:List Tr→List Tr
 | []=>[]
 | [k]=>[k]
 | k::_::l=>k::kR l
theorem zcs:∀ (l:List Tr) (i:Nat),(kR l)[i]? = l[2*i]?
 | [],i=>by simp [kR]
 | [k],0=>rfl
 | [k],i+1=>by simp [kR,show 2*(i+1)=2*i+1+1 by omega]
 | k::v::l,0=>rfl
 | k::v::l,i+1=>by
  rw [kR,List.getElem?_cons_succ,zcs l i,show 2*(i+1)=2*i+1+1 by omega,List.getElem?_cons_succ,List.getElem?_cons_succ]
theorem zit {l l':List Tr} (c:l.length=l'.length) (h:kR l=kR l'):qP l=qP l':=by
 have key:∀ a b:List Tr,a.length=b.length→kR a=kR b→kh a→kh b:=fun a b c h n i k o p d e=>by
  have g:∀ j (m:j<b.length),j % 2=0→b[j]=a[j]'(by omega):=fun j m r=>by
   obtain ⟨q,rfl⟩:∃ q,j=2*q:=⟨j / 2,by omega⟩
   have f:=zcs a q
   rw [h,zcs b q,List.getElem?_eq_getElem m,List.getElem?_eq_getElem (by omega)]at f
   exact Option.some.inj f
  rw [g i o d,g k (by omega) e]
  exact n i k (by omega) p d e
 rw [Bool.eq_iff_iff,qU,qU]
 exact ⟨key l l' c h,key l' l c.symm h.symm⟩
theorem wU (f:Int):∀ {l d:List Tr},l.length=d.length→kR l=kR d→zG f l=zG f d
 | [],[],_,_=>rfl
 | [a],[b],_,h=>by
  injection h with h _
  rw [h]
 | a::x::l,b::y::d,c,h=>by
  injection h with e g
  rw [zG,zG,e,wU f (by simpa using c) g]
 | [],_::_,c,_=>by simp at c
 | _::_,[],c,_=>by simp at c
 | [_],_::_::_,c,_=>by simp at c
 | _::_::_,[_],c,_=>by simp at c
structure xa (nar:Own→Own):Prop where
 kind:∀ o,o.kind=4→(nar o).kind=4
 own:∀ o,o.kind=4→ownB o []=true→ownB (nar o) []=true
 idem:∀ o,o.kind=4→ownB o []=true→nar (nar o)=nar o
section
variable {it:Tr→List UInt8} {nar:Own→Own}
theorem zcA:∀ l:List Tr,(jL it nar l).length=l.length
 | []=>by rw [jL]
 | t::l=>by rw [jL,List.length_cons,zcA l,List.length_cons]
theorem xR:∀ l:List Tr,(zM it nar l).length=l.length / 2
 | []=>by rw [zM]; rfl
 | [_]=>by rw [zM]; simp
 | k::v::l=>by rw [zM,List.length_cons,xR l,List.length_cons,List.length_cons]; omega
theorem zbD:∀ l:List Tr,l.length % 2=0→kR (unp (zM it nar l))=kR l
 | [],_=>by rw [zM]; rfl
 | [_],h=>by simp at h
 | k::v::l,h=>by rw [zM,unp,kR,kR,zbD l (by simp at h; omega)]
theorem zaK:∀ a:List (Tr×Tr),zM it nar (unp a)=a.map fun p=>(p.1,zz it nar p.2)
 | []=>by rw [unp,zM]; rfl
 | p::a=>by rw [unp,zM,zaK a]; rfl
theorem zm2 (o:Own) (l:List Tr):(zz it nar (.nd o l)).own=if o.kind=4 then nar o else o:=by
 rw [zz]
 split
 ·rfl
 ·split <;> rfl
mutual
theorem zad (hn:xa nar):∀ t,jk t=true→(zz it nar t).count=t.count∧(zz it nar t).depth=t.depth∧jk (zz it nar t)=true∧jf 2 flC (zz it nar t)=jf 2 flC t
 | .nd o l,h=>by
  obtain ⟨a,m⟩:=js h
  rw [zz]
  split
  ·rename_i b
   have u:=yx a b
   subst u
   refine ⟨by rw [Tr.count,Tr.count],by rw [Tr.depth,Tr.depth],?_,?_⟩
   ·rw [jk,hn.own o b a,jy]
    rfl
   ·rw [jf,jf]
    unfold qc
    rw [if_pos b,if_pos (hn.kind o b)]
    rfl
  split
  ·rename_i g
   obtain ⟨n,w⟩:=vJ a g
   obtain ⟨c,d,e,f⟩:=zgt hn l m n
   have i:=qI it (zM it nar l)
   have r:(unp (j8 it (zM it nar l))).length=l.length:=by
    rw [vK,i.length_eq,xR]
    omega
   have j:(unp (zM it nar l)).length=l.length:=by
    rw [vK,xR]
    omega
   have p:=zbD (it:=it) (nar:=nar) l n
   refine ⟨by rw [Tr.count,Tr.count,ziK i,c],by rw [Tr.depth,Tr.depth,ziL i,d],?_,?_⟩
   ·rw [jk,zlJ i,e,Bool.and_true,zlF g (l':=l) (by rw [r]) (by rw [ziM i]; exact zit j p)]
    exact a
   ·rw [jf,jf,zgg 2 flC i,f]
    congr 1
    unfold qc
    rw [g]
    simp only [show ¬ (8:Int)=4 by decide,show ¬ (8:Int)=3 by decide,show ¬ (8:Int)=6 by decide,show ¬ ((8:Int)=9∨(8:Int)=10) by decide,show ¬ (8:Int)=11 by decide,if_false,if_true]
    rw [zeo 2 i,wU 2 j p]
  ·rename_i b g
   obtain ⟨c,d,e,f⟩:=zgs hn l m
   refine ⟨by rw [Tr.count,Tr.count,c],by rw [Tr.depth,Tr.depth,d],?_,?_⟩
   ·rw [jk,e,Bool.and_true,zlE g (zcA l)]
    exact a
   ·rw [jf,jf,f]
    congr 1
    unfold qc
    rw [if_neg b,if_neg b,if_neg g,if_neg g]
theorem zgs (hn:xa nar):∀ l,jy l=true→zm (jL it nar l)=zm l∧zW (jL it nar l)=zW l∧jy (jL it nar l)=true∧jp 2 flC (jL it nar l)=jp 2 flC l
 | [],_=>by rw [jL]; exact ⟨rfl,rfl,by rw [jy],rfl⟩
 | t::l,h=>by
  obtain ⟨a,m⟩:=all_cons h
  obtain ⟨c,d,e,f⟩:=zad hn t a
  obtain ⟨b1,b2,b3,q⟩:=zgs hn l m
  rw [jL]
  exact ⟨by rw [zm,zm,c,b1],by rw [zW,zW,d,b2],by rw [jy,e,b3]; rfl,by rw [jp,jp,f,q]⟩
theorem zgt (hn:xa nar):∀ l,jy l=true→l.length % 2=0→zm (unp (zM it nar l))=zm l∧zW (unp (zM it nar l))=zW l∧jy (unp (zM it nar l))=true∧jp 2 flC (unp (zM it nar l))=jp 2 flC l
 | [],_,_=>by rw [zM,unp]; exact ⟨rfl,rfl,by rw [jy],rfl⟩
 | [_],_,h=>by simp at h
 | k::v::l,h,n=>by
  obtain ⟨a,m⟩:=all_cons h
  obtain ⟨s,b⟩:=all_cons m
  obtain ⟨c,d,e,f⟩:=zad hn v s
  obtain ⟨b1,b2,b3,q⟩:=zgt hn l b (by simp at n; omega)
  rw [zM,unp]
  exact ⟨by simp only [zm,c,b1],by simp only [zW,d,b2],by simp only [jy,e,b3,a]; rfl,by simp only [jp,f,q]⟩
end
theorem zex (hn:xa nar) (t:Tr) (h:zj 2 flC t=0):zj 2 flC (zz it nar t)=0:=by
 unfold zj at h ⊢
 split at h
 ·rename_i a
  unfold xt at a
  rw [Bool.and_eq_true,Bool.and_eq_true]at a
  obtain ⟨c,d,e,f⟩:=zad (it:=it) hn t a.2.2
  have b:xt (zz it nar t)=true:=by
   unfold xt
   rw [c,d,e,a.1,a.2.1]
   rfl
  rw [if_pos b,f]
  exact h
 ·cases h
end
end Go.Proofs.YtonihophanmaaaaGreatDoor
namespace Go.Proofs.YtonihophanmaaaaGreatDoor
open Go.RowKit Go.Shelf
structure xT (it:Tr→List UInt8) (G:Tr→Prop):Prop where
 kids:∀ o l,G (.nd o l)→∀ t∈l,G t
 inj:∀ a b,G a→G b→it a=it b→a=b
section
variable {it:Tr→List UInt8} {nar:Own→Own} {G:Tr→Prop}
theorem zaJ:∀ (l:List Tr) (i:Nat) (h:i<(zM it nar l).length),l[2*i]? = some (zM it nar l)[i].1∧∃ v,l[2*i+1]? = some v∧(zM it nar l)[i].2=zz it nar v
 | [],i,h=>by simp [zM]at h
 | [_],i,h=>by simp [zM]at h
 | k::v::l,0,_=>by
  simp only [zM]
  exact ⟨rfl,v,rfl,rfl⟩
 | k::v::l,i+1,h=>by
  have a:i<(zM it nar l).length:=by simpa [zM] using h
  have b:=zaJ l i a
  rw [show 2*(i+1)=2*i+1+1 by omega]
  simp only [zM,List.getElem?_cons_succ,List.getElem_cons_succ]
  exact b
theorem zaI (k:xT it G) (l:List Tr) (o:kh l) (g:∀ t∈l,G t):jP it (zM it nar l):=by
 unfold jP
 rw [List.pairwise_iff_getElem]
 intro i j m n p e
 have c:=(zaJ (it:=it) (nar:=nar) l i m).1
 have d:=(zaJ (it:=it) (nar:=nar) l j n).1
 have q:=xR (it:=it) (nar:=nar) l
 have b:2*i<l.length:=by omega
 have a:2*j<l.length:=by omega
 rw [List.getElem?_eq_getElem b]at c
 rw [List.getElem?_eq_getElem a]at d
 have f:=o (2*j) (2*i) a (by omega) (by omega) (by omega)
 rw [← Option.some.inj c,← Option.some.inj d]at e
 have h:=k.inj _ _ (g _ (List.getElem_mem b)) (g _ (List.getElem_mem a)) e
 rw [h,vv]at f
 cases f
mutual
theorem zd1 (hn:xa nar) (c:xT it G):∀ t,jk t=true→G t→zz it nar (zz it nar t)=zz it nar t
 | .nd o l,h,d=>by
  obtain ⟨e,f⟩:=js h
  have i:=c.kids o l d
  by_cases b:o.kind=4
  ·have r:=yx e b
   subst r
   rw [zz,if_pos b,zz,if_pos (hn.kind o b),hn.idem o b e]
  by_cases g:o.kind=8
  ·obtain ⟨w,q⟩:=vJ e g
   have u:=vz it _ (zaI (nar:=nar) c l ((qU l).1 q) i)
   rw [zz,if_neg b,if_pos g,zz,if_neg b,if_pos g,zaK]
   have s:(j8 it (zM it nar l)).map (fun p=>(p.1,zz it nar p.2))=j8 it (zM it nar l):=by
    conv=>rhs; rw [← List.map_id (j8 it (zM it nar l))]
    refine List.map_congr_left fun p a=>?_
    have m:=(qI it (zM it nar l)).mem_iff.1 a
    rw [zgv hn c l f i p m]
    rfl
   rw [s,zkp it u]
  ·rw [zz,if_neg b,if_neg g,zz,if_neg b,if_neg g,zgu hn c l f i]
theorem zgu (hn:xa nar) (c:xT it G):∀ l,jy l=true→(∀ t∈l,G t)→jL it nar (jL it nar l)=jL it nar l
 | [],_,_=>by rw [jL,jL]
 | t::l,h,d=>by
  obtain ⟨e,f⟩:=all_cons h
  rw [jL,jL,zd1 hn c t e (d t (by simp)),zgu hn c l f (fun x j=>d x (by simp [j]))]
theorem zgv (hn:xa nar) (c:xT it G):∀ l,jy l=true→(∀ t∈l,G t)→∀ p∈zM it nar l,zz it nar p.2=p.2
 | [],_,_,p,a=>by rw [zM]at a; cases a
 | [_],_,_,p,a=>by rw [zM]at a; cases a
 | k::v::l,h,d,p,a=>by
  obtain ⟨e,f⟩:=all_cons h
  obtain ⟨n,b⟩:=all_cons f
  rw [zM]at a
  rcases List.mem_cons.1 a with rfl | a
  ·exact zd1 hn c v n (d v (by simp))
  ·exact zgv hn c l b (fun x j=>d x (by simp [j])) p a
end
end
end Go.Proofs.YtonihophanmaaaaGreatDoor
namespace Go.Proofs.YtonihophanmaaaaGreatDoor
open Go.RowKit Go.Shelf
section
variable (it:Tr→List UInt8)
def kG:List Tr→Bool
 | k::_::k2::v2::l=>decide (it k<it k2) && kG (k2::v2::l)
 | _=>true
mutual
def vx:Tr→Bool
 | .nd o l=>(!decide (o.kind=8) || kG it l) && kH l
def kH:List Tr→Bool
 | []=>true
 | t::l=>vx t && kH l
end
end
section
variable {it:Tr→List UInt8} {nar:Own→Own} {G:Tr→Prop} {flD:Own→Bool}
theorem zdu:∀ l:List Tr,kH it l=true↔∀ t∈l,vx it t=true
 | []=>by simp [kH]
 | t::l=>by rw [kH,Bool.and_eq_true,zdu l]; simp
theorem zhH:∀ (a:List (Tr×Tr)) (t:Tr),t∈unp a→∃ p∈a,t=p.1∨t=p.2
 | [],t,h=>by rw [unp]at h; cases h
 | p::a,t,h=>by
  rw [unp]at h
  rcases List.mem_cons.1 h with h | h
  ·exact ⟨p,by simp,.inl h⟩
  rcases List.mem_cons.1 h with h | h
  ·exact ⟨p,by simp,.inr h⟩
  ·obtain ⟨q,b,c⟩:=zhH a t h
   exact ⟨q,by simp [b],c⟩
theorem zes:∀ a:List (Tr×Tr),xG it a→kG it (unp a)=true
 | [],_=>by rw [unp,kG]; simp
 | [p],_=>by rw [unp,unp,kG]; simp
 | p::q::a,h=>by
  obtain ⟨c,d⟩:=List.pairwise_cons.1 h
  have b:=zes (q::a) d
  rw [unp]at b
  rw [unp,unp,kG,b,decide_eq_true (c q (by simp))]
  rfl
theorem vU {o:Own} {l:List Tr} (a:kg 2 o=true) (b:ownB o l=true):l=[]∧o.kind≠8∧o.kind≠4:=by
 unfold kg at a
 have h:o.kind=5∨o.kind=3∨o.kind=6∨o.kind=2∨o.kind=1:=by
  by_cases d:o.kind=5
  ·exact .inl d
  rw [if_neg d,if_neg (by decide)]at a
  by_cases c:o.kind=3
  ·exact .inr (.inl c)
  rw [if_neg c,Bool.or_eq_true,Bool.or_eq_true,decide_eq_true_iff,decide_eq_true_iff,decide_eq_true_iff]at a
  exact .inr (.inr a)
 refine ⟨?_,by omega,by omega⟩
 unfold ownB at b
 rcases h with h | h | h | h | h <;> rw [h]at b <;> simp at b <;> exact b.1
theorem yG (f:Int):∀ (l:List Tr) (i:Nat) (h:2*i<l.length),zG f l=true→kg f l[2*i].own=true
 | [],i,h,_=>by simp at h
 | [k],0,_,a=>by rw [zG]at a; exact a
 | [k],i+1,h,_=>by simp at h
 | k::v::l,0,_,a=>by
  rw [zG,Bool.and_eq_true]at a
  exact a.1
 | k::v::l,i+1,h,a=>by
  rw [zG,Bool.and_eq_true]at a
  have b:=yG f l i (by simp at h; omega) a.2
  have e:(k::v::l)[2*(i+1)]=l[2*i]'(by simp at h; omega):=by
   simp only [show 2*(i+1)=2*i+1+1 by omega,List.getElem_cons_succ]
  rw [e]
  exact b
theorem qh {f:Int} {fl:Own→Bool} {o:Own} {l:List Tr} (h:jf f fl (.nd o l)=true):qc f fl o l=true∧jp f fl l=true:=by
 rw [jf,Bool.and_eq_true]at h
 exact h
theorem xm {f:Int} {fl:Own→Bool} {t:Tr} {l:List Tr} (h:jp f fl (t::l)=true):jf f fl t=true∧jp f fl l=true:=by
 rw [jp,Bool.and_eq_true]at h
 exact h
theorem fit_keys {f:Int} {fl:Own→Bool} {o:Own} {l:List Tr} (h:qc f fl o l=true) (a:o.kind=8):zG f l=true:=by
 unfold qc at h
 rw [a]at h
 simp only [show ¬ (8:Int)=4 by decide,show ¬ (8:Int)=3 by decide,show ¬ (8:Int)=6 by decide,show ¬ ((8:Int)=9∨(8:Int)=10) by decide,show ¬ (8:Int)=11 by decide,if_false,if_true,Bool.and_eq_true]at h
 exact h.2
mutual
theorem zaL (hn:xa nar) (b:xT it G):∀ t,jk t=true→jf 2 flC t=true→G t→vx it (zz it nar t)=true
 | .nd o l,h,j,d=>by
  obtain ⟨f,g⟩:=js h
  obtain ⟨s,e⟩:=qh j
  have m:=b.kids o l d
  by_cases c:o.kind=4
  ·have B:=yx f c
   subst B
   rw [zz,if_pos c,vx,kH,decide_eq_false (by rw [hn.kind o c]; decide)]
   rfl
  by_cases i:o.kind=8
  ·obtain ⟨E,n⟩:=vJ f i
   have C:=vz it _ (zaI (nar:=nar) b l ((qU l).1 n) m)
   rw [zz,if_neg c,if_pos i,vx,zes _ C,Bool.or_true,Bool.true_and,zdu]
   intro t D
   obtain ⟨p,a,w⟩:=zhH _ t D
   obtain ⟨q,r⟩:=zcb hn b l g e m (fit_keys s i) p ((qI it (zM it nar l)).mem_iff.1 a)
   rcases w with rfl|rfl
   ·exact q
   ·exact r
  ·rw [zz,if_neg c,if_neg i,vx,decide_eq_false i,zca hn b l g e m]
   rfl
theorem zca (hn:xa nar) (b:xT it G):∀ l,jy l=true→jp 2 flC l=true→(∀ t∈l,G t)→kH it (jL it nar l)=true
 | [],_,_,_=>by rw [jL,kH]
 | t::l,h,j,d=>by
  obtain ⟨f,g⟩:=all_cons h
  obtain ⟨s,e⟩:=xm j
  rw [jL,kH,zaL hn b t f s (d t (by simp)),zca hn b l g e (fun x u=>d x (by simp [u]))]
  rfl
theorem zcb (hn:xa nar) (b:xT it G):∀ l,jy l=true→jp 2 flC l=true→(∀ t∈l,G t)→zG 2 l=true→∀ p∈zM it nar l,vx it p.1=true∧vx it p.2=true
 | [],_,_,_,_,p,a=>by rw [zM]at a; cases a
 | [_],_,_,_,_,p,a=>by rw [zM]at a; cases a
 | k::v::l,h,j,d,n,p,a=>by
  obtain ⟨f,g⟩:=all_cons h
  obtain ⟨A,c⟩:=all_cons g
  obtain ⟨_,e⟩:=xm j
  obtain ⟨y,z⟩:=xm e
  rw [zG,Bool.and_eq_true]at n
  rw [zM]at a
  rcases List.mem_cons.1 a with rfl | a
  ·refine ⟨?_,zaL hn b v A y (d v (by simp))⟩
   cases k with
   | nd ok F =>
    obtain ⟨q,r,_⟩:=vU n.1 (js f).1
    subst q
    rw [vx,kH,decide_eq_false (show ¬ ok.kind=8 from r)]
    rfl
  ·exact zcb hn b l c z (fun x u=>d x (by simp [u])) n.2 p a
end
theorem zdN (o:Own):kg 3 o=kg 2 o:=by
 unfold kg
 rw [if_neg (show ¬ (3:Int)=1 by decide),if_neg (show ¬ (2:Int)=1 by decide)]
theorem zdd:∀ l:List Tr,zG 3 l=zG 2 l
 | []=>by rw [zG,zG]
 | [k]=>by rw [zG,zG,zdN]
 | k::v::l=>by rw [zG,zG,zdN,zdd l]
theorem zbP (fl a:Own→Bool) (o:Own) (l:List Tr) (b:o.kind≠4):qc 3 fl o l=qc 2 a o l:=by
 unfold qc
 rw [if_neg b,if_neg b,zdd]
 simp
structure zcM (nar:Own→Own) (fl:Own→Bool):Prop where
 yes:∀ o,o.kind=4→ownB o []=true→fl (nar o)=true
 self:∀ o,o.kind=4→ownB o []=true→fl o=true→nar o=o
mutual
theorem zd0 (hn:xa nar) (c:zcM nar flD):∀ t,jk t=true→jf 2 flC t=true→jf 3 flD (zz it nar t)=true
 | .nd o l,h,i=>by
  obtain ⟨d,f⟩:=js h
  obtain ⟨a,e⟩:=qh i
  by_cases b:o.kind=4
  ·have z:=yx d b
   subst z
   rw [zz,if_pos b,jf,jp,Bool.and_true]
   unfold qc
   rw [if_pos (hn.kind o b)]
   exact c.yes o b d
  by_cases g:o.kind=8
  ·obtain ⟨y,m⟩:=vJ d g
   have p:=qI it (zM it nar l)
   have n:(unp (zM it nar l)).length=l.length:=by
    rw [vK,xR]
    omega
   have j:=fit_keys a g
   rw [zz,if_neg b,if_pos g,jf,zgg 3 flD p,zgr hn c l f e j,Bool.and_true,zbP flD flC o _ b]
   unfold qc at a ⊢
   rw [g]at a ⊢
   simp only [show ¬ (8:Int)=4 by decide,show ¬ (8:Int)=3 by decide,show ¬ (8:Int)=6 by decide,show ¬ ((8:Int)=9∨(8:Int)=10) by decide,show ¬ (8:Int)=11 by decide,if_false,if_true]at a ⊢
   rw [zeo 2 p,wU 2 n (zbD l y)]
   exact a
  ·rw [zz,if_neg b,if_neg g,jf,zgq hn c l f e,Bool.and_true,zbP flD flC o _ b]
   unfold qc at a ⊢
   rw [if_neg g]at a ⊢
   exact a
theorem zgq (hn:xa nar) (c:zcM nar flD):∀ l,jy l=true→jp 2 flC l=true→jp 3 flD (jL it nar l)=true
 | [],_,_=>by rw [jL,jp]
 | t::l,h,i=>by
  obtain ⟨d,f⟩:=all_cons h
  obtain ⟨a,e⟩:=xm i
  rw [jL,jp,zd0 hn c t d a,zgq hn c l f e]
  rfl
theorem zgr (hn:xa nar) (c:zcM nar flD):∀ l,jy l=true→jp 2 flC l=true→zG 2 l=true→jp 3 flD (unp (zM it nar l))=true
 | [],_,_,_=>by rw [zM,unp,jp]
 | [_],_,_,_=>by rw [zM,unp,jp]
 | k::v::l,h,i,m=>by
  obtain ⟨d,f⟩:=all_cons h
  obtain ⟨x,b⟩:=all_cons f
  obtain ⟨s,e⟩:=xm i
  obtain ⟨u,w⟩:=xm e
  rw [zG,Bool.and_eq_true]at m
  have j:jf 3 flD k=true:=by
   cases k with
   | nd ok B =>
    obtain ⟨q,A,r⟩:=vU m.1 (js d).1
    subst q
    rw [jf,jp,zbP flD flC ok [] r,(qh s).1]
    rfl
  rw [zM,unp,jp,jp,j,zd0 hn c v x u,zgr hn c l b w m.2]
  rfl
end
end
end Go.Proofs.YtonihophanmaaaaGreatDoor
namespace Go.Proofs.YtonihophanmaaaaGreatDoor
open Go.RowKit Go.Shelf
section
variable (it:Tr→List UInt8)
variable {it}
end
end Go.Proofs.YtonihophanmaaaaGreatDoor
