/- The texts DecP, Psr, DtA, DtB, DtC, put together. -/
import Derived.Test.YtonihophanmaaaaGreatDoorPa03
import Derived.Test.YtonihophanmaaaaGreatDoorPa01
namespace Go.Proofs.YtonihophanmaaaaGreatDoor
open Go.RowKit Go.Shelf
def trimL (l:List UInt8):List UInt8:=l.dropWhile (· == 48)
def trimR (l:List UInt8):List UInt8:=(trimL l.reverse).reverse
theorem trimL_cons (c:UInt8) (l:List UInt8):trimL (c::l)=if c=48 then trimL l else c::l:=by
 unfold trimL
 rw [List.dropWhile_cons]
 by_cases h:c=48
 ·rw [if_pos h,if_pos (by simpa using h)]
 ·rw [if_neg h,if_neg (by simpa using h)]
theorem trimL_parts:∀ l:List UInt8,∃ k,l=List.replicate k 48++trimL l∧(trimL l).head?≠some 48
 | []=>⟨0,rfl,by simp [trimL]⟩
 | c::l=>by
  obtain ⟨k,h1,h2⟩:=trimL_parts l
  rw [trimL_cons]
  by_cases h:c=48
  ·rw [if_pos h]
   refine ⟨k+1,?_,h2⟩
   rw [List.replicate_succ,List.cons_append,← h1,h]
  ·rw [if_neg h]
   exact ⟨0,rfl,by simpa using h⟩
theorem trimR_parts (l:List UInt8):∃ k,l=trimR l++List.replicate k 48∧(trimR l).getLast?≠some 48:=by
 obtain ⟨k,h1,h2⟩:=trimL_parts l.reverse
 refine ⟨k,?_,?_⟩
 ·have:=congrArg List.reverse h1
  rw [List.reverse_reverse,List.reverse_append,List.reverse_replicate]at this
  exact this
 ·unfold trimR
  rw [List.getLast?_reverse]
  exact h2
theorem trimL_self {l:List UInt8} (h:l.head?≠some 48):trimL l=l:=by
 cases l with
 | nil=>rfl
 | cons c l=>rw [trimL_cons,if_neg (by simpa using h)]
def makeD (neg:Bool) (dg:List UInt8) (ex:Int):Option (Bool×ByteArray×Int):=
 if dg=[]∨400<dg.length∨¬ (-1000≤ex∧ex≤1000)∨¬ (dg.all isDig=true) then none
 else if trimL dg=[] then some (false,⟨#[48]⟩,0)
 else if decOk neg ⟨(trimR (trimL dg)).toArray⟩ (ex+((trimL dg).length:Int) - ((trimR (trimL dg)).length:Int))=true then
  some (neg,⟨(trimR (trimL dg)).toArray⟩,ex+((trimL dg).length:Int) - ((trimR (trimL dg)).length:Int))
 else none
theorem decOk_of {neg:Bool} {l:List UInt8} {ex:Int} (h0:l≠[]) (h1:l.length≤100) (h2:∀ c∈l,isDig c=true) (h3:l.head?≠some 48) (h4:l.getLast?≠some 48) (h5 : -100≤ex∧ex≤100):decOk neg ⟨l.toArray⟩ ex=true:=by
 have hs:(⟨l.toArray⟩:ByteArray).size=l.length:=rfl
 have hd:(⟨l.toArray⟩:ByteArray).data.toList=l:=rfl
 have h01:1≤l.length:=by
  rcases Nat.eq_zero_or_pos l.length with e | e
  ·exact absurd (List.eq_nil_of_length_eq_zero e) h0
  ·exact e
 have hn:natOk ⟨l.toArray⟩=true:=by
  unfold natOk
  rw [hs,hd,decide_eq_true h01,decide_eq_true (by omega:l.length≤400),decide_eq_false h3,Bool.and_false,List.all_eq_true.2 h2]
  rfl
 unfold decOk
 rw [hn,hs,decide_eq_true h1,hd,ByteArray.toList_eq,hd,if_neg (fun e=>h3 (by rw [e]; rfl)),decide_eq_true h5.1,decide_eq_true h5.2,decide_eq_false h4]
 rfl
theorem dval_zeros' (l:List UInt8):∀ k:Nat,dval 0 (l++List.replicate k 48)=dval 0 l*10 ^ k
 | 0=>by simp
 | k+1=>by
  rw [List.replicate_succ',← List.append_assoc,dval_append,dval_zeros' l k]
  have:(48:UInt8).toNat=48:=rfl
  rw [this,Nat.pow_succ,← Nat.mul_assoc]
  omega
theorem make_whole (neg:Bool) (n:Nat) (hn:n≤18446744073709551616) (h0:0<n) :
  ∃ d e,makeD neg (Lib.decDigits n) 0=some (neg,d,e)∧decOk neg d e=true∧0≤e∧e≤20∧wholeN d e=n:=by
 obtain ⟨f1,f2,f3⟩:=dec_facts n
 have hh:=dec_head0 n n (Nat.le_refl _) h0
 have hl:(Lib.decDigits n).length≤20:=by
  have h1:=dval_head f3 f2 hh
  rw [f1]at h1
  apply Decidable.byContradiction
  intro hc
  have h2:10 ^ 20≤10 ^ ((Lib.decDigits n).length - 1):=Nat.pow_le_pow_right (by decide) (by omega)
  have h3:(10:Nat) ^ 20=100000000000000000000:=by decide
  omega
 generalize Lib.decDigits n=l at *
 have hne:(trimL l)=l:=trimL_self hh
 obtain ⟨k,e1,e2⟩:=trimR_parts l
 have hlen:l.length=(trimR l).length+k:=by
  have:=congrArg List.length e1
  rw [List.length_append,List.length_replicate]at this
  exact this
 have hr0:trimR l≠[]:=fun e=>by
  rw [e,List.nil_append]at e1
  cases k with
  | zero=>exact f3 e1
  | succ k =>
   rw [e1,List.replicate_succ]at hh
   exact hh rfl
 have hrd:∀ c∈trimR l,isDig c=true:=fun c hc=>f2 c (by rw [e1]; exact List.mem_append_left _ hc)
 have hrh:(trimR l).head?≠some 48:=by
  rw [e1]at hh
  cases hx:trimR l with
  | nil=>exact absurd hx hr0
  | cons c r =>
   rw [hx]at hh
   exact hh
 have hx:(0:Int)+(l.length:Int) - ((trimR l).length:Int)=(k:Int):=by omega
 have hok:=decOk_of (neg:=neg) (ex:=(k:Int)) hr0 (by omega) hrd hrh e2 (by omega)
 refine ⟨⟨(trimR l).toArray⟩,k,?_,hok,by omega,by omega,?_⟩
 ·unfold makeD
  have hc:¬ (l=[]∨400<l.length∨¬ (-1000≤(0:Int)∧(0:Int)≤1000)∨¬ (l.all isDig=true)):=by
   rintro (h | h | h | h)
   ·exact f3 h
   ·omega
   ·omega
   ·exact h (List.all_eq_true.2 f2)
  rw [if_neg hc,hne,if_neg f3,hx,if_pos hok]
 ·unfold wholeN
  rw [Int.toNat_natCast]
  show dval 0 (trimR l)*10 ^ k=n
  rw [← dval_zeros',← e1,f1]
def ofN (neg:Bool) (n:Nat):Bool×ByteArray×Int:=(makeD neg (Lib.decDigits n) 0).getD (false,⟨#[]⟩,0)
theorem make_zero (neg:Bool):makeD neg (Lib.decDigits 0) 0=some (false,⟨#[48]⟩,0):=by
 rw [Lib.decDigits_one (by decide)]
 rfl
theorem ofN_toInt (neg:Bool) (n:Nat) (hn:n<18446744073709551616) (h0:neg=true→0<n):toIntD (ofN neg n).1 (ofN neg n).2.1 (ofN neg n).2.2=some (neg,n):=by
 unfold ofN
 rcases Nat.eq_zero_or_pos n with h | h
 ·subst h
  have hg:neg=false:=by
   cases neg with
   | false=>rfl
   | true=>exact absurd (h0 rfl) (by decide)
  subst hg
  rw [make_zero]
  decide +kernel
 ·obtain ⟨d,e,h1,h2,h3,h4,h5⟩:=make_whole neg n (by omega) h
  rw [h1]
  show toIntD neg d e=some (neg,n)
  unfold toIntD
  rw [if_pos ⟨h2,h3,h4,by omega⟩,h5]
theorem toInt_ofN {neg:Bool} {d:ByteArray} {e:Int} {ng:Bool} {n:Nat} (h:toIntD neg d e=some (ng,n)):ofN ng n=(neg,d,e):=by
 obtain ⟨h1,h2⟩:=toInt_lt h
 have h3:=ofN_toInt ng n h1 h2
 obtain ⟨a,b,c⟩:=toInt_inj h3 h
 rw [← a,← b,← c]
inductive PR (α:Type) where
 | good (a:α) (r:List UInt8)
 | bad (e:Int)
abbrev Psr (α:Type):=List UInt8→PR α
def bindP {α β:Type} (p:Psr α) (f:α→Psr β):Psr β:=fun l=>match p l with
 | .good a r=>f a r
 | .bad e=>.bad e
def pureP {α:Type} (a:α):Psr α:=fun l=>.good a l
def badP {α:Type} (e:Int):Psr α:=fun _=>.bad e
theorem bindP_good {α β:Type} {p:Psr α} {f:α→Psr β} {l r:List UInt8} {b:β} (h:bindP p f l=.good b r):∃ a s,p l=.good a s∧f a s=.good b r:=by
 unfold bindP at h
 split at h
 ·rename_i a s e
  exact ⟨a,s,e,h⟩
 ·cases h
theorem bindP_of {α β:Type} {p:Psr α} {f:α→Psr β} {l s:List UInt8} {a:α} (h:p l=.good a s):bindP p f l=f a s:=by
 unfold bindP
 rw [h]
theorem bindP_bad {α β:Type} {p:Psr α} {f:α→Psr β} {l:List UInt8} {e:Int} (h:p l=.bad e):bindP p f l=.bad e:=by
 unfold bindP
 rw [h]
def strT (kind:Int) (l:List UInt8):Tr:=.nd { zeroO with kind:=kind,s:=⟨l.toArray⟩ } []
def boolT (b:Bool):Tr:=.nd { zeroO with kind:=2,b:=b } []
def nilT:Tr:=.nd { zeroO with kind:=1 } []
def listT (kind:Int) (l:List Tr):Tr:=.nd { zeroO with kind:=kind } l
theorem str_back (s:ByteArray):(⟨s.data.toList.toArray⟩:ByteArray)=s:=by
 apply ByteArray.ext
 simp
theorem only_eq {o x:Own} {k:Int} (h:onlyB o x=true) (hk:o.kind=k):o={ x with kind:=k }:=by
 unfold onlyB at h
 rw [decide_eq_true_iff]at h
 rw [← hk]
 exact h
mutual
theorem sameT_iff:∀ (t t':Tr),sameT t t'=true→t=t'
 | .nd o l,.nd o' l',h=>by
  rw [sameT,Bool.and_eq_true,Bool.and_eq_true,decide_eq_true_iff,decide_eq_true_iff]at h
  rw [h.1.1,sameL_iff l l' h.1.2 h.2]
theorem sameL_iff:∀ (l l':List Tr),l.length=l'.length→sameL l l'=true→l=l'
 | [],[],_,_=>rfl
 | [],_::_,hl,_=>by simp at hl
 | _::_,[],hl,_=>by simp at hl
 | t::l,t'::l',hl,h=>by
  rw [sameL,Bool.and_eq_true]at h
  rw [sameT_iff t t' h.1,sameL_iff l l' (by simpa using hl) h.2]
end
end Go.Proofs.YtonihophanmaaaaGreatDoor
namespace Go.Proofs.YtonihophanmaaaaGreatDoor
open Go.RowKit Go.Shelf
def unp:List (Tr×Tr)→List Tr
 | []=>[]
 | p::l=>p.1::p.2::unp l
theorem unp_len:∀ ps:List (Tr×Tr),(unp ps).length=2*ps.length
 | []=>rfl
 | p::ps=>by rw [unp,List.length_cons,List.length_cons,unp_len ps,List.length_cons]; omega
theorem unp_append:∀ a b:List (Tr×Tr),unp (a++b)=unp a++unp b
 | [],_=>rfl
 | p::a,b=>by rw [List.cons_append,unp,unp_append a b,unp]; rfl
section
variable (it:Tr→List UInt8)
def ltP (a b:Tr×Tr):Bool:=decide (it a.1<it b.1)
def insP (p:Tr×Tr):List (Tr×Tr)→List (Tr×Tr)
 | []=>[p]
 | q::l=>if ltP it q p=true then q::insP p l else p::q::l
def sortP:List (Tr×Tr)→List (Tr×Tr)
 | []=>[]
 | p::l=>insP it p (sortP l)
theorem ins_perm (p:Tr×Tr):∀ l,(insP it p l).Perm (p::l)
 | []=>.refl _
 | q::l=>by
  rw [insP]
  split
  ·exact ((ins_perm p l).cons q).trans (.swap p q l)
  ·exact .refl _
theorem sort_perm:∀ l,(sortP it l).Perm l
 | []=>.refl _
 | p::l=>(ins_perm it p (sortP it l)).trans ((sort_perm l).cons p)
def RisesP (l:List (Tr×Tr)):Prop:=l.Pairwise fun a b=>it a.1<it b.1
def ItemsApart (l:List (Tr×Tr)):Prop:=l.Pairwise fun a b=>it a.1≠it b.1
theorem lt_or {a b:List UInt8} (h:a≠b):a<b∨b<a:=by
 rcases Classical.em (a<b) with h1 | h1
 ·exact .inl h1
 ·rcases Classical.em (b<a) with h2 | h2
  ·exact .inr h2
  ·exact absurd (List.le_antisymm (List.not_lt.1 h2) (List.not_lt.1 h1)) h
theorem ins_rises (p:Tr×Tr):∀ l,RisesP it l→(∀ q∈l,it q.1≠it p.1)→RisesP it (insP it p l)
 | [],_,_=>List.pairwise_singleton _ _
 | q::l,h,hp=>by
  obtain ⟨h1,h2⟩:=List.pairwise_cons.1 h
  rw [insP]
  split
  ·rename_i hlt
   refine List.pairwise_cons.2 ⟨fun x hx=>?_,ins_rises p l h2 (fun y hy=>hp y (by simp [hy]))⟩
   rcases List.mem_cons.1 ((ins_perm it p l).mem_iff.1 hx) with rfl | hx
   ·exact of_decide_eq_true hlt
   ·exact h1 x hx
  ·rename_i hlt
   have hpq:it p.1<it q.1:=by
    rcases lt_or (hp q (by simp)) with h3 | h3
    ·exact absurd (decide_eq_true h3) hlt
    ·exact h3
   refine List.pairwise_cons.2 ⟨fun x hx=>?_,h⟩
   rcases List.mem_cons.1 hx with rfl | hx
   ·exact hpq
   ·exact List.lt_trans hpq (h1 x hx)
theorem sort_rises:∀ l,ItemsApart it l→RisesP it (sortP it l)
 | [],_=>List.Pairwise.nil
 | p::l,h=>by
  obtain ⟨h1,h2⟩:=List.pairwise_cons.1 h
  exact ins_rises it p _ (sort_rises l h2) (fun q hq=>(h1 q ((sort_perm it l).mem_iff.1 hq)).symm)
theorem rises_one:∀ (a b:List (Tr×Tr)),a.Perm b→RisesP it a→RisesP it b→a=b
 | [],b,h,_,_=>h.nil_eq
 | x::a,[],h,_,_=>absurd h.length_eq (by simp)
 | x::a,y::b,h,ha,hb=>by
  obtain ⟨a1,a2⟩:=List.pairwise_cons.1 ha
  obtain ⟨b1,b2⟩:=List.pairwise_cons.1 hb
  have hxy:x=y:=by
   rcases List.mem_cons.1 (h.mem_iff.1 (List.mem_cons_self ..)) with e | e
   ·exact e
   ·rcases List.mem_cons.1 (h.mem_iff.2 (List.mem_cons_self ..)) with e2 | e2
    ·exact e2.symm
    ·exact absurd (List.lt_trans (a1 y e2) (b1 x e)) (List.lt_irrefl _)
  subst hxy
  rw [rises_one a b (List.perm_cons _ |>.1 h) a2 b2]
theorem apart_perm {a b:List (Tr×Tr)} (h:a.Perm b):ItemsApart it a→ItemsApart it b:=fun ha=>h.pairwise ha (fun h=>Ne.symm h)
theorem rises_apart {a:List (Tr×Tr)} (h:RisesP it a):ItemsApart it a:=by
 unfold RisesP at h
 unfold ItemsApart
 refine List.Pairwise.imp ?_ h
 intro x y h e
 rw [e]at h
 exact List.lt_irrefl (it y.1) h
theorem sort_self {a:List (Tr×Tr)} (h:RisesP it a):sortP it a=a:=
 rises_one it _ _ (sort_perm it a) (sort_rises it a (rises_apart it h)) h
variable (nar:Own→Own)
mutual
def setT:Tr→Tr
 | .nd o l=>if o.kind=4 then .nd (nar o) l else if o.kind=8 then .nd o (unp (sortP it (setP l))) else .nd o (setL l)
def setL:List Tr→List Tr
 | []=>[]
 | t::l=>setT t::setL l
def setP:List Tr→List (Tr×Tr)
 | []=>[]
 | [_]=>[]
 | k::v::l=>(k,setT v)::setP l
end
end
theorem perm_count {a b:List (Tr×Tr)} (h:a.Perm b):countL (unp a)=countL (unp b):=by
 induction h with
 | nil=>rfl
 | cons p _ ih=>rw [unp,unp,countL,countL,countL,countL,ih]
 | swap p q l=>simp only [unp,countL]; omega
 | trans _ _ h1 h2=>exact h1.trans h2
theorem perm_depth {a b:List (Tr×Tr)} (h:a.Perm b):depthL (unp a)=depthL (unp b):=by
 induction h with
 | nil=>rfl
 | cons p _ ih=>rw [unp,unp,depthL,depthL,depthL,depthL,ih]
 | swap p q l=>simp only [unp,depthL]; omega
 | trans _ _ h1 h2=>exact h1.trans h2
theorem perm_all {a b:List (Tr×Tr)} (h:a.Perm b):allL (unp a)=allL (unp b):=by
 induction h with
 | nil=>rfl
 | cons p _ ih=>rw [unp,unp,allL,allL,allL,allL,ih]
 | swap p q l =>
  simp only [unp,allL]
  cases allB p.1 <;> cases allB p.2 <;> cases allB q.1 <;> cases allB q.2 <;> rfl
 | trans _ _ h1 h2=>exact h1.trans h2
theorem perm_fit (f:Int) (fl:Own→Bool) {a b:List (Tr×Tr)} (h:a.Perm b):fitL f fl (unp a)=fitL f fl (unp b):=by
 induction h with
 | nil=>rfl
 | cons p _ ih=>rw [unp,unp,fitL,fitL,fitL,fitL,ih]
 | swap p q l =>
  simp only [unp,fitL]
  cases fitT f fl p.1 <;> cases fitT f fl p.2 <;> cases fitT f fl q.1 <;> cases fitT f fl q.2 <;> rfl
 | trans _ _ h1 h2=>exact h1.trans h2
theorem perm_keys (f:Int) {a b:List (Tr×Tr)} (h:a.Perm b):keysFit f (unp a)=keysFit f (unp b):=by
 induction h with
 | nil=>rfl
 | cons p _ ih=>rw [unp,unp,keysFit,keysFit,ih]
 | swap p q l =>
  simp only [unp,keysFit]
  cases keyO f p.1.own <;> cases keyO f q.1.own <;> rfl
 | trans _ _ h1 h2=>exact h1.trans h2
theorem unp_get:∀ (ps:List (Tr×Tr)) (i:Nat) (h:i<ps.length),(unp ps)[2*i]? = some ps[i].1∧(unp ps)[2*i+1]? = some ps[i].2
 | [],_,h=>by simp at h
 | p::ps,0,_=>⟨rfl,rfl⟩
 | p::ps,i+1,h=>by
  have h1:=unp_get ps i (by simpa using h)
  rw [show 2*(i+1)=2*i+1+1 by omega,unp]
  simp only [List.getElem?_cons_succ,List.getElem_cons_succ]
  exact h1
theorem sameT_symm (a b:Tr) (h:sameT a b=false):sameT b a=false:=by
 cases h1:sameT b a with
 | false=>rfl
 | true =>
  have:=sameT_iff _ _ h1
  rw [this,sameT_refl]at h
  cases h
theorem apart_unp (ps:List (Tr×Tr)):KeysApart (unp ps)↔ps.Pairwise fun a b=>sameT b.1 a.1=false:=by
 have hl:=unp_len ps
 rw [List.pairwise_iff_getElem]
 constructor
 ·intro h i j hi hj hij
  have h1:=h (2*j) (2*i) (by omega) (by omega) (by omega) (by omega)
  have ka:=(unp_get ps j hj).1
  have kb:=(unp_get ps i hi).1
  rw [List.getElem?_eq_getElem (by omega)]at ka kb
  rw [Option.some.inj ka,Option.some.inj kb]at h1
  exact h1
 ·intro h x y hx hy ex ey
  obtain ⟨a,rfl⟩:∃ a,x=2*a:=⟨x / 2,by omega⟩
  obtain ⟨b,rfl⟩:∃ b,y=2*b:=⟨y / 2,by omega⟩
  have ka:=(unp_get ps a (by omega)).1
  have kb:=(unp_get ps b (by omega)).1
  rw [List.getElem?_eq_getElem (by omega)]at ka kb
  rw [Option.some.inj ka,Option.some.inj kb]
  exact h b a (by omega) (by omega) (by omega)
theorem perm_apart {a b:List (Tr×Tr)} (h:a.Perm b):KeysApart (unp a)↔KeysApart (unp b):=by
 rw [apart_unp,apart_unp]
 exact ⟨fun q=>h.pairwise q (fun e=>sameT_symm _ _ e),fun q=>h.symm.pairwise q (fun e=>sameT_symm _ _ e)⟩
theorem keysB_iff (l:List Tr):keysB l=true↔KeysApart l:=by
 unfold keysB
 exact @decide_eq_true_iff _ (Classical.propDecidable _)
theorem perm_keysB {a b:List (Tr×Tr)} (h:a.Perm b):keysB (unp a)=keysB (unp b):=by
 rw [Bool.eq_iff_iff,keysB_iff,keysB_iff]
 exact perm_apart h
end Go.Proofs.YtonihophanmaaaaGreatDoor
namespace Go.Proofs.YtonihophanmaaaaGreatDoor
open Go.RowKit Go.Shelf
theorem own_of_all {o:Own} {l:List Tr} (h:allB (.nd o l)=true):ownB o l=true∧allL l=true:=by
 rw [allB,Bool.and_eq_true]at h
 exact h
theorem all_cons {t:Tr} {l:List Tr} (h:allL (t::l)=true):allB t=true∧allL l=true:=by
 rw [allL,Bool.and_eq_true]at h
 exact h
theorem ownB_len {o:Own} {l l':List Tr} (h:o.kind≠8) (hl:l.length=l'.length):ownB o l=ownB o l':=by
 unfold ownB
 rw [hl,if_neg h,if_neg h]
theorem ownB_map {o:Own} {l l':List Tr} (h:o.kind=8) (hl:l.length % 2=l'.length % 2) (hk:keysB l=keysB l'):ownB o l=ownB o l':=by
 unfold ownB
 rw [h]
 simp only [show ¬ (8:Int)=1 by decide,show ¬ (8:Int)=2 by decide,show ¬ (8:Int)=3 by decide,show ¬ (8:Int)=4 by decide,show ¬ (8:Int)=5 by decide,show ¬ (8:Int)=6 by decide,show ¬ (8:Int)=7 by decide,if_false,if_true]
 rw [hl,hk]
theorem own_even {o:Own} {l:List Tr} (h:ownB o l=true) (h8:o.kind=8):l.length % 2=0∧keysB l=true:=by
 unfold ownB at h
 rw [h8]at h
 simp only [show ¬ (8:Int)=1 by decide,show ¬ (8:Int)=2 by decide,show ¬ (8:Int)=3 by decide,show ¬ (8:Int)=4 by decide,show ¬ (8:Int)=5 by decide,show ¬ (8:Int)=6 by decide,show ¬ (8:Int)=7 by decide,if_false,if_true,Bool.and_eq_true,decide_eq_true_iff]at h
 exact h.2
theorem own_float {o:Own} {l:List Tr} (h:ownB o l=true) (h4:o.kind=4):l=[]:=by
 unfold ownB at h
 rw [h4]at h
 simp only [show ¬ (4:Int)=1 by decide,show ¬ (4:Int)=2 by decide,show ¬ (4:Int)=3 by decide,if_false,if_true,Bool.and_eq_true,decide_eq_true_iff]at h
 exact List.eq_nil_of_length_eq_zero h.1
def keysL:List Tr→List Tr
 | []=>[]
 | [k]=>[k]
 | k::_::l=>k::keysL l
theorem keys_get:∀ (l:List Tr) (i:Nat),(keysL l)[i]? = l[2*i]?
 | [],i=>by simp [keysL]
 | [k],0=>rfl
 | [k],i+1=>by simp [keysL,show 2*(i+1)=2*i+1+1 by omega]
 | k::v::l,0=>rfl
 | k::v::l,i+1=>by
  rw [keysL,List.getElem?_cons_succ,keys_get l i,show 2*(i+1)=2*i+1+1 by omega,List.getElem?_cons_succ,List.getElem?_cons_succ]
theorem keysB_keys {l l':List Tr} (hl:l.length=l'.length) (h:keysL l=keysL l'):keysB l=keysB l':=by
 have key:∀ a b:List Tr,a.length=b.length→keysL a=keysL b→KeysApart a→KeysApart b:=fun a b hl h ha i k hi hk ei ek=>by
  have g:∀ j (hj:j<b.length),j % 2=0→b[j]=a[j]'(by omega):=fun j hj ej=>by
   obtain ⟨q,rfl⟩:∃ q,j=2*q:=⟨j / 2,by omega⟩
   have h1:=keys_get a q
   rw [h,keys_get b q,List.getElem?_eq_getElem hj,List.getElem?_eq_getElem (by omega)]at h1
   exact Option.some.inj h1
  rw [g i hi ei,g k (by omega) ek]
  exact ha i k (by omega) hk ei ek
 rw [Bool.eq_iff_iff,keysB_iff,keysB_iff]
 exact ⟨key l l' hl h,key l' l hl.symm h.symm⟩
theorem keysFit_keys (f:Int):∀ {l l':List Tr},l.length=l'.length→keysL l=keysL l'→keysFit f l=keysFit f l'
 | [],[],_,_=>rfl
 | [a],[b],_,h=>by
  injection h with h _
  rw [h]
 | a::x::l,b::y::l',hl,h=>by
  injection h with h1 h2
  rw [keysFit,keysFit,h1,keysFit_keys f (by simpa using hl) h2]
 | [],_::_,hl,_=>by simp at hl
 | _::_,[],hl,_=>by simp at hl
 | [_],_::_::_,hl,_=>by simp at hl
 | _::_::_,[_],hl,_=>by simp at hl
structure NarOk (nar:Own→Own):Prop where
 kind:∀ o,o.kind=4→(nar o).kind=4
 own:∀ o,o.kind=4→ownB o []=true→ownB (nar o) []=true
 idem:∀ o,o.kind=4→ownB o []=true→nar (nar o)=nar o
section
variable {it:Tr→List UInt8} {nar:Own→Own}
theorem setL_len:∀ l:List Tr,(setL it nar l).length=l.length
 | []=>by rw [setL]
 | t::l=>by rw [setL,List.length_cons,setL_len l,List.length_cons]
theorem setP_len:∀ l:List Tr,(setP it nar l).length=l.length / 2
 | []=>by rw [setP]; rfl
 | [_]=>by rw [setP]; simp
 | k::v::l=>by rw [setP,List.length_cons,setP_len l,List.length_cons,List.length_cons]; omega
theorem setP_keys:∀ l:List Tr,l.length % 2=0→keysL (unp (setP it nar l))=keysL l
 | [],_=>by rw [setP]; rfl
 | [_],h=>by simp at h
 | k::v::l,h=>by rw [setP,unp,keysL,keysL,setP_keys l (by simp at h; omega)]
theorem setP_unp:∀ ps:List (Tr×Tr),setP it nar (unp ps)=ps.map fun p=>(p.1,setT it nar p.2)
 | []=>by rw [unp,setP]; rfl
 | p::ps=>by rw [unp,setP,setP_unp ps]; rfl
theorem set_own (o:Own) (l:List Tr):(setT it nar (.nd o l)).own=if o.kind=4 then nar o else o:=by
 rw [setT]
 split
 ·rfl
 ·split <;> rfl
mutual
theorem set_inv (hn:NarOk nar):∀ t,allB t=true→(setT it nar t).count=t.count∧(setT it nar t).depth=t.depth∧allB (setT it nar t)=true∧fitT 2 flC (setT it nar t)=fitT 2 flC t
 | .nd o l,h=>by
  obtain ⟨h1,h2⟩:=own_of_all h
  rw [setT]
  split
  ·rename_i h4
   have hl:=own_float h1 h4
   subst hl
   refine ⟨by rw [Tr.count,Tr.count],by rw [Tr.depth,Tr.depth],?_,?_⟩
   ·rw [allB,hn.own o h4 h1,allL]
    rfl
   ·rw [fitT,fitT]
    unfold fitO
    rw [if_pos h4,if_pos (hn.kind o h4)]
    rfl
  split
  ·rename_i h8
   obtain ⟨he,hk⟩:=own_even h1 h8
   obtain ⟨a1,a2,a3,a4⟩:=set_invP hn l h2 he
   have hp:=sort_perm it (setP it nar l)
   have hlen:(unp (sortP it (setP it nar l))).length=l.length:=by
    rw [unp_len,hp.length_eq,setP_len]
    omega
   have hlen2:(unp (setP it nar l)).length=l.length:=by
    rw [unp_len,setP_len]
    omega
   have hkk:=setP_keys (it:=it) (nar:=nar) l he
   refine ⟨by rw [Tr.count,Tr.count,perm_count hp,a1],by rw [Tr.depth,Tr.depth,perm_depth hp,a2],?_,?_⟩
   ·rw [allB,perm_all hp,a3,Bool.and_true,ownB_map h8 (l':=l) (by rw [hlen]) (by rw [perm_keysB hp]; exact keysB_keys hlen2 hkk)]
    exact h1
   ·rw [fitT,fitT,perm_fit 2 flC hp,a4]
    congr 1
    unfold fitO
    rw [h8]
    simp only [show ¬ (8:Int)=4 by decide,show ¬ (8:Int)=3 by decide,show ¬ (8:Int)=6 by decide,show ¬ ((8:Int)=9∨(8:Int)=10) by decide,show ¬ (8:Int)=11 by decide,if_false,if_true]
    rw [perm_keys 2 hp,keysFit_keys 2 hlen2 hkk]
  ·rename_i h4 h8
   obtain ⟨a1,a2,a3,a4⟩:=set_invL hn l h2
   refine ⟨by rw [Tr.count,Tr.count,a1],by rw [Tr.depth,Tr.depth,a2],?_,?_⟩
   ·rw [allB,a3,Bool.and_true,ownB_len h8 (setL_len l)]
    exact h1
   ·rw [fitT,fitT,a4]
    congr 1
    unfold fitO
    rw [if_neg h4,if_neg h4,if_neg h8,if_neg h8]
theorem set_invL (hn:NarOk nar):∀ l,allL l=true→countL (setL it nar l)=countL l∧depthL (setL it nar l)=depthL l∧allL (setL it nar l)=true∧fitL 2 flC (setL it nar l)=fitL 2 flC l
 | [],_=>by rw [setL]; exact ⟨rfl,rfl,by rw [allL],rfl⟩
 | t::l,h=>by
  obtain ⟨h1,h2⟩:=all_cons h
  obtain ⟨a1,a2,a3,a4⟩:=set_inv hn t h1
  obtain ⟨b1,b2,b3,b4⟩:=set_invL hn l h2
  rw [setL]
  exact ⟨by rw [countL,countL,a1,b1],by rw [depthL,depthL,a2,b2],by rw [allL,a3,b3]; rfl,by rw [fitL,fitL,a4,b4]⟩
theorem set_invP (hn:NarOk nar):∀ l,allL l=true→l.length % 2=0→countL (unp (setP it nar l))=countL l∧depthL (unp (setP it nar l))=depthL l∧allL (unp (setP it nar l))=true∧fitL 2 flC (unp (setP it nar l))=fitL 2 flC l
 | [],_,_=>by rw [setP,unp]; exact ⟨rfl,rfl,by rw [allL],rfl⟩
 | [_],_,h=>by simp at h
 | k::v::l,h,he=>by
  obtain ⟨h1,h2⟩:=all_cons h
  obtain ⟨h3,h4⟩:=all_cons h2
  obtain ⟨a1,a2,a3,a4⟩:=set_inv hn v h3
  obtain ⟨b1,b2,b3,b4⟩:=set_invP hn l h4 (by simp at he; omega)
  rw [setP,unp]
  exact ⟨by simp only [countL,a1,b1],by simp only [depthL,a2,b2],by simp only [allL,a3,b3,h1]; rfl,by simp only [fitL,a4,b4]⟩
end
theorem set_check (hn:NarOk nar) (t:Tr) (h:checkT 2 flC t=0):checkT 2 flC (setT it nar t)=0:=by
 unfold checkT at h ⊢
 split at h
 ·rename_i hr
  unfold rightT at hr
  rw [Bool.and_eq_true,Bool.and_eq_true]at hr
  obtain ⟨a1,a2,a3,a4⟩:=set_inv (it:=it) hn t hr.2.2
  have hr2:rightT (setT it nar t)=true:=by
   unfold rightT
   rw [a1,a2,a3,hr.1,hr.2.1]
   rfl
  rw [if_pos hr2,a4]
  exact h
 ·cases h
end
end Go.Proofs.YtonihophanmaaaaGreatDoor
namespace Go.Proofs.YtonihophanmaaaaGreatDoor
open Go.RowKit Go.Shelf
structure ItemsOk (it:Tr→List UInt8) (G:Tr→Prop):Prop where
 kids:∀ o l,G (.nd o l)→∀ t∈l,G t
 inj:∀ a b,G a→G b→it a=it b→a=b
section
variable {it:Tr→List UInt8} {nar:Own→Own} {G:Tr→Prop}
theorem setP_key:∀ (l:List Tr) (i:Nat) (h:i<(setP it nar l).length),l[2*i]? = some (setP it nar l)[i].1∧∃ v,l[2*i+1]? = some v∧(setP it nar l)[i].2=setT it nar v
 | [],i,h=>by simp [setP]at h
 | [_],i,h=>by simp [setP]at h
 | k::v::l,0,_=>by
  simp only [setP]
  exact ⟨rfl,v,rfl,rfl⟩
 | k::v::l,i+1,h=>by
  have h1:i<(setP it nar l).length:=by simpa [setP] using h
  have h2:=setP_key l i h1
  rw [show 2*(i+1)=2*i+1+1 by omega]
  simp only [setP,List.getElem?_cons_succ,List.getElem_cons_succ]
  exact h2
theorem setP_apart (hG:ItemsOk it G) (l:List Tr) (hk:KeysApart l) (hg:∀ t∈l,G t):ItemsApart it (setP it nar l):=by
 unfold ItemsApart
 rw [List.pairwise_iff_getElem]
 intro i j hi hj hij e
 have h1:=(setP_key (it:=it) (nar:=nar) l i hi).1
 have h2:=(setP_key (it:=it) (nar:=nar) l j hj).1
 have hl:=setP_len (it:=it) (nar:=nar) l
 have hi2:2*i<l.length:=by omega
 have hj2:2*j<l.length:=by omega
 rw [List.getElem?_eq_getElem hi2]at h1
 rw [List.getElem?_eq_getElem hj2]at h2
 have h3:=hk (2*j) (2*i) hj2 (by omega) (by omega) (by omega)
 rw [← Option.some.inj h1,← Option.some.inj h2]at e
 have h4:=hG.inj _ _ (hg _ (List.getElem_mem hi2)) (hg _ (List.getElem_mem hj2)) e
 rw [h4,sameT_refl]at h3
 cases h3
mutual
theorem set_set (hn:NarOk nar) (hG:ItemsOk it G):∀ t,allB t=true→G t→setT it nar (setT it nar t)=setT it nar t
 | .nd o l,h,hg=>by
  obtain ⟨h1,h2⟩:=own_of_all h
  have hgl:=hG.kids o l hg
  by_cases h4:o.kind=4
  ·have hl:=own_float h1 h4
   subst hl
   rw [setT,if_pos h4,setT,if_pos (hn.kind o h4),hn.idem o h4 h1]
  by_cases h8:o.kind=8
  ·obtain ⟨he,hk⟩:=own_even h1 h8
   have hs:=sort_rises it _ (setP_apart (nar:=nar) hG l ((keysB_iff l).1 hk) hgl)
   rw [setT,if_neg h4,if_pos h8,setT,if_neg h4,if_pos h8,setP_unp]
   have hm:(sortP it (setP it nar l)).map (fun p=>(p.1,setT it nar p.2))=sortP it (setP it nar l):=by
    conv=>rhs; rw [← List.map_id (sortP it (setP it nar l))]
    refine List.map_congr_left fun p hp=>?_
    have hp2:=(sort_perm it (setP it nar l)).mem_iff.1 hp
    rw [set_setP hn hG l h2 hgl p hp2]
    rfl
   rw [hm,sort_self it hs]
  ·rw [setT,if_neg h4,if_neg h8,setT,if_neg h4,if_neg h8,set_setL hn hG l h2 hgl]
theorem set_setL (hn:NarOk nar) (hG:ItemsOk it G):∀ l,allL l=true→(∀ t∈l,G t)→setL it nar (setL it nar l)=setL it nar l
 | [],_,_=>by rw [setL,setL]
 | t::l,h,hg=>by
  obtain ⟨h1,h2⟩:=all_cons h
  rw [setL,setL,set_set hn hG t h1 (hg t (by simp)),set_setL hn hG l h2 (fun x hx=>hg x (by simp [hx]))]
theorem set_setP (hn:NarOk nar) (hG:ItemsOk it G):∀ l,allL l=true→(∀ t∈l,G t)→∀ p∈setP it nar l,setT it nar p.2=p.2
 | [],_,_,p,hp=>by rw [setP]at hp; cases hp
 | [_],_,_,p,hp=>by rw [setP]at hp; cases hp
 | k::v::l,h,hg,p,hp=>by
  obtain ⟨h1,h2⟩:=all_cons h
  obtain ⟨h3,h4⟩:=all_cons h2
  rw [setP]at hp
  rcases List.mem_cons.1 hp with rfl | hp
  ·exact set_set hn hG v h3 (hg v (by simp))
  ·exact set_setP hn hG l h4 (fun x hx=>hg x (by simp [hx])) p hp
end
end
end Go.Proofs.YtonihophanmaaaaGreatDoor
