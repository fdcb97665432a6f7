/- The texts Fit, Psr, JsB, put together. -/
import Derived.Test.YtfckekaegjjmkaaGreatDoorPh09
import Derived.Test.YtfckekaegjjmkaaGreatDoorPh01
import Derived.Test.YtfckekaegjjmkaaGreatDoorPh10
namespace Go.Proofs.YtfckekaegjjmkaaGreatDoor
open Go.RowKit Go.Shelf

def keyO (f:Int) (o:Own):Bool:=
 if o.kind=5 then true else if f=1 then false else if o.kind=3 then (toIntD o.neg o.dg o.ex).isSome else decide (o.kind=6) || (decide (o.kind=2) || decide (o.kind=1))
def keysFit (f:Int):List Tr → Bool
 | []=>true
 | [k]=>keyO f k.own
 | k :: _ :: r=>keyO f k.own && keysFit f r
def whole63 (r:Option (Bool × Nat)):Bool:=match r with
 | some (neg,k)=>!neg || decide (k ≤ 9223372036854775808)
 | none=>false
def fitO (f:Int) (fl:Own → Bool) (o:Own) (l:List Tr):Bool:=
 if o.kind=4 then fl o
 else if o.kind=3 then decide (f=1) || (((decide (f=2) || decide (f=3)) && (toIntD o.neg o.dg o.ex).isSome) || (decide (f=4) && whole63 (toIntD o.neg o.dg o.ex)))
 else if o.kind=6 then decide (f=2) || (decide (f=3) || decide (f=4))
 else if o.kind=9 ∨ o.kind=10 then decide (f=2) || decide (f=3)
 else if o.kind=11 then decide (f=4)
 else if o.kind=8 then (decide (f=1) || (decide (f=2) || (decide (f=3) || decide (f=4)))) && keysFit f l
 else decide (f=1) || (decide (f=2) || (decide (f=3) || decide (f=4)))
mutual
def fitT (f:Int) (fl:Own → Bool):Tr → Bool
 | .nd o l=>fitO f fl o l && fitL f fl l
def fitL (f:Int) (fl:Own → Bool):List Tr → Bool
 | []=>true
 | t :: l=>fitT f fl t && fitL f fl l
end
noncomputable def checkT (f:Int) (fl:Own → Bool) (t:Tr):Int:=if rightT t=true then (if fitT f fl t=true then 0 else 61) else 60
def flC (_:Own):Bool:=true
def flJ (_:Own):Bool:=false
end Go.Proofs.YtfckekaegjjmkaaGreatDoor
namespace Go.Proofs.YtfckekaegjjmkaaGreatDoor
open Go.RowKit Go.Shelf

inductive PR (α:Type) where
 | good (a:α) (r:List UInt8)
 | bad (e:Int)
abbrev Psr (α:Type):=List UInt8 → PR α
def bindP {α β:Type} (p:Psr α) (f:α → Psr β):Psr β:=fun l=>match p l with
 | .good a r=>f a r
 | .bad e=>.bad e
def pureP {α:Type} (a:α):Psr α:=fun l=>.good a l

theorem bindP_good {α β:Type} {p:Psr α} {f:α → Psr β} {l r:List UInt8} {b:β} (h:bindP p f l=.good b r):∃ a s,p l=.good a s ∧ f a s=.good b r:=by
 unfold bindP at h
 split at h
 ·rename_i a s e
  exact ⟨a,s,e,h⟩
 ·cases h
theorem bindP_of {α β:Type} {p:Psr α} {f:α → Psr β} {l s:List UInt8} {a:α} (h:p l=.good a s):bindP p f l=f a s:=by
 unfold bindP
 rw [h]
theorem bindP_bad {α β:Type} {p:Psr α} {f:α → Psr β} {l:List UInt8} {e:Int} (h:p l=.bad e):bindP p f l=.bad e:=by
 unfold bindP
 rw [h]
def strT (kind:Int) (l:List UInt8):Tr:=.nd { zeroO with kind:=kind,s:=⟨l.toArray⟩ } []
def boolT (b:Bool):Tr:=.nd { zeroO with kind:=2,b:=b } []
def nilT:Tr:=.nd { zeroO with kind:=1 } []
def listT (kind:Int) (l:List Tr):Tr:=.nd { zeroO with kind:=kind } l
theorem str_back (s:ByteArray):(⟨s.data.toList.toArray⟩:ByteArray)=s:=by
 apply ByteArray.ext
 simp
theorem only_eq {o x:Own} {k:Int} (h:onlyB o x=true) (hk:o.kind=k):o={ x with kind:=k }:=by
 unfold onlyB at h
 rw [decide_eq_true_iff] at h
 rw [← hk]
 exact h
end Go.Proofs.YtfckekaegjjmkaaGreatDoor
namespace Go.Proofs.YtfckekaegjjmkaaGreatDoor
open Go.RowKit Go.Shelf

section
variable (U:List UInt8 → Option (List UInt8 × List UInt8)) (Q:List UInt8 → List UInt8)

def isSp (c:UInt8):Bool:=c == 32 || c == 9 || c == 10 || c == 13
def spJ (l:List UInt8):List UInt8:=l.dropWhile isSp
def wordJ (w:List UInt8) (t:Tr):Psr Tr:=fun l=>if l.take w.length=w then .good t (l.drop w.length) else .bad 80
def textJ:Psr Tr:=fun l=>match U l with
 | some (s,r)=>.good (strT 5 s) r
 | none=>.bad 80
def colonJ (t:Tr):Psr Tr:=fun l=>match spJ l with
 | []=>.bad 80
 | c :: r=>if c=58 then .good t (spJ r) else .bad 80
def memberJ:Psr Tr:=bindP (textJ U) colonJ
def decT (neg:Bool) (dg:ByteArray) (ex:Int):Tr:=.nd { zeroO with kind:=3,neg:=neg,dg:=dg,ex:=ex } []
def numJ:Psr Tr:=fun l=>match parseD l with
 | some (d,r)=>.good (decT d.1 d.2.1 d.2.2) r
 | none=>.bad 80
def nextJ (en:UInt8) (a:List Tr) (go:Psr (List Tr)):Psr (List Tr):=fun l=>match spJ l with
 | []=>.bad 80
 | c :: r=>if c=en then .good a r else if c=44 then go (spJ r) else .bad 80
def nodesJ (v:Psr Tr) (mem:Bool) (en:UInt8):Nat → List Tr → Psr (List Tr)
 | 0,_=>fun _=>.bad 80
 | f + 1,acc=>if mem=true then bindP (memberJ U) fun k=>bindP v fun t=>nextJ en (acc ++ [k,t]) (nodesJ v mem en f (acc ++ [k,t]))
  else bindP v fun t=>nextJ en (acc ++ [t]) (nodesJ v mem en f (acc ++ [t]))
def listJ (v:Psr Tr) (mem:Bool) (en:UInt8) (F:Nat):Psr (List Tr):=fun l=>match spJ l with
 | []=>nodesJ U v mem en F [] []
 | c :: r=>if c=en then .good [] r else nodesJ U v mem en F [] (c :: r)
def bodyJ (sub:Option (Psr Tr)) (F:Nat):Psr Tr:=fun l=>match l with
 | []=>.bad 80
 | c :: r =>
  if c=91 then (match sub with
   | none=>.bad 60
   | some v=>bindP (listJ U v false 93 F) (fun L=>pureP (listT 7 L)) r)
  else if c=123 then (match sub with
   | none=>.bad 60
   | some v=>bindP (listJ U v true 125 F) (fun L=>pureP (listT 8 L)) r)
  else if c=34 then textJ U (c :: r)
  else if c=110 then wordJ [110,117,108,108] nilT (c :: r)
  else if c=116 then wordJ [116,114,117,101] (boolT true) (c :: r)
  else if c=102 then wordJ [102,97,108,115,101] (boolT false) (c :: r)
  else numJ (c :: r)
def valueJ (F:Nat):Nat → Psr Tr
 | 0=>bodyJ U none F
 | d + 1=>bodyJ U (some (valueJ F d)) F

def lineL (p:Bool) (k:Nat):List UInt8:=if p=true then 10 :: List.replicate (2 * k) 32 else []
def gapL (p:Bool):List UInt8:=if p=true then [32] else []
mutual
def jsT (p:Bool):Nat → Tr → List UInt8
 | k,.nd o l =>
  if o.kind=1 then [110,117,108,108]
  else if o.kind=2 then (if o.b=true then [116,114,117,101] else [102,97,108,115,101])
  else if o.kind=3 then fmtD o.neg o.dg.data.toList o.ex
  else if o.kind=5 then Q o.s.data.toList
  else if o.kind=7 then 91 :: ((if l.length=0 then [] else jsA p (k + 1) true l ++ lineL p k) ++ [93])
  else if o.kind=8 then 123 :: ((if l.length=0 then [] else jsM p (k + 1) true l ++ lineL p k) ++ [125])
  else []
def jsA (p:Bool):Nat → Bool → List Tr → List UInt8
 | _,_,[]=>[]
 | k,first,t :: l=>(if first=true then [] else [44]) ++ (lineL p k ++ (jsT p k t ++ jsA p k false l))
def jsM (p:Bool):Nat → Bool → List Tr → List UInt8
 | _,_,[]=>[]
 | _,_,[_]=>[]
 | k,first,a :: b :: l=>(if first=true then [] else [44]) ++ (lineL p k ++ (jsT p k a ++ (58 :: (gapL p ++ (jsT p k b ++ jsM p k false l)))))
end
inductive ShapeJ (o:Own) (l:List Tr):Prop
 | null (h:o={ zeroO with kind:=1 }) (hl:l=[])
 | bool (h:o={ zeroO with kind:=2,b:=o.b }) (hl:l=[])
 | num (h:o={ zeroO with kind:=3,neg:=o.neg,dg:=o.dg,ex:=o.ex }) (hd:decOk o.neg o.dg o.ex=true) (hl:l=[])
 | text (h:o={ zeroO with kind:=5,s:=o.s }) (hv:Lib.validD o.s.data.toList=true) (hl:l=[])
 | array (h:o={ zeroO with kind:=7 })
 | map (h:o={ zeroO with kind:=8 }) (he:l.length % 2=0) (hk:keysFit 1 l=true)
mutual
def okJ:Tr → Prop
 | .nd o l=>ShapeJ o l ∧ okJL l
def okJL:List Tr → Prop
 | []=>True
 | t :: l=>okJ t ∧ okJL l
end
theorem okJL_mem:∀ {l:List Tr},okJL l → ∀ t ∈ l,okJ t
 | [],_,t,h=>by cases h
 | s :: l,h,t,ht=>by
  rw [okJL] at h
  rcases List.mem_cons.1 ht with rfl | ht
  ·exact h.1
  ·exact okJL_mem h.2 t ht
theorem countL_len:∀ l:List Tr,l.length ≤ countL l
 | []=>Nat.zero_le _
 | t :: l=>by
  have:=countL_len l
  have h:=Tr.count_eq t
  rw [countL,List.length_cons]
  omega
theorem len_nil {l:List Tr} (h:l.length=0):l=[]:=List.length_eq_zero_iff.1 h
theorem shapeJ_of {o:Own} {l:List Tr} (ho:ownB o l=true) (hf:fitO 1 flJ o l=true):ShapeJ o l:=by
 unfold ownB at ho
 unfold fitO at hf
 by_cases h1:o.kind=1
 ·rw [if_pos h1] at ho
  simp only [Bool.and_eq_true,decide_eq_true_iff] at ho
  exact .null (only_eq ho.2 h1) (len_nil ho.1)
 rw [if_neg h1] at ho
 by_cases h2:o.kind=2
 ·rw [if_pos h2] at ho
  simp only [Bool.and_eq_true,decide_eq_true_iff] at ho
  exact .bool (only_eq ho.2 h2) (len_nil ho.1)
 rw [if_neg h2] at ho
 by_cases h3:o.kind=3
 ·rw [if_pos h3] at ho
  simp only [Bool.and_eq_true,decide_eq_true_iff] at ho
  exact .num (only_eq ho.2.1 h3) ho.2.2 (len_nil ho.1)
 rw [if_neg h3] at ho
 by_cases h4:o.kind=4
 ·rw [if_pos h4] at hf
  cases hf
 rw [if_neg h4] at ho hf
 rw [if_neg h3] at hf
 by_cases h5:o.kind=5
 ·rw [if_pos h5] at ho
  simp only [Bool.and_eq_true,decide_eq_true_iff] at ho
  exact .text (only_eq ho.2.1 h5) ho.2.2.2 (len_nil ho.1)
 rw [if_neg h5] at ho
 by_cases h6:o.kind=6
 ·rw [if_pos h6] at hf
  exact absurd hf (by decide)
 rw [if_neg h6] at ho hf
 by_cases h7:o.kind=7
 ·rw [if_pos h7] at ho
  exact .array (only_eq ho h7)
 rw [if_neg h7] at ho
 by_cases h8:o.kind=8
 ·rw [if_pos h8] at ho
  rw [if_neg (by omega),if_neg (by omega),if_pos h8] at hf
  simp only [Bool.and_eq_true,decide_eq_true_iff] at ho hf
  exact .map (only_eq ho.1 h8) ho.2.1 hf.2
 rw [if_neg h8] at ho
 by_cases h9:o.kind=9 ∨ o.kind=10
 ·rw [if_pos h9] at hf
  exact absurd hf (by decide)
 rw [if_neg h9] at hf
 by_cases h11:o.kind=11
 ·rw [if_pos h11] at hf
  exact absurd hf (by decide)
 rw [if_neg (by omega),if_neg (by omega),if_neg h11] at ho
 cases ho

theorem sp_line (p:Bool) (k:Nat) (l:List UInt8):spJ (lineL p k ++ l)=spJ l:=by
 have h:∀ n:Nat,spJ (List.replicate n 32 ++ l)=spJ l:=fun n=>by
  induction n with
  | zero=>rfl
  | succ n ih=>exact ih
 unfold lineL
 cases p
 ·rfl
 ·exact h _
theorem sp_gap (p:Bool) (l:List UInt8):spJ (gapL p ++ l)=spJ l:=by
 cases p <;> rfl
theorem sp_cons {c:UInt8} (h:isSp c=false) (r:List UInt8):spJ (c :: r)=c :: r:=by
 unfold spJ
 rw [List.dropWhile_cons,h]
 rfl
theorem stops_cons {c:UInt8} (h:isDig c=false ∧ c ≠ 46 ∧ c ≠ 101 ∧ c ≠ 69) (r:List UInt8):Stops (c :: r):=fun a b e=>by
 injection e with e _
 rw [← e]
 exact h
def BegJ (l:List UInt8):Prop:=∃ c r,l=c :: r ∧ isSp c=false ∧ c ≠ 93 ∧ c ≠ 125
theorem dig_beg {c:UInt8} (h:isDig c=true):isSp c=false ∧ c ≠ 93 ∧ c ≠ 125 ∧ c ≠ 91 ∧ c ≠ 123 ∧ c ≠ 34 ∧ c ≠ 110 ∧ c ≠ 116 ∧ c ≠ 102:=by
 refine ⟨?_,?_,?_,?_,?_,?_,?_,?_,?_⟩
 ·cases hs:isSp c with
  | false=>rfl
  | true =>
   unfold isSp at hs
   simp only [Bool.or_eq_true,beq_iff_eq] at hs
   rcases hs with ((rfl | rfl) | rfl) | rfl <;> (revert h; decide)
 all_goals (rintro rfl; revert h; decide)
theorem fmt_beg {neg:Bool} {dg:ByteArray} {ex:Int} (h:decOk neg dg ex=true):∃ c r,fmtD neg dg.data.toList ex=c :: r ∧ (c=45 ∨ isDig c=true):=by
 have hd:∃ c r,dg.data.toList=c :: r ∧ isDig c=true:=by
  rcases dec_parts h with ⟨e,_,_⟩ | ⟨h1,h2,_,_⟩
  ·exact ⟨48,[],e,rfl⟩
  ·cases hq:dg.data.toList with
   | nil=>exact absurd hq h1
   | cons c r=>exact ⟨c,r,rfl,h2 c (by rw [hq]; simp)⟩
 obtain ⟨c,r,e,hc⟩:=hd
 unfold fmtD
 cases neg
 ·simp only [Bool.false_eq_true,if_false,List.nil_append]
  rw [e]
  split
  ·exact ⟨c,_,rfl,.inr hc⟩
  ·split
   ·exact ⟨c,_,rfl,.inr hc⟩
   ·split
    ·rename_i hp
     obtain ⟨k,hk⟩:∃ k:Nat,(((c :: r).length:Int) + ex).toNat=k + 1:=⟨(((c :: r).length:Int) + ex).toNat - 1,by omega⟩
     rw [hk,List.take_succ_cons]
     exact ⟨c,_,rfl,.inr hc⟩
    ·exact ⟨48,_,rfl,.inr rfl⟩
 ·exact ⟨45,_,rfl,.inl rfl⟩
variable {U Q}
theorem jsT_beg (hq0:∀ l,∃ r,Q l=34 :: r) (p:Bool) (k:Nat):∀ t,okJ t → BegJ (jsT Q p k t)
 | .nd o l,h=>by
  rw [okJ] at h
  rcases h.1 with ⟨h,_⟩ | ⟨h,_⟩ | ⟨h,hd,_⟩ | ⟨h,hv,_⟩ | ⟨h⟩ | ⟨h,_,_⟩
  all_goals (have hk:=congrArg Own.kind h; simp only [] at hk; rw [jsT,hk])
  ·exact ⟨110,_,rfl,rfl,by decide,by decide⟩
  ·cases hb:o.b
   ·exact ⟨102,_,rfl,rfl,by decide,by decide⟩
   ·exact ⟨116,_,rfl,rfl,by decide,by decide⟩
  ·obtain ⟨c,r,e,hc⟩:=fmt_beg hd
   refine ⟨c,r,e,?_⟩
   rcases hc with rfl | hc
   ·exact ⟨rfl,by decide,by decide⟩
   ·exact ⟨(dig_beg hc).1,(dig_beg hc).2.1,(dig_beg hc).2.2.1⟩
  ·obtain ⟨r,e⟩:=hq0 o.s.data.toList
   exact ⟨34,r,e,rfl,by decide,by decide⟩
  ·exact ⟨91,_,rfl,rfl,by decide,by decide⟩
  ·exact ⟨123,_,rfl,rfl,by decide,by decide⟩
theorem begJ_sp {l:List UInt8} (h:BegJ l) (m:List UInt8):spJ (l ++ m)=l ++ m:=by
 obtain ⟨c,r,rfl,hc,_⟩:=h
 exact sp_cons hc _
theorem rows_back (hq0:∀ l,∃ r,Q l=34 :: r) (p:Bool) (k:Nat) (v:Psr Tr) (m:List UInt8):∀ (l:List Tr) (t:Tr) (f:Nat) (acc:List Tr),l.length < f → okJL (t :: l) →
  (∀ x ∈ t :: l,∀ m,Stops m → v (jsT Q p (k + 1) x ++ m)=.good x m) →
  nodesJ U v false 93 f acc (jsT Q p (k + 1) t ++ (jsA Q p (k + 1) false l ++ (lineL p k ++ 93 :: m)))=.good (acc ++ t :: l) m
 | [],t,0,_,h,_,_=>by simp at h
 | _ :: _,t,0,_,h,_,_=>by simp at h
 | [],t,f + 1,acc,_,hok,hv=>by
  have hst:Stops (lineL p k ++ 93 :: m):=by
   unfold lineL
   cases p
   ·exact stops_cons (by decide) m
   ·exact stops_cons (by decide) _
  have h1:=hv t (by simp) _ hst
  rw [jsA,List.nil_append,nodesJ,if_neg (by simp),bindP_of h1]
  unfold nextJ
  rw [sp_line,sp_cons (by decide)]
  simp
 | t' :: l,t,f + 1,acc,hf,hok,hv=>by
  have hst:Stops (jsA Q p (k + 1) false (t' :: l) ++ (lineL p k ++ 93 :: m)):=by
   rw [jsA]
   exact stops_cons (by decide) _
  have h1:=hv t (by simp) _ hst
  rw [okJL] at hok
  have hok2:=hok.2
  rw [okJL] at hok2
  have hb:=jsT_beg hq0 p (k + 1) t' hok2.1
  rw [nodesJ,if_neg (by simp),bindP_of h1,jsA]
  have ih:=rows_back hq0 p k v m l t' f (acc ++ [t]) (by simpa using hf) hok.2 (fun x hx=>hv x (List.mem_cons_of_mem _ hx))
  unfold nextJ
  simp only [Bool.false_eq_true,if_false,List.cons_append,List.nil_append]
  rw [sp_cons (by decide)]
  simp only []
  rw [if_neg (by decide),if_pos trivial,List.append_assoc,sp_line,List.append_assoc,begJ_sp hb,ih]
  simp
theorem members_back (hq0:∀ l,∃ r,Q l=34 :: r) (hU:∀ l m,Lib.validD l=true → U (Q l ++ m)=some (l,m)) (p:Bool) (k:Nat) (v:Psr Tr) (m:List UInt8):∀ (n:Nat) (l:List Tr) (a t:Tr) (f:Nat) (acc:List Tr),l.length=2 * n → n < f → okJL (a :: t :: l) → keysFit 1 (a :: t :: l)=true →
  (∀ x ∈ a :: t :: l,∀ m,Stops m → v (jsT Q p (k + 1) x ++ m)=.good x m) →
  nodesJ U v true 125 f acc (jsT Q p (k + 1) a ++ (58 :: (gapL p ++ (jsT Q p (k + 1) t ++ (jsM Q p (k + 1) false l ++ (lineL p k ++ 125 :: m))))))=.good (acc ++ a :: t :: l) m
 | _,_,_,_,0,_,_,h,_,_,_=>by omega
 | n,l,a,t,f + 1,acc,hl,hf,hok,hk,hv=>by
  rw [okJL,okJL] at hok
  obtain ⟨ha,ht,hol⟩:=hok
  rw [keysFit,Bool.and_eq_true] at hk

  have hkey:∃ s,a=strT 5 s ∧ Lib.validD s=true ∧ jsT Q p (k + 1) a=Q s:=by
   obtain ⟨o,la⟩:=a
   have h5:o.kind=5:=by
    have h:=hk.1
    unfold keyO at h
    by_cases e:o.kind=5
    ·exact e
    ·rw [if_neg (by exact e),if_pos rfl] at h
     cases h
   rw [okJ] at ha
   rcases ha.1 with ⟨h,_⟩ | ⟨h,_⟩ | ⟨h,hd,_⟩ | ⟨h,hval,hl⟩ | ⟨h⟩ | ⟨h,_,_⟩
   all_goals (have hkk:=congrArg Own.kind h; simp only [] at hkk)
   ·omega
   ·omega
   ·omega
   ·refine ⟨o.s.data.toList,?_,hval,?_⟩
    ·rw [hl]
     unfold strT
     rw [str_back,← h]
    ·rw [jsT,hkk]
     rfl
   ·omega
   ·omega
  obtain ⟨s,rfl,hval,hjs⟩:=hkey
  have hb:=jsT_beg hq0 p (k + 1) t ht
  rw [hjs,nodesJ,if_pos rfl]
  have hm:memberJ U (Q s ++ (58 :: (gapL p ++ (jsT Q p (k + 1) t ++ (jsM Q p (k + 1) false l ++ (lineL p k ++ 125 :: m))))))=.good (strT 5 s) (jsT Q p (k + 1) t ++ (jsM Q p (k + 1) false l ++ (lineL p k ++ 125 :: m))):=by
   unfold memberJ
   have h1:textJ U (Q s ++ (58 :: (gapL p ++ (jsT Q p (k + 1) t ++ (jsM Q p (k + 1) false l ++ (lineL p k ++ 125 :: m))))))=.good (strT 5 s) (58 :: (gapL p ++ (jsT Q p (k + 1) t ++ (jsM Q p (k + 1) false l ++ (lineL p k ++ 125 :: m))))):=by
    unfold textJ
    rw [hU _ _ hval]
   rw [bindP_of h1]
   unfold colonJ
   rw [sp_cons (by decide)]
   simp only [if_true]
   rw [sp_gap,begJ_sp hb]
  rw [bindP_of hm]
  cases n with
  | zero =>
   have hl0:l=[]:=len_nil (by omega)
   subst hl0
   have hst:Stops (lineL p k ++ 125 :: m):=by
    unfold lineL
    cases p
    ·exact stops_cons (by decide) m
    ·exact stops_cons (by decide) _
   have h1:=hv t (by simp) _ hst
   rw [jsM,List.nil_append,bindP_of h1]
   unfold nextJ
   rw [sp_line,sp_cons (by decide)]
   simp
  | succ n =>
   match l,hl with
   | a' :: t' :: l',hl' =>
    have hst:Stops (jsM Q p (k + 1) false (a' :: t' :: l') ++ (lineL p k ++ 125 :: m)):=by
     rw [jsM]
     exact stops_cons (by decide) _
    have h1:=hv t (by simp) _ hst
    rw [okJL] at hol
    have hb':=jsT_beg hq0 p (k + 1) a' hol.1
    have ih:=members_back hq0 hU p k v m n l' a' t' f (acc ++ [strT 5 s,t]) (by simp at hl'; omega) (by omega) (by rw [okJL]; exact hol) hk.2 (fun x hx=>hv x (List.mem_cons_of_mem _ (List.mem_cons_of_mem _ hx)))
    rw [bindP_of h1,jsM]
    unfold nextJ
    simp only [Bool.false_eq_true,if_false,List.cons_append,List.nil_append]
    rw [sp_cons (by decide)]
    simp only []
    rw [if_neg (by decide),if_pos trivial,List.append_assoc,sp_line]
    simp only [List.append_assoc,List.cons_append]
    rw [begJ_sp hb',ih]
    simp
   | [x],hl'=>simp at hl'; omega
   | [],hl'=>simp at hl'
mutual
theorem js_back (hq0:∀ l,∃ r,Q l=34 :: r) (hU:∀ l m,Lib.validD l=true → U (Q l ++ m)=some (l,m)) (p:Bool) (F:Nat):∀ (t:Tr) (d k:Nat) (m:List UInt8),okJ t → t.depth ≤ d → t.count ≤ F → Stops m → valueJ U F d (jsT Q p k t ++ m)=.good t m
 | .nd o l,0,_,_,_,hd,_,_=>by
  rw [Tr.depth] at hd
  omega
 | .nd o l,d + 1,k,m,hok,hd,hc,hm=>by
  have hcn:=Tr.count_eq (.nd o l)
  have hcn:(Tr.nd o l).count=1 + countL l:=hcn
  have hln:=countL_len l
  rw [okJ] at hok
  rw [Tr.depth] at hd
  have hL:=js_backL hq0 hU p F l d (k + 1) hok.2 (by omega) (by omega)
  show bodyJ U (some (valueJ U F d)) F _=_
  rcases hok.1 with ⟨h,hl⟩ | ⟨h,hl⟩ | ⟨h,hdk,hl⟩ | ⟨h,hv,hl⟩ | ⟨h⟩ | ⟨h,he,hk⟩
  all_goals (have hkk:=congrArg Own.kind h; simp only [] at hkk; rw [jsT,hkk])
  ·subst hl
   show PR.good nilT m=_
   rw [h]
   rfl
  ·subst hl
   cases hb:o.b
   ·show PR.good (boolT false) m=_
    rw [h,hb]
    rfl
   ·show PR.good (boolT true) m=_
    rw [h,hb]
    rfl
  ·subst hl
   have hp:=parse_fmt hdk m hm
   obtain ⟨c,r,e,hcc⟩:=fmt_beg hdk
   show bodyJ U _ F (fmtD o.neg o.dg.data.toList o.ex ++ m)=_
   have hnum:numJ (fmtD o.neg o.dg.data.toList o.ex ++ m)=.good (.nd o []) m:=by
    unfold numJ
    rw [hp]
    show PR.good (decT o.neg o.dg o.ex) m=_
    unfold decT
    rw [← h]
   rw [e] at hnum ⊢
   rw [List.cons_append] at hnum ⊢
   have hne:c ≠ 91 ∧ c ≠ 123 ∧ c ≠ 34 ∧ c ≠ 110 ∧ c ≠ 116 ∧ c ≠ 102:=by
    rcases hcc with rfl | hcc
    ·decide
    ·exact (dig_beg hcc).2.2.2
   obtain ⟨n1,n2,n3,n4,n5,n6⟩:=hne
   unfold bodyJ
   simp only []
   rw [if_neg n1,if_neg n2,if_neg n3,if_neg n4,if_neg n5,if_neg n6,hnum]
  ·subst hl
   obtain ⟨r,e⟩:=hq0 o.s.data.toList
   have hu:=hU _ m hv
   show bodyJ U _ F (Q o.s.data.toList ++ m)=_
   rw [e] at hu ⊢
   show textJ U (34 :: (r ++ m))=_
   unfold textJ
   rw [List.cons_append] at hu
   rw [hu]
   show PR.good (strT 5 o.s.data.toList) m=_
   unfold strT
   rw [str_back,← h]
  ·have hfin:PR.good (listT 7 l) m=PR.good (.nd o l) m:=by
    unfold listT
    rw [← h]
   have hlist:listJ U (valueJ U F d) false 93 F ((if l.length=0 then [] else jsA Q p (k + 1) true l ++ lineL p k) ++ [93] ++ m)=.good l m:=by
    cases l with
    | nil=>rfl
    | cons t l =>
     have hr:=rows_back (U:=U) hq0 p k (valueJ U F d) m l t F [] (by rw [countL] at hcn; rw [List.length_cons] at hln; rw [countL] at hln; omega) hok.2 (fun x hx m hm=>hL x hx m hm)
     have hb:=jsT_beg hq0 p (k + 1) t (okJL_mem hok.2 t (by simp))
     rw [if_neg (by simp),jsA]
     unfold listJ
     simp only [if_true,List.nil_append,List.append_assoc,List.cons_append]
     rw [sp_line,begJ_sp hb]
     obtain ⟨c,r,e,_,h93,_⟩:=hb
     rw [List.nil_append] at hr
     rw [e] at hr ⊢
     simp only [List.cons_append] at hr ⊢
     rw [if_neg h93,hr]
   show bindP (listJ U (valueJ U F d) false 93 F) (fun L=>pureP (listT 7 L)) ((if l.length=0 then [] else jsA Q p (k + 1) true l ++ lineL p k) ++ [93] ++ m)=_
   rw [bindP_of hlist]
   exact hfin
  ·have hfin:PR.good (listT 8 l) m=PR.good (.nd o l) m:=by
    unfold listT
    rw [← h]
   have hlist:listJ U (valueJ U F d) true 125 F ((if l.length=0 then [] else jsM Q p (k + 1) true l ++ lineL p k) ++ [125] ++ m)=.good l m:=by
    match l,he,hk,hok,hL,hcn,hln with
    | [],_,_,_,_,_,_=>rfl
    | [x],he,_,_,_,_,_=>simp at he
    | a :: t :: l,he,hk,hok,hL,hcn,hln =>
     have hr:=members_back (U:=U) hq0 hU p k (valueJ U F d) m (l.length / 2) l a t F [] (by simp at he; omega) (by simp only [List.length_cons] at hln; omega) hok.2 hk (fun x hx m hm=>hL x hx m hm)
     have hb:=jsT_beg hq0 p (k + 1) a (okJL_mem hok.2 a (by simp))
     rw [if_neg (by simp),jsM]
     unfold listJ
     simp only [if_true,List.nil_append,List.append_assoc,List.cons_append]
     rw [sp_line,begJ_sp hb]
     obtain ⟨c,r,e,_,_,h125⟩:=hb
     rw [List.nil_append] at hr
     rw [e] at hr ⊢
     simp only [List.cons_append] at hr ⊢
     rw [if_neg h125,hr]
   show bindP (listJ U (valueJ U F d) true 125 F) (fun L=>pureP (listT 8 L)) ((if l.length=0 then [] else jsM Q p (k + 1) true l ++ lineL p k) ++ [125] ++ m)=_
   rw [bindP_of hlist]
   exact hfin
theorem js_backL (hq0:∀ l,∃ r,Q l=34 :: r) (hU:∀ l m,Lib.validD l=true → U (Q l ++ m)=some (l,m)) (p:Bool) (F:Nat):∀ (l:List Tr) (d k:Nat),okJL l → depthL l ≤ d → countL l ≤ F → ∀ t ∈ l,∀ m,Stops m → valueJ U F d (jsT Q p k t ++ m)=.good t m
 | [],_,_,_,_,_,t,h=>by cases h
 | s :: l,d,k,hok,hd,hc,t,ht=>by
  rw [okJL] at hok
  rw [depthL] at hd
  rw [countL] at hc
  intro m hm
  rcases List.mem_cons.1 ht with e | ht
  ·rw [e]
   exact js_back hq0 hU p F s d k m hok.1 (by omega) (by omega) hm
  ·exact js_backL hq0 hU p F l d k hok.2 (by omega) (by omega) t ht m hm
end
end
end Go.Proofs.YtfckekaegjjmkaaGreatDoor
