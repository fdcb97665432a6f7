/- The texts DecP, JsA, DrA, DrB, RangeI, put together. -/
import Derived.Test.YtfckekaegjjmkaaGreatDoorPh09
import Derived.Test.YtfckekaegjjmkaaGreatDoorPh01
import Derived.Test.YtfckekaegjjmkaaGreatDoorPh07
namespace Go.Proofs.YtfckekaegjjmkaaGreatDoor
open Go.RowKit Go.Shelf

def trimL (l:List UInt8):List UInt8:=l.dropWhile (· == 48)
def trimR (l:List UInt8):List UInt8:=(trimL l.reverse).reverse
theorem trimL_cons (c:UInt8) (l:List UInt8):trimL (c :: l)=if c=48 then trimL l else c :: l:=by
 unfold trimL
 rw [List.dropWhile_cons]
 by_cases h:c=48
 ·rw [if_pos h,if_pos (by simpa using h)]
 ·rw [if_neg h,if_neg (by simpa using h)]
theorem trimL_parts:∀ l:List UInt8,∃ k,l=List.replicate k 48 ++ trimL l ∧ (trimL l).head? ≠ some 48
 | []=>⟨0,rfl,by simp [trimL]⟩
 | c :: l=>by
  obtain ⟨k,h1,h2⟩:=trimL_parts l
  rw [trimL_cons]
  by_cases h:c=48
  ·rw [if_pos h]
   refine ⟨k + 1,?_,h2⟩
   rw [List.replicate_succ,List.cons_append,← h1,h]
  ·rw [if_neg h]
   exact ⟨0,rfl,by simpa using h⟩
theorem trimR_parts (l:List UInt8):∃ k,l=trimR l ++ List.replicate k 48 ∧ (trimR l).getLast? ≠ some 48:=by
 obtain ⟨k,h1,h2⟩:=trimL_parts l.reverse
 refine ⟨k,?_,?_⟩
 ·have:=congrArg List.reverse h1
  rw [List.reverse_reverse,List.reverse_append,List.reverse_replicate] at this
  exact this
 ·unfold trimR
  rw [List.getLast?_reverse]
  exact h2
theorem trimL_self {l:List UInt8} (h:l.head? ≠ some 48):trimL l=l:=by
 cases l with
 | nil=>rfl
 | cons c l=>rw [trimL_cons,if_neg (by simpa using h)]
theorem trimR_self {l:List UInt8} (h:l.getLast? ≠ some 48):trimR l=l:=by
 unfold trimR
 rw [trimL_self (by rw [List.head?_reverse]; exact h),List.reverse_reverse]
def makeD (neg:Bool) (dg:List UInt8) (ex:Int):Option (Bool × ByteArray × Int):=
 if dg=[] ∨ 400 < dg.length ∨ ¬ (-1000 ≤ ex ∧ ex ≤ 1000) ∨ ¬ (dg.all isDig=true) then none
 else if trimL dg=[] then some (false,⟨#[48]⟩,0)
 else if decOk neg ⟨(trimR (trimL dg)).toArray⟩ (ex + ((trimL dg).length:Int) - ((trimR (trimL dg)).length:Int))=true then
  some (neg,⟨(trimR (trimL dg)).toArray⟩,ex + ((trimL dg).length:Int) - ((trimR (trimL dg)).length:Int))
 else none
theorem decOk_nil0:decOk false ⟨#[48]⟩ 0=true:=by decide +kernel
theorem makeD_ok {neg:Bool} {dg:List UInt8} {ex:Int} {n:Bool} {d:ByteArray} {e:Int} (h:makeD neg dg ex=some (n,d,e)):decOk n d e=true:=by
 unfold makeD at h
 split at h
 ·cases h
 ·split at h
  ·injection h with h
   injection h with h1 h2
   injection h2 with h2 h3
   subst h1 h2 h3
   exact decOk_nil0
  ·split at h
   ·rename_i hd
    injection h with h
    injection h with h1 h2
    injection h2 with h2 h3
    subst h1 h2 h3
    exact hd
   ·cases h
end Go.Proofs.YtfckekaegjjmkaaGreatDoor
namespace Go.Proofs.YtfckekaegjjmkaaGreatDoor
open Go.RowKit Go.Shelf

def itoaL (n:Int):List UInt8:=(if n < 0 then [45] else []) ++ Lib.decDigits n.natAbs
def fmtD (neg:Bool) (dg:List UInt8) (ex:Int):List UInt8:=
 (if neg=true then [45] else []) ++
  (if ex < -20 ∨ 20 < ex then dg ++ 101 :: itoaL ex
  else if 0 ≤ ex then dg ++ List.replicate ex.toNat 48
  else if 0 < (dg.length:Int) + ex then dg.take ((dg.length:Int) + ex).toNat ++ 46 :: dg.drop ((dg.length:Int) + ex).toNat
  else 48 :: 46 :: (List.replicate (-((dg.length:Int) + ex)).toNat 48 ++ dg))
def digits (l:List UInt8):List UInt8 × List UInt8:=(l.take (digN l),l.drop (digN l))
def minusP (l:List UInt8):Bool × List UInt8:=match l with
 | 45 :: r=>(true,r)
 | _=>(false,l)
def wholeP (l:List UInt8):List UInt8 × List UInt8:=match l with
 | 48 :: r=>([48],r)
 | _=>digits l
def partP (l:List UInt8):List UInt8 × List UInt8:=match l with
 | 46 :: r=>if (digits r).1=[] then ([],l) else digits r
 | _=>([],l)
def signP (l:List UInt8):Int × List UInt8:=match l with
 | 45 :: r=>(-1,r)
 | 43 :: r=>(1,r)
 | _=>(1,l)
def powerP (l:List UInt8):Option (Int × List UInt8):=match l with
 | c :: r=>if c=101 ∨ c=69 then (if (digits (signP r).2).1=[] then some (0,l) else if (digits (signP r).2).1.length ≤ 4 then some ((signP r).1 * (dval 0 (digits (signP r).2).1:Nat),(digits (signP r).2).2) else none) else some (0,l)
 | []=>some (0,l)
def parseD (l:List UInt8):Option ((Bool × ByteArray × Int) × List UInt8):=
 if (wholeP (minusP l).2).1=[] then none
 else match powerP (partP (wholeP (minusP l).2).2).2 with
  | none=>none
  | some (e,r)=>match makeD (minusP l).1 ((wholeP (minusP l).2).1 ++ (partP (wholeP (minusP l).2).2).1) (e - ((partP (wholeP (minusP l).2).2).1.length:Int)) with
   | none=>none
   | some d=>some (d,r)

theorem parse_of {l l1 w l2 p l3 m:List UInt8} {neg:Bool} {e:Int} {d:Bool × ByteArray × Int} (h1:minusP l=(neg,l1)) (h2:wholeP l1=(w,l2)) (h3:partP l2=(p,l3)) (h4:powerP l3=some (e,m)) (h0:w ≠ []) (h5:makeD neg (w ++ p) (e - (p.length:Int))=some d):parseD l=some (d,m):=by
 unfold parseD
 rw [h1,h2,h3,h4,if_neg h0]
 simp only []
 rw [h5]
def Stops (m:List UInt8):Prop:=∀ c r,m=c :: r → isDig c=false ∧ c ≠ 46 ∧ c ≠ 101 ∧ c ≠ 69
theorem Stops.digN {m:List UInt8} (h:Stops m):digN m=0:=by
 cases m with
 | nil=>rfl
 | cons c r=>exact digN_cons_no (h c r rfl).1
theorem digits_all (l t:List UInt8) (h:∀ c ∈ l,isDig c=true) (ht:digN t=0):digits (l ++ t)=(l,t):=by
 unfold digits
 rw [digN_all l t h ht,List.take_left' rfl,List.drop_left' rfl]
theorem part_none {m:List UInt8} (h:∀ r,m ≠ 46 :: r):partP m=([],m):=by
 unfold partP
 split
 ·rename_i r
  exact absurd rfl (h r)
 ·rfl
theorem power_none {m:List UInt8} (h:∀ c r,m=c :: r → c ≠ 101 ∧ c ≠ 69):powerP m=some (0,m):=by
 unfold powerP
 split
 ·rename_i c r
  obtain ⟨h1,h2⟩:=h c r rfl
  rw [if_neg (fun e=>e.elim h1 h2)]
 ·rfl
theorem whole_dig {l t:List UInt8} (h0:l ≠ []) (hd:∀ c ∈ l,isDig c=true) (hh:l.head? ≠ some 48) (ht:digN t=0):wholeP (l ++ t)=(l,t):=by
 have h1:=digits_all l t hd ht
 cases l with
 | nil=>exact absurd rfl h0
 | cons c r =>
  rw [← h1]
  have hc:c ≠ 48:=fun e=>hh (by rw [e]; rfl)
  show wholeP (c :: (r ++ t))=digits (c :: (r ++ t))
  unfold wholeP
  split
  ·rename_i x e
   injection e with e1 e2
   exact absurd e1 hc
  ·rfl
theorem minus_of (neg:Bool) (l:List UInt8) (h:∀ r,l ≠ 45 :: r):minusP ((if neg=true then [45] else []) ++ l)=(neg,l):=by
 cases neg
 ·show minusP l=(false,l)
  unfold minusP
  split
  ·rename_i r
   exact absurd rfl (h r)
  ·rfl
 ·rfl
theorem dig_ne {c:UInt8} (h:isDig c=true):c ≠ 45 ∧ c ≠ 46 ∧ c ≠ 101 ∧ c ≠ 69:=by
 refine ⟨?_,?_,?_,?_⟩ <;> (rintro rfl; revert h; decide)
theorem dig_head {l:List UInt8} (h0:l ≠ []) (hd:∀ c ∈ l,isDig c=true) (t:List UInt8):∀ r,l ++ t ≠ 45 :: r:=fun r e=>by
 cases l with
 | nil=>exact h0 rfl
 | cons c q =>
  injection e with e1 _
  exact (dig_ne (hd c (by simp))).1 e1
theorem make_self {neg:Bool} {dg:ByteArray} {ex:Int} (h:decOk neg dg ex=true) (a b:Nat) (h0:dg.data.toList ≠ [48]) (ha:a + dg.size + b ≤ 400) (hx : -1000 ≤ ex - b ∧ ex - b ≤ 1000) :
  makeD neg (List.replicate a 48 ++ dg.data.toList ++ List.replicate b 48) (ex - b)=some (neg,dg,ex):=by
 rcases dec_parts h with ⟨e,_⟩ | ⟨h1,h2,h3,h4⟩
 ·exact absurd e h0
 ·have hl:dg.data.toList.length=dg.size:=by simp
  have hL:∀ k (m:List UInt8),trimL (List.replicate k 48 ++ m)=trimL m:=fun k m=>by
   induction k with
   | zero=>rfl
   | succ k ih =>
    rw [List.replicate_succ,List.cons_append,trimL_cons,if_pos rfl,ih]
  have hh:(dg.data.toList ++ List.replicate b 48).head? ≠ some 48:=by rw [head_append h1]; exact h3
  have e1:trimL (List.replicate a 48 ++ dg.data.toList ++ List.replicate b 48)=dg.data.toList ++ List.replicate b 48:=by
   rw [List.append_assoc,hL,trimL_self hh]
  have e2:trimR (dg.data.toList ++ List.replicate b 48)=dg.data.toList:=by
   have:=trimR_self (l:=dg.data.toList) h4
   unfold trimR at this ⊢
   rw [List.reverse_append,List.reverse_replicate,hL,this]
  have e3:ex - (b:Int) + ((dg.data.toList ++ List.replicate b 48).length:Int) - (dg.data.toList.length:Int)=ex:=by
   rw [List.length_append,List.length_replicate]
   omega
  have hne:dg.data.toList ++ List.replicate b 48 ≠ []:=fun e=>h1 (List.append_eq_nil_iff.1 e).1
  unfold makeD
  rw [e1,e2,e3,if_neg hne]
  rw [if_neg]
  ·rw [if_pos (show decOk neg ⟨dg.data.toList.toArray⟩ ex=true from h)]
  ·rintro (e | e | e | e)
   ·apply h1
    exact (List.append_eq_nil_iff.1 (List.append_eq_nil_iff.1 e).1).2
   ·rw [List.length_append,List.length_append,List.length_replicate,List.length_replicate] at e
    omega
   ·omega
   ·apply e
    rw [List.all_eq_true]
    intro c hc
    rcases List.mem_append.1 hc with hc | hc
    ·rcases List.mem_append.1 hc with hc | hc
     ·rw [List.eq_of_mem_replicate hc]
      rfl
     ·exact h2 c hc
    ·rw [List.eq_of_mem_replicate hc]
     rfl
theorem itoa_power (ex:Int) (hx : -100 ≤ ex ∧ ex ≤ 100) (h0:ex ≠ 0) (m:List UInt8) (hm:digN m=0):powerP (101 :: (itoaL ex ++ m))=some (ex,m):=by
 obtain ⟨f1,f2,f3⟩:=dec_facts ex.natAbs
 have hlen:(Lib.decDigits ex.natAbs).length ≤ 4:=by
  have h1:=dval_head f3 f2 (dec_head0 ex.natAbs ex.natAbs (Nat.le_refl _) (by omega))
  rw [f1] at h1
  apply Decidable.byContradiction
  intro hc
  have h2:10 ^ 4 ≤ 10 ^ ((Lib.decDigits ex.natAbs).length - 1):=Nat.pow_le_pow_right (by decide) (by omega)
  have h3:(10:Nat) ^ 4=10000:=by decide
  omega
 have hs:signP (itoaL ex ++ m)=(if ex < 0 then -1 else 1,Lib.decDigits ex.natAbs ++ m):=by
  unfold itoaL
  by_cases hn:ex < 0
  ·rw [if_pos hn,if_pos hn]
   rfl
  ·rw [if_neg hn,if_neg hn,List.nil_append]
   cases hq:Lib.decDigits ex.natAbs with
   | nil=>exact absurd hq f3
   | cons c r =>
    have hc:=f2 c (by rw [hq]; simp)
    show signP (c :: (r ++ m))=(1,c :: (r ++ m))
    unfold signP
    split
    ·rename_i x e
     injection e with e1 _
     exact absurd e1 (dig_ne hc).1
    ·rename_i x e
     injection e with e1 _
     rw [e1] at hc
     exact absurd hc (by decide)
    ·rfl
 unfold powerP
 simp only []
 rw [if_pos (by simp),hs]
 simp only []
 rw [digits_all _ m f2 hm,if_neg f3,if_pos hlen,f1]
 simp only []
 congr 2
 split <;> omega
theorem parse_fmt {neg:Bool} {dg:ByteArray} {ex:Int} (h:decOk neg dg ex=true) (m:List UInt8) (hm:Stops m):parseD (fmtD neg dg.data.toList ex ++ m)=some ((neg,dg,ex),m):=by
 have hl:dg.data.toList.length=dg.size:=by simp
 have hmp:partP m=([],m):=part_none (fun r e=>(hm _ _ e).2.1 rfl)
 have hmw:powerP m=some (0,m):=power_none (fun c r e=>⟨(hm c r e).2.2.1,(hm c r e).2.2.2⟩)
 rcases dec_parts h with ⟨e,rfl,rfl⟩ | ⟨h1,h2,h3,h4⟩
 ·have hdg:dg=⟨#[48]⟩:=by
   apply ByteArray.ext
   apply Array.toList_inj.1
   exact e
  subst hdg
  show parseD (48 :: m)=_
  exact parse_of (neg:=false) (l1:=48 :: m) (w:=[48]) (l2:=m) (p:=[]) (l3:=m) (e:=0) rfl rfl hmp hmw (by simp) rfl
 ·have h0:dg.data.toList ≠ [48]:=fun e=>h3 (by rw [e]; rfl)
  have hbd:dg.size ≤ 100 ∧ -100 ≤ ex ∧ ex ≤ 100:=by
   unfold decOk at h
   rw [Bool.and_eq_true,Bool.and_eq_true,decide_eq_true_iff,ByteArray.toList_eq,if_neg h0,Bool.and_eq_true,Bool.and_eq_true,decide_eq_true_iff,decide_eq_true_iff] at h
   exact ⟨h.2.1,h.2.2.1,h.2.2.2.1⟩
  obtain ⟨hb1,hb2,hb3⟩:=hbd
  unfold fmtD
  rw [List.append_assoc]
  by_cases c1:ex < -20 ∨ 20 < ex
  ·rw [if_pos c1,List.append_assoc]
   have hm1:=make_self h 0 0 h0 (by omega) (by omega)
   refine parse_of (w:=dg.data.toList) (l2:=101 :: (itoaL ex ++ m)) (p:=[]) (l3:=101 :: (itoaL ex ++ m)) (e:=ex) (minus_of neg _ (dig_head h1 h2 _)) (whole_dig h1 h2 h3 (by exact digN_cons_no (by decide))) (part_none (fun r e=>by injection e with e _; exact absurd e (by decide))) (itoa_power ex ⟨hb2,hb3⟩ (by omega) m hm.digN) h1 ?_
   simpa using hm1
  ·rw [if_neg c1]
   by_cases c2:0 ≤ ex
   ·rw [if_pos c2,List.append_assoc]
    obtain ⟨b,rfl⟩:∃ b:Nat,ex=b:=⟨ex.toNat,by omega⟩
    have hm1:=make_self h 0 b h0 (by omega) (by omega)
    rw [Int.toNat_natCast]
    have hz:∀ c ∈ dg.data.toList ++ List.replicate b 48,isDig c=true:=fun c hc=>by
     rcases List.mem_append.1 hc with hc | hc
     ·exact h2 c hc
     ·rw [List.eq_of_mem_replicate hc]
      rfl
    rw [← List.append_assoc dg.data.toList]
    refine parse_of (w:=dg.data.toList ++ List.replicate b 48) (l2:=m) (p:=[]) (l3:=m) (e:=0) (minus_of neg (dg.data.toList ++ List.replicate b 48 ++ m) (by rw [List.append_assoc]; exact dig_head h1 h2 _)) (whole_dig (fun e=>h1 (List.append_eq_nil_iff.1 e).1) hz (by rw [head_append h1]; exact h3) hm.digN) hmp hmw (fun e=>h1 (List.append_eq_nil_iff.1 e).1) ?_
    simpa using hm1
   ·rw [if_neg c2]
    by_cases c3:0 < (dg.data.toList.length:Int) + ex
    ·rw [if_pos c3]
     obtain ⟨k,hk⟩:∃ k:Nat,(dg.data.toList.length:Int) + ex=k:=⟨((dg.data.toList.length:Int) + ex).toNat,by omega⟩
     rw [hk,Int.toNat_natCast,List.append_assoc,List.cons_append]
     have hkl:k < dg.data.toList.length:=by omega
     have ht:∀ c ∈ dg.data.toList.take k,isDig c=true:=fun c hc=>h2 c (List.mem_of_mem_take hc)
     have hd:∀ c ∈ dg.data.toList.drop k,isDig c=true:=fun c hc=>h2 c (List.mem_of_mem_drop hc)
     have htn:dg.data.toList.take k ≠ []:=fun e=>by
      have:=congrArg List.length e
      rw [List.length_take,List.length_nil] at this
      omega
     have hdn:dg.data.toList.drop k ≠ []:=fun e=>by
      have:=congrArg List.length e
      rw [List.length_drop,List.length_nil] at this
      omega
     have hth:(dg.data.toList.take k).head? ≠ some 48:=by
      rw [← head_append (t:=dg.data.toList.drop k) htn,List.take_append_drop]
      exact h3
     have hm1:=make_self h 0 0 h0 (by omega) (by omega)
     refine parse_of (w:=dg.data.toList.take k) (l2:=46 :: (dg.data.toList.drop k ++ m)) (p:=dg.data.toList.drop k) (l3:=m) (e:=0) (minus_of neg _ (dig_head htn ht _)) (whole_dig htn ht hth (by exact digN_cons_no (by decide))) ?_ hmw htn ?_
     ·show (if (digits (dg.data.toList.drop k ++ m)).1=[] then _ else digits (dg.data.toList.drop k ++ m))=_
      rw [digits_all _ m hd hm.digN,if_neg hdn]
     ·rw [List.take_append_drop,List.length_drop]
      have e3:(0:Int) - ((dg.data.toList.length - k:Nat):Int)=ex:=by omega
      rw [e3]
      simpa using hm1
    ·rw [if_neg c3]
     obtain ⟨k,hk⟩:∃ k:Nat,-((dg.data.toList.length:Int) + ex)=k:=⟨(-((dg.data.toList.length:Int) + ex)).toNat,by omega⟩
     rw [hk,Int.toNat_natCast]
     have hz:∀ c ∈ List.replicate k 48 ++ dg.data.toList,isDig c=true:=fun c hc=>by
      rcases List.mem_append.1 hc with hc | hc
      ·rw [List.eq_of_mem_replicate hc]
       rfl
      ·exact h2 c hc
     have hzn:List.replicate k 48 ++ dg.data.toList ≠ []:=fun e=>h1 (List.append_eq_nil_iff.1 e).2
     have hm1:=make_self h (k + 1) 0 h0 (by omega) (by omega)
     refine parse_of (w:=[48]) (l2:=46 :: ((List.replicate k 48 ++ dg.data.toList) ++ m)) (p:=List.replicate k 48 ++ dg.data.toList) (l3:=m) (e:=0) (minus_of neg _ (fun r e=>by injection e with e _; exact absurd e (by decide))) rfl ?_ hmw (by simp) ?_
     ·show (if (digits ((List.replicate k 48 ++ dg.data.toList) ++ m)).1=[] then _ else digits ((List.replicate k 48 ++ dg.data.toList) ++ m))=_
      rw [digits_all _ m hz hm.digN,if_neg hzn]
     ·have e3:(0:Int) - ((List.replicate k 48 ++ dg.data.toList).length:Int)=ex:=by
       rw [List.length_append,List.length_replicate]
       omega
      rw [e3]
      simpa [List.replicate_succ] using hm1
end Go.Proofs.YtfckekaegjjmkaaGreatDoor
namespace Go.Proofs.YtfckekaegjjmkaaGreatDoor
open Go.RowKit Go.Shelf

set_option maxHeartbeats 4000000 in
set_option maxRecDepth 100000 in
theorem rd_next_no (p q:Nat) (s:ByteArray) (cs:List UInt8) (cap:Nat) (w:World) (hR:Blk w p #[.string s] 154) (hQ:∀ k (h:k < cs.length),w.cell? ⟨q,k,none⟩=some (.int .u8 (cs[k].toNat:Int))) (hz:s.size ≤ 1000000000) (hc:cs.length ≤ 10)
  (h:∀ x r,s.data.toList=x :: r → x ∉ cs) :
  Calls Tryz.prog 119 #[.pointer (some ⟨p,0,none⟩),.slice (some ⟨q,0,none⟩) cs.length cap] w fun e w'=>e=.returned (.bool false) ∧ w'=w:=by
 have c0:=hR.cell 0
 obtain ⟨n,hn⟩:∃ n,cs.length=n:=⟨_,rfl⟩
 rw [hn] at hc ⊢
 have HN:=Lib.hid hn
 have HQ:=Lib.hid hQ
 have HH:=Lib.hid h
 clear hn hQ h hR
 go_enter Tryz.func119,Tryz.ntmps119
 go_wp2_with fail
 go_loopw [9] (fun i wr=>∃ k:Nat,k ≤ n ∧ i=.int .i64 k ∧ wr=w) (fun i _=>n - (intOf i).toNat)
 case atStart=>exact ⟨0,by omega,rfl,rfl⟩
 case round =>
  obtain ⟨k,hk,rfl,rfl⟩:=hrel
  by_cases hlt:k < n
  ·have hkl:k < cs.length:=by rw [HN.out]; exact hlt
   have hq:=HQ.out k hkl
   obtain ⟨cb,hcb⟩:∃ cb,cs[k]=cb:=⟨_,rfl⟩
   have hcm:cb ∈ cs:=by rw [← hcb]; exact List.getElem_mem hkl
   rw [hcb] at hq
   have y1:(k:Int) < n:=by omega
   clear hcb hkl
   by_cases h0:s.size=0
   ·have hse:s=⟨#[]⟩:=by
     apply ByteArray.ext
     exact Array.eq_empty_of_size_eq_zero h0
    subst hse
    clear HN HQ HH h0 hcm
    go_wp2_with fail
    go_roundw
    case rel=>exact ⟨k + 1,by omega,congrArg (Value.int .i64) (Int.natCast_succ k).symm,trivial⟩
    case measure=>simp [intOf]; omega
   ·have hne:=str_nonempty h0
    have z0:(0:Int) < s.size:=by omega
    have z1:0 < s.size:=by omega
    have hx:¬ s[0]=cb:=fun e=>by
     refine HH.out s[0] (s.data.toList.drop 1) ?_ (by rw [e]; exact hcm)
     have:=drop_at s 0 z1
     rw [List.drop_zero] at this
     exact this
    have y2:((s[0].toNat:Int) == (cb.toNat:Int))=false:=by
     rw [beq_eq_false_iff_ne]
     intro e
     exact hx (UInt8.toNat_inj.1 (by omega))
    obtain ⟨ck,hck⟩:∃ ck:Int,(cb.toNat:Int)=ck:=⟨_,rfl⟩
    rw [hck] at hq y2
    clear HN HQ HH h0 hx hck hcm
    go_wp2_with fail
    go_roundw
    case rel=>exact ⟨k + 1,by omega,congrArg (Value.int .i64) (Int.natCast_succ k).symm,trivial⟩
    case measure=>simp [intOf]; omega
  ·have y1:¬ (k:Int) < n:=by omega
   go_wp2_with fail
   go_ret
   exact ⟨rfl,rfl⟩

set_option maxHeartbeats 4000000 in
set_option maxRecDepth 100000 in
theorem rd_next_yes (p q:Nat) (s:ByteArray) (cs:List UInt8) (cap:Nat) (w:World) (hR:Blk w p #[.string s] 154) (hQ:∀ k (h:k < cs.length),w.cell? ⟨q,k,none⟩=some (.int .u8 (cs[k].toNat:Int))) (hz:s.size ≤ 1000000000) (hc:cs.length ≤ 10)
  (x:UInt8) (r:List UInt8) (h:s.data.toList=x :: r) (hx:x ∈ cs) :
  Calls Tryz.prog 119 #[.pointer (some ⟨p,0,none⟩),.slice (some ⟨q,0,none⟩) cs.length cap] w fun e w'=>e=.returned (.bool true) ∧ w'=w.setCell ⟨p,0,none⟩ (.string ⟨r.toArray⟩):=by
 have c0:=hR.cell 0
 have f0:=hR.frozen 0
 obtain ⟨n,hn⟩:∃ n,cs.length=n:=⟨_,rfl⟩
 rw [hn] at hc ⊢
 have hsl:s.data.toList.length=s.size:=by simp
 rw [h,List.length_cons] at hsl
 have z1:0 < s.size:=by omega
 have z0:(0:Int) < s.size:=by omega
 have z2:(1:Int) ≤ s.size:=by omega
 have hne:=str_nonempty (show s.size ≠ 0 by omega)
 have hs0:s[0]=x:=by
  have:=drop_at s 0 z1
  rw [List.drop_zero,h] at this
  exact (List.cons.inj this).1.symm
 have hex:s.extract 1 s.size=⟨r.toArray⟩:=by
  apply ByteArray.ext
  apply Array.toList_inj.1
  have:(s.extract 1 s.size).data.toList=(s.data.toList.drop 1).take (s.size - 1):=by simp [ByteArray.data_extract]
  rw [this,h,List.drop_one,List.tail_cons,List.take_of_length_le (by omega)]
 obtain ⟨sr,hsr⟩:∃ sr,s.extract 1 s.size=sr:=⟨_,rfl⟩
 rw [← hex,hsr]
 have HN:=Lib.hid hn
 have HQ:=Lib.hid hQ
 have HX:=Lib.hid hx
 clear hn hQ h hR hx hsl hex
 go_enter Tryz.func119,Tryz.ntmps119
 go_wp2_with fail
 go_loopw [9] (fun i wr=>∃ k:Nat,k ≤ n ∧ i=.int .i64 k ∧ wr=w ∧ Hid (x ∉ cs.take k)) (fun i _=>n - (intOf i).toNat)
 case atStart=>exact ⟨0,by omega,rfl,rfl,Lib.hid (by simp)⟩
 case round =>
  obtain ⟨k,hk,rfl,rfl,HK⟩:=hrel
  by_cases hlt:k < n
  ·have hkl:k < cs.length:=by rw [HN.out]; exact hlt
   have hq:=HQ.out k hkl
   obtain ⟨cb,hcb⟩:∃ cb,cs[k]=cb:=⟨_,rfl⟩
   rw [hcb] at hq
   have htk:cs.take (k + 1)=cs.take k ++ [cb]:=by rw [List.take_succ_eq_append_getElem hkl,hcb]
   have HTK:=Lib.hid htk
   have y1:(k:Int) < n:=by omega
   clear hcb hkl htk
   by_cases hxe:x=cb
   ·have y2:((s[0].toNat:Int) == (cb.toNat:Int))=true:=by
     rw [beq_iff_eq,hs0,hxe]
    obtain ⟨ck,hck⟩:∃ ck:Int,(cb.toNat:Int)=ck:=⟨_,rfl⟩
    rw [hck] at hq y2
    clear HN HQ HX HTK HK hxe hck hs0
    go_wp2_with fail
    go_ret
    exact ⟨rfl,rfl⟩
   ·have y2:((s[0].toNat:Int) == (cb.toNat:Int))=false:=by
     rw [beq_eq_false_iff_ne,hs0]
     intro e
     exact hxe (UInt8.toNat_inj.1 (by omega))
    have HK2:=Lib.hid (show x ∉ cs.take (k + 1) by
     rw [HTK.out,List.mem_append,List.mem_singleton]
     rintro (h | h)
     ·exact HK.out h
     ·exact hxe h)
    obtain ⟨ck,hck⟩:∃ ck:Int,(cb.toNat:Int)=ck:=⟨_,rfl⟩
    rw [hck] at hq y2
    clear HN HQ HTK HK hxe hck hs0
    go_wp2_with fail
    go_roundw
    case rel=>exact ⟨k + 1,by omega,congrArg (Value.int .i64) (Int.natCast_succ k).symm,trivial,HK2⟩
    case measure=>simp [intOf]; omega
  ·exfalso
   have:k=n:=by omega
   subst this
   refine HK.out ?_
   rw [← HN.out,List.take_length]
   exact HX.out
end Go.Proofs.YtfckekaegjjmkaaGreatDoor
namespace Go.Proofs.YtfckekaegjjmkaaGreatDoor
open Go.RowKit Go.Shelf

set_option maxHeartbeats 2000000 in
set_option maxRecDepth 100000 in
theorem dec_isDigit (x:Int) (w:World) :
  Calls Tryz.prog 155 #[.int .i32 x] w fun e w'=>e=.returned (.bool (decide (48 ≤ x) && decide (x ≤ 57))) ∧ w'=w:=by
 by_cases h:48 ≤ x
 ·rw [decide_eq_true h,Bool.true_and]
  go_enter Tryz.func155,Tryz.ntmps155
  go_wp2_with fail
  go_ret
  exact ⟨rfl,rfl⟩
 ·rw [decide_eq_false h,Bool.false_and]
  go_enter Tryz.func155,Tryz.ntmps155
  go_wp2_with fail
  go_ret
  exact ⟨rfl,rfl⟩
end Go.Proofs.YtfckekaegjjmkaaGreatDoor
namespace Go.Proofs.YtfckekaegjjmkaaGreatDoor
open Go.RowKit Go.Shelf

theorem wp_rangeFuncI {P:Program} {α:Type} {g:Operand} {ps:Array Tmp} {assign body:Code} {Q:Exit → Act → World → Prop} {a:Act} {w:World}
  {gf:Nat} {lb:Array Value} (hg:a.eval g=.func (.func gf) #[] lb) (eg:∀ args w,(callFunc gf args).run P w=.ok (.enter gf args) w)
  {encs:α → Array Value} {Mv Kp:World → World → Prop} {Ct:α → Prop} {T S Sp:List α → World → Prop} {A0:World → Prop} (hseq:SeqW P gf lb encs Mv Kp Ct T S Sp A0)
  (hMv:∀ (A B:World) (k:Nat) (o:Obj),Mv A B → w.heap.size ≤ k → A.heap[k]? = some o → ((∃ r,o=.loop r) ∨ ∃ d,o=.deferred d) → B.heap[k]? = some o)
  (hA0:∀ o o',A0 ((w.alloc o).alloc o'))
  (hKt:∀ {A B C:World},Kp A B → Kp B C → Kp A C) (hKb:∀ (W:World) (l:Nat) (o o':Obj),w.heap.size ≤ l → W.heap[l]? = some o → (∃ r,o=.loop r) → Kp W (W.putObj l o')) (hps:∀ x,(encs x).size=ps.size)
  (I:List α → World → Prop) (Ix:Code → List α → World → Prop) (hI:OwnFrom w.heap.size I) (hIx:∀ c,OwnFrom w.heap.size (Ix c))
  (hIM:∀ s A B,I s A → Mv A B → I s B) (hIxM:∀ c s A B,Ix c s A → Mv A B → Ix c s B) (h0:I [] w) (hCt:∀ pre x W,I (pre ++ [x]) W → Ct x)
  (Ax:Array Value → List α → α → Act → World → Prop) (hAx:∀ pre x a',OwnFrom w.heap.size (fun (_:Unit) W=>Ax a.tmps pre x a' W))
  (hassign:∀ (l:Nat) (pre:List α) (x:α) (W:World) (K:Act → World → Prop),I pre W → T (pre ++ [x]) W → (∀ a' W',KeepsFrom w.heap.size W W' → Kp W W' → I pre W' → Ax a.tmps pre x a' W' → K a' W') →
   assign.wpIn (Fence.wide.inRound l) 7 P (Exit.then K (fun _ _ _=>False)) { tmps:=(ps.zip (encs x)).foldl (fun t (p,v)=>t.setIfInBounds p v) a.tmps,defers:=[] } W)
  (hbody:∀ (l:Nat) (pre:List α) (x:α) (a':Act) (W:World),w.heap.size ≤ l → (∃ r,W.heap[l]? = some (.loop r)) → I pre W → Ax a.tmps pre x a' W → body.wpIn (Fence.wide.inRound l) 7 P (ownPostG w.heap.size Kp I Ix (pre ++ [x]) W) a' W)
  (hS:OwnFrom w.heap.size S) (hSp:OwnFrom w.heap.size Sp)
  (hdone:∀ (D:Nat) (xs:List α) (W:World),w.heap.size ≤ D → S xs W → I xs W → W.heap[D]? = some (.deferred (some [])) → Q .normal { a with defers:={ target:=.collected D,args:=#[] } :: a.defers } W)
  (hstop:∀ (D:Nat) (c:Code) (pre:List α) (W:World),w.heap.size ≤ D → Sp pre W → Ix c pre W → W.heap[D]? = some (.deferred (some [])) → c.wp P Q { a with defers:={ target:=.collected D,args:=#[] } :: a.defers } W) :
  (Code.rangeFunc g ps assign body).wp P Q a w:=by
 refine (wpIn_wide (n:=9)).1 ?_
 refine wpIn_rangeFunc ?_
 intro fn hfn
 rw [show Fence.wide.round=none from rfl]
 obtain ⟨rec,hrec⟩:∃ rec:LoopState → Option Code → Loop,rec=fun st pe=>{ state:=st,pending:=pe,fn,tmps:=a.tmps,params:=ps,assign,body,defers:=w.heap.size }:=⟨_,rfl⟩
 obtain ⟨W1,hW1⟩:∃ W1,(w.alloc (.deferred (some []))).alloc (.loop (rec .ready none))=W1:=⟨_,rfl⟩
 have hL1:W1.heap[w.heap.size + 1]? = some (.loop (rec .ready none)):=by
  have h:=World.alloc_heap_new (w.alloc (.deferred (some []))) (.loop (rec .ready none))
  rw [World.size_alloc] at h
  rw [← hW1]
  exact h
 have hK1:W1.heap[w.heap.size]? = some (.deferred (some [])):=by
  rw [← hW1]
  exact (Below.heap_alloc _ _ _ (by simp)).trans (World.alloc_heap_new w _)
 have hI1:I [] W1:=by rw [← hW1]; exact hI.alloc _ (hI.alloc _ h0)
 have hA1:A0 W1:=by rw [← hW1]; exact hA0 _ _
 refine ⟨w.heap.size + 1,[{ target:=.collected w.heap.size,args:=#[] }],W1,{ target:=.fn (.func gf) lb,args:=#[.func (.yield (w.heap.size + 1)) #[] #[]] },W1,gf,
  #[.func (.yield (w.heap.size + 1)) #[] #[]] ++ lb,W1,?_,?_,?_,?_,fun _=>by omega,?_⟩
 ·rw [← hW1,hrec]
  exact run_enterLoop_outer _ _ _ _ _
 ·simp only [resolve,hg]
  simp [go_sem]
 ·intro f' _
  exact trivial
 ·simp [invoke,go_sem,eg]
 ·refine (hseq (w.heap.size + 1)
   (fun pre W=>I pre W ∧ W.heap[w.heap.size + 1]? = some (.loop (rec .ready none)) ∧ W.heap[w.heap.size]? = some (.deferred (some [])))
   (fun pre W=>∃ c,Ix c pre W ∧ W.heap[w.heap.size + 1]? = some (.loop (rec .done (some c))) ∧ W.heap[w.heap.size]? = some (.deferred (some [])))
   W1 hA1
   (fun s A B hs hm=>⟨hIM s A B hs.1 hm,hMv A B _ _ hm (by omega) hs.2.1 (.inl ⟨_,rfl⟩),hMv A B _ _ hm (by omega) hs.2.2 (.inr ⟨_,rfl⟩)⟩)
   (fun s A B hs hm=>by
    obtain ⟨c,hc,hl,hk⟩:=hs
    exact ⟨c,hIxM c s A B hc hm,hMv A B _ _ hm (by omega) hl (.inl ⟨_,rfl⟩),hMv A B _ _ hm (by omega) hk (.inr ⟨_,rfl⟩)⟩)
   ?_ ⟨hI1,hL1,hK1⟩).mono ?_
  ·rintro pre x W ⟨hi,hl,hk⟩ hT
   have hy:=run_yield (P:=P) (args:=encs x) hl (by rw [hrec]; exact hps x)
   rw [hrec] at hy
   refine ⟨fn,_,assign,body,hy,roundIn_of_wpIn hfn (hassign _ pre x W _ hi hT ?_)⟩
   intro a' Wa hkfa hkpa hia hax
   have hla:=hkfa.same _ _ (by omega) hl rfl
   have hka:=hkfa.same _ _ (Nat.le_refl _) hk rfl
   have hlt:w.heap.size + 1 < Wa.heap.size:=(Array.getElem?_eq_some_iff.1 hla).1
   refine ⟨_,run_beginRound hla (by rw [hrec]),?_⟩
   have hl2:(Wa.putObj (w.heap.size + 1) (.loop { rec .ready none with state:=.busy })).heap[w.heap.size + 1]? = some (.loop { rec .ready none with state:=.busy }):=World.putObj_heap_same hlt
   have hk2:(Wa.putObj (w.heap.size + 1) (.loop { rec .ready none with state:=.busy })).heap[w.heap.size]? = some (.deferred (some [])):=(World.putObj_heap_other (by omega)).trans hka
   have hw2:Kp Wa (Wa.putObj (w.heap.size + 1) (.loop { rec .ready none with state:=.busy })):=hKb _ _ _ _ (by omega) hla ⟨_,rfl⟩
   refine wpIn_mono (hbody _ pre x a' _ (by omega) ⟨_,hl2⟩ (hI.putObj _ hia (by omega) hla rfl) ((hAx pre x a').putObj (s:=()) _ hax (by omega) hla rfl)) ?_
   have fin:∀ (jump:Option Code) (W3:World),KeepsFrom w.heap.size (Wa.putObj (w.heap.size + 1) (.loop { rec .ready none with state:=.busy })) W3 →
     (Instr.endRound (w.heap.size + 1) jump).run P W3=.ok (.bool jump.isNone) (W3.putObj (w.heap.size + 1) (.loop (rec (if jump.isNone then .ready else .done) jump))) ∧
     W3.heap[w.heap.size + 1]? = some (.loop { rec .ready none with state:=.busy }) ∧
     (W3.putObj (w.heap.size + 1) (.loop (rec (if jump.isNone then .ready else .done) jump))).heap[w.heap.size + 1]? = some (.loop (rec (if jump.isNone then .ready else .done) jump)) ∧
     (W3.putObj (w.heap.size + 1) (.loop (rec (if jump.isNone then .ready else .done) jump))).heap[w.heap.size]? = some (.deferred (some [])):=fun jump W3 hk3=>by
    have hl3:=hk3.same _ _ (by omega) hl2 rfl
    have hr:=run_endRound (P:=P) jump hl3
    rw [hrec] at hr ⊢
    exact ⟨hr,by rw [hrec] at hl3; exact hl3,World.putObj_heap_same (Array.getElem?_eq_some_iff.1 hl3).1,(World.putObj_heap_other (by omega)).trans (hk3.same _ _ (Nat.le_refl _) hk2 rfl)⟩
   rintro e a3 W3 hp
   cases e with
   | normal =>
    obtain ⟨hk3,hkp3,hi3⟩:=hp
    obtain ⟨hr,hl3,hl4,hk4⟩:=fin none W3 hk3
    exact ⟨_,_,hr,.inl ⟨rfl,hCt _ _ _ hi3,⟨hI.putObj _ hi3 (by omega) hl3 rfl,hl4,hk4⟩,hKt hkpa (hKt (hKt hw2 hkp3) (hKb _ _ _ _ (by omega) hl3 ⟨_,rfl⟩))⟩⟩
   | ret =>
    obtain ⟨hk3,hi3⟩:=hp
    obtain ⟨hr,hl3,hl4,hk4⟩:=fin (some .ret) W3 hk3
    exact ⟨_,_,hr,.inr ⟨rfl,.ret,(hIx _).putObj _ hi3 (by omega) hl3 rfl,hl4,hk4⟩⟩
   | exit id =>
    obtain ⟨hk3,hi3⟩:=hp
    obtain ⟨hr,hl3,hl4,hk4⟩:=fin (some (.exit id)) W3 hk3
    exact ⟨_,_,hr,.inr ⟨rfl,.exit id,(hIx _).putObj _ hi3 (by omega) hl3 rfl,hl4,hk4⟩⟩
   | goto t =>
    obtain ⟨hk3,hi3⟩:=hp
    obtain ⟨hr,hl3,hl4,hk4⟩:=fin (some (.goto t)) W3 hk3
    exact ⟨_,_,hr,.inr ⟨rfl,.goto t,(hIx _).putObj _ hi3 (by omega) hl3 rfl,hl4,hk4⟩⟩
   | panic ch=>exact hp.elim
   | outgrown=>exact hp.elim
  ·rintro e W2 ⟨⟨v,rfl⟩,(⟨xs,hs,hi,hl,hk⟩ | ⟨pre,hs,c,hi,hl,hk⟩)⟩
   ·exact ⟨none,_,by have h:=run_endLoop (P:=P) hl (by rw [hrec]; simp); rw [hrec] at h; exact h,hdone _ xs _ (Nat.le_refl _) (hS.putObj _ hs (by omega) hl rfl) (hI.putObj _ hi (by omega) hl rfl) ((World.putObj_heap_other (by omega)).trans hk)⟩
   ·exact ⟨some c,_,by have h:=run_endLoop (P:=P) hl (by rw [hrec]; simp); rw [hrec] at h; exact h,wpIn_wide.2 (hstop _ c pre _ (Nat.le_refl _) (hSp.putObj _ hs (by omega) hl rfl) ((hIx c).putObj _ hi (by omega) hl rfl) ((World.putObj_heap_other (by omega)).trans hk))⟩
end Go.Proofs.YtfckekaegjjmkaaGreatDoor
