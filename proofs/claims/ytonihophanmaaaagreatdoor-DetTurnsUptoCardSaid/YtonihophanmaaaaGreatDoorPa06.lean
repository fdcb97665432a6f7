/- The texts HeadP, CbP, RowC, Sort, put together. -/
import Derived.Test.YtonihophanmaaaaGreatDoorPa05
import Derived.Test.YtonihophanmaaaaGreatDoorPa03
import Derived.Test.YtonihophanmaaaaGreatDoorPa04
import Derived.Deep.MidRow
import Derived.Shelf.SlSortCmp.WholeK
import Derived.Ground.SlsfProg
import Derived.Ground.NamesProg
import Derived.Test.YtonihophanmaaaaGreatDoorProg
namespace Go.Proofs.YtonihophanmaaaaGreatDoor
theorem leastN_small (n:Nat) (h:n<24):leastN n=(n,0):=by
 unfold leastN leastOf; rw [if_pos (by omega)]; simp
theorem leastN_1 (n:Nat) (h:¬ n<24) (h1:n<256):leastN n=(24,1):=by
 unfold leastN leastOf; rw [if_neg (by omega),if_pos (by omega)]; rfl
theorem leastN_2 (n:Nat) (h1:¬ n<256) (h2:n<65536):leastN n=(25,2):=by
 unfold leastN leastOf; rw [if_neg (by omega),if_neg (by omega),if_pos (by omega)]; rfl
theorem leastN_4 (n:Nat) (h1:¬ n<65536) (h2:n<4294967296):leastN n=(26,4):=by
 unfold leastN leastOf; rw [if_neg (by omega),if_neg (by omega),if_neg (by omega),if_pos (by omega)]; rfl
theorem leastN_8 (n:Nat) (h1:¬ n<4294967296):leastN n=(27,8):=by
 unfold leastN leastOf; rw [if_neg (by omega),if_neg (by omega),if_neg (by omega),if_neg (by omega)]; rfl
def LeastIs (n info k:Nat):Prop:=(n<24∧info=n∧k=0)∨(24≤n∧24≤info∧info≤27∧k=2 ^ (info - 24)∧n<2 ^ (8*k)∧(info=24∨2 ^ (8*2 ^ (info - 25))≤n))
theorem leastN_is (n:Nat) (hn:n<18446744073709551616):LeastIs n (leastN n).1 (leastN n).2:=by
 by_cases h:n<24
 ·rw [leastN_small n h]; exact .inl ⟨h,rfl,rfl⟩
 ·by_cases h1:n<256
  ·rw [leastN_1 n h h1]; exact .inr ⟨by omega,by decide,by decide,rfl,h1,.inl rfl⟩
  ·by_cases h2:n<65536
   ·rw [leastN_2 n h1 h2]; exact .inr ⟨by omega,by decide,by decide,rfl,h2,.inr (by show 256≤n; omega)⟩
   ·by_cases h3:n<4294967296
    ·rw [leastN_4 n h2 h3]; exact .inr ⟨by omega,by decide,by decide,rfl,h3,.inr (by show 65536≤n; omega)⟩
    ·rw [leastN_8 n h3]; exact .inr ⟨by omega,by decide,by decide,rfl,hn,.inr (by show 4294967296≤n; omega)⟩
theorem beBytes_length (n k:Nat):(beBytes n k).length=k:=by simp [beBytes]
theorem makeL_length (maj n:Nat):(makeL maj n).length=1+(leastN n).2:=by simp [makeL,beBytes_length]; omega
theorem firstByte_toNat (maj info:Nat) (h:maj≤7) (hi:info≤31):(firstByte maj info).toNat=32*maj+info:=by
 unfold firstByte
 rw [UInt8.toNat_ofNat']
 omega
theorem beBytes_succ (n k:Nat):beBytes n (k+1)=beBytes (n / 256) k++[UInt8.ofNat n]:=by
 unfold beBytes
 rw [List.range_succ,List.map_append]
 congr 1
 ·apply List.map_congr_left
  intro i hi
  have:i<k:=List.mem_range.1 hi
  unfold beByte
  rw [show k+1 - 1 - i=(k - 1 - i)+1 by omega,Nat.mul_add,Nat.pow_add,Nat.div_div_eq_div_mul,Nat.mul_comm (2 ^ (8*(k - 1 - i)))]
 ·simp [beByte]
theorem beVal_beBytes (k:Nat):∀ n,n<2 ^ (8*k)→beVal (beBytes n k)=n:=by
 induction k with
 | zero=>intro n h; simp at h; subst h; rfl
 | succ k ih =>
  intro n h
  rw [beBytes_succ,beVal_snoc,ih (n / 256) (by rw [Nat.mul_add,Nat.pow_add]at h; exact Nat.div_lt_of_lt_mul (by rw [Nat.mul_comm]; exact h))]
  rw [UInt8.toNat_ofNat']
  omega
theorem beVal_lt (l:List UInt8):beVal l<2 ^ (8*l.length):=by
 suffices h:∀ (l:List UInt8),beVal l.reverse<2 ^ (8*l.length) by
  have:=h l.reverse
  simpa using this
 intro l
 induction l with
 | nil=>decide
 | cons b l ih =>
  rw [List.reverse_cons,beVal_snoc,List.length_cons,Nat.mul_add,Nat.pow_add]
  have:=b.toNat_lt
  omega
theorem readL_first (maj info:Nat) (r:List UInt8) (h:maj≤7) (hi:info≤31):readL (firstByte maj info::r) =
  if info<24 then ⟨maj,info,info,r,0⟩
  else if info=31 then ⟨maj,31,0,r,0⟩
  else if 27<info then ⟨0,0,0,firstByte maj info::r,101⟩
  else if r.length<2 ^ (info - 24) then ⟨0,0,0,firstByte maj info::r,100⟩
  else ⟨maj,info,beVal (r.take (2 ^ (info - 24))),r.drop (2 ^ (info - 24)),0⟩:=by
 have e:=firstByte_toNat maj info h hi
 have e1:(firstByte maj info).toNat / 32=maj:=by omega
 have e2:(firstByte maj info).toNat % 32=info:=by omega
 unfold readL
 simp only [e1,e2]
end Go.Proofs.YtonihophanmaaaaGreatDoor
namespace Go.Proofs.YtonihophanmaaaaGreatDoor
open Go.RowKit Go.Shelf
def extraN (info:Nat):Nat:=if info<24 then 0 else 2 ^ (info - 24)
def itemL (x:Nat×Nat×Nat):List UInt8:=firstByte x.1 x.2.1::beBytes x.2.2 (extraN x.2.1)
structure HdOk (x:Nat×Nat×Nat):Prop where
 maj:x.1≤7
 info:x.2.1≤27
 small:x.2.1<24→x.2.2=x.2.1
 big:24≤x.2.1→x.2.2<2 ^ (8*2 ^ (x.2.1 - 24))
theorem readL_item (x:Nat×Nat×Nat) (h:HdOk x) (t:List UInt8):readL (itemL x++t)=⟨x.1,x.2.1,x.2.2,t,0⟩:=by
 obtain ⟨maj,info,n⟩:=x
 obtain ⟨h1,h2,h3,h4⟩:=h
 simp only []at h1 h2 h3 h4
 unfold itemL extraN
 simp only []
 rw [List.cons_append,readL_first maj info _ h1 (by omega)]
 by_cases hs:info<24
 ·rw [if_pos hs,if_pos hs,h3 hs]
  rfl
 ·rw [if_neg hs,if_neg hs,if_neg (by omega),if_neg (by omega)]
  rw [if_neg (by simp [beBytes_length])]
  rw [List.take_left' (beBytes_length _ _),List.drop_left' (beBytes_length _ _),beVal_beBytes _ n (h4 (by omega))]
theorem item_inj {x x':Nat×Nat×Nat} (h:HdOk x) (h':HdOk x') {r r':List UInt8} (e:itemL x++r=itemL x'++r'):x=x'∧r=r':=by
 have h1:=readL_item x h r
 rw [e,readL_item x' h' r']at h1
 injection h1 with a b c d
 exact ⟨Prod.ext a.symm (Prod.ext b.symm c.symm),d.symm⟩
theorem makeL_item (maj n:Nat) (hn:n<18446744073709551616):makeL maj n=itemL (maj,(leastN n).1,n):=by
 unfold makeL itemL extraN
 rcases leastN_is n hn with ⟨h1,h2,h3⟩ | ⟨h1,h2,h3,h4,_⟩
 ·simp only [h2,h3,h1,if_true]
 ·simp only []
  rw [if_neg (by omega),h4]
theorem least_ok (maj n:Nat) (hm:maj≤7) (hn:n<18446744073709551616):HdOk (maj,(leastN n).1,n):=by
 rcases leastN_is n hn with ⟨h1,h2,h3⟩ | ⟨h1,h2,h3,h4,h5,_⟩
 ·exact ⟨hm,by simp only []; omega,fun _=>h2.symm,fun h=>by simp only []at h; omega⟩
 ·refine ⟨hm,h3,fun h=>by simp only []at h; omega,fun _=>?_⟩
  simp only []
  rw [← h4]
  exact h5
theorem hd_mk (maj info n:Nat) (h1:maj≤7) (h2:info≤27) (h3:info<24→n=info) (h4:24≤info→n<2 ^ (8*2 ^ (info - 24))):HdOk (maj,info,n):=⟨h1,h2,h3,h4⟩
def infoW (wd:Int):Nat:=if wd=16 then 25 else if wd=32 then 26 else 27
def hdO (o:Own) (k:Nat):Nat×Nat×Nat:=
 if o.kind=1 then (7,22,22)
 else if o.kind=2 then (if o.b=true then (7,21,21) else (7,20,20))
 else if o.kind=3 then (match toIntD o.neg o.dg o.ex with
  | some (true,n)=>(1,(leastN (n - 1)).1,n - 1)
  | some (false,n)=>(0,(leastN n).1,n)
  | none=>(0,0,0))
 else if o.kind=4 then (7,infoW o.wd,o.u.toNat)
 else if o.kind=5 then (3,(leastN o.s.size).1,o.s.size)
 else if o.kind=6 then (2,(leastN o.s.size).1,o.s.size)
 else if o.kind=7 then (4,(leastN k).1,k)
 else if o.kind=8 then (5,(leastN (k / 2)).1,k / 2)
 else if o.kind=9 then (6,(leastN o.u.toNat).1,o.u.toNat)
 else (7,(leastN o.u.toNat).1,o.u.toNat)
theorem hdO_1 {o:Own} (k:Nat) (h:o.kind=1):hdO o k=((7,22,22)):=by
 unfold hdO
 rw [if_pos h]
theorem hdO_2 {o:Own} (k:Nat) (h:o.kind=2):hdO o k=(if o.b=true then (7,21,21) else (7,20,20)):=by
 unfold hdO
 rw [if_neg (by omega),if_pos h]
theorem hdO_3 {o:Own} (k:Nat) (h:o.kind=3):hdO o k=(match toIntD o.neg o.dg o.ex with
  | some (true,n)=>(1,(leastN (n - 1)).1,n - 1)
  | some (false,n)=>(0,(leastN n).1,n)
  | none=>(0,0,0)):=by
 unfold hdO
 rw [if_neg (by omega),if_neg (by omega),if_pos h]
theorem hdO_4 {o:Own} (k:Nat) (h:o.kind=4):hdO o k=((7,infoW o.wd,o.u.toNat)):=by
 unfold hdO
 rw [if_neg (by omega),if_neg (by omega),if_neg (by omega),if_pos h]
theorem hdO_5 {o:Own} (k:Nat) (h:o.kind=5):hdO o k=((3,(leastN o.s.size).1,o.s.size)):=by
 unfold hdO
 rw [if_neg (by omega),if_neg (by omega),if_neg (by omega),if_neg (by omega),if_pos h]
theorem hdO_6 {o:Own} (k:Nat) (h:o.kind=6):hdO o k=((2,(leastN o.s.size).1,o.s.size)):=by
 unfold hdO
 rw [if_neg (by omega),if_neg (by omega),if_neg (by omega),if_neg (by omega),if_neg (by omega),if_pos h]
theorem hdO_7 {o:Own} (k:Nat) (h:o.kind=7):hdO o k=((4,(leastN k).1,k)):=by
 unfold hdO
 rw [if_neg (by omega),if_neg (by omega),if_neg (by omega),if_neg (by omega),if_neg (by omega),if_neg (by omega),if_pos h]
theorem hdO_8 {o:Own} (k:Nat) (h:o.kind=8):hdO o k=((5,(leastN (k / 2)).1,k / 2)):=by
 unfold hdO
 rw [if_neg (by omega),if_neg (by omega),if_neg (by omega),if_neg (by omega),if_neg (by omega),if_neg (by omega),if_neg (by omega),if_pos h]
theorem hdO_9 {o:Own} (k:Nat) (h:o.kind=9):hdO o k=((6,(leastN o.u.toNat).1,o.u.toNat)):=by
 unfold hdO
 rw [if_neg (by omega),if_neg (by omega),if_neg (by omega),if_neg (by omega),if_neg (by omega),if_neg (by omega),if_neg (by omega),if_neg (by omega),if_pos h]
theorem hdO_10 {o:Own} (k:Nat) (h:o.kind=10):hdO o k=((7,(leastN o.u.toNat).1,o.u.toNat)):=by
 unfold hdO
 rw [if_neg (by omega),if_neg (by omega),if_neg (by omega),if_neg (by omega),if_neg (by omega),if_neg (by omega),if_neg (by omega),if_neg (by omega),if_neg (by omega)]
def txO (o:Own):List UInt8:=if o.kind=5∨o.kind=6 then o.s.data.toList else []
mutual
def cbT:Tr→List UInt8
 | .nd o l=>itemL (hdO o l.length)++(txO o++cbL l)
def cbL:List Tr→List UInt8
 | []=>[]
 | t::l=>cbT t++cbL l
end
theorem cbT_eq (t:Tr):cbT t=itemL (hdO t.own t.kids.length)++(txO t.own++cbL t.kids):=by
 cases t
 rw [cbT]
 rfl
theorem cbL_append:∀ a b:List Tr,cbL (a++b)=cbL a++cbL b
 | [],_=>rfl
 | t::a,b=>by
  show cbT t++cbL (a++b)=(cbT t++cbL a)++cbL b
  rw [cbL_append a b,List.append_assoc]
structure NodeC (o:Own) (l:List Tr):Prop where
 own:ownB o l=true
 fit:fitO 2 flC o l=true
 ok:OwnOk o
 len:l.length<18446744073709551616
inductive ShapeC (o:Own) (l:List Tr):Prop
 | null (h:o={ zeroO with kind:=1 }) (hl:l.length=0)
 | bool (h:o={ zeroO with kind:=2,b:=o.b }) (hl:l.length=0)
 | num (neg:Bool) (n:Nat) (h:o={ zeroO with kind:=3,neg:=o.neg,dg:=o.dg,ex:=o.ex }) (hn:toIntD o.neg o.dg o.ex=some (neg,n)) (hl:l.length=0)
 | float (h:o={ zeroO with kind:=4,u:=o.u,wd:=o.wd }) (hw:(o.wd=16∧o.u<65536)∨(o.wd=32∧o.u<4294967296)∨o.wd=64) (hl:l.length=0)
 | text (h:o={ zeroO with kind:=5,s:=o.s }) (hs:o.s.size≤400) (hv:Lib.validD o.s.data.toList=true) (hl:l.length=0)
 | bytes (h:o={ zeroO with kind:=6,s:=o.s }) (hs:o.s.size≤400) (hl:l.length=0)
 | array (h:o={ zeroO with kind:=7 })
 | map (h:o={ zeroO with kind:=8 }) (hl:l.length % 2=0) (hk:keysB l=true) (hf:keysFit 2 l=true)
 | tag (h:o={ zeroO with kind:=9,u:=o.u }) (hl:l.length=1)
 | simple (h:o={ zeroO with kind:=10,u:=o.u }) (hu:o.u≤19∨o.u=23∨(32≤o.u∧o.u≤255)) (hl:l.length=0)
theorem NodeC.shape {o:Own} {l:List Tr} (h:NodeC o l):ShapeC o l:=by
 obtain ⟨ho,hf,_,_⟩:=h
 unfold ownB at ho
 unfold fitO at hf
 by_cases h1:o.kind=1
 ·rw [if_pos h1]at ho
  simp only [Bool.and_eq_true,decide_eq_true_iff]at ho
  exact .null (only_eq ho.2 h1) ho.1
 rw [if_neg h1]at ho
 by_cases h2:o.kind=2
 ·rw [if_pos h2]at ho
  simp only [Bool.and_eq_true,decide_eq_true_iff]at ho
  exact .bool (only_eq ho.2 h2) ho.1
 rw [if_neg h2]at ho
 by_cases h3:o.kind=3
 ·rw [if_pos h3]at ho
  simp only [Bool.and_eq_true,decide_eq_true_iff]at ho
  rw [if_neg (by omega),if_pos h3]at hf
  simp only [Bool.or_eq_true,Bool.and_eq_true,decide_eq_true_iff]at hf
  have hs:(toIntD o.neg o.dg o.ex).isSome=true:=by
   rcases hf with hf | hf | hf
   ·omega
   ·exact hf.2
   ·omega
  obtain ⟨⟨neg,n⟩,hn⟩:=Option.isSome_iff_exists.1 hs
  exact .num neg n (only_eq ho.2.1 h3) hn ho.1
 rw [if_neg h3]at ho
 by_cases h4:o.kind=4
 ·rw [if_pos h4]at ho
  simp only [Bool.and_eq_true,decide_eq_true_iff]at ho
  refine .float (only_eq ho.2.1 h4) ?_ ho.1
  have hw:=ho.2.2
  unfold wideOk at hw
  split at hw
  ·rename_i e
   exact .inr (.inr e)
  ·split at hw
   ·rename_i e
    exact .inl ⟨e,by simpa using hw⟩
   ·split at hw
    ·rename_i e
     exact .inr (.inl ⟨e,by simpa using hw⟩)
    ·cases hw
 rw [if_neg h4]at ho hf
 rw [if_neg h3]at hf
 by_cases h5:o.kind=5
 ·rw [if_pos h5]at ho
  simp only [Bool.and_eq_true,decide_eq_true_iff]at ho
  exact .text (only_eq ho.2.1 h5) ho.2.2.1 ho.2.2.2 ho.1
 rw [if_neg h5]at ho
 by_cases h6:o.kind=6
 ·rw [if_pos h6]at ho
  simp only [Bool.and_eq_true,decide_eq_true_iff]at ho
  exact .bytes (only_eq ho.2.1 h6) ho.2.2 ho.1
 rw [if_neg h6]at ho hf
 by_cases h7:o.kind=7
 ·rw [if_pos h7]at ho
  exact .array (only_eq ho h7)
 rw [if_neg h7]at ho
 by_cases h8:o.kind=8
 ·rw [if_pos h8]at ho
  simp only [Bool.and_eq_true,decide_eq_true_iff]at ho
  rw [if_neg (by omega),if_neg (by omega),if_pos h8,Bool.and_eq_true]at hf
  exact .map (only_eq ho.1 h8) ho.2.1 ho.2.2 hf.2
 rw [if_neg h8]at ho
 by_cases h9:o.kind=9
 ·rw [if_pos h9]at ho
  simp only [Bool.and_eq_true,decide_eq_true_iff]at ho
  exact .tag (only_eq ho.2 h9) ho.1
 rw [if_neg h9]at ho
 by_cases h10:o.kind=10
 ·rw [if_pos h10]at ho
  simp only [Bool.and_eq_true,Bool.or_eq_true,decide_eq_true_iff]at ho
  exact .simple (only_eq ho.2.1 h10) ho.2.2 ho.1
 rw [if_neg h10]at ho
 by_cases h11:o.kind=11
 ·rw [if_neg (by omega),if_pos h11]at hf
  simp at hf
 ·rw [if_neg h11]at ho
  cases ho
def kindH (x:Nat×Nat×Nat):Int:=
 if x.1=0∨x.1=1 then 3 else if x.1=2 then 6 else if x.1=3 then 5 else if x.1=4 then 7 else if x.1=5 then 8 else if x.1=6 then 9
 else if x.2.1=20∨x.2.1=21 then 2 else if x.2.1=22 then 1 else if 25≤x.2.1 then 4 else 10
theorem least_small {n:Nat} (h:n<24):(leastN n).1=n:=by rw [leastN_small n h]
theorem least_one {n:Nat} (h:¬ n<24) (h1:n<256):(leastN n).1=24:=by rw [leastN_1 n h h1]
theorem hd_facts {o:Own} {l:List Tr} (h:NodeC o l):HdOk (hdO o l.length)∧kindH (hdO o l.length)=o.kind:=by
 have hk:=h.ok
 have hl:=h.len
 have hu:=hk.u
 rcases h.shape with ⟨h,_⟩ | ⟨h,_⟩ | ⟨neg,n,h,hn,_⟩ | ⟨h,hw,_⟩ | ⟨h,hs,_,_⟩ | ⟨h,hs,_⟩ | ⟨h⟩ | ⟨h,he,_,_⟩ | ⟨h,_⟩ | ⟨h,hu',_⟩
 ·have e:o.kind=1:=by rw [h]
  unfold hdO
  rw [if_pos e,e]
  exact ⟨⟨by decide,by decide,fun _=>rfl,fun h=>absurd h (by decide)⟩,by decide⟩
 ·have e:o.kind=2:=by rw [h]
  unfold hdO
  rw [if_neg (by omega),if_pos e,e]
  split
  ·exact ⟨⟨by decide,by decide,fun _=>rfl,fun h=>absurd h (by decide)⟩,by decide⟩
  ·exact ⟨⟨by decide,by decide,fun _=>rfl,fun h=>absurd h (by decide)⟩,by decide⟩
 ·have e:o.kind=3:=by rw [h]
  have hb:=(toInt_lt hn).1
  unfold hdO
  rw [if_neg (by omega),if_neg (by omega),if_pos e,e,hn]
  cases neg with
  | true=>exact ⟨least_ok 1 (n - 1) (by decide) (by omega),rfl⟩
  | false=>exact ⟨least_ok 0 n (by decide) hb,rfl⟩
 ·have e:o.kind=4:=by rw [h]
  unfold hdO infoW
  rw [if_neg (by omega),if_neg (by omega),if_neg (by omega),if_pos e,e]
  rcases hw with ⟨hw,hu2⟩ | ⟨hw,hu2⟩ | hw
  ·rw [if_pos hw]
   refine ⟨hd_mk 7 25 _ (by decide) (by decide) (fun h=>absurd h (by decide)) (fun _=>?_),by simp [kindH]⟩
   show o.u.toNat<65536
   omega
  ·rw [if_neg (by omega),if_pos hw]
   refine ⟨hd_mk 7 26 _ (by decide) (by decide) (fun h=>absurd h (by decide)) (fun _=>?_),by simp [kindH]⟩
   show o.u.toNat<4294967296
   omega
  ·rw [if_neg (by omega),if_neg (by omega)]
   refine ⟨hd_mk 7 27 _ (by decide) (by decide) (fun h=>absurd h (by decide)) (fun _=>?_),by simp [kindH]⟩
   show o.u.toNat<18446744073709551616
   omega
 ·have e:o.kind=5:=by rw [h]
  unfold hdO
  rw [if_neg (by omega),if_neg (by omega),if_neg (by omega),if_neg (by omega),if_pos e,e]
  exact ⟨least_ok 3 _ (by decide) (by omega),rfl⟩
 ·have e:o.kind=6:=by rw [h]
  unfold hdO
  rw [if_neg (by omega),if_neg (by omega),if_neg (by omega),if_neg (by omega),if_neg (by omega),if_pos e,e]
  exact ⟨least_ok 2 _ (by decide) (by omega),rfl⟩
 ·have e:o.kind=7:=by rw [h]
  unfold hdO
  rw [if_neg (by omega),if_neg (by omega),if_neg (by omega),if_neg (by omega),if_neg (by omega),if_neg (by omega),if_pos e,e]
  exact ⟨least_ok 4 _ (by decide) hl,rfl⟩
 ·have e:o.kind=8:=by rw [h]
  unfold hdO
  rw [if_neg (by omega),if_neg (by omega),if_neg (by omega),if_neg (by omega),if_neg (by omega),if_neg (by omega),if_neg (by omega),if_pos e,e]
  exact ⟨least_ok 5 _ (by decide) (by omega),rfl⟩
 ·have e:o.kind=9:=by rw [h]
  unfold hdO
  rw [if_neg (by omega),if_neg (by omega),if_neg (by omega),if_neg (by omega),if_neg (by omega),if_neg (by omega),if_neg (by omega),if_neg (by omega),if_pos e,e]
  exact ⟨least_ok 6 _ (by decide) (by omega),rfl⟩
 ·have e:o.kind=10:=by rw [h]
  unfold hdO
  rw [if_neg (by omega),if_neg (by omega),if_neg (by omega),if_neg (by omega),if_neg (by omega),if_neg (by omega),if_neg (by omega),if_neg (by omega),if_neg (by omega),e]
  refine ⟨least_ok 7 _ (by decide) (by omega),?_⟩
  obtain ⟨m,hm⟩:∃ m,o.u.toNat=m:=⟨_,rfl⟩
  rw [hm]
  rcases Nat.lt_or_ge m 24 with hlt | hge
  ·unfold kindH
   simp only [least_small hlt]
   rw [if_neg (by omega),if_neg (by omega),if_neg (by omega),if_neg (by omega),if_neg (by omega),if_neg (by omega),if_neg (by omega),if_neg (by omega),if_neg (by omega)]
  ·unfold kindH
   simp only [least_one (n:=m) (by omega) (by omega)]
   decide
theorem len0 {l:List Tr} (h:l.length=0):l=[]:=List.eq_nil_of_length_eq_zero h
theorem cbH_inj {o o':Own} {l l':List Tr} {r r':List UInt8} (h:NodeC o l) (h':NodeC o' l') (e:itemL (hdO o l.length)++(txO o++r)=itemL (hdO o' l'.length)++(txO o'++r')):o=o'∧l.length=l'.length∧r=r':=by
 obtain ⟨a1,a2⟩:=hd_facts h
 obtain ⟨b1,b2⟩:=hd_facts h'
 obtain ⟨hx,hr⟩:=item_inj a1 b1 e
 have hkk:o.kind=o'.kind:=by rw [← a2,← b2,hx]
 have hu:=h.ok.u
 have hu':=h'.ok.u
 have nt:∀ {p:Own},p.kind≠5→p.kind≠6→txO p=[]:=fun h5 h6=>by
  unfold txO
  rw [if_neg (fun q=>q.elim h5 h6)]
 have tx:∀ {p:Own},(p.kind=5∨p.kind=6)→txO p=p.s.data.toList:=fun hp=>by
  unfold txO
  rw [if_pos hp]
 have key:∀ {s s':ByteArray},s.size=s'.size→s.data.toList++r=s'.data.toList++r'→s=s'∧r=r':=fun hs he=>by
  obtain ⟨q1,q2⟩:=List.append_inj he (by simpa using hs)
  exact ⟨str_ext q1,q2⟩
 rcases h.shape with ⟨q,hl⟩ | ⟨q,hl⟩ | ⟨neg,n,q,hn,hl⟩ | ⟨q,hw,hl⟩ | ⟨q,hs,_,hl⟩ | ⟨q,hs,hl⟩ | ⟨q⟩ | ⟨q,he,_,_⟩ | ⟨q,hl⟩ | ⟨q,hu2,hl⟩ <;>
 rcases h'.shape with ⟨q',hl'⟩ | ⟨q',hl'⟩ | ⟨neg',n',q',hn',hl'⟩ | ⟨q',hw',hl'⟩ | ⟨q',hs',_,hl'⟩ | ⟨q',hs',hl'⟩ | ⟨q'⟩ | ⟨q',he',_,_⟩ | ⟨q',hl'⟩ | ⟨q',hu2',hl'⟩ <;>
 have e:=congrArg Own.kind q <;> have e':=congrArg Own.kind q' <;> simp only []at e e' <;> try (exfalso; omega)
 ·rw [nt (by omega) (by omega),nt (by omega) (by omega)]at hr
  exact ⟨q.trans q'.symm,hl.trans hl'.symm,hr⟩
 ·rw [nt (by omega) (by omega),nt (by omega) (by omega)]at hr
  refine ⟨?_,hl.trans hl'.symm,hr⟩
  rw [hdO_2 _ e,hdO_2 _ e']at hx
  have:o.b=o'.b:=by
   cases hb:o.b <;> cases hb':o'.b <;> rw [hb,hb']at hx <;> first | rfl | (exact absurd hx (by decide))
  rw [q,q',this]
 ·rw [nt (by omega) (by omega),nt (by omega) (by omega)]at hr
  refine ⟨?_,hl.trans hl'.symm,hr⟩
  rw [hdO_3 _ e,hdO_3 _ e',hn,hn']at hx
  have p1:=(toInt_lt hn).2
  have p2:=(toInt_lt hn').2
  have hh:neg=neg'∧n=n':=by
   cases neg <;> cases neg' <;> simp only [Prod.mk.injEq]at hx
   ·exact ⟨rfl,hx.2.2⟩
   ·exact absurd hx.1 (by decide)
   ·exact absurd hx.1 (by decide)
   ·have:=p1 rfl
    have:=p2 rfl
    exact ⟨rfl,by omega⟩
  rw [hh.1,hh.2]at hn
  obtain ⟨w1,w2,w3⟩:=toInt_inj hn hn'
  rw [q,q',w1,w2,w3]
 ·rw [nt (by omega) (by omega),nt (by omega) (by omega)]at hr
  refine ⟨?_,hl.trans hl'.symm,hr⟩
  rw [hdO_4 _ e,hdO_4 _ e']at hx
  unfold infoW at hx
  simp only [Prod.mk.injEq]at hx
  have w1:o.u=o'.u:=by omega
  have w2:o.wd=o'.wd:=by
   have:=hx.2.1
   split at this <;> split at this <;> (try split at this) <;> (try split at this) <;> omega
  rw [q,q',w1,w2]
 ·rw [tx (.inl e),tx (.inl e')]at hr
  rw [hdO_5 _ e,hdO_5 _ e']at hx
  simp only [Prod.mk.injEq]at hx
  obtain ⟨w1,w2⟩:=key hx.2.2 hr
  exact ⟨by rw [q,q',w1],hl.trans hl'.symm,w2⟩
 ·rw [tx (.inr e),tx (.inr e')]at hr
  rw [hdO_6 _ e,hdO_6 _ e']at hx
  simp only [Prod.mk.injEq]at hx
  obtain ⟨w1,w2⟩:=key hx.2.2 hr
  exact ⟨by rw [q,q',w1],hl.trans hl'.symm,w2⟩
 ·rw [nt (by omega) (by omega),nt (by omega) (by omega)]at hr
  rw [hdO_7 _ e,hdO_7 _ e']at hx
  simp only [Prod.mk.injEq]at hx
  exact ⟨q.trans q'.symm,hx.2.2,hr⟩
 ·rw [nt (by omega) (by omega),nt (by omega) (by omega)]at hr
  rw [hdO_8 _ e,hdO_8 _ e']at hx
  simp only [Prod.mk.injEq]at hx
  exact ⟨q.trans q'.symm,by omega,hr⟩
 ·rw [nt (by omega) (by omega),nt (by omega) (by omega)]at hr
  rw [hdO_9 _ e,hdO_9 _ e']at hx
  simp only [Prod.mk.injEq]at hx
  have w1:o.u=o'.u:=by omega
  exact ⟨by rw [q,q',w1],hl.trans hl'.symm,hr⟩
 ·rw [nt (by omega) (by omega),nt (by omega) (by omega)]at hr
  rw [hdO_10 _ e,hdO_10 _ e']at hx
  simp only [Prod.mk.injEq]at hx
  have w1:o.u=o'.u:=by omega
  exact ⟨by rw [q,q',w1],hl.trans hl'.symm,hr⟩
mutual
def okC:Tr→Prop
 | .nd o l=>NodeC o l∧okCL l
def okCL:List Tr→Prop
 | []=>True
 | t::l=>okC t∧okCL l
end
mutual
theorem cbT_inj:∀ (t t':Tr) (r r':List UInt8),okC t→okC t'→cbT t++r=cbT t'++r'→t=t'∧r=r'
 | .nd o l,.nd o' l',r,r',h,h',e=>by
  rw [okC]at h h'
  rw [cbT,cbT,List.append_assoc,List.append_assoc,List.append_assoc,List.append_assoc]at e
  obtain ⟨h1,h2,h3⟩:=cbH_inj h.1 h'.1 e
  obtain ⟨h4,h5⟩:=cbL_inj l l' r r' h2 h.2 h'.2 h3
  exact ⟨by rw [h1,h4],h5⟩
theorem cbL_inj:∀ (l l':List Tr) (r r':List UInt8),l.length=l'.length→okCL l→okCL l'→cbL l++r=cbL l'++r'→l=l'∧r=r'
 | [],[],_,_,_,_,_,e=>⟨rfl,by simpa [cbL] using e⟩
 | [],_::_,_,_,hl,_,_,_=>by simp at hl
 | _::_,[],_,_,hl,_,_,_=>by simp at hl
 | t::l,t'::l',r,r',hl,h,h',e=>by
  rw [okCL]at h h'
  rw [cbL,cbL,List.append_assoc,List.append_assoc]at e
  obtain ⟨h1,h2⟩:=cbT_inj t t' _ _ h.1 h'.1 e
  obtain ⟨h3,h4⟩:=cbL_inj l l' r r' (by simpa using hl) h.2 h'.2 h2
  exact ⟨by rw [h1,h3],h4⟩
end
end Go.Proofs.YtonihophanmaaaaGreatDoor
namespace Go.Proofs.YtonihophanmaaaaGreatDoor
open Go.RowKit Go.Shelf
def bs (l:List UInt8):ByteArray:=⟨l.toArray⟩
theorem bs_list (l:List UInt8):(bs l).data.toList=l:=rfl
theorem bs_size (l:List UInt8):(bs l).size=l.length:=rfl
theorem bs_of (s:ByteArray):bs s.data.toList=s:=by
 apply ByteArray.ext
 unfold bs
 simp
theorem grown_drew (w:World) (r:Option Nat) (n:Nat):w.grownBy (w.drewN n) r:=⟨rfl,rfl,rfl,Nat.le_refl _,fun _ _ _=>rfl⟩
theorem grown_at {A B C:World} {p q:Nat} (h:A.grownBy B (some p)) (k:B.grownBy C (some q)) (hq:A.heap.size≤q):A.grownBy C (some p):=
 ⟨k.os.trans h.os,k.tape.trans h.tape,k.output.trans h.output,Nat.le_trans h.size k.size,fun i hi hr=>(k.block i (Nat.lt_of_lt_of_le hi h.size) (fun e=>by injection e with e; omega)).trans (h.block i hi hr)⟩
theorem grown_of {A B C:World} {r:Option Nat} (h:A.grownBy B r) (k:Below B.heap.size B C):A.grownBy C r:=grown_trans h (below_grown k r)
theorem below_of_grown {w0 w w':World} {p:Nat} (hb:Below w0.heap.size w0 w) (hp:w0.heap.size≤p) (hlt:p<w.heap.size) (hg:w.grownBy w' (some p)):Below w0.heap.size w0 w':=hb.trans (grown_below hg hp hlt)
theorem LAt.keptC {W W':World} {S:Nat→Prop} {row:Option Nat} (hg:W.grownBy W' row) (hrow:∀ r,row=some r→∃ o:Obj,W.heap[r]? = some o∧o.isCells=false):∀ {d:Nat} {l:List Tr} {v:Value},LAt W S d l v→LAt W' S d l v
 | 0,_,_,h=>h
 | d+1,l,v,⟨A,c,hv,hl,h⟩=>⟨A,c,hv,hl,fun i hi=>by
   obtain ⟨a,x,ha,hs,ho,hc,hkk⟩:=h i hi
   exact ⟨a,x,ha,hs,ho,fun j u hu=>cell_kept (hc j u hu) hg hrow,hkk.keptC hg hrow⟩⟩
theorem RowT.keptC {W W':World} {S:Nat→Prop} {row:Option Nat} (hg:W.grownBy W' row) (hrow:∀ r,row=some r→∃ o:Obj,W.heap[r]? = some o∧o.isCells=false) {d:Nat}:∀ {l:List Tr} {xs:List Value},RowT W S d l xs→RowT W' S d l xs
 | [],_,h=>h
 | _::_,_,⟨y,r,hx,ho,hl,h⟩=>⟨y,r,hx,ho,hl.keptC hg hrow,h.keptC hg hrow⟩
theorem row_cells {W:World} {base size n:Nat} {e:TypeId} {v:Value} {xs:List Value} (h:W.ownsRow base e size v n xs) {g:Nat} (hg:v.ownBlock=some g):∃ o:Obj,W.heap[g]? = some o∧o.isCells=true:=by
 rcases h.2 with ⟨rfl,_⟩ | ⟨g',cap,cur,rfl,_,hh,_⟩
 ·cases hg
 ·have:g'=g:=by simpa [Value.ownBlock] using hg
  subst this
  exact ⟨_,hh,rfl⟩
theorem row_keptC {W W':World} {row:Option Nat} {base size n:Nat} {e:TypeId} {v:Value} {xs:List Value} (h:W.ownsRow base e size v n xs) (hg:W.grownBy W' row) (hr:∀ r,row=some r→∃ o:Obj,W.heap[r]? = some o∧o.isCells=false):W'.ownsRow base e size v n xs:=
 h.kept hg (by
  cases hv:v.ownBlock with
  | none=>exact .inl rfl
  | some g =>
   refine .inr (fun e=>?_)
   obtain ⟨o,ho,hc⟩:=row_cells h hv
   obtain ⟨o',ho',hc'⟩:=hr g e.symm
   rw [ho]at ho'
   cases ho'
   rw [hc]at hc'
   cases hc')
theorem row_there {w:World} {base n cap g:Nat} {e:TypeId} {xs:List Value} (h:w.ownsRow base e 9 (.slice (some ⟨g,0,none⟩) (n+1) cap) (n+1) xs):w.there g (n*9) 9:=by
 rcases h.2 with ⟨h2,_⟩ | ⟨g',cap',cur,hv,hb,hh,hn,hc,hs,ht⟩
 ·cases h2
 ·injection hv with hv _ hv2
  injection hv with hv
  injection hv with hv
  subst hv hv2
  have hk:Blk w g cur e:=hh
  intro j hj
  have hlt:n*9+j<cur.size:=by rw [hs]; omega
  refine ⟨?_,hk.frozen _⟩
  rw [hk.cell (n*9+j),Array.getElem?_eq_getElem hlt]
  rfl
theorem blk_at {W:World} {k:Nat} (h:W.heap.size=k) (cs:Array Value) (t:TypeId):Blk (W.alloc (.cells cs t)) k cs t:=h▸Blk.new W cs t
theorem grown_refl (w:World) (r:Option Nat):w.grownBy w r:=⟨rfl,rfl,rfl,Nat.le_refl _,fun _ _ _=>rfl⟩
theorem grown_C {A B C:World} {p:Nat} {row:Option Nat} (h:A.grownBy B (some p)) (k:B.grownBy C row) {n:Nat} (hn:A.heap.size≤n) (hr:∀ r,row=some r→n≤r):A.grownBy C (some p):=
 ⟨k.os.trans h.os,k.tape.trans h.tape,k.output.trans h.output,Nat.le_trans h.size k.size,fun i hi hp=>(k.block i (Nat.lt_of_lt_of_le hi h.size) (fun e=>by have:=hr i e.symm; omega)).trans (h.block i hi hp)⟩
theorem blkC {W W':World} {b:Nat} {cs:Array Value} {t:TypeId} (h:Blk W b cs t) {row:Option Nat} (hg:W.grownBy W' row) (hr:∀ r,row=some r→∃ o:Obj,W.heap[r]? = some o∧o.isCells=false):Blk W' b cs t:=
 blk_own (β:=Unit) b t (fun _=>cs) () W W' row h hg hr
theorem own_u (k:Int) (u:Nat) (wd:Int) (hk:0≤k∧k≤100) (hu:u<18446744073709551616) (hw:0≤wd∧wd≤100):OwnOk { zeroO with kind:=k,u:=(u:Int),wd:=wd }:=
 ⟨by show (0:Nat)≤_; omega,by show (0:Nat)≤_; omega,by show _≤k∧k<_; omega,by show _≤(0:Int)∧(0:Int)<_; omega,by show (0:Int)≤(u:Int)∧(u:Int)<_; omega,by show _≤wd∧wd<_; omega⟩
theorem grown_set_row {w W:World} {p b:Nat} (hb:Below w.heap.size w W) (hq:w.heap.size≤b) (cs:Array Value):w.grownBy (W.setRow b cs) (some p):=
 grown_at (below_grown hb _) (grown_row W b cs) hq
end Go.Proofs.YtonihophanmaaaaGreatDoor
namespace Go.Proofs
open Go.Shelf
def Tryz.sortPairs_ren:Go.Shelf.Ren:=⟨fun | 6=>94 | 15=>136 | 14=>135 | 28=>194 | 29=>124 | 20=>186 | 21=>187 | 22=>188 | 23=>189 | 24=>190 | 25=>191 | 26=>192 | 27=>193 | 46=>224 | 47=>225 | 48=>226 | 49=>227 | 50=>228 | 57=>260 | n=>n,fun | 22=>117 | 24=>124 | 25=>126 | 3=>3 | 39=>131 | 0=>0 | 53=>226 | 55=>25 | 4=>4 | 46=>219 | 45=>218 | 50=>223 | 5=>5 | 9=>9 | 66=>256 | 70=>260 | 76=>291 | 77=>129 | n=>n,fun | n=>n⟩
theorem Tryz.sortPairs:Go.Proofs.SlLaysF0.n6 Tryz.prog Tryz.sortPairs_ren:={
 mixed:=by kernel_rfl
 f6:=⟨Tryz.f94.name,by decide,Tryz.func94.trans (congrArg some (by kernel_rfl))⟩
 f14:=⟨Tryz.f135.name,by decide,Tryz.func135.trans (congrArg some (by kernel_rfl))⟩
 f15:=Tryz.func136.trans (congrArg some (by kernel_rfl))
 f20:=⟨Tryz.f186.name,by decide,Tryz.func186.trans (congrArg some (by kernel_rfl))⟩
 f21:=⟨Tryz.f187.name,by decide,Tryz.func187.trans (congrArg some (by kernel_rfl))⟩
 f22:=⟨Tryz.f188.name,by decide,Tryz.func188.trans (congrArg some (by kernel_rfl))⟩
 f23:=⟨Tryz.f189.name,by decide,Tryz.func189.trans (congrArg some (by kernel_rfl))⟩
 f24:=⟨Tryz.f190.name,by decide,Tryz.func190.trans (congrArg some (by kernel_rfl))⟩
 f25:=⟨Tryz.f191.name,by decide,Tryz.func191.trans (congrArg some (by kernel_rfl))⟩
 f26:=⟨Tryz.f192.name,by decide,Tryz.func192.trans (congrArg some (by kernel_rfl))⟩
 f27:=⟨Tryz.f193.name,by decide,Tryz.func193.trans (congrArg some (by kernel_rfl))⟩
 f28:=Tryz.func194.trans (congrArg some (by kernel_rfl))
 f29:=Tryz.func124.trans (congrArg some (by kernel_rfl))
 f46:=⟨Tryz.f224.name,by decide,Tryz.func224.trans (congrArg some (by kernel_rfl))⟩
 f47:=Tryz.func225.trans (congrArg some (by kernel_rfl))
 f48:=Tryz.func226.trans (congrArg some (by kernel_rfl))
 f49:=⟨Tryz.f227.name,by decide,Tryz.func227.trans (congrArg some (by kernel_rfl))⟩
 f50:=⟨Tryz.f228.name,by decide,Tryz.func228.trans (congrArg some (by kernel_rfl))⟩
 f57:=⟨Tryz.f260.name,by decide,Tryz.func260.trans (congrArg some (by kernel_rfl))⟩
 t0:=Tryz.underlying0
 a0:=Tryz.isAgg0
 z0:=Tryz.sizeOf0
 v0:=Tryz.zeroValue0
 t3:=Tryz.underlying3
 a3:=Tryz.isAgg3
 z3:=Tryz.sizeOf3
 v3:=Tryz.zeroValue3
 t4:=Tryz.underlying4
 a4:=Tryz.isAgg4
 z4:=Tryz.sizeOf4
 v4:=Tryz.zeroValue4
 t5:=Tryz.underlying5
 a5:=Tryz.isAgg5
 z5:=Tryz.sizeOf5
 v5:=Tryz.zeroValue5
 t9:=Tryz.underlying9
 a9:=Tryz.isAgg9
 z9:=Tryz.sizeOf9
 v9:=Tryz.zeroValue9
 t22:=Tryz.underlying117
 a22:=Tryz.isAgg117
 z22:=Tryz.sizeOf117
 v22:=Tryz.zeroValue117
 t25:=Tryz.underlying126
 a25:=Tryz.isAgg126
 z25:=Tryz.sizeOf126
 v25:=Tryz.zeroValue126
 t39:=Tryz.underlying131
 a39:=Tryz.isAgg131
 z39:=Tryz.sizeOf131
 v39:=Tryz.zeroValue131
 t45:=Tryz.underlying218
 a45:=Tryz.isAgg218
 z45:=Tryz.sizeOf218
 v45:=Tryz.zeroValue218
 t46:=Tryz.underlying219
 a46:=Tryz.isAgg219
 z46:=Tryz.sizeOf219
 v46:=Tryz.zeroValue219
 t50:=Tryz.underlying223
 a50:=Tryz.isAgg223
 z50:=Tryz.sizeOf223
 v50:=Tryz.zeroValue223
 t53:=Tryz.underlying226
 a53:=Tryz.isAgg226
 z53:=Tryz.sizeOf226
 v53:=Tryz.zeroValue226
 t55:=Tryz.underlying25
 a55:=Tryz.isAgg25
 z55:=Tryz.sizeOf25
 v55:=Tryz.zeroValue25
 t66:=Tryz.underlying256
 a66:=Tryz.isAgg256
 z66:=Tryz.sizeOf256
 v66:=Tryz.zeroValue256
 t70:=Tryz.underlying260
 a70:=Tryz.isAgg260
 z70:=Tryz.sizeOf260
 v70:=Tryz.zeroValue260
 t76:=Tryz.underlying291
 a76:=Tryz.isAgg291
 z76:=Tryz.sizeOf291
 v76:=Tryz.zeroValue291
 t77:=Tryz.underlying129
 a77:=Tryz.isAgg129
 z77:=Tryz.sizeOf129
 v77:=Tryz.zeroValue129 }
end Go.Proofs
