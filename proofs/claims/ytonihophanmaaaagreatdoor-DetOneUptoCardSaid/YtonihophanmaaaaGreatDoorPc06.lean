/- The texts CbP, RowC, Sort, put together. -/
import Derived.Test.YtonihophanmaaaaGreatDoorPc03
import Derived.Test.YtonihophanmaaaaGreatDoorPc04
import Derived.Test.YtonihophanmaaaaGreatDoorPc05
import Derived.Deep.MidRow
import Derived.Shelf.SlSortCmp.WholeK
import Derived.Ground.SlsfProg
import Derived.Ground.NamesProg
import Derived.Test.YtonihophanmaaaaGreatDoorProg
namespace Go.Proofs.YtonihophanmaaaaGreatDoor
open Go.RowKit Go.Shelf
def wQ (info:Nat):Nat:=if info<24 then 0 else 2 ^ (info - 24)
def kl (x:Nat×Nat×Nat):List UInt8:=jG x.1 x.2.1::beBytes x.2.2 (wQ x.2.1)
structure za1 (x:Nat×Nat×Nat):Prop where
 maj:x.1≤7
 info:x.2.1≤27
 small:x.2.1<24→x.2.2=x.2.1
 big:24≤x.2.1→x.2.2<2 ^ (8*2 ^ (x.2.1 - 24))
theorem zaD (x:Nat×Nat×Nat) (h:za1 x) (t:List UInt8):xd (kl x++t)=⟨x.1,x.2.1,x.2.2,t,0⟩:=by
 obtain ⟨maj,info,n⟩:=x
 obtain ⟨b,e,c,d⟩:=h
 simp only []at b e c d
 unfold kl wQ
 simp only []
 rw [List.cons_append,zha maj info _ b (by omega)]
 by_cases a:info<24
 ·rw [if_pos a,if_pos a,c a]
  rfl
 ·rw [if_neg a,if_neg a,if_neg (by omega),if_neg (by omega)]
  rw [if_neg (by simp [beBytes_length])]
  rw [List.take_left' (beBytes_length _ _),List.drop_left' (beBytes_length _ _),zeN _ n (d (by omega))]
theorem zlh {x f:Nat×Nat×Nat} (h:za1 x) (i:za1 f) {r r':List UInt8} (e:kl x++r=kl f++r'):x=f∧r=r':=by
 have g:=zaD x h r
 rw [e,zaD f i r']at g
 injection g with a b c d
 exact ⟨Prod.ext a.symm (Prod.ext b.symm c.symm),d.symm⟩
theorem ko (maj n:Nat) (hn:n<18446744073709551616):zY maj n=kl (maj,(zF n).1,n):=by
 unfold zY kl wQ
 rcases vV n hn with ⟨a,b,c⟩ | ⟨a,b,c,d,_⟩
 ·simp only [b,c,a,if_true]
 ·simp only []
  rw [if_neg (by omega),d]
theorem qs (maj n:Nat) (c:maj≤7) (hn:n<18446744073709551616):za1 (maj,(zF n).1,n):=by
 rcases vV n hn with ⟨d,a,b⟩ | ⟨d,a,b,e,f,_⟩
 ·exact ⟨c,by simp only []; omega,fun _=>a.symm,fun h=>by simp only []at h; omega⟩
 ·refine ⟨c,b,fun h=>by simp only []at h; omega,fun _=>?_⟩
  simp only []
  rw [← e]
  exact f
theorem zik (maj info n:Nat) (a:maj≤7) (b:info≤27) (c:info<24→n=info) (d:24≤info→n<2 ^ (8*2 ^ (info - 24))):za1 (maj,info,n):=⟨a,b,c,d⟩
def vl (wd:Int):Nat:=if wd=16 then 25 else if wd=32 then 26 else 27
def hdO (o:Own) (k:Nat):Nat×Nat×Nat:=
 if o.kind=1 then (7,22,22)
 else if o.kind=2 then (if o.b=true then (7,21,21) else (7,20,20))
 else if o.kind=3 then (match jv o.neg o.dg o.ex with
  | some (true,n)=>(1,(zF (n - 1)).1,n - 1)
  | some (false,n)=>(0,(zF n).1,n)
  | none=>(0,0,0))
 else if o.kind=4 then (7,vl o.wd,o.u.toNat)
 else if o.kind=5 then (3,(zF o.s.size).1,o.s.size)
 else if o.kind=6 then (2,(zF o.s.size).1,o.s.size)
 else if o.kind=7 then (4,(zF k).1,k)
 else if o.kind=8 then (5,(zF (k / 2)).1,k / 2)
 else if o.kind=9 then (6,(zF o.u.toNat).1,o.u.toNat)
 else (7,(zF o.u.toNat).1,o.u.toNat)
theorem zmh {o:Own} (k:Nat) (h:o.kind=1):hdO o k=((7,22,22)):=by
 unfold hdO
 rw [if_pos h]
theorem ze2 {o:Own} (k:Nat) (h:o.kind=2):hdO o k=(if o.b=true then (7,21,21) else (7,20,20)):=by
 unfold hdO
 rw [if_neg (by omega),if_pos h]
theorem ze3 {o:Own} (k:Nat) (h:o.kind=3):hdO o k=(match jv o.neg o.dg o.ex with
  | some (true,n)=>(1,(zF (n - 1)).1,n - 1)
  | some (false,n)=>(0,(zF n).1,n)
  | none=>(0,0,0)):=by
 unfold hdO
 rw [if_neg (by omega),if_neg (by omega),if_pos h]
theorem ze4 {o:Own} (k:Nat) (h:o.kind=4):hdO o k=((7,vl o.wd,o.u.toNat)):=by
 unfold hdO
 rw [if_neg (by omega),if_neg (by omega),if_neg (by omega),if_pos h]
theorem ze5 {o:Own} (k:Nat) (h:o.kind=5):hdO o k=((3,(zF o.s.size).1,o.s.size)):=by
 unfold hdO
 rw [if_neg (by omega),if_neg (by omega),if_neg (by omega),if_neg (by omega),if_pos h]
theorem ze6 {o:Own} (k:Nat) (h:o.kind=6):hdO o k=((2,(zF o.s.size).1,o.s.size)):=by
 unfold hdO
 rw [if_neg (by omega),if_neg (by omega),if_neg (by omega),if_neg (by omega),if_neg (by omega),if_pos h]
theorem ze7 {o:Own} (k:Nat) (h:o.kind=7):hdO o k=((4,(zF k).1,k)):=by
 unfold hdO
 rw [if_neg (by omega),if_neg (by omega),if_neg (by omega),if_neg (by omega),if_neg (by omega),if_neg (by omega),if_pos h]
theorem ze8 {o:Own} (k:Nat) (h:o.kind=8):hdO o k=((5,(zF (k / 2)).1,k / 2)):=by
 unfold hdO
 rw [if_neg (by omega),if_neg (by omega),if_neg (by omega),if_neg (by omega),if_neg (by omega),if_neg (by omega),if_neg (by omega),if_pos h]
theorem ze9 {o:Own} (k:Nat) (h:o.kind=9):hdO o k=((6,(zF o.u.toNat).1,o.u.toNat)):=by
 unfold hdO
 rw [if_neg (by omega),if_neg (by omega),if_neg (by omega),if_neg (by omega),if_neg (by omega),if_neg (by omega),if_neg (by omega),if_neg (by omega),if_pos h]
theorem zc7 {o:Own} (k:Nat) (h:o.kind=10):hdO o k=((7,(zF o.u.toNat).1,o.u.toNat)):=by
 unfold hdO
 rw [if_neg (by omega),if_neg (by omega),if_neg (by omega),if_neg (by omega),if_neg (by omega),if_neg (by omega),if_neg (by omega),if_neg (by omega),if_neg (by omega)]
def txO (o:Own):List UInt8:=if o.kind=5∨o.kind=6 then o.s.data.toList else []
mutual
def cbT:Tr→List UInt8
 | .nd o l=>kl (hdO o l.length)++(txO o++cbL l)
def cbL:List Tr→List UInt8
 | []=>[]
 | t::l=>cbT t++cbL l
end
theorem yY (t:Tr):cbT t=kl (hdO t.own t.kids.length)++(txO t.own++cbL t.kids):=by
 cases t
 rw [cbT]
 rfl
theorem wq:∀ a b:List Tr,cbL (a++b)=cbL a++cbL b
 | [],_=>rfl
 | t::a,b=>by
  show cbT t++cbL (a++b)=(cbT t++cbL a)++cbL b
  rw [wq a b,List.append_assoc]
structure ya (o:Own) (l:List Tr):Prop where
 own:ownB o l=true
 fit:qc 2 flC o l=true
 ok:zt o
 len:l.length<18446744073709551616
inductive znb (o:Own) (l:List Tr):Prop
 | null (h:o={ zv with kind:=1 }) (hl:l.length=0)
 | bool (h:o={ zv with kind:=2,b:=o.b }) (hl:l.length=0)
 | num (neg:Bool) (n:Nat) (h:o={ zv with kind:=3,neg:=o.neg,dg:=o.dg,ex:=o.ex }) (hn:jv o.neg o.dg o.ex=some (neg,n)) (hl:l.length=0)
 | float (h:o={ zv with kind:=4,u:=o.u,wd:=o.wd }) (hw:(o.wd=16∧o.u<65536)∨(o.wd=32∧o.u<4294967296)∨o.wd=64) (hl:l.length=0)
 | text (h:o={ zv with kind:=5,s:=o.s }) (hs:o.s.size≤400) (hv:Lib.validD o.s.data.toList=true) (hl:l.length=0)
 | bytes (h:o={ zv with kind:=6,s:=o.s }) (hs:o.s.size≤400) (hl:l.length=0)
 | array (h:o={ zv with kind:=7 })
 | map (h:o={ zv with kind:=8 }) (hl:l.length % 2=0) (hk:qP l=true) (hf:zG 2 l=true)
 | tag (h:o={ zv with kind:=9,u:=o.u }) (hl:l.length=1)
 | simple (h:o={ zv with kind:=10,u:=o.u }) (hu:o.u≤19∨o.u=23∨(32≤o.u∧o.u≤255)) (hl:l.length=0)
theorem ya.shape {o:Own} {l:List Tr} (h:ya o l):znb o l:=by
 obtain ⟨a,b,_,_⟩:=h
 unfold ownB at a
 unfold qc at b
 by_cases j:o.kind=1
 ·rw [if_pos j]at a
  simp only [Bool.and_eq_true,decide_eq_true_iff]at a
  exact .null (kZ a.2 j) a.1
 rw [if_neg j]at a
 by_cases k:o.kind=2
 ·rw [if_pos k]at a
  simp only [Bool.and_eq_true,decide_eq_true_iff]at a
  exact .bool (kZ a.2 k) a.1
 rw [if_neg k]at a
 by_cases f:o.kind=3
 ·rw [if_pos f]at a
  simp only [Bool.and_eq_true,decide_eq_true_iff]at a
  rw [if_neg (by omega),if_pos f]at b
  simp only [Bool.or_eq_true,Bool.and_eq_true,decide_eq_true_iff]at b
  have t:(jv o.neg o.dg o.ex).isSome=true:=by
   rcases b with b | b | b
   ·omega
   ·exact b.2
   ·omega
  obtain ⟨⟨neg,n⟩,hn⟩:=Option.isSome_iff_exists.1 t
  exact .num neg n (kZ a.2.1 f) hn a.1
 rw [if_neg f]at a
 by_cases m:o.kind=4
 ·rw [if_pos m]at a
  simp only [Bool.and_eq_true,decide_eq_true_iff]at a
  refine .float (kZ a.2.1 m) ?_ a.1
  have c:=a.2.2
  unfold j5 at c
  split at c
  ·rename_i e
   exact .inr (.inr e)
  ·split at c
   ·rename_i e
    exact .inl ⟨e,by simpa using c⟩
   ·split at c
    ·rename_i e
     exact .inr (.inl ⟨e,by simpa using c⟩)
    ·cases c
 rw [if_neg m]at a b
 rw [if_neg f]at b
 by_cases p:o.kind=5
 ·rw [if_pos p]at a
  simp only [Bool.and_eq_true,decide_eq_true_iff]at a
  exact .text (kZ a.2.1 p) a.2.2.1 a.2.2.2 a.1
 rw [if_neg p]at a
 by_cases q:o.kind=6
 ·rw [if_pos q]at a
  simp only [Bool.and_eq_true,decide_eq_true_iff]at a
  exact .bytes (kZ a.2.1 q) a.2.2 a.1
 rw [if_neg q]at a b
 by_cases r:o.kind=7
 ·rw [if_pos r]at a
  exact .array (kZ a r)
 rw [if_neg r]at a
 by_cases g:o.kind=8
 ·rw [if_pos g]at a
  simp only [Bool.and_eq_true,decide_eq_true_iff]at a
  rw [if_neg (by omega),if_neg (by omega),if_pos g,Bool.and_eq_true]at b
  exact .map (kZ a.1 g) a.2.1 a.2.2 b.2
 rw [if_neg g]at a
 by_cases s:o.kind=9
 ·rw [if_pos s]at a
  simp only [Bool.and_eq_true,decide_eq_true_iff]at a
  exact .tag (kZ a.2 s) a.1
 rw [if_neg s]at a
 by_cases d:o.kind=10
 ·rw [if_pos d]at a
  simp only [Bool.and_eq_true,Bool.or_eq_true,decide_eq_true_iff]at a
  exact .simple (kZ a.2.1 d) a.2.2 a.1
 rw [if_neg d]at a
 by_cases i:o.kind=11
 ·rw [if_neg (by omega),if_pos i]at b
  simp at b
 ·rw [if_neg i]at a
  cases a
def zbT (x:Nat×Nat×Nat):Int:=
 if x.1=0∨x.1=1 then 3 else if x.1=2 then 6 else if x.1=3 then 5 else if x.1=4 then 7 else if x.1=5 then 8 else if x.1=6 then 9
 else if x.2.1=20∨x.2.1=21 then 2 else if x.2.1=22 then 1 else if 25≤x.2.1 then 4 else 10
theorem zb6 {n:Nat} (h:n<24):(zF n).1=n:=by rw [zbs n h]
theorem zek {n:Nat} (h:¬ n<24) (a:n<256):(zF n).1=24:=by rw [zfY n h a]
theorem zaq {o:Own} {l:List Tr} (h:ya o l):za1 (hdO o l.length)∧zbT (hdO o l.length)=o.kind:=by
 have f:=h.ok
 have g:=h.len
 have r:=f.u
 rcases h.shape with ⟨h,_⟩ | ⟨h,_⟩ | ⟨neg,n,h,hn,_⟩ | ⟨h,a,_⟩ | ⟨h,j,_,_⟩ | ⟨h,j,_⟩ | ⟨h⟩ | ⟨h,q,_,_⟩ | ⟨h,_⟩ | ⟨h,p,_⟩
 ·have e:o.kind=1:=by rw [h]
  unfold hdO
  rw [if_pos e,e]
  exact ⟨⟨by decide,by decide,fun _=>rfl,fun h=>absurd h (by decide)⟩,by decide⟩
 ·have e:o.kind=2:=by rw [h]
  unfold hdO
  rw [if_neg (by omega),if_pos e,e]
  split
  ·exact ⟨⟨by decide,by decide,fun _=>rfl,fun h=>absurd h (by decide)⟩,by decide⟩
  ·exact ⟨⟨by decide,by decide,fun _=>rfl,fun h=>absurd h (by decide)⟩,by decide⟩
 ·have e:o.kind=3:=by rw [h]
  have d:=(xv hn).1
  unfold hdO
  rw [if_neg (by omega),if_neg (by omega),if_pos e,e,hn]
  cases neg with
  | true=>exact ⟨qs 1 (n - 1) (by decide) (by omega),rfl⟩
  | false=>exact ⟨qs 0 n (by decide) d,rfl⟩
 ·have e:o.kind=4:=by rw [h]
  unfold hdO vl
  rw [if_neg (by omega),if_neg (by omega),if_neg (by omega),if_pos e,e]
  rcases a with ⟨a,c⟩ | ⟨a,c⟩ | a
  ·rw [if_pos a]
   refine ⟨zik 7 25 _ (by decide) (by decide) (fun h=>absurd h (by decide)) (fun _=>?_),by simp [zbT]⟩
   show o.u.toNat<65536
   omega
  ·rw [if_neg (by omega),if_pos a]
   refine ⟨zik 7 26 _ (by decide) (by decide) (fun h=>absurd h (by decide)) (fun _=>?_),by simp [zbT]⟩
   show o.u.toNat<4294967296
   omega
  ·rw [if_neg (by omega),if_neg (by omega)]
   refine ⟨zik 7 27 _ (by decide) (by decide) (fun h=>absurd h (by decide)) (fun _=>?_),by simp [zbT]⟩
   show o.u.toNat<18446744073709551616
   omega
 ·have e:o.kind=5:=by rw [h]
  unfold hdO
  rw [if_neg (by omega),if_neg (by omega),if_neg (by omega),if_neg (by omega),if_pos e,e]
  exact ⟨qs 3 _ (by decide) (by omega),rfl⟩
 ·have e:o.kind=6:=by rw [h]
  unfold hdO
  rw [if_neg (by omega),if_neg (by omega),if_neg (by omega),if_neg (by omega),if_neg (by omega),if_pos e,e]
  exact ⟨qs 2 _ (by decide) (by omega),rfl⟩
 ·have e:o.kind=7:=by rw [h]
  unfold hdO
  rw [if_neg (by omega),if_neg (by omega),if_neg (by omega),if_neg (by omega),if_neg (by omega),if_neg (by omega),if_pos e,e]
  exact ⟨qs 4 _ (by decide) g,rfl⟩
 ·have e:o.kind=8:=by rw [h]
  unfold hdO
  rw [if_neg (by omega),if_neg (by omega),if_neg (by omega),if_neg (by omega),if_neg (by omega),if_neg (by omega),if_neg (by omega),if_pos e,e]
  exact ⟨qs 5 _ (by decide) (by omega),rfl⟩
 ·have e:o.kind=9:=by rw [h]
  unfold hdO
  rw [if_neg (by omega),if_neg (by omega),if_neg (by omega),if_neg (by omega),if_neg (by omega),if_neg (by omega),if_neg (by omega),if_neg (by omega),if_pos e,e]
  exact ⟨qs 6 _ (by decide) (by omega),rfl⟩
 ·have e:o.kind=10:=by rw [h]
  unfold hdO
  rw [if_neg (by omega),if_neg (by omega),if_neg (by omega),if_neg (by omega),if_neg (by omega),if_neg (by omega),if_neg (by omega),if_neg (by omega),if_neg (by omega),e]
  refine ⟨qs 7 _ (by decide) (by omega),?_⟩
  obtain ⟨m,i⟩:∃ m,o.u.toNat=m:=⟨_,rfl⟩
  rw [i]
  rcases Nat.lt_or_ge m 24 with b | k
  ·unfold zbT
   simp only [zb6 b]
   rw [if_neg (by omega),if_neg (by omega),if_neg (by omega),if_neg (by omega),if_neg (by omega),if_neg (by omega),if_neg (by omega),if_neg (by omega),if_neg (by omega)]
  ·unfold zbT
   simp only [zek (n:=m) (by omega) (by omega)]
   decide
theorem zcu {l:List Tr} (h:l.length=0):l=[]:=List.eq_nil_of_length_eq_zero h
theorem zmu {o o':Own} {l l':List Tr} {r r':List UInt8} (h:ya o l) (x:ya o' l') (e:kl (hdO o l.length)++(txO o++r)=kl (hdO o' l'.length)++(txO o'++r')):o=o'∧l.length=l'.length∧r=r':=by
 obtain ⟨D,E⟩:=zaq h
 obtain ⟨b1,b2⟩:=zaq x
 obtain ⟨a,d⟩:=zlh D b1 e
 have P:o.kind=o'.kind:=by rw [← E,← b2,a]
 have T:=h.ok.u
 have Q:=x.ok.u
 have g:∀ {p:Own},p.kind≠5→p.kind≠6→txO p=[]:=fun F G=>by
  unfold txO
  rw [if_neg (fun q=>q.elim F G)]
 have w:∀ {p:Own},(p.kind=5∨p.kind=6)→txO p=p.s.data.toList:=fun H=>by
  unfold txO
  rw [if_pos H]
 have key:∀ {s z:ByteArray},s.size=z.size→s.data.toList++r=z.data.toList++r'→s=z∧r=r':=fun y A=>by
  obtain ⟨L,M⟩:=List.append_inj A (by simpa using y)
  exact ⟨zae L,M⟩
 rcases h.shape with ⟨q,i⟩ | ⟨q,i⟩ | ⟨neg,n,q,hn,i⟩ | ⟨q,U,i⟩ | ⟨q,y,_,i⟩ | ⟨q,y,i⟩ | ⟨q⟩ | ⟨q,A,_,_⟩ | ⟨q,i⟩ | ⟨q,R,i⟩ <;>
 rcases x.shape with ⟨f,c⟩ | ⟨f,c⟩ | ⟨v,n',f,t,c⟩ | ⟨f,S,c⟩ | ⟨f,C,_,c⟩ | ⟨f,C,c⟩ | ⟨f⟩ | ⟨f,O,_,_⟩ | ⟨f,c⟩ | ⟨f,I,c⟩ <;>
 have e:=congrArg Own.kind q <;> have j:=congrArg Own.kind f <;> simp only []at e j <;> try (exfalso; omega)
 ·rw [g (by omega) (by omega),g (by omega) (by omega)]at d
  exact ⟨q.trans f.symm,i.trans c.symm,d⟩
 ·rw [g (by omega) (by omega),g (by omega) (by omega)]at d
  refine ⟨?_,i.trans c.symm,d⟩
  rw [ze2 _ e,ze2 _ j]at a
  have:o.b=o'.b:=by
   cases hb:o.b <;> cases hb':o'.b <;> rw [hb,hb']at a <;> first | rfl | (exact absurd a (by decide))
  rw [q,f,this]
 ·rw [g (by omega) (by omega),g (by omega) (by omega)]at d
  refine ⟨?_,i.trans c.symm,d⟩
  rw [ze3 _ e,ze3 _ j,hn,t]at a
  have J:=(xv hn).2
  have K:=(xv t).2
  have B:neg=v∧n=n':=by
   cases neg <;> cases v <;> simp only [Prod.mk.injEq]at a
   ·exact ⟨rfl,a.2.2⟩
   ·exact absurd a.1 (by decide)
   ·exact absurd a.1 (by decide)
   ·have:=J rfl
    have:=K rfl
    exact ⟨rfl,by omega⟩
  rw [B.1,B.2]at hn
  obtain ⟨k,m,N⟩:=zeC hn t
  rw [q,f,k,m,N]
 ·rw [g (by omega) (by omega),g (by omega) (by omega)]at d
  refine ⟨?_,i.trans c.symm,d⟩
  rw [ze4 _ e,ze4 _ j]at a
  unfold vl at a
  simp only [Prod.mk.injEq]at a
  have k:o.u=o'.u:=by omega
  have m:o.wd=o'.wd:=by
   have:=a.2.1
   split at this <;> split at this <;> (try split at this) <;> (try split at this) <;> omega
  rw [q,f,k,m]
 ·rw [w (.inl e),w (.inl j)]at d
  rw [ze5 _ e,ze5 _ j]at a
  simp only [Prod.mk.injEq]at a
  obtain ⟨k,m⟩:=key a.2.2 d
  exact ⟨by rw [q,f,k],i.trans c.symm,m⟩
 ·rw [w (.inr e),w (.inr j)]at d
  rw [ze6 _ e,ze6 _ j]at a
  simp only [Prod.mk.injEq]at a
  obtain ⟨k,m⟩:=key a.2.2 d
  exact ⟨by rw [q,f,k],i.trans c.symm,m⟩
 ·rw [g (by omega) (by omega),g (by omega) (by omega)]at d
  rw [ze7 _ e,ze7 _ j]at a
  simp only [Prod.mk.injEq]at a
  exact ⟨q.trans f.symm,a.2.2,d⟩
 ·rw [g (by omega) (by omega),g (by omega) (by omega)]at d
  rw [ze8 _ e,ze8 _ j]at a
  simp only [Prod.mk.injEq]at a
  exact ⟨q.trans f.symm,by omega,d⟩
 ·rw [g (by omega) (by omega),g (by omega) (by omega)]at d
  rw [ze9 _ e,ze9 _ j]at a
  simp only [Prod.mk.injEq]at a
  have k:o.u=o'.u:=by omega
  exact ⟨by rw [q,f,k],i.trans c.symm,d⟩
 ·rw [g (by omega) (by omega),g (by omega) (by omega)]at d
  rw [zc7 _ e,zc7 _ j]at a
  simp only [Prod.mk.injEq]at a
  have k:o.u=o'.u:=by omega
  exact ⟨by rw [q,f,k],i.trans c.symm,d⟩
mutual
def okC:Tr→Prop
 | .nd o l=>ya o l∧qW l
def qW:List Tr→Prop
 | []=>True
 | t::l=>okC t∧qW l
end
mutual
theorem zho:∀ (t f:Tr) (r a:List UInt8),okC t→okC f→cbT t++r=cbT f++a→t=f∧r=a
 | .nd o l,.nd n b,r,a,h,c,e=>by
  rw [okC]at h c
  rw [cbT,cbT,List.append_assoc,List.append_assoc,List.append_assoc,List.append_assoc]at e
  obtain ⟨g,i,j⟩:=zmu h.1 c.1 e
  obtain ⟨k,m⟩:=zhn l b r a i h.2 c.2 j
  exact ⟨by rw [g,k],m⟩
theorem zhn:∀ (l b:List Tr) (r a:List UInt8),l.length=b.length→qW l→qW b→cbL l++r=cbL b++a→l=b∧r=a
 | [],[],_,_,_,_,_,e=>⟨rfl,by simpa [cbL] using e⟩
 | [],_::_,_,_,d,_,_,_=>by simp at d
 | _::_,[],_,_,d,_,_,_=>by simp at d
 | t::l,f::b,r,a,d,h,c,e=>by
  rw [qW]at h c
  rw [cbL,cbL,List.append_assoc,List.append_assoc]at e
  obtain ⟨g,i⟩:=zho t f _ _ h.1 c.1 e
  obtain ⟨j,k⟩:=zhn l b r a (by simpa using d) h.2 c.2 i
  exact ⟨by rw [g,j],k⟩
end
end Go.Proofs.YtonihophanmaaaaGreatDoor
namespace Go.Proofs.YtonihophanmaaaaGreatDoor
open Go.RowKit Go.Shelf
def bs (l:List UInt8):ByteArray:=⟨l.toArray⟩
theorem yW (l:List UInt8):(bs l).data.toList=l:=rfl
theorem jR (l:List UInt8):(bs l).size=l.length:=rfl
theorem zal (s:ByteArray):bs s.data.toList=s:=by
 apply ByteArray.ext
 unfold bs
 simp
theorem vk (w:World) (r:Option Nat) (n:Nat):w.grownBy (w.drewN n) r:=⟨rfl,rfl,rfl,Nat.le_refl _,fun _ _ _=>rfl⟩
theorem jE {A B C:World} {p q:Nat} (h:A.grownBy B (some p)) (k:B.grownBy C (some q)) (c:A.heap.size≤q):A.grownBy C (some p):=
 ⟨k.os.trans h.os,k.tape.trans h.tape,k.output.trans h.output,Nat.le_trans h.size k.size,fun i a b=>(k.block i (Nat.lt_of_lt_of_le a h.size) (fun e=>by injection e with e; omega)).trans (h.block i a b)⟩
theorem grown_of {A B C:World} {r:Option Nat} (h:A.grownBy B r) (k:Below B.heap.size B C):A.grownBy C r:=zu h (below_grown k r)
theorem zmo {W:World} {S:Nat→Prop} {d k:Nat} {t:Tr} {x:Value} (g:LAt W S d t.kids x) (h:zt t.own) (f:Blk W k (zf t.own x) 28) (a:S k):LAt W S (d+1) [t] (.slice (some ⟨k,0,none⟩) 1 1):=by
 refine ⟨_,_,rfl,⟨by simp,by simp⟩,fun i c=>?_⟩
 have:i=0:=by simpa using c
 subst this
 refine ⟨_,x,rfl,a,h,fun j u l=>?_,g⟩
 have b:∀ m,(⟨k,0,none⟩:Addr).add m=⟨k,m,none⟩:=fun m=>by
  unfold Addr.add
  split
  ·rename_i e
   rw [e]
  ·simp
 rw [b,f.cell,Nat.zero_mul,Nat.zero_add,← l]
 unfold zf zp
 simp
theorem qf {w0 w w':World} {p:Nat} (b:Below w0.heap.size w0 w) (d:w0.heap.size≤p) (a:p<w.heap.size) (c:w.grownBy w' (some p)):Below w0.heap.size w0 w':=b.trans (vP c d a)
theorem LAt.keptC {W W':World} {S:Nat→Prop} {row:Option Nat} (e:W.grownBy W' row) (b:∀ r,row=some r→∃ o:Obj,W.heap[r]? = some o∧o.isCells=false):∀ {d:Nat} {l:List Tr} {v:Value},LAt W S d l v→LAt W' S d l v
 | 0,_,_,h=>h
 | d+1,l,v,⟨A,c,s,m,h⟩=>⟨A,c,s,m,fun i k=>by
   obtain ⟨a,x,g,p,n,hc,f⟩:=h i k
   exact ⟨a,x,g,p,n,fun j u q=>cell_kept (hc j u q) e b,f.keptC e b⟩⟩
theorem zV.keptC {W W':World} {S:Nat→Prop} {row:Option Nat} (b:W.grownBy W' row) (a:∀ r,row=some r→∃ o:Obj,W.heap[r]? = some o∧o.isCells=false) {d:Nat}:∀ {l:List Tr} {c:List Value},zV W S d l c→zV W' S d l c
 | [],_,h=>h
 | _::_,_,⟨y,r,g,f,e,h⟩=>⟨y,r,g,f,e.keptC b a,h.keptC b a⟩
theorem xu {W:World} {base size n:Nat} {e:TypeId} {v:Value} {xs:List Value} (h:W.ownsRow base e size v n xs) {g:Nat} (a:v.ownBlock=some g):∃ o:Obj,W.heap[g]? = some o∧o.isCells=true:=by
 rcases h.2 with ⟨rfl,_⟩ | ⟨b,d,f,rfl,_,c,_⟩
 ·cases a
 ·have:b=g:=by simpa [Value.ownBlock] using a
  subst this
  exact ⟨_,c,rfl⟩
theorem vZ {W W':World} {row:Option Nat} {base size n:Nat} {e:TypeId} {v:Value} {xs:List Value} (h:W.ownsRow base e size v n xs) (c:W.grownBy W' row) (f:∀ r,row=some r→∃ o:Obj,W.heap[r]? = some o∧o.isCells=false):W'.ownsRow base e size v n xs:=
 h.kept c (by
  cases hv:v.ownBlock with
  | none=>exact .inl rfl
  | some g =>
   refine .inr (fun e=>?_)
   obtain ⟨o,d,hc⟩:=xu h hv
   obtain ⟨i,b,a⟩:=f g e.symm
   rw [d]at b
   cases b
   rw [hc]at a
   cases a)
theorem zkj {w:World} {base n c g:Nat} {e:TypeId} {xs:List Value} (h:w.ownsRow base e 9 (.slice (some ⟨g,0,none⟩) (n+1) c) (n+1) xs):w.there g (n*9) 9:=by
 rcases h.2 with ⟨l,_⟩ | ⟨p,k,b,a,q,m,hn,hc,o,s⟩
 ·cases l
 ·injection a with a _ i
  injection a with a
  injection a with a
  subst a i
  have d:Blk w g b e:=m
  intro j r
  have f:n*9+j<b.size:=by rw [o]; omega
  refine ⟨?_,d.frozen _⟩
  rw [d.cell (n*9+j),Array.getElem?_eq_getElem f]
  rfl
theorem j3 {W:World} {k:Nat} (h:W.heap.size=k) (a:Array Value) (t:TypeId):Blk (W.alloc (.cells a t)) k a t:=h▸Blk.new W a t
theorem jB (w:World) (r:Option Nat):w.grownBy w r:=⟨rfl,rfl,rfl,Nat.le_refl _,fun _ _ _=>rfl⟩
theorem zbR {A B C:World} {p:Nat} {row:Option Nat} (h:A.grownBy B (some p)) (k:B.grownBy C row) {n:Nat} (hn:A.heap.size≤n) (c:∀ r,row=some r→n≤r):A.grownBy C (some p):=
 ⟨k.os.trans h.os,k.tape.trans h.tape,k.output.trans h.output,Nat.le_trans h.size k.size,fun i a b=>(k.block i (Nat.lt_of_lt_of_le a h.size) (fun e=>by have:=c i e.symm; omega)).trans (h.block i a b)⟩
theorem kw {W W':World} {b:Nat} {a:Array Value} {t:TypeId} (h:Blk W b a t) {row:Option Nat} (c:W.grownBy W' row) (d:∀ r,row=some r→∃ o:Obj,W.heap[r]? = some o∧o.isCells=false):Blk W' b a t:=
 jx (β:=Unit) b t (fun _=>a) () W W' row h c d
theorem zaz (k:Int) (u:Nat) (wd:Int) (a:0≤k∧k≤100) (b:u<18446744073709551616) (c:0≤wd∧wd≤100):zt { zv with kind:=k,u:=(u:Int),wd:=wd }:=
 ⟨by show (0:Nat)≤_; omega,by show (0:Nat)≤_; omega,by show _≤k∧k<_; omega,by show _≤(0:Int)∧(0:Int)<_; omega,by show (0:Int)≤(u:Int)∧(u:Int)<_; omega,by show _≤wd∧wd<_; omega⟩
theorem xK {w W:World} {p b:Nat} (c:Below w.heap.size w W) (d:w.heap.size≤b) (a:Array Value):w.grownBy (W.setRow b a) (some p):=
 jE (below_grown c _) (zx W b a) d
theorem zmk {n:Bool} {g:ByteArray} {e:Int} (h:qo n g e=true):zt { zv with kind:=3,neg:=n,dg:=g,ex:=e }:=by
 unfold qo at h
 rw [Bool.and_eq_true,Bool.and_eq_true,decide_eq_true_iff]at h
 obtain ⟨_,b,a⟩:=h
 have c : -100≤e∧e≤100:=by
  split at a
  ·rw [Bool.and_eq_true,decide_eq_true_iff]at a
   omega
  ·rw [Bool.and_eq_true,Bool.and_eq_true,decide_eq_true_iff,decide_eq_true_iff]at a
   exact ⟨a.1,a.2.1⟩
 exact ⟨by show g.size≤_; omega,by show (0:Nat)≤_; omega,by show _≤(3:Int)∧(3:Int)<_; omega,by show _≤e∧e<_; omega,by show (0:Int)≤(0:Int)∧(0:Int)<_; omega,by show _≤(0:Int)∧(0:Int)<_; omega⟩
end Go.Proofs.YtonihophanmaaaaGreatDoor
namespace Go.Proofs
open Go.Shelf
def Tryz.sortPairs_ren:Go.Shelf.Ren:=⟨fun | 6=>94 | 15=>136 | 14=>135 | 28=>194 | 29=>124 | 20=>186 | 21=>187 | 22=>188 | 23=>189 | 24=>190 | 25=>191 | 26=>192 | 27=>193 | 46=>224 | 47=>225 | 48=>226 | 49=>227 | 50=>228 | 57=>260 | n=>n,fun | 22=>117 | 24=>124 | 25=>126 | 3=>3 | 39=>131 | 0=>0 | 53=>226 | 55=>25 | 4=>4 | 46=>219 | 45=>218 | 50=>223 | 5=>5 | 9=>9 | 66=>256 | 70=>260 | 76=>291 | 77=>129 | n=>n,fun | n=>n⟩
theorem Tryz.sortPairs:Go.Proofs.SlLaysF0.n6 Tryz.prog Tryz.sortPairs_ren:={
 mixed:=by kernel_rfl
 f6:=⟨Tryz.f94.name,by decide,Tryz.func94.trans (congrArg some (by kernel_rfl))⟩
 f14:=⟨Tryz.f135.name,by decide,Tryz.func135.trans (congrArg some (by kernel_rfl))⟩
 f15:=Tryz.func136.trans (congrArg some (by kernel_rfl))
 f20:=⟨Tryz.f186.name,by decide,Tryz.func186.trans (congrArg some (by kernel_rfl))⟩
 f21:=⟨Tryz.f187.name,by decide,Tryz.func187.trans (congrArg some (by kernel_rfl))⟩
 f22:=⟨Tryz.f188.name,by decide,Tryz.func188.trans (congrArg some (by kernel_rfl))⟩
 f23:=⟨Tryz.f189.name,by decide,Tryz.func189.trans (congrArg some (by kernel_rfl))⟩
 f24:=⟨Tryz.f190.name,by decide,Tryz.func190.trans (congrArg some (by kernel_rfl))⟩
 f25:=⟨Tryz.f191.name,by decide,Tryz.func191.trans (congrArg some (by kernel_rfl))⟩
 f26:=⟨Tryz.f192.name,by decide,Tryz.func192.trans (congrArg some (by kernel_rfl))⟩
 f27:=⟨Tryz.f193.name,by decide,Tryz.func193.trans (congrArg some (by kernel_rfl))⟩
 f28:=Tryz.func194.trans (congrArg some (by kernel_rfl))
 f29:=Tryz.func124.trans (congrArg some (by kernel_rfl))
 f46:=⟨Tryz.f224.name,by decide,Tryz.func224.trans (congrArg some (by kernel_rfl))⟩
 f47:=Tryz.func225.trans (congrArg some (by kernel_rfl))
 f48:=Tryz.func226.trans (congrArg some (by kernel_rfl))
 f49:=⟨Tryz.f227.name,by decide,Tryz.func227.trans (congrArg some (by kernel_rfl))⟩
 f50:=⟨Tryz.f228.name,by decide,Tryz.func228.trans (congrArg some (by kernel_rfl))⟩
 f57:=⟨Tryz.f260.name,by decide,Tryz.func260.trans (congrArg some (by kernel_rfl))⟩
 t0:=Tryz.underlying0
 a0:=Tryz.isAgg0
 z0:=Tryz.sizeOf0
 v0:=Tryz.zeroValue0
 t3:=Tryz.underlying3
 a3:=Tryz.isAgg3
 z3:=Tryz.sizeOf3
 v3:=Tryz.zeroValue3
 t4:=Tryz.underlying4
 a4:=Tryz.isAgg4
 z4:=Tryz.sizeOf4
 v4:=Tryz.zeroValue4
 t5:=Tryz.underlying5
 a5:=Tryz.isAgg5
 z5:=Tryz.sizeOf5
 v5:=Tryz.zeroValue5
 t9:=Tryz.underlying9
 a9:=Tryz.isAgg9
 z9:=Tryz.sizeOf9
 v9:=Tryz.zeroValue9
 t22:=Tryz.underlying117
 a22:=Tryz.isAgg117
 z22:=Tryz.sizeOf117
 v22:=Tryz.zeroValue117
 t25:=Tryz.underlying126
 a25:=Tryz.isAgg126
 z25:=Tryz.sizeOf126
 v25:=Tryz.zeroValue126
 t39:=Tryz.underlying131
 a39:=Tryz.isAgg131
 z39:=Tryz.sizeOf131
 v39:=Tryz.zeroValue131
 t45:=Tryz.underlying218
 a45:=Tryz.isAgg218
 z45:=Tryz.sizeOf218
 v45:=Tryz.zeroValue218
 t46:=Tryz.underlying219
 a46:=Tryz.isAgg219
 z46:=Tryz.sizeOf219
 v46:=Tryz.zeroValue219
 t50:=Tryz.underlying223
 a50:=Tryz.isAgg223
 z50:=Tryz.sizeOf223
 v50:=Tryz.zeroValue223
 t53:=Tryz.underlying226
 a53:=Tryz.isAgg226
 z53:=Tryz.sizeOf226
 v53:=Tryz.zeroValue226
 t55:=Tryz.underlying25
 a55:=Tryz.isAgg25
 z55:=Tryz.sizeOf25
 v55:=Tryz.zeroValue25
 t66:=Tryz.underlying256
 a66:=Tryz.isAgg256
 z66:=Tryz.sizeOf256
 v66:=Tryz.zeroValue256
 t70:=Tryz.underlying260
 a70:=Tryz.isAgg260
 z70:=Tryz.sizeOf260
 v70:=Tryz.zeroValue260
 t76:=Tryz.underlying291
 a76:=Tryz.isAgg291
 z76:=Tryz.sizeOf291
 v76:=Tryz.zeroValue291
 t77:=Tryz.underlying129
 a77:=Tryz.isAgg129
 z77:=Tryz.sizeOf129
 v77:=Tryz.zeroValue129 }
end Go.Proofs
