/- The texts CrA, CrB, CrC, CrD, CrE, CrF, CrG, put together. -/
import Derived.Test.YtonihophanmaaaaGreatDoorPa06
import Derived.Test.YtonihophanmaaaaGreatDoorPa04
import Derived.Test.YtonihophanmaaaaGreatDoorPa01
import Derived.Test.YtonihophanmaaaaGreatDoorPa03
import Derived.Test.YtonihophanmaaaaGreatDoorPa33
import Derived.Deep.MidRow
import Derived.Test.YtonihophanmaaaaGreatDoorPa32
namespace Go.Proofs.YtonihophanmaaaaGreatDoor
def OwnP {α:Type} (p:Psr α) (a:α) (l r:List UInt8):Prop:=
 ∃ own,l=own++r∧(∀ m,p (own++m)=.good a m)∧∀ k,k<own.length→p (own.take k)=.bad 100
def GoodP {α:Type} (p:Psr α):Prop:=∀ l a r,p l=.good a r→OwnP p a l r
def WantP {α:Type} (p:Psr α):Prop:=p []=.bad 100
theorem goodP_pure {α:Type} (a:α):GoodP (pureP a):=fun l b r h=>by
 unfold pureP at h
 injection h with h1 h2
 subst h1 h2
 exact ⟨[],rfl,fun _=>rfl,fun k hk=>absurd hk (by simp)⟩
theorem goodP_bad {α:Type} (e:Int):GoodP (badP (α:=α) e):=fun l b r h=>by
 unfold badP at h
 cases h
theorem goodP_bind {α β:Type} {p:Psr α} {f:α→Psr β} (hp:GoodP p) (hf:∀ a,GoodP (f a)):GoodP (bindP p f):=fun l b r h=>by
 obtain ⟨a,s,h1,h2⟩:=bindP_good h
 obtain ⟨o1,e1,g1,k1⟩:=hp l a s h1
 obtain ⟨o2,e2,g2,k2⟩:=hf a s b r h2
 refine ⟨o1++o2,by rw [e1,e2,List.append_assoc],fun m=>?_,fun k hk=>?_⟩
 ·rw [List.append_assoc,bindP_of (g1 _),g2]
 ·rcases Nat.lt_or_ge k o1.length with h | h
  ·rw [List.take_append_of_le_length (by omega),bindP_bad (k1 k h)]
  ·rw [List.take_append,List.take_of_length_le h,bindP_of (g1 _)]
   rw [List.length_append]at hk
   exact k2 _ (by omega)
theorem wantP_bind {α β:Type} {p:Psr α} {f:α→Psr β} (hp:WantP p):WantP (bindP p f):=bindP_bad hp
theorem goodP_ite {α:Type} {c:Prop} [Decidable c] {p q:Psr α} (hp:GoodP p) (hq:GoodP q):GoodP (if c then p else q):=by
 split
 ·exact hp
 ·exact hq
theorem own_pos {α:Type} {p:Psr α} (hw:WantP p) {own:List UInt8} {a:α} (h:∀ m,p (own++m)=.good a m):0<own.length:=by
 rcases Nat.eq_zero_or_pos own.length with h0 | h0
 ·have e:=List.eq_nil_of_length_eq_zero h0
  subst e
  have:=h []
  rw [List.append_nil]at this
  unfold WantP at hw
  rw [hw]at this
  cases this
 ·exact h0
def bytesP (n:Nat):Psr (List UInt8):=fun l=>if l.length<n then .bad 100 else .good (l.take n) (l.drop n)
theorem goodP_bytes (n:Nat):GoodP (bytesP n):=fun l a r h=>by
 unfold bytesP at h
 split at h
 ·cases h
 rename_i hn
 injection h with h1 h2
 subst h1 h2
 have hl:(l.take n).length=n:=by
  rw [List.length_take]
  omega
 refine ⟨l.take n,(List.take_append_drop n l).symm,fun m=>?_,fun k hk=>?_⟩
 ·unfold bytesP
  rw [if_neg (by rw [List.length_append,hl]; omega),List.take_left' hl,List.drop_left' hl]
 ·unfold bytesP
  rw [if_pos (by rw [List.length_take,hl]; omega)]
def endP {α:Type} (a:α) (p:Psr α):Psr α:=fun l=>match l with
 | []=>p []
 | c::r=>if c=255 then .good a r else p (c::r)
theorem goodP_end {α:Type} {a:α} {p:Psr α} (hp:GoodP p) (hw:WantP p):GoodP (endP a p):=fun l b r h=>by
 cases l with
 | nil =>
  have h:p []=.good b r:=h
  rw [hw]at h
  cases h
 | cons c s =>
  by_cases hc:c=255
  ·subst hc
   have h:PR.good a s=.good b r:=by
    unfold endP at h
    simpa using h
   injection h with h1 h2
   subst h1 h2
   refine ⟨[255],rfl,fun m=>by simp [endP],fun k hk=>?_⟩
   have:k=0:=by simpa using hk
   subst this
   exact hw
  ·have h':p (c::s)=.good b r:=by
    unfold endP at h
    simpa [hc] using h
   obtain ⟨own,e,g,k⟩:=hp _ _ _ h'
   have h0:=own_pos hw g
   cases own with
   | nil=>simp at h0
   | cons d t =>
    have ed:d=c:=by injection e with e1 _; exact e1.symm
    subst ed
    refine ⟨d::t,e,fun m=>?_,fun j hj=>?_⟩
    ·have:=g m
     have e2:endP a p (d::(t++m))=p (d::(t++m)):=by
      unfold endP
      simp [hc]
     exact e2.trans this
    ·cases j with
     | zero=>exact hw
     | succ j =>
      have:=k (j+1) hj
      have e2:endP a p (d::t.take j)=p (d::t.take j):=by
       unfold endP
       simp [hc]
      exact e2.trans this
def headE (e:Nat):Int:=if e=101 then 110 else e
def headP:Psr (Nat×Nat×Nat):=fun l=>if (readL l).err=0 then .good ((readL l).maj,(readL l).info,(readL l).arg) (readL l).rest else .bad (headE (readL l).err)
theorem wantP_head:WantP headP:=rfl
theorem readL_cons (b:UInt8) (r:List UInt8):readL (b::r)=if b.toNat % 32<24 then ⟨b.toNat / 32,b.toNat % 32,b.toNat % 32,r,0⟩
  else if b.toNat % 32=31 then ⟨b.toNat / 32,31,0,r,0⟩
  else if 27<b.toNat % 32 then ⟨0,0,0,b::r,101⟩
  else if r.length<2 ^ (b.toNat % 32 - 24) then ⟨0,0,0,b::r,100⟩
  else ⟨b.toNat / 32,b.toNat % 32,beVal (r.take (2 ^ (b.toNat % 32 - 24))),r.drop (2 ^ (b.toNat % 32 - 24)),0⟩:=rfl
theorem goodP_head:GoodP headP:=fun l a r h=>by
 cases l with
 | nil=>cases h
 | cons b s =>
  unfold headP at h
  rw [readL_cons]at h
  by_cases h1:b.toNat % 32<24
  ·simp only [if_pos h1,if_true]at h
   injection h with e1 e2
   subst e1 e2
   refine ⟨[b],rfl,fun m=>?_,fun k hk=>?_⟩
   ·show headP (b::m)=_
    unfold headP
    rw [readL_cons]
    simp only [if_pos h1,if_true]
   ·have:k=0:=by simpa using hk
    subst this
    rfl
  ·by_cases h2:b.toNat % 32=31
   ·simp only [if_neg h1,if_pos h2,if_true]at h
    injection h with e1 e2
    subst e1 e2
    refine ⟨[b],rfl,fun m=>?_,fun k hk=>?_⟩
    ·show headP (b::m)=_
     unfold headP
     rw [readL_cons]
     simp only [if_neg h1,if_pos h2,if_true]
    ·have:k=0:=by simpa using hk
     subst this
     rfl
   ·by_cases h3:27<b.toNat % 32
    ·simp only [if_neg h1,if_neg h2,if_pos h3]at h
     cases h
    ·simp only [if_neg h1,if_neg h2,if_neg h3]at h
     obtain ⟨x,hx⟩:∃ x,2 ^ (b.toNat % 32 - 24)=x:=⟨_,rfl⟩
     rw [hx]at h
     by_cases h4:s.length<x
     ·simp only [if_pos h4]at h
      cases h
     ·simp only [if_neg h4,if_true]at h
      injection h with e1 e2
      subst e1 e2
      have hl:(s.take x).length=x:=by
       rw [List.length_take]
       omega
      refine ⟨b::s.take x,by rw [List.cons_append,List.take_append_drop],fun m=>?_,fun k hk=>?_⟩
      ·show headP (b::(s.take x++m))=_
       unfold headP
       rw [readL_cons]
       simp only [if_neg h1,if_neg h2,if_neg h3,hx]
       have h5:¬ (s.take x++m).length<x:=by
        rw [List.length_append,hl]
        omega
       simp only [if_neg h5,if_true]
       rw [List.take_left' hl,List.drop_left' hl]
      ·cases k with
       | zero=>rfl
       | succ k =>
        show headP (b::(s.take x).take k)=_
        unfold headP
        rw [readL_cons]
        simp only [if_neg h1,if_neg h2,if_neg h3,hx]
        have h5:((s.take x).take k).length<x:=by
         rw [List.length_take,hl]
         rw [List.length_cons,hl]at hk
         omega
        simp only [if_pos h5]
        rfl
end Go.Proofs.YtonihophanmaaaaGreatDoor
namespace Go.Proofs.YtonihophanmaaaaGreatDoor
open Go.RowKit Go.Shelf
def chunkP (maj:Nat):Psr (List UInt8):=bindP headP fun h=>if h.1≠maj∨h.2.1=31 then badP 110 else bytesP h.2.2
def chunksP (maj:Nat):Nat→List UInt8→Psr (List UInt8)
 | 0,_=>badP 100
 | f+1,acc=>endP acc (bindP (chunkP maj) fun c=>chunksP maj f (acc++c))
def textP (F:Nat) (h:Nat×Nat×Nat):Psr (List UInt8):=if h.2.1=31 then chunksP h.1 F [] else bytesP h.2.2
def timesP (p:Psr Tr):Nat→List Tr→Psr (List Tr)
 | 0,acc=>pureP acc
 | n+1,acc=>bindP p fun t=>timesP p n (acc++[t])
def openP (p:Psr Tr) (size:Nat):Nat→List Tr→Psr (List Tr)
 | 0,_=>badP 100
 | f+1,acc=>endP acc (bindP (timesP p size acc) fun l=>openP p size f l)
def listP (F:Nat) (p:Psr Tr) (size:Nat) (h:Nat×Nat×Nat):Psr (List Tr):=if h.2.1=31 then openP p size F [] else timesP p (size*h.2.2) []
def numT (neg:Bool) (n:Nat):Tr:=.nd { zeroO with kind:=3,neg:=(ofN neg n).1,dg:=(ofN neg n).2.1,ex:=(ofN neg n).2.2 } []
def floatT (u wd:Nat):Tr:=.nd { zeroO with kind:=4,u:=u,wd:=wd } []
def simpleT (u:Nat):Tr:=.nd { zeroO with kind:=10,u:=u } []
def tagT (u:Nat) (t:Tr):Tr:=.nd { zeroO with kind:=9,u:=u } [t]
def otherP (h:Nat×Nat×Nat):Psr Tr:=
 if h.2.1=20∨h.2.1=21 then pureP (boolT (decide (h.2.1=21)))
 else if h.2.1=22 then pureP nilT
 else if h.2.1=24 then (if h.2.2<32 then badP 110 else pureP (simpleT h.2.2))
 else if h.2.1=25 then pureP (floatT h.2.2 16)
 else if h.2.1=26 then pureP (floatT h.2.2 32)
 else if h.2.1=27 then pureP (floatT h.2.2 64)
 else if h.2.1=31 then badP 110
 else pureP (simpleT h.2.2)
def bodyP (F:Nat) (p:Psr Tr) (h:Nat×Nat×Nat):Psr Tr:=
 if (h.1<2∨h.1=6)∧h.2.1=31 then badP 110
 else if h.1=0 then pureP (numT false h.2.2)
 else if h.1=1 then pureP (numT true (h.2.2+1))
 else if h.1=2 then bindP (textP F h) fun s=>pureP (strT 6 s)
 else if h.1=3 then bindP (textP F h) fun s=>pureP (strT 5 s)
 else if h.1=4 then bindP (listP F p 1 h) fun l=>pureP (listT 7 l)
 else if h.1=5 then bindP (listP F p 2 h) fun l=>pureP (listT 8 l)
 else if h.1=6 then bindP p fun t=>pureP (tagT h.2.2 t)
 else otherP h
def itemP (F:Nat):Nat→Psr Tr
 | 0=>fun l=>if l=[] then .bad 100 else .bad 60
 | d+1=>bindP headP fun h=>bodyP F (itemP F d) h
theorem goodP_chunk (maj:Nat):GoodP (chunkP maj):=goodP_bind goodP_head fun _=>goodP_ite (goodP_bad _) (goodP_bytes _)
theorem wantP_chunk (maj:Nat):WantP (chunkP maj):=wantP_bind wantP_head
theorem goodP_chunks (maj:Nat):∀ f acc,GoodP (chunksP maj f acc)
 | 0,_=>goodP_bad _
 | f+1,_=>goodP_end (goodP_bind (goodP_chunk maj) fun _=>goodP_chunks maj f _) (wantP_bind (wantP_chunk maj))
theorem goodP_text (F:Nat) (h:Nat×Nat×Nat):GoodP (textP F h):=goodP_ite (goodP_chunks _ _ _) (goodP_bytes _)
theorem goodP_times {p:Psr Tr} (hp:GoodP p):∀ n acc,GoodP (timesP p n acc)
 | 0,_=>goodP_pure _
 | n+1,_=>goodP_bind hp fun _=>goodP_times hp n _
theorem wantP_times {p:Psr Tr} (hw:WantP p) (n:Nat) (acc:List Tr):WantP (timesP p (n+1) acc):=wantP_bind hw
theorem goodP_open {p:Psr Tr} (hp:GoodP p) (hw:WantP p) (size:Nat):∀ f acc,GoodP (openP p (size+1) f acc)
 | 0,_=>goodP_bad _
 | f+1,_=>goodP_end (goodP_bind (goodP_times hp _ _) fun l=>goodP_open hp hw size f l) (wantP_bind (wantP_times hw _ _))
theorem goodP_list {p:Psr Tr} (hp:GoodP p) (hw:WantP p) (F size:Nat) (h:Nat×Nat×Nat):GoodP (listP F p (size+1) h):=goodP_ite (goodP_open hp hw _ _ _) (goodP_times hp _ _)
theorem goodP_other (h:Nat×Nat×Nat):GoodP (otherP h):=
 goodP_ite (goodP_pure _) (goodP_ite (goodP_pure _) (goodP_ite (goodP_ite (goodP_bad _) (goodP_pure _)) (goodP_ite (goodP_pure _) (goodP_ite (goodP_pure _) (goodP_ite (goodP_pure _) (goodP_ite (goodP_bad _) (goodP_pure _)))))))
theorem goodP_body {p:Psr Tr} (hp:GoodP p) (hw:WantP p) (F:Nat) (h:Nat×Nat×Nat):GoodP (bodyP F p h):=
 goodP_ite (goodP_bad _) (goodP_ite (goodP_pure _) (goodP_ite (goodP_pure _) (goodP_ite (goodP_bind (goodP_text _ _) fun _=>goodP_pure _) (goodP_ite (goodP_bind (goodP_text _ _) fun _=>goodP_pure _)
  (goodP_ite (goodP_bind (goodP_list hp hw _ _ _) fun _=>goodP_pure _) (goodP_ite (goodP_bind (goodP_list hp hw _ _ _) fun _=>goodP_pure _) (goodP_ite (goodP_bind hp fun _=>goodP_pure _) (goodP_other _))))))))
theorem wantP_item (F d:Nat):WantP (itemP F d):=by
 cases d with
 | zero=>rfl
 | succ d=>exact wantP_bind wantP_head
theorem goodP_item (F:Nat):∀ d,GoodP (itemP F d)
 | 0=>fun l a r h=>by
  unfold itemP at h
  split at h <;> cases h
 | d+1=>goodP_bind goodP_head fun h=>goodP_body (goodP_item F d) (wantP_item F d) F h
theorem head_item (x:Nat×Nat×Nat) (h:HdOk x) (t:List UInt8):headP (itemL x++t)=.good x t:=by
 unfold headP
 rw [readL_item x h t]
 rfl
theorem bytes_all (l m:List UInt8):bytesP l.length (l++m)=.good l m:=by
 unfold bytesP
 rw [if_neg (by rw [List.length_append]; omega),List.take_left' rfl,List.drop_left' rfl]
mutual
theorem write_back (F:Nat):∀ (t:Tr) (d:Nat) (m:List UInt8),okC t→t.depth≤d→itemP F d (cbT t++m)=.good t m
 | .nd o l,0,m,_,hd=>by
  rw [Tr.depth]at hd
  omega
 | .nd o l,d+1,m,hok,hd=>by
  rw [okC]at hok
  rw [Tr.depth]at hd
  have hf:=hd_facts hok.1
  have hu:=hok.1.ok.u
  have hli:=write_backL F l d [] m hok.2 (by omega)
  rw [List.nil_append]at hli
  rw [cbT,List.append_assoc]
  show bindP headP _ _=_
  rw [bindP_of (head_item _ hf.1 _)]
  rcases hok.1.shape with ⟨h,hl⟩ | ⟨h,hl⟩ | ⟨neg,n,h,hn,hl⟩ | ⟨h,hw,hl⟩ | ⟨h,hs,_,hl⟩ | ⟨h,hs,hl⟩ | ⟨h⟩ | ⟨h,he,_,_⟩ | ⟨h,h1⟩ | ⟨h,hu',hl⟩
  ·have hk:=congrArg Own.kind h
   simp only []at hk
   have hl0:=len0 hl
   subst hl0
   rw [hdO_1 _ hk]
   show PR.good nilT (txO o++cbL []++m)=_
   unfold txO
   rw [if_neg (by omega),cbL,h]
   rfl
  ·have hk:=congrArg Own.kind h
   simp only []at hk
   have hl0:=len0 hl
   subst hl0
   have hx:txO o=[]:=by
    unfold txO
    rw [if_neg (by omega)]
   rw [hdO_2 _ hk,hx,cbL]
   cases hb:o.b with
   | true =>
    show PR.good (boolT true) m=_
    rw [h,hb]
    rfl
   | false =>
    show PR.good (boolT false) m=_
    rw [h,hb]
    rfl
  ·have hk:=congrArg Own.kind h
   simp only []at hk
   have hl0:=len0 hl
   subst hl0
   have ho:=toInt_ofN hn
   have hp:=(toInt_lt hn).2
   have hx:txO o=[]:=by
    unfold txO
    rw [if_neg (by omega)]
   have hlt:=(toInt_lt hn).1
   have hlf:∀ k,k≤n→(leastN k).1≠31:=fun k hk=>by
    have:=(least_ok 3 k (by decide) (by omega)).info
    simp only []at this
    omega
   rw [hdO_3 _ hk,hn,hx,cbL]
   have hnt:numT neg n=.nd o []:=by
    unfold numT
    rw [ho,h]
   cases neg with
   | true =>
    show bodyP F (itemP F d) (1,(leastN (n - 1)).1,n - 1) m=_
    unfold bodyP
    rw [if_neg (fun q=>hlf (n - 1) (by omega) q.2),if_neg (by simp),if_pos rfl]
    show PR.good (numT true (n - 1+1)) m=_
    rw [show n - 1+1=n by have:=hp rfl; omega,hnt]
   | false =>
    show bodyP F (itemP F d) (0,(leastN n).1,n) m=_
    unfold bodyP
    rw [if_neg (fun q=>hlf n (by omega) q.2),if_pos rfl]
    show PR.good (numT false n) m=_
    rw [hnt]
  ·have hk:=congrArg Own.kind h
   simp only []at hk
   have hl0:=len0 hl
   subst hl0
   rw [hdO_4 _ hk]
   unfold txO
   rw [if_neg (by omega),cbL]
   have hu2:((o.u.toNat:Nat):Int)=o.u:=by omega
   rcases hw with ⟨hw,_⟩ | ⟨hw,_⟩ | hw
   ·rw [show infoW o.wd=25 by unfold infoW; rw [if_pos hw]]
    show PR.good (floatT o.u.toNat 16) m=_
    unfold floatT
    rw [hu2]
    rw [h,hw]
    rfl
   ·rw [show infoW o.wd=26 by unfold infoW; rw [if_neg (by omega),if_pos hw]]
    show PR.good (floatT o.u.toNat 32) m=_
    unfold floatT
    rw [hu2]
    rw [h,hw]
    rfl
   ·rw [show infoW o.wd=27 by unfold infoW; rw [if_neg (by omega),if_neg (by omega)]]
    show PR.good (floatT o.u.toNat 64) m=_
    unfold floatT
    rw [hu2]
    rw [h,hw]
    rfl
  ·have hk:=congrArg Own.kind h
   simp only []at hk
   have hl0:=len0 hl
   subst hl0
   rw [hdO_5 _ hk]
   have hli:(leastN o.s.size).1≠31:=by
    have:=(least_ok 3 o.s.size (by decide) (by have:=hok.1.ok.s; omega)).info
    simp only []at this
    omega
   have e1:txO o=o.s.data.toList:=by
    unfold txO
    rw [if_pos (.inl hk)]
   have e2:bodyP F (itemP F d) (3,(leastN o.s.size).1,o.s.size) (o.s.data.toList++m)=bindP (bytesP o.s.size) (fun s=>pureP (strT 5 s)) (o.s.data.toList++m):=by
    unfold bodyP textP
    rw [if_neg (by simp),if_neg (by simp),if_neg (by simp),if_neg (by simp),if_pos rfl,if_neg hli]
   have e3:=bytes_all o.s.data.toList m
   rw [show o.s.data.toList.length=o.s.size by simp]at e3
   rw [e1,cbL,List.append_nil,e2,bindP_of e3]
   show PR.good (strT 5 o.s.data.toList) m=_
   unfold strT
   rw [str_back]
   rw [← h]
  ·have hk:=congrArg Own.kind h
   simp only []at hk
   have hl0:=len0 hl
   subst hl0
   rw [hdO_6 _ hk]
   have hli:(leastN o.s.size).1≠31:=by
    have:=(least_ok 3 o.s.size (by decide) (by have:=hok.1.ok.s; omega)).info
    simp only []at this
    omega
   have e1:txO o=o.s.data.toList:=by
    unfold txO
    rw [if_pos (.inr hk)]
   have e2:bodyP F (itemP F d) (2,(leastN o.s.size).1,o.s.size) (o.s.data.toList++m)=bindP (bytesP o.s.size) (fun s=>pureP (strT 6 s)) (o.s.data.toList++m):=by
    unfold bodyP textP
    rw [if_neg (by simp),if_neg (by simp),if_neg (by simp),if_pos rfl,if_neg hli]
   have e3:=bytes_all o.s.data.toList m
   rw [show o.s.data.toList.length=o.s.size by simp]at e3
   rw [e1,cbL,List.append_nil,e2,bindP_of e3]
   show PR.good (strT 6 o.s.data.toList) m=_
   unfold strT
   rw [str_back]
   rw [← h]
  ·have hk:=congrArg Own.kind h
   simp only []at hk
   rw [hdO_7 _ hk]
   unfold txO
   rw [if_neg (by omega),List.nil_append]
   have hlf:(leastN l.length).1≠31:=by
    have:=(least_ok 4 l.length (by decide) hok.1.len).info
    simp only []at this
    omega
   have e2:bodyP F (itemP F d) (4,(leastN l.length).1,l.length) (cbL l++m)=bindP (timesP (itemP F d) (1*l.length) []) (fun l=>pureP (listT 7 l)) (cbL l++m):=by
    unfold bodyP listP
    rw [if_neg (by simp),if_neg (by simp),if_neg (by simp),if_neg (by simp),if_neg (by simp),if_pos rfl,if_neg hlf]
   rw [e2,Nat.one_mul,bindP_of hli]
   show PR.good (listT 7 l) m=_
   unfold listT
   rw [← h]
  ·have hk:=congrArg Own.kind h
   simp only []at hk
   rw [hdO_8 _ hk]
   unfold txO
   rw [if_neg (by omega),List.nil_append]
   have hlf:(leastN (l.length / 2)).1≠31:=by
    have:=(least_ok 5 (l.length / 2) (by decide) (by have:=hok.1.len; omega)).info
    simp only []at this
    omega
   have e2:bodyP F (itemP F d) (5,(leastN (l.length / 2)).1,l.length / 2) (cbL l++m)=bindP (timesP (itemP F d) (2*(l.length / 2)) []) (fun l=>pureP (listT 8 l)) (cbL l++m):=by
    unfold bodyP listP
    rw [if_neg (by simp),if_neg (by simp),if_neg (by simp),if_neg (by simp),if_neg (by simp),if_neg (by simp),if_pos rfl,if_neg hlf]
   rw [e2,show 2*(l.length / 2)=l.length by omega,bindP_of hli]
   show PR.good (listT 8 l) m=_
   unfold listT
   rw [← h]
  ·have hk:=congrArg Own.kind h
   simp only []at hk
   rw [hdO_9 _ hk]
   unfold txO
   rw [if_neg (by omega),List.nil_append]
   have hlf:(leastN o.u.toNat).1≠31:=by
    have:=(least_ok 6 o.u.toNat (by decide) (by omega)).info
    simp only []at this
    omega
   obtain ⟨x,hx⟩:∃ x,l=[x]:=by
    cases l with
    | nil=>simp at h1
    | cons x r=>exact ⟨x,by have:r=[]:=List.eq_nil_of_length_eq_zero (by simpa using h1); rw [this]⟩
   subst hx
   have e2:bodyP F (itemP F d) (6,(leastN o.u.toNat).1,o.u.toNat) (cbL [x]++m)=bindP (itemP F d) (fun t=>pureP (tagT o.u.toNat t)) (cbL [x]++m):=by
    unfold bodyP
    rw [if_neg (fun q=>hlf q.2),if_neg (by simp),if_neg (by simp),if_neg (by simp),if_neg (by simp),if_neg (by simp),if_neg (by simp),if_pos rfl]
   have h3:timesP (itemP F d) 1 [] (cbL [x]++m)=.good [x] m:=hli
   obtain ⟨y,r1,g1,g2⟩:=bindP_good (show bindP (itemP F d) (fun t=>timesP (itemP F d) 0 ([]++[t])) (cbL [x]++m)=.good [x] m from h3)
   have g2:PR.good [y] r1=.good [x] m:=g2
   injection g2 with q1 q2
   injection q1 with q1 _
   subst q1 q2
   rw [e2,bindP_of g1]
   show PR.good (tagT o.u.toNat y) r1=_
   unfold tagT
   rw [show ((o.u.toNat:Nat):Int)=o.u by omega,← h]
  ·have hk:=congrArg Own.kind h
   simp only []at hk
   have hl0:=len0 hl
   subst hl0
   rw [hdO_10 _ hk]
   unfold txO
   rw [if_neg (by omega),cbL]
   have hst:simpleT o.u.toNat=.nd o []:=by
    unfold simpleT
    rw [show ((o.u.toNat:Nat):Int)=o.u by omega,← h]
   obtain ⟨n,hn⟩:∃ n,o.u.toNat=n:=⟨_,rfl⟩
   rw [hn]at hst ⊢
   have hn2:n≤19∨n=23∨(32≤n∧n≤255):=by omega
   show otherP (7,(leastN n).1,n) m=_
   rcases Nat.lt_or_ge n 24 with hlt | hge
   ·rw [least_small hlt]
    unfold otherP
    rw [if_neg (by simp only []; omega),if_neg (by simp only []; omega),if_neg (by simp only []; omega),if_neg (by simp only []; omega),if_neg (by simp only []; omega),if_neg (by simp only []; omega),if_neg (by simp only []; omega),← hst]
    rfl
   ·rw [least_one (n:=n) (by omega) (by omega)]
    unfold otherP
    rw [if_neg (by simp),if_neg (by simp),if_pos rfl,if_neg (by simp only []; omega),← hst]
    rfl
theorem write_backL (F:Nat):∀ (l:List Tr) (d:Nat) (acc:List Tr) (m:List UInt8),okCL l→depthL l≤d→timesP (itemP F d) l.length acc (cbL l++m)=.good (acc++l) m
 | [],d,acc,m,_,_=>by
  rw [List.append_nil]
  rfl
 | t::l,d,acc,m,hok,hd=>by
  rw [okCL]at hok
  rw [depthL]at hd
  have h1:=write_back F t d (cbL l++m) hok.1 (by omega)
  have h2:=write_backL F l d (acc++[t]) m hok.2 (by omega)
  rw [List.append_assoc]at h2
  rw [cbL,List.append_assoc]
  show bindP (itemP F d) _ _=_
  rw [bindP_of h1]
  exact h2
end
theorem head_facts {l r:List UInt8} {h:Nat×Nat×Nat} (hp:headP l=.good h r) :
  (h.2.1=31∧h.2.2=0∧1+r.length=l.length)∨(h.2.1≤27∧(h.2.1<24→h.2.2=h.2.1)∧(24≤h.2.1→h.2.2<2 ^ (8*2 ^ (h.2.1 - 24)))∧1+extraN h.2.1+r.length=l.length):=by
 cases l with
 | nil=>cases hp
 | cons b s =>
  unfold headP at hp
  rw [readL_cons]at hp
  by_cases h1:b.toNat % 32<24
  ·simp only [if_pos h1,if_true]at hp
   injection hp with e1 e2
   subst e1 e2
   refine .inr ⟨by simp only []; omega,fun _=>rfl,fun h=>by simp only []at h; omega,?_⟩
   unfold extraN
   simp only [if_pos h1]
   rw [List.length_cons]
   omega
  ·by_cases h2:b.toNat % 32=31
   ·simp only [if_neg h1,if_pos h2,if_true]at hp
    injection hp with e1 e2
    subst e1 e2
    exact .inl ⟨rfl,rfl,by rw [List.length_cons]; omega⟩
   ·by_cases h3:27<b.toNat % 32
    ·simp only [if_neg h1,if_neg h2,if_pos h3]at hp
     cases hp
    ·simp only [if_neg h1,if_neg h2,if_neg h3]at hp
     obtain ⟨x,hx⟩:∃ x,2 ^ (b.toNat % 32 - 24)=x:=⟨_,rfl⟩
     rw [hx]at hp
     by_cases h4:s.length<x
     ·simp only [if_pos h4]at hp
      cases hp
     ·simp only [if_neg h4,if_true]at hp
      injection hp with e1 e2
      subst e1 e2
      refine .inr ⟨by simp only []; omega,fun h=>absurd h h1,fun _=>?_,?_⟩
      ·simp only [hx]
       have:=beVal_lt (s.take x)
       rw [List.length_take,Nat.min_eq_left (by omega)]at this
       exact this
      ·unfold extraN
       simp only [if_neg h1,hx]
       rw [List.length_cons,List.length_drop]
       omega
theorem bytes_facts {n:Nat} {l s r:List UInt8} (hp:bytesP n l=.good s r):s.length=n∧s.length+r.length=l.length:=by
 unfold bytesP at hp
 split at hp
 ·cases hp
 ·injection hp with e1 e2
  subst e1 e2
  rw [List.length_take,List.length_drop]
  omega
theorem chunk_len {maj:Nat} {l s r:List UInt8} (hp:chunkP maj l=.good s r):s.length+r.length+1≤l.length:=by
 obtain ⟨h,r1,h1,h2⟩:=bindP_good hp
 have h3:=goodP_head _ _ _ h1
 split at h2
 ·cases h2
 ·have h4:=bytes_facts h2
  rcases head_facts h1 with ⟨_,_,h5⟩ | ⟨_,_,_,h5⟩ <;> omega
def kindM (maj:Nat):Int:=if maj=3 then 5 else 6
noncomputable def readC (F:Nat) (l:List UInt8):Int×Tr:=
 if 4000<l.length then (81,.nd zeroO [])
 else match itemP F 16 l with
  | .bad e=>(e,.nd zeroO [])
  | .good t r=>if r≠[] then (110,.nd zeroO []) else if checkT 2 flC t=0 then (0,t) else (checkT 2 flC t,.nd zeroO [])
theorem headE_ne (e:Nat) (h:e≠0):headE e≠0:=by
 unfold headE
 split <;> omega
def ErrP {α:Type} (p:Psr α):Prop:=∀ l e,p l=.bad e→e≠0
theorem errP_pure {α:Type} (a:α):ErrP (pureP a):=fun l e h=>by
 unfold pureP at h
 cases h
theorem errP_bad {α:Type} {e:Int} (h:e≠0):ErrP (badP (α:=α) e):=fun l e' h'=>by
 unfold badP at h'
 injection h' with h'
 rw [← h']
 exact h
theorem errP_bind {α β:Type} {p:Psr α} {f:α→Psr β} (hp:ErrP p) (hf:∀ a,ErrP (f a)):ErrP (bindP p f):=fun l e h=>by
 unfold bindP at h
 split at h
 ·exact hf _ _ _ h
 ·rename_i e' he
  injection h with h
  rw [← h]
  exact hp _ _ he
theorem errP_ite {α:Type} {c:Prop} [Decidable c] {p q:Psr α} (hp:ErrP p) (hq:ErrP q):ErrP (if c then p else q):=by
 split
 ·exact hp
 ·exact hq
theorem errP_end {α:Type} {a:α} {p:Psr α} (hp:ErrP p):ErrP (endP a p):=fun l e h=>by
 unfold endP at h
 split at h
 ·exact hp _ _ h
 ·split at h
  ·cases h
  ·exact hp _ _ h
theorem errP_head:ErrP headP:=fun l e h=>by
 unfold headP at h
 split at h
 ·cases h
 ·rename_i hn
  injection h with h
  rw [← h]
  exact headE_ne _ hn
theorem errP_bytes (n:Nat):ErrP (bytesP n):=fun l e h=>by
 unfold bytesP at h
 split at h
 ·injection h with h
  rw [← h]
  decide
 ·cases h
theorem errP_chunks (maj:Nat):∀ f acc,ErrP (chunksP maj f acc)
 | 0,_=>errP_bad (by decide)
 | f+1,_=>errP_end (errP_bind (errP_bind errP_head fun _=>errP_ite (errP_bad (by decide)) (errP_bytes _)) fun _=>errP_chunks maj f _)
theorem errP_times {p:Psr Tr} (hp:ErrP p):∀ n acc,ErrP (timesP p n acc)
 | 0,_=>errP_pure _
 | n+1,_=>errP_bind hp fun _=>errP_times hp n _
theorem errP_open {p:Psr Tr} (hp:ErrP p) (size:Nat):∀ f acc,ErrP (openP p size f acc)
 | 0,_=>errP_bad (by decide)
 | f+1,_=>errP_end (errP_bind (errP_times hp _ _) fun _=>errP_open hp size f _)
theorem errP_item (F:Nat):∀ d,ErrP (itemP F d)
 | 0=>fun l e h=>by
  unfold itemP at h
  split at h <;> (injection h with h; rw [← h]; decide)
 | d+1=>errP_bind errP_head fun h=>by
  have hi:=errP_item F d
  have ht:ErrP (textP F h):=errP_ite (errP_chunks _ _ _) (errP_bytes _)
  have hl:∀ size,ErrP (listP F (itemP F d) size h):=fun size=>errP_ite (errP_open hi _ _ _) (errP_times hi _ _)
  exact errP_ite (errP_bad (by decide)) (errP_ite (errP_pure _) (errP_ite (errP_pure _) (errP_ite (errP_bind ht fun _=>errP_pure _) (errP_ite (errP_bind ht fun _=>errP_pure _) (errP_ite (errP_bind (hl _) fun _=>errP_pure _) (errP_ite (errP_bind (hl _) fun _=>errP_pure _) (errP_ite (errP_bind hi fun _=>errP_pure _)
   (errP_ite (errP_pure _) (errP_ite (errP_pure _) (errP_ite (errP_ite (errP_bad (by decide)) (errP_pure _)) (errP_ite (errP_pure _) (errP_ite (errP_pure _) (errP_ite (errP_pure _) (errP_ite (errP_bad (by decide)) (errP_pure _)))))))))))))))
theorem str_noneQ {s:ByteArray} (h0:s.size≠0):s.toList.isEmpty=false:=by
 rw [ByteArray.toList_eq]
 cases hl:s.data.toList with
 | nil=>exact absurd (show s.data.toList.length=0 by rw [hl]; rfl) (by simpa using h0)
 | cons a l=>rfl
def errW (e:Int):Value:=if e=0 then .nilIface else .iface 144 (.agg #[.int .i64 e])
theorem errW_ne {e:Int} (h:e≠0):errW e=.iface 144 (.agg #[.int .i64 e]):=if_neg h
abbrev startV (h:Nat×Nat×Nat):Value:=.agg #[.int .i64 h.1,.int .i64 h.2.1,.int .u64 h.2.2]
abbrev RdB (W:World) (p:Nat) (s:ByteArray) (d:Nat):Prop:=Blk W p #[.string s,.int .i64 d] 88
set_option maxHeartbeats 2000000 in
set_option maxRecDepth 100000 in
theorem cr_first (b:Nat) (e:Int) (w:World) (hk:Blk w b #[.int .i64 e] 29) :
  Calls Tryz.prog 104 #[.slice (some ⟨b,0,none⟩) 1 1] w fun x w'=>x=.returned (errW (if e=101 then 110 else e))∧w'=w:=by
 have z0:=hk.cell 0
 obtain ⟨x,hx⟩:∃ x,errW (if e=101 then 110 else e)=x:=⟨_,rfl⟩
 rw [hx]
 by_cases h0:e=0
 ·subst h0
  rw [if_neg (by decide)]at hx
  unfold errW at hx
  rw [if_pos rfl]at hx
  subst hx
  go_enter Tryz.func104,Tryz.ntmps104
  go_wp2_with fail
  refine wp_loop_rounds 2 ?_
  rw [rounds_succ]
  go_wp2_with fail
  rw [rounds_succ]
  go_wp2_with fail
  go_ret
  exact ⟨rfl,rfl⟩
 ·by_cases h1:e=101
  ·subst h1
   rw [if_pos rfl,errW_ne (by decide)]at hx
   subst hx
   go_enter Tryz.func104,Tryz.ntmps104
   go_wp2_with fail
   refine wp_loop_rounds 1 ?_
   rw [rounds_succ]
   go_wp2_with fail
   go_ret
   exact ⟨rfl,rfl⟩
  ·rw [if_neg h1,errW_ne h0]at hx
   subst hx
   have y0:(e == 0)=false:=by rw [beq_eq_false_iff_ne]; exact h0
   have y1:(e == 101)=false:=by rw [beq_eq_false_iff_ne]; exact h1
   go_enter Tryz.func104,Tryz.ntmps104
   go_wp2_with fail
   refine wp_loop_rounds 1 ?_
   rw [rounds_succ]
   go_wp2_with fail
   go_ret
   exact ⟨rfl,rfl⟩
set_option maxHeartbeats 2000000 in
set_option maxRecDepth 100000 in
theorem cr_isOpen (maj info arg:Int) (w:World) :
  Calls Tryz.prog 106 #[.agg #[.int .i64 maj,.int .i64 info,.int .u64 arg]] w fun x w'=>x=.returned (.bool (info == 31))∧Below w.heap.size w w':=by
 have hb:=(Below.refl w.heap.size w).alloc (Nat.le_refl _) (.cells #[.int .i64 maj,.int .i64 info,.int .u64 arg] 137)
 have hk:=Blk.new w #[.int .i64 maj,.int .i64 info,.int .u64 arg] 137
 have z0:=hk.cell 0
 have z1:=hk.cell 1
 have z2:=hk.cell 2
 go_enter Tryz.func106,Tryz.ntmps106
 go_wp2_with fail
 go_ret
 exact ⟨rfl,hb⟩
theorem RdB.grown {W W':World} {p q:Nat} {cs:Array Value} {t:TypeId} (h:Blk W q cs t) (hg:W.grownBy W' (some p)) (hne:q≠p):Blk W' q cs t:=(hg.block q h.lt (fun e=>hne (by injection e))).trans h
theorem RdB.set {W:World} {p:Nat} {s:ByteArray} {d:Int} (h:Blk W p #[.string s,.int .i64 d] 88) (s':ByteArray):Blk (W.setCell ⟨p,0,none⟩ (.string s')) p #[.string s',.int .i64 d] 88:=h.set 0 _
set_option maxHeartbeats 2000000 in
set_option maxRecDepth 100000 in
theorem cr_start (p d:Nat) (s:ByteArray) (w:World) (hr:RdB w p s d) (hs:s.size≤1000000000) :
  Calls Tryz.prog 105 #[.pointer (some ⟨p,0,none⟩)] w fun x w'=>w.grownBy w' (some p)∧match headP s.data.toList with
   | .good h r=>x=.returned (.tuple #[startV h,.nilIface])∧RdB w' p (bs r) d
   | .bad e=>x=.returned (.tuple #[startV (0,0,0),errW e])∧RdB w' p s d:=by
 have HR:=Lib.hid (fun w=>head_Read s (by omega) w)
 have hne:=errP_head s.data.toList
 unfold headP at hne ⊢
 unfold readV at HR
 obtain ⟨⟨maj,info,arg,rest,err⟩,hx⟩:∃ x,readL s.data.toList=x:=⟨_,rfl⟩
 rw [hx]at hne ⊢
 simp only [hx]at HR
 simp only []at hne HR ⊢
 clear hx
 have hb1:=(Below.refl w.heap.size w).alloc (Nat.le_refl _) (.cells #[.int .i64 0,.int .i64 0,.int .u64 0] 137)
 have hk1:=Blk.new w #[.int .i64 0,.int .i64 0,.int .u64 0] 137
 have hr1:=hr.below hb1 hr.lt
 have hplt:=hr.lt
 have zr:=hr1.cell 0
 by_cases h0:err=0
 ·subst h0
  simp only [if_true]
  clear hne
  obtain ⟨rs,hrs⟩:∃ rs,bs rest=rs:=⟨_,rfl⟩
  rw [hrs]
  have HR:Hid (∀ w:World,Calls Tryz.prog 143 #[.string s] w fun e w'=>e=.returned (.tuple #[.int .i64 maj,.int .i64 info,.int .u64 arg,.string rs,.int .i64 0])∧Below w.heap.size w w'):=Lib.hid (fun w=>by
   have:=HR.out w
   rw [← hrs]
   exact this)
  clear hrs
  go_enter Tryz.func105,Tryz.ntmps105
  go_wp2_with fail
  refine (HR.out _).mono ?_
  rintro e w2 ⟨rfl,hb⟩
  have hk2:=hk1.below hb hk1.lt
  have hr2:=hr1.below hb hr1.lt
  have hf2:=hr2.frozen 0
  have zc2:=hr2.cell 0
  have hr3:=RdB.set hr2 rs
  have hk3:Blk (w2.setCell ⟨p,0,none⟩ (.string rs)) w.heap.size #[.int .i64 0,.int .i64 0,.int .u64 0] 137:=(Below.heap_setCell w2 ⟨p,0,none⟩ _ _ (by show w.heap.size≠p; omega)).trans hk2
  go_wp2_with (refine wpList_store_row rfl 137 (.tmp 2) (.tmp 35) rfl (w.heap.size) #[.int .i64 maj,.int .i64 info,.int .u64 arg] rfl rfl 137 _ hk3 (by kernel_rfl) rfl (by simp [Value.oneCell']) ?_)
  have hg2:w.grownBy w2 (some p):=below_grown (hb1.trans (hb.mono hb1.size)) _
  have hg3:=grown_trans hg2 (grown_set w2 p 0 (.string rs))
  have hg4:=grown_at hg3 (grown_row (w2.setCell ⟨p,0,none⟩ (.string rs)) w.heap.size #[.int .i64 maj,.int .i64 info,.int .u64 arg]) (Nat.le_refl _)
  refine bodyPost_ret (results_cell (T:=137) rfl rfl rfl (blk_row hk3 #[.int .i64 maj,.int .i64 info,.int .u64 arg]) Tryz.underlying137 rfl (by kernel_rfl)) rfl ⟨hg4,rfl,blk_row_other hr3 (by omega) _⟩
 ·simp only [if_neg h0]
  have he:(if (err:Int)=101 then 110 else (err:Int))=headE err:=by
   unfold headE
   split <;> rename_i q <;> split <;> omega
  have hne1:headE err≠0:=headE_ne err h0
  have y0:((err:Int) != 0)=true:=by rw [bne_iff_ne]; omega
  obtain ⟨rs,hrs⟩:∃ rs,bs rest=rs:=⟨_,rfl⟩
  have HR:Hid (∀ w:World,Calls Tryz.prog 143 #[.string s] w fun e w'=>e=.returned (.tuple #[.int .i64 maj,.int .i64 info,.int .u64 arg,.string rs,.int .i64 err])∧Below w.heap.size w w'):=Lib.hid (fun w=>by
   have:=HR.out w
   rw [← hrs]
   exact this)
  have HF:=Lib.hid (fun (W:World) (b:Nat) (hk:Blk W b #[.int .i64 err] 29)=>cr_first b err W hk)
  rw [he]at HF
  obtain ⟨ev,hev⟩:∃ ev,errW (headE err)=ev:=⟨_,rfl⟩
  rw [hev]at HF ⊢
  clear hrs hne he hne1 hev
  go_enter Tryz.func105,Tryz.ntmps105
  go_wp2_with fail
  refine (HR.out _).mono ?_
  rintro e w2 ⟨rfl,hb⟩
  have hk2:=hk1.below hb hk1.lt
  have hr2:=hr1.below hb hr1.lt
  go_wp2_with fail
  refine (HF.out _ _ (Blk.new w2 #[.int .i64 err] 29)).mono ?_
  rintro e w3 ⟨rfl,rfl⟩
  have hk3:=hk2.alloc (.cells #[.int .i64 err] 29)
  have hr3:=hr2.alloc (.cells #[.int .i64 err] 29)
  go_wp2_with (refine wpList_store_row rfl 137 (.tmp 2) (.tmp 23) rfl (w.heap.size) #[.int .i64 0,.int .i64 0,.int .u64 0] rfl rfl 137 _ hk3 (by kernel_rfl) rfl (by simp [Value.oneCell']) ?_)
  have hg2:w.grownBy w2 (some p):=below_grown (hb1.trans (hb.mono hb1.size)) _
  have hg3:=grown_of hg2 ((Below.refl w2.heap.size w2).alloc (Nat.le_refl _) (.cells #[.int .i64 err] 29))
  have hg4:=grown_at hg3 (grown_row (w2.alloc (.cells #[.int .i64 err] 29)) w.heap.size #[.int .i64 0,.int .i64 0,.int .u64 0]) (Nat.le_refl _)
  refine bodyPost_ret (results_cell (T:=137) rfl rfl rfl (blk_row hk3 #[.int .i64 0,.int .i64 0,.int .u64 0]) Tryz.underlying137 rfl (by kernel_rfl)) rfl ⟨hg4,rfl,blk_row_other hr3 (by omega) _⟩
end Go.Proofs.YtonihophanmaaaaGreatDoor
