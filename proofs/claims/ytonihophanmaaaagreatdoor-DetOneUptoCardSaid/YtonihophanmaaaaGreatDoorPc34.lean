/- The texts CrD, CrE, CrF, CrG, CrH, CrI, put together. -/
import Derived.Test.YtonihophanmaaaaGreatDoorPc33
import Derived.Test.YtonihophanmaaaaGreatDoorPc06
import Derived.Test.YtonihophanmaaaaGreatDoorPc03
import Derived.Deep.MidRow
import Derived.Test.YtonihophanmaaaaGreatDoorPc31
set_option maxHeartbeats 4000000
set_option maxRecDepth 100000
namespace Go.Proofs.YtonihophanmaaaaGreatDoor
open Go.RowKit Go.Shelf
theorem zjI (x:Nat×Nat×Nat) (h:za1 x) (t:List UInt8):jT (kl x++t)=.good x t:=by
 unfold jT
 rw [zaD x h t]
 rfl
theorem zd4 (l m:List UInt8):qm l.length (l++m)=.good l m:=by
 unfold qm
 rw [if_neg (by rw [List.length_append]; omega),List.take_left' rfl,List.drop_left' rfl]
mutual
theorem zaR (F:Nat):∀ (t:Tr) (d:Nat) (m:List UInt8),okC t→t.depth≤d→zE F d (cbT t++m)=.good t m
 | .nd o l,0,m,_,z=>by
  rw [Tr.depth]at z
  omega
 | .nd o l,d+1,m,e,z=>by
  rw [okC]at e
  rw [Tr.depth]at z
  have O:=zaq e.1
  have X:=e.1.ok.u
  have i:=zcg F l d [] m e.2 (by omega)
  rw [List.nil_append]at i
  rw [cbT,List.append_assoc]
  show zS jT _ _=_
  rw [qL (zjI _ O.1 _)]
  rcases e.1.shape with ⟨h,f⟩ | ⟨h,f⟩ | ⟨neg,n,h,hn,f⟩ | ⟨h,p,f⟩ | ⟨h,R,_,f⟩ | ⟨h,R,f⟩ | ⟨h⟩ | ⟨h,W,_,_⟩ | ⟨h,D⟩ | ⟨h,V,f⟩
  ·have a:=congrArg Own.kind h
   simp only []at a
   have c:=zcu f
   subst c
   rw [zmh _ a]
   show PR.good zlz (txO o++cbL []++m)=_
   unfold txO
   rw [if_neg (by omega),cbL,h]
   rfl
  ·have a:=congrArg Own.kind h
   simp only []at a
   have c:=zcu f
   subst c
   have C:txO o=[]:=by
    unfold txO
    rw [if_neg (by omega)]
   rw [ze2 _ a,C,cbL]
   cases hb:o.b with
   | true =>
    show PR.good (boolT true) m=_
    rw [h,hb]
    rfl
   | false =>
    show PR.good (boolT false) m=_
    rw [h,hb]
    rfl
  ·have a:=congrArg Own.kind h
   simp only []at a
   have c:=zcu f
   subst c
   have P:=zkt hn
   have Q:=(xv hn).2
   have C:txO o=[]:=by
    unfold txO
    rw [if_neg (by omega)]
   have E:=(xv hn).1
   have g:∀ k,k≤n→(zF k).1≠31:=fun k a=>by
    have:=(qs 3 k (by decide) (by omega)).info
    simp only []at this
    omega
   rw [ze3 _ a,hn,C,cbL]
   have G:wl neg n=.nd o []:=by
    unfold wl
    rw [P,h]
   cases neg with
   | true =>
    show ql F (zE F d) (1,(zF (n - 1)).1,n - 1) m=_
    unfold ql
    rw [if_neg (fun q=>g (n - 1) (by omega) q.2),if_neg (by simp),if_pos rfl]
    show PR.good (wl true (n - 1+1)) m=_
    rw [show n - 1+1=n by have:=Q rfl; omega,G]
   | false =>
    show ql F (zE F d) (0,(zF n).1,n) m=_
    unfold ql
    rw [if_neg (fun q=>g n (by omega) q.2),if_pos rfl]
    show PR.good (wl false n) m=_
    rw [G]
  ·have a:=congrArg Own.kind h
   simp only []at a
   have c:=zcu f
   subst c
   rw [ze4 _ a]
   unfold txO
   rw [if_neg (by omega),cbL]
   have B:((o.u.toNat:Nat):Int)=o.u:=by omega
   rcases p with ⟨p,_⟩ | ⟨p,_⟩ | p
   ·rw [show vl o.wd=25 by unfold vl; rw [if_pos p]]
    show PR.good (kX o.u.toNat 16) m=_
    unfold kX
    rw [B]
    rw [h,p]
    rfl
   ·rw [show vl o.wd=26 by unfold vl; rw [if_neg (by omega),if_pos p]]
    show PR.good (kX o.u.toNat 32) m=_
    unfold kX
    rw [B]
    rw [h,p]
    rfl
   ·rw [show vl o.wd=27 by unfold vl; rw [if_neg (by omega),if_neg (by omega)]]
    show PR.good (kX o.u.toNat 64) m=_
    unfold kX
    rw [B]
    rw [h,p]
    rfl
  ·have a:=congrArg Own.kind h
   simp only []at a
   have c:=zcu f
   subst c
   rw [ze5 _ a]
   have i:(zF o.s.size).1≠31:=by
    have:=(qs 3 o.s.size (by decide) (by have:=e.1.ok.s; omega)).info
    simp only []at this
    omega
   have H:txO o=o.s.data.toList:=by
    unfold txO
    rw [if_pos (.inl a)]
   have j:ql F (zE F d) (3,(zF o.s.size).1,o.s.size) (o.s.data.toList++m)=zS (qm o.s.size) (fun s=>jC (kU 5 s)) (o.s.data.toList++m):=by
    unfold ql kV
    rw [if_neg (by simp),if_neg (by simp),if_neg (by simp),if_neg (by simp),if_pos rfl,if_neg i]
   have w:=zd4 o.s.data.toList m
   rw [show o.s.data.toList.length=o.s.size by simp]at w
   rw [H,cbL,List.append_nil,j,qL w]
   show PR.good (kU 5 o.s.data.toList) m=_
   unfold kU
   rw [zgA]
   rw [← h]
  ·have a:=congrArg Own.kind h
   simp only []at a
   have c:=zcu f
   subst c
   rw [ze6 _ a]
   have i:(zF o.s.size).1≠31:=by
    have:=(qs 3 o.s.size (by decide) (by have:=e.1.ok.s; omega)).info
    simp only []at this
    omega
   have H:txO o=o.s.data.toList:=by
    unfold txO
    rw [if_pos (.inr a)]
   have j:ql F (zE F d) (2,(zF o.s.size).1,o.s.size) (o.s.data.toList++m)=zS (qm o.s.size) (fun s=>jC (kU 6 s)) (o.s.data.toList++m):=by
    unfold ql kV
    rw [if_neg (by simp),if_neg (by simp),if_neg (by simp),if_pos rfl,if_neg i]
   have w:=zd4 o.s.data.toList m
   rw [show o.s.data.toList.length=o.s.size by simp]at w
   rw [H,cbL,List.append_nil,j,qL w]
   show PR.good (kU 6 o.s.data.toList) m=_
   unfold kU
   rw [zgA]
   rw [← h]
  ·have a:=congrArg Own.kind h
   simp only []at a
   rw [ze7 _ a]
   unfold txO
   rw [if_neg (by omega),List.nil_append]
   have g:(zF l.length).1≠31:=by
    have:=(qs 4 l.length (by decide) e.1.len).info
    simp only []at this
    omega
   have j:ql F (zE F d) (4,(zF l.length).1,l.length) (cbL l++m)=zS (jr (zE F d) (1*l.length) []) (fun l=>jC (xM 7 l)) (cbL l++m):=by
    unfold ql xB
    rw [if_neg (by simp),if_neg (by simp),if_neg (by simp),if_neg (by simp),if_neg (by simp),if_pos rfl,if_neg g]
   rw [j,Nat.one_mul,qL i]
   show PR.good (xM 7 l) m=_
   unfold xM
   rw [← h]
  ·have a:=congrArg Own.kind h
   simp only []at a
   rw [ze8 _ a]
   unfold txO
   rw [if_neg (by omega),List.nil_append]
   have g:(zF (l.length / 2)).1≠31:=by
    have:=(qs 5 (l.length / 2) (by decide) (by have:=e.1.len; omega)).info
    simp only []at this
    omega
   have j:ql F (zE F d) (5,(zF (l.length / 2)).1,l.length / 2) (cbL l++m)=zS (jr (zE F d) (2*(l.length / 2)) []) (fun l=>jC (xM 8 l)) (cbL l++m):=by
    unfold ql xB
    rw [if_neg (by simp),if_neg (by simp),if_neg (by simp),if_neg (by simp),if_neg (by simp),if_neg (by simp),if_pos rfl,if_neg g]
   rw [j,show 2*(l.length / 2)=l.length by omega,qL i]
   show PR.good (xM 8 l) m=_
   unfold xM
   rw [← h]
  ·have a:=congrArg Own.kind h
   simp only []at a
   rw [ze9 _ a]
   unfold txO
   rw [if_neg (by omega),List.nil_append]
   have g:(zF o.u.toNat).1≠31:=by
    have:=(qs 6 o.u.toNat (by decide) (by omega)).info
    simp only []at this
    omega
   obtain ⟨x,C⟩:∃ x,l=[x]:=by
    cases l with
    | nil=>simp at D
    | cons x r=>exact ⟨x,by have:r=[]:=List.eq_nil_of_length_eq_zero (by simpa using D); rw [this]⟩
   subst C
   have j:ql F (zE F d) (6,(zF o.u.toNat).1,o.u.toNat) (cbL [x]++m)=zS (zE F d) (fun t=>jC (zaM o.u.toNat t)) (cbL [x]++m):=by
    unfold ql
    rw [if_neg (fun q=>g q.2),if_neg (by simp),if_neg (by simp),if_neg (by simp),if_neg (by simp),if_neg (by simp),if_neg (by simp),if_pos rfl]
   have N:jr (zE F d) 1 [] (cbL [x]++m)=.good [x] m:=i
   obtain ⟨y,L,M,I⟩:=qk (show zS (zE F d) (fun t=>jr (zE F d) 0 ([]++[t])) (cbL [x]++m)=.good [x] m from N)
   have I:PR.good [y] L=.good [x] m:=I
   injection I with J S
   injection J with J _
   subst J S
   rw [j,qL M]
   show PR.good (zaM o.u.toNat y) L=_
   unfold zaM
   rw [show ((o.u.toNat:Nat):Int)=o.u by omega,← h]
  ·have a:=congrArg Own.kind h
   simp only []at a
   have c:=zcu f
   subst c
   rw [zc7 _ a]
   unfold txO
   rw [if_neg (by omega),cbL]
   have A:wH o.u.toNat=.nd o []:=by
    unfold wH
    rw [show ((o.u.toNat:Nat):Int)=o.u by omega,← h]
   obtain ⟨n,hn⟩:∃ n,o.u.toNat=n:=⟨_,rfl⟩
   rw [hn]at A ⊢
   have U:n≤19∨n=23∨(32≤n∧n≤255):=by omega
   show vr (7,(zF n).1,n) m=_
   rcases Nat.lt_or_ge n 24 with E | T
   ·rw [zb6 E]
    unfold vr
    rw [if_neg (by simp only []; omega),if_neg (by simp only []; omega),if_neg (by simp only []; omega),if_neg (by simp only []; omega),if_neg (by simp only []; omega),if_neg (by simp only []; omega),if_neg (by simp only []; omega),← A]
    rfl
   ·rw [zek (n:=n) (by omega) (by omega)]
    unfold vr
    rw [if_neg (by simp),if_neg (by simp),if_pos rfl,if_neg (by simp only []; omega),← A]
    rfl
theorem zcg (F:Nat):∀ (l:List Tr) (d:Nat) (v:List Tr) (m:List UInt8),qW l→zW l≤d→jr (zE F d) l.length v (cbL l++m)=.good (v++l) m
 | [],d,v,m,_,_=>by
  rw [List.append_nil]
  rfl
 | t::l,d,v,m,e,z=>by
  rw [qW]at e
  rw [zW]at z
  have D:=zaR F t d (cbL l++m) e.1 (by omega)
  have K:=zcg F l d (v++[t]) m e.2 (by omega)
  rw [List.append_assoc]at K
  rw [cbL,List.append_assoc]
  show zS (zE F d) _ _=_
  rw [qL D]
  exact K
end
theorem zc9 {l r:List UInt8} {h:Nat×Nat×Nat} (a:jT l=.good h r) :
  (h.2.1=31∧h.2.2=0∧1+r.length=l.length)∨(h.2.1≤27∧(h.2.1<24→h.2.2=h.2.1)∧(24≤h.2.1→h.2.2<2 ^ (8*2 ^ (h.2.1 - 24)))∧1+wQ h.2.1+r.length=l.length):=by
 cases l with
 | nil=>cases a
 | cons b s =>
  unfold jT at a
  rw [kT]at a
  by_cases c:b.toNat % 32<24
  ·simp only [if_pos c,if_true]at a
   injection a with d e
   subst d e
   refine .inr ⟨by simp only []; omega,fun _=>rfl,fun h=>by simp only []at h; omega,?_⟩
   unfold wQ
   simp only [if_pos c]
   rw [List.length_cons]
   omega
  ·by_cases f:b.toNat % 32=31
   ·simp only [if_neg c,if_pos f,if_true]at a
    injection a with d e
    subst d e
    exact .inl ⟨rfl,rfl,by rw [List.length_cons]; omega⟩
   ·by_cases i:27<b.toNat % 32
    ·simp only [if_neg c,if_neg f,if_pos i]at a
     cases a
    ·simp only [if_neg c,if_neg f,if_neg i]at a
     obtain ⟨x,g⟩:∃ x,2 ^ (b.toNat % 32 - 24)=x:=⟨_,rfl⟩
     rw [g]at a
     by_cases j:s.length<x
     ·simp only [if_pos j]at a
      cases a
     ·simp only [if_neg j,if_true]at a
      injection a with d e
      subst d e
      refine .inr ⟨by simp only []; omega,fun h=>absurd h c,fun _=>?_,?_⟩
      ·simp only [g]
       have:=zkS (s.take x)
       rw [List.length_take,Nat.min_eq_left (by omega)]at this
       exact this
      ·unfold wQ
       simp only [if_neg c,g]
       rw [List.length_cons,List.length_drop]
       omega
theorem zgS {n:Nat} {l s r:List UInt8} (a:qm n l=.good s r):s.length=n∧s.length+r.length=l.length:=by
 unfold qm at a
 split at a
 ·cases a
 ·injection a with b c
  subst b c
  rw [List.length_take,List.length_drop]
  omega
theorem zjm {maj:Nat} {l s r:List UInt8} (d:vd maj l=.good s r):s.length+r.length+1≤l.length:=by
 obtain ⟨h,g,b,a⟩:=qk d
 have e:=vj _ _ _ b
 split at a
 ·cases a
 ·have f:=zgS a
  rcases zc9 b with ⟨_,_,c⟩ | ⟨_,_,_,c⟩ <;> omega
def znP (maj:Nat):Int:=if maj=3 then 5 else 6
noncomputable def zfa (F:Nat) (l:List UInt8):Int×Tr:=
 if 4000<l.length then (81,.nd zv [])
 else match zE F 16 l with
  | .bad e=>(e,.nd zv [])
  | .good t r=>if r≠[] then (110,.nd zv []) else if zj 2 flC t=0 then (0,t) else (zj 2 flC t,.nd zv [])
theorem zfJ (e:Nat) (h:e≠0):zar e≠0:=by
 unfold zar
 split <;> omega
def kE {α:Type} (p:Psr α):Prop:=∀ l e,p l=.bad e→e≠0
theorem jV {α:Type} (a:α):kE (jC a):=fun l e h=>by
 unfold jC at h
 cases h
theorem vD {α:Type} {e:Int} (h:e≠0):kE (wO (α:=α) e):=fun l b a=>by
 unfold wO at a
 injection a with a
 rw [← a]
 exact h
theorem qT {α β:Type} {p:Psr α} {f:α→Psr β} (d:kE p) (c:∀ a,kE (f a)):kE (zS p f):=fun l e h=>by
 unfold zS at h
 split at h
 ·exact c _ _ _ h
 ·rename_i g b
  injection h with h
  rw [← h]
  exact d _ _ b
theorem jH {α:Type} {c:Prop} [Decidable c] {p q:Psr α} (hp:kE p) (hq:kE q):kE (if c then p else q):=by
 split
 ·exact hp
 ·exact hq
theorem zfA {α:Type} {a:α} {p:Psr α} (b:kE p):kE (ky a p):=fun l e h=>by
 unfold ky at h
 split at h
 ·exact b _ _ h
 ·split at h
  ·cases h
  ·exact b _ _ h
theorem vR:kE jT:=fun l e h=>by
 unfold jT at h
 split at h
 ·cases h
 ·rename_i hn
  injection h with h
  rw [← h]
  exact zfJ _ hn
theorem zc2 (n:Nat):kE (qm n):=fun l e h=>by
 unfold qm at h
 split at h
 ·injection h with h
  rw [← h]
  decide
 ·cases h
theorem zbY (maj:Nat):∀ f acc,kE (xz maj f acc)
 | 0,_=>vD (by decide)
 | f+1,_=>zfA (qT (qT vR fun _=>jH (vD (by decide)) (zc2 _)) fun _=>zbY maj f _)
theorem zap {p:Psr Tr} (b:kE p):∀ n a,kE (jr p n a)
 | 0,_=>jV _
 | n+1,_=>qT b fun _=>zap b n _
theorem zec {p:Psr Tr} (b:kE p) (size:Nat):∀ f a,kE (xc p size f a)
 | 0,_=>vD (by decide)
 | f+1,_=>zfA (qT (zap b _ _) fun _=>zec b size f _)
theorem yl (F:Nat):∀ d,kE (zE F d)
 | 0=>fun l e h=>by
  unfold zE at h
  split at h <;> (injection h with h; rw [← h]; decide)
 | d+1=>qT vR fun h=>by
  have hi:=yl F d
  have ht:kE (kV F h):=jH (zbY _ _ _) (zc2 _)
  have hl:∀ size,kE (xB F (zE F d) size h):=fun size=>jH (zec hi _ _ _) (zap hi _ _)
  exact jH (vD (by decide)) (jH (jV _) (jH (jV _) (jH (qT ht fun _=>jV _) (jH (qT ht fun _=>jV _) (jH (qT (hl _) fun _=>jV _) (jH (qT (hl _) fun _=>jV _) (jH (qT hi fun _=>jV _)
   (jH (jV _) (jH (jV _) (jH (jH (vD (by decide)) (jV _)) (jH (jV _) (jH (jV _) (jH (jV _) (jH (vD (by decide)) (jV _)))))))))))))))
theorem wb {s:ByteArray} (b:s.size≠0):s.toList.isEmpty=false:=by
 rw [ByteArray.toList_eq]
 cases hl:s.data.toList with
 | nil=>exact absurd (show s.data.toList.length=0 by rw [hl]; rfl) (by simpa using b)
 | cons a l=>rfl
def jD (e:Int):Value:=if e=0 then .nilIface else .iface 144 (.agg #[.int .i64 e])
theorem xA {e:Int} (h:e≠0):jD e=.iface 144 (.agg #[.int .i64 e]):=if_neg h
abbrev qu (h:Nat×Nat×Nat):Value:=.agg #[.int .i64 h.1,.int .i64 h.2.1,.int .u64 h.2.2]
abbrev RdB (W:World) (p:Nat) (s:ByteArray) (d:Nat):Prop:=Blk W p #[.string s,.int .i64 d] 88
theorem xj (b:Nat) (e:Int) (w:World) (f:Blk w b #[.int .i64 e] 29) :
  Calls Tryz.prog 104 #[.slice (some ⟨b,0,none⟩) 1 1] w fun x g=>x=.returned (jD (if e=101 then 110 else e))∧g=w:=by
 have j:=f.cell 0
 obtain ⟨x,a⟩:∃ x,jD (if e=101 then 110 else e)=x:=⟨_,rfl⟩
 rw [a]
 by_cases c:e=0
 ·subst c
  rw [if_neg (by decide)]at a
  unfold jD at a
  rw [if_pos rfl]at a
  subst a
  go_enter Tryz.func104,Tryz.ntmps104
  go_wp2_with fail
  refine wp_loop_rounds 2 ?_
  rw [rounds_succ]
  go_wp2_with fail
  rw [rounds_succ]
  go_wp2_with fail
  go_ret
  exact ⟨rfl,rfl⟩
 ·by_cases d:e=101
  ·subst d
   rw [if_pos rfl,xA (by decide)]at a
   subst a
   go_enter Tryz.func104,Tryz.ntmps104
   go_wp2_with fail
   refine wp_loop_rounds 1 ?_
   rw [rounds_succ]
   go_wp2_with fail
   go_ret
   exact ⟨rfl,rfl⟩
  ·rw [if_neg d,xA c]at a
   subst a
   have h:(e == 0)=false:=by rw [beq_eq_false_iff_ne]; exact c
   have i:(e == 101)=false:=by rw [beq_eq_false_iff_ne]; exact d
   go_enter Tryz.func104,Tryz.ntmps104
   go_wp2_with fail
   refine wp_loop_rounds 1 ?_
   rw [rounds_succ]
   go_wp2_with fail
   go_ret
   exact ⟨rfl,rfl⟩
theorem xW (maj info arg:Int) (w:World) :
  Calls Tryz.prog 106 #[.agg #[.int .i64 maj,.int .i64 info,.int .u64 arg]] w fun x w'=>x=.returned (.bool (info == 31))∧Below w.heap.size w w':=by
 have b:=(Below.refl w.heap.size w).alloc (Nat.le_refl _) (.cells #[.int .i64 maj,.int .i64 info,.int .u64 arg] 137)
 have a:=Blk.new w #[.int .i64 maj,.int .i64 info,.int .u64 arg] 137
 have c:=a.cell 0
 have d:=a.cell 1
 have e:=a.cell 2
 go_enter Tryz.func106,Tryz.ntmps106
 go_wp2_with fail
 go_ret
 exact ⟨rfl,b⟩
theorem RdB.grown {W W':World} {p q:Nat} {a:Array Value} {t:TypeId} (h:Blk W q a t) (c:W.grownBy W' (some p)) (b:q≠p):Blk W' q a t:=(c.block q h.lt (fun e=>b (by injection e))).trans h
theorem RdB.set {W:World} {p:Nat} {s:ByteArray} {d:Int} (h:Blk W p #[.string s,.int .i64 d] 88) (a:ByteArray):Blk (W.setCell ⟨p,0,none⟩ (.string a)) p #[.string a,.int .i64 d] 88:=h.set 0 _
theorem zcj (p d:Nat) (s:ByteArray) (w:World) (E:RdB w p s d) (L:s.size≤1000000000) :
  Calls Tryz.prog 105 #[.pointer (some ⟨p,0,none⟩)] w fun x n=>w.grownBy n (some p)∧match jT s.data.toList with
   | .good h r=>x=.returned (.tuple #[qu h,.nilIface])∧RdB n p (bs r) d
   | .bad e=>x=.returned (.tuple #[qu (0,0,0),jD e])∧RdB n p s d:=by
 have f:=Lib.hid (fun w=>zjH s (by omega) w)
 have j:=vR s.data.toList
 unfold jT at j ⊢
 unfold zfb at f
 obtain ⟨⟨maj,info,arg,rest,err⟩,F⟩:∃ x,xd s.data.toList=x:=⟨_,rfl⟩
 rw [F]at j ⊢
 simp only [F]at f
 simp only []at j f ⊢
 clear F
 have g:=(Below.refl w.heap.size w).alloc (Nat.le_refl _) (.cells #[.int .i64 0,.int .i64 0,.int .u64 0] 137)
 have o:=Blk.new w #[.int .i64 0,.int .i64 0,.int .u64 0] 137
 have k:=E.below g E.lt
 have I:=E.lt
 have O:=k.cell 0
 by_cases C:err=0
 ·subst C
  simp only [if_true]
  clear j
  obtain ⟨rs,c⟩:∃ rs,bs rest=rs:=⟨_,rfl⟩
  rw [c]
  have f:Hid (∀ w:World,Calls Tryz.prog 143 #[.string s] w fun e n=>e=.returned (.tuple #[.int .i64 maj,.int .i64 info,.int .u64 arg,.string rs,.int .i64 0])∧Below w.heap.size w n):=Lib.hid (fun w=>by
   have:=f.out w
   rw [← c]
   exact this)
  clear c
  go_enter Tryz.func105,Tryz.ntmps105
  go_wp2_with fail
  refine (f.out _).mono ?_
  rintro e a ⟨rfl,m⟩
  have y:=o.below m o.lt
  have l:=k.below m k.lt
  have J:=l.frozen 0
  have K:=l.cell 0
  have z:=RdB.set l rs
  have i:Blk (a.setCell ⟨p,0,none⟩ (.string rs)) w.heap.size #[.int .i64 0,.int .i64 0,.int .u64 0] 137:=(Below.heap_setCell a ⟨p,0,none⟩ _ _ (by show w.heap.size≠p; omega)).trans y
  go_wp2_with (refine wpList_store_row rfl 137 (.tmp 2) (.tmp 35) rfl (w.heap.size) #[.int .i64 maj,.int .i64 info,.int .u64 arg] rfl rfl 137 _ i (by kernel_rfl) rfl (by simp [Value.oneCell']) ?_)
  have t:w.grownBy a (some p):=below_grown (g.trans (m.mono g.size)) _
  have u:=zu t (jm a p 0 (.string rs))
  have v:=jE u (zx (a.setCell ⟨p,0,none⟩ (.string rs)) w.heap.size #[.int .i64 maj,.int .i64 info,.int .u64 arg]) (Nat.le_refl _)
  refine bodyPost_ret (zo (T:=137) rfl rfl rfl (zB i #[.int .i64 maj,.int .i64 info,.int .u64 arg]) Tryz.underlying137 rfl (by kernel_rfl)) rfl ⟨v,rfl,zH z (by omega) _⟩
 ·simp only [if_neg C]
  have G:(if (err:Int)=101 then 110 else (err:Int))=zar err:=by
   unfold zar
   split <;> rename_i q <;> split <;> omega
  have D:zar err≠0:=zfJ err C
  have N:((err:Int) != 0)=true:=by rw [bne_iff_ne]; omega
  obtain ⟨rs,c⟩:∃ rs,bs rest=rs:=⟨_,rfl⟩
  have f:Hid (∀ w:World,Calls Tryz.prog 143 #[.string s] w fun e n=>e=.returned (.tuple #[.int .i64 maj,.int .i64 info,.int .u64 arg,.string rs,.int .i64 err])∧Below w.heap.size w n):=Lib.hid (fun w=>by
   have:=f.out w
   rw [← c]
   exact this)
  have B:=Lib.hid (fun (W:World) (b:Nat) (H:Blk W b #[.int .i64 err] 29)=>xj b err W H)
  rw [G]at B
  obtain ⟨ev,A⟩:∃ ev,jD (zar err)=ev:=⟨_,rfl⟩
  rw [A]at B ⊢
  clear c j G D A
  go_enter Tryz.func105,Tryz.ntmps105
  go_wp2_with fail
  refine (f.out _).mono ?_
  rintro e a ⟨rfl,m⟩
  have y:=o.below m o.lt
  have l:=k.below m k.lt
  go_wp2_with fail
  refine (B.out _ _ (Blk.new a #[.int .i64 err] 29)).mono ?_
  rintro e M ⟨rfl,rfl⟩
  have i:=y.alloc (.cells #[.int .i64 err] 29)
  have z:=l.alloc (.cells #[.int .i64 err] 29)
  go_wp2_with (refine wpList_store_row rfl 137 (.tmp 2) (.tmp 23) rfl (w.heap.size) #[.int .i64 0,.int .i64 0,.int .u64 0] rfl rfl 137 _ i (by kernel_rfl) rfl (by simp [Value.oneCell']) ?_)
  have t:w.grownBy a (some p):=below_grown (g.trans (m.mono g.size)) _
  have u:=grown_of t ((Below.refl a.heap.size a).alloc (Nat.le_refl _) (.cells #[.int .i64 err] 29))
  have v:=jE u (zx (a.alloc (.cells #[.int .i64 err] 29)) w.heap.size #[.int .i64 0,.int .i64 0,.int .u64 0]) (Nat.le_refl _)
  refine bodyPost_ret (zo (T:=137) rfl rfl rfl (zB i #[.int .i64 0,.int .i64 0,.int .u64 0]) Tryz.underlying137 rfl (by kernel_rfl)) rfl ⟨v,rfl,zH z (by omega) _⟩
theorem zd9 (s:ByteArray) (n:Nat):s.extract 0 n=bs (s.data.toList.take n):=by
 apply ByteArray.ext
 apply Array.toList_inj.1
 rw [ByteArray.data_extract,Array.toList_extract]
 simp [List.extract,bs]
theorem zao (s:ByteArray) (n:Nat):s.extract n s.size=bs (s.data.toList.drop n):=by
 apply ByteArray.ext
 apply Array.toList_inj.1
 rw [zbh]
 rfl
theorem zfl (p d n:Nat) (s:ByteArray) (w:World) (g:RdB w p s d) (q:s.size≤1000000000) :
  Calls Tryz.prog 239 #[.pointer (some ⟨p,0,none⟩),.int .u64 n] w fun x c=>w.grownBy c (some p)∧match qm n s.data.toList with
   | .good a r=>x=.returned (.tuple #[.string (bs a),.nilIface])∧RdB c p (bs r) d
   | .bad e=>x=.returned (.tuple #[.string ⟨#[]⟩,jD e])∧RdB c p s d:=by
 have f:s.data.toList.length=s.size:=by simp
 have z:=g.cell 0
 have o:=g.frozen 0
 have u:IntKind.u64.wrap (s.size:Int)=s.size:=by rw [IntKind.wrap_u64]; omega
 unfold qm
 rw [f]
 by_cases h:s.size<n
 ·rw [if_pos h]
  have j:=Lib.hid (fun (W:World) (b:Nat) (l:Blk W b #[.int .i64 100] 29)=>xj b 100 W l)
  rw [if_neg (by decide)]at j
  show Calls _ _ _ _ fun x c=>w.grownBy c (some p)∧x=.returned (.tuple #[.string ⟨#[]⟩,jD 100])∧RdB c p s d
  obtain ⟨ev,i⟩:∃ ev,jD 100=ev:=⟨_,rfl⟩
  rw [i]at j ⊢
  have m:(s.size:Int)<n:=by omega
  clear i f h
  go_enter Tryz.func239,Tryz.ntmps239
  go_wp2_with fail
  refine (j.out _ _ (Blk.new w #[.int .i64 100] 29)).mono ?_
  rintro e t ⟨rfl,rfl⟩
  go_wp2_with fail
  refine bodyPost_ret (v:=.tuple #[.string ⟨#[]⟩,ev]) (by simp [results,Tryz.results239,go_sem]) rfl ⟨below_grown ((Below.refl w.heap.size w).alloc (Nat.le_refl _) (.cells #[.int .i64 100] 29)) _,rfl,g.alloc _⟩
 ·rw [if_neg h]
  show Calls _ _ _ _ fun x c=>w.grownBy c (some p)∧x=.returned (.tuple #[.string (bs (s.data.toList.take n)),.nilIface])∧RdB c p (bs (s.data.toList.drop n)) d
  have m:¬ (s.size:Int)<n:=by omega
  have y:n≤s.size:=by omega
  rw [← zd9,← zao]
  have k:=RdB.set g (s.extract n s.size)
  clear h f
  go_enter Tryz.func239,Tryz.ntmps239
  go_wp2_with fail
  refine bodyPost_ret (v:=.tuple #[.string (s.extract 0 n),.nilIface]) (by simp [results,Tryz.results239,go_sem]) rfl ⟨jm w p 0 _,rfl,k⟩
theorem zfm (p d:Nat) (s:ByteArray) (w:World) (f:RdB w p s d) (o:s.size≤1000000000) :
  Calls Tryz.prog 240 #[.pointer (some ⟨p,0,none⟩)] w fun x a=>w.grownBy a (some p)∧x=.returned (.bool (decide (s.data.toList.head? = some 255)))∧RdB a p (if s.data.toList.head? = some 255 then bs (s.data.toList.drop 1) else s) d:=by
 have r:=f.cell 0
 have n:=f.frozen 0
 by_cases g:s.size=0
 ·have k:=wa g
  subst k
  rw [if_neg (by simp)]
  show Calls _ _ _ _ fun x a=>w.grownBy a (some p)∧x=.returned (.bool false)∧RdB a p ⟨#[]⟩ d
  go_enter Tryz.func240,Tryz.ntmps240
  go_wp2_with fail
  go_ret
  exact ⟨vk w _ 0,rfl,f⟩
 ·have m:=wb g
  have c:0<s.size:=by omega
  have i:=zfL s c
  rw [i]
  by_cases b:s[0]=255
  ·rw [if_pos (by rw [b]),b,← zao]
   show Calls _ _ _ _ fun x a=>w.grownBy a (some p)∧x=.returned (.bool true)∧RdB a p (s.extract 1 s.size) d
   have l:((s[0].toNat:Int) != 255)=false:=by rw [b]; rfl
   have q:1≤s.size:=c
   have j:=RdB.set f (s.extract 1 s.size)
   clear i b g
   go_enter Tryz.func240,Tryz.ntmps240
   go_wp2_with fail
   go_ret
   exact ⟨jm w p 0 _,rfl,j⟩
  ·have h:¬ some s[0]=some (255:UInt8):=fun e=>b (Option.some.inj e)
   rw [if_neg h,decide_eq_false h]
   have l:((s[0].toNat:Int) != 255)=true:=by
    rw [bne_iff_ne]
    intro e
    apply b
    apply UInt8.toNat_inj.1
    have:(255:UInt8).toNat=255:=rfl
    omega
   clear i b g h
   go_enter Tryz.func240,Tryz.ntmps240
   go_wp2_with fail
   go_ret
   exact ⟨vk w _ 0,rfl,f⟩
theorem znr (l:List UInt8):(xd l).maj≤7:=by
 cases l with
 | nil=>exact Nat.zero_le _
 | cons b s =>
  have a:=b.toNat_lt
  rw [kT]
  repeat' split
  all_goals (simp only []; omega)
theorem zfK {l r:List UInt8} {h:Nat×Nat×Nat} (a:jT l=.good h r):h.1≤7∧h.2.1≤31∧h.2.2<18446744073709551616∧r.length+1≤l.length:=by
 have b:h.1≤7:=by
  have:=znr l
  unfold jT at a
  split at a
  ·injection a with e g
   rw [← e]
   exact this
  ·cases a
 rcases zc9 a with ⟨f,c,d⟩ | ⟨f,c,d,i⟩
 ·exact ⟨b,by omega,by omega,by omega⟩
 ·refine ⟨b,by omega,?_,by omega⟩
  by_cases q:h.2.1<24
  ·have:=c q
   omega
  ·have:=d (by omega)
   rcases (by omega:h.2.1=24∨h.2.1=25∨h.2.1=26∨h.2.1=27) with z | z | z | z <;> rw [z]at this <;> simp at this <;> omega
def xw (p d:Nat) (w:World) (s:ByteArray) (r:PR (List UInt8)) (x:Ending) (w':World):Prop:=
 w.grownBy w' (some p)∧match r with
  | .good a r=>x=.returned (.tuple #[.string (bs a),.nilIface])∧RdB w' p (bs r) d∧(bs r).size≤s.size∧a.length≤s.size
  | .bad e=>x=.returned (.tuple #[.string ⟨#[]⟩,jD e])∧e≠0∧∃ s',RdB w' p s' d∧s'.size≤s.size
theorem zkV (p d maj:Nat) (s:ByteArray) (w:World) (hr:RdB w p s d) (hs:s.size≤1000000000) :
  Calls Tryz.prog 241 #[.pointer (some ⟨p,0,none⟩),.int .i64 maj] w (xw p d w s (vd maj s.data.toList)):=by
 have k:=zcj p d s w hr hs
 have af:s.data.toList.length=s.size:=by simp
 unfold vd zS
 cases hh:jT s.data.toList with
 | bad e =>
  have R:=vR _ _ hh
  simp only [hh]at k
  have Y:=Lib.hid R
  obtain ⟨x,V⟩:∃ x,jD e=.iface 144 x:=⟨_,xA R⟩
  unfold xw
  simp only []
  rw [V]at k ⊢
  clear hh R V
  go_enter Tryz.func241,Tryz.ntmps241
  go_wp2_with fail
  refine k.mono ?_
  rintro L c ⟨q,rfl,f⟩
  go_wp2_with fail
  refine bodyPost_ret (v:=.tuple #[.string ⟨#[]⟩,.iface 144 x]) (by simp [results,Tryz.results241,go_sem]) rfl ⟨?_,rfl,Y.out,s,f.alloc _,Nat.le_refl _⟩
  exact grown_of q ((Below.refl c.heap.size c).alloc (Nat.le_refl _) _)
 | good h r =>
  obtain ⟨q1,q2,q3,q4⟩:=zfK hh
  simp only [hh]at k
  obtain ⟨l,m,j⟩:=h
  simp only []at q1 q2 q3 k ⊢
  clear hh
  have I:(bs r).size≤s.size:=by rw [jR]; omega
  by_cases g:l≠maj∨m=31
  ·rw [if_pos g]
   unfold xw wO
   simp only []
   have K:=Lib.hid (fun (W:World) (b:Nat) (Z:Blk W b #[.int .i64 110] 29)=>xj b 110 W Z)
   rw [if_neg (by decide)]at K
   obtain ⟨ev,t⟩:∃ ev,jD 110=ev:=⟨_,rfl⟩
   rw [t]at K ⊢
   have D:=Lib.hid (fun w=>xW l m j w)
   clear t
   by_cases C:l=maj
   ·subst C
    have u:m=31:=g.elim (fun h=>absurd rfl h) id
    subst u
    clear g
    go_enter Tryz.func241,Tryz.ntmps241
    go_wp2_with fail
    refine k.mono ?_
    rintro L c ⟨q,rfl,f⟩
    have a:=Blk.new c #[.int .i64 l,.int .i64 31,.int .u64 j] 137
    have z:=a.cell 0
    have A:=a.cell 1
    have B:=a.cell 2
    clear k
    go_wp2_with fail
    refine (D.out _).mono ?_
    rintro U J ⟨rfl,i⟩
    go_wp2_with fail
    refine (K.out _ _ (Blk.new J #[.int .i64 110] 29)).mono ?_
    rintro P T ⟨rfl,rfl⟩
    go_wp2_with fail
    refine bodyPost_ret (v:=.tuple #[.string ⟨#[]⟩,ev]) (by simp [results,Tryz.results241,go_sem]) rfl ⟨?_,rfl,by decide,bs r,?_,I⟩
    ·exact grown_of (grown_of q (((Below.refl c.heap.size c).alloc (Nat.le_refl _) _).trans (i.mono (by simp)))) ((Below.refl J.heap.size J).alloc (Nat.le_refl _) _)
    ·exact ((f.alloc _).below i (f.alloc _).lt).alloc _
   ·have X:((l:Int) != (maj:Int))=true:=by rw [bne_iff_ne]; omega
    clear g C
    go_enter Tryz.func241,Tryz.ntmps241
    go_wp2_with fail
    refine k.mono ?_
    rintro L c ⟨q,rfl,f⟩
    have a:=Blk.new c #[.int .i64 l,.int .i64 m,.int .u64 j] 137
    have z:=a.cell 0
    have A:=a.cell 1
    have B:=a.cell 2
    have N:=Blk.new (c.alloc (.cells #[.int .i64 l,.int .i64 m,.int .u64 j] 137)) #[.int .i64 110] 29
    rw [World.size_alloc]at N
    clear k
    go_wp2_with fail
    refine (K.out _ _ N).mono ?_
    rintro P T ⟨rfl,rfl⟩
    go_wp2_with fail
    refine bodyPost_ret (v:=.tuple #[.string ⟨#[]⟩,ev]) (by simp [results,Tryz.results241,go_sem]) rfl ⟨?_,rfl,by decide,bs r,(f.alloc _).alloc _,I⟩
    exact grown_of (grown_of q ((Below.refl c.heap.size c).alloc (Nat.le_refl _) _)) ((Below.refl _ _).alloc (Nat.le_refl _) _)
  ·rw [if_neg g]
   have C:l=maj:=Decidable.byContradiction fun h=>g (.inl h)
   have u:¬ m=31:=fun h=>g (.inr h)
   subst C
   have X:((m:Int) == 31)=false:=by rw [beq_eq_false_iff_ne]; omega
   have D:=Lib.hid (fun w=>xW l m j w)
   rw [X]at D
   have o:=Lib.hid (fun W (h:RdB W p (bs r) d)=>zfl p d j (bs r) W h (by omega))
   rw [yW]at o
   clear g u
   unfold qm at o ⊢
   by_cases O:r.length<j
   ·rw [if_pos O]at o ⊢
    unfold xw
    simp only []at o ⊢
    obtain ⟨ev,t⟩:∃ ev,jD 100=ev:=⟨_,rfl⟩
    rw [t]at o ⊢
    clear t
    go_enter Tryz.func241,Tryz.ntmps241
    go_wp2_with fail
    refine k.mono ?_
    rintro L c ⟨q,rfl,f⟩
    have a:=Blk.new c #[.int .i64 l,.int .i64 m,.int .u64 j] 137
    have z:=a.cell 0
    have A:=a.cell 1
    have B:=a.cell 2
    clear k
    go_wp2_with fail
    refine (D.out _).mono ?_
    rintro U J ⟨rfl,i⟩
    have n:=a.below i a.lt
    have G:=(f.alloc (.cells #[.int .i64 l,.int .i64 m,.int .u64 j] 137)).below i (f.alloc _).lt
    have E:=grown_of q (((Below.refl c.heap.size c).alloc (Nat.le_refl _) _).trans (i.mono (by simp)))
    clear z A B
    have z:=n.cell 0
    have A:=n.cell 1
    have B:=n.cell 2
    go_wp2_with fail
    refine (o.out _ G).mono ?_
    rintro P T ⟨F,rfl,H⟩
    go_wp2_with fail
    refine bodyPost_ret (v:=.tuple #[.string ⟨#[]⟩,ev]) (by simp [results,Tryz.results241,go_sem]) rfl ⟨zu E F,rfl,by decide,bs r,H,I⟩
   ·rw [if_neg O]at o ⊢
    unfold xw
    simp only []at o ⊢
    obtain ⟨a1,M⟩:∃ a1,bs (r.take j)=a1:=⟨_,rfl⟩
    obtain ⟨r1,y⟩:∃ r1,bs (r.drop j)=r1:=⟨_,rfl⟩
    have S:r1.size≤s.size:=by rw [← y,jR,List.length_drop]; omega
    have Q:(r.take j).length≤s.size:=by rw [List.length_take]; omega
    rw [M,y]at o ⊢
    clear M y
    go_enter Tryz.func241,Tryz.ntmps241
    go_wp2_with fail
    refine k.mono ?_
    rintro L c ⟨q,rfl,f⟩
    have a:=Blk.new c #[.int .i64 l,.int .i64 m,.int .u64 j] 137
    have z:=a.cell 0
    have A:=a.cell 1
    have B:=a.cell 2
    clear k
    go_wp2_with fail
    refine (D.out _).mono ?_
    rintro U J ⟨rfl,i⟩
    have n:=a.below i a.lt
    have G:=(f.alloc (.cells #[.int .i64 l,.int .i64 m,.int .u64 j] 137)).below i (f.alloc _).lt
    have E:=grown_of q (((Below.refl c.heap.size c).alloc (Nat.le_refl _) _).trans (i.mono (by simp)))
    clear z A B
    have z:=n.cell 0
    have A:=n.cell 1
    have B:=n.cell 2
    go_wp2_with fail
    refine (o.out _ G).mono ?_
    rintro P T ⟨F,rfl,H⟩
    go_wp2_with fail
    refine bodyPost_ret (v:=.tuple #[.string a1,.nilIface]) (by simp [results,Tryz.results241,go_sem]) rfl ⟨zu E F,rfl,H,S,Q⟩
end Go.Proofs.YtonihophanmaaaaGreatDoor
