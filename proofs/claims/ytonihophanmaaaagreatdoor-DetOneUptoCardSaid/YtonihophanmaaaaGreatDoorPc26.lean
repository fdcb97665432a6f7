/- The texts FloL, FloE, put together. -/
import Derived.Test.YtonihophanmaaaaGreatDoorPc25
import Derived.Test.YtonihophanmaaaaGreatDoorPc15
set_option maxHeartbeats 4000000
set_option maxRecDepth 100000
namespace Go.Proofs.YtonihophanmaaaaGreatDoor
open Go.RowKit Go.Shelf
theorem zj6 (b:Int) (w:World) :
  Calls Tryz.prog 92 #[.int .u64 b,.int .i64 64] w fun e w'=>e=.returned (.tuple #[.int .u64 b,.bool true])∧Below w.heap.size w w':=by
 have l:=Lib.hid (show ∀ w,Calls Tryz.prog 123 #[.int .i64 64] w fun e w'=>e=.returned (.tuple #[.agg #[.int .i64 52,.int .i64 11,.int .i64 64],.bool true])∧Below w.heap.size w w' from kB 64)
 have j:=Lib.hid kQ
 go_enter Tryz.func92,Tryz.ntmps92
 go_wp2_with fail
 apply jJ 0 rfl
 go_wp2_with fail
 refine (j.out _).mono ?_
 rintro e m ⟨rfl,a⟩
 have f:=a.alloc a.size (.cells #[.int .i64 52,.int .i64 11,.int .i64 64] 170)
 have i:=Blk.new m #[.int .i64 52,.int .i64 11,.int .i64 64] 170
 clear j a
 go_wp2_with fail
 refine (l.out _).mono ?_
 rintro e n ⟨rfl,g⟩
 have h:=f.trans (g.mono f.size)
 have d:=(i.below g i.lt).alloc (.cells #[.int .i64 52,.int .i64 11,.int .i64 64] 170)
 have c:=Blk.new n #[.int .i64 52,.int .i64 11,.int .i64 64] 170
 have k:=h.alloc h.size (.cells #[.int .i64 52,.int .i64 11,.int .i64 64] 170)
 have o:=d.cell 0
 have p:=d.cell 1
 have q:=d.cell 2
 have r:=c.cell 0
 have s:=c.cell 1
 have t:=c.cell 2
 go_wp2_with fail
 rw [jO]
 refine bodyPost_ret (v:=.tuple #[.int .u64 b,.bool true]) (by simp [results,Tryz.results92,go_sem]) rfl ⟨rfl,k⟩
theorem zg7 (b wd:Int) (h:ofW wd=((0,0,0),false)) (w:World) :
  Calls Tryz.prog 92 #[.int .u64 b,.int .i64 wd] w fun e w'=>e=.returned (.tuple #[.int .u64 0,.bool false])∧Below w.heap.size w w':=by
 have j:=Lib.hid (show ∀ w,Calls Tryz.prog 123 #[.int .i64 wd] w fun e w'=>e=.returned (.tuple #[.agg #[.int .i64 0,.int .i64 0,.int .i64 0],.bool false])∧Below w.heap.size w w' from fun w=>by
  have:=kB wd w
  rw [h]at this
  exact this)
 have f:=Lib.hid kQ
 clear h
 go_enter Tryz.func92,Tryz.ntmps92
 go_wp2_with fail
 apply jJ 0 rfl
 go_wp2_with fail
 refine (f.out _).mono ?_
 rintro e k ⟨rfl,a⟩
 have c:=a.alloc a.size (.cells #[.int .i64 52,.int .i64 11,.int .i64 64] 170)
 clear f a
 go_wp2_with fail
 refine (j.out _).mono ?_
 rintro e l ⟨rfl,g⟩
 have d:=c.trans (g.mono c.size)
 have i:=d.alloc d.size (.cells #[.int .i64 0,.int .i64 0,.int .i64 0] 170)
 go_wp2_with fail
 go_step3
 simp +zetaDelta only [Exit.then,ju]
 go_wp2_with fail
 rw [Exit.noGoto_ret]
 refine bodyPost_ret (v:=.tuple #[.int .u64 0,.bool false]) (by simp [results,Tryz.results92,go_sem]) rfl ⟨rfl,i⟩
theorem zbi (b wd:Int) (f:0≤b) (g:b<18446744073709551616) (w:World) :
  Calls Tryz.prog 92 #[.int .u64 b,.int .i64 wd] w fun e w'=>e=.returned (.tuple #[.int .u64 ((kD b wd).getD 0),.bool (kD b wd).isSome])∧Below w.heap.size w w':=by
 by_cases a:wd=16
 ·subst a
  exact zj4 b f g w
 by_cases c:wd=32
 ·subst c
  exact zj5 b f g w
 by_cases d:wd=64
 ·subst d
  exact zj6 b w
 ·have h:kD b wd=none:=by
   unfold kD
   rw [if_neg a,if_neg c,if_neg d]
  rw [h]
  refine zg7 b wd ?_ w
  unfold ofW
  rw [if_neg a,if_neg c,if_neg d]
theorem zg4 {b:Int} {c:List Fm} {x:Fm} (i:c++[x] <+: qA) (hn:∀ f∈c,(kD b f.2.2).isSome=false) (e:(kD b x.2.2).isSome=true):j4 b=x.2.2:=by
 obtain ⟨t,a⟩:=i
 unfold qA at a
 unfold j4
 match c,a,hn with
 | [],a,_ =>
  simp at a
  obtain ⟨rfl,_⟩:=a
  rw [if_pos (show (qQ 10 5 b).isSome=true from e)]
 | [g],a,hn =>
  simp at a
  obtain ⟨rfl,rfl,_⟩:=a
  have d:=hn (10,5,16) (by simp)
  rw [if_neg (show ¬ (qQ 10 5 b).isSome=true from by rw [show (qQ 10 5 b).isSome=false from d]; decide),if_pos (show (qQ 23 8 b).isSome=true from e)]
 | [g,j],a,hn =>
  simp at a
  obtain ⟨rfl,rfl,rfl,_⟩:=a
  have d:=hn (10,5,16) (by simp)
  have h:=hn (23,8,32) (by simp)
  rw [if_neg (show ¬ (qQ 10 5 b).isSome=true from by rw [show (qQ 10 5 b).isSome=false from d]; decide),if_neg (show ¬ (qQ 23 8 b).isSome=true from by rw [show (qQ 23 8 b).isSome=false from h]; decide)]
 | g::j::k::l,a,_ =>
  have:=congrArg List.length a
  simp at this
end Go.Proofs.YtonihophanmaaaaGreatDoor
namespace Go.Proofs.YtonihophanmaaaaGreatDoor
open Go.RowKit Go.Shelf
section
attribute [local go_sem] Oper.semAt_some qi jA
theorem zbZ (b:Int) (H:0≤b) (E:b<18446744073709551616) (w:World) :
  Calls Tryz.prog 89 #[.int .u64 b] w fun e w'=>e=.returned (.int .i64 (j4 b))∧Below w.heap.size w w':=by
 refine jo Tryz.func89 rfl ?_
 simp only [Tryz.ntmps89,List.size_toArray,List.length_cons,List.length_nil,Nat.reduceAdd,Nat.reduceSub,Array.replicate_succ,Array.replicate_zero,List.push_toArray,List.append_toArray,List.nil_append,List.cons_append]
 have Q:=Lib.hid zbj
 have HN:=Lib.hid (fun wd W=>zbi b wd H E W)
 have N:(kD b 64).isSome=true:=rfl
 clear H E
 go_wp2_with fail
 refine (Q.out _).mono ?_
 rintro e w' ⟨rfl,rfl⟩
 go_wp2_with fail
 clear Q
 have C:∀ W0,W0=((w.alloc (Obj.cells #[Value.int .u64 b] 25)).alloc (Obj.cells #[Value.int IntKind.i64 0] 3))→Blk W0 w.heap.size #[.int .u64 b] 25∧Blk W0 (w.heap.size+1) #[.int .i64 0] 3∧Below w.heap.size w W0∧W0.heap.size=w.heap.size+2:=by
  rintro W0 rfl
  refine ⟨(Blk.new w #[.int .u64 b] 25).alloc _,?_,((Below.refl _ w).alloc (Nat.le_refl _) _).alloc (by simp) _,by simp⟩
  have:=Blk.new (w.alloc (Obj.cells #[Value.int .u64 b] 25)) #[Value.int IntKind.i64 0] 3
  simpa only [World.size_alloc] using this
 obtain ⟨W0,B⟩:∃ W0,((w.alloc (Obj.cells #[Value.int .u64 b] 25)).alloc (Obj.cells #[Value.int IntKind.i64 0] 3))=W0:=⟨_,rfl⟩
 obtain ⟨b0,b1,U,am⟩:=C W0 B.symm
 rw [B]
 clear B C
 refine wZ (gf:=179) (lb:=#[]) rfl (enters_of Tryz.func179 (by kernel_rfl) rfl)
  (vS 8 (w.heap.size+2) W0) (by omega) (Below.refl _ _) (fun _=>rfl)
  (fun g W=>((∀ f∈g,(kD b f.2.2).isSome=false)∧Blk W w.heap.size #[.int .u64 b] 25∧Blk W (w.heap.size+1) #[.int .i64 0] 3)∧Below w.heap.size W0 W)
  (fun c g W=>(c=.ret∧∃ (o:List Fm) (x:Fm),g=o++[x]∧(∀ f∈o,(kD b f.2.2).isSome=false)∧(kD b x.2.2).isSome=true∧Blk W (w.heap.size+1) #[.int .i64 x.2.2] 3)∧Below w.heap.size W0 W)
  ?hI ?hIx ⟨⟨fun f h=>absurd h (by simp),b0,b1⟩,Below.refl _ _⟩
  (fun T x M W=>∃ t,w.heap.size+1<t∧Blk W t #[.int .i64 x.1,.int .i64 x.2.1,.int .i64 x.2.2] 170∧M={ tmps:=(T.setIfInBounds 7 (fmV x)).setIfInBounds 3 (.pointer (some ⟨t,0,none⟩)),defers:=[] })
  ?hAx ?assign ?body ?done ?stop
 case hI =>
  refine OwnFrom.and (Own.from ?_ _) (ownFrom_below (by omega) (by omega))
  rintro s X Y j ⟨a,z,A⟩ y n
  exact ⟨a,jx _ _ (fun _:Unit=>_) () X Y j z y n,jx _ _ (fun _:Unit=>_) () X Y j A y n⟩
 case hIx =>
  intro c
  refine OwnFrom.and (Own.from ?_ _) (ownFrom_below (by omega) (by omega))
  rintro s X Y j ⟨a,p,x,G,hw,z,A⟩ y n
  exact ⟨a,p,x,G,hw,z,jx _ _ (fun _:Unit=>_) () X Y j A y n⟩
 case hAx =>
  rintro x M _ X Y j ⟨t,a,z,A⟩ y n
  exact ⟨t,a,jx _ _ (fun _:Unit=>_) () X Y j z y (fun r e=>(n r e).2),A⟩
 case assign =>
  rintro l g x W K ⟨⟨k,m,a⟩,i⟩ u
  have HK:=Lib.hid u
  clear u
  have hz:=i.size
  gi_wp2
  exact HK.out _ _ ((KeepsOthers.alloc _ _).from _) ((Below.refl _ _).alloc (by omega) _) ⟨⟨k,m.alloc _,a.alloc _⟩,i.alloc (by omega) _⟩ ⟨W.heap.size,a.lt,Blk.new _ _ _,rfl⟩
 case body =>
  rintro l g x M W hl ⟨r,n⟩ ⟨⟨k,m,a⟩,i⟩ ⟨t,aj,F,rfl⟩ ak
  have P:=Lib.hid k
  have L:=F.cell 2
  have ab:=m.cell 0
  have hz:=i.size
  have O:=Lib.hid (HN.out x.2.2 W)
  clear k
  simp only [List.setIfInBounds_toArray,List.set_cons_zero,List.set_cons_succ]
  gi_wp2_with fail
  refine (show CallsIn (Fence.wide.inRound l) 6 _ _ _ _ _ from (callsIn_wide.2 O.out:CallsIn Fence.wide 6 _ _ _ _ _)).mono ?_
  rintro e W1 ⟨rfl,d⟩
  have an:=d.size
  have V:=F.below d F.lt
  have S:=m.below d m.lt
  have q:=a.below d a.lt
  have I:Below w.heap.size W0 W1:=i.trans (d.mono (by omega))
  clear L ab F m a i O
  have L:=V.cell 2
  have al:=q.cell 0
  have hf:=q.frozen
  cases hs:(kD b x.2.2).isSome with
  | true =>
   gi_wp2_with fail
   exact ⟨(kC d).trans ((KeepsOthers.setCell _ _ _).from _),⟨rfl,g,x,rfl,P.out,hs,q.set 0 _⟩,I.setCell (by simp) _⟩
  | false =>
   gi_wp2_with fail
   exact ⟨kC d,d.mono (by omega),⟨fun f Z=>(List.mem_append.1 Z).elim (P.out f) (fun h=>by rw [List.mem_singleton.1 h]; exact hs),S,q⟩,I⟩
 case done =>
  rintro D ys W hD rfl ⟨⟨k,m,a⟩,i⟩ u
  exact absurd ((k (52,11,64) (by simp [qA])).symm.trans N) (by decide)
 case stop =>
  rintro D c g W hD k ⟨⟨rfl,o,x,rfl,J,G,a⟩,i⟩ u
  have HO:=Lib.hid (zg4 k J G)
  clear k J G
  have hz:=i.size
  go_wp2_with fail
  have R:=a.shut u rfl (.deferred none)
  have aa:=R.cell 0
  refine leave1 (v:=.int .i64 x.2.2) u (by simp [results,Tryz.results89,go_sem,aa]) rfl ⟨by rw [HO.out],jX (U.trans i) (by omega) (by omega) _⟩
end
end Go.Proofs.YtonihophanmaaaaGreatDoor
