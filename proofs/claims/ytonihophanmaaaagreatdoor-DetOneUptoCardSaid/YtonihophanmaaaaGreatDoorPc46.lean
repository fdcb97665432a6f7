/- The texts CrZ, CsA, RcP, DsQ, DtG, DsR, put together. -/
import Derived.Test.YtonihophanmaaaaGreatDoorPc34
import Derived.Test.YtonihophanmaaaaGreatDoorPc45
import Derived.Test.YtonihophanmaaaaGreatDoorPc21
import Derived.Test.YtonihophanmaaaaGreatDoorPc32
import Derived.Test.YtonihophanmaaaaGreatDoorPc09
set_option maxHeartbeats 8000000
set_option maxRecDepth 100000
namespace Go.Proofs.YtonihophanmaaaaGreatDoor
open Go.RowKit Go.Shelf
theorem zhx {α:Type} {p:Psr α} (b:j7 p) {l r:List UInt8} {a:α} (h:p l=.good a r):r.length≤l.length:=by
 obtain ⟨own,e,_⟩:=b l a r h
 rw [e,List.length_append]
 omega
def zcK (p:Psr Tr):Prop:=∀ l t r,p l=.good t r→t.count+r.length≤l.length
theorem yN {p:Psr Tr} (c:zcK p):∀ (n:Nat) (a:List Tr) (l:List UInt8) (L:List Tr) (r:List UInt8),jr p n a l=.good L r→∃ b,L=a++b∧zm b+r.length≤l.length
 | 0,a,l,L,r,h=>by
  have h:PR.good a l=.good L r:=h
  injection h with d f
  subst d f
  exact ⟨[],by simp,by simp [zm]⟩
 | n+1,a,l,L,r,h=>by
  obtain ⟨t,s,g,i⟩:=qk h
  obtain ⟨b,e,j⟩:=yN c n _ _ _ _ i
  refine ⟨t::b,by rw [e,List.append_assoc]; rfl,?_⟩
  have k:=c _ _ _ g
  rw [zm]
  omega
theorem zdo {p:Psr Tr} (g:zcK p) (i:kP p) (size:Nat):∀ (f:Nat) (a:List Tr) (l:List UInt8) (L:List Tr) (r:List UInt8),xc p (size+1) f a l=.good L r→∃ b,L=a++b∧zm b+r.length≤l.length
 | 0,_,_,_,_,h=>by cases h
 | f+1,a,l,L,r,h=>by
  cases l with
  | nil =>
   have h:zS (jr p (size+1) a) _ []=.good L r:=h
   rw [xi (zcf i _ _)]at h
   cases h
  | cons c t =>
   by_cases hc:c=255
   ·subst hc
    have h:PR.good a t=.good L r:=h
    injection h with d e
    subst d e
    exact ⟨[],by simp,by simp [zm]⟩
   ·have j:zS (jr p (size+1) a) (fun l=>xc p (size+1) f l) (c::t)=.good L r:=by
     have:ky a (zS (jr p (size+1) a) fun l=>xc p (size+1) f l) (c::t)=.good L r:=h
     unfold ky at this
     simpa [hc] using this
    obtain ⟨q,v,k,m⟩:=qk j
    obtain ⟨n,d,s⟩:=yN g _ _ _ _ _ k
    obtain ⟨o,e,u⟩:=zdo g i size f _ _ _ _ m
    refine ⟨n++o,by rw [e,d,List.append_assoc],?_⟩
    rw [kW]
    omega
theorem zdj {F:Nat} {p:Psr Tr} (b:zcK p) (d:kP p) (size:Nat) {h:Nat×Nat×Nat} {l:List UInt8} {L:List Tr} {r:List UInt8} (a:xB F p (size+1) h l=.good L r):zm L+r.length≤l.length:=by
 unfold xB at a
 split at a
 ·obtain ⟨c,e,g⟩:=zdo b d size _ _ _ _ _ a
  rw [e,List.nil_append]
  exact g
 ·obtain ⟨c,e,g⟩:=yN b _ _ _ _ _ a
  rw [e,List.nil_append]
  exact g
theorem vn (o:Own):(Tr.nd o []).count=1:=by rw [Tr.count,zm]
theorem ziH {h:Nat×Nat×Nat} {l r:List UInt8} {t:Tr} (a:vr h l=.good t r):t.count=1∧r=l:=by
 have key:∀ {x:Tr} {o:Own},x=.nd o []→jC x l=.good t r→t.count=1∧r=l:=fun {x o} d h=>by
  have h:PR.good x l=.good t r:=h
  injection h with b c
  subst b
  exact ⟨by rw [d,vn],c.symm⟩
 unfold vr at a
 repeat' split at a
 all_goals first | exact key rfl a | cases a
theorem zas (F:Nat):∀ d,zcK (zE F d)
 | 0=>fun l t r h=>by
  unfold zE at h
  split at h <;> cases h
 | d+1=>fun l t r h=>by
  obtain ⟨i,s,u,a⟩:=qk h
  have q:s.length+1≤l.length:=by
   obtain ⟨own,e,g,_⟩:=vj _ _ _ u
   have:=zdY zaP g
   rw [e,List.length_append]
   omega
  have f:∀ {x:Tr} {m:List UInt8},jC x m=.good t r→x=t∧m=r:=fun {x m} o=>by
   have o:PR.good x m=.good t r:=o
   injection o with b c
   exact ⟨b,c⟩
  have p:=zas F d
  unfold ql at a
  by_cases c0:(i.1<2∨i.1=6)∧i.2.1=31
  ·rw [if_pos c0]at a
   cases a
  rw [if_neg c0]at a
  by_cases c1:i.1=0
  ·rw [if_pos c1]at a
   obtain ⟨b,c⟩:=f a
   rw [← b,← c]
   unfold wl
   rw [vn]
   omega
  rw [if_neg c1]at a
  by_cases c2:i.1=1
  ·rw [if_pos c2]at a
   obtain ⟨b,c⟩:=f a
   rw [← b,← c]
   unfold wl
   rw [vn]
   omega
  rw [if_neg c2]at a
  by_cases c3:i.1=2
  ·rw [if_pos c3]at a
   obtain ⟨x,n,j,k⟩:=qk a
   obtain ⟨b,c⟩:=f k
   have:=zhx (wx _ _) j
   rw [← b,← c]
   unfold kU
   rw [vn]
   omega
  rw [if_neg c3]at a
  by_cases c4:i.1=3
  ·rw [if_pos c4]at a
   obtain ⟨x,n,j,k⟩:=qk a
   obtain ⟨b,c⟩:=f k
   have:=zhx (wx _ _) j
   rw [← b,← c]
   unfold kU
   rw [vn]
   omega
  rw [if_neg c4]at a
  by_cases c5:i.1=4
  ·rw [if_pos c5]at a
   obtain ⟨x,n,j,k⟩:=qk a
   obtain ⟨b,c⟩:=f k
   have:=zdj p (wD F d) 0 j
   rw [← b,← c]
   unfold xM
   rw [Tr.count]
   omega
  rw [if_neg c5]at a
  by_cases c6:i.1=5
  ·rw [if_pos c6]at a
   obtain ⟨x,n,j,k⟩:=qk a
   obtain ⟨b,c⟩:=f k
   have:=zdj p (wD F d) 1 j
   rw [← b,← c]
   unfold xM
   rw [Tr.count]
   omega
  rw [if_neg c6]at a
  by_cases c7:i.1=6
  ·rw [if_pos c7]at a
   obtain ⟨x,n,j,k⟩:=qk a
   obtain ⟨b,c⟩:=f k
   have:=p _ _ _ j
   rw [← b,← c]
   unfold zaM
   rw [Tr.count,zm,zm]
   omega
  rw [if_neg c7]at a
  obtain ⟨b,c⟩:=ziH a
  rw [b,c]
  omega
end Go.Proofs.YtonihophanmaaaaGreatDoor
namespace Go.Proofs.YtonihophanmaaaaGreatDoor
open Go.RowKit Go.Shelf
attribute [local go_sem] Oper.semAt_some
theorem vM:zt zv:=⟨by decide,by decide,by decide,by decide,by decide,by decide⟩
noncomputable def RC (s:ByteArray):Int×Tr:=zfa (s.size+1) s.data.toList
def xP (w:World) (r:Int×Tr) (x:Ending) (w':World):Prop:=Below w.heap.size w w'∧∃ A n c,x=.returned (.tuple #[ze r.2.own (.slice A n c),.int .i64 r.1])∧LAt w' (fun q=>w.heap.size≤q∧q<w'.heap.size) 16 r.2.kids (.slice A n c)∧zt r.2.own
theorem zhp {aT aF:Addr} (s:ByteArray) (hs:s.size≤1000000000) (w:World) (h:RW w aT aF) (F:OkS s:=by exact zbV _) :
  Calls Tryz.prog 28 #[.string s] w (xP w (RC s)):=by
 have E:s.data.toList.length=s.size:=by simp
 have i:=(Below.refl w.heap.size w).alloc (Nat.le_refl _) (.cells #[.int .i64 0,.bool false,.bool false,.string ⟨#[]⟩,.int .i64 0,.int .u64 0,.int .i64 0,.string ⟨#[]⟩,.slice none 0 0] 28)
 have v:=Blk.new w #[.int .i64 0,.bool false,.bool false,.string ⟨#[]⟩,.int .i64 0,.int .u64 0,.int .i64 0,.string ⟨#[]⟩,.slice none 0 0] 28
 unfold RC zfa
 rw [E]
 by_cases D:4000<s.size
 ·rw [if_pos D]
  have y0:(s.size:Int) > 4000:=by omega
  clear D h E F
  go_enter Tryz.func28,Tryz.ntmps28
  go_wp2_with (refine wpList_store_row rfl 28 (.tmp 2) (.tmp 10) rfl (w.heap.size) #[.int .i64 0,.bool false,.bool false,.string ⟨#[]⟩,.int .i64 0,.int .u64 0,.int .i64 0,.string ⟨#[]⟩,.slice none 0 0] rfl rfl 28 _ v (by kernel_rfl) rfl (by simp [Value.oneCell']) ?_)
  refine bodyPost_ret (zo (T:=28) rfl rfl rfl (zB v #[.int .i64 0,.bool false,.bool false,.string ⟨#[]⟩,.int .i64 0,.int .u64 0,.int .i64 0,.string ⟨#[]⟩,.slice none 0 0]) Tryz.underlying28 rfl (by kernel_rfl)) rfl ?_
  refine ⟨(i).grown (zx _ w.heap.size _) (i).size (fun q e=>by cases e; omega),?_⟩
  exact ⟨none,0,0,rfl,LAt.nil _ _ _ _ _,vM⟩
 ·rw [if_neg D]
  have y0:¬ (s.size:Int) > 4000:=by omega
  have b:=Lib.hid (zmx s hs _ (h.below i).tab (h.below i).ty F)
  have X:=Lib.hid (fun W (hb:Below w.heap.size w W)=>(h.below hb).g)
  have Q:=zas (s.size+1) 16 s.data.toList
  rw [E]at Q
  unfold xL at b
  clear D h E F
  cases hres:zE (s.size+1) 16 s.data.toList with
  | bad e =>
   rw [hres]at b
   have he:=yl _ _ _ _ hres
   have b:Hid (Calls Tryz.prog 45 #[.string s] (w.alloc (.cells #[.int .i64 0,.bool false,.bool false,.string ⟨#[]⟩,.int .i64 0,.int .u64 0,.int .i64 0,.string ⟨#[]⟩,.slice none 0 0] 28)) fun x I=>Below (w.alloc (.cells #[.int .i64 0,.bool false,.bool false,.string ⟨#[]⟩,.int .i64 0,.int .u64 0,.int .i64 0,.string ⟨#[]⟩,.slice none 0 0] 28)).heap.size (w.alloc (.cells #[.int .i64 0,.bool false,.bool false,.string ⟨#[]⟩,.int .i64 0,.int .u64 0,.int .i64 0,.string ⟨#[]⟩,.slice none 0 0] 28)) I∧x=.returned (.tuple #[zdz,.string s,.int .i64 e])∧e≠0):=b
   show Calls _ _ _ _ (xP w (e,.nd zv []))
   have y1:(e == 0)=false:=by rw [beq_eq_false_iff_ne]; exact he
   have y2:(e != 0)=true:=by rw [bne_iff_ne]; exact he
   clear hres he X Q
   go_enter Tryz.func28,Tryz.ntmps28
   go_wp2_with fail
   refine b.out.mono ?_
   rintro x M ⟨l,rfl,_⟩
   unfold zdz ze zv
   simp only []
   have y:=(v.below l v.lt).alloc (.cells #[.int .i64 0,.bool false,.bool false,.string ⟨#[]⟩,.int .i64 0,.int .u64 0,.int .i64 0,.string ⟨#[]⟩,.slice none 0 0] 28)
   have u:=i.trans (l.mono i.size)
   have m:=u.alloc u.size (.cells #[.int .i64 0,.bool false,.bool false,.string ⟨#[]⟩,.int .i64 0,.int .u64 0,.int .i64 0,.string ⟨#[]⟩,.slice none 0 0] 28)
   go_wp2_with (refine wpList_store_row rfl 28 (.tmp 2) (.tmp 29) rfl (w.heap.size) #[.int .i64 0,.bool false,.bool false,.string ⟨#[]⟩,.int .i64 0,.int .u64 0,.int .i64 0,.string ⟨#[]⟩,.slice none 0 0] rfl rfl 28 _ y (by kernel_rfl) rfl (by simp [Value.oneCell']) ?_)
   refine bodyPost_ret (zo (T:=28) rfl rfl rfl (zB y #[.int .i64 0,.bool false,.bool false,.string ⟨#[]⟩,.int .i64 0,.int .u64 0,.int .i64 0,.string ⟨#[]⟩,.slice none 0 0]) Tryz.underlying28 rfl (by kernel_rfl)) rfl ?_
   refine ⟨(m).grown (zx _ w.heap.size _) (m).size (fun q e=>by cases e; omega),?_⟩
   exact ⟨none,0,0,rfl,LAt.nil _ _ _ _ _,vM⟩
  | good t r =>
   rw [hres]at b
   have b:Hid (Calls Tryz.prog 45 #[.string s] (w.alloc (.cells #[.int .i64 0,.bool false,.bool false,.string ⟨#[]⟩,.int .i64 0,.int .u64 0,.int .i64 0,.string ⟨#[]⟩,.slice none 0 0] 28)) fun x I=>Below (w.alloc (.cells #[.int .i64 0,.bool false,.bool false,.string ⟨#[]⟩,.int .i64 0,.int .u64 0,.int .i64 0,.string ⟨#[]⟩,.slice none 0 0] 28)).heap.size (w.alloc (.cells #[.int .i64 0,.bool false,.bool false,.string ⟨#[]⟩,.int .i64 0,.int .u64 0,.int .i64 0,.string ⟨#[]⟩,.slice none 0 0] 28)) I∧(∃ A n c,x=.returned (.tuple #[ze t.own (.slice A n c),.string (bs r),.int .i64 0])∧LAt I (fun q=>(w.alloc (.cells #[.int .i64 0,.bool false,.bool false,.string ⟨#[]⟩,.int .i64 0,.int .u64 0,.int .i64 0,.string ⟨#[]⟩,.slice none 0 0] 28)).heap.size≤q∧q<I.heap.size) 16 t.kids (.slice A n c))∧zt t.own∧r.length+1≤s.size):=b
   have ai:=Q t r hres
   have R:=Lib.hid (show t.count≤1000000000 by omega)
   clear hres Q ai
   show Calls _ _ _ _ (xP w (if r≠[] then (110,.nd zv []) else if zj 2 flC t=0 then (0,t) else (zj 2 flC t,.nd zv [])))
   by_cases Y:r=[]
   ·subst Y
    rw [if_neg (fun h=>h rfl)]
    have C:=Lib.hid (fun W A n c (hb:Below w.heap.size w W) (hl:zq W W.heap.size 16 t.kids (.slice A n c)) (ho:zt t.own)=>vA 2 flC (yp aT aF) t (.slice A n c) W W.heap.size 16 hl ho (Nat.le_refl _) R.out (X.out W hb))
    obtain ⟨ck,aa⟩:∃ ck,zj 2 flC t=ck:=⟨_,rfl⟩
    rw [aa]at C ⊢
    obtain ⟨RR,N⟩:∃ RR,(if ck=0 then ((0:Int),t) else (ck,.nd zv []))=RR:=⟨_,rfl⟩
    rw [N]
    have S:=Lib.hid (fun (q:ck=0)=>(show RR=(0,t) by rw [← N,if_pos q]))
    have U:=Lib.hid (fun (q:¬ ck=0)=>(show RR=(ck,.nd zv []) by rw [← N,if_neg q]))
    clear N
    have b:Hid (Calls Tryz.prog 45 #[.string s] (w.alloc (.cells #[.int .i64 0,.bool false,.bool false,.string ⟨#[]⟩,.int .i64 0,.int .u64 0,.int .i64 0,.string ⟨#[]⟩,.slice none 0 0] 28)) fun x I=>Below (w.alloc (.cells #[.int .i64 0,.bool false,.bool false,.string ⟨#[]⟩,.int .i64 0,.int .u64 0,.int .i64 0,.string ⟨#[]⟩,.slice none 0 0] 28)).heap.size (w.alloc (.cells #[.int .i64 0,.bool false,.bool false,.string ⟨#[]⟩,.int .i64 0,.int .u64 0,.int .i64 0,.string ⟨#[]⟩,.slice none 0 0] 28)) I∧(∃ A n c,x=.returned (.tuple #[ze t.own (.slice A n c),.string ⟨#[]⟩,.int .i64 0])∧LAt I (fun q=>(w.alloc (.cells #[.int .i64 0,.bool false,.bool false,.string ⟨#[]⟩,.int .i64 0,.int .u64 0,.int .i64 0,.string ⟨#[]⟩,.slice none 0 0] 28)).heap.size≤q∧q<I.heap.size) 16 t.kids (.slice A n c))∧zt t.own∧([]:List UInt8).length+1≤s.size):=b
    clear aa X R
    go_enter Tryz.func28,Tryz.ntmps28
    go_wp2_with fail
    refine b.out.mono ?_
    rintro x M ⟨l,⟨A,n,c,rfl,K⟩,L,_⟩
    obtain ⟨⟨a,b3,d,j,k,H,p,G⟩,B⟩:∃ o,t.own=o:=⟨_,rfl⟩
    have ag:=Lib.hid B
    have ah:=Lib.hid L
    rw [B]at C ⊢
    unfold ze at C ⊢
    simp only []at C ⊢
    rw [World.size_alloc]at K
    have al:=l.size
    rw [World.size_alloc]at al
    have y:=(v.below l v.lt).alloc (.cells #[.int .i64 a,.bool b3,.bool d,.string j,.int .i64 k,.int .u64 H,.int .i64 p,.string G,.slice A n c] 28)
    have f:=Blk.new M #[.int .i64 a,.bool b3,.bool d,.string j,.int .i64 k,.int .u64 H,.int .i64 p,.string G,.slice A n c] 28
    have u:=i.trans (l.mono i.size)
    have m:=u.alloc u.size (.cells #[.int .i64 a,.bool b3,.bool d,.string j,.int .i64 k,.int .u64 H,.int .i64 p,.string G,.slice A n c] 28)
    have V:LAt (M.alloc (.cells #[.int .i64 a,.bool b3,.bool d,.string j,.int .i64 k,.int .u64 H,.int .i64 p,.string G,.slice A n c] 28)) (fun q=>w.heap.size+1≤q∧q<M.heap.size) 16 t.kids (.slice A n c):=K.keep (fun q F=>Below.heap_alloc M _ q F.2)
    have af:=Lib.hid V
    have Z:=Lib.hid (C.out _ A n c m (V.mono (fun q F=>by rw [World.size_alloc]; omega)) (by rw [← B]; exact L))
    have c0:=f.cell 0
    have c1:=f.cell 1
    have c2:=f.cell 2
    have c3:=f.cell 3
    have c4:=f.cell 4
    have c5:=f.cell 5
    have c6:=f.cell 6
    have c7:=f.cell 7
    have c8:=f.cell 8
    clear K V B L C
    go_wp2_with fail
    refine Z.out.mono ?_
    rintro x w5 ⟨rfl,J⟩
    have P:=y.below J y.lt
    have ak:=f.below J f.lt
    have O:=m.trans (J.mono m.size)
    have am:=J.size
    rw [World.size_alloc]at am
    clear c0 c1 c2 c3 c4 c5 c6 c7 c8
    by_cases z:ck=0
    ·have e0:=S.out z
     subst z
     subst e0
     clear S U Z
     go_wp2_with (first | (refine wpList_load_row rfl 28 (.tmp 4) rfl M.heap.size rfl 28 _ (0,0) _ ak Tryz.underlying28 rfl (by kernel_rfl) ?_) | (refine wpList_store_row rfl 28 (.tmp 2) (.tmp 31) rfl (w.heap.size) #[.int .i64 a,.bool b3,.bool d,.string j,.int .i64 k,.int .u64 H,.int .i64 p,.string G,.slice A n c] rfl rfl 28 _ P (by kernel_rfl) rfl (by simp [Value.oneCell']) ?_))
     refine bodyPost_ret (zo (T:=28) rfl rfl rfl (zB P #[.int .i64 a,.bool b3,.bool d,.string j,.int .i64 k,.int .u64 H,.int .i64 p,.string G,.slice A n c]) Tryz.underlying28 rfl (by kernel_rfl)) rfl ?_
     refine ⟨O.grown (zx _ w.heap.size _) O.size (fun q e=>by cases e; omega),A,n,c,by rw [ag.out]; rfl,?_,ah.out⟩
     exact ((af.out.keep (fun q F=>J.block q (by rw [World.size_alloc]; omega))).keep (fun q F=>setRow_other _ _ _ _ (by omega))).mono (fun q F=>⟨by omega,by rw [setRow_size]; omega⟩)
    ·have e0:=U.out z
     subst e0
     clear S U
     have y1:(ck != 0)=true:=by rw [bne_iff_ne]; exact z
     clear z
     go_wp2_with (refine wpList_store_row rfl 28 (.tmp 2) (.tmp 29) rfl (w.heap.size) #[.int .i64 0,.bool false,.bool false,.string ⟨#[]⟩,.int .i64 0,.int .u64 0,.int .i64 0,.string ⟨#[]⟩,.slice none 0 0] rfl rfl 28 _ P (by kernel_rfl) rfl (by simp [Value.oneCell']) ?_)
     refine bodyPost_ret (zo (T:=28) rfl rfl rfl (zB P #[.int .i64 0,.bool false,.bool false,.string ⟨#[]⟩,.int .i64 0,.int .u64 0,.int .i64 0,.string ⟨#[]⟩,.slice none 0 0]) Tryz.underlying28 rfl (by kernel_rfl)) rfl ?_
     refine ⟨(O).grown (zx _ w.heap.size _) (O).size (fun q e=>by cases e; omega),?_⟩
     exact ⟨none,0,0,rfl,LAt.nil _ _ _ _ _,vM⟩
   ·rw [if_pos Y]
    have aj:=wb (s:=bs r) (by rw [jR]; intro e; exact Y (List.eq_nil_of_length_eq_zero e))
    obtain ⟨rb,ab⟩:∃ rb,bs r=rb:=⟨_,rfl⟩
    rw [ab]at b aj
    clear ab Y X R
    go_enter Tryz.func28,Tryz.ntmps28
    go_wp2_with fail
    refine b.out.mono ?_
    rintro x M ⟨l,⟨A,n,c,rfl,K⟩,L,_⟩
    obtain ⟨⟨a,b3,d,j,k,H,p,G⟩,B⟩:∃ o,t.own=o:=⟨_,rfl⟩
    rw [B]
    unfold ze
    simp only []
    have y:=(v.below l v.lt).alloc (.cells #[.int .i64 a,.bool b3,.bool d,.string j,.int .i64 k,.int .u64 H,.int .i64 p,.string G,.slice A n c] 28)
    have u:=i.trans (l.mono i.size)
    have m:=u.alloc u.size (.cells #[.int .i64 a,.bool b3,.bool d,.string j,.int .i64 k,.int .u64 H,.int .i64 p,.string G,.slice A n c] 28)
    clear K L B
    go_wp2_with (refine wpList_store_row rfl 28 (.tmp 2) (.tmp 29) rfl (w.heap.size) #[.int .i64 0,.bool false,.bool false,.string ⟨#[]⟩,.int .i64 0,.int .u64 0,.int .i64 0,.string ⟨#[]⟩,.slice none 0 0] rfl rfl 28 _ y (by kernel_rfl) rfl (by simp [Value.oneCell']) ?_)
    refine bodyPost_ret (zo (T:=28) rfl rfl rfl (zB y #[.int .i64 0,.bool false,.bool false,.string ⟨#[]⟩,.int .i64 0,.int .u64 0,.int .i64 0,.string ⟨#[]⟩,.slice none 0 0]) Tryz.underlying28 rfl (by kernel_rfl)) rfl ?_
    refine ⟨(m).grown (zx _ w.heap.size _) (m).size (fun q e=>by cases e; omega),?_⟩
    exact ⟨none,0,0,rfl,LAt.nil _ _ _ _ _,vM⟩
end Go.Proofs.YtonihophanmaaaaGreatDoor
namespace Go.Proofs.YtonihophanmaaaaGreatDoor
open Go.RowKit Go.Shelf
theorem zk0 (s:ByteArray):s.data.toList.length=s.size:=by simp
theorem zaB (s:ByteArray):((RC s).1≠0∧(RC s).2=.nd zv [])∨((RC s).1=0∧zj 2 flC (RC s).2=0∧0<s.size∧s.size≤4000∧xL s=.good (RC s).2 []∧(RC s).2.count≤s.size):=by
 have a:s.data.toList.length=s.size:=by simp
 unfold RC zfa
 rw [a]
 by_cases f:4000<s.size
 ·rw [if_pos f]
  exact .inl ⟨by decide,rfl⟩
 ·rw [if_neg f]
  cases hr:zE (s.size+1) 16 s.data.toList with
  | bad e=>exact .inl ⟨yl _ _ _ _ hr,rfl⟩
  | good t r =>
   simp only []
   by_cases b:r≠[]
   ·rw [if_pos b]
    exact .inl ⟨by decide,rfl⟩
   ·rw [if_neg b]
    have e:r=[]:=Decidable.not_not.1 b
    subst e
    by_cases hc:zj 2 flC t=0
    ·rw [if_pos hc]
     have d:=yr hr
     have c:=zas _ _ _ _ _ hr
     rw [a]at d c
     refine .inr ⟨rfl,hc,by simp at d; omega,by omega,hr,by simp at c; exact c⟩
    ·rw [if_neg hc]
     exact .inl ⟨hc,rfl⟩
theorem zmm {s:ByteArray} {t:Tr} (h:xL s=.good t []) (a:s.size≤4000) (hc:zj 2 flC t=0):RC s=(0,t):=by
 unfold RC zfa
 rw [zk0,if_neg (by omega)]
 unfold xL at h
 rw [h]
 simp only [ne_eq,not_true_eq_false,if_false]
 rw [if_pos hc]
theorem ziq (t:Tr) (m:ByteArray) (a:okC t) (hd:t.depth≤16):xL (bs (cbT t)++m)=.good t m.data.toList:=by
 unfold xL
 rw [ByteArray.data_append,Array.toList_append,yW]
 exact zaR _ t 16 _ a hd
noncomputable def RD (s:ByteArray):Int×Tr:=if (RC s).1=0 then (if zj 2 flC (RC s).2=0∧qY (RC s).2=s then (0,(RC s).2) else (130,.nd zv [])) else ((RC s).1,.nd zv [])
theorem zcd (a b:ByteArray):(a.toList == b.toList)=decide (a=b):=by
 by_cases h:a=b
 ·subst h
  simp
 ·rw [decide_eq_false h,beq_eq_false_iff_ne,ByteArray.toList_eq,ByteArray.toList_eq]
  exact fun e=>h (by apply ByteArray.ext; exact Array.toList_inj.1 e)
theorem zcm {aT aF:Addr} (s0:ByteArray) (hs:s0.size≤1000000000) (w:World) (h:RW w aT aF) (d:OkS s0:=by exact zbV _) :
  Calls Tryz.prog 11 #[.string s0] w (xP w (RD s0)):=by
 have J:=fun (W:World) (L:Below w.heap.size w W)=>zhp s0 hs W (h.below L) d
 have H:=zaB s0
 have l:=fun (W:World) (L:Below w.heap.size w W) (B:Nat) (x:Value) (hx:LAt W (fun q=>B≤q∧q<W.heap.size) 16 (RC s0).2.kids x) (ho:zt (RC s0).2.own)=>yh (RC s0).2 x W (fun q=>B≤q∧q<W.heap.size) 16 aT aF hx ho (fun q d=>d.2) (by
  rcases H with ⟨_,e⟩ | ⟨_,e,_⟩
  ·rw [e]; decide
  ·have:=(qn.1 e).1; omega) (h.below L).g
 unfold RD
 unfold xP at J
 obtain ⟨⟨K,t⟩,au⟩:∃ x,RC s0=x:=⟨_,rfl⟩
 simp only [au]at J l H ⊢
 have y:K=0→zj 2 flC t=0:=fun R=>by
  rcases H with ⟨h1,_⟩ | ⟨_,h1,_⟩
  ·exact absurd R h1
  ·exact h1
 obtain ⟨ck,aj⟩:∃ ck,zj 2 flC t=ck:=⟨_,rfl⟩
 obtain ⟨ws,av⟩:∃ ws,qY t=ws:=⟨_,rfl⟩
 simp only [aj,av]at l y ⊢
 obtain ⟨rd,a⟩:∃ rd:Int×Tr,(if K=0 then (if ck=0∧ws=s0 then ((0:Int),t) else (130,.nd zv [])) else (K,.nd zv []))=rd:=⟨_,rfl⟩
 rw [a]
 have j:=Lib.hid a
 clear a
 have ah:Below w.heap.size w (w.alloc (.cells #[.int .i64 0,.bool false,.bool false,.string ⟨#[]⟩,.int .i64 0,.int .u64 0,.int .i64 0,.string ⟨#[]⟩,.slice none 0 0] 28)):=(Below.refl _ _).alloc (Nat.le_refl _) _
 have al:=Blk.new w #[.int .i64 0,.bool false,.bool false,.string ⟨#[]⟩,.int .i64 0,.int .u64 0,.int .i64 0,.string ⟨#[]⟩,.slice none 0 0] 28
 have O:=Lib.hid al
 have HB:=Lib.hid ah
 have J:=Lib.hid J
 have l:=Lib.hid l
 have N:=Lib.hid y
 clear H y aj av au h ah al d
 go_enter Tryz.func11,Tryz.ntmps11
 go_wp2_with fail
 refine (J.out _ HB.out).mono ?_
 rintro x i ⟨F,A,n,c,rfl,aq,ar⟩
 have V:=HB.out.trans (F.mono HB.out.size)
 have Z:=O.out.below F O.out.lt
 have aE:=F.size
 rw [World.size_alloc]at aE
 have Q:=Lib.hid ar
 obtain ⟨⟨kind,b,neg,dg,ex,u,wd,s⟩,aa⟩:∃ o,t.own=o:=⟨_,rfl⟩
 rw [aa]at l ⊢
 unfold ze at l ⊢
 simp only []at l ⊢
 have U:=Blk.new i #[.int .i64 0,.bool false,.bool false,.string ⟨#[]⟩,.int .i64 0,.int .u64 0,.int .i64 0,.string ⟨#[]⟩,.slice none 0 0] 28
 have G:=zB U #[.int .i64 kind,.bool b,.bool neg,.string dg,.int .i64 ex,.int .u64 u,.int .i64 wd,.string s,.slice A n c]
 obtain ⟨W5,E⟩:∃ W5,(i.alloc (.cells #[.int .i64 0,.bool false,.bool false,.string ⟨#[]⟩,.int .i64 0,.int .u64 0,.int .i64 0,.string ⟨#[]⟩,.slice none 0 0] 28)).setRow i.heap.size #[.int .i64 kind,.bool b,.bool neg,.string dg,.int .i64 ex,.int .u64 u,.int .i64 wd,.string s,.slice A n c]=W5:=⟨_,rfl⟩
 have k:Below i.heap.size i W5:=by
  rw [← E]
  exact ((Below.refl _ i).alloc (Nat.le_refl _) _).grown (zx _ i.heap.size #[.int .i64 kind,.bool b,.bool neg,.string dg,.int .i64 ex,.int .u64 u,.int .i64 wd,.string s,.slice A n c]) (by simp) (fun q e=>by cases e; exact Nat.le_refl _)
 have ao:LAt W5 (fun q=>w.heap.size+1≤q∧q<W5.heap.size) 16 t.kids (.slice A n c):=(aq.keep (fun q d=>k.block q d.2)).mono (fun q d=>⟨by have:=d.1; rw [World.size_alloc]at this; exact this,Nat.lt_of_lt_of_le d.2 k.size⟩)
 have X:=V.trans (k.mono V.size)
 have am:=Z.below k Z.lt
 rw [E]at G
 have ad:=Lib.hid U
 have C:=Lib.hid G
 have ag:=Lib.hid E
 have P:=Lib.hid ao
 have f:=Lib.hid X
 have r:=Lib.hid am
 have af:=Lib.hid aa
 have aG:i.heap.size<W5.heap.size:=G.lt
 clear V k ao X E U G aq F HB O J ar aa Z am
 go_upto_region 2 with (refine wpList_store_row rfl 28 (.tmp 4) (.tmp 11) rfl i.heap.size #[.int .i64 kind,.bool b,.bool neg,.string dg,.int .i64 ex,.int .u64 u,.int .i64 wd,.string s,.slice A n c] rfl rfl 28 _ ad.out (by kernel_rfl) rfl (by simp [Value.oneCell']) ?_)
 rw [ag.out]
 clear ag ad
 have I:∀ (W:World),Below w.heap.size w W→LAt (W.setRow w.heap.size #[.int .i64 0,.bool false,.bool false,.string ⟨#[]⟩,.int .i64 0,.int .u64 0,.int .i64 0,.string ⟨#[]⟩,.slice none 0 0]) (fun q=>w.heap.size≤q∧q<(W.setRow w.heap.size #[.int .i64 0,.bool false,.bool false,.string ⟨#[]⟩,.int .i64 0,.int .u64 0,.int .i64 0,.string ⟨#[]⟩,.slice none 0 0]).heap.size) 16 [] (.slice none 0 0):=fun W _=>LAt.nil _ _ _ _ _
 have ai:∀ (W:World) (cs:Array Value),Below w.heap.size w W→Below w.heap.size w (W.setRow w.heap.size cs):=fun W cs L=>L.grown (zx W w.heap.size cs) L.size (fun q e=>by cases e; exact Nat.le_refl _)
 have HZ:=Lib.hid I
 have M:=Lib.hid ai
 clear I ai
 by_cases R:K=0
 ·subst R
  have z:=Q.out
  rw [af.out]at z
  have ak:=l.out W5 f.out (w.heap.size+1) (.slice A n c) P.out z
  clear z
  have aA:=N.out (by trivial)
  subst aA
  have ae:=Lib.hid ak
  clear ak l N
  go_wp2_with (refine wpList_load_row rfl 28 (.tmp 4) rfl i.heap.size rfl 28 _ (0,0) _ C.out Tryz.underlying28 rfl (by kernel_rfl) ?_)
  refine ae.out.mono ?_
  rintro x w6 ⟨rfl,m⟩
  have aL:=m.size
  have Y:=f.out.trans (m.mono f.out.size)
  have an:=r.out.below m r.out.lt
  have S:=C.out.below m C.out.lt
  have ap:=P.out.keep (W':=w6) (fun q d=>m.block q d.2)
  have v:=Lib.hid Y
  have D:=Lib.hid an
  have aw:=Lib.hid S
  have aB:=Lib.hid ap
  have aH:i.heap.size<w6.heap.size:=by omega
  clear m Y an S ap ae f r P C
  by_cases p:ws=s0
  ·have a:((0:Int),t)=rd:=by
    have:=j.out
    simpa [p] using this
   have hb:=zcd ws s0
   rw [decide_eq_true p]at hb
   have j:=Lib.hid a
   have aC:Hid (LAt (w6.setRow w.heap.size #[.int .i64 kind,.bool b,.bool neg,.string dg,.int .i64 ex,.int .u64 u,.int .i64 wd,.string s,.slice A n c]) (fun q=>w.heap.size≤q∧q<(w6.setRow w.heap.size #[.int .i64 kind,.bool b,.bool neg,.string dg,.int .i64 ex,.int .u64 u,.int .i64 wd,.string s,.slice A n c]).heap.size) 16 t.kids (.slice A n c)):=Lib.hid ((aB.out.keep (fun q d=>setRow_other _ _ _ _ (by have:=d.1; omega))).mono (fun q d=>⟨by have:=d.1; omega,by rw [setRow_size]; have:=d.2; omega⟩))
   clear p a
   go_wp2_with (first | (refine wpList_load_row rfl 28 (.tmp 4) rfl i.heap.size rfl 28 _ (0,0) _ aw.out Tryz.underlying28 rfl (by kernel_rfl) ?_) | (refine wpList_store_row rfl 28 (.tmp 2) (.tmp 30) rfl w.heap.size #[.int .i64 kind,.bool b,.bool neg,.string dg,.int .i64 ex,.int .u64 u,.int .i64 wd,.string s,.slice A n c] rfl rfl 28 _ D.out (by kernel_rfl) rfl (by simp [Value.oneCell']) ?_))
   refine bodyPost_ret (zo (T:=28) (u:=.int .i64 0) rfl rfl rfl (zB D.out #[.int .i64 kind,.bool b,.bool neg,.string dg,.int .i64 ex,.int .u64 u,.int .i64 wd,.string s,.slice A n c]) Tryz.underlying28 rfl (by kernel_rfl)) rfl ?_
   rw [← j.out]
   exact ⟨M.out _ _ v.out,A,n,c,by simp only [af.out]; rfl,aC.out,Q.out⟩
  ·have a:((130:Int),Tr.nd zv [])=rd:=by
    have:=j.out
    simpa [p] using this
   have hb:=zcd ws s0
   rw [decide_eq_false p]at hb
   have j:=Lib.hid a
   clear p a
   go_wp2_with (refine wpList_store_row rfl 28 (.tmp 2) (.tmp 29) rfl w.heap.size #[.int .i64 0,.bool false,.bool false,.string ⟨#[]⟩,.int .i64 0,.int .u64 0,.int .i64 0,.string ⟨#[]⟩,.slice none 0 0] rfl rfl 28 _ D.out (by kernel_rfl) rfl (by simp [Value.oneCell']) ?_)
   refine bodyPost_ret (zo (T:=28) (u:=.int .i64 130) rfl rfl rfl (zB D.out #[.int .i64 0,.bool false,.bool false,.string ⟨#[]⟩,.int .i64 0,.int .u64 0,.int .i64 0,.string ⟨#[]⟩,.slice none 0 0]) Tryz.underlying28 rfl (by kernel_rfl)) rfl ?_
   rw [← j.out]
   exact ⟨M.out _ _ v.out,none,0,0,rfl,HZ.out _ v.out,vM⟩
 ·have y0:(K == 0)=false:=by rw [beq_eq_false_iff_ne]; exact R
  clear l N
  go_wp2_with (refine wpList_store_row rfl 28 (.tmp 2) (.tmp 15) rfl w.heap.size #[.int .i64 0,.bool false,.bool false,.string ⟨#[]⟩,.int .i64 0,.int .u64 0,.int .i64 0,.string ⟨#[]⟩,.slice none 0 0] rfl rfl 28 _ r.out (by kernel_rfl) rfl (by simp [Value.oneCell']) ?_)
  refine bodyPost_ret (zo (T:=28) (u:=.int .i64 K) rfl rfl rfl (zB r.out #[.int .i64 0,.bool false,.bool false,.string ⟨#[]⟩,.int .i64 0,.int .u64 0,.int .i64 0,.string ⟨#[]⟩,.slice none 0 0]) Tryz.underlying28 rfl (by kernel_rfl)) rfl ?_
  have a:=j.out
  rw [if_neg R]at a
  rw [← a]
  exact ⟨M.out _ _ f.out,none,0,0,rfl,HZ.out _ f.out,vM⟩
end Go.Proofs.YtonihophanmaaaaGreatDoor
namespace Go.Proofs.YtonihophanmaaaaGreatDoor
open Go.RowKit Go.Shelf
abbrev txT (k:ByteArray):Tr:=.nd { zv with kind:=5,s:=k } []
structure zhU (ks:List ByteArray):Prop where
 ok:∀ k∈ks,k.size≤20∧Lib.validD k.data.toList=true
 one:ks.Nodup
 len:ks.length≤20
theorem zhU.reverse {ks:List ByteArray} (h:zhU ks):zhU ks.reverse:=
 ⟨fun k a=>h.ok k (List.mem_reverse.1 a),List.pairwise_reverse.2 (List.Pairwise.imp Ne.symm h.one),by rw [List.length_reverse]; exact h.len⟩
theorem zky {k:ByteArray} (h:k.size≤20) (b:Lib.validD k.data.toList=true):jk (txT k)=true:=by
 have a:k.size≤400:=by omega
 rw [jk,jy]
 simp [ownB,zI,b,a]
section
variable {it:Tr→List UInt8} {nar:Own→Own} {G:Tr→Prop}
end
end Go.Proofs.YtonihophanmaaaaGreatDoor
namespace Go.Proofs.YtonihophanmaaaaGreatDoor
open Go.RowKit Go.Shelf
theorem zV.blkD {W:World} {S:Nat→Prop} {d k n:Nat} {l:List Tr} {xs:List Value} {a:Array Value} (h:zV W S d l xs) (o:Blk W k a 28) (hc:a=xs.toArray) (hn:l.length=n) (p:n≤9223372036854775807) (c:∀ q,S q→q<k+1):zq W (k+1) (d+1) l (.slice (some ⟨k,0,none⟩) n n):=by
 subst hn hc
 refine ⟨_,_,rfl,⟨p,Nat.le_refl _⟩,fun i m=>?_⟩
 obtain ⟨y,r,g,b⟩:=h.get i m
 refine ⟨_,y,rfl,Nat.lt_succ_self k,r,fun j u s=>?_,b.mono c⟩
 have f:(⟨k,0,none⟩:Addr).add (i*9+j)=⟨k,i*9+j,none⟩:=by
  unfold Addr.add
  split
  ·rename_i e
   rw [e]
  ·simp
 rw [f,o.cell,List.getElem?_toArray]
 exact g j u s
abbrev ziW:Tr:=.nd { zv with kind:=3,dg:=⟨#[49]⟩,ex:=1 } []
abbrev kaT:Tr:=txT ⟨#[97]⟩
abbrev kbT:Tr:=txT ⟨#[98]⟩
abbrev shU:List (Tr×Tr):=[(kbT,vI),(kaT,vI),(ziW,vI)]
abbrev shQ:List (Tr×Tr):=[(kbT,vI),(kaT,vI)]
theorem zdc:jk kaT=true:=zky (by decide) (by decide +kernel)
theorem zfT:jk kbT=true:=zky (by decide) (by decide +kernel)
theorem zhP:jk ziW=true:=by
 have a:qo false ⟨#[49]⟩ 1=true:=by decide +kernel
 rw [jk,jy]
 simp [ownB,zI,a]
theorem zez:zj 2 flC (.nd mpO (unp shU))=0:=by
 refine qn.2 ⟨by decide +kernel,by decide +kernel,?_,by decide +kernel⟩
 have c:qP (unp shU)=true:=by
  rw [qU,yb]
  refine List.pairwise_cons.2 ⟨fun b a=>?_,List.pairwise_cons.2 ⟨fun b a=>?_,List.pairwise_singleton _ _⟩⟩
  ·rcases List.mem_cons.1 a with rfl | a
   ·decide +kernel
   ·rw [List.mem_singleton.1 a]; decide +kernel
  ·rw [List.mem_singleton.1 a]; decide +kernel
 rw [jk,zdX,c]
 simp only [unp,jy,zdc,zfT,zhP,vW.1]
 rfl
theorem zbF:zj 2 flC (.nd mpO (unp shQ))=0:=by
 refine qn.2 ⟨by decide +kernel,by decide +kernel,?_,by decide +kernel⟩
 have c:qP (unp shQ)=true:=by
  rw [qU,yb]
  refine List.pairwise_cons.2 ⟨fun b a=>?_,List.pairwise_singleton _ _⟩
  rw [List.mem_singleton.1 a]; decide +kernel
 rw [jk,zdX,c]
 simp only [unp,jy,zdc,zfT,vW.1]
 rfl
theorem zhO:zz cbT zD vI=vI:=by
 rw [zz,if_neg (by decide),if_neg (by decide),jL]
theorem zlW:qY (.nd mpO (unp shU))=⟨#[163,10,246,97,97,246,97,98,246]⟩:=by
 unfold qY
 rw [if_pos zez]
 have e:zz cbT zD (.nd mpO (unp shU))=.nd mpO (unp (j8 cbT shU)):=by
  rw [zz,if_neg (by decide),if_pos rfl,zaK]
  simp only [List.map_cons,List.map_nil,zhO]
 rw [e]
 have h:cbT (.nd mpO (unp (j8 cbT shU)))=[163,10,246,97,97,246,97,98,246]:=by decide +kernel
 rw [h]
 rfl
theorem zlV:qY (.nd mpO (unp shQ))=⟨#[162,97,97,246,97,98,246]⟩:=by
 unfold qY
 rw [if_pos zbF]
 have e:zz cbT zD (.nd mpO (unp shQ))=.nd mpO (unp (j8 cbT shQ)):=by
  rw [zz,if_neg (by decide),if_pos rfl,zaK]
  simp only [List.map_cons,List.map_nil,zhO]
 rw [e]
 have h:cbT (.nd mpO (unp (j8 cbT shQ)))=[162,97,97,246,97,98,246]:=by decide +kernel
 rw [h]
 rfl
theorem vq (o:Own) (a:o.dg.size≤100) (b:o.s.size≤100) (c:0≤o.kind∧o.kind≤100) (d:0≤o.ex∧o.ex≤100) (e:o.u=0) (f:o.wd=0):zt o:=⟨by omega,by omega,by omega,by omega,by omega,by omega⟩
theorem zdV {o:Own} (a:jk (.nd o [])=true) (b:jf 2 flC (.nd o [])=true) (c:zt o):okC (.nd o []):=by
 rw [okC]
 exact ⟨⟨(js a).1,(qh b).1,c,by decide⟩,trivial⟩
theorem zn0:okC (.nd mpO (unp shQ)):=by
 have h:=qn.1 zbF
 have a:∀ k:ByteArray,k.size≤100→zt { zv with kind:=5,s:=k }:=fun k b=>vq _ (by show (⟨#[]⟩:ByteArray).size≤100; decide) b (by show (0:Int)≤5∧(5:Int)≤100; decide) (by show (0:Int)≤0∧(0:Int)≤100; decide) rfl rfl
 have c:zt { zv with kind:=1 }:=vq _ (by decide) (by decide) (by decide) (by decide) rfl rfl
 have hn:=zdV vW.1 vW.2.1 c
 rw [okC]
 refine ⟨⟨(js h.2.2.1).1,(qh h.2.2.2).1,vq _ (by decide) (by decide) (by decide) (by decide) rfl rfl,by decide⟩,?_⟩
 simp only [unp,qW]
 exact ⟨zdV zfT (by decide +kernel) (a _ (by decide)),hn,zdV zdc (by decide +kernel) (a _ (by decide)),hn,trivial⟩
theorem znZ:RD ⟨#[162,97,98,246,97,97,246]⟩=(130,.nd zv []):=by
 have e:bs (cbT (.nd mpO (unp shQ)))=⟨#[162,97,98,246,97,97,246]⟩:=by
  have h:cbT (.nd mpO (unp shQ))=[162,97,98,246,97,97,246]:=by decide +kernel
  rw [h]
  rfl
 have a:=ziq (.nd mpO (unp shQ)) ⟨#[]⟩ zn0 (by decide +kernel)
 rw [e]at a
 have b:RC ⟨#[162,97,98,246,97,97,246]⟩=(0,.nd mpO (unp shQ)):=zmm a (by decide) zbF
 unfold RD
 rw [b]
 simp only [if_true]
 rw [if_neg (fun h=>?_)]
 rw [zlV]at h
 exact absurd h.2 (by decide +kernel)
theorem zlq:yw cbT ziW kaT=true:=by
 rw [zfZ,wy,wy]
 exact ⟨⟨zhP,by decide +kernel,by decide +kernel⟩,⟨zdc,by decide +kernel,by decide +kernel⟩,by decide +kernel⟩
theorem zmR:yw cbT kbT kaT=false:=by
 cases h:yw cbT kbT kaT with
 | false=>rfl
 | true =>
  have:=(zfZ.1 h).2.2
  exact absurd this (by decide +kernel)
end Go.Proofs.YtonihophanmaaaaGreatDoor
