/- The texts CrW, put together. -/
import Derived.Test.YtonihophanmaaaaGreatDoorPc43
set_option maxHeartbeats 8000000
set_option maxRecDepth 100000
namespace Go.Proofs.YtonihophanmaaaaGreatDoor
open Go.RowKit Go.Shelf
attribute [local go_sem] Oper.semAt_some
abbrev qN (q:Nat):Value:=.pointer (some ⟨q,0,none⟩)
theorem zaA {p q:Nat} (h:qN p=qN q):p=q:=by
 injection h with h
 injection h with h
 injection h with h
structure JI (lo p dp D sz:Nat) (s:ByteArray) (res:PR Tr) (sel:Nat→Bool) (env:Nat→Value) (W:World):Prop where
 c0:sel 6=false→RdB W p s dp
 c1:sel 11=true→sel 6=true∧sel 8=true∧sel 10=true
 c2:sel 6=true→j9 lo p dp D sz res (fun q=>sel 10=true→env 10≠qN q) (env 6) W
 c3:sel 10=true→sel 11=false→∀ bb,env 10=qN bb→Blk W bb #[.int .i64 0,.bool false,.bool false,.string ⟨#[]⟩,.int .i64 0,.int .u64 0,.int .i64 0,.string ⟨#[]⟩,.slice none 0 0] 28
 c4:sel 10=true→sel 11=true→∀ bb,env 10=qN bb→∀ o' A n c,env 8=ze o' (.slice A n c)→Blk W bb (zf o' (.slice A n c)) 28
 c5:sel 10=true→∀ bb,env 10=qN bb→lo≤bb∧bb<W.heap.size
variable {lo p dp D sz:Nat} {s:ByteArray} {res:PR Tr} {sel:Nat→Bool} {env:Nat→Value} {W W':World}
theorem JI.start (h:RdB W p s dp):JI lo p dp D sz s res (fun _=>false) env W where
 c0 _:=h
 c1 h:=by cases h
 c2 h:=by cases h
 c3 h:=by cases h
 c4 h:=by cases h
 c5 h:=by cases h
theorem JI.other (h:JI lo p dp D sz s res sel env W) (d:Below W.heap.size W W') (i:Nat) (g:6≠i) (l:8≠i) (a:10≠i) (f:11≠i) (v:Value):JI lo p dp D sz s res (kI sel i) (j2 env i v) W' where
 c0:=by
  rw [zr _ g]
  exact fun q=>(h.c0 q).below d (h.c0 q).lt
 c1:=by
  rw [zr _ g,zr _ l,zr _ a,zr _ f]
  exact h.c1
 c2:=by
  rw [zr _ g,zr _ a,zU _ _ g,zU _ _ a]
  exact fun q=>(h.c2 q).keep d.size (fun k o _=>d.block k o) (fun _ _ r=>r)
 c3:=by
  rw [zr _ a,zr _ f,zU _ _ a]
  exact fun q j b e=>(h.c3 q j b e).below d (h.c5 q b e).2
 c4:=by
  rw [zr _ a,zr _ f,zU _ _ a,zU _ _ l]
  exact fun q j b e t A n c m=>(h.c4 q j b e t A n c m).below d (h.c5 q b e).2
 c5:=by
  rw [zr _ a,zU _ _ a]
  exact fun q b e=>⟨(h.c5 q b e).1,Nat.lt_of_lt_of_le (h.c5 q b e).2 d.size⟩
theorem JI.part (h:JI lo p dp D sz s res sel env W) (a:sel 8=false) (v:Value):JI lo p dp D sz s res (kI sel 8) (j2 env 8 v) W where
 c0:=by
  rw [zr _ (by decide)]
  exact h.c0
 c1:=by
  intro q
  rw [zr _ (show (11:Nat)≠8 by decide)]at q
  rw [(h.c1 q).2.1]at a
  cases a
 c2:=by
  rw [zr _ (by decide),zr _ (by decide),zU _ _ (by decide),zU _ _ (by decide)]
  exact h.c2
 c3:=by
  rw [zr _ (by decide),zr _ (by decide),zU _ _ (by decide)]
  exact h.c3
 c4:=by
  intro _ q
  rw [zr _ (show (11:Nat)≠8 by decide)]at q
  rw [(h.c1 q).2.1]at a
  cases a
 c5:=by
  rw [zr _ (by decide),zU _ _ (by decide)]
  exact h.c5
theorem JI.read (h:JI lo p dp D sz s res sel env W) (b:sel 6=false) (k:p<lo) (f:lo≤W.heap.size) (g:s.size=sz) {v:Value} (c:jc p dp D W s res (.returned v) W'):JI lo p dp D sz s res (kI sel 6) (j2 env 6 v) W' where
 c0:=by
  rw [kN]
  intro q
  cases q
 c1:=by
  intro q
  rw [zr _ (show (11:Nat)≠6 by decide)]at q
  rw [(h.c1 q).1]at b
  cases b
 c2:=by
  rw [zr _ (show (10:Nat)≠6 by decide),zi,zU _ _ (show (10:Nat)≠6 by decide),← g]
  exact fun _=>j9.of_read c f (fun q l _ i e=>by have:=(h.c5 i q e).2; omega)
 c3:=by
  rw [zr _ (by decide),zr _ (by decide),zU _ _ (by decide)]
  exact fun q j a e=>(c.1.block a (h.c5 q a e).2 (fun d=>by have:=(h.c5 q a e).1; injection d with d; omega)).trans (h.c3 q j a e)
 c4:=by
  intro _ q
  rw [zr _ (show (11:Nat)≠6 by decide)]at q
  rw [(h.c1 q).1]at b
  cases b
 c5:=by
  rw [zr _ (by decide),zU _ _ (by decide)]
  exact fun q a e=>⟨(h.c5 q a e).1,Nat.lt_of_lt_of_le (h.c5 q a e).2 c.1.size⟩
theorem JI.box (h:JI lo p dp D sz s res sel env W) (a:sel 10=false) (c:lo≤W.heap.size):JI lo p dp D sz s res (kI sel 10) (j2 env 10 (qN W.heap.size)) (W.alloc (.cells #[.int .i64 0,.bool false,.bool false,.string ⟨#[]⟩,.int .i64 0,.int .u64 0,.int .i64 0,.string ⟨#[]⟩,.slice none 0 0] 28)) where
 c0:=by
  rw [zr _ (by decide)]
  exact fun q=>(h.c0 q).alloc _
 c1:=by
  intro q
  rw [zr _ (show (11:Nat)≠10 by decide)]at q
  rw [(h.c1 q).2.2]at a
  cases a
 c2:=by
  rw [zr _ (show (6:Nat)≠10 by decide),zi,zU _ _ (show (6:Nat)≠10 by decide)]
  exact fun q=>(h.c2 q).keep (by simp) (fun k b _=>Below.heap_alloc W _ k b) (fun k b _ _ e=>by have:=zaA e; omega)
 c3:=by
  rw [zi]
  intro _ _ d e
  rw [← zaA e]
  exact Blk.new _ _ _
 c4:=by
  intro _ q
  rw [zr _ (show (11:Nat)≠10 by decide)]at q
  rw [(h.c1 q).2.2]at a
  cases a
 c5:=by
  rw [zi]
  intro _ d e
  rw [← zaA e,World.size_alloc]
  exact ⟨c,Nat.lt_succ_self _⟩
theorem JI.store {f:Nat} {o':Own} {A:Option Addr} {n c:Nat} {v:Value} (h:JI lo p dp D sz s res sel env W) (w:p<lo) (r:sel 6=true) (u:sel 8=true) (d:sel 10=true) (b:env 10=qN f) (t:env 8=ze o' (.slice A n c)) (l:Blk W f #[.int .i64 0,.bool false,.bool false,.string ⟨#[]⟩,.int .i64 0,.int .u64 0,.int .i64 0,.string ⟨#[]⟩,.slice none 0 0] 28) :
  JI lo p dp D sz s res (kI sel 11) (j2 env 11 v) (W.setRow f (zf o' (.slice A n c))) where
 c0:=by
  rw [zr _ (by decide)]
  intro q
  rw [r]at q
  cases q
 c1:=fun _=>⟨by rw [zr _ (show (6:Nat)≠11 by decide)]; exact r,by rw [zr _ (show (8:Nat)≠11 by decide)]; exact u,by rw [zr _ (show (10:Nat)≠11 by decide)]; exact d⟩
 c2:=by
  rw [zr _ (by decide),zr _ (by decide),zU _ _ (by decide),zU _ _ (by decide)]
  exact fun q=>(h.c2 q).keep (by rw [setRow_size]; exact Nat.le_refl _) (fun k l a=>setRow_other _ _ _ _ (fun e=>by
   subst e
   rcases a with a | a
   ·have:=(h.c5 d _ b).1
    omega
   ·exact a.2 d b)) (fun _ _ a=>a)
 c3:=by
  rw [kN]
  intro _ q
  cases q
 c4:=by
  rw [zU _ _ (by decide),zU _ _ (by decide)]
  intro _ _ b2 i o g m c2 j
  rw [b]at i
  have:=zaA i
  subst this
  have e:ze o' (.slice A n c)=ze o (.slice g m c2):=t.symm.trans j
  unfold ze at e
  injection e with e
  have e:zf o' (.slice A n c)=zf o (.slice g m c2):=e
  rw [e]
  exact zB l _
 c5:=by
  rw [zr _ (by decide),zU _ _ (by decide),setRow_size]
  exact h.c5
def G6 (env:Nat→Value) (_:World):Prop:=∃ o A n c e,env 6=.tuple #[ze o (.slice A n c),e]
def G7 (env:Nat→Value) (_:World):Prop:=env 7=env 6∧∃ o A n c e,env 7=.tuple #[ze o (.slice A n c),e]
def G8 (env:Nat→Value) (_:World):Prop:=∃ o A n c e,env 7=.tuple #[ze o (.slice A n c),e]∧env 8=ze o (.slice A n c)
def G9 (env:Nat→Value) (_:World):Prop:=∃ x e,env 7=.tuple #[x,e]∧env 9=e
def G10 (lo:Nat) (env:Nat→Value) (_:World):Prop:=∃ bb,env 10=qN bb∧lo≤bb
theorem zbq (u:G7 env W) (v:G8 env W) (w:G9 env W) (i:G10 lo env W) (m:JI lo p dp D sz s res (fun j=>decide (j<12)) env W) :
  ∃ o A n c e a,env 9=e∧env 10=qN a∧lo≤a∧Blk W a (zf o (.slice A n c)) 28∧j9 lo p dp D sz res (fun q=>q≠a) (.tuple #[ze o (.slice A n c),e]) W:=by
 obtain ⟨h,_⟩:=u
 obtain ⟨o,A,n,c,e,g,r⟩:=v
 obtain ⟨x,e',d,t⟩:=w
 obtain ⟨a,b,k⟩:=i
 rw [g]at d
 have f:ze o (.slice A n c)=x∧e=e':=by simpa using d
 have y:=m.c4 (by simp) (by simp) a b o A n c r
 have l:=m.c2 (by simp)
 rw [← h,g]at l
 refine ⟨o,A,n,c,e,a,by rw [t,f.2],b,k,y,l.keep (Nat.le_refl _) (fun _ _ _=>rfl) (fun q _ z=>fun e=>z (by simp) (by rw [b,e]))⟩
theorem zby {p b D:Nat} {w:World} {s:ByteArray} {r:PR Tr} {x:Ending} {d:World} (h:jc p b D w s r x d):∃ v,x=.returned v:=by
 unfold jc at h
 cases r with
 | bad e=>obtain ⟨_,⟨o,A,n,c,a⟩,_⟩:=h; exact ⟨_,a⟩
 | good t r=>obtain ⟨_,⟨A,n,c,a,_⟩,_⟩:=h; exact ⟨_,a⟩
theorem yM {p b D:Nat} {w:World} {s:ByteArray} {r:PR Tr} {v:Value} {d:World} (h:jc p b D w s r (.returned v) d):∃ o A n c e,v=.tuple #[ze o (.slice A n c),e]:=by
 unfold jc at h
 cases r with
 | bad e=>obtain ⟨_,⟨o,A,n,c,a⟩,_⟩:=h; exact ⟨o,A,n,c,_,by injection a⟩
 | good t r=>obtain ⟨_,⟨A,n,c,a,_⟩,_⟩:=h; exact ⟨_,A,n,c,_,by injection a⟩
theorem zcx (p m:Nat) (W:World) (h:m≤7):(Instr.index 141 (.agg (zbW p)) (.int .i64 m)).run Tryz.prog W=.ok (rdV p m) W:=by
 rcases (by omega:m=0∨m=1∨m=2∨m=3∨m=4∨m=5∨m=6∨m=7) with rfl|rfl|rfl|rfl|rfl|rfl|rfl|rfl <;> kernel_rfl
theorem j9.rd {d p b D sz:Nat} {a:PR Tr} {X:Nat→Prop} {v:Value} {W:World} (h:j9 d p b D sz a X v W):∃ c,RdB W p c b∧c.size≤sz:=by
 unfold j9 at h
 cases a with
 | bad e=>exact h.2.2
 | good t r=>exact ⟨_,h.2.2⟩
theorem xC {w c W:World} {p:Nat} (b:w.grownBy c (some p)) (a:zR c.heap.size p c W) (g:w.heap.size≤c.heap.size):w.grownBy W (some p):=
 ⟨a.os.trans b.os,a.tape.trans b.tape,a.output.trans b.output,Nat.le_trans b.size a.size,fun k f d=>(a.block k (by omega) (fun e=>d (by rw [e]))).trans (b.block k f d)⟩
theorem zbp {k p b B D sz a z n c:Nat} {o:Own} {A:Option Addr} {x:Value} {i:PR Tr} {w W:World} {s:ByteArray} {j:Array Value} (h:j9 k p B D sz i (fun q=>q≠z) (.tuple #[ze o (.slice A n c),x]) W)
  (C:w.grownBy ((W.setCell ⟨p,1,none⟩ (.int .i64 (b:Int))).setRow a j) (some p)) (L:w.heap.size≤k) (hn:a<k) (K:p<k) (l:p≠a) (I:sz≤s.size) :
  jc p b D w s i (.returned (.tuple #[ze o (.slice A n c),x])) ((W.setCell ⟨p,1,none⟩ (.int .i64 (b:Int))).setRow a j):=by
 have F:((W.setCell ⟨p,1,none⟩ (.int .i64 (b:Int))).setRow a j).heap.size=W.heap.size:=by rw [setRow_size]; simp [World.setCell]
 have E:∀ q,q≠p→q≠a→((W.setCell ⟨p,1,none⟩ (.int .i64 (b:Int))).setRow a j).heap[q]? = W.heap[q]? := fun q d f=>(setRow_other _ _ _ _ f).trans (Below.heap_setCell W ⟨p,1,none⟩ _ q d)
 unfold j9 at h
 unfold jc
 refine ⟨C,?_⟩
 cases i with
 | bad e =>
  obtain ⟨⟨G,m,v,c2,d⟩,f,H,u,y⟩:=h
  exact ⟨⟨G,m,v,c2,by rw [d]⟩,f,H,zH (Blk.set u 1 _) l _,by omega⟩
 | good t r =>
  obtain ⟨⟨m,v,c2,d,f⟩,u,y,J⟩:=h
  refine ⟨⟨m,v,c2,by rw [d],(f.keep (fun q g=>E q (by have:=g.1.1; omega) (by have:=g.1.1; omega))).mono (fun q g=>⟨by have:=g.1.1; omega,by rw [F]; exact g.1.2⟩)⟩,u,zH (Blk.set y 1 _) l _,by omega⟩
theorem zfn {w0:World} (bB:Lib.TabIs Tryz.prog w0 "internal/strconv.uint64pow10" .u64 Lib.pow10Tab) (F d:Nat) (hd:d+1≤16) (hI:wm w0 F d):wm w0 F (d+1):=by
 intro p s w a5 C Q u hF hq
 obtain ⟨dp,b1⟩:∃ dp,16 - (d+1)=dp:=⟨_,rfl⟩
 obtain ⟨dq,b2⟩:∃ dq,16 - d=dq:=⟨_,rfl⟩
 have cv:dp+1=dq:=by omega
 have cp:dp<16:=by omega
 have al:=Lib.hid (fun h s W (hb:Below w0.heap.size w0 W) (hR:RdB W p s (16 - d)) (q1:s.size≤1000000000) (q2:s.size<F) (q3:h.1≤7) (q4:h.2.1≤31) (q5:h.2.2<18446744073709551616) (q6:¬ ((h.1<2∨h.1=6)∧h.2.1=31)) (q7:OkS s) (q8:zhT h.1)=>zmy bB F d p h hI s W hb C hR q1 q2 q7 q8 q3 q4 q5 q6)
 rw [b1]at Q ⊢
 rw [b2]at al
 have y0:((dp:Int) == 16)=false:=by rw [beq_eq_false_iff_ne]; omega
 have y1:(dp:Int)+1=dq:=by omega
 have y2:(dq:Int) - 1=dp:=by omega
 have bZ:=zcj p dp s
 have bA:s.data.toList.length=s.size:=by simp
 show Calls _ _ _ _ (jc p dp (d+1) w s (zS jT (fun h=>ql F (zE F d) h) s.data.toList))
 have ac:=(Below.refl w.heap.size w).alloc (Nat.le_refl _) (.cells #[.int .i64 0,.bool false,.bool false,.string ⟨#[]⟩,.int .i64 0,.int .u64 0,.int .i64 0,.string ⟨#[]⟩,.slice none 0 0] 28)
 have ao:=Blk.new w #[.int .i64 0,.bool false,.bool false,.string ⟨#[]⟩,.int .i64 0,.int .u64 0,.int .i64 0,.string ⟨#[]⟩,.slice none 0 0] 28
 have aS:=Q.alloc (.cells #[.int .i64 0,.bool false,.bool false,.string ⟨#[]⟩,.int .i64 0,.int .u64 0,.int .i64 0,.string ⟨#[]⟩,.slice none 0 0] 28)
 have aN:=Q.lt
 have bR:=aS.cell 0
 have bS:=aS.cell 1
 have HS:=Lib.hid (bZ _ aS u)
 clear hI bB bZ b1 b2
 have cb:∃ b,s.toList.isEmpty=b:=⟨_,rfl⟩
 obtain ⟨b,ca⟩:=cb
 cases hh:jT s.data.toList with
 | bad e =>
  have he:=vR _ _ hh
  rw [xi hh]
  have HS:Hid (Calls Tryz.prog 105 #[.pointer (some ⟨p,0,none⟩)] (w.alloc (.cells #[.int .i64 0,.bool false,.bool false,.string ⟨#[]⟩,.int .i64 0,.int .u64 0,.int .i64 0,.string ⟨#[]⟩,.slice none 0 0] 28)) fun x w'=>(w.alloc (.cells #[.int .i64 0,.bool false,.bool false,.string ⟨#[]⟩,.int .i64 0,.int .u64 0,.int .i64 0,.string ⟨#[]⟩,.slice none 0 0] 28)).grownBy w' (some p)∧x=.returned (.tuple #[qu (0,0,0),jD e])∧RdB w' p s dp):=Lib.hid (by
   have:=HS.out
   rw [hh]at this
   exact this)
  have HE:=Lib.hid he
  obtain ⟨ex,bw⟩:∃ x,jD e=.iface 144 x:=⟨_,xA he⟩
  rw [bw]at HS
  have b8:=Lib.hid bw
  clear hh he bw bA hF al hq
  go_enter Tryz.func68,Tryz.ntmps68
  cases b
  all_goals
   go_wp2_with fail
   refine HS.out.mono ?_
   rintro x w3 ⟨G,rfl,Y⟩
   have J:=(RdB.grown ao G (by omega)).alloc (.cells #[.int .i64 0,.int .i64 0,.int .u64 0] 137)
   have q:=Y.alloc (.cells #[.int .i64 0,.int .i64 0,.int .u64 0] 137)
   go_wp2_with (refine wpList_store_row rfl 28 (.tmp 2) (.tmp 32) rfl (w.heap.size) #[.int .i64 0,.bool false,.bool false,.string ⟨#[]⟩,.int .i64 0,.int .u64 0,.int .i64 0,.string ⟨#[]⟩,.slice none 0 0] rfl rfl 28 _ J (by kernel_rfl) rfl (by simp [Value.oneCell']) ?_)
   refine bodyPost_ret (zo (T:=28) rfl rfl rfl (zB J #[.int .i64 0,.bool false,.bool false,.string ⟨#[]⟩,.int .i64 0,.int .u64 0,.int .i64 0,.string ⟨#[]⟩,.slice none 0 0]) Tryz.underlying28 rfl (by kernel_rfl)) rfl ?_
   have ad:=grown_of (zu (below_grown ac (some p)) G) ((Below.refl w3.heap.size w3).alloc (Nat.le_refl _) (.cells #[.int .i64 0,.int .i64 0,.int .u64 0] 137))
   have ae:=jE ad (zx _ w.heap.size #[.int .i64 0,.bool false,.bool false,.string ⟨#[]⟩,.int .i64 0,.int .u64 0,.int .i64 0,.string ⟨#[]⟩,.slice none 0 0]) (Nat.le_refl _)
   exact ⟨ae,⟨zv,none,0,0,by rw [b8.out]; rfl⟩,HE.out,s,zH q (by omega) _,Nat.le_refl _⟩
 | good h r =>
  obtain ⟨hm,H,D⟩:=h
  obtain ⟨q1,q2,q3,q4⟩:=zfK hh
  have q8:zhT hm:=zlc hq hh
  have q7:OkS (bs r):=by
   obtain ⟨own,e,_⟩:=vj _ _ _ hh
   exact hq.rest e
  clear hq
  simp only []at q1 q2 q3
  rw [bA]at q4
  rw [qL hh]
  have HS:Hid (Calls Tryz.prog 105 #[.pointer (some ⟨p,0,none⟩)] (w.alloc (.cells #[.int .i64 0,.bool false,.bool false,.string ⟨#[]⟩,.int .i64 0,.int .u64 0,.int .i64 0,.string ⟨#[]⟩,.slice none 0 0] 28)) fun x w'=>(w.alloc (.cells #[.int .i64 0,.bool false,.bool false,.string ⟨#[]⟩,.int .i64 0,.int .u64 0,.int .i64 0,.string ⟨#[]⟩,.slice none 0 0] 28)).grownBy w' (some p)∧x=.returned (.tuple #[qu (hm,H,D),.nilIface])∧RdB w' p (bs r) dp):=Lib.hid (by
   have:=HS.out
   rw [hh]at this
   exact this)
  have bp:(bs r).size≤s.size:=by rw [jR]; omega
  have cu:=wb (s:=s) (by omega)
  clear hh bA ca
  have HO:=Lib.hid (fun w=>xW hm H D w)
  by_cases aj:(hm<2∨hm=6)∧H=31
  ·have L:ql F (zE F d) (hm,H,D) r=.bad 110:=by
    unfold ql
    rw [if_pos aj]
    rfl
   rw [L]
   obtain ⟨M,rfl⟩:=aj
   have HO:Hid (∀ w:World,Calls Tryz.prog 106 #[.agg #[.int .i64 hm,.int .i64 31,.int .u64 D]] w fun x w'=>x=.returned (.bool true)∧Below w.heap.size w w'):=HO
   have HF:=Lib.hid (fun (W:World) (b:Nat) (z:Blk W b #[.int .i64 110] 29)=>xj b 110 W z)
   rw [if_neg (by decide)]at HF
   obtain ⟨ev,bv⟩:∃ ev,jD 110=ev:=⟨_,rfl⟩
   rw [bv]at HF
   have bX:=Lib.hid bv
   have bY:=Lib.hid bp
   clear L al hF q3 q4 q7 q8 bv
   rcases M with M | M
   ·have y4:(hm:Int)<2:=by omega
    clear M
    go_enter Tryz.func68,Tryz.ntmps68
    go_wp2_with fail
    refine HS.out.mono ?_
    rintro x w3 ⟨G,rfl,Y⟩
    have J:=(RdB.grown ao G (by omega)).alloc (.cells #[.int .i64 hm,.int .i64 31,.int .u64 D] 137)
    have q:=Y.alloc (.cells #[.int .i64 hm,.int .i64 31,.int .u64 D] 137)
    have B:=Blk.new w3 #[.int .i64 hm,.int .i64 31,.int .u64 D] 137
    have z0:=B.cell 0
    have z1:=B.cell 1
    have z2:=B.cell 2
    go_wp2_with fail
    refine (HO.out _).mono ?_
    rintro x w5 ⟨rfl,I⟩
    have a7:=(J.below I J.lt).alloc (.cells #[.int .i64 110] 29)
    have bz:=(q.below I q.lt).alloc (.cells #[.int .i64 110] 29)
    go_wp2_with fail
    refine (HF.out _ _ (Blk.new w5 #[.int .i64 110] 29)).mono ?_
    rintro x w6 ⟨rfl,rfl⟩
    go_wp2_with (refine wpList_store_row rfl 28 (.tmp 2) (.tmp 47) rfl (w.heap.size) #[.int .i64 0,.bool false,.bool false,.string ⟨#[]⟩,.int .i64 0,.int .u64 0,.int .i64 0,.string ⟨#[]⟩,.slice none 0 0] rfl rfl 28 _ a7 (by kernel_rfl) rfl (by simp [Value.oneCell']) ?_)
    refine bodyPost_ret (zo (T:=28) rfl rfl rfl (zB a7 #[.int .i64 0,.bool false,.bool false,.string ⟨#[]⟩,.int .i64 0,.int .u64 0,.int .i64 0,.string ⟨#[]⟩,.slice none 0 0]) Tryz.underlying28 rfl (by kernel_rfl)) rfl ?_
    have bu:Below w3.heap.size w3 (w5.alloc (.cells #[.int .i64 110] 29)):=(((Below.refl w3.heap.size w3).alloc (Nat.le_refl _) (.cells #[.int .i64 hm,.int .i64 31,.int .u64 D] 137)).trans (I.mono (by simp))).alloc (by have:=I.size; rw [World.size_alloc]at this; omega) _
    have ad:=grown_of (zu (below_grown ac (some p)) G) bu
    have ae:=jE ad (zx _ w.heap.size #[.int .i64 0,.bool false,.bool false,.string ⟨#[]⟩,.int .i64 0,.int .u64 0,.int .i64 0,.string ⟨#[]⟩,.slice none 0 0]) (Nat.le_refl _)
    exact ⟨ae,⟨zv,none,0,0,by rw [bX.out]; rfl⟩,by decide,bs r,zH bz (by omega) _,bY.out⟩
   ·have y4:¬ (hm:Int)<2:=by omega
    have y5:((hm:Int) == 6)=true:=by rw [beq_iff_eq]; omega
    clear M
    go_enter Tryz.func68,Tryz.ntmps68
    go_wp2_with fail
    refine HS.out.mono ?_
    rintro x w3 ⟨G,rfl,Y⟩
    have J:=(RdB.grown ao G (by omega)).alloc (.cells #[.int .i64 hm,.int .i64 31,.int .u64 D] 137)
    have q:=Y.alloc (.cells #[.int .i64 hm,.int .i64 31,.int .u64 D] 137)
    have B:=Blk.new w3 #[.int .i64 hm,.int .i64 31,.int .u64 D] 137
    have z0:=B.cell 0
    have z1:=B.cell 1
    have z2:=B.cell 2
    go_wp2_with fail
    refine (HO.out _).mono ?_
    rintro x w5 ⟨rfl,I⟩
    have a7:=(J.below I J.lt).alloc (.cells #[.int .i64 110] 29)
    have bz:=(q.below I q.lt).alloc (.cells #[.int .i64 110] 29)
    go_wp2_with fail
    refine (HF.out _ _ (Blk.new w5 #[.int .i64 110] 29)).mono ?_
    rintro x w6 ⟨rfl,rfl⟩
    go_wp2_with (refine wpList_store_row rfl 28 (.tmp 2) (.tmp 47) rfl (w.heap.size) #[.int .i64 0,.bool false,.bool false,.string ⟨#[]⟩,.int .i64 0,.int .u64 0,.int .i64 0,.string ⟨#[]⟩,.slice none 0 0] rfl rfl 28 _ a7 (by kernel_rfl) rfl (by simp [Value.oneCell']) ?_)
    refine bodyPost_ret (zo (T:=28) rfl rfl rfl (zB a7 #[.int .i64 0,.bool false,.bool false,.string ⟨#[]⟩,.int .i64 0,.int .u64 0,.int .i64 0,.string ⟨#[]⟩,.slice none 0 0]) Tryz.underlying28 rfl (by kernel_rfl)) rfl ?_
    have bu:Below w3.heap.size w3 (w5.alloc (.cells #[.int .i64 110] 29)):=(((Below.refl w3.heap.size w3).alloc (Nat.le_refl _) (.cells #[.int .i64 hm,.int .i64 31,.int .u64 D] 137)).trans (I.mono (by simp))).alloc (by have:=I.size; rw [World.size_alloc]at this; omega) _
    have ad:=grown_of (zu (below_grown ac (some p)) G) bu
    have ae:=jE ad (zx _ w.heap.size #[.int .i64 0,.bool false,.bool false,.string ⟨#[]⟩,.int .i64 0,.int .u64 0,.int .i64 0,.string ⟨#[]⟩,.slice none 0 0]) (Nat.le_refl _)
    exact ⟨ae,⟨zv,none,0,0,by rw [bX.out]; rfl⟩,by decide,bs r,zH bz (by omega) _,bY.out⟩
  ·have HB:=Lib.hid (fun W (hb:Below w0.heap.size w0 W) (hR:RdB W p (bs r) dq)=>al.out (hm,H,D) (bs r) W hb hR (by omega) (by omega) q1 q2 q3 aj q7 q8)
   rw [yW]at HB
   obtain ⟨res,L⟩:∃ res,ql F (zE F d) (hm,H,D) r=res:=⟨_,rfl⟩
   rw [L]at HB ⊢
   have ct:=Lib.hid q3
   clear L al hF q3 q7 q8
   have yo:((H:Int) == 31)=decide (H=31):=by
    by_cases h:H=31
    ·subst h
     rfl
    ·rw [decide_eq_false h,beq_eq_false_iff_ne]
     omega
   by_cases M:hm<2∨hm=6
   ·have bx:¬ H=31:=fun h=>aj ⟨M,h⟩
    rw [decide_eq_false bx]at yo
    have HO:Hid (∀ w:World,Calls Tryz.prog 106 #[.agg #[.int .i64 hm,.int .i64 H,.int .u64 D]] w fun x w'=>x=.returned (.bool false)∧Below w.heap.size w w'):=Lib.hid (fun w=>by
     have:=HO.out w
     rw [yo]at this
     exact this)
    rcases M with M | M
    ·have y4:(hm:Int)<2:=by omega
     clear M aj bx yo
     go_enter Tryz.func68,Tryz.ntmps68
     go_wp2_with fail
     refine HS.out.mono ?_
     rintro x w3 ⟨G,rfl,Y⟩
     have J:=(RdB.grown ao G (by omega)).alloc (.cells #[.int .i64 hm,.int .i64 H,.int .u64 D] 137)
     have q:=Y.alloc (.cells #[.int .i64 hm,.int .i64 H,.int .u64 D] 137)
     have B:=Blk.new w3 #[.int .i64 hm,.int .i64 H,.int .u64 D] 137
     have z0:=B.cell 0
     have p0:=q.cell 0
     have p1:=q.cell 1
     have p2:=q.frozen 1
     have z1:=B.cell 1
     have z2:=B.cell 2
     have bC:Below w0.heap.size w0 w3:=qf a5 C aN (zu (below_grown ac (some p)) G)
     go_wp2_with fail
     refine (HO.out _).mono ?_
     rintro x w5 ⟨rfl,I⟩
     have J:=J.below I J.lt
     have q:=q.below I q.lt
     have B:=B.below I B.lt
     have bD:=I.size
     rw [World.size_alloc]at bD
     clear z0 z1 z2 p0 p1 p2
     have p0:=q.cell 0
     have p1:=q.cell 1
     have p2:=q.frozen 1
     go_wp2_with fail
     have b6:w.heap.size+1≤w3.heap.size:=by have:=G.size; simpa using this
     have ay:=grown_of (zu (below_grown ac (some p)) G) (((Below.refl w3.heap.size w3).alloc (Nat.le_refl _) (.cells #[.int .i64 hm,.int .i64 H,.int .u64 D] 137)).trans (I.mono (by simp)))
     have U:=zu ay (jm w5 p 1 (.int .i64 (dq:Int)))
     have V:RdB (w5.setCell ⟨p,1,none⟩ (.int .i64 (dq:Int))) p (bs r) dq:=Blk.set q 1 _
     have O:=J.other (by omega:w.heap.size≠p) 1 (.int .i64 (dq:Int))
     have S:=B.other (by omega:w3.heap.size≠p) 1 (.int .i64 (dq:Int))
     have aO:w3.heap.size+1≤(w5.setCell ⟨p,1,none⟩ (.int .i64 (dq:Int))).heap.size:=by simp [World.setCell]; omega
     obtain ⟨wS,aD⟩:∃ wS,w5.setCell ⟨p,1,none⟩ (.int .i64 (dq:Int))=wS:=⟨_,rfl⟩
     rw [aD]at U V O S aO ⊢
     clear aD ay p0 p1 p2 B q J Y
     have az:=U
     have a8:=V
     have aL:=O
     have X:=Lib.hid S
     clear U V O S
     have ag:p<wS.heap.size:=by omega
     have aM:w.heap.size<wS.heap.size:=by omega
     have aZ:=Lib.hid (rfl:(bs r).size=(bs r).size)
     have ar:=Lib.hid (fun W (k:zR wS.heap.size p wS W) (hR:RdB W p (bs r) dq)=>HB.out W (qf a5 C aN (xC az k (Nat.le_of_lt aM))) hR)
     have aC:hm≤7:=q1
     clear HO bC I HB HS G ao aS bR bS q2 ac
     refine xe (R:=zR wS.heap.size p) 12 (by kernel_rfl) (by kernel_rfl) (fun _=>zR.refl _ _ _) (by kernel_rfl) (by kernel_rfl) (fun W=>zR wS.heap.size p wS W)
      [fun a _=>a 0=qN p,fun a _=>a 1=.agg (zbW p),fun a _=>a 2=.pointer (some ⟨w3.heap.size,0,none⟩),fun a _=>a 3=.int .i64 hm,fun a _=>a 4=rdV p hm,fun a _=>a 5=qu (hm,H,D),G6,G7,G8,G9,G10 wS.heap.size] (JI wS.heap.size p dq (d+1) (bs r).size (bs r) res) ?_ ?_ ?_ ?_ ?_ ?_
     case refine_1=>exact zR.of_below ((Below.refl _ _).drew) (Nat.le_refl _)
     case refine_2=>exact fun a=>JI.start a8
     case refine_3=>exact fun W W' he Q=>he.trans Q
     case refine_4 =>
      intro i o' a bt W W' y z _ C _
      match i,y with
      | 0,y=>exact (z 0 (.inl rfl)).symm.trans C
      | 1,y=>exact (z 1 (.inl rfl)).symm.trans C
      | 2,y=>exact (z 2 (.inl rfl)).symm.trans C
      | 3,y=>exact (z 3 (.inl rfl)).symm.trans C
      | 4,y=>exact (z 4 (.inl rfl)).symm.trans C
      | 5,y=>exact (z 5 (.inl rfl)).symm.trans C
      | 6,y =>
       obtain ⟨o,A,n,c,e,h⟩:=show G6 a W from C
       exact ⟨o,A,n,c,e,(z 6 (.inl rfl)).symm.trans h⟩
      | 7,y =>
       obtain ⟨N,o,A,n,c,e,h⟩:=show G7 a W from C
       cases y
       rw [z 7 (.inl rfl),z 6 (.inr (by kernel_rfl))]at N
       exact ⟨N,o,A,n,c,e,(z 7 (.inl rfl)).symm.trans h⟩
      | 8,y =>
       obtain ⟨o,A,n,c,e,N,h2⟩:=show G8 a W from C
       cases y
       rw [z 7 (.inr (by kernel_rfl))]at N
       exact ⟨o,A,n,c,e,N,(z 8 (.inl rfl)).symm.trans h2⟩
      | 9,y =>
       obtain ⟨x,e,N,h2⟩:=show G9 a W from C
       cases y
       rw [z 7 (.inr (by kernel_rfl))]at N
       exact ⟨x,e,N,(z 9 (.inl rfl)).symm.trans h2⟩
      | 10,y =>
       obtain ⟨Z,N,h2⟩:=show G10 wS.heap.size a W from C
       exact ⟨Z,(z 10 (.inl rfl)).symm.trans N,h2⟩
      | n+11,y=>exact (show True from trivial)
     case refine_5 =>
      refine zg (zw rfl rfl (by kernel_rfl) (by kernel_rfl) ?_) ?_
      ·intro t a W k hn j u f ρ g hc E m K l
       have r0:ρ (.tmp 0)=qN p:=by rw [g]; kernel_rfl
       clear g m
       simp [zd,go_sem,r0]
       exact l _ _ (zi _ _ _) (j.other (Below.refl _ _) 0 (by decide) (by decide) (by decide) (by decide) _) (zR.refl _ _ _)
      refine zg (zw rfl rfl (by kernel_rfl) (by kernel_rfl) ?_) ?_
      ·intro t a W k hn j u f ρ g hc E m K l
       have bc:=(show ρ (.tmp 60)=a 0 by rw [g]; kernel_rfl).trans (hn 0 (f 0 (by kernel_rfl)))
       clear g m
       refine jl rfl (by kernel_rfl) E ?_
       rw [show #[Operand.tmp 60].map ρ = #[qN p] by simp [bc]]
       refine (zan p W).mono ?_
       rintro e W' ⟨rfl,hb⟩
       exact ⟨_,rfl,l _ _ (zi _ _ _) (j.other hb 1 (by decide) (by decide) (by decide) (by decide) _) (zR.of_below hb k.size)⟩
      refine zg (zw rfl rfl (by kernel_rfl) (by kernel_rfl) ?_) ?_
      ·intro t a W k hn j u f ρ g hc E m K l
       have r4:ρ (.tmp 4)=.pointer (some ⟨w3.heap.size,0,none⟩):=by rw [g]; kernel_rfl
       clear g m
       simp [zd,go_sem,r4]
       exact l _ _ (zi _ _ _) (j.other (Below.refl _ _) 2 (by decide) (by decide) (by decide) (by decide) _) (zR.refl _ _ _)
      refine zg (zw rfl rfl (by kernel_rfl) (by kernel_rfl) ?_) ?_
      ·intro t a W k hn j u f ρ g hc E m K l
       have be:=(show ρ (.tmp 62)=a 2 by rw [g]; kernel_rfl).trans (hn 2 (f 2 (by kernel_rfl)))
       clear g m
       have q0:W.cell? ⟨w3.heap.size,0,none⟩=some (.int .i64 hm):=((show Blk W w3.heap.size #[.int .i64 hm,.int .i64 H,.int .u64 D] 137 from (k.block w3.heap.size X.out.lt (by omega)).trans X.out)).cell 0
       simp [zd,go_sem,be,q0]
       exact l _ _ (zi _ _ _) (j.other (Below.refl _ _) 3 (by decide) (by decide) (by decide) (by decide) _) (zR.refl _ _ _)
      refine zg (zw rfl rfl (by kernel_rfl) (by kernel_rfl) ?_) ?_
      ·intro t a W k hn j u f ρ g hc E m K l
       have bd:=(show ρ (.tmp 61)=a 1 by rw [g]; kernel_rfl).trans (hn 1 (f 1 (by kernel_rfl)))
       have bf:=(show ρ (.tmp 63)=a 3 by rw [g]; kernel_rfl).trans (hn 3 (f 3 (by kernel_rfl)))
       clear g m
       have q0:=zcx p hm W aC
       simp [zd,execOp,bd,bf,q0]
       exact l _ _ (zi _ _ _) (j.other (Below.refl _ _) 4 (by decide) (by decide) (by decide) (by decide) _) (zR.refl _ _ _)
      refine zg (zw rfl rfl (by kernel_rfl) (by kernel_rfl) ?_) ?_
      ·intro t a W k hn j u f ρ g hc E m K l
       have r4:ρ (.tmp 4)=.pointer (some ⟨w3.heap.size,0,none⟩):=by rw [g]; kernel_rfl
       clear g m
       exact jh 137 (.tmp 4) rfl w3.heap.size r4 137 _ (0,0) _ ((k.block w3.heap.size X.out.lt (by omega)).trans X.out) Tryz.underlying137 rfl (by kernel_rfl) (l _ _ (zi _ _ _) (j.other (Below.refl _ _) 5 (by decide) (by decide) (by decide) (by decide) _) (zR.refl _ _ _))
      refine zg (zw rfl rfl (by kernel_rfl) (by kernel_rfl) ?_) ?_
      ·intro t a W k hn j u f ρ g hc E m K l
       have bg:=(show ρ (.tmp 64)=a 4 by rw [g]; kernel_rfl).trans (hn 4 (f 4 (by kernel_rfl)))
       have bh:=(show ρ (.tmp 65)=a 5 by rw [g]; kernel_rfl).trans (hn 5 (f 5 (by kernel_rfl)))
       clear g m
       refine yH rfl (zaC hm aC) bg ?_
       rw [show #[qN p]++#[Operand.tmp 65].map ρ = #[qN p,qu (hm,H,D)] by simp [bh]]
       refine (ar.out W k (j.c0 u)).mono ?_
       intro x W' Q
       obtain ⟨v,rfl⟩:=zby Q
       exact ⟨_,rfl,l _ _ (show G6 (j2 a 6 v) W' from by obtain ⟨o,A,n,c,e,h⟩:=yM Q; exact ⟨o,A,n,c,e,(zi _ _ _).trans h⟩) (j.read u ag k.size aZ.out Q) (zR.of_grown Q.1 k.size)⟩
      refine zg (zw rfl rfl (by kernel_rfl) (by kernel_rfl) ?_) ?_
      ·intro t a W k hn j u f ρ g hc E m K l
       obtain ⟨o6,A6,n6,c6,a2,aw⟩:G6 a W:=(hn 6 (f 6 (by kernel_rfl)))
       have bi:=(show ρ (.tmp 66)=a 6 by rw [g]; kernel_rfl).trans aw
       clear g m
       simp [zd,go_sem,bi]
       exact l _ _ ⟨(zi _ _ _).trans ((zU _ _ (by decide)).trans aw).symm,o6,A6,n6,c6,a2,zi _ _ _⟩ (j.other (Below.refl _ _) 7 (by decide) (by decide) (by decide) (by decide) _) (zR.refl _ _ _)
      refine zg (zw rfl rfl (by kernel_rfl) (by kernel_rfl) ?_) ?_
      ·intro t a W k hn j u f ρ g hc E m K l
       obtain ⟨_,o7,A7,n7,c7,aa,P⟩:G7 a W:=(hn 7 (f 7 (by kernel_rfl)))
       have ai:=(show ρ (.tmp 59)=a 7 by rw [g]; kernel_rfl).trans P
       clear g m
       simp [zd,go_sem,ai]
       exact l _ _ ⟨o7,A7,n7,c7,aa,(zU _ _ (by decide)).trans P,zi _ _ _⟩ (j.part u _) (zR.refl _ _ _)
      refine zg (zw rfl rfl (by kernel_rfl) (by kernel_rfl) ?_) ?_
      ·intro t a W k hn j u f ρ g hc E m K l
       obtain ⟨_,o7,A7,n7,c7,aa,P⟩:G7 a W:=(hn 7 (f 7 (by kernel_rfl)))
       have ai:=(show ρ (.tmp 59)=a 7 by rw [g]; kernel_rfl).trans P
       clear g m
       simp [zd,go_sem,ai]
       exact l _ _ ⟨_,aa,(zU _ _ (by decide)).trans P,zi _ _ _⟩ (j.other (Below.refl _ _) 9 (by decide) (by decide) (by decide) (by decide) _) (zR.refl _ _ _)
      refine zg (zw rfl rfl (by kernel_rfl) (by kernel_rfl) ?_) ?_
      ·intro t a W k hn j u f ρ g hc E m K l
       clear g m
       simp [zd,go_sem]
       exact l _ _ ⟨W.heap.size,zi _ _ _,k.size⟩ (j.box u k.size) (zR.of_below ((Below.refl _ W).alloc (Nat.le_refl _) _) k.size)
      refine zg (kK rfl rfl (by kernel_rfl) rfl ?_) xp
      ·intro t a W k hn j u f ρ g hc E m K l
       obtain ⟨au,e7,ap⟩:G10 wS.heap.size a W:=(hn 10 (f 10 (by kernel_rfl)))
       have r7:=(show ρ (.tmp 7)=a 10 by rw [g]; kernel_rfl).trans e7
       obtain ⟨o8,A8,n8,c8,_,_,ax⟩:G8 a W:=(hn 8 (f 8 (by kernel_rfl)))
       have bj:=(show ρ (.tmp 67)=a 8 by rw [g]; kernel_rfl).trans ax
       clear g m
       have h0:=j.c3 (f 10 (by kernel_rfl)) u au e7
       exact qK 28 (.tmp 7) (.tmp 67) rfl au (zf o8 (.slice A8 n8 c8)) r7 bj 28 _ h0 (by kernel_rfl) rfl (by simp [zf,Value.oneCell']) (l undef _ trivial (j.store ag (f 6 (by kernel_rfl)) (f 8 (by kernel_rfl)) (f 10 (by kernel_rfl)) e7 ax h0) (zR.of_row W _ ap))
     case refine_6 =>
      intro a W k hn j
      obtain ⟨⟨aq,b3,aP,a0,a3,u3,bk,s3⟩,A,n,c,ev,Z,e9,av,b4,aA,L⟩:=zbq (hn 7 (by decide)) (hn 8 (by decide)) (hn 9 (by decide)) (hn 10 (by decide)) j
      clear hn j ar
      have aB:Blk W w.heap.size #[.int .i64 0,.bool false,.bool false,.string ⟨#[]⟩,.int .i64 0,.int .u64 0,.int .i64 0,.string ⟨#[]⟩,.slice none 0 0] 28:=(k.block w.heap.size (by omega) (by omega)).trans aL
      obtain ⟨s',ah,b5⟩:=L.rd
      have ad:=xC az k (by omega)
      have aI:=Lib.hid L
      have a6:Z≠p:=by omega
      have b0:Z≠w.heap.size:=by omega
      have p1:=ah.cell 1
      have p2:=ah.frozen 1
      have aK:=aA.other a6 1 (.int .i64 (dp:Int))
      have af:=aB.other (by omega:w.heap.size≠p) 1 (.int .i64 (dp:Int))
      have ae:=zu ad (jm W p 1 (.int .i64 (dp:Int)))
      simp only [List.take_succ_cons,List.take_zero,List.drop_succ_cons,List.drop_zero,jM,e9,av]
      generalize a 0=x0
      generalize a 1=x1
      generalize a 2=x2
      generalize a 3=x3
      generalize a 4=x4
      generalize a 5=x5
      generalize a 6=x6
      generalize a 7=x7
      generalize a 8=x8
      generalize a 11=b7
      go_simp
      clear e9 av k L aA aB ah
      go_wp2_with (first | (refine wpList_load_row rfl 28 (.tmp 7) rfl Z rfl 28 _ (0,0) _ aK Tryz.underlying28 rfl (by kernel_rfl) ?_) | (refine wpList_store_row rfl 28 (.tmp 2) (.tmp 78) rfl (w.heap.size) (zf ⟨aq,b3,aP,a0,a3,u3,bk,s3⟩ (.slice A n c)) rfl rfl 28 _ af (by kernel_rfl) rfl (by simp [zf,Value.oneCell']) ?_))
      refine bodyPost_ret (zo (T:=28) rfl rfl rfl (zB af _) Tryz.underlying28 rfl (by kernel_rfl)) rfl ?_
      exact zbp aI.out (jE ae (zx _ w.heap.size _) (Nat.le_refl _)) (by omega) (by omega) (by omega) (by omega) bp
    ·have y4:¬ (hm:Int)<2:=by omega
     have y5:((hm:Int) == 6)=true:=by rw [beq_iff_eq]; omega
     clear M aj bx yo
     go_enter Tryz.func68,Tryz.ntmps68
     go_wp2_with fail
     refine HS.out.mono ?_
     rintro x w3 ⟨G,rfl,Y⟩
     have J:=(RdB.grown ao G (by omega)).alloc (.cells #[.int .i64 hm,.int .i64 H,.int .u64 D] 137)
     have q:=Y.alloc (.cells #[.int .i64 hm,.int .i64 H,.int .u64 D] 137)
     have B:=Blk.new w3 #[.int .i64 hm,.int .i64 H,.int .u64 D] 137
     have z0:=B.cell 0
     have p0:=q.cell 0
     have p1:=q.cell 1
     have p2:=q.frozen 1
     have z1:=B.cell 1
     have z2:=B.cell 2
     have bC:Below w0.heap.size w0 w3:=qf a5 C aN (zu (below_grown ac (some p)) G)
     go_wp2_with fail
     refine (HO.out _).mono ?_
     rintro x w5 ⟨rfl,I⟩
     have J:=J.below I J.lt
     have q:=q.below I q.lt
     have B:=B.below I B.lt
     have bD:=I.size
     rw [World.size_alloc]at bD
     clear z0 z1 z2 p0 p1 p2
     have p0:=q.cell 0
     have p1:=q.cell 1
     have p2:=q.frozen 1
     go_wp2_with fail
     have b6:w.heap.size+1≤w3.heap.size:=by have:=G.size; simpa using this
     have ay:=grown_of (zu (below_grown ac (some p)) G) (((Below.refl w3.heap.size w3).alloc (Nat.le_refl _) (.cells #[.int .i64 hm,.int .i64 H,.int .u64 D] 137)).trans (I.mono (by simp)))
     have U:=zu ay (jm w5 p 1 (.int .i64 (dq:Int)))
     have V:RdB (w5.setCell ⟨p,1,none⟩ (.int .i64 (dq:Int))) p (bs r) dq:=Blk.set q 1 _
     have O:=J.other (by omega:w.heap.size≠p) 1 (.int .i64 (dq:Int))
     have S:=B.other (by omega:w3.heap.size≠p) 1 (.int .i64 (dq:Int))
     have aO:w3.heap.size+1≤(w5.setCell ⟨p,1,none⟩ (.int .i64 (dq:Int))).heap.size:=by simp [World.setCell]; omega
     obtain ⟨wS,aD⟩:∃ wS,w5.setCell ⟨p,1,none⟩ (.int .i64 (dq:Int))=wS:=⟨_,rfl⟩
     rw [aD]at U V O S aO ⊢
     clear aD ay p0 p1 p2 B q J Y
     have az:=U
     have a8:=V
     have aL:=O
     have X:=Lib.hid S
     clear U V O S
     have ag:p<wS.heap.size:=by omega
     have aM:w.heap.size<wS.heap.size:=by omega
     have aZ:=Lib.hid (rfl:(bs r).size=(bs r).size)
     have ar:=Lib.hid (fun W (k:zR wS.heap.size p wS W) (hR:RdB W p (bs r) dq)=>HB.out W (qf a5 C aN (xC az k (Nat.le_of_lt aM))) hR)
     have aC:hm≤7:=q1
     clear HO bC I HB HS G ao aS bR bS q2 ac
     refine xe (R:=zR wS.heap.size p) 12 (by kernel_rfl) (by kernel_rfl) (fun _=>zR.refl _ _ _) (by kernel_rfl) (by kernel_rfl) (fun W=>zR wS.heap.size p wS W)
      [fun a _=>a 0=qN p,fun a _=>a 1=.agg (zbW p),fun a _=>a 2=.pointer (some ⟨w3.heap.size,0,none⟩),fun a _=>a 3=.int .i64 hm,fun a _=>a 4=rdV p hm,fun a _=>a 5=qu (hm,H,D),G6,G7,G8,G9,G10 wS.heap.size] (JI wS.heap.size p dq (d+1) (bs r).size (bs r) res) ?_ ?_ ?_ ?_ ?_ ?_
     case refine_1=>exact zR.of_below ((Below.refl _ _).drew) (Nat.le_refl _)
     case refine_2=>exact fun a=>JI.start a8
     case refine_3=>exact fun W W' he Q=>he.trans Q
     case refine_4 =>
      intro i o' a bt W W' y z _ C _
      match i,y with
      | 0,y=>exact (z 0 (.inl rfl)).symm.trans C
      | 1,y=>exact (z 1 (.inl rfl)).symm.trans C
      | 2,y=>exact (z 2 (.inl rfl)).symm.trans C
      | 3,y=>exact (z 3 (.inl rfl)).symm.trans C
      | 4,y=>exact (z 4 (.inl rfl)).symm.trans C
      | 5,y=>exact (z 5 (.inl rfl)).symm.trans C
      | 6,y =>
       obtain ⟨o,A,n,c,e,h⟩:=show G6 a W from C
       exact ⟨o,A,n,c,e,(z 6 (.inl rfl)).symm.trans h⟩
      | 7,y =>
       obtain ⟨N,o,A,n,c,e,h⟩:=show G7 a W from C
       cases y
       rw [z 7 (.inl rfl),z 6 (.inr (by kernel_rfl))]at N
       exact ⟨N,o,A,n,c,e,(z 7 (.inl rfl)).symm.trans h⟩
      | 8,y =>
       obtain ⟨o,A,n,c,e,N,h2⟩:=show G8 a W from C
       cases y
       rw [z 7 (.inr (by kernel_rfl))]at N
       exact ⟨o,A,n,c,e,N,(z 8 (.inl rfl)).symm.trans h2⟩
      | 9,y =>
       obtain ⟨x,e,N,h2⟩:=show G9 a W from C
       cases y
       rw [z 7 (.inr (by kernel_rfl))]at N
       exact ⟨x,e,N,(z 9 (.inl rfl)).symm.trans h2⟩
      | 10,y =>
       obtain ⟨Z,N,h2⟩:=show G10 wS.heap.size a W from C
       exact ⟨Z,(z 10 (.inl rfl)).symm.trans N,h2⟩
      | n+11,y=>exact (show True from trivial)
     case refine_5 =>
      refine zg (zw rfl rfl (by kernel_rfl) (by kernel_rfl) ?_) ?_
      ·intro t a W k hn j u f ρ g hc E m K l
       have r0:ρ (.tmp 0)=qN p:=by rw [g]; kernel_rfl
       clear g m
       simp [zd,go_sem,r0]
       exact l _ _ (zi _ _ _) (j.other (Below.refl _ _) 0 (by decide) (by decide) (by decide) (by decide) _) (zR.refl _ _ _)
      refine zg (zw rfl rfl (by kernel_rfl) (by kernel_rfl) ?_) ?_
      ·intro t a W k hn j u f ρ g hc E m K l
       have bc:=(show ρ (.tmp 60)=a 0 by rw [g]; kernel_rfl).trans (hn 0 (f 0 (by kernel_rfl)))
       clear g m
       refine jl rfl (by kernel_rfl) E ?_
       rw [show #[Operand.tmp 60].map ρ = #[qN p] by simp [bc]]
       refine (zan p W).mono ?_
       rintro e W' ⟨rfl,hb⟩
       exact ⟨_,rfl,l _ _ (zi _ _ _) (j.other hb 1 (by decide) (by decide) (by decide) (by decide) _) (zR.of_below hb k.size)⟩
      refine zg (zw rfl rfl (by kernel_rfl) (by kernel_rfl) ?_) ?_
      ·intro t a W k hn j u f ρ g hc E m K l
       have r4:ρ (.tmp 4)=.pointer (some ⟨w3.heap.size,0,none⟩):=by rw [g]; kernel_rfl
       clear g m
       simp [zd,go_sem,r4]
       exact l _ _ (zi _ _ _) (j.other (Below.refl _ _) 2 (by decide) (by decide) (by decide) (by decide) _) (zR.refl _ _ _)
      refine zg (zw rfl rfl (by kernel_rfl) (by kernel_rfl) ?_) ?_
      ·intro t a W k hn j u f ρ g hc E m K l
       have be:=(show ρ (.tmp 62)=a 2 by rw [g]; kernel_rfl).trans (hn 2 (f 2 (by kernel_rfl)))
       clear g m
       have q0:W.cell? ⟨w3.heap.size,0,none⟩=some (.int .i64 hm):=((show Blk W w3.heap.size #[.int .i64 hm,.int .i64 H,.int .u64 D] 137 from (k.block w3.heap.size X.out.lt (by omega)).trans X.out)).cell 0
       simp [zd,go_sem,be,q0]
       exact l _ _ (zi _ _ _) (j.other (Below.refl _ _) 3 (by decide) (by decide) (by decide) (by decide) _) (zR.refl _ _ _)
      refine zg (zw rfl rfl (by kernel_rfl) (by kernel_rfl) ?_) ?_
      ·intro t a W k hn j u f ρ g hc E m K l
       have bd:=(show ρ (.tmp 61)=a 1 by rw [g]; kernel_rfl).trans (hn 1 (f 1 (by kernel_rfl)))
       have bf:=(show ρ (.tmp 63)=a 3 by rw [g]; kernel_rfl).trans (hn 3 (f 3 (by kernel_rfl)))
       clear g m
       have q0:=zcx p hm W aC
       simp [zd,execOp,bd,bf,q0]
       exact l _ _ (zi _ _ _) (j.other (Below.refl _ _) 4 (by decide) (by decide) (by decide) (by decide) _) (zR.refl _ _ _)
      refine zg (zw rfl rfl (by kernel_rfl) (by kernel_rfl) ?_) ?_
      ·intro t a W k hn j u f ρ g hc E m K l
       have r4:ρ (.tmp 4)=.pointer (some ⟨w3.heap.size,0,none⟩):=by rw [g]; kernel_rfl
       clear g m
       exact jh 137 (.tmp 4) rfl w3.heap.size r4 137 _ (0,0) _ ((k.block w3.heap.size X.out.lt (by omega)).trans X.out) Tryz.underlying137 rfl (by kernel_rfl) (l _ _ (zi _ _ _) (j.other (Below.refl _ _) 5 (by decide) (by decide) (by decide) (by decide) _) (zR.refl _ _ _))
      refine zg (zw rfl rfl (by kernel_rfl) (by kernel_rfl) ?_) ?_
      ·intro t a W k hn j u f ρ g hc E m K l
       have bg:=(show ρ (.tmp 64)=a 4 by rw [g]; kernel_rfl).trans (hn 4 (f 4 (by kernel_rfl)))
       have bh:=(show ρ (.tmp 65)=a 5 by rw [g]; kernel_rfl).trans (hn 5 (f 5 (by kernel_rfl)))
       clear g m
       refine yH rfl (zaC hm aC) bg ?_
       rw [show #[qN p]++#[Operand.tmp 65].map ρ = #[qN p,qu (hm,H,D)] by simp [bh]]
       refine (ar.out W k (j.c0 u)).mono ?_
       intro x W' Q
       obtain ⟨v,rfl⟩:=zby Q
       exact ⟨_,rfl,l _ _ (show G6 (j2 a 6 v) W' from by obtain ⟨o,A,n,c,e,h⟩:=yM Q; exact ⟨o,A,n,c,e,(zi _ _ _).trans h⟩) (j.read u ag k.size aZ.out Q) (zR.of_grown Q.1 k.size)⟩
      refine zg (zw rfl rfl (by kernel_rfl) (by kernel_rfl) ?_) ?_
      ·intro t a W k hn j u f ρ g hc E m K l
       obtain ⟨o6,A6,n6,c6,a2,aw⟩:G6 a W:=(hn 6 (f 6 (by kernel_rfl)))
       have bi:=(show ρ (.tmp 66)=a 6 by rw [g]; kernel_rfl).trans aw
       clear g m
       simp [zd,go_sem,bi]
       exact l _ _ ⟨(zi _ _ _).trans ((zU _ _ (by decide)).trans aw).symm,o6,A6,n6,c6,a2,zi _ _ _⟩ (j.other (Below.refl _ _) 7 (by decide) (by decide) (by decide) (by decide) _) (zR.refl _ _ _)
      refine zg (zw rfl rfl (by kernel_rfl) (by kernel_rfl) ?_) ?_
      ·intro t a W k hn j u f ρ g hc E m K l
       obtain ⟨_,o7,A7,n7,c7,aa,P⟩:G7 a W:=(hn 7 (f 7 (by kernel_rfl)))
       have ai:=(show ρ (.tmp 59)=a 7 by rw [g]; kernel_rfl).trans P
       clear g m
       simp [zd,go_sem,ai]
       exact l _ _ ⟨o7,A7,n7,c7,aa,(zU _ _ (by decide)).trans P,zi _ _ _⟩ (j.part u _) (zR.refl _ _ _)
      refine zg (zw rfl rfl (by kernel_rfl) (by kernel_rfl) ?_) ?_
      ·intro t a W k hn j u f ρ g hc E m K l
       obtain ⟨_,o7,A7,n7,c7,aa,P⟩:G7 a W:=(hn 7 (f 7 (by kernel_rfl)))
       have ai:=(show ρ (.tmp 59)=a 7 by rw [g]; kernel_rfl).trans P
       clear g m
       simp [zd,go_sem,ai]
       exact l _ _ ⟨_,aa,(zU _ _ (by decide)).trans P,zi _ _ _⟩ (j.other (Below.refl _ _) 9 (by decide) (by decide) (by decide) (by decide) _) (zR.refl _ _ _)
      refine zg (zw rfl rfl (by kernel_rfl) (by kernel_rfl) ?_) ?_
      ·intro t a W k hn j u f ρ g hc E m K l
       clear g m
       simp [zd,go_sem]
       exact l _ _ ⟨W.heap.size,zi _ _ _,k.size⟩ (j.box u k.size) (zR.of_below ((Below.refl _ W).alloc (Nat.le_refl _) _) k.size)
      refine zg (kK rfl rfl (by kernel_rfl) rfl ?_) xp
      ·intro t a W k hn j u f ρ g hc E m K l
       obtain ⟨au,e7,ap⟩:G10 wS.heap.size a W:=(hn 10 (f 10 (by kernel_rfl)))
       have r7:=(show ρ (.tmp 7)=a 10 by rw [g]; kernel_rfl).trans e7
       obtain ⟨o8,A8,n8,c8,_,_,ax⟩:G8 a W:=(hn 8 (f 8 (by kernel_rfl)))
       have bj:=(show ρ (.tmp 67)=a 8 by rw [g]; kernel_rfl).trans ax
       clear g m
       have h0:=j.c3 (f 10 (by kernel_rfl)) u au e7
       exact qK 28 (.tmp 7) (.tmp 67) rfl au (zf o8 (.slice A8 n8 c8)) r7 bj 28 _ h0 (by kernel_rfl) rfl (by simp [zf,Value.oneCell']) (l undef _ trivial (j.store ag (f 6 (by kernel_rfl)) (f 8 (by kernel_rfl)) (f 10 (by kernel_rfl)) e7 ax h0) (zR.of_row W _ ap))
     case refine_6 =>
      intro a W k hn j
      obtain ⟨⟨aq,b3,aP,a0,a3,u3,bk,s3⟩,A,n,c,ev,Z,e9,av,b4,aA,L⟩:=zbq (hn 7 (by decide)) (hn 8 (by decide)) (hn 9 (by decide)) (hn 10 (by decide)) j
      clear hn j ar
      have aB:Blk W w.heap.size #[.int .i64 0,.bool false,.bool false,.string ⟨#[]⟩,.int .i64 0,.int .u64 0,.int .i64 0,.string ⟨#[]⟩,.slice none 0 0] 28:=(k.block w.heap.size (by omega) (by omega)).trans aL
      obtain ⟨s',ah,b5⟩:=L.rd
      have ad:=xC az k (by omega)
      have aI:=Lib.hid L
      have a6:Z≠p:=by omega
      have b0:Z≠w.heap.size:=by omega
      have p1:=ah.cell 1
      have p2:=ah.frozen 1
      have aK:=aA.other a6 1 (.int .i64 (dp:Int))
      have af:=aB.other (by omega:w.heap.size≠p) 1 (.int .i64 (dp:Int))
      have ae:=zu ad (jm W p 1 (.int .i64 (dp:Int)))
      simp only [List.take_succ_cons,List.take_zero,List.drop_succ_cons,List.drop_zero,jM,e9,av]
      generalize a 0=x0
      generalize a 1=x1
      generalize a 2=x2
      generalize a 3=x3
      generalize a 4=x4
      generalize a 5=x5
      generalize a 6=x6
      generalize a 7=x7
      generalize a 8=x8
      generalize a 11=b7
      go_simp
      clear e9 av k L aA aB ah
      go_wp2_with (first | (refine wpList_load_row rfl 28 (.tmp 7) rfl Z rfl 28 _ (0,0) _ aK Tryz.underlying28 rfl (by kernel_rfl) ?_) | (refine wpList_store_row rfl 28 (.tmp 2) (.tmp 78) rfl (w.heap.size) (zf ⟨aq,b3,aP,a0,a3,u3,bk,s3⟩ (.slice A n c)) rfl rfl 28 _ af (by kernel_rfl) rfl (by simp [zf,Value.oneCell']) ?_))
      refine bodyPost_ret (zo (T:=28) rfl rfl rfl (zB af _) Tryz.underlying28 rfl (by kernel_rfl)) rfl ?_
      exact zbp aI.out (jE ae (zx _ w.heap.size _) (Nat.le_refl _)) (by omega) (by omega) (by omega) (by omega) bp
   ·have y4:¬ (hm:Int)<2:=by omega
    have y5:((hm:Int) == 6)=false:=by rw [beq_eq_false_iff_ne]; omega
    clear M aj yo
    go_enter Tryz.func68,Tryz.ntmps68
    go_wp2_with fail
    refine HS.out.mono ?_
    rintro x w3 ⟨G,rfl,Y⟩
    have J:=(RdB.grown ao G (by omega)).alloc (.cells #[.int .i64 hm,.int .i64 H,.int .u64 D] 137)
    have q:=Y.alloc (.cells #[.int .i64 hm,.int .i64 H,.int .u64 D] 137)
    have B:=Blk.new w3 #[.int .i64 hm,.int .i64 H,.int .u64 D] 137
    have z0:=B.cell 0
    have p0:=q.cell 0
    have p1:=q.cell 1
    have p2:=q.frozen 1
    go_wp2_with fail
    have b6:w.heap.size+1≤w3.heap.size:=by have:=G.size; simpa using this
    have ay:=grown_of (zu (below_grown ac (some p)) G) ((Below.refl w3.heap.size w3).alloc (Nat.le_refl _) (.cells #[.int .i64 hm,.int .i64 H,.int .u64 D] 137))
    have U:=zu ay (jm (w3.alloc (.cells #[.int .i64 hm,.int .i64 H,.int .u64 D] 137)) p 1 (.int .i64 (dq:Int)))
    have V:RdB ((w3.alloc (.cells #[.int .i64 hm,.int .i64 H,.int .u64 D] 137)).setCell ⟨p,1,none⟩ (.int .i64 (dq:Int))) p (bs r) dq:=Blk.set q 1 _
    have O:=J.other (by omega:w.heap.size≠p) 1 (.int .i64 (dq:Int))
    have S:=B.other (by omega:w3.heap.size≠p) 1 (.int .i64 (dq:Int))
    have aO:((w3.alloc (.cells #[.int .i64 hm,.int .i64 H,.int .u64 D] 137)).setCell ⟨p,1,none⟩ (.int .i64 (dq:Int))).heap.size=w3.heap.size+1:=by simp [World.setCell]
    obtain ⟨wS,aD⟩:∃ wS,(w3.alloc (.cells #[.int .i64 hm,.int .i64 H,.int .u64 D] 137)).setCell ⟨p,1,none⟩ (.int .i64 (dq:Int))=wS:=⟨_,rfl⟩
    rw [aD]at U V O S aO ⊢
    clear aD ay p0 p1 p2 z0 B q J Y
    have az:=U
    have a8:=V
    have aL:=O
    have X:=Lib.hid S
    clear U V O S
    have ag:p<wS.heap.size:=by omega
    have aM:w.heap.size<wS.heap.size:=by omega
    have aZ:=Lib.hid (rfl:(bs r).size=(bs r).size)
    have ar:=Lib.hid (fun W (k:zR wS.heap.size p wS W) (hR:RdB W p (bs r) dq)=>HB.out W (qf a5 C aN (xC az k (Nat.le_of_lt aM))) hR)
    have aC:hm≤7:=q1
    clear HO HB HS G ao aS bR bS q2 ac
    refine xe (R:=zR wS.heap.size p) 12 (by kernel_rfl) (by kernel_rfl) (fun _=>zR.refl _ _ _) (by kernel_rfl) (by kernel_rfl) (fun W=>zR wS.heap.size p wS W)
     [fun a _=>a 0=qN p,fun a _=>a 1=.agg (zbW p),fun a _=>a 2=.pointer (some ⟨w3.heap.size,0,none⟩),fun a _=>a 3=.int .i64 hm,fun a _=>a 4=rdV p hm,fun a _=>a 5=qu (hm,H,D),G6,G7,G8,G9,G10 wS.heap.size] (JI wS.heap.size p dq (d+1) (bs r).size (bs r) res) ?_ ?_ ?_ ?_ ?_ ?_
    case refine_1=>exact zR.of_below ((Below.refl _ _).drew) (Nat.le_refl _)
    case refine_2=>exact fun a=>JI.start a8
    case refine_3=>exact fun W W' he Q=>he.trans Q
    case refine_4 =>
     intro i o' a bt W W' y z _ C _
     match i,y with
     | 0,y=>exact (z 0 (.inl rfl)).symm.trans C
     | 1,y=>exact (z 1 (.inl rfl)).symm.trans C
     | 2,y=>exact (z 2 (.inl rfl)).symm.trans C
     | 3,y=>exact (z 3 (.inl rfl)).symm.trans C
     | 4,y=>exact (z 4 (.inl rfl)).symm.trans C
     | 5,y=>exact (z 5 (.inl rfl)).symm.trans C
     | 6,y =>
      obtain ⟨o,A,n,c,e,h⟩:=show G6 a W from C
      exact ⟨o,A,n,c,e,(z 6 (.inl rfl)).symm.trans h⟩
     | 7,y =>
      obtain ⟨N,o,A,n,c,e,h⟩:=show G7 a W from C
      cases y
      rw [z 7 (.inl rfl),z 6 (.inr (by kernel_rfl))]at N
      exact ⟨N,o,A,n,c,e,(z 7 (.inl rfl)).symm.trans h⟩
     | 8,y =>
      obtain ⟨o,A,n,c,e,N,h2⟩:=show G8 a W from C
      cases y
      rw [z 7 (.inr (by kernel_rfl))]at N
      exact ⟨o,A,n,c,e,N,(z 8 (.inl rfl)).symm.trans h2⟩
     | 9,y =>
      obtain ⟨x,e,N,h2⟩:=show G9 a W from C
      cases y
      rw [z 7 (.inr (by kernel_rfl))]at N
      exact ⟨x,e,N,(z 9 (.inl rfl)).symm.trans h2⟩
     | 10,y =>
      obtain ⟨Z,N,h2⟩:=show G10 wS.heap.size a W from C
      exact ⟨Z,(z 10 (.inl rfl)).symm.trans N,h2⟩
     | n+11,y=>exact (show True from trivial)
    case refine_5 =>
     refine zg (zw rfl rfl (by kernel_rfl) (by kernel_rfl) ?_) ?_
     ·intro t a W k hn j u f ρ g hc E m K l
      have r0:ρ (.tmp 0)=qN p:=by rw [g]; kernel_rfl
      clear g m
      simp [zd,go_sem,r0]
      exact l _ _ (zi _ _ _) (j.other (Below.refl _ _) 0 (by decide) (by decide) (by decide) (by decide) _) (zR.refl _ _ _)
     refine zg (zw rfl rfl (by kernel_rfl) (by kernel_rfl) ?_) ?_
     ·intro t a W k hn j u f ρ g hc E m K l
      have bc:=(show ρ (.tmp 60)=a 0 by rw [g]; kernel_rfl).trans (hn 0 (f 0 (by kernel_rfl)))
      clear g m
      refine jl rfl (by kernel_rfl) E ?_
      rw [show #[Operand.tmp 60].map ρ = #[qN p] by simp [bc]]
      refine (zan p W).mono ?_
      rintro e W' ⟨rfl,hb⟩
      exact ⟨_,rfl,l _ _ (zi _ _ _) (j.other hb 1 (by decide) (by decide) (by decide) (by decide) _) (zR.of_below hb k.size)⟩
     refine zg (zw rfl rfl (by kernel_rfl) (by kernel_rfl) ?_) ?_
     ·intro t a W k hn j u f ρ g hc E m K l
      have r4:ρ (.tmp 4)=.pointer (some ⟨w3.heap.size,0,none⟩):=by rw [g]; kernel_rfl
      clear g m
      simp [zd,go_sem,r4]
      exact l _ _ (zi _ _ _) (j.other (Below.refl _ _) 2 (by decide) (by decide) (by decide) (by decide) _) (zR.refl _ _ _)
     refine zg (zw rfl rfl (by kernel_rfl) (by kernel_rfl) ?_) ?_
     ·intro t a W k hn j u f ρ g hc E m K l
      have be:=(show ρ (.tmp 62)=a 2 by rw [g]; kernel_rfl).trans (hn 2 (f 2 (by kernel_rfl)))
      clear g m
      have q0:W.cell? ⟨w3.heap.size,0,none⟩=some (.int .i64 hm):=((show Blk W w3.heap.size #[.int .i64 hm,.int .i64 H,.int .u64 D] 137 from (k.block w3.heap.size X.out.lt (by omega)).trans X.out)).cell 0
      simp [zd,go_sem,be,q0]
      exact l _ _ (zi _ _ _) (j.other (Below.refl _ _) 3 (by decide) (by decide) (by decide) (by decide) _) (zR.refl _ _ _)
     refine zg (zw rfl rfl (by kernel_rfl) (by kernel_rfl) ?_) ?_
     ·intro t a W k hn j u f ρ g hc E m K l
      have bd:=(show ρ (.tmp 61)=a 1 by rw [g]; kernel_rfl).trans (hn 1 (f 1 (by kernel_rfl)))
      have bf:=(show ρ (.tmp 63)=a 3 by rw [g]; kernel_rfl).trans (hn 3 (f 3 (by kernel_rfl)))
      clear g m
      have q0:=zcx p hm W aC
      simp [zd,execOp,bd,bf,q0]
      exact l _ _ (zi _ _ _) (j.other (Below.refl _ _) 4 (by decide) (by decide) (by decide) (by decide) _) (zR.refl _ _ _)
     refine zg (zw rfl rfl (by kernel_rfl) (by kernel_rfl) ?_) ?_
     ·intro t a W k hn j u f ρ g hc E m K l
      have r4:ρ (.tmp 4)=.pointer (some ⟨w3.heap.size,0,none⟩):=by rw [g]; kernel_rfl
      clear g m
      exact jh 137 (.tmp 4) rfl w3.heap.size r4 137 _ (0,0) _ ((k.block w3.heap.size X.out.lt (by omega)).trans X.out) Tryz.underlying137 rfl (by kernel_rfl) (l _ _ (zi _ _ _) (j.other (Below.refl _ _) 5 (by decide) (by decide) (by decide) (by decide) _) (zR.refl _ _ _))
     refine zg (zw rfl rfl (by kernel_rfl) (by kernel_rfl) ?_) ?_
     ·intro t a W k hn j u f ρ g hc E m K l
      have bg:=(show ρ (.tmp 64)=a 4 by rw [g]; kernel_rfl).trans (hn 4 (f 4 (by kernel_rfl)))
      have bh:=(show ρ (.tmp 65)=a 5 by rw [g]; kernel_rfl).trans (hn 5 (f 5 (by kernel_rfl)))
      clear g m
      refine yH rfl (zaC hm aC) bg ?_
      rw [show #[qN p]++#[Operand.tmp 65].map ρ = #[qN p,qu (hm,H,D)] by simp [bh]]
      refine (ar.out W k (j.c0 u)).mono ?_
      intro x W' Q
      obtain ⟨v,rfl⟩:=zby Q
      exact ⟨_,rfl,l _ _ (show G6 (j2 a 6 v) W' from by obtain ⟨o,A,n,c,e,h⟩:=yM Q; exact ⟨o,A,n,c,e,(zi _ _ _).trans h⟩) (j.read u ag k.size aZ.out Q) (zR.of_grown Q.1 k.size)⟩
     refine zg (zw rfl rfl (by kernel_rfl) (by kernel_rfl) ?_) ?_
     ·intro t a W k hn j u f ρ g hc E m K l
      obtain ⟨o6,A6,n6,c6,a2,aw⟩:G6 a W:=(hn 6 (f 6 (by kernel_rfl)))
      have bi:=(show ρ (.tmp 66)=a 6 by rw [g]; kernel_rfl).trans aw
      clear g m
      simp [zd,go_sem,bi]
      exact l _ _ ⟨(zi _ _ _).trans ((zU _ _ (by decide)).trans aw).symm,o6,A6,n6,c6,a2,zi _ _ _⟩ (j.other (Below.refl _ _) 7 (by decide) (by decide) (by decide) (by decide) _) (zR.refl _ _ _)
     refine zg (zw rfl rfl (by kernel_rfl) (by kernel_rfl) ?_) ?_
     ·intro t a W k hn j u f ρ g hc E m K l
      obtain ⟨_,o7,A7,n7,c7,aa,P⟩:G7 a W:=(hn 7 (f 7 (by kernel_rfl)))
      have ai:=(show ρ (.tmp 59)=a 7 by rw [g]; kernel_rfl).trans P
      clear g m
      simp [zd,go_sem,ai]
      exact l _ _ ⟨o7,A7,n7,c7,aa,(zU _ _ (by decide)).trans P,zi _ _ _⟩ (j.part u _) (zR.refl _ _ _)
     refine zg (zw rfl rfl (by kernel_rfl) (by kernel_rfl) ?_) ?_
     ·intro t a W k hn j u f ρ g hc E m K l
      obtain ⟨_,o7,A7,n7,c7,aa,P⟩:G7 a W:=(hn 7 (f 7 (by kernel_rfl)))
      have ai:=(show ρ (.tmp 59)=a 7 by rw [g]; kernel_rfl).trans P
      clear g m
      simp [zd,go_sem,ai]
      exact l _ _ ⟨_,aa,(zU _ _ (by decide)).trans P,zi _ _ _⟩ (j.other (Below.refl _ _) 9 (by decide) (by decide) (by decide) (by decide) _) (zR.refl _ _ _)
     refine zg (zw rfl rfl (by kernel_rfl) (by kernel_rfl) ?_) ?_
     ·intro t a W k hn j u f ρ g hc E m K l
      clear g m
      simp [zd,go_sem]
      exact l _ _ ⟨W.heap.size,zi _ _ _,k.size⟩ (j.box u k.size) (zR.of_below ((Below.refl _ W).alloc (Nat.le_refl _) _) k.size)
     refine zg (kK rfl rfl (by kernel_rfl) rfl ?_) xp
     ·intro t a W k hn j u f ρ g hc E m K l
      obtain ⟨au,e7,ap⟩:G10 wS.heap.size a W:=(hn 10 (f 10 (by kernel_rfl)))
      have r7:=(show ρ (.tmp 7)=a 10 by rw [g]; kernel_rfl).trans e7
      obtain ⟨o8,A8,n8,c8,_,_,ax⟩:G8 a W:=(hn 8 (f 8 (by kernel_rfl)))
      have bj:=(show ρ (.tmp 67)=a 8 by rw [g]; kernel_rfl).trans ax
      clear g m
      have h0:=j.c3 (f 10 (by kernel_rfl)) u au e7
      exact qK 28 (.tmp 7) (.tmp 67) rfl au (zf o8 (.slice A8 n8 c8)) r7 bj 28 _ h0 (by kernel_rfl) rfl (by simp [zf,Value.oneCell']) (l undef _ trivial (j.store ag (f 6 (by kernel_rfl)) (f 8 (by kernel_rfl)) (f 10 (by kernel_rfl)) e7 ax h0) (zR.of_row W _ ap))
    case refine_6 =>
     intro a W k hn j
     obtain ⟨⟨aq,b3,aP,a0,a3,u3,bk,s3⟩,A,n,c,ev,Z,e9,av,b4,aA,L⟩:=zbq (hn 7 (by decide)) (hn 8 (by decide)) (hn 9 (by decide)) (hn 10 (by decide)) j
     clear hn j ar
     have aB:Blk W w.heap.size #[.int .i64 0,.bool false,.bool false,.string ⟨#[]⟩,.int .i64 0,.int .u64 0,.int .i64 0,.string ⟨#[]⟩,.slice none 0 0] 28:=(k.block w.heap.size (by omega) (by omega)).trans aL
     obtain ⟨s',ah,b5⟩:=L.rd
     have ad:=xC az k (by omega)
     have aI:=Lib.hid L
     have a6:Z≠p:=by omega
     have b0:Z≠w.heap.size:=by omega
     have p1:=ah.cell 1
     have p2:=ah.frozen 1
     have aK:=aA.other a6 1 (.int .i64 (dp:Int))
     have af:=aB.other (by omega:w.heap.size≠p) 1 (.int .i64 (dp:Int))
     have ae:=zu ad (jm W p 1 (.int .i64 (dp:Int)))
     simp only [List.take_succ_cons,List.take_zero,List.drop_succ_cons,List.drop_zero,jM,e9,av]
     generalize a 0=x0
     generalize a 1=x1
     generalize a 2=x2
     generalize a 3=x3
     generalize a 4=x4
     generalize a 5=x5
     generalize a 6=x6
     generalize a 7=x7
     generalize a 8=x8
     generalize a 11=b7
     go_simp
     clear e9 av k L aA aB ah
     go_wp2_with (first | (refine wpList_load_row rfl 28 (.tmp 7) rfl Z rfl 28 _ (0,0) _ aK Tryz.underlying28 rfl (by kernel_rfl) ?_) | (refine wpList_store_row rfl 28 (.tmp 2) (.tmp 78) rfl (w.heap.size) (zf ⟨aq,b3,aP,a0,a3,u3,bk,s3⟩ (.slice A n c)) rfl rfl 28 _ af (by kernel_rfl) rfl (by simp [zf,Value.oneCell']) ?_))
     refine bodyPost_ret (zo (T:=28) rfl rfl rfl (zB af _) Tryz.underlying28 rfl (by kernel_rfl)) rfl ?_
     exact zbp aI.out (jE ae (zx _ w.heap.size _) (Nat.le_refl _)) (by omega) (by omega) (by omega) (by omega) bp
end Go.Proofs.YtonihophanmaaaaGreatDoor
