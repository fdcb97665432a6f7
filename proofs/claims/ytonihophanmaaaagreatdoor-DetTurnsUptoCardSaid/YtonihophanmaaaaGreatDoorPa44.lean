/- The texts CrW, put together. -/
import Derived.Test.YtonihophanmaaaaGreatDoorPa43
namespace Go.Proofs.YtonihophanmaaaaGreatDoor
open Go.RowKit Go.Shelf
attribute [local go_sem] Oper.semAt_some
abbrev ptrI (q:Nat):Value:=.pointer (some ⟨q,0,none⟩)
theorem ptrI_inj {p q:Nat} (h:ptrI p=ptrI q):p=q:=by
 injection h with h
 injection h with h
 injection h with h
structure JI (lo p dp D sz:Nat) (s:ByteArray) (res:PR Tr) (sel:Nat→Bool) (env:Nat→Value) (W:World):Prop where
 c0:sel 6=false→RdB W p s dp
 c1:sel 11=true→sel 6=true∧sel 8=true∧sel 10=true
 c2:sel 6=true→ItemRes lo p dp D sz res (fun q=>sel 10=true→env 10≠ptrI q) (env 6) W
 c3:sel 10=true→sel 11=false→∀ bb,env 10=ptrI bb→Blk W bb #[.int .i64 0,.bool false,.bool false,.string ⟨#[]⟩,.int .i64 0,.int .u64 0,.int .i64 0,.string ⟨#[]⟩,.slice none 0 0] 28
 c4:sel 10=true→sel 11=true→∀ bb,env 10=ptrI bb→∀ o' A n c,env 8=nodeV o' (.slice A n c)→Blk W bb (cellsV o' (.slice A n c)) 28
 c5:sel 10=true→∀ bb,env 10=ptrI bb→lo≤bb∧bb<W.heap.size
variable {lo p dp D sz:Nat} {s:ByteArray} {res:PR Tr} {sel:Nat→Bool} {env:Nat→Value} {W W':World}
theorem JI.start (h:RdB W p s dp):JI lo p dp D sz s res (fun _=>false) env W where
 c0 _:=h
 c1 h:=by cases h
 c2 h:=by cases h
 c3 h:=by cases h
 c4 h:=by cases h
 c5 h:=by cases h
theorem JI.other (h:JI lo p dp D sz s res sel env W) (hb:Below W.heap.size W W') (i:Nat) (h6:6≠i) (h8:8≠i) (h10:10≠i) (h11:11≠i) (v:Value):JI lo p dp D sz s res (updB sel i) (updV env i v) W' where
 c0:=by
  rw [updB_ne _ h6]
  exact fun q=>(h.c0 q).below hb (h.c0 q).lt
 c1:=by
  rw [updB_ne _ h6,updB_ne _ h8,updB_ne _ h10,updB_ne _ h11]
  exact h.c1
 c2:=by
  rw [updB_ne _ h6,updB_ne _ h10,updV_ne _ _ h6,updV_ne _ _ h10]
  exact fun q=>(h.c2 q).keep hb.size (fun k hk _=>hb.block k hk) (fun _ _ hx=>hx)
 c3:=by
  rw [updB_ne _ h10,updB_ne _ h11,updV_ne _ _ h10]
  exact fun q q' bb e=>(h.c3 q q' bb e).below hb (h.c5 q bb e).2
 c4:=by
  rw [updB_ne _ h10,updB_ne _ h11,updV_ne _ _ h10,updV_ne _ _ h8]
  exact fun q q' bb e o' A n c e'=>(h.c4 q q' bb e o' A n c e').below hb (h.c5 q bb e).2
 c5:=by
  rw [updB_ne _ h10,updV_ne _ _ h10]
  exact fun q bb e=>⟨(h.c5 q bb e).1,Nat.lt_of_lt_of_le (h.c5 q bb e).2 hb.size⟩
theorem JI.part (h:JI lo p dp D sz s res sel env W) (hs:sel 8=false) (v:Value):JI lo p dp D sz s res (updB sel 8) (updV env 8 v) W where
 c0:=by
  rw [updB_ne _ (by decide)]
  exact h.c0
 c1:=by
  intro q
  rw [updB_ne _ (show (11:Nat)≠8 by decide)]at q
  rw [(h.c1 q).2.1]at hs
  cases hs
 c2:=by
  rw [updB_ne _ (by decide),updB_ne _ (by decide),updV_ne _ _ (by decide),updV_ne _ _ (by decide)]
  exact h.c2
 c3:=by
  rw [updB_ne _ (by decide),updB_ne _ (by decide),updV_ne _ _ (by decide)]
  exact h.c3
 c4:=by
  intro _ q
  rw [updB_ne _ (show (11:Nat)≠8 by decide)]at q
  rw [(h.c1 q).2.1]at hs
  cases hs
 c5:=by
  rw [updB_ne _ (by decide),updV_ne _ _ (by decide)]
  exact h.c5
theorem JI.read (h:JI lo p dp D sz s res sel env W) (hs:sel 6=false) (hp:p<lo) (hlo:lo≤W.heap.size) (hsz:s.size=sz) {v:Value} (hr:ReadN p dp D W s res (.returned v) W'):JI lo p dp D sz s res (updB sel 6) (updV env 6 v) W' where
 c0:=by
  rw [updB_self]
  intro q
  cases q
 c1:=by
  intro q
  rw [updB_ne _ (show (11:Nat)≠6 by decide)]at q
  rw [(h.c1 q).1]at hs
  cases hs
 c2:=by
  rw [updB_ne _ (show (10:Nat)≠6 by decide),updV_self,updV_ne _ _ (show (10:Nat)≠6 by decide),← hsz]
  exact fun _=>ItemRes.of_read hr hlo (fun q hq _ s10 e=>by have:=(h.c5 s10 q e).2; omega)
 c3:=by
  rw [updB_ne _ (by decide),updB_ne _ (by decide),updV_ne _ _ (by decide)]
  exact fun q q' bb e=>(hr.1.block bb (h.c5 q bb e).2 (fun e'=>by have:=(h.c5 q bb e).1; injection e' with e'; omega)).trans (h.c3 q q' bb e)
 c4:=by
  intro _ q
  rw [updB_ne _ (show (11:Nat)≠6 by decide)]at q
  rw [(h.c1 q).1]at hs
  cases hs
 c5:=by
  rw [updB_ne _ (by decide),updV_ne _ _ (by decide)]
  exact fun q bb e=>⟨(h.c5 q bb e).1,Nat.lt_of_lt_of_le (h.c5 q bb e).2 hr.1.size⟩
theorem JI.box (h:JI lo p dp D sz s res sel env W) (hs:sel 10=false) (hlo:lo≤W.heap.size):JI lo p dp D sz s res (updB sel 10) (updV env 10 (ptrI W.heap.size)) (W.alloc (.cells #[.int .i64 0,.bool false,.bool false,.string ⟨#[]⟩,.int .i64 0,.int .u64 0,.int .i64 0,.string ⟨#[]⟩,.slice none 0 0] 28)) where
 c0:=by
  rw [updB_ne _ (by decide)]
  exact fun q=>(h.c0 q).alloc _
 c1:=by
  intro q
  rw [updB_ne _ (show (11:Nat)≠10 by decide)]at q
  rw [(h.c1 q).2.2]at hs
  cases hs
 c2:=by
  rw [updB_ne _ (show (6:Nat)≠10 by decide),updV_self,updV_ne _ _ (show (6:Nat)≠10 by decide)]
  exact fun q=>(h.c2 q).keep (by simp) (fun k hk _=>Below.heap_alloc W _ k hk) (fun k hk _ _ e=>by have:=ptrI_inj e; omega)
 c3:=by
  rw [updV_self]
  intro _ _ bb e
  rw [← ptrI_inj e]
  exact Blk.new _ _ _
 c4:=by
  intro _ q
  rw [updB_ne _ (show (11:Nat)≠10 by decide)]at q
  rw [(h.c1 q).2.2]at hs
  cases hs
 c5:=by
  rw [updV_self]
  intro _ bb e
  rw [← ptrI_inj e,World.size_alloc]
  exact ⟨hlo,Nat.lt_succ_self _⟩
theorem JI.store {bb:Nat} {o':Own} {A:Option Addr} {n c:Nat} {v:Value} (h:JI lo p dp D sz s res sel env W) (hp:p<lo) (s6:sel 6=true) (s8:sel 8=true) (s10:sel 10=true) (e10:env 10=ptrI bb) (e8:env 8=nodeV o' (.slice A n c)) (hk:Blk W bb #[.int .i64 0,.bool false,.bool false,.string ⟨#[]⟩,.int .i64 0,.int .u64 0,.int .i64 0,.string ⟨#[]⟩,.slice none 0 0] 28) :
  JI lo p dp D sz s res (updB sel 11) (updV env 11 v) (W.setRow bb (cellsV o' (.slice A n c))) where
 c0:=by
  rw [updB_ne _ (by decide)]
  intro q
  rw [s6]at q
  cases q
 c1:=fun _=>⟨by rw [updB_ne _ (show (6:Nat)≠11 by decide)]; exact s6,by rw [updB_ne _ (show (8:Nat)≠11 by decide)]; exact s8,by rw [updB_ne _ (show (10:Nat)≠11 by decide)]; exact s10⟩
 c2:=by
  rw [updB_ne _ (by decide),updB_ne _ (by decide),updV_ne _ _ (by decide),updV_ne _ _ (by decide)]
  exact fun q=>(h.c2 q).keep (by rw [setRow_size]; exact Nat.le_refl _) (fun k hk hx=>setRow_other _ _ _ _ (fun e=>by
   subst e
   rcases hx with hx | hx
   ·have:=(h.c5 s10 _ e10).1
    omega
   ·exact hx.2 s10 e10)) (fun _ _ hx=>hx)
 c3:=by
  rw [updB_self]
  intro _ q
  cases q
 c4:=by
  rw [updV_ne _ _ (by decide),updV_ne _ _ (by decide)]
  intro _ _ b2 e2 o2 A2 n2 c2 e8'
  rw [e10]at e2
  have:=ptrI_inj e2
  subst this
  have e:nodeV o' (.slice A n c)=nodeV o2 (.slice A2 n2 c2):=e8.symm.trans e8'
  unfold nodeV at e
  injection e with e
  have e:cellsV o' (.slice A n c)=cellsV o2 (.slice A2 n2 c2):=e
  rw [e]
  exact blk_row hk _
 c5:=by
  rw [updB_ne _ (by decide),updV_ne _ _ (by decide),setRow_size]
  exact h.c5
def G6 (env:Nat→Value) (_:World):Prop:=∃ o A n c e,env 6=.tuple #[nodeV o (.slice A n c),e]
def G7 (env:Nat→Value) (_:World):Prop:=env 7=env 6∧∃ o A n c e,env 7=.tuple #[nodeV o (.slice A n c),e]
def G8 (env:Nat→Value) (_:World):Prop:=∃ o A n c e,env 7=.tuple #[nodeV o (.slice A n c),e]∧env 8=nodeV o (.slice A n c)
def G9 (env:Nat→Value) (_:World):Prop:=∃ x e,env 7=.tuple #[x,e]∧env 9=e
def G10 (lo:Nat) (env:Nat→Value) (_:World):Prop:=∃ bb,env 10=ptrI bb∧lo≤bb
theorem item_rest (h7:G7 env W) (h8:G8 env W) (h9:G9 env W) (h10:G10 lo env W) (hx:JI lo p dp D sz s res (fun j=>decide (j<12)) env W) :
  ∃ o A n c e bb,env 9=e∧env 10=ptrI bb∧lo≤bb∧Blk W bb (cellsV o (.slice A n c)) 28∧ItemRes lo p dp D sz res (fun q=>q≠bb) (.tuple #[nodeV o (.slice A n c),e]) W:=by
 obtain ⟨e76,_⟩:=h7
 obtain ⟨o,A,n,c,e,e7,e8⟩:=h8
 obtain ⟨x,e',e7',e9⟩:=h9
 obtain ⟨bb,e10,hlo⟩:=h10
 rw [e7]at e7'
 have e7'':nodeV o (.slice A n c)=x∧e=e':=by simpa using e7'
 have hk:=hx.c4 (by simp) (by simp) bb e10 o A n c e8
 have hr:=hx.c2 (by simp)
 rw [← e76,e7]at hr
 refine ⟨o,A,n,c,e,bb,by rw [e9,e7''.2],e10,hlo,hk,hr.keep (Nat.le_refl _) (fun _ _ _=>rfl) (fun q _ hq=>fun e=>hq (by simp) (by rw [e10,e]))⟩
theorem readN_val {p dp D:Nat} {w:World} {s:ByteArray} {r:PR Tr} {x:Ending} {w':World} (h:ReadN p dp D w s r x w'):∃ v,x=.returned v:=by
 unfold ReadN at h
 cases r with
 | bad e=>obtain ⟨_,⟨o,A,n,c,h1⟩,_⟩:=h; exact ⟨_,h1⟩
 | good t r=>obtain ⟨_,⟨A,n,c,h1,_⟩,_⟩:=h; exact ⟨_,h1⟩
theorem readN_shape {p dp D:Nat} {w:World} {s:ByteArray} {r:PR Tr} {v:Value} {w':World} (h:ReadN p dp D w s r (.returned v) w'):∃ o A n c e,v=.tuple #[nodeV o (.slice A n c),e]:=by
 unfold ReadN at h
 cases r with
 | bad e=>obtain ⟨_,⟨o,A,n,c,h1⟩,_⟩:=h; exact ⟨o,A,n,c,_,by injection h1⟩
 | good t r=>obtain ⟨_,⟨A,n,c,h1,_⟩,_⟩:=h; exact ⟨_,A,n,c,_,by injection h1⟩
theorem rd_index (p m:Nat) (W:World) (h:m≤7):(Instr.index 141 (.agg (rdAll p)) (.int .i64 m)).run Tryz.prog W=.ok (rdV p m) W:=by
 rcases (by omega:m=0∨m=1∨m=2∨m=3∨m=4∨m=5∨m=6∨m=7) with rfl|rfl|rfl|rfl|rfl|rfl|rfl|rfl <;> kernel_rfl
theorem ItemRes.rd {lo p dp D sz:Nat} {res:PR Tr} {X:Nat→Prop} {v:Value} {W:World} (h:ItemRes lo p dp D sz res X v W):∃ s',RdB W p s' dp∧s'.size≤sz:=by
 unfold ItemRes at h
 cases res with
 | bad e=>exact h.2.2
 | good t r=>exact ⟨_,h.2.2⟩
theorem modI_grown {w wS W:World} {p:Nat} (hg:w.grownBy wS (some p)) (hE:ModI wS.heap.size p wS W) (hz:w.heap.size≤wS.heap.size):w.grownBy W (some p):=
 ⟨hE.os.trans hg.os,hE.tape.trans hg.tape,hE.output.trans hg.output,Nat.le_trans hg.size hE.size,fun k hk hp=>(hE.block k (by omega) (fun e=>hp (by rw [e]))).trans (hg.block k hk hp)⟩
theorem item_done {lo p dp dq D sz nb bb n c:Nat} {o:Own} {A:Option Addr} {ev:Value} {res:PR Tr} {w W:World} {s:ByteArray} {cs:Array Value} (h:ItemRes lo p dq D sz res (fun q=>q≠bb) (.tuple #[nodeV o (.slice A n c),ev]) W)
  (hg:w.grownBy ((W.setCell ⟨p,1,none⟩ (.int .i64 (dp:Int))).setRow nb cs) (some p)) (hw:w.heap.size≤lo) (hn:nb<lo) (hp:p<lo) (hne:p≠nb) (hsz:sz≤s.size) :
  ReadN p dp D w s res (.returned (.tuple #[nodeV o (.slice A n c),ev])) ((W.setCell ⟨p,1,none⟩ (.int .i64 (dp:Int))).setRow nb cs):=by
 have hz:((W.setCell ⟨p,1,none⟩ (.int .i64 (dp:Int))).setRow nb cs).heap.size=W.heap.size:=by rw [setRow_size]; simp [World.setCell]
 have hk:∀ q,q≠p→q≠nb→((W.setCell ⟨p,1,none⟩ (.int .i64 (dp:Int))).setRow nb cs).heap[q]? = W.heap[q]? := fun q h1 h2=>(setRow_other _ _ _ _ h2).trans (Below.heap_setCell W ⟨p,1,none⟩ _ q h1)
 unfold ItemRes at h
 unfold ReadN
 refine ⟨hg,?_⟩
 cases res with
 | bad e =>
  obtain ⟨⟨o2,A2,n2,c2,h1⟩,h2,s',h3,h4⟩:=h
  exact ⟨⟨o2,A2,n2,c2,by rw [h1]⟩,h2,s',blk_row_other (Blk.set h3 1 _) hne _,by omega⟩
 | good t r =>
  obtain ⟨⟨A2,n2,c2,h1,h2⟩,h3,h4,h5⟩:=h
  refine ⟨⟨A2,n2,c2,by rw [h1],(h2.keep (fun q hq=>hk q (by have:=hq.1.1; omega) (by have:=hq.1.1; omega))).mono (fun q hq=>⟨by have:=hq.1.1; omega,by rw [hz]; exact hq.1.2⟩)⟩,h3,blk_row_other (Blk.set h4 1 _) hne _,by omega⟩
set_option maxHeartbeats 8000000 in
set_option maxRecDepth 100000 in
theorem cr_item_step {w0:World} (htab:Lib.TabIs Tryz.prog w0 "internal/strconv.uint64pow10" .u64 Lib.pow10Tab) (F d:Nat) (hd:d+1≤16) (hI:ItemC w0 F d):ItemC w0 F (d+1):=by
 intro p s w hb0 hp hr hs hF hq
 obtain ⟨dp,hdp⟩:∃ dp,16 - (d+1)=dp:=⟨_,rfl⟩
 obtain ⟨dq,hdq⟩:∃ dq,16 - d=dq:=⟨_,rfl⟩
 have hdd:dp+1=dq:=by omega
 have hd16:dp<16:=by omega
 have HBODY:=Lib.hid (fun h s W (hb:Below w0.heap.size w0 W) (hR:RdB W p s (16 - d)) (q1:s.size≤1000000000) (q2:s.size<F) (q3:h.1≤7) (q4:h.2.1≤31) (q5:h.2.2<18446744073709551616) (q6:¬ ((h.1<2∨h.1=6)∧h.2.1=31)) (q7:OkS s) (q8:MajQ h.1)=>cr_body htab F d p h hI s W hb hp hR q1 q2 q7 q8 q3 q4 q5 q6)
 rw [hdp]at hr ⊢
 rw [hdq]at HBODY
 have y0:((dp:Int) == 16)=false:=by rw [beq_eq_false_iff_ne]; omega
 have y1:(dp:Int)+1=dq:=by omega
 have y2:(dq:Int) - 1=dp:=by omega
 have HS0:=cr_start p dp s
 have hsl:s.data.toList.length=s.size:=by simp
 show Calls _ _ _ _ (ReadN p dp (d+1) w s (bindP headP (fun h=>bodyP F (itemP F d) h) s.data.toList))
 have hb1:=(Below.refl w.heap.size w).alloc (Nat.le_refl _) (.cells #[.int .i64 0,.bool false,.bool false,.string ⟨#[]⟩,.int .i64 0,.int .u64 0,.int .i64 0,.string ⟨#[]⟩,.slice none 0 0] 28)
 have hk1:=Blk.new w #[.int .i64 0,.bool false,.bool false,.string ⟨#[]⟩,.int .i64 0,.int .u64 0,.int .i64 0,.string ⟨#[]⟩,.slice none 0 0] 28
 have hr1:=hr.alloc (.cells #[.int .i64 0,.bool false,.bool false,.string ⟨#[]⟩,.int .i64 0,.int .u64 0,.int .i64 0,.string ⟨#[]⟩,.slice none 0 0] 28)
 have hplt:=hr.lt
 have zr0:=hr1.cell 0
 have zr1:=hr1.cell 1
 have HS:=Lib.hid (HS0 _ hr1 hs)
 clear hI htab HS0 hdp hdq
 have hne:∃ b,s.toList.isEmpty=b:=⟨_,rfl⟩
 obtain ⟨b,hbE⟩:=hne
 cases hh:headP s.data.toList with
 | bad e =>
  have he:=errP_head _ _ hh
  rw [bindP_bad hh]
  have HS:Hid (Calls Tryz.prog 105 #[.pointer (some ⟨p,0,none⟩)] (w.alloc (.cells #[.int .i64 0,.bool false,.bool false,.string ⟨#[]⟩,.int .i64 0,.int .u64 0,.int .i64 0,.string ⟨#[]⟩,.slice none 0 0] 28)) fun x w'=>(w.alloc (.cells #[.int .i64 0,.bool false,.bool false,.string ⟨#[]⟩,.int .i64 0,.int .u64 0,.int .i64 0,.string ⟨#[]⟩,.slice none 0 0] 28)).grownBy w' (some p)∧x=.returned (.tuple #[startV (0,0,0),errW e])∧RdB w' p s dp):=Lib.hid (by
   have:=HS.out
   rw [hh]at this
   exact this)
  have HE:=Lib.hid he
  obtain ⟨ex,hex⟩:∃ x,errW e=.iface 144 x:=⟨_,errW_ne he⟩
  rw [hex]at HS
  have HEX:=Lib.hid hex
  clear hh he hex hsl hF HBODY hq
  go_enter Tryz.func68,Tryz.ntmps68
  cases b
  all_goals
   go_wp2_with fail
   refine HS.out.mono ?_
   rintro x w3 ⟨hg3,rfl,hr3⟩
   have hk3:=(RdB.grown hk1 hg3 (by omega)).alloc (.cells #[.int .i64 0,.int .i64 0,.int .u64 0] 137)
   have hr4:=hr3.alloc (.cells #[.int .i64 0,.int .i64 0,.int .u64 0] 137)
   go_wp2_with (refine wpList_store_row rfl 28 (.tmp 2) (.tmp 32) rfl (w.heap.size) #[.int .i64 0,.bool false,.bool false,.string ⟨#[]⟩,.int .i64 0,.int .u64 0,.int .i64 0,.string ⟨#[]⟩,.slice none 0 0] rfl rfl 28 _ hk3 (by kernel_rfl) rfl (by simp [Value.oneCell']) ?_)
   refine bodyPost_ret (results_cell (T:=28) rfl rfl rfl (blk_row hk3 #[.int .i64 0,.bool false,.bool false,.string ⟨#[]⟩,.int .i64 0,.int .u64 0,.int .i64 0,.string ⟨#[]⟩,.slice none 0 0]) Tryz.underlying28 rfl (by kernel_rfl)) rfl ?_
   have hgA:=grown_of (grown_trans (below_grown hb1 (some p)) hg3) ((Below.refl w3.heap.size w3).alloc (Nat.le_refl _) (.cells #[.int .i64 0,.int .i64 0,.int .u64 0] 137))
   have hgB:=grown_at hgA (grown_row _ w.heap.size #[.int .i64 0,.bool false,.bool false,.string ⟨#[]⟩,.int .i64 0,.int .u64 0,.int .i64 0,.string ⟨#[]⟩,.slice none 0 0]) (Nat.le_refl _)
   exact ⟨hgB,⟨zeroO,none,0,0,by rw [HEX.out]; rfl⟩,HE.out,s,blk_row_other hr4 (by omega) _,Nat.le_refl _⟩
 | good h r =>
  obtain ⟨hm,hi,ha⟩:=h
  obtain ⟨q1,q2,q3,q4⟩:=head_arg hh
  have q8:MajQ hm:=head_maj hq hh
  have q7:OkS (bs r):=by
   obtain ⟨own,e,_⟩:=goodP_head _ _ _ hh
   exact hq.rest e
  clear hq
  simp only []at q1 q2 q3
  rw [hsl]at q4
  rw [bindP_of hh]
  have HS:Hid (Calls Tryz.prog 105 #[.pointer (some ⟨p,0,none⟩)] (w.alloc (.cells #[.int .i64 0,.bool false,.bool false,.string ⟨#[]⟩,.int .i64 0,.int .u64 0,.int .i64 0,.string ⟨#[]⟩,.slice none 0 0] 28)) fun x w'=>(w.alloc (.cells #[.int .i64 0,.bool false,.bool false,.string ⟨#[]⟩,.int .i64 0,.int .u64 0,.int .i64 0,.string ⟨#[]⟩,.slice none 0 0] 28)).grownBy w' (some p)∧x=.returned (.tuple #[startV (hm,hi,ha),.nilIface])∧RdB w' p (bs r) dp):=Lib.hid (by
   have:=HS.out
   rw [hh]at this
   exact this)
  have hrs:(bs r).size≤s.size:=by rw [bs_size]; omega
  have hbF:=str_noneQ (s:=s) (by omega)
  clear hh hsl hbE
  have HO:=Lib.hid (fun w=>cr_isOpen hm hi ha w)
  by_cases hbad:(hm<2∨hm=6)∧hi=31
  ·have hres:bodyP F (itemP F d) (hm,hi,ha) r=.bad 110:=by
    unfold bodyP
    rw [if_pos hbad]
    rfl
   rw [hres]
   obtain ⟨hbare,rfl⟩:=hbad
   have HO:Hid (∀ w:World,Calls Tryz.prog 106 #[.agg #[.int .i64 hm,.int .i64 31,.int .u64 ha]] w fun x w'=>x=.returned (.bool true)∧Below w.heap.size w w'):=HO
   have HF:=Lib.hid (fun (W:World) (b:Nat) (hk:Blk W b #[.int .i64 110] 29)=>cr_first b 110 W hk)
   rw [if_neg (by decide)]at HF
   obtain ⟨ev,hev⟩:∃ ev,errW 110=ev:=⟨_,rfl⟩
   rw [hev]at HF
   have HEV:=Lib.hid hev
   have HRS:=Lib.hid hrs
   clear hres HBODY hF q3 q4 q7 q8 hev
   rcases hbare with hbare | hbare
   ·have y4:(hm:Int)<2:=by omega
    clear hbare
    go_enter Tryz.func68,Tryz.ntmps68
    go_wp2_with fail
    refine HS.out.mono ?_
    rintro x w3 ⟨hg3,rfl,hr3⟩
    have hk3:=(RdB.grown hk1 hg3 (by omega)).alloc (.cells #[.int .i64 hm,.int .i64 31,.int .u64 ha] 137)
    have hr4:=hr3.alloc (.cells #[.int .i64 hm,.int .i64 31,.int .u64 ha] 137)
    have hb4:=Blk.new w3 #[.int .i64 hm,.int .i64 31,.int .u64 ha] 137
    have z0:=hb4.cell 0
    have z1:=hb4.cell 1
    have z2:=hb4.cell 2
    go_wp2_with fail
    refine (HO.out _).mono ?_
    rintro x w5 ⟨rfl,hb5⟩
    have hk5:=(hk3.below hb5 hk3.lt).alloc (.cells #[.int .i64 110] 29)
    have hr5:=(hr4.below hb5 hr4.lt).alloc (.cells #[.int .i64 110] 29)
    go_wp2_with fail
    refine (HF.out _ _ (Blk.new w5 #[.int .i64 110] 29)).mono ?_
    rintro x w6 ⟨rfl,rfl⟩
    go_wp2_with (refine wpList_store_row rfl 28 (.tmp 2) (.tmp 47) rfl (w.heap.size) #[.int .i64 0,.bool false,.bool false,.string ⟨#[]⟩,.int .i64 0,.int .u64 0,.int .i64 0,.string ⟨#[]⟩,.slice none 0 0] rfl rfl 28 _ hk5 (by kernel_rfl) rfl (by simp [Value.oneCell']) ?_)
    refine bodyPost_ret (results_cell (T:=28) rfl rfl rfl (blk_row hk5 #[.int .i64 0,.bool false,.bool false,.string ⟨#[]⟩,.int .i64 0,.int .u64 0,.int .i64 0,.string ⟨#[]⟩,.slice none 0 0]) Tryz.underlying28 rfl (by kernel_rfl)) rfl ?_
    have hbX:Below w3.heap.size w3 (w5.alloc (.cells #[.int .i64 110] 29)):=(((Below.refl w3.heap.size w3).alloc (Nat.le_refl _) (.cells #[.int .i64 hm,.int .i64 31,.int .u64 ha] 137)).trans (hb5.mono (by simp))).alloc (by have:=hb5.size; rw [World.size_alloc]at this; omega) _
    have hgA:=grown_of (grown_trans (below_grown hb1 (some p)) hg3) hbX
    have hgB:=grown_at hgA (grown_row _ w.heap.size #[.int .i64 0,.bool false,.bool false,.string ⟨#[]⟩,.int .i64 0,.int .u64 0,.int .i64 0,.string ⟨#[]⟩,.slice none 0 0]) (Nat.le_refl _)
    exact ⟨hgB,⟨zeroO,none,0,0,by rw [HEV.out]; rfl⟩,by decide,bs r,blk_row_other hr5 (by omega) _,HRS.out⟩
   ·have y4:¬ (hm:Int)<2:=by omega
    have y5:((hm:Int) == 6)=true:=by rw [beq_iff_eq]; omega
    clear hbare
    go_enter Tryz.func68,Tryz.ntmps68
    go_wp2_with fail
    refine HS.out.mono ?_
    rintro x w3 ⟨hg3,rfl,hr3⟩
    have hk3:=(RdB.grown hk1 hg3 (by omega)).alloc (.cells #[.int .i64 hm,.int .i64 31,.int .u64 ha] 137)
    have hr4:=hr3.alloc (.cells #[.int .i64 hm,.int .i64 31,.int .u64 ha] 137)
    have hb4:=Blk.new w3 #[.int .i64 hm,.int .i64 31,.int .u64 ha] 137
    have z0:=hb4.cell 0
    have z1:=hb4.cell 1
    have z2:=hb4.cell 2
    go_wp2_with fail
    refine (HO.out _).mono ?_
    rintro x w5 ⟨rfl,hb5⟩
    have hk5:=(hk3.below hb5 hk3.lt).alloc (.cells #[.int .i64 110] 29)
    have hr5:=(hr4.below hb5 hr4.lt).alloc (.cells #[.int .i64 110] 29)
    go_wp2_with fail
    refine (HF.out _ _ (Blk.new w5 #[.int .i64 110] 29)).mono ?_
    rintro x w6 ⟨rfl,rfl⟩
    go_wp2_with (refine wpList_store_row rfl 28 (.tmp 2) (.tmp 47) rfl (w.heap.size) #[.int .i64 0,.bool false,.bool false,.string ⟨#[]⟩,.int .i64 0,.int .u64 0,.int .i64 0,.string ⟨#[]⟩,.slice none 0 0] rfl rfl 28 _ hk5 (by kernel_rfl) rfl (by simp [Value.oneCell']) ?_)
    refine bodyPost_ret (results_cell (T:=28) rfl rfl rfl (blk_row hk5 #[.int .i64 0,.bool false,.bool false,.string ⟨#[]⟩,.int .i64 0,.int .u64 0,.int .i64 0,.string ⟨#[]⟩,.slice none 0 0]) Tryz.underlying28 rfl (by kernel_rfl)) rfl ?_
    have hbX:Below w3.heap.size w3 (w5.alloc (.cells #[.int .i64 110] 29)):=(((Below.refl w3.heap.size w3).alloc (Nat.le_refl _) (.cells #[.int .i64 hm,.int .i64 31,.int .u64 ha] 137)).trans (hb5.mono (by simp))).alloc (by have:=hb5.size; rw [World.size_alloc]at this; omega) _
    have hgA:=grown_of (grown_trans (below_grown hb1 (some p)) hg3) hbX
    have hgB:=grown_at hgA (grown_row _ w.heap.size #[.int .i64 0,.bool false,.bool false,.string ⟨#[]⟩,.int .i64 0,.int .u64 0,.int .i64 0,.string ⟨#[]⟩,.slice none 0 0]) (Nat.le_refl _)
    exact ⟨hgB,⟨zeroO,none,0,0,by rw [HEV.out]; rfl⟩,by decide,bs r,blk_row_other hr5 (by omega) _,HRS.out⟩
  ·have HB:=Lib.hid (fun W (hb:Below w0.heap.size w0 W) (hR:RdB W p (bs r) dq)=>HBODY.out (hm,hi,ha) (bs r) W hb hR (by omega) (by omega) q1 q2 q3 hbad q7 q8)
   rw [bs_list]at HB
   obtain ⟨res,hres⟩:∃ res,bodyP F (itemP F d) (hm,hi,ha) r=res:=⟨_,rfl⟩
   rw [hres]at HB ⊢
   have HQ3:=Lib.hid q3
   clear hres HBODY hF q3 q7 q8
   have yo:((hi:Int) == 31)=decide (hi=31):=by
    by_cases h:hi=31
    ·subst h
     rfl
    ·rw [decide_eq_false h,beq_eq_false_iff_ne]
     omega
   by_cases hbare:hm<2∨hm=6
   ·have hno:¬ hi=31:=fun h=>hbad ⟨hbare,h⟩
    rw [decide_eq_false hno]at yo
    have HO:Hid (∀ w:World,Calls Tryz.prog 106 #[.agg #[.int .i64 hm,.int .i64 hi,.int .u64 ha]] w fun x w'=>x=.returned (.bool false)∧Below w.heap.size w w'):=Lib.hid (fun w=>by
     have:=HO.out w
     rw [yo]at this
     exact this)
    rcases hbare with hbare | hbare
    ·have y4:(hm:Int)<2:=by omega
     clear hbare hbad hno yo
     go_enter Tryz.func68,Tryz.ntmps68
     go_wp2_with fail
     refine HS.out.mono ?_
     rintro x w3 ⟨hg3,rfl,hr3⟩
     have hk3:=(RdB.grown hk1 hg3 (by omega)).alloc (.cells #[.int .i64 hm,.int .i64 hi,.int .u64 ha] 137)
     have hr4:=hr3.alloc (.cells #[.int .i64 hm,.int .i64 hi,.int .u64 ha] 137)
     have hb4:=Blk.new w3 #[.int .i64 hm,.int .i64 hi,.int .u64 ha] 137
     have z0:=hb4.cell 0
     have p0:=hr4.cell 0
     have p1:=hr4.cell 1
     have p2:=hr4.frozen 1
     have z1:=hb4.cell 1
     have z2:=hb4.cell 2
     have hw0:Below w0.heap.size w0 w3:=below_of_grown hb0 hp hplt (grown_trans (below_grown hb1 (some p)) hg3)
     go_wp2_with fail
     refine (HO.out _).mono ?_
     rintro x w5 ⟨rfl,hb5⟩
     have hk3:=hk3.below hb5 hk3.lt
     have hr4:=hr4.below hb5 hr4.lt
     have hb4:=hb4.below hb5 hb4.lt
     have hz5:=hb5.size
     rw [World.size_alloc]at hz5
     clear z0 z1 z2 p0 p1 p2
     have p0:=hr4.cell 0
     have p1:=hr4.cell 1
     have p2:=hr4.frozen 1
     go_wp2_with fail
     have hz3:w.heap.size+1≤w3.heap.size:=by have:=hg3.size; simpa using this
     have hg4:=grown_of (grown_trans (below_grown hb1 (some p)) hg3) (((Below.refl w3.heap.size w3).alloc (Nat.le_refl _) (.cells #[.int .i64 hm,.int .i64 hi,.int .u64 ha] 137)).trans (hb5.mono (by simp)))
     have hgS0:=grown_trans hg4 (grown_set w5 p 1 (.int .i64 (dq:Int)))
     have hrS0:RdB (w5.setCell ⟨p,1,none⟩ (.int .i64 (dq:Int))) p (bs r) dq:=Blk.set hr4 1 _
     have hknS0:=hk3.other (by omega:w.heap.size≠p) 1 (.int .i64 (dq:Int))
     have hbS0:=hb4.other (by omega:w3.heap.size≠p) 1 (.int .i64 (dq:Int))
     have hzS0:w3.heap.size+1≤(w5.setCell ⟨p,1,none⟩ (.int .i64 (dq:Int))).heap.size:=by simp [World.setCell]; omega
     obtain ⟨wS,hwS⟩:∃ wS,w5.setCell ⟨p,1,none⟩ (.int .i64 (dq:Int))=wS:=⟨_,rfl⟩
     rw [hwS]at hgS0 hrS0 hknS0 hbS0 hzS0 ⊢
     clear hwS hg4 p0 p1 p2 hb4 hr4 hk3 hr3
     have hgS:=hgS0
     have hrS:=hrS0
     have hknS:=hknS0
     have HB4:=Lib.hid hbS0
     clear hgS0 hrS0 hknS0 hbS0
     have hplo:p<wS.heap.size:=by omega
     have hnlo:w.heap.size<wS.heap.size:=by omega
     have HSZ:=Lib.hid (rfl:(bs r).size=(bs r).size)
     have HBD:=Lib.hid (fun W (hE:ModI wS.heap.size p wS W) (hR:RdB W p (bs r) dq)=>HB.out W (below_of_grown hb0 hp hplt (modI_grown hgS hE (Nat.le_of_lt hnlo))) hR)
     have hm7:hm≤7:=q1
     clear HO hw0 hb5 HB HS hg3 hk1 hr1 zr0 zr1 q2 hb1
     refine wp_region_tailG (R:=ModI wS.heap.size p) 12 (by kernel_rfl) (by kernel_rfl) (fun _=>ModI.refl _ _ _) (by kernel_rfl) (by kernel_rfl) (fun W=>ModI wS.heap.size p wS W)
      [fun env _=>env 0=ptrI p,fun env _=>env 1=.agg (rdAll p),fun env _=>env 2=.pointer (some ⟨w3.heap.size,0,none⟩),fun env _=>env 3=.int .i64 hm,fun env _=>env 4=rdV p hm,fun env _=>env 5=startV (hm,hi,ha),G6,G7,G8,G9,G10 wS.heap.size] (JI wS.heap.size p dq (d+1) (bs r).size (bs r) res) ?_ ?_ ?_ ?_ ?_ ?_
     case refine_1=>exact ModI.of_below ((Below.refl _ _).drew) (Nat.le_refl _)
     case refine_2=>exact fun env=>JI.start hrS
     case refine_3=>exact fun W W' he hr=>he.trans hr
     case refine_4 =>
      intro i o' env env' W W' ho hk _ hp _
      match i,ho with
      | 0,ho=>exact (hk 0 (.inl rfl)).symm.trans hp
      | 1,ho=>exact (hk 1 (.inl rfl)).symm.trans hp
      | 2,ho=>exact (hk 2 (.inl rfl)).symm.trans hp
      | 3,ho=>exact (hk 3 (.inl rfl)).symm.trans hp
      | 4,ho=>exact (hk 4 (.inl rfl)).symm.trans hp
      | 5,ho=>exact (hk 5 (.inl rfl)).symm.trans hp
      | 6,ho =>
       obtain ⟨o,A,n,c,e,h⟩:=show G6 env W from hp
       exact ⟨o,A,n,c,e,(hk 6 (.inl rfl)).symm.trans h⟩
      | 7,ho =>
       obtain ⟨h1,o,A,n,c,e,h⟩:=show G7 env W from hp
       cases ho
       rw [hk 7 (.inl rfl),hk 6 (.inr (by kernel_rfl))]at h1
       exact ⟨h1,o,A,n,c,e,(hk 7 (.inl rfl)).symm.trans h⟩
      | 8,ho =>
       obtain ⟨o,A,n,c,e,h1,h2⟩:=show G8 env W from hp
       cases ho
       rw [hk 7 (.inr (by kernel_rfl))]at h1
       exact ⟨o,A,n,c,e,h1,(hk 8 (.inl rfl)).symm.trans h2⟩
      | 9,ho =>
       obtain ⟨x,e,h1,h2⟩:=show G9 env W from hp
       cases ho
       rw [hk 7 (.inr (by kernel_rfl))]at h1
       exact ⟨x,e,h1,(hk 9 (.inl rfl)).symm.trans h2⟩
      | 10,ho =>
       obtain ⟨bb,h1,h2⟩:=show G10 wS.heap.size env W from hp
       exact ⟨bb,(hk 10 (.inl rfl)).symm.trans h1,h2⟩
      | n+11,ho=>exact (show True from trivial)
     case refine_5 =>
      refine flow_consG (flow_opG rfl rfl (by kernel_rfl) (by kernel_rfl) ?_) ?_
      ·intro sel env W hE hn hx hs hwt ρ hρ hc hf hg K hK
       have r0:ρ (.tmp 0)=ptrI p:=by rw [hρ]; kernel_rfl
       clear hρ hg
       simp [opLands,go_sem,r0]
       exact hK _ _ (updV_self _ _ _) (hx.other (Below.refl _ _) 0 (by decide) (by decide) (by decide) (by decide) _) (ModI.refl _ _ _)
      refine flow_consG (flow_opG rfl rfl (by kernel_rfl) (by kernel_rfl) ?_) ?_
      ·intro sel env W hE hn hx hs hwt ρ hρ hc hf hg K hK
       have r60:=(show ρ (.tmp 60)=env 0 by rw [hρ]; kernel_rfl).trans (hn 0 (hwt 0 (by kernel_rfl)))
       clear hρ hg
       refine lands_call rfl (by kernel_rfl) hf ?_
       rw [show #[Operand.tmp 60].map ρ = #[ptrI p] by simp [r60]]
       refine (cr_readers p W).mono ?_
       rintro e W' ⟨rfl,hb⟩
       exact ⟨_,rfl,hK _ _ (updV_self _ _ _) (hx.other hb 1 (by decide) (by decide) (by decide) (by decide) _) (ModI.of_below hb hE.size)⟩
      refine flow_consG (flow_opG rfl rfl (by kernel_rfl) (by kernel_rfl) ?_) ?_
      ·intro sel env W hE hn hx hs hwt ρ hρ hc hf hg K hK
       have r4:ρ (.tmp 4)=.pointer (some ⟨w3.heap.size,0,none⟩):=by rw [hρ]; kernel_rfl
       clear hρ hg
       simp [opLands,go_sem,r4]
       exact hK _ _ (updV_self _ _ _) (hx.other (Below.refl _ _) 2 (by decide) (by decide) (by decide) (by decide) _) (ModI.refl _ _ _)
      refine flow_consG (flow_opG rfl rfl (by kernel_rfl) (by kernel_rfl) ?_) ?_
      ·intro sel env W hE hn hx hs hwt ρ hρ hc hf hg K hK
       have r62:=(show ρ (.tmp 62)=env 2 by rw [hρ]; kernel_rfl).trans (hn 2 (hwt 2 (by kernel_rfl)))
       clear hρ hg
       have q0:W.cell? ⟨w3.heap.size,0,none⟩=some (.int .i64 hm):=((show Blk W w3.heap.size #[.int .i64 hm,.int .i64 hi,.int .u64 ha] 137 from (hE.block w3.heap.size HB4.out.lt (by omega)).trans HB4.out)).cell 0
       simp [opLands,go_sem,r62,q0]
       exact hK _ _ (updV_self _ _ _) (hx.other (Below.refl _ _) 3 (by decide) (by decide) (by decide) (by decide) _) (ModI.refl _ _ _)
      refine flow_consG (flow_opG rfl rfl (by kernel_rfl) (by kernel_rfl) ?_) ?_
      ·intro sel env W hE hn hx hs hwt ρ hρ hc hf hg K hK
       have r61:=(show ρ (.tmp 61)=env 1 by rw [hρ]; kernel_rfl).trans (hn 1 (hwt 1 (by kernel_rfl)))
       have r63:=(show ρ (.tmp 63)=env 3 by rw [hρ]; kernel_rfl).trans (hn 3 (hwt 3 (by kernel_rfl)))
       clear hρ hg
       have q0:=rd_index p hm W hm7
       simp [opLands,execOp,r61,r63,q0]
       exact hK _ _ (updV_self _ _ _) (hx.other (Below.refl _ _) 4 (by decide) (by decide) (by decide) (by decide) _) (ModI.refl _ _ _)
      refine flow_consG (flow_opG rfl rfl (by kernel_rfl) (by kernel_rfl) ?_) ?_
      ·intro sel env W hE hn hx hs hwt ρ hρ hc hf hg K hK
       have r4:ρ (.tmp 4)=.pointer (some ⟨w3.heap.size,0,none⟩):=by rw [hρ]; kernel_rfl
       clear hρ hg
       exact lands_load_row 137 (.tmp 4) rfl w3.heap.size r4 137 _ (0,0) _ ((hE.block w3.heap.size HB4.out.lt (by omega)).trans HB4.out) Tryz.underlying137 rfl (by kernel_rfl) (hK _ _ (updV_self _ _ _) (hx.other (Below.refl _ _) 5 (by decide) (by decide) (by decide) (by decide) _) (ModI.refl _ _ _))
      refine flow_consG (flow_opG rfl rfl (by kernel_rfl) (by kernel_rfl) ?_) ?_
      ·intro sel env W hE hn hx hs hwt ρ hρ hc hf hg K hK
       have r64:=(show ρ (.tmp 64)=env 4 by rw [hρ]; kernel_rfl).trans (hn 4 (hwt 4 (by kernel_rfl)))
       have r65:=(show ρ (.tmp 65)=env 5 by rw [hρ]; kernel_rfl).trans (hn 5 (hwt 5 (by kernel_rfl)))
       clear hρ hg
       refine lands_callV rfl (rdF_called hm hm7) r64 ?_
       rw [show #[ptrI p]++#[Operand.tmp 65].map ρ = #[ptrI p,startV (hm,hi,ha)] by simp [r65]]
       refine (HBD.out W hE (hx.c0 hs)).mono ?_
       intro x W' hr
       obtain ⟨v,rfl⟩:=readN_val hr
       exact ⟨_,rfl,hK _ _ (show G6 (updV env 6 v) W' from by obtain ⟨o,A,n,c,e,h⟩:=readN_shape hr; exact ⟨o,A,n,c,e,(updV_self _ _ _).trans h⟩) (hx.read hs hplo hE.size HSZ.out hr) (ModI.of_grown hr.1 hE.size)⟩
      refine flow_consG (flow_opG rfl rfl (by kernel_rfl) (by kernel_rfl) ?_) ?_
      ·intro sel env W hE hn hx hs hwt ρ hρ hc hf hg K hK
       obtain ⟨o6,A6,n6,c6,ev6,e66⟩:G6 env W:=(hn 6 (hwt 6 (by kernel_rfl)))
       have r66:=(show ρ (.tmp 66)=env 6 by rw [hρ]; kernel_rfl).trans e66
       clear hρ hg
       simp [opLands,go_sem,r66]
       exact hK _ _ ⟨(updV_self _ _ _).trans ((updV_ne _ _ (by decide)).trans e66).symm,o6,A6,n6,c6,ev6,updV_self _ _ _⟩ (hx.other (Below.refl _ _) 7 (by decide) (by decide) (by decide) (by decide) _) (ModI.refl _ _ _)
      refine flow_consG (flow_opG rfl rfl (by kernel_rfl) (by kernel_rfl) ?_) ?_
      ·intro sel env W hE hn hx hs hwt ρ hρ hc hf hg K hK
       obtain ⟨_,o7,A7,n7,c7,ev7,e59⟩:G7 env W:=(hn 7 (hwt 7 (by kernel_rfl)))
       have r59:=(show ρ (.tmp 59)=env 7 by rw [hρ]; kernel_rfl).trans e59
       clear hρ hg
       simp [opLands,go_sem,r59]
       exact hK _ _ ⟨o7,A7,n7,c7,ev7,(updV_ne _ _ (by decide)).trans e59,updV_self _ _ _⟩ (hx.part hs _) (ModI.refl _ _ _)
      refine flow_consG (flow_opG rfl rfl (by kernel_rfl) (by kernel_rfl) ?_) ?_
      ·intro sel env W hE hn hx hs hwt ρ hρ hc hf hg K hK
       obtain ⟨_,o7,A7,n7,c7,ev7,e59⟩:G7 env W:=(hn 7 (hwt 7 (by kernel_rfl)))
       have r59:=(show ρ (.tmp 59)=env 7 by rw [hρ]; kernel_rfl).trans e59
       clear hρ hg
       simp [opLands,go_sem,r59]
       exact hK _ _ ⟨_,ev7,(updV_ne _ _ (by decide)).trans e59,updV_self _ _ _⟩ (hx.other (Below.refl _ _) 9 (by decide) (by decide) (by decide) (by decide) _) (ModI.refl _ _ _)
      refine flow_consG (flow_opG rfl rfl (by kernel_rfl) (by kernel_rfl) ?_) ?_
      ·intro sel env W hE hn hx hs hwt ρ hρ hc hf hg K hK
       clear hρ hg
       simp [opLands,go_sem]
       exact hK _ _ ⟨W.heap.size,updV_self _ _ _,hE.size⟩ (hx.box hs hE.size) (ModI.of_below ((Below.refl _ W).alloc (Nat.le_refl _) _) hE.size)
      refine flow_consG (flow_op0G rfl rfl (by kernel_rfl) rfl ?_) flow_nilG
      ·intro sel env W hE hn hx hs hwt ρ hρ hc hf hg K hK
       obtain ⟨b10,e7,hlo10⟩:G10 wS.heap.size env W:=(hn 10 (hwt 10 (by kernel_rfl)))
       have r7:=(show ρ (.tmp 7)=env 10 by rw [hρ]; kernel_rfl).trans e7
       obtain ⟨o8,A8,n8,c8,_,_,e67⟩:G8 env W:=(hn 8 (hwt 8 (by kernel_rfl)))
       have r67:=(show ρ (.tmp 67)=env 8 by rw [hρ]; kernel_rfl).trans e67
       clear hρ hg
       have h0:=hx.c3 (hwt 10 (by kernel_rfl)) hs b10 e7
       exact lands_store_row 28 (.tmp 7) (.tmp 67) rfl b10 (cellsV o8 (.slice A8 n8 c8)) r7 r67 28 _ h0 (by kernel_rfl) rfl (by simp [cellsV,Value.oneCell']) (hK undef _ trivial (hx.store hplo (hwt 6 (by kernel_rfl)) (hwt 8 (by kernel_rfl)) (hwt 10 (by kernel_rfl)) e7 e67 h0) (ModI.of_row W _ hlo10))
     case refine_6 =>
      intro env W hE hn hx
      obtain ⟨⟨kind3,b3,neg3,dg3,ex3,u3,wd3,s3⟩,A,n,c,ev,bb,e9,e10,hlo,hkb,hres⟩:=item_rest (hn 7 (by decide)) (hn 8 (by decide)) (hn 9 (by decide)) (hn 10 (by decide)) hx
      clear hn hx HBD
      have hkn:Blk W w.heap.size #[.int .i64 0,.bool false,.bool false,.string ⟨#[]⟩,.int .i64 0,.int .u64 0,.int .i64 0,.string ⟨#[]⟩,.slice none 0 0] 28:=(hE.block w.heap.size (by omega) (by omega)).trans hknS
      obtain ⟨s',hrd,hs'⟩:=hres.rd
      have hgA:=modI_grown hgS hE (by omega)
      have HRES:=Lib.hid hres
      have hbp:bb≠p:=by omega
      have hbn:bb≠w.heap.size:=by omega
      have p1:=hrd.cell 1
      have p2:=hrd.frozen 1
      have hkb2:=hkb.other hbp 1 (.int .i64 (dp:Int))
      have hkn2:=hkn.other (by omega:w.heap.size≠p) 1 (.int .i64 (dp:Int))
      have hgB:=grown_trans hgA (grown_set W p 1 (.int .i64 (dp:Int)))
      simp only [List.take_succ_cons,List.take_zero,List.drop_succ_cons,List.drop_zero,frameAll,e9,e10]
      generalize env 0=x0
      generalize env 1=x1
      generalize env 2=x2
      generalize env 3=x3
      generalize env 4=x4
      generalize env 5=x5
      generalize env 6=x6
      generalize env 7=x7
      generalize env 8=x8
      generalize env 11=x11
      go_simp
      clear e9 e10 hE hres hkb hkn hrd
      go_wp2_with (first | (refine wpList_load_row rfl 28 (.tmp 7) rfl bb rfl 28 _ (0,0) _ hkb2 Tryz.underlying28 rfl (by kernel_rfl) ?_) | (refine wpList_store_row rfl 28 (.tmp 2) (.tmp 78) rfl (w.heap.size) (cellsV ⟨kind3,b3,neg3,dg3,ex3,u3,wd3,s3⟩ (.slice A n c)) rfl rfl 28 _ hkn2 (by kernel_rfl) rfl (by simp [cellsV,Value.oneCell']) ?_))
      refine bodyPost_ret (results_cell (T:=28) rfl rfl rfl (blk_row hkn2 _) Tryz.underlying28 rfl (by kernel_rfl)) rfl ?_
      exact item_done HRES.out (grown_at hgB (grown_row _ w.heap.size _) (Nat.le_refl _)) (by omega) (by omega) (by omega) (by omega) hrs
    ·have y4:¬ (hm:Int)<2:=by omega
     have y5:((hm:Int) == 6)=true:=by rw [beq_iff_eq]; omega
     clear hbare hbad hno yo
     go_enter Tryz.func68,Tryz.ntmps68
     go_wp2_with fail
     refine HS.out.mono ?_
     rintro x w3 ⟨hg3,rfl,hr3⟩
     have hk3:=(RdB.grown hk1 hg3 (by omega)).alloc (.cells #[.int .i64 hm,.int .i64 hi,.int .u64 ha] 137)
     have hr4:=hr3.alloc (.cells #[.int .i64 hm,.int .i64 hi,.int .u64 ha] 137)
     have hb4:=Blk.new w3 #[.int .i64 hm,.int .i64 hi,.int .u64 ha] 137
     have z0:=hb4.cell 0
     have p0:=hr4.cell 0
     have p1:=hr4.cell 1
     have p2:=hr4.frozen 1
     have z1:=hb4.cell 1
     have z2:=hb4.cell 2
     have hw0:Below w0.heap.size w0 w3:=below_of_grown hb0 hp hplt (grown_trans (below_grown hb1 (some p)) hg3)
     go_wp2_with fail
     refine (HO.out _).mono ?_
     rintro x w5 ⟨rfl,hb5⟩
     have hk3:=hk3.below hb5 hk3.lt
     have hr4:=hr4.below hb5 hr4.lt
     have hb4:=hb4.below hb5 hb4.lt
     have hz5:=hb5.size
     rw [World.size_alloc]at hz5
     clear z0 z1 z2 p0 p1 p2
     have p0:=hr4.cell 0
     have p1:=hr4.cell 1
     have p2:=hr4.frozen 1
     go_wp2_with fail
     have hz3:w.heap.size+1≤w3.heap.size:=by have:=hg3.size; simpa using this
     have hg4:=grown_of (grown_trans (below_grown hb1 (some p)) hg3) (((Below.refl w3.heap.size w3).alloc (Nat.le_refl _) (.cells #[.int .i64 hm,.int .i64 hi,.int .u64 ha] 137)).trans (hb5.mono (by simp)))
     have hgS0:=grown_trans hg4 (grown_set w5 p 1 (.int .i64 (dq:Int)))
     have hrS0:RdB (w5.setCell ⟨p,1,none⟩ (.int .i64 (dq:Int))) p (bs r) dq:=Blk.set hr4 1 _
     have hknS0:=hk3.other (by omega:w.heap.size≠p) 1 (.int .i64 (dq:Int))
     have hbS0:=hb4.other (by omega:w3.heap.size≠p) 1 (.int .i64 (dq:Int))
     have hzS0:w3.heap.size+1≤(w5.setCell ⟨p,1,none⟩ (.int .i64 (dq:Int))).heap.size:=by simp [World.setCell]; omega
     obtain ⟨wS,hwS⟩:∃ wS,w5.setCell ⟨p,1,none⟩ (.int .i64 (dq:Int))=wS:=⟨_,rfl⟩
     rw [hwS]at hgS0 hrS0 hknS0 hbS0 hzS0 ⊢
     clear hwS hg4 p0 p1 p2 hb4 hr4 hk3 hr3
     have hgS:=hgS0
     have hrS:=hrS0
     have hknS:=hknS0
     have HB4:=Lib.hid hbS0
     clear hgS0 hrS0 hknS0 hbS0
     have hplo:p<wS.heap.size:=by omega
     have hnlo:w.heap.size<wS.heap.size:=by omega
     have HSZ:=Lib.hid (rfl:(bs r).size=(bs r).size)
     have HBD:=Lib.hid (fun W (hE:ModI wS.heap.size p wS W) (hR:RdB W p (bs r) dq)=>HB.out W (below_of_grown hb0 hp hplt (modI_grown hgS hE (Nat.le_of_lt hnlo))) hR)
     have hm7:hm≤7:=q1
     clear HO hw0 hb5 HB HS hg3 hk1 hr1 zr0 zr1 q2 hb1
     refine wp_region_tailG (R:=ModI wS.heap.size p) 12 (by kernel_rfl) (by kernel_rfl) (fun _=>ModI.refl _ _ _) (by kernel_rfl) (by kernel_rfl) (fun W=>ModI wS.heap.size p wS W)
      [fun env _=>env 0=ptrI p,fun env _=>env 1=.agg (rdAll p),fun env _=>env 2=.pointer (some ⟨w3.heap.size,0,none⟩),fun env _=>env 3=.int .i64 hm,fun env _=>env 4=rdV p hm,fun env _=>env 5=startV (hm,hi,ha),G6,G7,G8,G9,G10 wS.heap.size] (JI wS.heap.size p dq (d+1) (bs r).size (bs r) res) ?_ ?_ ?_ ?_ ?_ ?_
     case refine_1=>exact ModI.of_below ((Below.refl _ _).drew) (Nat.le_refl _)
     case refine_2=>exact fun env=>JI.start hrS
     case refine_3=>exact fun W W' he hr=>he.trans hr
     case refine_4 =>
      intro i o' env env' W W' ho hk _ hp _
      match i,ho with
      | 0,ho=>exact (hk 0 (.inl rfl)).symm.trans hp
      | 1,ho=>exact (hk 1 (.inl rfl)).symm.trans hp
      | 2,ho=>exact (hk 2 (.inl rfl)).symm.trans hp
      | 3,ho=>exact (hk 3 (.inl rfl)).symm.trans hp
      | 4,ho=>exact (hk 4 (.inl rfl)).symm.trans hp
      | 5,ho=>exact (hk 5 (.inl rfl)).symm.trans hp
      | 6,ho =>
       obtain ⟨o,A,n,c,e,h⟩:=show G6 env W from hp
       exact ⟨o,A,n,c,e,(hk 6 (.inl rfl)).symm.trans h⟩
      | 7,ho =>
       obtain ⟨h1,o,A,n,c,e,h⟩:=show G7 env W from hp
       cases ho
       rw [hk 7 (.inl rfl),hk 6 (.inr (by kernel_rfl))]at h1
       exact ⟨h1,o,A,n,c,e,(hk 7 (.inl rfl)).symm.trans h⟩
      | 8,ho =>
       obtain ⟨o,A,n,c,e,h1,h2⟩:=show G8 env W from hp
       cases ho
       rw [hk 7 (.inr (by kernel_rfl))]at h1
       exact ⟨o,A,n,c,e,h1,(hk 8 (.inl rfl)).symm.trans h2⟩
      | 9,ho =>
       obtain ⟨x,e,h1,h2⟩:=show G9 env W from hp
       cases ho
       rw [hk 7 (.inr (by kernel_rfl))]at h1
       exact ⟨x,e,h1,(hk 9 (.inl rfl)).symm.trans h2⟩
      | 10,ho =>
       obtain ⟨bb,h1,h2⟩:=show G10 wS.heap.size env W from hp
       exact ⟨bb,(hk 10 (.inl rfl)).symm.trans h1,h2⟩
      | n+11,ho=>exact (show True from trivial)
     case refine_5 =>
      refine flow_consG (flow_opG rfl rfl (by kernel_rfl) (by kernel_rfl) ?_) ?_
      ·intro sel env W hE hn hx hs hwt ρ hρ hc hf hg K hK
       have r0:ρ (.tmp 0)=ptrI p:=by rw [hρ]; kernel_rfl
       clear hρ hg
       simp [opLands,go_sem,r0]
       exact hK _ _ (updV_self _ _ _) (hx.other (Below.refl _ _) 0 (by decide) (by decide) (by decide) (by decide) _) (ModI.refl _ _ _)
      refine flow_consG (flow_opG rfl rfl (by kernel_rfl) (by kernel_rfl) ?_) ?_
      ·intro sel env W hE hn hx hs hwt ρ hρ hc hf hg K hK
       have r60:=(show ρ (.tmp 60)=env 0 by rw [hρ]; kernel_rfl).trans (hn 0 (hwt 0 (by kernel_rfl)))
       clear hρ hg
       refine lands_call rfl (by kernel_rfl) hf ?_
       rw [show #[Operand.tmp 60].map ρ = #[ptrI p] by simp [r60]]
       refine (cr_readers p W).mono ?_
       rintro e W' ⟨rfl,hb⟩
       exact ⟨_,rfl,hK _ _ (updV_self _ _ _) (hx.other hb 1 (by decide) (by decide) (by decide) (by decide) _) (ModI.of_below hb hE.size)⟩
      refine flow_consG (flow_opG rfl rfl (by kernel_rfl) (by kernel_rfl) ?_) ?_
      ·intro sel env W hE hn hx hs hwt ρ hρ hc hf hg K hK
       have r4:ρ (.tmp 4)=.pointer (some ⟨w3.heap.size,0,none⟩):=by rw [hρ]; kernel_rfl
       clear hρ hg
       simp [opLands,go_sem,r4]
       exact hK _ _ (updV_self _ _ _) (hx.other (Below.refl _ _) 2 (by decide) (by decide) (by decide) (by decide) _) (ModI.refl _ _ _)
      refine flow_consG (flow_opG rfl rfl (by kernel_rfl) (by kernel_rfl) ?_) ?_
      ·intro sel env W hE hn hx hs hwt ρ hρ hc hf hg K hK
       have r62:=(show ρ (.tmp 62)=env 2 by rw [hρ]; kernel_rfl).trans (hn 2 (hwt 2 (by kernel_rfl)))
       clear hρ hg
       have q0:W.cell? ⟨w3.heap.size,0,none⟩=some (.int .i64 hm):=((show Blk W w3.heap.size #[.int .i64 hm,.int .i64 hi,.int .u64 ha] 137 from (hE.block w3.heap.size HB4.out.lt (by omega)).trans HB4.out)).cell 0
       simp [opLands,go_sem,r62,q0]
       exact hK _ _ (updV_self _ _ _) (hx.other (Below.refl _ _) 3 (by decide) (by decide) (by decide) (by decide) _) (ModI.refl _ _ _)
      refine flow_consG (flow_opG rfl rfl (by kernel_rfl) (by kernel_rfl) ?_) ?_
      ·intro sel env W hE hn hx hs hwt ρ hρ hc hf hg K hK
       have r61:=(show ρ (.tmp 61)=env 1 by rw [hρ]; kernel_rfl).trans (hn 1 (hwt 1 (by kernel_rfl)))
       have r63:=(show ρ (.tmp 63)=env 3 by rw [hρ]; kernel_rfl).trans (hn 3 (hwt 3 (by kernel_rfl)))
       clear hρ hg
       have q0:=rd_index p hm W hm7
       simp [opLands,execOp,r61,r63,q0]
       exact hK _ _ (updV_self _ _ _) (hx.other (Below.refl _ _) 4 (by decide) (by decide) (by decide) (by decide) _) (ModI.refl _ _ _)
      refine flow_consG (flow_opG rfl rfl (by kernel_rfl) (by kernel_rfl) ?_) ?_
      ·intro sel env W hE hn hx hs hwt ρ hρ hc hf hg K hK
       have r4:ρ (.tmp 4)=.pointer (some ⟨w3.heap.size,0,none⟩):=by rw [hρ]; kernel_rfl
       clear hρ hg
       exact lands_load_row 137 (.tmp 4) rfl w3.heap.size r4 137 _ (0,0) _ ((hE.block w3.heap.size HB4.out.lt (by omega)).trans HB4.out) Tryz.underlying137 rfl (by kernel_rfl) (hK _ _ (updV_self _ _ _) (hx.other (Below.refl _ _) 5 (by decide) (by decide) (by decide) (by decide) _) (ModI.refl _ _ _))
      refine flow_consG (flow_opG rfl rfl (by kernel_rfl) (by kernel_rfl) ?_) ?_
      ·intro sel env W hE hn hx hs hwt ρ hρ hc hf hg K hK
       have r64:=(show ρ (.tmp 64)=env 4 by rw [hρ]; kernel_rfl).trans (hn 4 (hwt 4 (by kernel_rfl)))
       have r65:=(show ρ (.tmp 65)=env 5 by rw [hρ]; kernel_rfl).trans (hn 5 (hwt 5 (by kernel_rfl)))
       clear hρ hg
       refine lands_callV rfl (rdF_called hm hm7) r64 ?_
       rw [show #[ptrI p]++#[Operand.tmp 65].map ρ = #[ptrI p,startV (hm,hi,ha)] by simp [r65]]
       refine (HBD.out W hE (hx.c0 hs)).mono ?_
       intro x W' hr
       obtain ⟨v,rfl⟩:=readN_val hr
       exact ⟨_,rfl,hK _ _ (show G6 (updV env 6 v) W' from by obtain ⟨o,A,n,c,e,h⟩:=readN_shape hr; exact ⟨o,A,n,c,e,(updV_self _ _ _).trans h⟩) (hx.read hs hplo hE.size HSZ.out hr) (ModI.of_grown hr.1 hE.size)⟩
      refine flow_consG (flow_opG rfl rfl (by kernel_rfl) (by kernel_rfl) ?_) ?_
      ·intro sel env W hE hn hx hs hwt ρ hρ hc hf hg K hK
       obtain ⟨o6,A6,n6,c6,ev6,e66⟩:G6 env W:=(hn 6 (hwt 6 (by kernel_rfl)))
       have r66:=(show ρ (.tmp 66)=env 6 by rw [hρ]; kernel_rfl).trans e66
       clear hρ hg
       simp [opLands,go_sem,r66]
       exact hK _ _ ⟨(updV_self _ _ _).trans ((updV_ne _ _ (by decide)).trans e66).symm,o6,A6,n6,c6,ev6,updV_self _ _ _⟩ (hx.other (Below.refl _ _) 7 (by decide) (by decide) (by decide) (by decide) _) (ModI.refl _ _ _)
      refine flow_consG (flow_opG rfl rfl (by kernel_rfl) (by kernel_rfl) ?_) ?_
      ·intro sel env W hE hn hx hs hwt ρ hρ hc hf hg K hK
       obtain ⟨_,o7,A7,n7,c7,ev7,e59⟩:G7 env W:=(hn 7 (hwt 7 (by kernel_rfl)))
       have r59:=(show ρ (.tmp 59)=env 7 by rw [hρ]; kernel_rfl).trans e59
       clear hρ hg
       simp [opLands,go_sem,r59]
       exact hK _ _ ⟨o7,A7,n7,c7,ev7,(updV_ne _ _ (by decide)).trans e59,updV_self _ _ _⟩ (hx.part hs _) (ModI.refl _ _ _)
      refine flow_consG (flow_opG rfl rfl (by kernel_rfl) (by kernel_rfl) ?_) ?_
      ·intro sel env W hE hn hx hs hwt ρ hρ hc hf hg K hK
       obtain ⟨_,o7,A7,n7,c7,ev7,e59⟩:G7 env W:=(hn 7 (hwt 7 (by kernel_rfl)))
       have r59:=(show ρ (.tmp 59)=env 7 by rw [hρ]; kernel_rfl).trans e59
       clear hρ hg
       simp [opLands,go_sem,r59]
       exact hK _ _ ⟨_,ev7,(updV_ne _ _ (by decide)).trans e59,updV_self _ _ _⟩ (hx.other (Below.refl _ _) 9 (by decide) (by decide) (by decide) (by decide) _) (ModI.refl _ _ _)
      refine flow_consG (flow_opG rfl rfl (by kernel_rfl) (by kernel_rfl) ?_) ?_
      ·intro sel env W hE hn hx hs hwt ρ hρ hc hf hg K hK
       clear hρ hg
       simp [opLands,go_sem]
       exact hK _ _ ⟨W.heap.size,updV_self _ _ _,hE.size⟩ (hx.box hs hE.size) (ModI.of_below ((Below.refl _ W).alloc (Nat.le_refl _) _) hE.size)
      refine flow_consG (flow_op0G rfl rfl (by kernel_rfl) rfl ?_) flow_nilG
      ·intro sel env W hE hn hx hs hwt ρ hρ hc hf hg K hK
       obtain ⟨b10,e7,hlo10⟩:G10 wS.heap.size env W:=(hn 10 (hwt 10 (by kernel_rfl)))
       have r7:=(show ρ (.tmp 7)=env 10 by rw [hρ]; kernel_rfl).trans e7
       obtain ⟨o8,A8,n8,c8,_,_,e67⟩:G8 env W:=(hn 8 (hwt 8 (by kernel_rfl)))
       have r67:=(show ρ (.tmp 67)=env 8 by rw [hρ]; kernel_rfl).trans e67
       clear hρ hg
       have h0:=hx.c3 (hwt 10 (by kernel_rfl)) hs b10 e7
       exact lands_store_row 28 (.tmp 7) (.tmp 67) rfl b10 (cellsV o8 (.slice A8 n8 c8)) r7 r67 28 _ h0 (by kernel_rfl) rfl (by simp [cellsV,Value.oneCell']) (hK undef _ trivial (hx.store hplo (hwt 6 (by kernel_rfl)) (hwt 8 (by kernel_rfl)) (hwt 10 (by kernel_rfl)) e7 e67 h0) (ModI.of_row W _ hlo10))
     case refine_6 =>
      intro env W hE hn hx
      obtain ⟨⟨kind3,b3,neg3,dg3,ex3,u3,wd3,s3⟩,A,n,c,ev,bb,e9,e10,hlo,hkb,hres⟩:=item_rest (hn 7 (by decide)) (hn 8 (by decide)) (hn 9 (by decide)) (hn 10 (by decide)) hx
      clear hn hx HBD
      have hkn:Blk W w.heap.size #[.int .i64 0,.bool false,.bool false,.string ⟨#[]⟩,.int .i64 0,.int .u64 0,.int .i64 0,.string ⟨#[]⟩,.slice none 0 0] 28:=(hE.block w.heap.size (by omega) (by omega)).trans hknS
      obtain ⟨s',hrd,hs'⟩:=hres.rd
      have hgA:=modI_grown hgS hE (by omega)
      have HRES:=Lib.hid hres
      have hbp:bb≠p:=by omega
      have hbn:bb≠w.heap.size:=by omega
      have p1:=hrd.cell 1
      have p2:=hrd.frozen 1
      have hkb2:=hkb.other hbp 1 (.int .i64 (dp:Int))
      have hkn2:=hkn.other (by omega:w.heap.size≠p) 1 (.int .i64 (dp:Int))
      have hgB:=grown_trans hgA (grown_set W p 1 (.int .i64 (dp:Int)))
      simp only [List.take_succ_cons,List.take_zero,List.drop_succ_cons,List.drop_zero,frameAll,e9,e10]
      generalize env 0=x0
      generalize env 1=x1
      generalize env 2=x2
      generalize env 3=x3
      generalize env 4=x4
      generalize env 5=x5
      generalize env 6=x6
      generalize env 7=x7
      generalize env 8=x8
      generalize env 11=x11
      go_simp
      clear e9 e10 hE hres hkb hkn hrd
      go_wp2_with (first | (refine wpList_load_row rfl 28 (.tmp 7) rfl bb rfl 28 _ (0,0) _ hkb2 Tryz.underlying28 rfl (by kernel_rfl) ?_) | (refine wpList_store_row rfl 28 (.tmp 2) (.tmp 78) rfl (w.heap.size) (cellsV ⟨kind3,b3,neg3,dg3,ex3,u3,wd3,s3⟩ (.slice A n c)) rfl rfl 28 _ hkn2 (by kernel_rfl) rfl (by simp [cellsV,Value.oneCell']) ?_))
      refine bodyPost_ret (results_cell (T:=28) rfl rfl rfl (blk_row hkn2 _) Tryz.underlying28 rfl (by kernel_rfl)) rfl ?_
      exact item_done HRES.out (grown_at hgB (grown_row _ w.heap.size _) (Nat.le_refl _)) (by omega) (by omega) (by omega) (by omega) hrs
   ·have y4:¬ (hm:Int)<2:=by omega
    have y5:((hm:Int) == 6)=false:=by rw [beq_eq_false_iff_ne]; omega
    clear hbare hbad yo
    go_enter Tryz.func68,Tryz.ntmps68
    go_wp2_with fail
    refine HS.out.mono ?_
    rintro x w3 ⟨hg3,rfl,hr3⟩
    have hk3:=(RdB.grown hk1 hg3 (by omega)).alloc (.cells #[.int .i64 hm,.int .i64 hi,.int .u64 ha] 137)
    have hr4:=hr3.alloc (.cells #[.int .i64 hm,.int .i64 hi,.int .u64 ha] 137)
    have hb4:=Blk.new w3 #[.int .i64 hm,.int .i64 hi,.int .u64 ha] 137
    have z0:=hb4.cell 0
    have p0:=hr4.cell 0
    have p1:=hr4.cell 1
    have p2:=hr4.frozen 1
    go_wp2_with fail
    have hz3:w.heap.size+1≤w3.heap.size:=by have:=hg3.size; simpa using this
    have hg4:=grown_of (grown_trans (below_grown hb1 (some p)) hg3) ((Below.refl w3.heap.size w3).alloc (Nat.le_refl _) (.cells #[.int .i64 hm,.int .i64 hi,.int .u64 ha] 137))
    have hgS0:=grown_trans hg4 (grown_set (w3.alloc (.cells #[.int .i64 hm,.int .i64 hi,.int .u64 ha] 137)) p 1 (.int .i64 (dq:Int)))
    have hrS0:RdB ((w3.alloc (.cells #[.int .i64 hm,.int .i64 hi,.int .u64 ha] 137)).setCell ⟨p,1,none⟩ (.int .i64 (dq:Int))) p (bs r) dq:=Blk.set hr4 1 _
    have hknS0:=hk3.other (by omega:w.heap.size≠p) 1 (.int .i64 (dq:Int))
    have hbS0:=hb4.other (by omega:w3.heap.size≠p) 1 (.int .i64 (dq:Int))
    have hzS0:((w3.alloc (.cells #[.int .i64 hm,.int .i64 hi,.int .u64 ha] 137)).setCell ⟨p,1,none⟩ (.int .i64 (dq:Int))).heap.size=w3.heap.size+1:=by simp [World.setCell]
    obtain ⟨wS,hwS⟩:∃ wS,(w3.alloc (.cells #[.int .i64 hm,.int .i64 hi,.int .u64 ha] 137)).setCell ⟨p,1,none⟩ (.int .i64 (dq:Int))=wS:=⟨_,rfl⟩
    rw [hwS]at hgS0 hrS0 hknS0 hbS0 hzS0 ⊢
    clear hwS hg4 p0 p1 p2 z0 hb4 hr4 hk3 hr3
    have hgS:=hgS0
    have hrS:=hrS0
    have hknS:=hknS0
    have HB4:=Lib.hid hbS0
    clear hgS0 hrS0 hknS0 hbS0
    have hplo:p<wS.heap.size:=by omega
    have hnlo:w.heap.size<wS.heap.size:=by omega
    have HSZ:=Lib.hid (rfl:(bs r).size=(bs r).size)
    have HBD:=Lib.hid (fun W (hE:ModI wS.heap.size p wS W) (hR:RdB W p (bs r) dq)=>HB.out W (below_of_grown hb0 hp hplt (modI_grown hgS hE (Nat.le_of_lt hnlo))) hR)
    have hm7:hm≤7:=q1
    clear HO HB HS hg3 hk1 hr1 zr0 zr1 q2 hb1
    refine wp_region_tailG (R:=ModI wS.heap.size p) 12 (by kernel_rfl) (by kernel_rfl) (fun _=>ModI.refl _ _ _) (by kernel_rfl) (by kernel_rfl) (fun W=>ModI wS.heap.size p wS W)
     [fun env _=>env 0=ptrI p,fun env _=>env 1=.agg (rdAll p),fun env _=>env 2=.pointer (some ⟨w3.heap.size,0,none⟩),fun env _=>env 3=.int .i64 hm,fun env _=>env 4=rdV p hm,fun env _=>env 5=startV (hm,hi,ha),G6,G7,G8,G9,G10 wS.heap.size] (JI wS.heap.size p dq (d+1) (bs r).size (bs r) res) ?_ ?_ ?_ ?_ ?_ ?_
    case refine_1=>exact ModI.of_below ((Below.refl _ _).drew) (Nat.le_refl _)
    case refine_2=>exact fun env=>JI.start hrS
    case refine_3=>exact fun W W' he hr=>he.trans hr
    case refine_4 =>
     intro i o' env env' W W' ho hk _ hp _
     match i,ho with
     | 0,ho=>exact (hk 0 (.inl rfl)).symm.trans hp
     | 1,ho=>exact (hk 1 (.inl rfl)).symm.trans hp
     | 2,ho=>exact (hk 2 (.inl rfl)).symm.trans hp
     | 3,ho=>exact (hk 3 (.inl rfl)).symm.trans hp
     | 4,ho=>exact (hk 4 (.inl rfl)).symm.trans hp
     | 5,ho=>exact (hk 5 (.inl rfl)).symm.trans hp
     | 6,ho =>
      obtain ⟨o,A,n,c,e,h⟩:=show G6 env W from hp
      exact ⟨o,A,n,c,e,(hk 6 (.inl rfl)).symm.trans h⟩
     | 7,ho =>
      obtain ⟨h1,o,A,n,c,e,h⟩:=show G7 env W from hp
      cases ho
      rw [hk 7 (.inl rfl),hk 6 (.inr (by kernel_rfl))]at h1
      exact ⟨h1,o,A,n,c,e,(hk 7 (.inl rfl)).symm.trans h⟩
     | 8,ho =>
      obtain ⟨o,A,n,c,e,h1,h2⟩:=show G8 env W from hp
      cases ho
      rw [hk 7 (.inr (by kernel_rfl))]at h1
      exact ⟨o,A,n,c,e,h1,(hk 8 (.inl rfl)).symm.trans h2⟩
     | 9,ho =>
      obtain ⟨x,e,h1,h2⟩:=show G9 env W from hp
      cases ho
      rw [hk 7 (.inr (by kernel_rfl))]at h1
      exact ⟨x,e,h1,(hk 9 (.inl rfl)).symm.trans h2⟩
     | 10,ho =>
      obtain ⟨bb,h1,h2⟩:=show G10 wS.heap.size env W from hp
      exact ⟨bb,(hk 10 (.inl rfl)).symm.trans h1,h2⟩
     | n+11,ho=>exact (show True from trivial)
    case refine_5 =>
     refine flow_consG (flow_opG rfl rfl (by kernel_rfl) (by kernel_rfl) ?_) ?_
     ·intro sel env W hE hn hx hs hwt ρ hρ hc hf hg K hK
      have r0:ρ (.tmp 0)=ptrI p:=by rw [hρ]; kernel_rfl
      clear hρ hg
      simp [opLands,go_sem,r0]
      exact hK _ _ (updV_self _ _ _) (hx.other (Below.refl _ _) 0 (by decide) (by decide) (by decide) (by decide) _) (ModI.refl _ _ _)
     refine flow_consG (flow_opG rfl rfl (by kernel_rfl) (by kernel_rfl) ?_) ?_
     ·intro sel env W hE hn hx hs hwt ρ hρ hc hf hg K hK
      have r60:=(show ρ (.tmp 60)=env 0 by rw [hρ]; kernel_rfl).trans (hn 0 (hwt 0 (by kernel_rfl)))
      clear hρ hg
      refine lands_call rfl (by kernel_rfl) hf ?_
      rw [show #[Operand.tmp 60].map ρ = #[ptrI p] by simp [r60]]
      refine (cr_readers p W).mono ?_
      rintro e W' ⟨rfl,hb⟩
      exact ⟨_,rfl,hK _ _ (updV_self _ _ _) (hx.other hb 1 (by decide) (by decide) (by decide) (by decide) _) (ModI.of_below hb hE.size)⟩
     refine flow_consG (flow_opG rfl rfl (by kernel_rfl) (by kernel_rfl) ?_) ?_
     ·intro sel env W hE hn hx hs hwt ρ hρ hc hf hg K hK
      have r4:ρ (.tmp 4)=.pointer (some ⟨w3.heap.size,0,none⟩):=by rw [hρ]; kernel_rfl
      clear hρ hg
      simp [opLands,go_sem,r4]
      exact hK _ _ (updV_self _ _ _) (hx.other (Below.refl _ _) 2 (by decide) (by decide) (by decide) (by decide) _) (ModI.refl _ _ _)
     refine flow_consG (flow_opG rfl rfl (by kernel_rfl) (by kernel_rfl) ?_) ?_
     ·intro sel env W hE hn hx hs hwt ρ hρ hc hf hg K hK
      have r62:=(show ρ (.tmp 62)=env 2 by rw [hρ]; kernel_rfl).trans (hn 2 (hwt 2 (by kernel_rfl)))
      clear hρ hg
      have q0:W.cell? ⟨w3.heap.size,0,none⟩=some (.int .i64 hm):=((show Blk W w3.heap.size #[.int .i64 hm,.int .i64 hi,.int .u64 ha] 137 from (hE.block w3.heap.size HB4.out.lt (by omega)).trans HB4.out)).cell 0
      simp [opLands,go_sem,r62,q0]
      exact hK _ _ (updV_self _ _ _) (hx.other (Below.refl _ _) 3 (by decide) (by decide) (by decide) (by decide) _) (ModI.refl _ _ _)
     refine flow_consG (flow_opG rfl rfl (by kernel_rfl) (by kernel_rfl) ?_) ?_
     ·intro sel env W hE hn hx hs hwt ρ hρ hc hf hg K hK
      have r61:=(show ρ (.tmp 61)=env 1 by rw [hρ]; kernel_rfl).trans (hn 1 (hwt 1 (by kernel_rfl)))
      have r63:=(show ρ (.tmp 63)=env 3 by rw [hρ]; kernel_rfl).trans (hn 3 (hwt 3 (by kernel_rfl)))
      clear hρ hg
      have q0:=rd_index p hm W hm7
      simp [opLands,execOp,r61,r63,q0]
      exact hK _ _ (updV_self _ _ _) (hx.other (Below.refl _ _) 4 (by decide) (by decide) (by decide) (by decide) _) (ModI.refl _ _ _)
     refine flow_consG (flow_opG rfl rfl (by kernel_rfl) (by kernel_rfl) ?_) ?_
     ·intro sel env W hE hn hx hs hwt ρ hρ hc hf hg K hK
      have r4:ρ (.tmp 4)=.pointer (some ⟨w3.heap.size,0,none⟩):=by rw [hρ]; kernel_rfl
      clear hρ hg
      exact lands_load_row 137 (.tmp 4) rfl w3.heap.size r4 137 _ (0,0) _ ((hE.block w3.heap.size HB4.out.lt (by omega)).trans HB4.out) Tryz.underlying137 rfl (by kernel_rfl) (hK _ _ (updV_self _ _ _) (hx.other (Below.refl _ _) 5 (by decide) (by decide) (by decide) (by decide) _) (ModI.refl _ _ _))
     refine flow_consG (flow_opG rfl rfl (by kernel_rfl) (by kernel_rfl) ?_) ?_
     ·intro sel env W hE hn hx hs hwt ρ hρ hc hf hg K hK
      have r64:=(show ρ (.tmp 64)=env 4 by rw [hρ]; kernel_rfl).trans (hn 4 (hwt 4 (by kernel_rfl)))
      have r65:=(show ρ (.tmp 65)=env 5 by rw [hρ]; kernel_rfl).trans (hn 5 (hwt 5 (by kernel_rfl)))
      clear hρ hg
      refine lands_callV rfl (rdF_called hm hm7) r64 ?_
      rw [show #[ptrI p]++#[Operand.tmp 65].map ρ = #[ptrI p,startV (hm,hi,ha)] by simp [r65]]
      refine (HBD.out W hE (hx.c0 hs)).mono ?_
      intro x W' hr
      obtain ⟨v,rfl⟩:=readN_val hr
      exact ⟨_,rfl,hK _ _ (show G6 (updV env 6 v) W' from by obtain ⟨o,A,n,c,e,h⟩:=readN_shape hr; exact ⟨o,A,n,c,e,(updV_self _ _ _).trans h⟩) (hx.read hs hplo hE.size HSZ.out hr) (ModI.of_grown hr.1 hE.size)⟩
     refine flow_consG (flow_opG rfl rfl (by kernel_rfl) (by kernel_rfl) ?_) ?_
     ·intro sel env W hE hn hx hs hwt ρ hρ hc hf hg K hK
      obtain ⟨o6,A6,n6,c6,ev6,e66⟩:G6 env W:=(hn 6 (hwt 6 (by kernel_rfl)))
      have r66:=(show ρ (.tmp 66)=env 6 by rw [hρ]; kernel_rfl).trans e66
      clear hρ hg
      simp [opLands,go_sem,r66]
      exact hK _ _ ⟨(updV_self _ _ _).trans ((updV_ne _ _ (by decide)).trans e66).symm,o6,A6,n6,c6,ev6,updV_self _ _ _⟩ (hx.other (Below.refl _ _) 7 (by decide) (by decide) (by decide) (by decide) _) (ModI.refl _ _ _)
     refine flow_consG (flow_opG rfl rfl (by kernel_rfl) (by kernel_rfl) ?_) ?_
     ·intro sel env W hE hn hx hs hwt ρ hρ hc hf hg K hK
      obtain ⟨_,o7,A7,n7,c7,ev7,e59⟩:G7 env W:=(hn 7 (hwt 7 (by kernel_rfl)))
      have r59:=(show ρ (.tmp 59)=env 7 by rw [hρ]; kernel_rfl).trans e59
      clear hρ hg
      simp [opLands,go_sem,r59]
      exact hK _ _ ⟨o7,A7,n7,c7,ev7,(updV_ne _ _ (by decide)).trans e59,updV_self _ _ _⟩ (hx.part hs _) (ModI.refl _ _ _)
     refine flow_consG (flow_opG rfl rfl (by kernel_rfl) (by kernel_rfl) ?_) ?_
     ·intro sel env W hE hn hx hs hwt ρ hρ hc hf hg K hK
      obtain ⟨_,o7,A7,n7,c7,ev7,e59⟩:G7 env W:=(hn 7 (hwt 7 (by kernel_rfl)))
      have r59:=(show ρ (.tmp 59)=env 7 by rw [hρ]; kernel_rfl).trans e59
      clear hρ hg
      simp [opLands,go_sem,r59]
      exact hK _ _ ⟨_,ev7,(updV_ne _ _ (by decide)).trans e59,updV_self _ _ _⟩ (hx.other (Below.refl _ _) 9 (by decide) (by decide) (by decide) (by decide) _) (ModI.refl _ _ _)
     refine flow_consG (flow_opG rfl rfl (by kernel_rfl) (by kernel_rfl) ?_) ?_
     ·intro sel env W hE hn hx hs hwt ρ hρ hc hf hg K hK
      clear hρ hg
      simp [opLands,go_sem]
      exact hK _ _ ⟨W.heap.size,updV_self _ _ _,hE.size⟩ (hx.box hs hE.size) (ModI.of_below ((Below.refl _ W).alloc (Nat.le_refl _) _) hE.size)
     refine flow_consG (flow_op0G rfl rfl (by kernel_rfl) rfl ?_) flow_nilG
     ·intro sel env W hE hn hx hs hwt ρ hρ hc hf hg K hK
      obtain ⟨b10,e7,hlo10⟩:G10 wS.heap.size env W:=(hn 10 (hwt 10 (by kernel_rfl)))
      have r7:=(show ρ (.tmp 7)=env 10 by rw [hρ]; kernel_rfl).trans e7
      obtain ⟨o8,A8,n8,c8,_,_,e67⟩:G8 env W:=(hn 8 (hwt 8 (by kernel_rfl)))
      have r67:=(show ρ (.tmp 67)=env 8 by rw [hρ]; kernel_rfl).trans e67
      clear hρ hg
      have h0:=hx.c3 (hwt 10 (by kernel_rfl)) hs b10 e7
      exact lands_store_row 28 (.tmp 7) (.tmp 67) rfl b10 (cellsV o8 (.slice A8 n8 c8)) r7 r67 28 _ h0 (by kernel_rfl) rfl (by simp [cellsV,Value.oneCell']) (hK undef _ trivial (hx.store hplo (hwt 6 (by kernel_rfl)) (hwt 8 (by kernel_rfl)) (hwt 10 (by kernel_rfl)) e7 e67 h0) (ModI.of_row W _ hlo10))
    case refine_6 =>
     intro env W hE hn hx
     obtain ⟨⟨kind3,b3,neg3,dg3,ex3,u3,wd3,s3⟩,A,n,c,ev,bb,e9,e10,hlo,hkb,hres⟩:=item_rest (hn 7 (by decide)) (hn 8 (by decide)) (hn 9 (by decide)) (hn 10 (by decide)) hx
     clear hn hx HBD
     have hkn:Blk W w.heap.size #[.int .i64 0,.bool false,.bool false,.string ⟨#[]⟩,.int .i64 0,.int .u64 0,.int .i64 0,.string ⟨#[]⟩,.slice none 0 0] 28:=(hE.block w.heap.size (by omega) (by omega)).trans hknS
     obtain ⟨s',hrd,hs'⟩:=hres.rd
     have hgA:=modI_grown hgS hE (by omega)
     have HRES:=Lib.hid hres
     have hbp:bb≠p:=by omega
     have hbn:bb≠w.heap.size:=by omega
     have p1:=hrd.cell 1
     have p2:=hrd.frozen 1
     have hkb2:=hkb.other hbp 1 (.int .i64 (dp:Int))
     have hkn2:=hkn.other (by omega:w.heap.size≠p) 1 (.int .i64 (dp:Int))
     have hgB:=grown_trans hgA (grown_set W p 1 (.int .i64 (dp:Int)))
     simp only [List.take_succ_cons,List.take_zero,List.drop_succ_cons,List.drop_zero,frameAll,e9,e10]
     generalize env 0=x0
     generalize env 1=x1
     generalize env 2=x2
     generalize env 3=x3
     generalize env 4=x4
     generalize env 5=x5
     generalize env 6=x6
     generalize env 7=x7
     generalize env 8=x8
     generalize env 11=x11
     go_simp
     clear e9 e10 hE hres hkb hkn hrd
     go_wp2_with (first | (refine wpList_load_row rfl 28 (.tmp 7) rfl bb rfl 28 _ (0,0) _ hkb2 Tryz.underlying28 rfl (by kernel_rfl) ?_) | (refine wpList_store_row rfl 28 (.tmp 2) (.tmp 78) rfl (w.heap.size) (cellsV ⟨kind3,b3,neg3,dg3,ex3,u3,wd3,s3⟩ (.slice A n c)) rfl rfl 28 _ hkn2 (by kernel_rfl) rfl (by simp [cellsV,Value.oneCell']) ?_))
     refine bodyPost_ret (results_cell (T:=28) rfl rfl rfl (blk_row hkn2 _) Tryz.underlying28 rfl (by kernel_rfl)) rfl ?_
     exact item_done HRES.out (grown_at hgB (grown_row _ w.heap.size _) (Nat.le_refl _)) (by omega) (by omega) (by omega) (by omega) hrs
end Go.Proofs.YtonihophanmaaaaGreatDoor
