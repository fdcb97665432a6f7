/- The texts CrV, put together. -/
import Derived.Test.YtonihophanmaaaaGreatDoorPa42
import Derived.Test.YtonihophanmaaaaGreatDoorPa32
import Derived.Test.YtonihophanmaaaaGreatDoorPa40
namespace Go.Proofs.YtonihophanmaaaaGreatDoor
open Go.RowKit Go.Shelf
attribute [local go_sem] Oper.semAt_some
def rdF (m:Nat):FuncId:=if m=0 then 144 else if m=1 then 145 else if m≤3 then 146 else if m≤5 then 147 else if m=6 then 148 else 149
def rdV (p m:Nat):Value:=.func (.func (rdF m)) #[.pointer (some ⟨p,0,none⟩)] #[]
abbrev rdAll (p:Nat):Array Value:=#[rdV p 0,rdV p 1,rdV p 2,rdV p 3,rdV p 4,rdV p 5,rdV p 6,rdV p 7]
theorem rdF_called (m:Nat) (h:m≤7):calledB Tryz.prog (rdF m)=true:=by
 rcases (by omega:m=0∨m=1∨m=2∨m=3∨m=4∨m=5∨m=6∨m=7) with rfl|rfl|rfl|rfl|rfl|rfl|rfl|rfl <;> kernel_rfl
theorem cr_readers (p:Nat) (w:World) :
  Calls Tryz.prog 107 #[.pointer (some ⟨p,0,none⟩)] w fun x w'=>x=.returned (.agg (rdAll p))∧Below w.heap.size w w':=by
 have hk:=Blk.new w (Array.replicate 8 .nilFunc) 141
 have hb:=(Below.refl w.heap.size w).alloc (Nat.le_refl _) (.cells (Array.replicate 8 .nilFunc) 141)
 go_enter Tryz.func107,Tryz.ntmps107
 go_wp2_with (refine wpList_store_row rfl 141 (.tmp 2) (.tmp 19) rfl (w.heap.size) (rdAll p) rfl rfl 141 _ hk (by kernel_rfl) rfl (by simp [Value.oneCell',rdV]) ?_)
 exact bodyPost_ret (results_one (T:=141) (b:=w.heap.size) rfl rfl (blk_row hk _) Tryz.underlying141 rfl (by kernel_rfl)) rfl ⟨rfl,hb.grown (grown_row _ _ _) hb.size (fun q e=>by cases e; omega)⟩
theorem ReadN.up {p d D D':Nat} {w:World} {s:ByteArray} {r:PR Tr} {x:Ending} {w':World} (hD:D≤D') (h:ReadN p d D w s r x w'):ReadN p d D' w s r x w':=by
 unfold ReadN at h ⊢
 cases r with
 | bad e=>exact h
 | good t r =>
  obtain ⟨h1,⟨A,n,c,h2,h3⟩,h4⟩:=h
  exact ⟨h1,⟨A,n,c,h2,h3.deeper hD⟩,h4⟩
theorem cr_body {w0:World} (_:Lib.TabIs Tryz.prog w0 "internal/strconv.uint64pow10" .u64 Lib.pow10Tab) (F d p:Nat) (h:Nat×Nat×Nat) (hI:ItemC w0 F d) (s:ByteArray) (w:World) (hb0:Below w0.heap.size w0 w) (hp:w0.heap.size≤p)
  (hr:RdB w p s (16 - d)) (hs:s.size≤1000000000) (hF:s.size<F) (hq:OkS s) (hmj:MajQ h.1) (h1:h.1≤7) (h2:h.2.1≤31) (h3:h.2.2<18446744073709551616) (hbare:¬ ((h.1<2∨h.1=6)∧h.2.1=31)) :
  Calls Tryz.prog (rdF h.1) #[.pointer (some ⟨p,0,none⟩),startV h] w (ReadN p (16 - d) (d+1) w s (bodyP F (itemP F d) h s.data.toList)):=by
 obtain ⟨hm,hi,ha⟩:=h
 simp only []at h1 h2 h3 hbare
 unfold bodyP
 simp only []
 rw [if_neg hbare]
 rcases hmj with rfl|rfl|rfl
 ·exact (cr_str F p (16 - d) 3 hi ha (.inr rfl) s w hr hs hF).mono fun x w' q=>q.up (Nat.zero_le _)
 ·exact cr_list5 F d p hi ha hI s w hb0 hp hr hs hF hq h3
 ·exact (cr_other p (16 - d) (7,hi,ha) s w hr h2 h3).mono fun x w' q=>q.up (Nat.zero_le _)
theorem lands_callV {P:Program} {o:Oper} {ρ:Operand→Value} {w:World} {R:Value→World→Prop} {f:FuncId} {t:Tmp} {args:Array Operand} {ats:Array TypeId} {b:Value}
  (hop:o.op=.call { callee:=.value (.tmp t),args,argTypes:=ats }) (hb:calledB P f=true) (hf:ρ (.tmp t)=.func (.func f) #[b] #[])
  (h:Calls P f (#[b]++args.map ρ) w fun e w''=>∃ v,e=.returned v∧R v w''):opLands P o ρ w R:=by
 have hrun:(execOp ρ o).run P w=.ok (.enter f (#[b]++args.map ρ)) w:=by
  unfold calledB at hb
  cases hq:P.funcs[f]? with
  | none=>rw [hq]at hb; cases hb
  | some fn =>
   rw [hq]at hb
   simp only [Bool.and_eq_true,Bool.not_eq_true',beq_eq_false_iff_ne,ne_eq]at hb
   have h2:¬ fn.body=none:=by cases hx:fn.body <;> simp_all
   unfold execOp
   simp [hop,resolve,Deferred.ofValue,invoke,callFunc,hq,hb.1,h2,hf]
 unfold opLands
 rw [hrun]
 exact h
structure ModI (lo p:Nat) (A B:World):Prop where
 os:B.os=A.os
 tape:B.tape=A.tape
 output:B.output=A.output
 size:A.heap.size≤B.heap.size
 block:∀ k,k<lo→k≠p→B.heap[k]? = A.heap[k]?
theorem ModI.refl (lo p:Nat) (A:World):ModI lo p A A:=⟨rfl,rfl,rfl,Nat.le_refl _,fun _ _ _=>rfl⟩
theorem ModI.trans {lo p:Nat} {A B C:World} (h:ModI lo p A B) (k:ModI lo p B C):ModI lo p A C:=
 ⟨k.os.trans h.os,k.tape.trans h.tape,k.output.trans h.output,Nat.le_trans h.size k.size,fun i hi hp=>(k.block i hi hp).trans (h.block i hi hp)⟩
theorem ModI.of_grown {lo p:Nat} {A B:World} (h:A.grownBy B (some p)) (hl:lo≤A.heap.size):ModI lo p A B:=
 ⟨h.os,h.tape,h.output,h.size,fun k hk hp=>h.block k (by omega) (fun e=>hp (by injection e))⟩
theorem ModI.of_below {lo p:Nat} {A B:World} (h:Below A.heap.size A B) (hl:lo≤A.heap.size):ModI lo p A B:=.of_grown (below_grown h _) hl
theorem ModI.of_row {lo p g:Nat} (A:World) (cs:Array Value) (hg:lo≤g):ModI lo p A (A.setRow g cs):=
 ⟨rfl,rfl,rfl,by rw [setRow_size]; exact Nat.le_refl _,fun k hk _=>setRow_other _ _ _ _ (by omega)⟩
def ItemRes (lo p dp D sz:Nat) (res:PR Tr) (X:Nat→Prop) (v:Value) (W:World):Prop:=match res with
 | .good t r=>(∃ A n c,v=.tuple #[nodeV t.own (.slice A n c),.nilIface]∧LAt W (fun q=>(lo≤q∧q<W.heap.size)∧X q) D t.kids (.slice A n c))∧OwnOk t.own∧RdB W p (bs r) dp∧(bs r).size≤sz
 | .bad e=>(∃ o A n c,v=.tuple #[nodeV o (.slice A n c),errW e])∧e≠0∧∃ s',RdB W p s' dp∧s'.size≤sz
theorem ItemRes.keep {lo p dp D sz:Nat} {res:PR Tr} {X X':Nat→Prop} {v:Value} {W W':World} (h:ItemRes lo p dp D sz res X v W) (hz:W.heap.size≤W'.heap.size)
  (hk:∀ q,q<W.heap.size→(q=p∨(lo≤q∧X q))→W'.heap[q]? = W.heap[q]?) (hX:∀ q,q<W.heap.size→X q→X' q):ItemRes lo p dp D sz res X' v W':=by
 unfold ItemRes at h ⊢
 cases res with
 | bad e =>
  obtain ⟨h1,h2,s',h3,h4⟩:=h
  exact ⟨h1,h2,s',(hk p h3.lt (.inl rfl)).trans h3,h4⟩
 | good t r =>
  obtain ⟨⟨A,n,c,h1,h2⟩,h3,h4,h5⟩:=h
  exact ⟨⟨A,n,c,h1,(h2.keep (fun q hq=>hk q hq.1.2 (.inr ⟨hq.1.1,hq.2⟩))).mono (fun q hq=>⟨⟨hq.1.1,Nat.lt_of_lt_of_le hq.1.2 hz⟩,hX q hq.1.2 hq.2⟩)⟩,h3,(hk p h4.lt (.inl rfl)).trans h4,h5⟩
theorem ItemRes.of_read {lo p dp D:Nat} {w:World} {s:ByteArray} {res:PR Tr} {v:Value} {w':World} {X:Nat→Prop} (h:ReadN p dp D w s res (.returned v) w') (hl:lo≤w.heap.size) (hX:∀ q,w.heap.size≤q→q<w'.heap.size→X q):ItemRes lo p dp D s.size res X v w':=by
 unfold ReadN at h
 unfold ItemRes
 cases res with
 | bad e =>
  obtain ⟨_,⟨o,A,n,c,h1⟩,h2,h3⟩:=h
  exact ⟨⟨o,A,n,c,by injection h1⟩,h2,h3⟩
 | good t r =>
  obtain ⟨_,⟨A,n,c,h1,h2⟩,h3,h4,h5⟩:=h
  exact ⟨⟨A,n,c,by injection h1,h2.mono (fun q hq=>⟨⟨by have:=hq.1; omega,hq.2⟩,hX q hq.1 hq.2⟩)⟩,h3,h4,h5⟩
theorem ItemRes.shape {lo p dp D sz:Nat} {res:PR Tr} {X:Nat→Prop} {v:Value} {W:World} (h:ItemRes lo p dp D sz res X v W):∃ o A n c e,v=.tuple #[nodeV o (.slice A n c),e]:=by
 unfold ItemRes at h
 cases res with
 | bad e =>
  obtain ⟨⟨o,A,n,c,h1⟩,_⟩:=h
  exact ⟨o,A,n,c,_,h1⟩
 | good t r =>
  obtain ⟨⟨A,n,c,h1,_⟩,_⟩:=h
  exact ⟨_,A,n,c,_,h1⟩
end Go.Proofs.YtonihophanmaaaaGreatDoor
