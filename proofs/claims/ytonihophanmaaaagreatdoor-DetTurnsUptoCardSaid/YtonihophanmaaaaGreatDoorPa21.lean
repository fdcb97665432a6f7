/- The texts CbD, CbB, put together. -/
import Derived.Test.YtonihophanmaaaaGreatDoorPa20
import Derived.Test.YtonihophanmaaaaGreatDoorPa16
import Derived.Deep.RegionHeld3
import Derived.BigQuiet
import Derived.Deep.QuietTactic
namespace Go.Proofs.YtonihophanmaaaaGreatDoor
open Go.RowKit Go.Shelf
def formsE (p:Nat):Array MapEntry:=#[⟨.int .i64 1,.func (.func 159) #[.pointer (some ⟨p,0,none⟩)] #[],0⟩,⟨.int .i64 2,.func (.func 160) #[.pointer (some ⟨p,0,none⟩)] #[],1⟩,⟨.int .i64 3,.func (.func 161) #[.pointer (some ⟨p,0,none⟩)] #[],2⟩,⟨.int .i64 4,.func (.func 162) #[.pointer (some ⟨p,0,none⟩)] #[],3⟩,⟨.int .i64 5,.func (.func 163) #[.pointer (some ⟨p,0,none⟩)] #[],4⟩,⟨.int .i64 6,.func (.func 164) #[.pointer (some ⟨p,0,none⟩)] #[],5⟩,⟨.int .i64 7,.func (.func 165) #[.pointer (some ⟨p,0,none⟩)] #[],6⟩,⟨.int .i64 8,.func (.func 166) #[.pointer (some ⟨p,0,none⟩)] #[],7⟩,⟨.int .i64 9,.func (.func 167) #[.pointer (some ⟨p,0,none⟩)] #[],8⟩,⟨.int .i64 10,.func (.func 168) #[.pointer (some ⟨p,0,none⟩)] #[],9⟩]
set_option maxHeartbeats 4000000 in
set_option maxRecDepth 100000 in
theorem w_forms (p:Nat) (w:World) :
  Calls Tryz.prog 117 #[.pointer (some ⟨p,0,none⟩)] w fun e w'=>e=.returned (.map (some w.heap.size))∧w'=w.alloc (.map (formsE p) 10):=by
 have h0:=run_makeMap (P:=Tryz.prog) 159 w
 have hi:=run_insI w 159 3 162 Tryz.underlying159 Tryz.underlying3
 have g1:=hi #[] 0 1 (.func (.func 159) #[.pointer (some ⟨p,0,none⟩)] #[]) rfl
 have g2:=hi #[⟨.int .i64 1,.func (.func 159) #[.pointer (some ⟨p,0,none⟩)] #[],0⟩] 1 2 (.func (.func 160) #[.pointer (some ⟨p,0,none⟩)] #[]) rfl
 have g3:=hi #[⟨.int .i64 1,.func (.func 159) #[.pointer (some ⟨p,0,none⟩)] #[],0⟩,⟨.int .i64 2,.func (.func 160) #[.pointer (some ⟨p,0,none⟩)] #[],1⟩] 2 3 (.func (.func 161) #[.pointer (some ⟨p,0,none⟩)] #[]) rfl
 have g4:=hi #[⟨.int .i64 1,.func (.func 159) #[.pointer (some ⟨p,0,none⟩)] #[],0⟩,⟨.int .i64 2,.func (.func 160) #[.pointer (some ⟨p,0,none⟩)] #[],1⟩,⟨.int .i64 3,.func (.func 161) #[.pointer (some ⟨p,0,none⟩)] #[],2⟩] 3 4 (.func (.func 162) #[.pointer (some ⟨p,0,none⟩)] #[]) rfl
 have g5:=hi #[⟨.int .i64 1,.func (.func 159) #[.pointer (some ⟨p,0,none⟩)] #[],0⟩,⟨.int .i64 2,.func (.func 160) #[.pointer (some ⟨p,0,none⟩)] #[],1⟩,⟨.int .i64 3,.func (.func 161) #[.pointer (some ⟨p,0,none⟩)] #[],2⟩,⟨.int .i64 4,.func (.func 162) #[.pointer (some ⟨p,0,none⟩)] #[],3⟩] 4 5 (.func (.func 163) #[.pointer (some ⟨p,0,none⟩)] #[]) rfl
 have g6:=hi #[⟨.int .i64 1,.func (.func 159) #[.pointer (some ⟨p,0,none⟩)] #[],0⟩,⟨.int .i64 2,.func (.func 160) #[.pointer (some ⟨p,0,none⟩)] #[],1⟩,⟨.int .i64 3,.func (.func 161) #[.pointer (some ⟨p,0,none⟩)] #[],2⟩,⟨.int .i64 4,.func (.func 162) #[.pointer (some ⟨p,0,none⟩)] #[],3⟩,⟨.int .i64 5,.func (.func 163) #[.pointer (some ⟨p,0,none⟩)] #[],4⟩] 5 6 (.func (.func 164) #[.pointer (some ⟨p,0,none⟩)] #[]) rfl
 have g7:=hi #[⟨.int .i64 1,.func (.func 159) #[.pointer (some ⟨p,0,none⟩)] #[],0⟩,⟨.int .i64 2,.func (.func 160) #[.pointer (some ⟨p,0,none⟩)] #[],1⟩,⟨.int .i64 3,.func (.func 161) #[.pointer (some ⟨p,0,none⟩)] #[],2⟩,⟨.int .i64 4,.func (.func 162) #[.pointer (some ⟨p,0,none⟩)] #[],3⟩,⟨.int .i64 5,.func (.func 163) #[.pointer (some ⟨p,0,none⟩)] #[],4⟩,⟨.int .i64 6,.func (.func 164) #[.pointer (some ⟨p,0,none⟩)] #[],5⟩] 6 7 (.func (.func 165) #[.pointer (some ⟨p,0,none⟩)] #[]) rfl
 have g8:=hi #[⟨.int .i64 1,.func (.func 159) #[.pointer (some ⟨p,0,none⟩)] #[],0⟩,⟨.int .i64 2,.func (.func 160) #[.pointer (some ⟨p,0,none⟩)] #[],1⟩,⟨.int .i64 3,.func (.func 161) #[.pointer (some ⟨p,0,none⟩)] #[],2⟩,⟨.int .i64 4,.func (.func 162) #[.pointer (some ⟨p,0,none⟩)] #[],3⟩,⟨.int .i64 5,.func (.func 163) #[.pointer (some ⟨p,0,none⟩)] #[],4⟩,⟨.int .i64 6,.func (.func 164) #[.pointer (some ⟨p,0,none⟩)] #[],5⟩,⟨.int .i64 7,.func (.func 165) #[.pointer (some ⟨p,0,none⟩)] #[],6⟩] 7 8 (.func (.func 166) #[.pointer (some ⟨p,0,none⟩)] #[]) rfl
 have g9:=hi #[⟨.int .i64 1,.func (.func 159) #[.pointer (some ⟨p,0,none⟩)] #[],0⟩,⟨.int .i64 2,.func (.func 160) #[.pointer (some ⟨p,0,none⟩)] #[],1⟩,⟨.int .i64 3,.func (.func 161) #[.pointer (some ⟨p,0,none⟩)] #[],2⟩,⟨.int .i64 4,.func (.func 162) #[.pointer (some ⟨p,0,none⟩)] #[],3⟩,⟨.int .i64 5,.func (.func 163) #[.pointer (some ⟨p,0,none⟩)] #[],4⟩,⟨.int .i64 6,.func (.func 164) #[.pointer (some ⟨p,0,none⟩)] #[],5⟩,⟨.int .i64 7,.func (.func 165) #[.pointer (some ⟨p,0,none⟩)] #[],6⟩,⟨.int .i64 8,.func (.func 166) #[.pointer (some ⟨p,0,none⟩)] #[],7⟩] 8 9 (.func (.func 167) #[.pointer (some ⟨p,0,none⟩)] #[]) rfl
 have g10:=hi #[⟨.int .i64 1,.func (.func 159) #[.pointer (some ⟨p,0,none⟩)] #[],0⟩,⟨.int .i64 2,.func (.func 160) #[.pointer (some ⟨p,0,none⟩)] #[],1⟩,⟨.int .i64 3,.func (.func 161) #[.pointer (some ⟨p,0,none⟩)] #[],2⟩,⟨.int .i64 4,.func (.func 162) #[.pointer (some ⟨p,0,none⟩)] #[],3⟩,⟨.int .i64 5,.func (.func 163) #[.pointer (some ⟨p,0,none⟩)] #[],4⟩,⟨.int .i64 6,.func (.func 164) #[.pointer (some ⟨p,0,none⟩)] #[],5⟩,⟨.int .i64 7,.func (.func 165) #[.pointer (some ⟨p,0,none⟩)] #[],6⟩,⟨.int .i64 8,.func (.func 166) #[.pointer (some ⟨p,0,none⟩)] #[],7⟩,⟨.int .i64 9,.func (.func 167) #[.pointer (some ⟨p,0,none⟩)] #[],8⟩] 9 10 (.func (.func 168) #[.pointer (some ⟨p,0,none⟩)] #[]) rfl
 clear hi
 simp only [List.push_toArray,List.cons_append,List.nil_append,Nat.zero_add,Nat.reduceAdd]at g1 g2 g3 g4 g5 g6 g7 g8 g9 g10
 go_enter Tryz.func117,Tryz.ntmps117
 go_wp2
 go_ret
 exact ⟨rfl,rfl⟩
def wrF (k:Int):FuncId:=if k=1 then 159 else if k=2 then 160 else if k=3 then 161 else if k=4 then 162 else if k=5 then 163 else if k=6 then 164 else if k=7 then 165 else if k=8 then 166 else if k=9 then 167 else 168
theorem forms_find (p:Nat) (k:Int) (h1:1≤k) (h2:k≤10):∃ i,Instr.findNow (.int .i64) (.int .i64 k) (formsE p).toList 0=some (some (i,.func (.func (wrF k)) #[.pointer (some ⟨p,0,none⟩)] #[])):=by
 have:k=1∨k=2∨k=3∨k=4∨k=5∨k=6∨k=7∨k=8∨k=9∨k=10:=by omega
 rcases this with rfl|rfl|rfl|rfl|rfl|rfl|rfl|rfl|rfl|rfl <;> exact ⟨_,rfl⟩
set_option maxRecDepth 100000 in
theorem forms_look (p:Nat) (w:World) (b:Nat) (hm:w.heap[b]? = some (.map (formsE p) 10)) (k:Int) (h1:1≤k) (h2:k≤10) :
  (Instr.lookup 159 (.map (some b)) (.int .i64 k) true).run Tryz.prog w=.ok (.tuple #[.func (.func (wrF k)) #[.pointer (some ⟨p,0,none⟩)] #[],.bool true]) w:=by
 obtain ⟨i,hf⟩:=forms_find p k h1 h2
 have q1:(Instr.findKey 3 (.int .i64 k) (formsE p).toList).run Tryz.prog w=.ok (some (i,.func (.func (wrF k)) #[.pointer (some ⟨p,0,none⟩)] #[])) w:=MapKept.run_findKey Tryz.underlying3 hf
 have q2:(Instr.checkKey (formsE p).isEmpty 10000 3 (.int .i64 k)).run Tryz.prog w=.ok () w:=by
  unfold Instr.checkKey
  simp [run_underlying Tryz.underlying3]
 simp only [Instr.lookup,Sem.run_bind,run_underlying Tryz.underlying159,Result.andThen,MapKept.run_getObj_map hm,q2,q1,Sem.run_pure]
 rfl
set_option maxRecDepth 100000 in
theorem wrF_enters (k:Int) (h1:1≤k) (h2:k≤10) (args:Array Value) (w:World):(callFunc (wrF k) args).run Tryz.prog w=.ok (.enter (wrF k) args) w:=by
 have:k=1∨k=2∨k=3∨k=4∨k=5∨k=6∨k=7∨k=8∨k=9∨k=10:=by omega
 rcases this with rfl|rfl|rfl|rfl|rfl|rfl|rfl|rfl|rfl|rfl
 ·exact enters_of Tryz.func159 (by kernel_rfl) rfl args w
 ·exact enters_of Tryz.func160 (by kernel_rfl) rfl args w
 ·exact enters_of Tryz.func161 (by kernel_rfl) rfl args w
 ·exact enters_of Tryz.func162 (by kernel_rfl) rfl args w
 ·exact enters_of Tryz.func163 (by kernel_rfl) rfl args w
 ·exact enters_of Tryz.func164 (by kernel_rfl) rfl args w
 ·exact enters_of Tryz.func165 (by kernel_rfl) rfl args w
 ·exact enters_of Tryz.func166 (by kernel_rfl) rfl args w
 ·exact enters_of Tryz.func167 (by kernel_rfl) rfl args w
 ·exact enters_of Tryz.func168 (by kernel_rfl) rfl args w
theorem w_nodes (p:Value) (A:Option Addr) (n c:Nat) (w:World) :
  Calls Tryz.prog 118 #[p,.slice A n c] w fun e w'=>e=.returned (.func (.func 169) #[] #[.pointer (some ⟨w.heap.size,0,none⟩)])∧w.alloc (.cells #[.slice A n c] 26)=w':=by
 go_enter Tryz.func118,Tryz.ntmps118
 go_wp2
 go_ret
 exact ⟨rfl,rfl⟩
def KpW (p n:Nat) (A B:World):Prop:=A.heap.size≤B.heap.size∧(∀ q,q<n→B.heap[q]? = A.heap[q]?)∧∀ (q:Nat) (cs:Array Value) (t:TypeId) (fr:Nat×Nat),A.heap[q]? = some (.cells cs t fr)→t≠5→q≠p→B.heap[q]? = some (.cells cs t fr)
theorem KpW.trans {p n:Nat} {A B C:World} (h:KpW p n A B) (k:KpW p n B C):KpW p n A C:=
 ⟨Nat.le_trans h.1 k.1,fun q hq=>(k.2.1 q hq).trans (h.2.1 q hq),fun q cs t fr ho ht hp=>k.2.2 q cs t fr (h.2.2 q cs t fr ho ht hp) ht hp⟩
theorem KpW.refl (p n:Nat) (A:World):KpW p n A A:=⟨Nat.le_refl _,fun _ _=>rfl,fun _ _ _ _ h _ _=>h⟩
theorem KpW.below {p n:Nat} {A B:World} (h:Below A.heap.size A B) (hn:n≤A.heap.size):KpW p n A B:=
 ⟨h.size,fun q hq=>h.block q (by omega),fun q cs t fr ho _ _=>(h.block q (Array.getElem?_eq_some_iff.1 ho).1).trans ho⟩
theorem KpW.putObj {p n:Nat} (W:World) (l:Nat) (o o':Obj) (hl:n≤l) (h:W.heap[l]? = some o) (ho:o.isCells=false):KpW p n W (W.putObj l o'):=by
 refine ⟨?_,fun q hq=>World.putObj_heap_other (by omega),fun q cs t fr hp _ _=>?_⟩
 ·exact (grownBy_putObj' W l o').size
 ·refine (World.putObj_heap_other ?_).trans hp
  rintro rfl
  rw [h]at hp
  cases hp
  cases ho
theorem KpW.of {p B:Nat} {l:List UInt8} {W W':World} (h:WP B p l W W') (hz:W.heap.size≤W'.heap.size):KpW p B W W':=
 ⟨hz,fun q hq=>h.below.block q hq,fun q cs t fr ho ht hp=>h.others q _ ho (fun e=>hp (by cases e; rfl)) (fun c fz e=>by cases e; exact ht rfl)⟩
section
attribute [local go_sem] Oper.semAt_some wide_fn wide_depth
set_option maxHeartbeats 4000000 in
set_option maxRecDepth 100000 in
theorem wnodes_seq (bn p B B0 d:Nat) (l:List Tr) (A:Option Addr) (n c:Nat) (w0:World) (hB0:B0≤B) (hBw:B≤w0.heap.size) (hb:Blk w0 bn #[.slice A n c] 26) (hl:ListAt w0 B0 d l (.slice A n c)) (hn:l.length=n) :
  SeqW Tryz.prog 169 #[.pointer (some ⟨bn,0,none⟩)] encN MvB (KpW p B) (fun _=>True) (fun xs _=>xs.map Prod.fst <+: l∧AllG w0 B0 xs) (fun xs _=>xs.map Prod.fst=l∧AllG w0 B0 xs) (fun pre _=>pre.map Prod.fst <+: l∧AllG w0 B0 pre) (fun W=>Below w0.heap.size w0 W):=by
 intro l0 J Jx W hW hJ hJx hY h0
 have hbW:=hb.below hW hb.lt
 have z0:=hbW.cell 0
 have hlen:=hl.slice.1
 rw [hn]at hlen
 have HL:=Lib.hid hl
 have HY:=Lib.hid hY
 have HJ:=Lib.hid hJ
 have HN:=Lib.hid hn
 have HW:=Lib.hid hW
 have H0:=Lib.hid h0
 clear hY hJ hJx hl hb hbW hn hW h0
 refine callsIn_of_wp Tryz.func169 rfl trivial ?_ rfl
 simp only [Tryz.ntmps169,List.size_toArray,List.length_cons,List.length_nil,Nat.reduceAdd,Nat.reduceSub,Array.replicate_succ,Array.replicate_zero,List.push_toArray,List.append_toArray,List.nil_append,List.cons_append]
 gi_wp2_with fail
 gi_loopw [7] (fun i wr=>∃ k:Nat,k≤n∧i=.int .i64 k∧(∃ ys:List TV,ys.map Prod.fst=l.take k∧AllG w0 B0 ys∧J ys wr)∧(∀ q,q<B0→wr.heap[q]? = w0.heap[q]?)∧B≤wr.heap.size) (fun i _=>n - (intOf i).toNat)
 case atStart=>exact ⟨0,by omega,rfl,⟨[],by simp,fun s hs=>absurd hs (by simp),H0.out⟩,fun q hq=>HW.out.block q (by omega),Nat.le_trans hBw HW.out.size⟩
 case round =>
  obtain ⟨k,hk,rfl,⟨ys,hm,hgy,hjy⟩,hkr,hzr⟩:=hrel
  clear z0 H0
  by_cases hlt:k<n
  ·have hkl:k<l.length:=by rw [HN.out]; exact hlt
   obtain ⟨d',ad,x',hdd,rfl,hab,hok,hna,hkk⟩:=HL.out.at_ hkl
   obtain ⟨_,A2,c2,rfl⟩:=hkk.slice
   have hgood:GoodN w0 B0 (l[k],.slice A2 l[k].kids.length c2):=⟨hok,d',hkk⟩
   have hna:=hna.keep (W':=wr) (by rw [add_block]; exact hkr _ hab)
   have hba:Below wr.heap.size wr (wr.alloc (.cells (cellsV l[k].own (.slice A2 l[k].kids.length c2)) 28)):=(Below.refl _ _).alloc (Nat.le_refl _) _
   have hkb:=Blk.new wr (cellsV l[k].own (.slice A2 l[k].kids.length c2)) 28
   have hmap:(ys++[(l[k],Value.slice A2 l[k].kids.length c2)]).map Prod.fst=l.take (k+1):=by
    rw [List.map_append,hm,List.take_succ_eq_append_getElem hkl]
    rfl
   have hT:(ys++[(l[k],Value.slice A2 l[k].kids.length c2)]).map Prod.fst <+: l∧AllG w0 B0 (ys++[(l[k],Value.slice A2 l[k].kids.length c2)]):=⟨by rw [hmap]; exact List.take_prefix _ _,hgy.append (AllG.one hgood)⟩
   have hcall:=HY.out ys (l[k],.slice A2 l[k].kids.length c2) _ (HJ.out _ _ _ hjy hba) hT
   obtain ⟨n2,hn2⟩:∃ n2,l[k].kids.length=n2:=⟨_,rfl⟩
   rw [hn2]at hmap hT
   have HT:=Lib.hid hT
   have HM:=Lib.hid hmap
   unfold encN at hcall
   obtain ⟨⟨kind',b',neg',dg',ex',u',wd',s'⟩,ho2⟩:∃ o,l[k].own=o:=⟨_,rfl⟩
   simp only [ho2,hn2]at hcall hkb hna
   have hkz:∀ q,q<B0→(wr.alloc (.cells (cellsV l[k].own (.slice A2 l[k].kids.length c2)) 28)).heap[q]? = w0.heap[q]? := fun q hq=>(hba.block q (by omega)).trans (hkr q hq)
   have HKZ:=Lib.hid hkz
   have HBA:=Lib.hid hba.size
   simp only [ho2,hn2]at HKZ HBA
   unfold nodeV at hcall
   unfold cellsV at hcall hkb HKZ HBA
   obtain ⟨k0,k1,k2,k3,k4,k5,k6,k7,k8⟩:=hna
   simp only []at k0 k1 k2 k3 k4 k5 k6 k7 k8 hcall hkb HKZ HBA
   have z0:=hkb.cell 0
   have z1:=hkb.cell 1
   have z2:=hkb.cell 2
   have z3:=hkb.cell 3
   have z4:=hkb.cell 4
   have z5:=hkb.cell 5
   have z6:=hkb.cell 6
   have z7:=hkb.cell 7
   have z8:=hkb.cell 8
   obtain ⟨fn,tmps,assign,body,hy,hR⟩:=hcall
   have y1:(k:Int)<n:=by omega
   clear hT hmap hgood hkb hkk hok hdd ho2 hn2 hjy hgy hm hba hkz hkr
   gi_wp2_with fail
   refine hR.mono ?_
   rintro e W3 (⟨rfl,_,hJ3,hk3⟩ | ⟨rfl,hJx3⟩)
   ·have hkr3:∀ q,q<B0→W3.heap[q]? = w0.heap[q]? := fun q hq=>(hk3.2.1 q (by omega)).trans (HKZ.out q hq)
    have hz3:B≤W3.heap.size:=Nat.le_trans hzr (Nat.le_trans HBA.out hk3.1)
    clear hR hy hk3 k0 k1 k2 k3 k4 k5 k6 k7 k8 z0 z1 z2 z3 z4 z5 z6 z7 z8
    gi_wp2_with fail
    go_roundw
    case rel=>exact ⟨k+1,by omega,by go_num,⟨_,HM.out,HT.out.2,hJ3⟩,hkr3,hz3⟩
    case measure=>simp [intOf]; omega
   ·clear hR hy k0 k1 k2 k3 k4 k5 k6 k7 k8 z0 z1 z2 z3 z4 z5 z6 z7 z8
    gi_wp2_with fail
    refine bodyPost_ret (results_none rfl _ _ _) rfl ?_
    exact ⟨⟨_,rfl⟩,.inr ⟨_,HT.out,hJx3⟩⟩
  ·obtain rfl:k=n:=by omega
   have y1:¬ (k:Int)<k:=by omega
   have hf:l.take k=l:=by rw [← HN.out,List.take_length]
   rw [hf]at hm
   gi_wp2_with fail
   go_end0
   exact ⟨⟨_,rfl⟩,.inl ⟨_,⟨hm,hgy⟩,hjy⟩⟩
end
end Go.Proofs.YtonihophanmaaaaGreatDoor
namespace Go.Proofs.YtonihophanmaaaaGreatDoor
open Go.RowKit Go.Shelf
set_option maxHeartbeats 4000000 in
set_option maxRecDepth 100000 in
theorem wn_null (B p:Nat) (l:List UInt8) (kind:Int) (b neg:Bool) (dg:ByteArray) (ex u wd:Int) (s:ByteArray) (v:Value) (W:World) (h:IsW B p (Lib.byteCells l) W) (hB:B≤W.heap.size) (hlen:l.length≤900000000) :
  Calls Tryz.prog 159 #[.pointer (some ⟨p,0,none⟩),.agg #[.int .i64 kind,.bool b,.bool neg,.string dg,.int .i64 ex,.int .u64 u,.int .i64 wd,.string s,v]] W fun e W'=>e=.returned (.tuple #[])∧WP B p (l++[246]) W W':=by
 have hb1:Below W.heap.size W (W.alloc (.cells #[.int .i64 kind,.bool b,.bool neg,.string dg,.int .i64 ex,.int .u64 u,.int .i64 wd,.string s,v] 28)):=(Below.refl _ _).alloc (Nat.le_refl _) _
 have hk1:=Blk.new W #[.int .i64 kind,.bool b,.bool neg,.string dg,.int .i64 ex,.int .u64 u,.int .i64 wd,.string s,v] 28
 have z0:=hk1.cell 0
 have hw1:=WP.step h hb1 hB
 have hpb:p<W.heap.size:=by
  rcases h with ⟨_,_,hb,_⟩ | ⟨_,_,hb,_⟩ <;> exact (Array.getElem?_eq_some_iff.1 hb).1
 have hbs:=hb1.alloc hb1.size (.cells #[.int .u8 246] 5)
 have HBY:=Lib.hid (w_bytes B p (W.heap.size+1) l 246 _ (WP.step h hbs hB).is (Nat.le_trans hB hbs.size) (by omega) (by have:=Blk.new (W.alloc (.cells #[.int .i64 kind,.bool b,.bool neg,.string dg,.int .i64 ex,.int .u64 u,.int .i64 wd,.string s,v] 28)) #[.int .u8 246] 5; rw [World.size_alloc]at this; exact this))
 have hws:=WP.step h hbs hB
 clear h hk1 z0 hw1
 go_enter Tryz.func159,Tryz.ntmps159
 go_wp2_with fail
 refine HBY.out.mono ?_
 rintro e W2 ⟨rfl,h2⟩
 have hw2:=hws.trans h2
 go_wp2_with fail
 go_end0
 exact ⟨rfl,hw2⟩
set_option maxHeartbeats 4000000 in
set_option maxRecDepth 100000 in
theorem wn_truth (B p:Nat) (l:List UInt8) (kind:Int) (b neg:Bool) (dg:ByteArray) (ex u wd:Int) (s:ByteArray) (v:Value) (W:World) (h:IsW B p (Lib.byteCells l) W) (hB:B≤W.heap.size) (hlen:l.length≤900000000) :
  Calls Tryz.prog 160 #[.pointer (some ⟨p,0,none⟩),.agg #[.int .i64 kind,.bool b,.bool neg,.string dg,.int .i64 ex,.int .u64 u,.int .i64 wd,.string s,v]] W fun e W'=>e=.returned (.tuple #[])∧WP B p (l++[if b=true then 245 else 244]) W W':=by
 have hb1:Below W.heap.size W (W.alloc (.cells #[.int .i64 kind,.bool b,.bool neg,.string dg,.int .i64 ex,.int .u64 u,.int .i64 wd,.string s,v] 28)):=(Below.refl _ _).alloc (Nat.le_refl _) _
 have hk1:=Blk.new W #[.int .i64 kind,.bool b,.bool neg,.string dg,.int .i64 ex,.int .u64 u,.int .i64 wd,.string s,v] 28
 have z1:=hk1.cell 1
 have hw1:=WP.step h hb1 hB
 have hpb:p<W.heap.size:=by
  rcases h with ⟨_,_,hb,_⟩ | ⟨_,_,hb,_⟩ <;> exact (Array.getElem?_eq_some_iff.1 hb).1
 cases b with
 | true =>
  have hbs:=hb1.alloc hb1.size (.cells #[.int .u8 245] 5)
  have HBY:=Lib.hid (w_bytes B p (W.heap.size+1) l 245 _ (WP.step h hbs hB).is (Nat.le_trans hB hbs.size) (by omega) (by have:=Blk.new (W.alloc (.cells #[.int .i64 kind,.bool true,.bool neg,.string dg,.int .i64 ex,.int .u64 u,.int .i64 wd,.string s,v] 28)) #[.int .u8 245] 5; rw [World.size_alloc]at this; exact this))
  have hws:=WP.step h hbs hB
  clear h hw1 hpb
  go_enter Tryz.func160,Tryz.ntmps160
  go_wp2_with fail
  refine HBY.out.mono ?_
  rintro e W2 ⟨rfl,h2⟩
  have hw2:=hws.trans h2
  go_wp2_with fail
  refine bodyPost_ret (results_none rfl _ _ _) rfl ?_
  exact ⟨rfl,hw2⟩
 | false =>
  have hbs:=hb1.alloc hb1.size (.cells #[.int .u8 244] 5)
  have HBY:=Lib.hid (w_bytes B p (W.heap.size+1) l 244 _ (WP.step h hbs hB).is (Nat.le_trans hB hbs.size) (by omega) (by have:=Blk.new (W.alloc (.cells #[.int .i64 kind,.bool false,.bool neg,.string dg,.int .i64 ex,.int .u64 u,.int .i64 wd,.string s,v] 28)) #[.int .u8 244] 5; rw [World.size_alloc]at this; exact this))
  have hws:=WP.step h hbs hB
  clear h hw1 hpb
  go_enter Tryz.func160,Tryz.ntmps160
  go_wp2_with fail
  refine HBY.out.mono ?_
  rintro e W2 ⟨rfl,h2⟩
  have hw2:=hws.trans h2
  go_wp2_with fail
  go_end0
  exact ⟨rfl,hw2⟩
set_option maxHeartbeats 4000000 in
set_option maxRecDepth 100000 in
theorem wn_simple (B p:Nat) (l:List UInt8) (kind:Int) (b neg:Bool) (dg:ByteArray) (ex u wd:Int) (s:ByteArray) (v:Value) (W:World) (h:IsW B p (Lib.byteCells l) W) (hB:B≤W.heap.size) (hlen:l.length≤900000000) (n:Nat) (hu:u=n) (hn:n<18446744073709551616) :
  Calls Tryz.prog 168 #[.pointer (some ⟨p,0,none⟩),.agg #[.int .i64 kind,.bool b,.bool neg,.string dg,.int .i64 ex,.int .u64 u,.int .i64 wd,.string s,v]] W fun e W'=>e=.returned (.tuple #[])∧WP B p (l++makeL 7 n) W W':=by
 have hb1:Below W.heap.size W (W.alloc (.cells #[.int .i64 kind,.bool b,.bool neg,.string dg,.int .i64 ex,.int .u64 u,.int .i64 wd,.string s,v] 28)):=(Below.refl _ _).alloc (Nat.le_refl _) _
 have hk1:=Blk.new W #[.int .i64 kind,.bool b,.bool neg,.string dg,.int .i64 ex,.int .u64 u,.int .i64 wd,.string s,v] 28
 have z3:=hk1.cell 3
 have z5:=hk1.cell 5
 have hw1:=WP.step h hb1 hB
 have hpb:p<W.heap.size:=by
  rcases h with ⟨_,_,hb,_⟩ | ⟨_,_,hb,_⟩ <;> exact (Array.getElem?_eq_some_iff.1 hb).1
 subst hu
 have HHD:=Lib.hid (w_head B p l 7 n (by decide) hn _ hw1.is (Nat.le_trans hB hb1.size) (by omega))
 obtain ⟨mk,hmk⟩:∃ mk,makeL 7 n=mk:=⟨_,rfl⟩
 rw [hmk]at HHD ⊢
 clear h hmk hn hk1
 go_enter Tryz.func168,Tryz.ntmps168
 go_wp2_with fail
 refine HHD.out.mono ?_
 rintro e W2 ⟨rfl,h2⟩
 have hw2:=hw1.trans h2
 go_wp2_with fail
 go_end0
 exact ⟨rfl,hw2⟩
set_option maxHeartbeats 4000000 in
set_option maxRecDepth 100000 in
theorem wn_num (B p:Nat) (l:List UInt8) (kind:Int) (b neg:Bool) (dg:ByteArray) (ex u wd:Int) (s:ByteArray) (v:Value) (W:World) (h:IsW B p (Lib.byteCells l) W) (hB:B≤W.heap.size) (hlen:l.length≤900000000) (hdg:dg.size≤9223372036854775807) (ng:Bool) (n:Nat) (hi:toIntD neg dg ex=some (ng,n)) {aT aF:Addr} (hG:GW W aT aF) :
  Calls Tryz.prog 161 #[.pointer (some ⟨p,0,none⟩),.agg #[.int .i64 kind,.bool b,.bool neg,.string dg,.int .i64 ex,.int .u64 u,.int .i64 wd,.string s,v]] W fun e W'=>e=.returned (.tuple #[])∧WP B p (l++(if ng=true then makeL 1 (n - 1) else makeL 0 n)) W W':=by
 have hb1:Below W.heap.size W (W.alloc (.cells #[.int .i64 kind,.bool b,.bool neg,.string dg,.int .i64 ex,.int .u64 u,.int .i64 wd,.string s,v] 28)):=(Below.refl _ _).alloc (Nat.le_refl _) _
 have hk1:=Blk.new W #[.int .i64 kind,.bool b,.bool neg,.string dg,.int .i64 ex,.int .u64 u,.int .i64 wd,.string s,v] 28
 have z2:=hk1.cell 2
 have z3:=hk1.cell 3
 have z4:=hk1.cell 4
 have hw1:=WP.step h hb1 hB
 have hpb:p<W.heap.size:=by
  rcases h with ⟨_,_,hb,_⟩ | ⟨_,_,hb,_⟩ <;> exact (Array.getElem?_eq_some_iff.1 hb).1
 have HT:=Lib.hid (dec_ToInt neg dg ex hdg _ (hG.below hb1))
 rw [hi]at HT
 obtain ⟨hn,hn1⟩:=toInt_lt hi
 cases ng with
 | true =>
  have hp1:=hn1 rfl
  have HT:Hid (Calls Tryz.prog 90 #[.agg #[.bool neg,.string dg,.int .i64 ex]] (W.alloc (.cells #[.int .i64 kind,.bool b,.bool neg,.string dg,.int .i64 ex,.int .u64 u,.int .i64 wd,.string s,v] 28)) fun e w'=>e=.returned (.tuple #[.bool true,.int .u64 (n:Nat),.bool true])∧Below (W.alloc (.cells #[.int .i64 kind,.bool b,.bool neg,.string dg,.int .i64 ex,.int .u64 u,.int .i64 wd,.string s,v] 28)).heap.size (W.alloc (.cells #[.int .i64 kind,.bool b,.bool neg,.string dg,.int .i64 ex,.int .u64 u,.int .i64 wd,.string s,v] 28)) w'):=HT
  have HHD:=Lib.hid (fun W2 (hb:Below (W.alloc (.cells #[.int .i64 kind,.bool b,.bool neg,.string dg,.int .i64 ex,.int .u64 u,.int .i64 wd,.string s,v] 28)).heap.size (W.alloc (.cells #[.int .i64 kind,.bool b,.bool neg,.string dg,.int .i64 ex,.int .u64 u,.int .i64 wd,.string s,v] 28)) W2)=>w_head B p l 1 (n - 1) (by decide) (by omega) W2 (isW_below hw1.is hb) (Nat.le_trans hB (Nat.le_trans hb1.size hb.size)) (by omega))
  have HW1:=Lib.hid hw1
  have HB1:=Lib.hid hb1
  obtain ⟨mk,hmk⟩:∃ mk,makeL 1 (n - 1)=mk:=⟨_,rfl⟩
  simp only [hmk]at HHD
  simp only [if_true,hmk]
  have hsub:IntKind.u64.wrap ((n:Int) - 1)=((n - 1:Nat):Int):=by rw [IntKind.wrap_u64]; omega
  have y1:(1:Int)≤n:=by omega
  have y2:((n:Int) - 1)=((n - 1:Nat):Int):=by omega
  clear h hk1 hw1 hi hn1 hmk hG
  go_enter Tryz.func161,Tryz.ntmps161
  go_wp2_with fail
  refine HT.out.mono ?_
  rintro e W2 ⟨rfl,hb⟩
  have hws:=HW1.out.trans (WP.step HW1.out.is hb (Nat.le_trans hB HB1.out.size))
  have HHD2:=Lib.hid (HHD.out W2 hb)
  clear hb HHD HT HW1 HB1 hb1 z2 z3 z4
  go_wp2_with fail
  refine HHD2.out.mono ?_
  rintro e W3 ⟨rfl,h3⟩
  have hw3:=hws.trans h3
  go_wp2_with fail
  refine bodyPost_ret (results_none rfl _ _ _) rfl ?_
  exact ⟨rfl,hw3⟩
 | false =>
  have HT:Hid (Calls Tryz.prog 90 #[.agg #[.bool neg,.string dg,.int .i64 ex]] (W.alloc (.cells #[.int .i64 kind,.bool b,.bool neg,.string dg,.int .i64 ex,.int .u64 u,.int .i64 wd,.string s,v] 28)) fun e w'=>e=.returned (.tuple #[.bool false,.int .u64 (n:Nat),.bool true])∧Below (W.alloc (.cells #[.int .i64 kind,.bool b,.bool neg,.string dg,.int .i64 ex,.int .u64 u,.int .i64 wd,.string s,v] 28)).heap.size (W.alloc (.cells #[.int .i64 kind,.bool b,.bool neg,.string dg,.int .i64 ex,.int .u64 u,.int .i64 wd,.string s,v] 28)) w'):=HT
  have HHD:=Lib.hid (fun W2 (hb:Below (W.alloc (.cells #[.int .i64 kind,.bool b,.bool neg,.string dg,.int .i64 ex,.int .u64 u,.int .i64 wd,.string s,v] 28)).heap.size (W.alloc (.cells #[.int .i64 kind,.bool b,.bool neg,.string dg,.int .i64 ex,.int .u64 u,.int .i64 wd,.string s,v] 28)) W2)=>w_head B p l 0 n (by decide) hn W2 (isW_below hw1.is hb) (Nat.le_trans hB (Nat.le_trans hb1.size hb.size)) (by omega))
  have HW1:=Lib.hid hw1
  have HB1:=Lib.hid hb1
  obtain ⟨mk,hmk⟩:∃ mk,makeL 0 n=mk:=⟨_,rfl⟩
  simp only [hmk]at HHD
  simp only [if_neg (show ¬ (false=true) by decide),hmk]
  clear h hk1 hw1 hi hn1 hmk hG hn
  go_enter Tryz.func161,Tryz.ntmps161
  go_wp2_with fail
  refine HT.out.mono ?_
  rintro e W2 ⟨rfl,hb⟩
  have hws:=HW1.out.trans (WP.step HW1.out.is hb (Nat.le_trans hB HB1.out.size))
  have HHD2:=Lib.hid (HHD.out W2 hb)
  clear hb HHD HT HW1 HB1 hb1 z2 z3 z4
  go_wp2_with fail
  refine HHD2.out.mono ?_
  rintro e W3 ⟨rfl,h3⟩
  have hw3:=hws.trans h3
  go_wp2_with fail
  go_end0
  exact ⟨rfl,hw3⟩
set_option maxHeartbeats 4000000 in
set_option maxRecDepth 100000 in
theorem wn_text (B p:Nat) (l:List UInt8) (kind:Int) (b neg:Bool) (dg:ByteArray) (ex u wd:Int) (s:ByteArray) (v:Value) (W:World) (h:IsW B p (Lib.byteCells l) W) (hB:B≤W.heap.size) (hlen:l.length≤900000000) (hs:s.size≤1000) :
  Calls Tryz.prog 163 #[.pointer (some ⟨p,0,none⟩),.agg #[.int .i64 kind,.bool b,.bool neg,.string dg,.int .i64 ex,.int .u64 u,.int .i64 wd,.string s,v]] W fun e W'=>e=.returned (.tuple #[])∧WP B p (l++(makeL 3 s.size++s.data.toList)) W W':=by
 have hb1:Below W.heap.size W (W.alloc (.cells #[.int .i64 kind,.bool b,.bool neg,.string dg,.int .i64 ex,.int .u64 u,.int .i64 wd,.string s,v] 28)):=(Below.refl _ _).alloc (Nat.le_refl _) _
 have hk1:=Blk.new W #[.int .i64 kind,.bool b,.bool neg,.string dg,.int .i64 ex,.int .u64 u,.int .i64 wd,.string s,v] 28
 have z7:=hk1.cell 7
 have hw1:=WP.step h hb1 hB
 have hpb:p<W.heap.size:=by
  rcases h with ⟨_,_,hb,_⟩ | ⟨_,_,hb,_⟩ <;> exact (Array.getElem?_eq_some_iff.1 hb).1
 have HHD:=Lib.hid (w_head B p l 3 s.size (by decide) (by omega) _ hw1.is (Nat.le_trans hB hb1.size) (by omega))
 have hml:(makeL 3 s.size).length≤100:=by
  rw [makeL_length]
  rcases leastN_is s.size (by omega) with ⟨_,_,h3⟩ | ⟨_,h1,h2,h3,_⟩
  ·omega
  ·have:∀ m,m≤3→2 ^ m≤8:=fun m hm=>Nat.pow_le_pow_right (show 0<2 by decide) hm
   have:=this ((leastN s.size).1 - 24) (by omega)
   omega
 obtain ⟨mk,hmk⟩:∃ mk,makeL 3 s.size=mk:=⟨_,rfl⟩
 rw [hmk]at HHD hml ⊢
 have HWS:=Lib.hid (fun W2 (h2:IsW B p (Lib.byteCells (l++mk)) W2) (hB2:B≤W2.heap.size)=>wb_WriteString B p (Lib.byteCells (l++mk)) s W2 h2 (by rw [cells_len,List.length_append]; omega) hB2)
 simp only [cells_app]at HWS
 have HW1:=Lib.hid hw1
 have HK1:=Lib.hid hk1
 have y1:(s.size:Int)≤1000:=by omega
 have y2:IntKind.u64.wrap (s.size:Int)=(s.size:Int):=by rw [IntKind.wrap_u64]; omega
 clear h hmk hw1 hk1 hml
 go_enter Tryz.func163,Tryz.ntmps163
 go_wp2_with fail
 refine HHD.out.mono ?_
 rintro e W2 ⟨rfl,h2⟩
 have hw2:=HW1.out.trans h2
 have hk2:=h2.blk HK1.out (by omega) (by decide)
 have hsz2:B≤W2.heap.size:=by
  rcases hw2.is with ⟨q,_,hb,_⟩ | ⟨q,_,hb,_⟩ <;> exact Nat.le_of_lt (Nat.lt_of_le_of_lt q (Array.getElem?_eq_some_iff.1 hb).1)
 have q7:=hk2.cell 7
 clear h2 HHD HW1 HK1 hb1 z7
 go_wp2_with fail
 go_region_held3 (fun w'=>w'.cell? ⟨W.heap.size,7,none⟩=some (.string s)) (go_keep)
  (first | (go_at_call 184; refine (HWS.out _ (isW_below hw2.is ((Below.refl _ W2).drew)) hsz2).mono ?_; rintro e W4 ⟨rfl,h4,hb4,ho4⟩; have q47:=(othersW_blk ho4 (Blk.drew hk2) (by omega) (by decide)).cell 7))
 have hw4:WP B p (l++mk++s.data.toList) W W4:=hw2.trans ⟨h4.is,((Below.refl B W2).drew).trans hb4,ho4⟩
 rw [List.append_assoc]at hw4
 clear h4 hb4 ho4 hw2 hk2 q7 q47
 go_wp2_with fail
 go_end0
 exact ⟨rfl,hw4⟩
set_option maxHeartbeats 4000000 in
set_option maxRecDepth 100000 in
theorem wn_raw (B p:Nat) (l:List UInt8) (kind:Int) (b neg:Bool) (dg:ByteArray) (ex u wd:Int) (s:ByteArray) (v:Value) (W:World) (h:IsW B p (Lib.byteCells l) W) (hB:B≤W.heap.size) (hlen:l.length≤900000000) (hs:s.size≤1000) :
  Calls Tryz.prog 164 #[.pointer (some ⟨p,0,none⟩),.agg #[.int .i64 kind,.bool b,.bool neg,.string dg,.int .i64 ex,.int .u64 u,.int .i64 wd,.string s,v]] W fun e W'=>e=.returned (.tuple #[])∧WP B p (l++(makeL 2 s.size++s.data.toList)) W W':=by
 have hb1:Below W.heap.size W (W.alloc (.cells #[.int .i64 kind,.bool b,.bool neg,.string dg,.int .i64 ex,.int .u64 u,.int .i64 wd,.string s,v] 28)):=(Below.refl _ _).alloc (Nat.le_refl _) _
 have hk1:=Blk.new W #[.int .i64 kind,.bool b,.bool neg,.string dg,.int .i64 ex,.int .u64 u,.int .i64 wd,.string s,v] 28
 have z7:=hk1.cell 7
 have hw1:=WP.step h hb1 hB
 have hpb:p<W.heap.size:=by
  rcases h with ⟨_,_,hb,_⟩ | ⟨_,_,hb,_⟩ <;> exact (Array.getElem?_eq_some_iff.1 hb).1
 have HHD:=Lib.hid (w_head B p l 2 s.size (by decide) (by omega) _ hw1.is (Nat.le_trans hB hb1.size) (by omega))
 have hml:(makeL 2 s.size).length≤100:=by
  rw [makeL_length]
  rcases leastN_is s.size (by omega) with ⟨_,_,h3⟩ | ⟨_,h1,h2,h3,_⟩
  ·omega
  ·have:∀ m,m≤3→2 ^ m≤8:=fun m hm=>Nat.pow_le_pow_right (show 0<2 by decide) hm
   have:=this ((leastN s.size).1 - 24) (by omega)
   omega
 obtain ⟨mk,hmk⟩:∃ mk,makeL 2 s.size=mk:=⟨_,rfl⟩
 rw [hmk]at HHD hml ⊢
 have HWS:=Lib.hid (fun W2 (h2:IsW B p (Lib.byteCells (l++mk)) W2) (hB2:B≤W2.heap.size)=>wb_WriteString B p (Lib.byteCells (l++mk)) s W2 h2 (by rw [cells_len,List.length_append]; omega) hB2)
 simp only [cells_app]at HWS
 have HW1:=Lib.hid hw1
 have HK1:=Lib.hid hk1
 have y1:(s.size:Int)≤1000:=by omega
 have y2:IntKind.u64.wrap (s.size:Int)=(s.size:Int):=by rw [IntKind.wrap_u64]; omega
 clear h hmk hw1 hk1 hml
 go_enter Tryz.func164,Tryz.ntmps164
 go_wp2_with fail
 refine HHD.out.mono ?_
 rintro e W2 ⟨rfl,h2⟩
 have hw2:=HW1.out.trans h2
 have hk2:=h2.blk HK1.out (by omega) (by decide)
 have hsz2:B≤W2.heap.size:=by
  rcases hw2.is with ⟨q,_,hb,_⟩ | ⟨q,_,hb,_⟩ <;> exact Nat.le_of_lt (Nat.lt_of_le_of_lt q (Array.getElem?_eq_some_iff.1 hb).1)
 have q7:=hk2.cell 7
 clear h2 HHD HW1 HK1 hb1 z7
 go_wp2_with fail
 go_region_held3 (fun w'=>w'.cell? ⟨W.heap.size,7,none⟩=some (.string s)) (go_keep)
  (first | (go_at_call 184; refine (HWS.out _ (isW_below hw2.is ((Below.refl _ W2).drew)) hsz2).mono ?_; rintro e W4 ⟨rfl,h4,hb4,ho4⟩; have q47:=(othersW_blk ho4 (Blk.drew hk2) (by omega) (by decide)).cell 7))
 have hw4:WP B p (l++mk++s.data.toList) W W4:=hw2.trans ⟨h4.is,((Below.refl B W2).drew).trans hb4,ho4⟩
 rw [List.append_assoc]at hw4
 clear h4 hb4 ho4 hw2 hk2 q7 q47
 go_wp2_with fail
 go_end0
 exact ⟨rfl,hw4⟩
end Go.Proofs.YtonihophanmaaaaGreatDoor
