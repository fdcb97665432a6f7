/- The texts GateM, GateU, GateA, GateW, put together. -/
import Derived.Test.YtonihophanmaaaaGreatDoorPa14
import Derived.Test.YtonihophanmaaaaGreatDoorPa03
import Derived.Test.YtonihophanmaaaaGreatDoorPa08
import Derived.RangeFuncWrites
import Derived.Carry
namespace Go.Proofs.YtonihophanmaaaaGreatDoor
open Go.RowKit Go.Shelf
theorem evens_at (l:List Tr) (i:Nat) (h:2*i<l.length):∃ h':i<(evens l).length,(evens l)[i]=l[2*i]:=by
 have h':i<(evens l).length:=by
  rw [evens_length]
  omega
 obtain ⟨_,e⟩:=evens_get l i h'
 exact ⟨h',e⟩
theorem twB_keys (l:List Tr):twB (evens l) = !keysB l:=by
 unfold keysB
 by_cases h:KeysApart l
 ·rw [@decide_eq_true _ (Classical.propDecidable _) h]
  refine twB_false (fun i hi _=>?_)
  unfold anyPre
  rw [List.any_eq_false]
  intro y hy
  obtain ⟨j,hj,rfl⟩:=List.getElem_of_mem hy
  rw [List.length_take]at hj
  have hji:j<i:=by omega
  rw [List.getElem_take]
  obtain ⟨h1,e1⟩:=evens_get l i hi
  obtain ⟨h2,e2⟩:=evens_get l j (by omega)
  rw [e1,e2,h (2*i) (2*j) h1 (by omega) (by omega) (by omega)]
  decide
 ·rw [@decide_eq_false _ (Classical.propDecidable _) h]
  have hex:∃ (i k:Nat) (hi:i<l.length) (hk:k<i),i % 2=0∧k % 2=0∧sameT l[i] (l[k]'(by omega))=true:=by
   apply Classical.byContradiction
   intro hn
   apply h
   intro i k hi hk h1 h2
   cases hs:sameT l[i] (l[k]'(by omega)) with
   | false=>rfl
   | true=>exact absurd ⟨i,k,hi,hk,h1,h2,hs⟩ hn
  obtain ⟨i,k,hi,hk,h1,h2,hs⟩:=hex
  obtain ⟨i',rfl⟩:∃ i',i=2*i':=⟨i / 2,by omega⟩
  obtain ⟨k',rfl⟩:∃ k',k=2*k':=⟨k / 2,by omega⟩
  obtain ⟨q1,e1⟩:=evens_at l i' hi
  obtain ⟨q2,e2⟩:=evens_at l k' (by omega)
  refine twB_true i' q1 ?_
  unfold anyPre
  rw [List.any_eq_true]
  refine ⟨(evens l)[k'],?_,by rw [e1,e2]; exact hs⟩
  have:((evens l).take i')[k']'(by rw [List.length_take]; omega)=(evens l)[k']:=List.getElem_take
  rw [← this]
  exact List.getElem_mem _
set_option maxHeartbeats 4000000 in
set_option maxRecDepth 100000 in
theorem is_Map (id:Int) (kind:Int) (b neg:Bool) (dg:ByteArray) (ex u wd:Int) (s:ByteArray) (l:List Tr) (A:Option Addr) (n c:Nat) (w:World) (B d:Nat) (hl:ListAt w B d l (.slice A n c)) (hB:B≤w.heap.size) (hn:l.length=n) (hc:n≤1000000000000) :
  Calls Tryz.prog 81 #[.agg #[.int .i64 id],.agg #[.int .i64 kind,.bool b,.bool neg,.string dg,.int .i64 ex,.int .u64 u,.int .i64 wd,.string s,.slice A n c]] w fun e w'=>e=.returned (.bool (onlyB ⟨kind,b,neg,dg,ex,u,wd,s⟩ ⟨0,false,false,⟨#[]⟩,0,0,0,⟨#[]⟩⟩ && (decide (n % 2=0) && keysB l)))∧Below w.heap.size w w':=by
 have HA:=Lib.hid (fun W=>is_Array id kind b neg dg ex u wd s A n c W)
 obtain ⟨hb2,hk1,hk2⟩:=box2 w #[.int .i64 id] #[.int .i64 kind,.bool b,.bool neg,.string dg,.int .i64 ex,.int .u64 u,.int .i64 wd,.string s,.slice A n c] 52 28
 obtain ⟨bb,hbb⟩:∃ bb,onlyB ⟨kind,b,neg,dg,ex,u,wd,s⟩ ⟨0,false,false,⟨#[]⟩,0,0,0,⟨#[]⟩⟩=bb:=⟨_,rfl⟩
 rw [hbb]at HA ⊢
 obtain ⟨kb,hkb⟩:∃ kb,keysB l=kb:=⟨_,rfl⟩
 have htw:=twB_keys l
 rw [hkb]at htw ⊢
 have HK:=Lib.hid (fun W (hW:Below w.heap.size w W)=>tree_keys l A n c W B d (hl.below hW hB) (Nat.le_trans hB hW.size) hn hc)
 have HT:=Lib.hid (fun W A' n' c' (h:ListAt W W.heap.size (d+1) (evens l) (.slice A' n' c')) (hn':(evens l).length=n')=>tree_isTwice (evens l) A' n' c' W W.heap.size (d+1) h (Nat.le_refl _) hn')
 rw [htw]at HT
 have z0:=hk2.cell 0
 have z1:=hk2.cell 1
 have z2:=hk2.cell 2
 have z3:=hk2.cell 3
 have z4:=hk2.cell 4
 have z5:=hk2.cell 5
 have z6:=hk2.cell 6
 have z7:=hk2.cell 7
 have z8:=hk2.cell 8
 have x0:=hk1.cell 0
 have hlen:=hl.slice.1
 rw [hn]at hlen
 have tm:(n:Int).tmod 2=((n % 2:Nat):Int):=rfl
 clear hl hbb hkb htw hc hn
 go_enter Tryz.func81,Tryz.ntmps81
 go_wp2_with fail
 refine (HA.out _).mono ?_
 rintro e w2 ⟨rfl,hb⟩
 have hb3:=hb2.trans (hb.mono hb2.size)
 have hk3:=hk2.below hb hk2.lt
 clear z0 z1 z2 z3 z4 z5 z6 z7 z8 x0 hb hb2 hk1 hk2 HA
 have z8:=hk3.cell 8
 cases bb with
 | false =>
  go_wp2_with fail
  all_goals go_ret
  all_goals exact ⟨rfl,hb3⟩
 | true =>
  by_cases hm:n % 2=0
  ·rw [hm]at tm
   have HK3:=Lib.hid (HK.out _ hb3)
   go_wp2_with fail
   refine HK3.out.mono ?_
   rintro e w4 ⟨⟨A',n',c',rfl,hn',hl'⟩,hb4⟩
   have hb5:=hb3.trans (hb4.mono hb3.size)
   have HT4:=Lib.hid (HT.out w4 A' n' c' hl' hn')
   clear hb4 hb3 HK HK3 HT hk3 z8 hl' hn'
   go_wp2_with fail
   refine HT4.out.mono ?_
   rintro e w5 ⟨rfl,hb6⟩
   have hb7:=hb5.trans (hb6.mono hb5.size)
   cases kb with
   | true =>
    go_wp2_with fail
    all_goals go_ret
    all_goals exact ⟨ret_bool (by simp [hm]),hb7⟩
   | false =>
    go_wp2_with fail
    all_goals go_ret
    all_goals exact ⟨ret_bool (by simp),hb7⟩
  ·have em:n % 2=1:=by omega
   rw [em]at tm
   go_wp2_with fail
   all_goals go_ret
   all_goals exact ⟨ret_bool (by simp [em]),hb3⟩
theorem run_insI (w:World) (t:TypeId) (kt et:TypeId) (ht:Tryz.prog.underlying t=some (.map kt et)) (hk:Tryz.prog.underlying kt=some (.int .i64)) (es:Array MapEntry) (c:Nat) (k:Int) (v:Value)
  (hf:Instr.findNow (.int .i64) (.int .i64 k) es.toList 0=some none) :
  (Instr.mapUpdate t (.map (some w.heap.size)) (.int .i64 k) v).run Tryz.prog (w.alloc (.map es c))=.ok () (w.alloc (.map (es.push ⟨.int .i64 k,v,c⟩) (c+1))):=by
 have h1:(Instr.findKey kt (.int .i64 k) es.toList).run Tryz.prog (w.alloc (.map es c))=.ok none (w.alloc (.map es c)):=MapKept.run_findKey hk hf
 have h2:(Instr.checkKey false 10000 kt (.int .i64 k)).run Tryz.prog (w.alloc (.map es c))=.ok () (w.alloc (.map es c)):=by
  unfold Instr.checkKey
  simp [run_underlying hk]
 have h3:∀ o,(setObj w.heap.size o).run Tryz.prog (w.alloc (.map es c))=.ok () (w.alloc o):=fun o=>by
  simp only [setObj,Sem.run,heap_alloc_new]
  show Result.ok () ({ w.alloc (.map es c) with heap:=(w.heap.push (.map es c)).setIfInBounds w.heap.size o }:World)=_
  rw [show (w.heap.push (.map es c)).setIfInBounds w.heap.size o=w.heap.push o by
   apply Array.toList_inj.1
   simp]
  rfl
 simp only [Instr.mapUpdate,Sem.run_bind,run_underlying ht,Result.andThen,MapKept.run_getObj_map (heap_alloc_new w _),h2,h1,h3]
def kindsE:Array MapEntry:=#[⟨.int .i64 1,.func (.func 74) #[] #[],0⟩,⟨.int .i64 2,.func (.func 75) #[] #[],1⟩,⟨.int .i64 3,.func (.func 76) #[] #[],2⟩,⟨.int .i64 4,.func (.func 77) #[] #[],3⟩,⟨.int .i64 5,.func (.func 78) #[] #[],4⟩,⟨.int .i64 6,.func (.func 79) #[] #[],5⟩,⟨.int .i64 7,.func (.func 80) #[] #[],6⟩,⟨.int .i64 8,.func (.func 81) #[] #[],7⟩,⟨.int .i64 9,.func (.func 82) #[] #[],8⟩,⟨.int .i64 10,.func (.func 83) #[] #[],9⟩,⟨.int .i64 11,.func (.func 84) #[] #[],10⟩]
set_option maxHeartbeats 4000000 in
set_option maxRecDepth 100000 in
theorem tree_kinds (w:World) :
  Calls Tryz.prog 50 #[] w fun e w'=>e=.returned (.map (some w.heap.size))∧w'=w.alloc (.map kindsE 11):=by
 have h0:=run_makeMap (P:=Tryz.prog) 65 w
 have hi:=run_insI w 65 3 67 Tryz.underlying65 Tryz.underlying3
 have g1:=hi #[] 0 1 (.func (.func 74) #[] #[]) (by kernel_rfl)
 have g2:=hi #[⟨.int .i64 1,.func (.func 74) #[] #[],0⟩] 1 2 (.func (.func 75) #[] #[]) (by kernel_rfl)
 have g3:=hi #[⟨.int .i64 1,.func (.func 74) #[] #[],0⟩,⟨.int .i64 2,.func (.func 75) #[] #[],1⟩] 2 3 (.func (.func 76) #[] #[]) (by kernel_rfl)
 have g4:=hi #[⟨.int .i64 1,.func (.func 74) #[] #[],0⟩,⟨.int .i64 2,.func (.func 75) #[] #[],1⟩,⟨.int .i64 3,.func (.func 76) #[] #[],2⟩] 3 4 (.func (.func 77) #[] #[]) (by kernel_rfl)
 have g5:=hi #[⟨.int .i64 1,.func (.func 74) #[] #[],0⟩,⟨.int .i64 2,.func (.func 75) #[] #[],1⟩,⟨.int .i64 3,.func (.func 76) #[] #[],2⟩,⟨.int .i64 4,.func (.func 77) #[] #[],3⟩] 4 5 (.func (.func 78) #[] #[]) (by kernel_rfl)
 have g6:=hi #[⟨.int .i64 1,.func (.func 74) #[] #[],0⟩,⟨.int .i64 2,.func (.func 75) #[] #[],1⟩,⟨.int .i64 3,.func (.func 76) #[] #[],2⟩,⟨.int .i64 4,.func (.func 77) #[] #[],3⟩,⟨.int .i64 5,.func (.func 78) #[] #[],4⟩] 5 6 (.func (.func 79) #[] #[]) (by kernel_rfl)
 have g7:=hi #[⟨.int .i64 1,.func (.func 74) #[] #[],0⟩,⟨.int .i64 2,.func (.func 75) #[] #[],1⟩,⟨.int .i64 3,.func (.func 76) #[] #[],2⟩,⟨.int .i64 4,.func (.func 77) #[] #[],3⟩,⟨.int .i64 5,.func (.func 78) #[] #[],4⟩,⟨.int .i64 6,.func (.func 79) #[] #[],5⟩] 6 7 (.func (.func 80) #[] #[]) (by kernel_rfl)
 have g8:=hi #[⟨.int .i64 1,.func (.func 74) #[] #[],0⟩,⟨.int .i64 2,.func (.func 75) #[] #[],1⟩,⟨.int .i64 3,.func (.func 76) #[] #[],2⟩,⟨.int .i64 4,.func (.func 77) #[] #[],3⟩,⟨.int .i64 5,.func (.func 78) #[] #[],4⟩,⟨.int .i64 6,.func (.func 79) #[] #[],5⟩,⟨.int .i64 7,.func (.func 80) #[] #[],6⟩] 7 8 (.func (.func 81) #[] #[]) (by kernel_rfl)
 have g9:=hi #[⟨.int .i64 1,.func (.func 74) #[] #[],0⟩,⟨.int .i64 2,.func (.func 75) #[] #[],1⟩,⟨.int .i64 3,.func (.func 76) #[] #[],2⟩,⟨.int .i64 4,.func (.func 77) #[] #[],3⟩,⟨.int .i64 5,.func (.func 78) #[] #[],4⟩,⟨.int .i64 6,.func (.func 79) #[] #[],5⟩,⟨.int .i64 7,.func (.func 80) #[] #[],6⟩,⟨.int .i64 8,.func (.func 81) #[] #[],7⟩] 8 9 (.func (.func 82) #[] #[]) (by kernel_rfl)
 have g10:=hi #[⟨.int .i64 1,.func (.func 74) #[] #[],0⟩,⟨.int .i64 2,.func (.func 75) #[] #[],1⟩,⟨.int .i64 3,.func (.func 76) #[] #[],2⟩,⟨.int .i64 4,.func (.func 77) #[] #[],3⟩,⟨.int .i64 5,.func (.func 78) #[] #[],4⟩,⟨.int .i64 6,.func (.func 79) #[] #[],5⟩,⟨.int .i64 7,.func (.func 80) #[] #[],6⟩,⟨.int .i64 8,.func (.func 81) #[] #[],7⟩,⟨.int .i64 9,.func (.func 82) #[] #[],8⟩] 9 10 (.func (.func 83) #[] #[]) (by kernel_rfl)
 have g11:=hi #[⟨.int .i64 1,.func (.func 74) #[] #[],0⟩,⟨.int .i64 2,.func (.func 75) #[] #[],1⟩,⟨.int .i64 3,.func (.func 76) #[] #[],2⟩,⟨.int .i64 4,.func (.func 77) #[] #[],3⟩,⟨.int .i64 5,.func (.func 78) #[] #[],4⟩,⟨.int .i64 6,.func (.func 79) #[] #[],5⟩,⟨.int .i64 7,.func (.func 80) #[] #[],6⟩,⟨.int .i64 8,.func (.func 81) #[] #[],7⟩,⟨.int .i64 9,.func (.func 82) #[] #[],8⟩,⟨.int .i64 10,.func (.func 83) #[] #[],9⟩] 10 11 (.func (.func 84) #[] #[]) (by kernel_rfl)
 clear hi
 simp only [List.push_toArray,List.cons_append,List.nil_append,Nat.zero_add,Nat.reduceAdd]at g1 g2 g3 g4 g5 g6 g7 g8 g9 g10 g11
 go_enter Tryz.func50,Tryz.ntmps50
 go_wp2
 go_ret
 exact ⟨rfl,rfl⟩
def isF (k:Int):FuncId:=if k=1 then 74 else if k=2 then 75 else if k=3 then 76 else if k=4 then 77 else if k=5 then 78 else if k=6 then 79 else if k=7 then 80 else if k=8 then 81 else if k=9 then 82 else if k=10 then 83 else 84
theorem kinds_find (k:Int) (h1:1≤k) (h2:k≤11):∃ i,Instr.findNow (.int .i64) (.int .i64 k) kindsE.toList 0=some (some (i,.func (.func (isF k)) #[] #[])):=by
 have:k=1∨k=2∨k=3∨k=4∨k=5∨k=6∨k=7∨k=8∨k=9∨k=10∨k=11:=by omega
 rcases this with rfl|rfl|rfl|rfl|rfl|rfl|rfl|rfl|rfl|rfl|rfl <;> exact ⟨_,rfl⟩
theorem kinds_miss (k:Int) (h:¬ (1≤k∧k≤11)):Instr.findNow (.int .i64) (.int .i64 k) kindsE.toList 0=some none:=by
 have e:∀ m:Int,1≤m→m≤11→(m == k)=false∧(k == m)=false:=fun m h1 h2=>by
  constructor <;> (rw [beq_eq_false_iff_ne]; omega)
 have e1:=e 1 (by decide) (by decide)
 have e2:=e 2 (by decide) (by decide)
 have e3:=e 3 (by decide) (by decide)
 have e4:=e 4 (by decide) (by decide)
 have e5:=e 5 (by decide) (by decide)
 have e6:=e 6 (by decide) (by decide)
 have e7:=e 7 (by decide) (by decide)
 have e8:=e 8 (by decide) (by decide)
 have e9:=e 9 (by decide) (by decide)
 have e10:=e 10 (by decide) (by decide)
 have e11:=e 11 (by decide) (by decide)
 simp [kindsE,Instr.findNow,Instr.sameNow,e1,e2,e3,e4,e5,e6,e7,e8,e9,e10,e11]
set_option maxRecDepth 100000 in
theorem kinds_look (w:World) (b:Nat) (hm:w.heap[b]? = some (.map kindsE 11)) (k:Int) (h1:1≤k) (h2:k≤11) :
  (Instr.lookup 65 (.map (some b)) (.int .i64 k) true).run Tryz.prog w=.ok (.tuple #[.func (.func (isF k)) #[] #[],.bool true]) w:=by
 obtain ⟨i,hf⟩:=kinds_find k h1 h2
 have q1:(Instr.findKey 3 (.int .i64 k) kindsE.toList).run Tryz.prog w=.ok (some (i,.func (.func (isF k)) #[] #[])) w:=MapKept.run_findKey Tryz.underlying3 hf
 have q2:(Instr.checkKey kindsE.isEmpty 10000 3 (.int .i64 k)).run Tryz.prog w=.ok () w:=by
  unfold Instr.checkKey
  simp [run_underlying Tryz.underlying3]
 simp only [Instr.lookup,Sem.run_bind,run_underlying Tryz.underlying65,Result.andThen,MapKept.run_getObj_map hm,q2,q1,Sem.run_pure]
 rfl
set_option maxRecDepth 100000 in
theorem kinds_lookno (w:World) (b:Nat) (hm:w.heap[b]? = some (.map kindsE 11)) (k:Int) (h:¬ (1≤k∧k≤11)) :
  (Instr.lookup 65 (.map (some b)) (.int .i64 k) true).run Tryz.prog w=.ok (.tuple #[.nilFunc,.bool false]) w:=by
 have hf:=kinds_miss k h
 have q1:(Instr.findKey 3 (.int .i64 k) kindsE.toList).run Tryz.prog w=.ok none w:=MapKept.run_findKey Tryz.underlying3 hf
 have q2:(Instr.checkKey kindsE.isEmpty 10000 3 (.int .i64 k)).run Tryz.prog w=.ok () w:=by
  unfold Instr.checkKey
  simp [run_underlying Tryz.underlying3]
 have q3:(zeroValue 67).run Tryz.prog w=.ok .nilFunc w:=by kernel_rfl
 simp only [Instr.lookup,Sem.run_bind,run_underlying Tryz.underlying65,Result.andThen,MapKept.run_getObj_map hm,q2,q1,q3,Sem.run_pure]
 rfl
set_option maxRecDepth 100000 in
theorem isF_enters (k:Int) (h1:1≤k) (h2:k≤11) (args:Array Value) (w:World):(callFunc (isF k) args).run Tryz.prog w=.ok (.enter (isF k) args) w:=by
 have:k=1∨k=2∨k=3∨k=4∨k=5∨k=6∨k=7∨k=8∨k=9∨k=10∨k=11:=by omega
 rcases this with rfl|rfl|rfl|rfl|rfl|rfl|rfl|rfl|rfl|rfl|rfl
 ·exact enters_of Tryz.func74 (by kernel_rfl) rfl args w
 ·exact enters_of Tryz.func75 (by kernel_rfl) rfl args w
 ·exact enters_of Tryz.func76 (by kernel_rfl) rfl args w
 ·exact enters_of Tryz.func77 (by kernel_rfl) rfl args w
 ·exact enters_of Tryz.func78 (by kernel_rfl) rfl args w
 ·exact enters_of Tryz.func79 (by kernel_rfl) rfl args w
 ·exact enters_of Tryz.func80 (by kernel_rfl) rfl args w
 ·exact enters_of Tryz.func81 (by kernel_rfl) rfl args w
 ·exact enters_of Tryz.func82 (by kernel_rfl) rfl args w
 ·exact enters_of Tryz.func83 (by kernel_rfl) rfl args w
 ·exact enters_of Tryz.func84 (by kernel_rfl) rfl args w
set_option maxRecDepth 100000 in
theorem is_node (id:Int) (o:Own) (l:List Tr) (A:Option Addr) (n c:Nat) (w:World) (B d:Nat) (hl:ListAt w B d l (.slice A n c)) (hB:B≤w.heap.size) (hn:l.length=n) (hc:n≤1000000000000) (ho:OwnOk o)
  (hT:Lib.Utf8Tabs 3 4 w) (h1:1≤o.kind) (h2:o.kind≤11) :
  Calls Tryz.prog (isF o.kind) #[.agg #[.int .i64 id],nodeV o (.slice A n c)] w fun e w'=>e=.returned (.bool (ownB o l))∧Below w.heap.size w w':=by
 obtain ⟨kind,b,neg,dg,ex,u,wd,s⟩:=o
 simp only []at h1 h2 ⊢
 have:kind=1∨kind=2∨kind=3∨kind=4∨kind=5∨kind=6∨kind=7∨kind=8∨kind=9∨kind=10∨kind=11:=by omega
 rcases this with rfl|rfl|rfl|rfl|rfl|rfl|rfl|rfl|rfl|rfl|rfl
 ·refine (is_Null id 1 b neg dg ex u wd s A n c w).mono ?_
  rintro e w' ⟨rfl,hb⟩
  refine ⟨ret_bool ?_,hb⟩
  unfold ownB
  rw [hn]
  simp only []
  simp
 ·refine (is_Bool id 2 b neg dg ex u wd s A n c w).mono ?_
  rintro e w' ⟨rfl,hb⟩
  refine ⟨ret_bool ?_,hb⟩
  unfold ownB
  rw [hn]
  simp only []
  simp
 ·refine (is_Num id 3 b neg dg ex u wd s A n c w ho.dg).mono ?_
  rintro e w' ⟨rfl,hb⟩
  refine ⟨ret_bool ?_,hb⟩
  unfold ownB
  rw [hn]
  simp only []
  simp [Bool.and_assoc]
 ·refine (is_Float id 4 b neg dg ex u wd s A n c w ho.u).mono ?_
  rintro e w' ⟨rfl,hb⟩
  refine ⟨ret_bool ?_,hb⟩
  unfold ownB
  rw [hn]
  simp only []
  simp [Bool.and_assoc]
 ·refine (is_Text id 5 b neg dg ex u wd s A n c w ho.s hT).mono ?_
  rintro e w' ⟨rfl,hb⟩
  refine ⟨ret_bool ?_,hb⟩
  unfold ownB
  rw [hn]
  simp only []
  simp [Bool.and_assoc]
 ·refine (is_Bytes id 6 b neg dg ex u wd s A n c w).mono ?_
  rintro e w' ⟨rfl,hb⟩
  refine ⟨ret_bool ?_,hb⟩
  unfold ownB
  rw [hn]
  simp only []
  simp [Bool.and_assoc]
 ·refine (is_Array id 7 b neg dg ex u wd s A n c w).mono ?_
  rintro e w' ⟨rfl,hb⟩
  refine ⟨ret_bool ?_,hb⟩
  unfold ownB
  rw [hn]
  simp only []
  simp
 ·refine (is_Map id 8 b neg dg ex u wd s l A n c w B d hl hB hn hc).mono ?_
  rintro e w' ⟨rfl,hb⟩
  refine ⟨ret_bool ?_,hb⟩
  unfold ownB
  rw [hn]
  simp only []
  simp
 ·refine (is_Tag id 9 b neg dg ex u wd s A n c w).mono ?_
  rintro e w' ⟨rfl,hb⟩
  refine ⟨ret_bool ?_,hb⟩
  unfold ownB
  rw [hn]
  simp only []
  simp [Bool.and_comm]
 ·refine (is_Simple id 10 b neg dg ex u wd s A n c w ho.u).mono ?_
  rintro e w' ⟨rfl,hb⟩
  refine ⟨ret_bool ?_,hb⟩
  unfold ownB
  rw [hn]
  simp only []
  simp [Bool.and_assoc]
 ·refine (is_Ext id 11 b neg dg ex u wd s A n c w).mono ?_
  rintro e w' ⟨rfl,hb⟩
  refine ⟨ret_bool ?_,hb⟩
  unfold ownB
  rw [hn]
  simp only []
  simp [Bool.and_assoc]
set_option maxHeartbeats 2000000 in
set_option maxRecDepth 100000 in
theorem tree_Depth (d:Nat):∀ (t:Tr) (x:Value) (w:World) (B:Nat),ListAt w B d t.kids x→B≤w.heap.size→t.count≤1000000000000 →
  Calls Tryz.prog 27 #[nodeV t.own x] w fun e w'=>e=.returned (.int .i64 (t.depth:Nat))∧Below w.heap.size w w':=by
 induction d using Nat.strongRecOn with
 | _ d ih =>
 intro t x w B hl hB hc
 obtain ⟨hlen,A,c,rfl⟩:=hl.slice
 have hdc:=depth_count t
 rw [Tr.depth_eq]at hdc ⊢
 have hkc:∀ l,t.kids=l→∀ k (h:k<l.length),l[k].count≤1000000000000:=by
  rintro _ rfl k h
  have:=Tr.count_eq t
  have h1:=countL_take t.kids k h
  have h2:=countL_mono t.kids (k+1)
  omega
 obtain ⟨l,hkl⟩:∃ l,t.kids=l:=⟨_,rfl⟩
 have hkc:=hkc l hkl
 rw [hkl]at hl hlen hdc ⊢
 obtain ⟨n,hn⟩:∃ n,l.length=n:=⟨_,rfl⟩
 rw [hn]at hl hlen ⊢
 obtain ⟨⟨kind,b,neg,dg,ex,u,wd,s⟩,ho⟩:∃ o,t.own=o:=⟨_,rfl⟩
 rw [ho]
 unfold nodeV
 have HL:=Lib.hid hl
 have IH:=Lib.hid ih
 have HKC:=Lib.hid hkc
 have hbx:=(Below.refl w.heap.size w).alloc (Nat.le_refl _) (.cells #[.int .i64 kind,.bool b,.bool neg,.string dg,.int .i64 ex,.int .u64 u,.int .i64 wd,.string s,.slice A n c] 28)
 have hBx:Blk (w.alloc (.cells #[.int .i64 kind,.bool b,.bool neg,.string dg,.int .i64 ex,.int .u64 u,.int .i64 wd,.string s,.slice A n c] 28)) w.heap.size #[.int .i64 kind,.bool b,.bool neg,.string dg,.int .i64 ex,.int .u64 u,.int .i64 wd,.string s,.slice A n c] 28:=Blk.new _ _ _
 have hd2:depthL l+1≤1000000000000:=by omega
 clear hl ih ho hkl hkc hdc hc
 simp only []
 have hf0:=hBx.cell 8
 go_enter Tryz.func27,Tryz.ntmps27
 go_wp2_with fail
 go_loopw [3,9] (fun m i wr=>∃ k:Nat,k≤n∧i=.int .i64 k∧m=.int .i64 ((depthL (l.take k):Nat):Int)∧Below w.heap.size w wr) (fun _ i _=>n - (intOf i).toNat)
 case atStart=>exact ⟨0,by omega,rfl,rfl,hbx⟩
 case round =>
  obtain ⟨k,hk,rfl,rfl,hbw⟩:=hrel
  by_cases hlt:k<n
  ·have hkl:k<l.length:=by omega
   obtain ⟨d',ad,x',hdd,rfl,hab,hok,hna,hkk⟩:=(HL.out.below hbw hB).at_ hkl
   obtain ⟨_,A2,c2,rfl⟩:=hkk.slice
   obtain ⟨n2,hn2⟩:∃ n2,l[k].kids.length=n2:=⟨_,rfl⟩
   rw [hn2]at hna hkk
   have htk:=depthL_take l k hkl
   have hba:Below wr.heap.size wr (wr.alloc (.cells (cellsV l[k].own (.slice A2 n2 c2)) 28)):=(Below.refl _ _).alloc (Nat.le_refl _) _
   have hba2:=hbw.trans (hba.mono hbw.size)
   have hkb:=Blk.new wr (cellsV l[k].own (.slice A2 n2 c2)) 28
   have HC:=IH.out d' (by omega) l[k] (.slice A2 n2 c2) _ B (hkk.below hba (Nat.le_trans hB hbw.size)) (Nat.le_trans hB hba2.size) (HKC.out k hkl)
   obtain ⟨m0,hm0⟩:∃ m0,depthL (l.take k)=m0:=⟨_,rfl⟩
   obtain ⟨m1,hm1⟩:∃ m1,l[k].depth=m1:=⟨_,rfl⟩
   rw [hm0,hm1]at htk
   rw [hm1]at HC
   obtain ⟨⟨kind',b',neg',dg',ex',u',wd',s'⟩,ho'⟩:∃ o,l[k].own=o:=⟨_,rfl⟩
   rw [ho']at HC hna hkb hba2
   unfold nodeV at HC
   unfold cellsV at HC hkb hba2
   obtain ⟨k0,k1,k2,k3,k4,k5,k6,k7,k8⟩:=hna
   simp only []at k0 k1 k2 k3 k4 k5 k6 k7 k8 HC hkb hba2
   have z0:=hkb.cell 0
   have z1:=hkb.cell 1
   have z2:=hkb.cell 2
   have z3:=hkb.cell 3
   have z4:=hkb.cell 4
   have z5:=hkb.cell 5
   have z6:=hkb.cell 6
   have z7:=hkb.cell 7
   have z8:=hkb.cell 8
   have HC:=Lib.hid HC
   have HT:=Lib.hid htk
   rw [hm0]
   have y1:(k:Int)<n:=by omega
   have y2:max (m0:Int) (m1:Int)=((max m0 m1:Nat):Int):=by omega
   clear htk hm0 hm1 ho' hkk hok hdd hba hn2
   go_wp2_with fail
   refine HC.out.mono ?_
   rintro e w2 ⟨rfl,hb2⟩
   have hb3:=hba2.trans (hb2.mono hba2.size)
   clear hb2 HC hkb k0 k1 k2 k3 k4 k5 k6 k7 k8 z0 z1 z2 z3 z4 z5 z6 z7 z8
   go_wp2_with fail
   go_roundw
   case rel=>exact ⟨k+1,by omega,by go_num,by first | (rw [HT.out]; done) | (rw [HT.out]; exact congrArg (Value.int .i64) (by omega)),hb3⟩
   case measure=>simp [intOf]; omega
  ·obtain rfl:k=n:=by omega
   have y1:¬ (k:Int)<k:=by omega
   have hf:l.take k=l:=by rw [← hn,List.take_length]
   rw [hf]
   clear hn hf
   go_wp2_with fail
   go_ret
   exact ⟨by go_num,hbw⟩
end Go.Proofs.YtonihophanmaaaaGreatDoor
namespace Go.Proofs.YtonihophanmaaaaGreatDoor
open Go.RowKit Go.Shelf
attribute [local go_sem] Oper.semAt_some wide_fn wide_depth
mutual
def preT:Tr→List Tr
 | .nd o l=>.nd o l::preL l
def preL:List Tr→List Tr
 | []=>[]
 | t::l=>preT t++preL l
end
theorem preT_eq (t:Tr):preT t=t::preL t.kids:=by
 cases t
 rw [preT]
 rfl
theorem preL_append:∀ a b:List Tr,preL (a++b)=preL a++preL b
 | [],_=>rfl
 | t::a,b=>by
  show preT t++preL (a++b)=(preT t++preL a)++preL b
  rw [preL_append a b,List.append_assoc]
theorem preL_take (l:List Tr) (k:Nat) (hk:k<l.length):preL (l.take (k+1))=preL (l.take k)++preT l[k]:=by
 rw [List.take_succ_eq_append_getElem hk,preL_append]
 show preL (l.take k)++(preT l[k]++[])=_
 rw [List.append_nil]
theorem preL_all (l:List Tr) (k:Nat):preL l=preL (l.take k)++preL (l.drop k):=by
 rw [← preL_append,List.take_append_drop]
theorem countL_pre:(∀ t:Tr,(preT t).length=t.count):=by
 have h:(∀ t:Tr,(preT t).length=t.count)∧(∀ l:List Tr,(preL l).length=countL l):=by
  constructor
  ·intro t
   exact Tr.rec (motive_1:=fun t=>(preT t).length=t.count) (motive_2:=fun l=>(preL l).length=countL l)
    (fun o l ih=>by rw [preT,Tr.count,List.length_cons,ih,Nat.add_comm]) rfl (fun t l h1 h2=>by rw [preL,countL,List.length_append,h1,h2]) t
  ·intro l
   exact Tr.rec_1 (motive_1:=fun t=>(preT t).length=t.count) (motive_2:=fun l=>(preL l).length=countL l)
    (fun o l ih=>by rw [preT,Tr.count,List.length_cons,ih,Nat.add_comm]) rfl (fun t l h1 h2=>by rw [preL,countL,List.length_append,h1,h2]) l
 exact h.1
abbrev TV:=Tr×Value
def encN (s:TV):Array Value:=#[nodeV s.1.own s.2]
def GoodN (W:World) (B:Nat) (s:TV):Prop:=OwnOk s.1.own∧∃ d,ListAt W B d s.1.kids s.2
def AllG (W:World) (B:Nat) (ys:List TV):Prop:=∀ s∈ys,GoodN W B s
theorem AllG.one {W:World} {B:Nat} {s:TV} (h:GoodN W B s):AllG W B [s]:=fun x hx=>by
 rw [List.mem_singleton.1 hx]
 exact h
theorem AllG.append {W:World} {B:Nat} {a b:List TV} (ha:AllG W B a) (hb:AllG W B b):AllG W B (a++b):=fun s hs=>(List.mem_append.1 hs).elim (ha s) (hb s)
def KpC (X:Nat→Prop) (n:Nat) (A B:World):Prop:=A.heap.size≤B.heap.size∧(∀ q,q<n→¬ X q→B.heap[q]? = A.heap[q]?)∧∀ q o,A.heap[q]? = some o→o.isCells=true→¬ X q→B.heap[q]? = some o
theorem KpC.refl (X:Nat→Prop) (n:Nat) (A:World):KpC X n A A:=⟨Nat.le_refl _,fun _ _ _=>rfl,fun _ _ h _ _=>h⟩
theorem KpC.trans {X:Nat→Prop} {n:Nat} {A B C:World} (h:KpC X n A B) (k:KpC X n B C):KpC X n A C:=
 ⟨Nat.le_trans h.1 k.1,fun q hq hx=>(k.2.1 q hq hx).trans (h.2.1 q hq hx),fun q o ho hc hx=>k.2.2 q o (h.2.2 q o ho hc hx) hc hx⟩
theorem KpC.below {X:Nat→Prop} {n:Nat} {A B:World} (h:Below A.heap.size A B) (hn:n≤A.heap.size):KpC X n A B:=
 ⟨h.size,fun q hq _=>h.block q (by omega),fun q o ho _ _=>(h.block q (Array.getElem?_eq_some_iff.1 ho).1).trans ho⟩
theorem KpC.putObj {X:Nat→Prop} {n:Nat} (W:World) (l:Nat) (o o':Obj) (hl:n≤l) (h:W.heap[l]? = some o) (ho:o.isCells=false):KpC X n W (W.putObj l o'):=by
 refine ⟨?_,fun q hq _=>World.putObj_heap_other (by omega),fun q p hp hc _=>?_⟩
 ·exact (grownBy_putObj' W l o').size
 ·refine (World.putObj_heap_other ?_).trans hp
  rintro rfl
  rw [h]at hp
  cases hp
  rw [ho]at hc
  cases hc
theorem KpC.blk {X:Nat→Prop} {n:Nat} {A B:World} (h:KpC X n A B) {b:Nat} {cs:Array Value} {t:TypeId} (hb:Blk A b cs t) (hx:¬ X b):Blk B b cs t:=h.2.2 b _ hb rfl hx
theorem KpC.list {X:Nat→Prop} {n m:Nat} {A B:World} (h:KpC X n A B) (hm:m≤n) (hx:∀ q,q<m→¬ X q) {d:Nat} {l:List Tr} {v:Value} (hl:ListAt A m d l v):ListAt B m d l v:=
 hl.keep (fun q hq=>h.2.1 q (by omega) (hx q hq))
theorem NodeAt.keep {W W':World} {a:Addr} {o:Own} {x:Value} (h:NodeAt W a o x) (hk:W'.heap[a.block]? = W.heap[a.block]?):NodeAt W' a o x where
 c0:=(cell_keep hk).trans h.c0
 c1:=(cell_keep (a:=⟨a.block,a.off+1,none⟩) hk).trans h.c1
 c2:=(cell_keep (a:=⟨a.block,a.off+2,none⟩) hk).trans h.c2
 c3:=(cell_keep (a:=⟨a.block,a.off+3,none⟩) hk).trans h.c3
 c4:=(cell_keep (a:=⟨a.block,a.off+4,none⟩) hk).trans h.c4
 c5:=(cell_keep (a:=⟨a.block,a.off+5,none⟩) hk).trans h.c5
 c6:=(cell_keep (a:=⟨a.block,a.off+6,none⟩) hk).trans h.c6
 c7:=(cell_keep (a:=⟨a.block,a.off+7,none⟩) hk).trans h.c7
 c8:=(cell_keep (a:=⟨a.block,a.off+8,none⟩) hk).trans h.c8
abbrev MvB (A B:World):Prop:=Below A.heap.size A B
set_option maxHeartbeats 4000000 in
set_option maxRecDepth 100000 in
theorem walk_in (l0 B n0:Nat) (X:Nat→Prop) (W0:World) (J Jx:List TV→World→Prop) (T:List TV→Prop) (hJ:∀ s A B,J s A→MvB A B→J s B) (hB:B≤n0) (hn0:n0≤W0.heap.size) (hXB:∀ q,q<B→¬ X q) (hXn:∀ q,n0≤q→¬ X q)
  (hY:∀ pre x W1,J pre W1→T (pre++[x])→YieldAt Fence.wide 7 Tryz.prog l0 (encN x) W1 fun e W'=>(e=.returned (.bool true)∧J (pre++[x]) W'∧KpC X n0 W1 W')∨(e=.returned (.bool false)∧Jx (pre++[x]) W')) (d:Nat) :
  ∀ (t:Tr) (x:Value) (acc:List TV) (W:World),KpC X n0 W0 W→ListAt W0 B d t.kids x→OwnOk t.own →
   (∀ xs:List TV,xs.map Prod.fst <+: preT t→AllG W0 B xs→T (acc++xs))→J acc W →
   Calls Tryz.prog 55 #[nodeV t.own x,.func (.yield l0) #[] #[]] W fun e W' =>
    (e=.returned (.bool true)∧∃ ys:List TV,ys.map Prod.fst=preT t∧AllG W0 B ys∧J (acc++ys) W'∧KpC X n0 W W') ∨
    (e=.returned (.bool false)∧∃ ys:List TV,ys.map Prod.fst <+: preT t∧AllG W0 B ys∧Jx (acc++ys) W'):=by
 induction d using Nat.strongRecOn with
 | _ d ih =>
 intro t x acc W hkw hl ho hT hj
 have hnw:=Nat.le_trans hn0 hkw.1
 have hgt:GoodN W0 B (t,x):=⟨ho,d,hl⟩
 have hpre:=preT_eq t
 have hT1:=hT [(t,x)] (by rw [hpre]; exact ⟨_,rfl⟩) (AllG.one hgt)
 obtain ⟨hlen,A,c,rfl⟩:=hl.slice
 obtain ⟨l,hkl⟩:∃ l,t.kids=l:=⟨_,rfl⟩
 have HE:=Lib.hid (show encN (t,.slice A l.length c) = #[nodeV t.own (.slice A l.length c)] from rfl)
 rw [hkl]at hl hlen hpre hT1 hgt ⊢
 obtain ⟨n,hn⟩:∃ n,l.length=n:=⟨_,rfl⟩
 rw [hn]at hl hlen hT1 HE hgt ⊢
 have hb1:Below W.heap.size W (W.alloc (.cells (cellsV t.own (.slice A n c)) 28)):=(Below.refl _ _).alloc (Nat.le_refl _) _
 have hk1:=Blk.new W (cellsV t.own (.slice A n c)) 28
 have hj1:=hJ acc W _ hj hb1
 have hkw1:KpC X n0 W _:=KpC.below hb1 hnw
 have HYX:=Lib.hid (hY acc (t,.slice A n c) _ hj1 hT1)
 rw [HE.out]at HYX
 obtain ⟨⟨kind,b,neg,dg,ex,u,wd,s⟩,ho'⟩:∃ o,t.own=o:=⟨_,rfl⟩
 rw [ho']at HYX hk1 hkw1 ⊢
 have HL:=Lib.hid hl
 have HT:=Lib.hid hT
 have HP:=Lib.hid hpre
 have HG:=Lib.hid hgt
 have IH:=Lib.hid ih
 have HKW:=Lib.hid hkw
 unfold nodeV at *
 unfold cellsV at *
 simp only []at HYX hk1 hkw1 ⊢
 have hxW:¬ X W.heap.size:=hXn _ hnw
 have z0:=hk1.cell 0
 have z1:=hk1.cell 1
 have z2:=hk1.cell 2
 have z3:=hk1.cell 3
 have z4:=hk1.cell 4
 have z5:=hk1.cell 5
 have z6:=hk1.cell 6
 have z7:=hk1.cell 7
 have z8:=hk1.cell 8
 have HN:=Lib.hid hn
 clear hl hT hpre hgt ih hY hT1 hb1 hj1 hn hkw
 refine callsIn_wide.1 (callsIn_of_wp (n:=8) Tryz.func55 rfl trivial ?_ rfl)
 simp only [Tryz.ntmps55,List.size_toArray,List.length_cons,List.length_nil,Nat.reduceAdd,Nat.reduceSub,Array.replicate_succ,Array.replicate_zero,List.push_toArray,List.append_toArray,List.nil_append,List.cons_append]
 obtain ⟨fn,tmps,assign,body,hy,hR⟩:=HYX.out
 gi_wp2_with fail
 refine hR.mono ?_
 rintro e W1 (⟨rfl,hj2,hkp⟩ | ⟨rfl,hx2⟩)
 ·have hk2:=hkp.blk hk1 hxW
  have hkw2:=hkw1.trans hkp
  have y8:=hk2.cell 8
  clear hR hy HYX z0 z1 z2 z3 z4 z5 z6 z7 z8 hkp hkw1 hk1
  have HJ2:=Lib.hid hj2
  gi_wp2_with fail
  gi_loopw [14] (fun i wr=>∃ k:Nat,k≤n∧i=.int .i64 k∧(∃ ys:List TV,ys.map Prod.fst=t::preL (l.take k)∧AllG W0 B ys∧J (acc++ys) wr)∧KpC X n0 W wr) (fun i _=>n - (intOf i).toNat)
  case atStart=>exact ⟨0,by omega,rfl,⟨[(t,.slice A n c)],by rw [List.take_zero]; rfl,AllG.one HG.out,HJ2.out⟩,hkw2⟩
  case round =>
   obtain ⟨k,hk,rfl,⟨ys,hm,hgy,hjy⟩,hkr⟩:=hrel
   clear y8 hk2 HJ2
   by_cases hlt:k<n
   ·have hkl:k<l.length:=by rw [HN.out]; exact hlt
    obtain ⟨d',ad,x',hdd,rfl,hab,hok,hna,hkk⟩:=HL.out.at_ hkl
    obtain ⟨_,A2,c2,rfl⟩:=hkk.slice
    obtain ⟨n2,hn2⟩:∃ n2,l[k].kids.length=n2:=⟨_,rfl⟩
    rw [hn2]at hna hkk
    have hk0:=HKW.out.trans hkr
    have hna:=hna.keep (W':=wr) (by rw [add_block]; exact hk0.2.1 _ (by omega) (hXB _ hab))
    have hnr:=Nat.le_trans hn0 hk0.1
    have htk:=preL_take l k hkl
    have hpa:=preL_all l (k+1)
    have hba:Below wr.heap.size wr (wr.alloc (.cells (cellsV l[k].own (.slice A2 n2 c2)) 28)):=(Below.refl _ _).alloc (Nat.le_refl _) _
    have hba0:=KpC.below (X:=X) (n:=n0) hba hnr
    have hpf:preT t=(t::preL (l.take k))++(preT l[k]++preL (l.drop (k+1))):=by
     rw [HP.out,hpa,htk,List.cons_append,List.append_assoc]
    have hcall:=IH.out d' (by omega) l[k] (.slice A2 n2 c2) (acc++ys) _ (hk0.trans hba0) hkk hok (fun xs hx hg=>by
     rw [List.append_assoc]
     refine HT.out (ys++xs) ?_ (hgy.append hg)
     rw [List.map_append,hm,hpf,List.prefix_append_right_inj]
     exact hx.trans (List.prefix_append _ _)) (hJ _ _ _ hjy hba)
    have hkb:=Blk.new wr (cellsV l[k].own (.slice A2 n2 c2)) 28
    have HTK:=Lib.hid htk
    have HPF:=Lib.hid hpf
    have HKR:=Lib.hid (hkr.trans hba0)
    obtain ⟨tk,htke⟩:∃ tk,l[k]=tk:=⟨_,rfl⟩
    rw [htke]at hcall hkb hna HTK HPF
    obtain ⟨⟨kind',b',neg',dg',ex',u',wd',s'⟩,ho2⟩:∃ o,tk.own=o:=⟨_,rfl⟩
    simp only [htke,ho2]at hcall hkb hna HKR
    unfold cellsV at hcall hkb HKR
    obtain ⟨k0,k1,k2,k3,k4,k5,k6,k7,k8⟩:=hna
    simp only []at k0 k1 k2 k3 k4 k5 k6 k7 k8 hcall hkb HKR
    have z0:=hkb.cell 0
    have z1:=hkb.cell 1
    have z2:=hkb.cell 2
    have z3:=hkb.cell 3
    have z4:=hkb.cell 4
    have z5:=hkb.cell 5
    have z6:=hkb.cell 6
    have z7:=hkb.cell 7
    have z8:=hkb.cell 8
    have HC:=Lib.hid (callsIn_wide (n:=7).2 hcall)
    have y1:(k:Int)<n:=by omega
    clear hcall hkb htk hpa hpf hba hba0 hkk hok hdd hk0 htke ho2 hkr hjy hn2
    gi_wp2_with fail
    refine HC.out.mono ?_
    rintro e w2 (⟨rfl,ys2,hm2,hg2,hj2,hk2⟩ | ⟨rfl,ys2,hm2,hg2,hx2⟩)
    ·have hkr2:=HKR.out.trans hk2
     clear HC z0 z1 z2 z3 z4 z5 z6 z7 z8 k0 k1 k2 k3 k4 k5 k6 k7 k8
     gi_wp2_with fail
     go_roundw
     case rel=>exact ⟨k+1,by omega,by go_num,⟨ys++ys2,by rw [List.map_append,hm,hm2,HTK.out]; rfl,hgy.append hg2,by rw [← List.append_assoc]; exact hj2⟩,hkr2⟩
     case measure=>simp [intOf]; omega
    ·clear HC z0 z1 z2 z3 z4 z5 z6 z7 z8 k0 k1 k2 k3 k4 k5 k6 k7 k8
     gi_wp2_with fail
     refine bodyPost_ret (v:=.bool false) (by simp [results,Tryz.results55,go_sem]) rfl ?_
     refine .inr ⟨rfl,ys++ys2,?_,hgy.append hg2,by rw [← List.append_assoc]; exact hx2⟩
     rw [List.map_append,hm,HPF.out,List.prefix_append_right_inj]
     exact hm2.trans (List.prefix_append _ _)
   ·obtain rfl:k=n:=by omega
    have y1:¬ (k:Int)<k:=by omega
    have hf:l.take k=l:=by rw [← HN.out,List.take_length]
    rw [hf]at hm
    gi_wp2_with fail
    refine bodyPost_ret (v:=.bool true) (by simp [results,Tryz.results55,go_sem]) rfl ?_
    exact .inl ⟨rfl,ys,by rw [hm,HP.out],hgy,hjy,hkr⟩
 ·clear hR hy HYX z0 z1 z2 z3 z4 z5 z6 z7 z8
  gi_wp2_with fail
  refine bodyPost_ret (v:=.bool false) (by simp [results,Tryz.results55,go_sem]) rfl ?_
  exact .inr ⟨rfl,[(t,.slice A n c)],by rw [HP.out]; exact ⟨_,rfl⟩,AllG.one HG.out,hx2⟩
end Go.Proofs.YtonihophanmaaaaGreatDoor
