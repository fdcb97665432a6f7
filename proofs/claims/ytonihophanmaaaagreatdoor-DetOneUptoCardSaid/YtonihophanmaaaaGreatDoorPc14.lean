/- The texts GateU, GateA, GateW, GateN, put together. -/
import Derived.Test.YtonihophanmaaaaGreatDoorPc13
import Derived.Test.YtonihophanmaaaaGreatDoorPc03
import Derived.Test.YtonihophanmaaaaGreatDoorPc08
import Derived.RangeFuncWrites
import Derived.Carry
set_option maxHeartbeats 4000000
set_option maxRecDepth 100000
namespace Go.Proofs.YtonihophanmaaaaGreatDoor
open Go.RowKit Go.Shelf
theorem zgl (w:World) (t:TypeId) (b e:TypeId) (j:Tryz.prog.underlying t=some (.map b e)) (d:Tryz.prog.underlying b=some (.int .i64)) (a:Array MapEntry) (c:Nat) (k:Int) (v:Value)
  (i:Instr.findNow (.int .i64) (.int .i64 k) a.toList 0=some none) :
  (Instr.mapUpdate t (.map (some w.heap.size)) (.int .i64 k) v).run Tryz.prog (w.alloc (.map a c))=.ok () (w.alloc (.map (a.push ⟨.int .i64 k,v,c⟩) (c+1))):=by
 have f:(Instr.findKey b (.int .i64 k) a.toList).run Tryz.prog (w.alloc (.map a c))=.ok none (w.alloc (.map a c)):=MapKept.run_findKey d i
 have g:(Instr.checkKey false 10000 b (.int .i64 k)).run Tryz.prog (w.alloc (.map a c))=.ok () (w.alloc (.map a c)):=by
  unfold Instr.checkKey
  simp [run_underlying d]
 have h:∀ o,(setObj w.heap.size o).run Tryz.prog (w.alloc (.map a c))=.ok () (w.alloc o):=fun o=>by
  simp only [setObj,Sem.run,heap_alloc_new]
  show Result.ok () ({ w.alloc (.map a c) with heap:=(w.heap.push (.map a c)).setIfInBounds w.heap.size o }:World)=_
  rw [show (w.heap.push (.map a c)).setIfInBounds w.heap.size o=w.heap.push o by
   apply Array.toList_inj.1
   simp]
  rfl
 simp only [Instr.mapUpdate,Sem.run_bind,run_underlying j,Result.andThen,MapKept.run_getObj_map (heap_alloc_new w _),g,f,h]
def kF:Array MapEntry:=#[⟨.int .i64 1,.func (.func 74) #[] #[],0⟩,⟨.int .i64 2,.func (.func 75) #[] #[],1⟩,⟨.int .i64 3,.func (.func 76) #[] #[],2⟩,⟨.int .i64 4,.func (.func 77) #[] #[],3⟩,⟨.int .i64 5,.func (.func 78) #[] #[],4⟩,⟨.int .i64 6,.func (.func 79) #[] #[],5⟩,⟨.int .i64 7,.func (.func 80) #[] #[],6⟩,⟨.int .i64 8,.func (.func 81) #[] #[],7⟩,⟨.int .i64 9,.func (.func 82) #[] #[],8⟩,⟨.int .i64 10,.func (.func 83) #[] #[],9⟩,⟨.int .i64 11,.func (.func 84) #[] #[],10⟩]
theorem zi0 (w:World) :
  Calls Tryz.prog 50 #[] w fun e n=>e=.returned (.map (some w.heap.size))∧n=w.alloc (.map kF 11):=by
 have o:=run_makeMap (P:=Tryz.prog) 65 w
 have a:=zgl w 65 3 67 Tryz.underlying65 Tryz.underlying3
 have d:=a #[] 0 1 (.func (.func 74) #[] #[]) (by kernel_rfl)
 have f:=a #[⟨.int .i64 1,.func (.func 74) #[] #[],0⟩] 1 2 (.func (.func 75) #[] #[]) (by kernel_rfl)
 have g:=a #[⟨.int .i64 1,.func (.func 74) #[] #[],0⟩,⟨.int .i64 2,.func (.func 75) #[] #[],1⟩] 2 3 (.func (.func 76) #[] #[]) (by kernel_rfl)
 have h:=a #[⟨.int .i64 1,.func (.func 74) #[] #[],0⟩,⟨.int .i64 2,.func (.func 75) #[] #[],1⟩,⟨.int .i64 3,.func (.func 76) #[] #[],2⟩] 3 4 (.func (.func 77) #[] #[]) (by kernel_rfl)
 have i:=a #[⟨.int .i64 1,.func (.func 74) #[] #[],0⟩,⟨.int .i64 2,.func (.func 75) #[] #[],1⟩,⟨.int .i64 3,.func (.func 76) #[] #[],2⟩,⟨.int .i64 4,.func (.func 77) #[] #[],3⟩] 4 5 (.func (.func 78) #[] #[]) (by kernel_rfl)
 have j:=a #[⟨.int .i64 1,.func (.func 74) #[] #[],0⟩,⟨.int .i64 2,.func (.func 75) #[] #[],1⟩,⟨.int .i64 3,.func (.func 76) #[] #[],2⟩,⟨.int .i64 4,.func (.func 77) #[] #[],3⟩,⟨.int .i64 5,.func (.func 78) #[] #[],4⟩] 5 6 (.func (.func 79) #[] #[]) (by kernel_rfl)
 have k:=a #[⟨.int .i64 1,.func (.func 74) #[] #[],0⟩,⟨.int .i64 2,.func (.func 75) #[] #[],1⟩,⟨.int .i64 3,.func (.func 76) #[] #[],2⟩,⟨.int .i64 4,.func (.func 77) #[] #[],3⟩,⟨.int .i64 5,.func (.func 78) #[] #[],4⟩,⟨.int .i64 6,.func (.func 79) #[] #[],5⟩] 6 7 (.func (.func 80) #[] #[]) (by kernel_rfl)
 have l:=a #[⟨.int .i64 1,.func (.func 74) #[] #[],0⟩,⟨.int .i64 2,.func (.func 75) #[] #[],1⟩,⟨.int .i64 3,.func (.func 76) #[] #[],2⟩,⟨.int .i64 4,.func (.func 77) #[] #[],3⟩,⟨.int .i64 5,.func (.func 78) #[] #[],4⟩,⟨.int .i64 6,.func (.func 79) #[] #[],5⟩,⟨.int .i64 7,.func (.func 80) #[] #[],6⟩] 7 8 (.func (.func 81) #[] #[]) (by kernel_rfl)
 have m:=a #[⟨.int .i64 1,.func (.func 74) #[] #[],0⟩,⟨.int .i64 2,.func (.func 75) #[] #[],1⟩,⟨.int .i64 3,.func (.func 76) #[] #[],2⟩,⟨.int .i64 4,.func (.func 77) #[] #[],3⟩,⟨.int .i64 5,.func (.func 78) #[] #[],4⟩,⟨.int .i64 6,.func (.func 79) #[] #[],5⟩,⟨.int .i64 7,.func (.func 80) #[] #[],6⟩,⟨.int .i64 8,.func (.func 81) #[] #[],7⟩] 8 9 (.func (.func 82) #[] #[]) (by kernel_rfl)
 have b:=a #[⟨.int .i64 1,.func (.func 74) #[] #[],0⟩,⟨.int .i64 2,.func (.func 75) #[] #[],1⟩,⟨.int .i64 3,.func (.func 76) #[] #[],2⟩,⟨.int .i64 4,.func (.func 77) #[] #[],3⟩,⟨.int .i64 5,.func (.func 78) #[] #[],4⟩,⟨.int .i64 6,.func (.func 79) #[] #[],5⟩,⟨.int .i64 7,.func (.func 80) #[] #[],6⟩,⟨.int .i64 8,.func (.func 81) #[] #[],7⟩,⟨.int .i64 9,.func (.func 82) #[] #[],8⟩] 9 10 (.func (.func 83) #[] #[]) (by kernel_rfl)
 have c:=a #[⟨.int .i64 1,.func (.func 74) #[] #[],0⟩,⟨.int .i64 2,.func (.func 75) #[] #[],1⟩,⟨.int .i64 3,.func (.func 76) #[] #[],2⟩,⟨.int .i64 4,.func (.func 77) #[] #[],3⟩,⟨.int .i64 5,.func (.func 78) #[] #[],4⟩,⟨.int .i64 6,.func (.func 79) #[] #[],5⟩,⟨.int .i64 7,.func (.func 80) #[] #[],6⟩,⟨.int .i64 8,.func (.func 81) #[] #[],7⟩,⟨.int .i64 9,.func (.func 82) #[] #[],8⟩,⟨.int .i64 10,.func (.func 83) #[] #[],9⟩] 10 11 (.func (.func 84) #[] #[]) (by kernel_rfl)
 clear a
 simp only [List.push_toArray,List.cons_append,List.nil_append,Nat.zero_add,Nat.reduceAdd]at d f g h i j k l m b c
 go_enter Tryz.func50,Tryz.ntmps50
 go_wp2
 go_ret
 exact ⟨rfl,rfl⟩
def isF (k:Int):FuncId:=if k=1 then 74 else if k=2 then 75 else if k=3 then 76 else if k=4 then 77 else if k=5 then 78 else if k=6 then 79 else if k=7 then 80 else if k=8 then 81 else if k=9 then 82 else if k=10 then 83 else 84
theorem ziu (k:Int) (a:1≤k) (b:k≤11):∃ i,Instr.findNow (.int .i64) (.int .i64 k) kF.toList 0=some (some (i,.func (.func (isF k)) #[] #[])):=by
 have:k=1∨k=2∨k=3∨k=4∨k=5∨k=6∨k=7∨k=8∨k=9∨k=10∨k=11:=by omega
 rcases this with rfl|rfl|rfl|rfl|rfl|rfl|rfl|rfl|rfl|rfl|rfl <;> exact ⟨_,rfl⟩
theorem ziw (k:Int) (h:¬ (1≤k∧k≤11)):Instr.findNow (.int .i64) (.int .i64 k) kF.toList 0=some none:=by
 have e:∀ m:Int,1≤m→m≤11→(m == k)=false∧(k == m)=false:=fun m p q=>by
  constructor <;> (rw [beq_eq_false_iff_ne]; omega)
 have c:=e 1 (by decide) (by decide)
 have d:=e 2 (by decide) (by decide)
 have f:=e 3 (by decide) (by decide)
 have g:=e 4 (by decide) (by decide)
 have i:=e 5 (by decide) (by decide)
 have j:=e 6 (by decide) (by decide)
 have l:=e 7 (by decide) (by decide)
 have n:=e 8 (by decide) (by decide)
 have o:=e 9 (by decide) (by decide)
 have a:=e 10 (by decide) (by decide)
 have b:=e 11 (by decide) (by decide)
 simp [kF,Instr.findNow,Instr.sameNow,c,d,f,g,i,j,l,n,o,a,b]
theorem ziv (w:World) (b:Nat) (e:w.heap[b]? = some (.map kF 11)) (k:Int) (a:1≤k) (c:k≤11) :
  (Instr.lookup 65 (.map (some b)) (.int .i64 k) true).run Tryz.prog w=.ok (.tuple #[.func (.func (isF k)) #[] #[],.bool true]) w:=by
 obtain ⟨i,d⟩:=ziu k a c
 have f:(Instr.findKey 3 (.int .i64 k) kF.toList).run Tryz.prog w=.ok (some (i,.func (.func (isF k)) #[] #[])) w:=MapKept.run_findKey Tryz.underlying3 d
 have g:(Instr.checkKey kF.isEmpty 10000 3 (.int .i64 k)).run Tryz.prog w=.ok () w:=by
  unfold Instr.checkKey
  simp [run_underlying Tryz.underlying3]
 simp only [Instr.lookup,Sem.run_bind,run_underlying Tryz.underlying65,Result.andThen,MapKept.run_getObj_map e,g,f,Sem.run_pure]
 rfl
theorem zfU (w:World) (b:Nat) (c:w.heap[b]? = some (.map kF 11)) (k:Int) (h:¬ (1≤k∧k≤11)) :
  (Instr.lookup 65 (.map (some b)) (.int .i64 k) true).run Tryz.prog w=.ok (.tuple #[.nilFunc,.bool false]) w:=by
 have a:=ziw k h
 have d:(Instr.findKey 3 (.int .i64 k) kF.toList).run Tryz.prog w=.ok none w:=MapKept.run_findKey Tryz.underlying3 a
 have e:(Instr.checkKey kF.isEmpty 10000 3 (.int .i64 k)).run Tryz.prog w=.ok () w:=by
  unfold Instr.checkKey
  simp [run_underlying Tryz.underlying3]
 have f:(zeroValue 67).run Tryz.prog w=.ok .nilFunc w:=by kernel_rfl
 simp only [Instr.lookup,Sem.run_bind,run_underlying Tryz.underlying65,Result.andThen,MapKept.run_getObj_map c,e,d,f,Sem.run_pure]
 rfl
theorem zio (k:Int) (a:1≤k) (b:k≤11) (args:Array Value) (w:World):(callFunc (isF k) args).run Tryz.prog w=.ok (.enter (isF k) args) w:=by
 have:k=1∨k=2∨k=3∨k=4∨k=5∨k=6∨k=7∨k=8∨k=9∨k=10∨k=11:=by omega
 rcases this with rfl|rfl|rfl|rfl|rfl|rfl|rfl|rfl|rfl|rfl|rfl
 ·exact enters_of Tryz.func74 (by kernel_rfl) rfl args w
 ·exact enters_of Tryz.func75 (by kernel_rfl) rfl args w
 ·exact enters_of Tryz.func76 (by kernel_rfl) rfl args w
 ·exact enters_of Tryz.func77 (by kernel_rfl) rfl args w
 ·exact enters_of Tryz.func78 (by kernel_rfl) rfl args w
 ·exact enters_of Tryz.func79 (by kernel_rfl) rfl args w
 ·exact enters_of Tryz.func80 (by kernel_rfl) rfl args w
 ·exact enters_of Tryz.func81 (by kernel_rfl) rfl args w
 ·exact enters_of Tryz.func82 (by kernel_rfl) rfl args w
 ·exact enters_of Tryz.func83 (by kernel_rfl) rfl args w
 ·exact enters_of Tryz.func84 (by kernel_rfl) rfl args w
theorem zmL (id:Int) (o:Own) (l:List Tr) (A:Option Addr) (n c:Nat) (w:World) (B d:Nat) (j:zq w B d l (.slice A n c)) (i:B≤w.heap.size) (hn:l.length=n) (hc:n≤1000000000000) (f:zt o)
  (hT:Lib.Utf8Tabs 3 4 w) (g:1≤o.kind) (h:o.kind≤11) :
  Calls Tryz.prog (isF o.kind) #[.agg #[.int .i64 id],ze o (.slice A n c)] w fun e w'=>e=.returned (.bool (ownB o l))∧Below w.heap.size w w':=by
 obtain ⟨kind,b,neg,dg,ex,u,wd,s⟩:=o
 simp only []at g h ⊢
 have:kind=1∨kind=2∨kind=3∨kind=4∨kind=5∨kind=6∨kind=7∨kind=8∨kind=9∨kind=10∨kind=11:=by omega
 rcases this with rfl|rfl|rfl|rfl|rfl|rfl|rfl|rfl|rfl|rfl|rfl
 ·refine (zmJ id 1 b neg dg ex u wd s A n c w).mono ?_
  rintro e w' ⟨rfl,a⟩
  refine ⟨zL ?_,a⟩
  unfold ownB
  rw [hn]
  simp only []
  simp
 ·refine (zmI id 2 b neg dg ex u wd s A n c w).mono ?_
  rintro e w' ⟨rfl,a⟩
  refine ⟨zL ?_,a⟩
  unfold ownB
  rw [hn]
  simp only []
  simp
 ·refine (znn id 3 b neg dg ex u wd s A n c w f.dg).mono ?_
  rintro e w' ⟨rfl,a⟩
  refine ⟨zL ?_,a⟩
  unfold ownB
  rw [hn]
  simp only []
  simp [Bool.and_assoc]
 ·refine (zlf id 4 b neg dg ex u wd s A n c w f.u).mono ?_
  rintro e w' ⟨rfl,a⟩
  refine ⟨zL ?_,a⟩
  unfold ownB
  rw [hn]
  simp only []
  simp [Bool.and_assoc]
 ·refine (zmK id 5 b neg dg ex u wd s A n c w f.s hT).mono ?_
  rintro e w' ⟨rfl,a⟩
  refine ⟨zL ?_,a⟩
  unfold ownB
  rw [hn]
  simp only []
  simp [Bool.and_assoc]
 ·refine (zle id 6 b neg dg ex u wd s A n c w).mono ?_
  rintro e w' ⟨rfl,a⟩
  refine ⟨zL ?_,a⟩
  unfold ownB
  rw [hn]
  simp only []
  simp [Bool.and_assoc]
 ·refine (zfR id 7 b neg dg ex u wd s A n c w).mono ?_
  rintro e w' ⟨rfl,a⟩
  refine ⟨zL ?_,a⟩
  unfold ownB
  rw [hn]
  simp only []
  simp
 ·refine (znm id 8 b neg dg ex u wd s l A n c w B d j i hn hc).mono ?_
  rintro e w' ⟨rfl,a⟩
  refine ⟨zL ?_,a⟩
  unfold ownB
  rw [hn]
  simp only []
  simp
 ·refine (zno id 9 b neg dg ex u wd s A n c w).mono ?_
  rintro e w' ⟨rfl,a⟩
  refine ⟨zL ?_,a⟩
  unfold ownB
  rw [hn]
  simp only []
  simp [Bool.and_comm]
 ·refine (zjN id 10 b neg dg ex u wd s A n c w f.u).mono ?_
  rintro e w' ⟨rfl,a⟩
  refine ⟨zL ?_,a⟩
  unfold ownB
  rw [hn]
  simp only []
  simp [Bool.and_assoc]
 ·refine (znl id 11 b neg dg ex u wd s A n c w).mono ?_
  rintro e w' ⟨rfl,a⟩
  refine ⟨zL ?_,a⟩
  unfold ownB
  rw [hn]
  simp only []
  simp [Bool.and_assoc]
theorem ziY (d:Nat):∀ (t:Tr) (x:Value) (w:World) (B:Nat),zq w B d t.kids x→B≤w.heap.size→t.count≤1000000000000 →
  Calls Tryz.prog 27 #[ze t.own x] w fun e w'=>e=.returned (.int .i64 (t.depth:Nat))∧Below w.heap.size w w':=by
 induction d using Nat.strongRecOn with
 | _ d V =>
 intro t x w B z L hc
 obtain ⟨C,A,c,rfl⟩:=z.slice
 have y:=yB t
 rw [Tr.depth_eq]at y ⊢
 have q:∀ l,t.kids=l→∀ k (h:k<l.length),l[k].count≤1000000000000:=by
  rintro _ rfl k h
  have:=Tr.count_eq t
  have h1:=yA t.kids k h
  have h2:=vN t.kids (k+1)
  omega
 obtain ⟨l,g⟩:∃ l,t.kids=l:=⟨_,rfl⟩
 have q:=q l g
 rw [g]at z C y ⊢
 obtain ⟨n,hn⟩:∃ n,l.length=n:=⟨_,rfl⟩
 rw [hn]at z C ⊢
 obtain ⟨⟨kind,b,neg,dg,ex,u,wd,s⟩,T⟩:∃ o,t.own=o:=⟨_,rfl⟩
 rw [T]
 unfold ze
 have HL:=Lib.hid z
 have IH:=Lib.hid V
 have M:=Lib.hid q
 have Q:=(Below.refl w.heap.size w).alloc (Nat.le_refl _) (.cells #[.int .i64 kind,.bool b,.bool neg,.string dg,.int .i64 ex,.int .u64 u,.int .i64 wd,.string s,.slice A n c] 28)
 have O:Blk (w.alloc (.cells #[.int .i64 kind,.bool b,.bool neg,.string dg,.int .i64 ex,.int .u64 u,.int .i64 wd,.string s,.slice A n c] 28)) w.heap.size #[.int .i64 kind,.bool b,.bool neg,.string dg,.int .i64 ex,.int .u64 u,.int .i64 wd,.string s,.slice A n c] 28:=Blk.new _ _ _
 have az:zW l+1≤1000000000000:=by omega
 clear z V T g q y hc
 simp only []
 have aA:=O.cell 8
 go_enter Tryz.func27,Tryz.ntmps27
 go_wp2_with fail
 go_loopw [3,9] (fun m i wr=>∃ k:Nat,k≤n∧i=.int .i64 k∧m=.int .i64 ((zW (l.take k):Nat):Int)∧Below w.heap.size w wr) (fun _ i _=>n - (intOf i).toNat)
 case atStart=>exact ⟨0,by omega,rfl,rfl,Q⟩
 case round =>
  obtain ⟨k,hk,rfl,rfl,p⟩:=hrel
  by_cases aB:k<n
  ·have g:k<l.length:=by omega
   obtain ⟨d',ad,x',R,rfl,ay,U,F,r⟩:=(HL.out.below p L).at_ g
   obtain ⟨_,K,c2,rfl⟩:=r.slice
   obtain ⟨n2,I⟩:∃ n2,l[k].kids.length=n2:=⟨_,rfl⟩
   rw [I]at F r
   have G:=zgV l k g
   have v:Below wr.heap.size wr (wr.alloc (.cells (zf l[k].own (.slice K n2 c2)) 28)):=(Below.refl _ _).alloc (Nat.le_refl _) _
   have f:=p.trans (v.mono p.size)
   have a:=Blk.new wr (zf l[k].own (.slice K n2 c2)) 28
   have j:=IH.out d' (by omega) l[k] (.slice K n2 c2) _ B (r.below v (Nat.le_trans L p.size)) (Nat.le_trans L f.size) (M.out k g)
   obtain ⟨m0,D⟩:∃ m0,zW (l.take k)=m0:=⟨_,rfl⟩
   obtain ⟨m1,E⟩:∃ m1,l[k].depth=m1:=⟨_,rfl⟩
   rw [D,E]at G
   rw [E]at j
   obtain ⟨⟨ag,b',ak,aw,ax,u',aC,s'⟩,J⟩:∃ o,l[k].own=o:=⟨_,rfl⟩
   rw [J]at j F a f
   unfold ze at j
   unfold zf at j a f
   obtain ⟨W,X,Y,Z,k4,k5,k6,k7,k8⟩:=F
   simp only []at W X Y Z k4 k5 k6 k7 k8 j a f
   have z0:=a.cell 0
   have z1:=a.cell 1
   have z2:=a.cell 2
   have z3:=a.cell 3
   have z4:=a.cell 4
   have z5:=a.cell 5
   have z6:=a.cell 6
   have z7:=a.cell 7
   have z8:=a.cell 8
   have j:=Lib.hid j
   have N:=Lib.hid G
   rw [D]
   have y1:(k:Int)<n:=by omega
   have y2:max (m0:Int) (m1:Int)=((max m0 m1:Nat):Int):=by omega
   clear G D E J r U R v I
   go_wp2_with fail
   refine j.out.mono ?_
   rintro e w2 ⟨rfl,H⟩
   have P:=f.trans (H.mono f.size)
   clear H j a W X Y Z k4 k5 k6 k7 k8 z0 z1 z2 z3 z4 z5 z6 z7 z8
   go_wp2_with fail
   go_roundw
   case rel=>exact ⟨k+1,by omega,by go_num,by first | (rw [N.out]; done) | (rw [N.out]; exact congrArg (Value.int .i64) (by omega)),P⟩
   case measure=>simp [intOf]; omega
  ·obtain rfl:k=n:=by omega
   have y1:¬ (k:Int)<k:=by omega
   have S:l.take k=l:=by rw [← hn,List.take_length]
   rw [S]
   clear hn S
   go_wp2_with fail
   go_ret
   exact ⟨by go_num,p⟩
end Go.Proofs.YtonihophanmaaaaGreatDoor
namespace Go.Proofs.YtonihophanmaaaaGreatDoor
open Go.RowKit Go.Shelf
attribute [local go_sem] Oper.semAt_some qi jA
mutual
def jY:Tr→List Tr
 | .nd o l=>.nd o l::qd l
def qd:List Tr→List Tr
 | []=>[]
 | t::l=>jY t++qd l
end
theorem zmZ (t:Tr):jY t=t::qd t.kids:=by
 cases t
 rw [jY]
 rfl
theorem yL:∀ a b:List Tr,qd (a++b)=qd a++qd b
 | [],_=>rfl
 | t::a,b=>by
  show jY t++qd (a++b)=(jY t++qd a)++qd b
  rw [yL a b,List.append_assoc]
theorem zkg (l:List Tr) (k:Nat) (a:k<l.length):qd (l.take (k+1))=qd (l.take k)++jY l[k]:=by
 rw [List.take_succ_eq_append_getElem a,yL]
 show qd (l.take k)++(jY l[k]++[])=_
 rw [List.append_nil]
theorem zlK (l:List Tr) (k:Nat):qd l=qd (l.take k)++qd (l.drop k):=by
 rw [← yL,List.take_append_drop]
theorem zh6:(∀ t:Tr,(jY t).length=t.count):=by
 have h:(∀ t:Tr,(jY t).length=t.count)∧(∀ l:List Tr,(qd l).length=zm l):=by
  constructor
  ·intro t
   exact Tr.rec (motive_1:=fun t=>(jY t).length=t.count) (motive_2:=fun l=>(qd l).length=zm l)
    (fun o l c=>by rw [jY,Tr.count,List.length_cons,c,Nat.add_comm]) rfl (fun t l a b=>by rw [qd,zm,List.length_append,a,b]) t
  ·intro l
   exact Tr.rec_1 (motive_1:=fun t=>(jY t).length=t.count) (motive_2:=fun l=>(qd l).length=zm l)
    (fun o l c=>by rw [jY,Tr.count,List.length_cons,c,Nat.add_comm]) rfl (fun t l a b=>by rw [qd,zm,List.length_append,a,b]) l
 exact h.1
abbrev TV:=Tr×Value
def zbd (s:TV):Array Value:=#[ze s.1.own s.2]
def x9 (W:World) (B:Nat) (s:TV):Prop:=zt s.1.own∧∃ d,zq W B d s.1.kids s.2
def qG (W:World) (B:Nat) (ys:List TV):Prop:=∀ s∈ys,x9 W B s
theorem qG.one {W:World} {B:Nat} {s:TV} (h:x9 W B s):qG W B [s]:=fun x a=>by
 rw [List.mem_singleton.1 a]
 exact h
theorem qG.append {W:World} {B:Nat} {a b:List TV} (c:qG W B a) (d:qG W B b):qG W B (a++b):=fun s e=>(List.mem_append.1 e).elim (c s) (d s)
def KpC (X:Nat→Prop) (n:Nat) (A B:World):Prop:=A.heap.size≤B.heap.size∧(∀ q,q<n→¬ X q→B.heap[q]? = A.heap[q]?)∧∀ q o,A.heap[q]? = some o→o.isCells=true→¬ X q→B.heap[q]? = some o
theorem KpC.refl (X:Nat→Prop) (n:Nat) (A:World):KpC X n A A:=⟨Nat.le_refl _,fun _ _ _=>rfl,fun _ _ h _ _=>h⟩
theorem KpC.trans {X:Nat→Prop} {n:Nat} {A B C:World} (h:KpC X n A B) (k:KpC X n B C):KpC X n A C:=
 ⟨Nat.le_trans h.1 k.1,fun q b a=>(k.2.1 q b a).trans (h.2.1 q b a),fun q o c hc a=>k.2.2 q o (h.2.2 q o c hc a) hc a⟩
theorem KpC.below {X:Nat→Prop} {n:Nat} {A B:World} (h:Below A.heap.size A B) (hn:n≤A.heap.size):KpC X n A B:=
 ⟨h.size,fun q b _=>h.block q (by omega),fun q o a _ _=>(h.block q (Array.getElem?_eq_some_iff.1 a).1).trans a⟩
theorem KpC.putObj {X:Nat→Prop} {n:Nat} (W:World) (l:Nat) (o o':Obj) (c:n≤l) (h:W.heap[l]? = some o) (b:o.isCells=false):KpC X n W (W.putObj l o'):=by
 refine ⟨?_,fun q d _=>World.putObj_heap_other (by omega),fun q p a hc _=>?_⟩
 ·exact (grownBy_putObj' W l o').size
 ·refine (World.putObj_heap_other ?_).trans a
  rintro rfl
  rw [h]at a
  cases a
  rw [b]at hc
  cases hc
theorem KpC.blk {X:Nat→Prop} {n:Nat} {A B:World} (h:KpC X n A B) {b:Nat} {a:Array Value} {t:TypeId} (c:Blk A b a t) (d:¬ X b):Blk B b a t:=h.2.2 b _ c rfl d
theorem KpC.list {X:Nat→Prop} {n m:Nat} {A B:World} (h:KpC X n A B) (e:m≤n) (c:∀ q,q<m→¬ X q) {d:Nat} {l:List Tr} {v:Value} (a:zq A m d l v):zq B m d l v:=
 a.keep (fun q b=>h.2.1 q (by omega) (c q b))
theorem vQ.keep {W W':World} {a:Addr} {o:Own} {x:Value} (h:vQ W a o x) (b:W'.heap[a.block]? = W.heap[a.block]?):vQ W' a o x where
 c0:=(jd b).trans h.c0
 c1:=(jd (a:=⟨a.block,a.off+1,none⟩) b).trans h.c1
 c2:=(jd (a:=⟨a.block,a.off+2,none⟩) b).trans h.c2
 c3:=(jd (a:=⟨a.block,a.off+3,none⟩) b).trans h.c3
 c4:=(jd (a:=⟨a.block,a.off+4,none⟩) b).trans h.c4
 c5:=(jd (a:=⟨a.block,a.off+5,none⟩) b).trans h.c5
 c6:=(jd (a:=⟨a.block,a.off+6,none⟩) b).trans h.c6
 c7:=(jd (a:=⟨a.block,a.off+7,none⟩) b).trans h.c7
 c8:=(jd (a:=⟨a.block,a.off+8,none⟩) b).trans h.c8
abbrev MvB (A B:World):Prop:=Below A.heap.size A B
theorem walk_in (l0 B y:Nat) (X:Nat→Prop) (z:World) (J Jx:List TV→World→Prop) (T:List TV→Prop) (hJ:∀ s A B,J s A→MvB A B→J s B) (hB:B≤y) (ay:y≤z.heap.size) (a0:∀ q,q<B→¬ X q) (a1:∀ q,y≤q→¬ X q)
  (hY:∀ O x W1,J O W1→T (O++[x])→YieldAt Fence.wide 7 Tryz.prog l0 (zbd x) W1 fun e W'=>(e=.returned (.bool true)∧J (O++[x]) W'∧KpC X y W1 W')∨(e=.returned (.bool false)∧Jx (O++[x]) W')) (d:Nat) :
  ∀ (t:Tr) (x:Value) (j:List TV) (W:World),KpC X y z W→zq z B d t.kids x→zt t.own →
   (∀ xs:List TV,xs.map Prod.fst <+: jY t→qG z B xs→T (j++xs))→J j W →
   Calls Tryz.prog 55 #[ze t.own x,.func (.yield l0) #[] #[]] W fun e W' =>
    (e=.returned (.bool true)∧∃ g:List TV,g.map Prod.fst=jY t∧qG z B g∧J (j++g) W'∧KpC X y W W') ∨
    (e=.returned (.bool false)∧∃ g:List TV,g.map Prod.fst <+: jY t∧qG z B g∧Jx (j++g) W'):=by
 induction d using Nat.strongRecOn with
 | _ d ih =>
 intro t x j W Z P ho hT hj
 have aA:=Nat.le_trans ay Z.1
 have C:x9 z B (t,x):=⟨ho,d,P⟩
 have w:=zmZ t
 have G:=hT [(t,x)] (by rw [w]; exact ⟨_,rfl⟩) (qG.one C)
 obtain ⟨aa,A,c,rfl⟩:=P.slice
 obtain ⟨l,M⟩:∃ l,t.kids=l:=⟨_,rfl⟩
 have HE:=Lib.hid (show zbd (t,.slice A l.length c) = #[ze t.own (.slice A l.length c)] from rfl)
 rw [M]at P aa w G C ⊢
 obtain ⟨n,hn⟩:∃ n,l.length=n:=⟨_,rfl⟩
 rw [hn]at P aa G HE C ⊢
 have Q:Below W.heap.size W (W.alloc (.cells (zf t.own (.slice A n c)) 28)):=(Below.refl _ _).alloc (Nat.le_refl _) _
 have f:=Blk.new W (zf t.own (.slice A n c)) 28
 have ax:=hJ j W _ hj Q
 have r:KpC X y W _:=KpC.below Q aA
 have m:=Lib.hid (hY j (t,.slice A n c) _ ax G)
 rw [HE.out]at m
 obtain ⟨⟨kind,b,neg,dg,ex,u,wd,s⟩,a7⟩:∃ o,t.own=o:=⟨_,rfl⟩
 rw [a7]at m f r ⊢
 have HL:=Lib.hid P
 have HT:=Lib.hid hT
 have HP:=Lib.hid w
 have HG:=Lib.hid C
 have IH:=Lib.hid ih
 have aV:=Lib.hid Z
 unfold ze at *
 unfold zf at *
 simp only []at m f r ⊢
 have a8:¬ X W.heap.size:=a1 _ aA
 have z0:=f.cell 0
 have z1:=f.cell 1
 have z2:=f.cell 2
 have z3:=f.cell 3
 have z4:=f.cell 4
 have z5:=f.cell 5
 have z6:=f.cell 6
 have z7:=f.cell 7
 have z8:=f.cell 8
 have HN:=Lib.hid hn
 clear P hT w C ih hY G Q ax hn Z
 refine callsIn_wide.1 (callsIn_of_wp (n:=8) Tryz.func55 rfl trivial ?_ rfl)
 simp only [Tryz.ntmps55,List.size_toArray,List.length_cons,List.length_nil,Nat.reduceAdd,Nat.reduceSub,Array.replicate_succ,Array.replicate_zero,List.push_toArray,List.append_toArray,List.nil_append,List.cons_append]
 obtain ⟨fn,bo,aY,bg,hy,hR⟩:=m.out
 gi_wp2_with fail
 refine hR.mono ?_
 rintro e W1 (⟨rfl,U,Y⟩ | ⟨rfl,ag⟩)
 ·have K:=Y.blk f a8
  have aJ:=r.trans Y
  have y8:=K.cell 8
  clear hR hy m z0 z1 z2 z3 z4 z5 z6 z7 z8 Y r f
  have au:=Lib.hid U
  gi_wp2_with fail
  gi_loopw [14] (fun i wr=>∃ k:Nat,k≤n∧i=.int .i64 k∧(∃ g:List TV,g.map Prod.fst=t::qd (l.take k)∧qG z B g∧J (j++g) wr)∧KpC X y W wr) (fun i _=>n - (intOf i).toNat)
  case atStart=>exact ⟨0,by omega,rfl,⟨[(t,.slice A n c)],by rw [List.take_zero]; rfl,qG.one HG.out,au.out⟩,aJ⟩
  case round =>
   obtain ⟨k,hk,rfl,⟨g,hm,H,V⟩,N⟩:=hrel
   clear y8 K au
   by_cases a5:k<n
   ·have M:k<l.length:=by rw [HN.out]; exact a5
    obtain ⟨d',ad,x',a4,rfl,a3,aC,p,L⟩:=HL.out.at_ M
    obtain ⟨_,A2,c2,rfl⟩:=L.slice
    obtain ⟨n2,az⟩:∃ n2,l[k].kids.length=n2:=⟨_,rfl⟩
    rw [az]at p L
    have I:=aV.out.trans N
    have p:=p.keep (W':=wr) (by rw [add_block]; exact I.2.1 _ (by omega) (a0 _ a3))
    have a6:=Nat.le_trans ay I.1
    have af:=zkg l k M
    have aD:=zlK l (k+1)
    have R:Below wr.heap.size wr (wr.alloc (.cells (zf l[k].own (.slice A2 n2 c2)) 28)):=(Below.refl _ _).alloc (Nat.le_refl _) _
    have D:=KpC.below (X:=X) (n:=y) R a6
    have ae:jY t=(t::qd (l.take k))++(jY l[k]++qd (l.drop (k+1))):=by
     rw [HP.out,aD,af,List.cons_append,List.append_assoc]
    have h:=IH.out d' (by omega) l[k] (.slice A2 n2 c2) (j++g) _ (I.trans D) L aC (fun xs hx hg=>by
     rw [List.append_assoc]
     refine HT.out (g++xs) ?_ (H.append hg)
     rw [List.map_append,hm,ae,List.prefix_append_right_inj]
     exact hx.trans (List.prefix_append _ _)) (hJ _ _ _ V R)
    have a:=Blk.new wr (zf l[k].own (.slice A2 n2 c2)) 28
    have aw:=Lib.hid af
    have av:=Lib.hid ae
    have F:=Lib.hid (N.trans D)
    obtain ⟨tk,E⟩:∃ tk,l[k]=tk:=⟨_,rfl⟩
    rw [E]at h a p aw av
    obtain ⟨⟨bc,b',bn,br,bs,u',bt,s'⟩,aB⟩:∃ o,tk.own=o:=⟨_,rfl⟩
    simp only [E,aB]at h a p F
    unfold zf at h a F
    obtain ⟨k0,k1,k2,k3,k4,k5,k6,k7,k8⟩:=p
    simp only []at k0 k1 k2 k3 k4 k5 k6 k7 k8 h a F
    have z0:=a.cell 0
    have z1:=a.cell 1
    have z2:=a.cell 2
    have z3:=a.cell 3
    have z4:=a.cell 4
    have z5:=a.cell 5
    have z6:=a.cell 6
    have z7:=a.cell 7
    have z8:=a.cell 8
    have HC:=Lib.hid (callsIn_wide (n:=7).2 h)
    have y1:(k:Int)<n:=by omega
    clear h a af aD ae R D L aC a4 I E aB N V az
    gi_wp2_with fail
    refine HC.out.mono ?_
    rintro e w2 (⟨rfl,ai,ac,S,U,K⟩ | ⟨rfl,ai,ac,S,ag⟩)
    ·have aI:=F.out.trans K
     clear HC z0 z1 z2 z3 z4 z5 z6 z7 z8 k0 k1 k2 k3 k4 k5 k6 k7 k8
     gi_wp2_with fail
     go_roundw
     case rel=>exact ⟨k+1,by omega,by go_num,⟨g++ai,by rw [List.map_append,hm,ac,aw.out]; rfl,H.append S,by rw [← List.append_assoc]; exact U⟩,aI⟩
     case measure=>simp [intOf]; omega
    ·clear HC z0 z1 z2 z3 z4 z5 z6 z7 z8 k0 k1 k2 k3 k4 k5 k6 k7 k8
     gi_wp2_with fail
     refine bodyPost_ret (v:=.bool false) (by simp [results,Tryz.results55,go_sem]) rfl ?_
     refine .inr ⟨rfl,g++ai,?_,H.append S,by rw [← List.append_assoc]; exact ag⟩
     rw [List.map_append,hm,av.out,List.prefix_append_right_inj]
     exact ac.trans (List.prefix_append _ _)
   ·obtain rfl:k=n:=by omega
    have y1:¬ (k:Int)<k:=by omega
    have hf:l.take k=l:=by rw [← HN.out,List.take_length]
    rw [hf]at hm
    gi_wp2_with fail
    refine bodyPost_ret (v:=.bool true) (by simp [results,Tryz.results55,go_sem]) rfl ?_
    exact .inl ⟨rfl,g,by rw [hm,HP.out],H,V,N⟩
 ·clear hR hy m z0 z1 z2 z3 z4 z5 z6 z7 z8
  gi_wp2_with fail
  refine bodyPost_ret (v:=.bool false) (by simp [results,Tryz.results55,go_sem]) rfl ?_
  exact .inr ⟨rfl,[(t,.slice A n c)],by rw [HP.out]; exact ⟨_,rfl⟩,qG.one HG.out,ag⟩
end Go.Proofs.YtonihophanmaaaaGreatDoor
namespace Go.Proofs.YtonihophanmaaaaGreatDoor
open Go.RowKit Go.Shelf
theorem zdv (v:Value) (o:Own) (w:World) :
  Calls Tryz.prog 36 #[ze o v] w fun e w'=>e=.returned (.func (.func 54) #[] #[.pointer (some ⟨w.heap.size,0,none⟩)])∧w.alloc (.cells (zf o v) 28)=w':=by
 unfold ze zf
 go_enter Tryz.func36,Tryz.ntmps36
 go_wp2
 go_ret
 exact ⟨rfl,rfl⟩
section
attribute [local go_sem] Oper.semAt_some qi jA
theorem x9.back {w W:World} {B:Nat} {s:TV} (a:Below w.heap.size w W) (c:B≤w.heap.size) (h:x9 W B s):x9 w B s:=
 ⟨h.1,let ⟨d,b⟩:=h.2; ⟨d,b.keep (fun q e=>(a.block q (by omega)).symm)⟩⟩
theorem qG.back {w W:World} {B:Nat} {ys:List TV} (b:Below w.heap.size w W) (a:B≤w.heap.size) (h:qG W B ys):qG w B ys:=fun s c=>(h s c).back b a
theorem zem (K B d p:Nat) (X:Nat→Prop) (t:Tr) (x:Value) (w0:World) (L:B≤p) (r:p≤w0.heap.size) (O:∀ q,q<B→¬ X q) (P:∀ q,p≤q→¬ X q) (C:Blk w0 K (zf t.own x) 28) (E:zq w0 B d t.kids x) (ho:zt t.own) :
  zdC Tryz.prog 54 #[.pointer (some ⟨K,0,none⟩)] zbd MvB (KpC X p) (fun _=>True) (fun f _=>f.map Prod.fst <+: jY t∧qG w0 B f) (fun f _=>f.map Prod.fst=jY t∧qG w0 B f) (fun i _=>i.map Prod.fst <+: jY t∧qG w0 B i) (fun W=>Below w0.heap.size w0 W):=by
 intro l0 J Jx W j M N Q h0
 have h:=Nat.le_trans L r
 have g:=walk_in l0 B p X W J Jx (fun f=>f.map Prod.fst <+: jY t∧qG w0 B f) M L (Nat.le_trans r j.size) O P
  (fun i y W1 D hT=>by
   obtain ⟨fn,H,k,w,hy,hR⟩:=Q i y W1 D hT
   refine ⟨fn,H,k,w,hy,hR.mono ?_⟩
   rintro e W' (⟨z,_,h2,h3⟩ | z)
   ·exact .inl ⟨z,h2,h3⟩
   ·exact .inr z) d t x [] W (KpC.refl _ _ _) (E.below j h) ho (fun f G l=>⟨G,l.back j h⟩) h0
 have a:=C.below j C.lt
 obtain ⟨⟨kind,b,neg,dg,ex,u,wd,s⟩,R⟩:∃ o,t.own=o:=⟨_,rfl⟩
 obtain ⟨_,A,c,rfl⟩:=E.slice
 obtain ⟨n,hn⟩:∃ n,t.kids.length=n:=⟨_,rfl⟩
 rw [R,hn]at g a
 unfold ze at g
 unfold zf at a
 simp only []at g a
 have v:=Lib.hid (callsIn_wide (n:=7).2 g)
 have S:=a.cell 0
 have T:=a.cell 1
 have U:=a.cell 2
 have V:=a.cell 3
 have Y:=a.cell 4
 have Z:=a.cell 5
 have z6:=a.cell 6
 have z7:=a.cell 7
 have z8:=a.cell 8
 clear Q M N E C g a
 refine callsIn_of_wp Tryz.func54 rfl trivial ?_ rfl
 simp only [Tryz.ntmps54,List.size_toArray,List.length_cons,List.length_nil,Nat.reduceAdd,Nat.reduceSub,Array.replicate_succ,Array.replicate_zero,List.push_toArray,List.append_toArray,List.nil_append,List.cons_append]
 gi_wp2_with fail
 refine v.out.mono ?_
 rintro e w2 (⟨rfl,I,F,l,D,_⟩ | ⟨rfl,I,F,l,G⟩)
 ·have m:=l.back j h
  clear v S T U V Y Z z6 z7 z8
  gi_wp2_with fail
  go_end0
  exact ⟨⟨_,rfl⟩,.inl ⟨I,⟨F,m⟩,D⟩⟩
 ·have m:=l.back j h
  clear v S T U V Y Z z6 z7 z8
  gi_wp2_with fail
  go_end0
  exact ⟨⟨_,rfl⟩,.inr ⟨I,⟨F,m⟩,G⟩⟩
theorem KpC.setCell {X:Nat→Prop} {n:Nat} (W:World) (p i:Nat) (v:Value) (d:X p):KpC X n W (W.setCell ⟨p,i,none⟩ v):=by
 have b:∀ q,¬ X q→q≠p:=fun q a e=>a (by rw [e]; exact d)
 exact ⟨by simp [World.setCell],fun q _ a=>Below.heap_setCell W ⟨p,i,none⟩ v q (b q a),fun q o c _ a=>(Below.heap_setCell W ⟨p,i,none⟩ v q (b q a)).trans c⟩
theorem ziX (t:Tr) (x:Value) (w:World) (B d:Nat) (C:zq w B d t.kids x) (r:zt t.own) (Y:B≤w.heap.size) (hc:t.count≤1000000000000) :
  Calls Tryz.prog 17 #[ze t.own x] w fun e w'=>e=.returned (.int .i64 (t.count:Nat))∧Below w.heap.size w w':=by
 obtain ⟨i,n,p⟩:=qa w (zf t.own x) #[.int .i64 0] 28 3
 have M:=Lib.hid (zdv x t.own)
 refine jo Tryz.func17 rfl ?_
 simp only [Tryz.ntmps17,List.size_toArray,List.length_cons,List.length_nil,Nat.reduceAdd,Nat.reduceSub,Array.replicate_succ,Array.replicate_zero,List.push_toArray,List.append_toArray,List.nil_append,List.cons_append]
 obtain ⟨⟨kind,b,neg,dg,ex,u,wd,s⟩,L⟩:∃ o,t.own=o:=⟨_,rfl⟩
 rw [L]at M n p i
 unfold ze at *
 unfold zf at *
 simp only []at M n p i
 have S:=qa
 have G:=Lib.hid p
 have E:=Lib.hid i
 have F:=Lib.hid n
 clear S
 go_wp2_with (refine wpList_load_row rfl 28 (.tmp 1) rfl w.heap.size rfl 28 _ (0,0) _ F.out Tryz.underlying28 rfl (by kernel_rfl) ?_)
 refine (M.out _).mono ?_
 rintro e w1 ⟨rfl,g⟩
 have H:Below w.heap.size w w1:=by
  rw [← g]
  exact E.out.alloc (by simp; omega) _
 have R:Blk w1 (w.heap.size+2) #[.int .i64 kind,.bool b,.bool neg,.string dg,.int .i64 ex,.int .u64 u,.int .i64 wd,.string s,x] 28:=by
  rw [← g]
  have:=Blk.new ((w.alloc (.cells #[.int .i64 kind,.bool b,.bool neg,.string dg,.int .i64 ex,.int .u64 u,.int .i64 wd,.string s,x] 28)).alloc (.cells #[.int .i64 0] 3)) #[.int .i64 kind,.bool b,.bool neg,.string dg,.int .i64 ex,.int .u64 u,.int .i64 wd,.string s,x] 28
  simp only [World.size_alloc]at this
  exact this
 have Q:Blk w1 (w.heap.size+1) #[.int .i64 0] 3:=by
  rw [← g]
  exact G.out.alloc (.cells #[.int .i64 kind,.bool b,.bool neg,.string dg,.int .i64 ex,.int .u64 u,.int .i64 wd,.string s,x] 28)
 have ae:w1.heap.size=w.heap.size+3:=by rw [← g]; simp
 rw [World.size_alloc,World.size_alloc]
 clear F G E g n p i
 go_wp2_with fail
 have I:=zh6 t
 refine qz (gf:=54) (lb:=#[.pointer (some ⟨w.heap.size+2,0,none⟩)]) rfl (enters_of Tryz.func54 (by kernel_rfl) rfl)
  (zem (w.heap.size+2) B d w1.heap.size (fun q=>q=w.heap.size+1) t x w1 (by omega) (Nat.le_refl _) (fun q hq=>by omega) (fun q hq=>by omega) (by rw [L]; exact R) (C.below H Y) r)
  ?hMv ?hA0 ?hKt ?hKb ?hps (fun a W=>Blk W (w.heap.size+1) #[.int .i64 a.length] 3∧Below w.heap.size w W) (fun _ _ _=>False) ?hI ?hIx ?hIM ?hIxM ?h0 ?hCt
  (fun tm a y P _=>a.length<t.count∧P={ tmps:=tm.setIfInBounds 6 (ze y.1.own y.2),defers:=[] }) ?hAx ?assign ?body ?hS ?hSp ?done ?stop
 case hMv=>exact fun A B k o z hk r _=>(z.block k (Array.getElem?_eq_some_iff.1 r).1).trans r
 case hA0=>exact fun o O=>((Below.refl _ w1).alloc (Nat.le_refl _) o).alloc (by simp) O
 case hKt=>exact fun V X=>V.trans X
 case hKb=>exact fun W l o O C h r=>KpC.putObj W l o O C h r
 case hps=>exact fun _=>rfl
 case hI =>
  refine OwnFrom.and (Own.from ?_ _) (ownFrom_below (by omega) (by omega))
  exact jx _ _ (fun a:List TV=>#[.int .i64 a.length])
 case hIx=>exact fun c s A B af h _ _=>h.elim
 case hIM=>exact fun s A B h z=>⟨h.1.below z h.1.lt,h.2.trans (z.mono h.2.size)⟩
 case hIxM=>exact fun c s A B h _=>h.elim
 case h0=>exact ⟨Q,H⟩
 case hCt=>exact fun _ _ _ _=>trivial
 case hAx=>exact fun _ _ _ _ _ _ _ h _ _=>h
 case assign =>
  intro l a y W K hI hT Z
  have J:a.length<t.count:=by
   have:=hT.1.length_le
   rw [List.map_append,List.length_append,List.length_map,I]at this
   exact this
  unfold zbd
  gi_wp2
  exact Z _ _ (KeepsFrom.refl _ _) (KpC.refl _ _ _) hI ⟨J,rfl⟩
 case body =>
  rintro l a y P W C ad ⟨f,m⟩ ⟨J,rfl⟩
  have U:=f.cell 0
  have y2:=f.frozen 0
  have e1:wrap64 ((a.length:Int)+1)=((a.length+1:Nat):Int):=by
   rw [← IntWalk.i64_left]
   exact IntWalk.i64_in _ (by omega)
  gi_wp2
  refine ⟨KeepsFrom.of_grownBy (jm W (w.heap.size+1) 0 _) (fun j e=>by cases e; omega),KpC.setCell _ _ _ _ rfl,?_,m.setCell (Nat.le_succ _) _⟩
  have:=f.set 0 (.int .i64 ((a.length:Int)+1))
  rw [List.length_append]
  exact this
 case hS=>exact fun _ _ _ _ h _ _=>h
 case hSp=>exact fun _ _ _ _ h _ _=>h
 case done =>
  rintro D xs W hD ⟨hS,_⟩ ⟨f,m⟩ T
  have N:xs.length=t.count:=by
   rw [← I,← hS,List.length_map]
  have U:=f.cell 0
  rw [N]at U
  go_wp2_with fail
  refine leave1 (v:=.int .i64 (t.count:Nat)) T (by simp [results,Tryz.results17,go_sem]) rfl ⟨rfl,jX m (by omega) m.size _⟩
 case stop=>exact fun D c a W _ _ h _=>h.elim
end
end Go.Proofs.YtonihophanmaaaaGreatDoor
