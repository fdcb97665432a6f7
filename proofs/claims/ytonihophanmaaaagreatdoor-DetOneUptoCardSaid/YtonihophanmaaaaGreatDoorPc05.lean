/- The texts DtJ, HeadA, HeadL, HeadM, HeadD, HeadP, put together. -/
import Derived.Test.YtonihophanmaaaaGreatDoorPc04
import Derived.Sort.Statements
import Derived.Test.YtonihophanmaaaaGreatDoorPc01
import Derived.Lib.Hide
import Derived.Outline
set_option maxHeartbeats 1000000
set_option maxRecDepth 100000
namespace Go.Proofs.YtonihophanmaaaaGreatDoor
open Go.RowKit Go.Shelf
theorem extract_all {α:Type} (d:Array α) (n:Nat) (h:d.size=n):d.extract 0 n=d:=by
 rw [← h,Array.extract_size]
theorem zhM {α:Type} [Inhabited α] {d d':Array α} (hp:Go.Sort.PermIn 0 d.size d d'):d'.toList.Perm d.toList:=by
 obtain ⟨h1,_,h2⟩:=hp
 rwa [extract_all d _ rfl,extract_all d' _ h1]at h2
variable (it:Tr→List UInt8)
theorem zgw {α:Type} [Inhabited α] (key:α→Tr×Tr) (lt:α→α→Bool) (hlt:∀ x y,lt x y=decide (it (key x).1<it (key y).1)) {d d':Array α} (hp:Go.Sort.PermIn 0 d.size d d')
  (hs:Go.Sort.SortedIn lt 0 d.size d') (ha:jP it (d.toList.map key)):d'.toList.map key=j8 it (d.toList.map key):=by
 have h1:=(zhM hp).map key
 have h2:jP it (d'.toList.map key):=zhZ it h1.symm ha
 refine zbC it _ _ (h1.trans (qI it _).symm) ?_ (vz it _ ha)
 have hz:d'.toList.length=d.size:=by
  rw [Array.length_toList]
  exact hp.1
 unfold xG jP at *
 rw [List.pairwise_iff_getElem]at h2 ⊢
 intro i j hi hj hij
 have h3:=h2 i j hi hj hij
 rw [List.length_map,hz]at hi hj
 have h4:=hs i j (Nat.zero_le _) hij hj
 rw [hlt]at h4
 have h5:=of_decide_eq_false h4
 have ei:d'[i]! = d'.toList[i]'(by omega):=by
  rw [getElem!_pos d' i (by rw [hp.1]; exact hi)]
  exact (Array.getElem_toList _).symm
 have ej:d'[j]! = d'.toList[j]'(by omega):=by
  rw [getElem!_pos d' j (by rw [hp.1]; exact hj)]
  exact (Array.getElem_toList _).symm
 rw [ei,ej]at h5
 rw [List.getElem_map,List.getElem_map]at h3 ⊢
 rcases ziA h3 with h | h
 ·exact h
 ·exact absurd h h5
end Go.Proofs.YtonihophanmaaaaGreatDoor
namespace Go.Proofs.YtonihophanmaaaaGreatDoor
open Go.RowKit Go.Shelf
theorem zda (w:World) :
  Calls Tryz.prog 201 #[] w fun e w'=>e=.returned (.agg #[.int .i64 24,.int .i64 1,.int .i64 25,.int .i64 2,.int .i64 26,.int .i64 4,.int .i64 27,.int .i64 8])∧Below w.heap.size w w':=by
 go_enter Tryz.func201,Tryz.ntmps201
 go_wp2
 exact bodyPost_ret (v:=.agg #[.int .i64 24,.int .i64 1,.int .i64 25,.int .i64 2,.int .i64 26,.int .i64 4,.int .i64 27,.int .i64 8]) (by simp [results,Tryz.results201,go_sem]) rfl ⟨rfl,(Below.refl _ _).alloc (Nat.le_refl _) _⟩
theorem zfM (n:Int) (w:World) :
  Calls Tryz.prog 282 #[.int .u64 n] w fun e w'=>e=.returned (.func (.func 292) #[] #[.pointer (some ⟨w.heap.size,0,none⟩)])∧w.alloc (.cells #[.int .u64 n] 25)=w':=by
 go_enter Tryz.func282,Tryz.ntmps282
 go_wp2
 go_ret
 exact ⟨rfl,rfl⟩
attribute [local go_sem] Oper.semAt_some
attribute [local go_sem] qi jA
def qO:List (Int×Int):=[(24,1),(25,2),(26,4),(27,8)]
def xJ (n:Int) (s:Int×Int):Bool:=decide (8≤s.2) || decide (n<2 ^ (8*s.2.toNat))
def zX (n:Int) (k:Nat):List (Int×Int):=(qO.take k).filter (xJ n)
theorem zfE {n:Int} (h:n<256):zX n 1=zX n 0++[(24,1)]:=by simp [zX,qO,xJ,List.filter,h]
theorem zjz {n:Int} (h:¬ n<256):zX n 1=zX n 0:=by simp [zX,qO,xJ,List.filter,h]
theorem zfF {n:Int} (h:n<65536):zX n 2=zX n 1++[(25,2)]:=by
 by_cases a:n<256 <;> simp [zX,qO,xJ,List.filter,h,a]
theorem zjA {n:Int} (h:¬ n<65536):zX n 2=zX n 1:=by
 by_cases a:n<256 <;> simp [zX,qO,xJ,List.filter,h,a]
theorem zfG {n:Int} (h:n<4294967296):zX n 3=zX n 2++[(26,4)]:=by
 by_cases a:n<256 <;> by_cases b:n<65536 <;> simp [zX,qO,xJ,List.filter,h,a,b]
theorem zjB {n:Int} (h:¬ n<4294967296):zX n 3=zX n 2:=by
 by_cases a:n<256 <;> by_cases b:n<65536 <;> simp [zX,qO,xJ,List.filter,h,a,b]
theorem zcq (n:Int):zX n 4=zX n 3++[(27,8)]:=by
 by_cases a:n<256 <;> by_cases b:n<65536 <;> by_cases c:n<4294967296 <;> simp [zX,qO,xJ,List.filter,a,b,c]
theorem yn (n:Int) (k:Nat) (h:k≤4):zX n k <+: zX n 4:=by
 unfold zX
 exact (List.take_prefix_take_left h).filter _
theorem wt (n:Int) (k:Nat):(zX n k).length≤k:=Nat.le_trans (List.length_filter_le _ _) (List.length_take_le _ _)
theorem znx (w:World):(Instr.index 230 (.agg #[.int .i64 24,.int .i64 1,.int .i64 25,.int .i64 2,.int .i64 26,.int .i64 4,.int .i64 27,.int .i64 8]) (.int .i64 0)).run Tryz.prog w=.ok (.agg #[.int .i64 24,.int .i64 1]) w:=by kernel_rfl
theorem zny (w:World):(Instr.index 230 (.agg #[.int .i64 24,.int .i64 1,.int .i64 25,.int .i64 2,.int .i64 26,.int .i64 4,.int .i64 27,.int .i64 8]) (.int .i64 1)).run Tryz.prog w=.ok (.agg #[.int .i64 25,.int .i64 2]) w:=by kernel_rfl
theorem znz (w:World):(Instr.index 230 (.agg #[.int .i64 24,.int .i64 1,.int .i64 25,.int .i64 2,.int .i64 26,.int .i64 4,.int .i64 27,.int .i64 8]) (.int .i64 2)).run Tryz.prog w=.ok (.agg #[.int .i64 26,.int .i64 4]) w:=by kernel_rfl
theorem znA (w:World):(Instr.index 230 (.agg #[.int .i64 24,.int .i64 1,.int .i64 25,.int .i64 2,.int .i64 26,.int .i64 4,.int .i64 27,.int .i64 8]) (.int .i64 3)).run Tryz.prog w=.ok (.agg #[.int .i64 27,.int .i64 8]) w:=by kernel_rfl
theorem zeT (m l b I:Nat) (n:Int) (U:0≤n) (S:n<18446744073709551616) (J K:List (Int×Int)→World→Prop)
  (N:∀ s (A B:World),J s A→A.grownBy B none→J s B)
  (D:∀ r x W,J r W→r.length<4→YieldAt Fence.wide (m - 1) Tryz.prog l #[.agg #[.int .i64 x.1,.int .i64 x.2]] W fun e C =>
   (e=.returned (.bool true)∧J (r++[x]) C∧Below I W C)∨(e=.returned (.bool false)∧K (r++[x]) C))
  (W:World) (E:b<I) (X:I≤W.heap.size) (L:W.cell? ⟨b,0,none⟩=some (.int .u64 n)) (R:J [] W) :
  CallsIn Fence.wide m Tryz.prog 292 #[.func (.yield l) #[] #[],.pointer (some ⟨b,0,none⟩)] W fun e C=>(∃ v,e=.returned v) ∧
   ((∃ Q,Q=zX n 4∧J Q C)∨(∃ r,r <+: zX n 4∧K r C)):=by
 have Z:=znx
 have i1:=zny
 have i2:=znz
 have T:=znA
 refine callsIn_of_wp Tryz.func292 rfl trivial ?_ rfl
 simp only [Tryz.ntmps292,List.size_toArray,List.length_cons,List.length_nil,Nat.reduceAdd,Nat.reduceSub,Array.replicate_succ,Array.replicate_zero,List.push_toArray,List.append_toArray,List.nil_append,List.cons_append]
 gi_wp2_with (gi_at_call 201; refine (callsIn_wide.2 (zda _)).mono ?_; rintro e w1 ⟨rfl,t⟩)
 gi_loopw [6] (fun i wr=>∃ k:Nat,k≤4∧i=.int .i64 k∧J (zX n k) wr∧wr.cell? ⟨b,0,none⟩=some (.int .u64 n)) (fun i _=>4 - (intOf i).toNat)
 case atStart=>exact ⟨0,by omega,rfl,N _ _ _ R ⟨t.os,t.tape,t.output,t.size,fun k P _=>t.block k P⟩,(t.cell (p:=⟨b,0,none⟩) (by simp; omega)).trans L⟩
 case round =>
  obtain ⟨k,P,rfl,O,hc⟩:=hrel
  by_cases V:k<4
  ·have M:b<wr.heap.size:=by
    unfold World.cell? at hc
    rcases Nat.lt_or_ge b wr.heap.size with h | h
    ·exact h
    ·simp [Array.getElem?_eq_none h]at hc
   have f:∀ o,(wr.alloc o).cell? ⟨b,0,none⟩=some (.int .u64 n):=fun o=>by
    rw [← hc]; exact World.cell?_of_block (Below.heap_alloc wr o b M)
   have j:∀ o,J (zX n k) (wr.alloc o):=fun o=>N _ _ _ O (World.grownBy_alloc wr o none)
   obtain rfl|rfl|rfl|rfl:k=0∨k=1∨k=2∨k=3:=by omega
   ·by_cases g:n<256
    ·have u:(n / 256 != 0)=false:=by rw [bne_eq_false_iff_eq]; omega
     obtain ⟨G,z,c,w,H,y⟩:=D (zX n 0) (24,1) _ (j (Obj.cells #[Value.int IntKind.i64 24,Value.int IntKind.i64 1] 229)) (Nat.lt_of_le_of_lt (wt _ _) (by decide))
     gi_wp2
     refine y.mono ?_
     rintro e F (⟨rfl,d,q⟩ | ⟨rfl,a⟩)
     ·gi_wp2
      go_roundw
      case rel=>exact ⟨1,by omega,rfl,by rw [zfE g]; exact d,(q.cell (p:=⟨b,0,none⟩) E).trans (f _)⟩
      case measure=>simp [intOf]
     ·gi_wp2
      refine bodyPost_ret (results_none rfl _ _ _) rfl ?_
      exact ⟨⟨_,rfl⟩,.inr ⟨_,by rw [← zfE g]; exact yn _ _ (by omega),a⟩⟩
    ·have u:(n / 256 != 0)=true:=by rw [bne_iff_ne]; omega
     gi_wp2
     go_roundw
     case rel=>exact ⟨1,by omega,rfl,by rw [zjz g]; exact j _,f _⟩
     case measure=>simp [intOf]
   ·by_cases g:n<65536
    ·have u:(n / 65536 != 0)=false:=by rw [bne_eq_false_iff_eq]; omega
     obtain ⟨G,z,c,w,H,y⟩:=D (zX n 1) (25,2) _ (j (Obj.cells #[Value.int IntKind.i64 25,Value.int IntKind.i64 2] 229)) (Nat.lt_of_le_of_lt (wt _ _) (by decide))
     gi_wp2
     refine y.mono ?_
     rintro e F (⟨rfl,d,q⟩ | ⟨rfl,a⟩)
     ·gi_wp2
      go_roundw
      case rel=>exact ⟨2,by omega,rfl,by rw [zfF g]; exact d,(q.cell (p:=⟨b,0,none⟩) E).trans (f _)⟩
      case measure=>simp [intOf]
     ·gi_wp2
      refine bodyPost_ret (results_none rfl _ _ _) rfl ?_
      exact ⟨⟨_,rfl⟩,.inr ⟨_,by rw [← zfF g]; exact yn _ _ (by omega),a⟩⟩
    ·have u:(n / 65536 != 0)=true:=by rw [bne_iff_ne]; omega
     gi_wp2
     go_roundw
     case rel=>exact ⟨2,by omega,rfl,by rw [zjA g]; exact j _,f _⟩
     case measure=>simp [intOf]
   ·by_cases g:n<4294967296
    ·have u:(n / 4294967296 != 0)=false:=by rw [bne_eq_false_iff_eq]; omega
     obtain ⟨G,z,c,w,H,y⟩:=D (zX n 2) (26,4) _ (j (Obj.cells #[Value.int IntKind.i64 26,Value.int IntKind.i64 4] 229)) (Nat.lt_of_le_of_lt (wt _ _) (by decide))
     gi_wp2
     refine y.mono ?_
     rintro e F (⟨rfl,d,q⟩ | ⟨rfl,a⟩)
     ·gi_wp2
      go_roundw
      case rel=>exact ⟨3,by omega,rfl,by rw [zfG g]; exact d,(q.cell (p:=⟨b,0,none⟩) E).trans (f _)⟩
      case measure=>simp [intOf]
     ·gi_wp2
      refine bodyPost_ret (results_none rfl _ _ _) rfl ?_
      exact ⟨⟨_,rfl⟩,.inr ⟨_,by rw [← zfG g]; exact yn _ _ (by omega),a⟩⟩
    ·have u:(n / 4294967296 != 0)=true:=by rw [bne_iff_ne]; omega
     gi_wp2
     go_roundw
     case rel=>exact ⟨3,by omega,rfl,by rw [zjB g]; exact j _,f _⟩
     case measure=>simp [intOf]
   ·have Y:=T
    obtain ⟨G,z,c,w,H,y⟩:=D (zX n 3) (27,8) _ (j (Obj.cells #[Value.int IntKind.i64 27,Value.int IntKind.i64 8] 229)) (Nat.lt_of_le_of_lt (wt _ _) (by decide))
    gi_wp2
    refine y.mono ?_
    rintro e F (⟨rfl,d,q⟩ | ⟨rfl,a⟩)
    ·gi_wp2
     go_roundw
     case rel=>exact ⟨4,by omega,rfl,by rw [zcq]; exact d,(q.cell (p:=⟨b,0,none⟩) E).trans (f _)⟩
     case measure=>simp [intOf]
    ·gi_wp2
     refine bodyPost_ret (results_none rfl _ _ _) rfl ?_
     exact ⟨⟨_,rfl⟩,.inr ⟨_,by rw [← zcq]; exact yn _ _ (by omega),a⟩⟩
  ·obtain rfl:k=4:=by omega
   gi_wp2
   go_end0
   exact ⟨⟨_,rfl⟩,.inl ⟨_,rfl,O⟩⟩
theorem zbm (m a b:Nat) (n:Int) (d:0≤n) (c:n<18446744073709551616) (w:World) (q:a<b) (g:b≤w.heap.size) (hc:w.cell? ⟨a,0,none⟩=some (.int .u64 n)) :
  SeqStopsK Fence.wide m Tryz.prog 292 #[.pointer (some ⟨a,0,none⟩)] (fun x:Int×Int=>#[Value.agg #[.int .i64 x.1,.int .i64 x.2]]) (Below b) (fun v=>v=zX n 4) (fun h=>h <+: zX n 4) 4 w:=fun l J i W f k _ o j =>
 zeT m l a b n d c J i (fun s A B u t=>k s A B none u t (fun r e=>by cases e)) o W q (Nat.le_trans g f.size) ((f.cell (p:=⟨a,0,none⟩) (by simp; omega)).trans hc) j
end Go.Proofs.YtonihophanmaaaaGreatDoor
namespace Go.Proofs.YtonihophanmaaaaGreatDoor
open Go.RowKit Go.Shelf
attribute [local go_sem] Oper.semAt_some qi jA
def leastOf (n:Int):Int×Int:=if n<24 then (n,0) else if n<256 then (24,1) else if n<65536 then (25,2) else if n<4294967296 then (26,4) else (27,8)
theorem zim (n:Int) (H:0≤n) (E:n<18446744073709551616) (w:World) :
  Calls Tryz.prog 267 #[.int .u64 n] w fun e w'=>e=.returned (.agg #[.int .i64 (leastOf n).1,.int .i64 (leastOf n).2])∧Below w.heap.size w w':=by
 refine jo Tryz.func267 rfl ?_
 simp only [Tryz.ntmps267,List.size_toArray,List.length_cons,List.length_nil,Nat.reduceAdd,Nat.reduceSub,Array.replicate_succ,Array.replicate_zero,List.push_toArray,List.append_toArray,List.nil_append,List.cons_append]
 by_cases I:n<24
 ·go_wp2
  go_step3
  go_wp2
  rw [Exit.noGoto_ret]
  exact leave0 (v:=.agg #[.int .i64 n,.int .i64 0]) (by simp [results,Tryz.results267,go_sem]) rfl ⟨by simp [leastOf,I],((Below.refl _ _).alloc (Nat.le_refl _) _).alloc (by simp) _⟩
 ·go_wp2
  go_step3
  go_wp2
  go_step3
  go_wp2_with (go_at_call 282; refine (zfM _ _).mono ?_; rintro e w' ⟨rfl,rfl⟩)
  have A:=Blk.new ((w.alloc (Obj.cells #[Value.int IntKind.i64 0,Value.int IntKind.i64 0] 229)).alloc (Obj.cells #[Value.int IntKind.i64 (wrap64 n),Value.int IntKind.i64 0] 229)) #[.int .u64 n] 25
  have C:=((Blk.new w #[Value.int IntKind.i64 0,Value.int IntKind.i64 0] 229).alloc (Obj.cells #[Value.int IntKind.i64 (wrap64 n),Value.int IntKind.i64 0] 229)).alloc (Obj.cells #[Value.int .u64 n] 25)
  have B:=(Blk.new (w.alloc (Obj.cells #[Value.int IntKind.i64 0,Value.int IntKind.i64 0] 229)) #[Value.int IntKind.i64 (wrap64 n),Value.int IntKind.i64 0] 229).alloc (Obj.cells #[Value.int .u64 n] 25)
  have t:Below w.heap.size w (((w.alloc (Obj.cells #[Value.int IntKind.i64 0,Value.int IntKind.i64 0] 229)).alloc (Obj.cells #[Value.int IntKind.i64 (wrap64 n),Value.int IntKind.i64 0] 229)).alloc (Obj.cells #[Value.int IntKind.u64 n] 25)):=(((Below.refl _ w).alloc (Nat.le_refl _) _).alloc (by simp) _).alloc (by simp; omega) _
  have O:(((w.alloc (Obj.cells #[Value.int IntKind.i64 0,Value.int IntKind.i64 0] 229)).alloc (Obj.cells #[Value.int IntKind.i64 (wrap64 n),Value.int IntKind.i64 0] 229)).alloc (Obj.cells #[Value.int IntKind.u64 n] 25)).heap.size=w.heap.size+3:=by simp
  simp only [World.size_alloc]at A B C
  obtain ⟨W0,y⟩:∃ W0,((w.alloc (Obj.cells #[Value.int IntKind.i64 0,Value.int IntKind.i64 0] 229)).alloc (Obj.cells #[Value.int IntKind.i64 (wrap64 n),Value.int IntKind.i64 0] 229)).alloc (Obj.cells #[Value.int IntKind.u64 n] 25)=W0:=⟨_,rfl⟩
  rw [y]at A B C t O ⊢
  clear y
  refine wZ (gf:=292) (lb:=#[.pointer (some ⟨w.heap.size+1+1,0,none⟩)]) rfl (enters_of Tryz.func292 (by kernel_rfl) rfl)
   (zbm 8 (w.heap.size+1+1) (w.heap.size+3) n H E W0 (by omega) (by omega) ((A.cell 0).trans rfl)) (by omega) (Below.refl _ _) (fun _=>rfl)
   (fun h W=>(h=[]∧Blk W w.heap.size #[.int .i64 0,.int .i64 0] 229∧Blk W (w.heap.size+1) #[.int .i64 (wrap64 n),.int .i64 0] 229)∧Below w.heap.size W0 W)
   (fun c h W=>(c=.exit 0∧∃ x:Int×Int,h=[x]∧Blk W w.heap.size #[.int .i64 0,.int .i64 0] 229∧Blk W (w.heap.size+1) #[.int .i64 x.1,.int .i64 x.2] 229)∧Below w.heap.size W0 W)
   ?hI ?hIx ⟨⟨rfl,C,B⟩,Below.refl _ _⟩
   (fun T x z W=>∃ m,w.heap.size+1<m∧Blk W m #[.int .i64 x.1,.int .i64 x.2] 229∧z={ tmps:=(T.setIfInBounds 13 (.agg #[.int .i64 x.1,.int .i64 x.2])).setIfInBounds 4 (.pointer (some ⟨m,0,none⟩)),defers:=[] })
   ?hAx ?assign ?body ?done ?stop
  case hI =>
   refine OwnFrom.and (Own.from ?_ _) (ownFrom_below (by omega) (by omega))
   rintro s X Y f ⟨b,a,g⟩ k i
   exact ⟨b,jx _ _ (fun _:Unit=>_) () X Y f a k i,jx _ _ (fun _:Unit=>_) () X Y f g k i⟩
  case hIx =>
   intro c
   refine OwnFrom.and (Own.from ?_ _) (ownFrom_below (by omega) (by omega))
   rintro s X Y f ⟨b,x,p,a,g⟩ k i
   exact ⟨b,x,p,jx _ _ (fun _:Unit=>_) () X Y f a k i,jx _ _ (fun _:Unit=>_) () X Y f g k i⟩
  case hAx =>
   rintro x z _ X Y f ⟨m,b,a,g⟩ k i
   exact ⟨m,b,jx _ _ (fun _:Unit=>_) () X Y f a k (fun r e=>(i r e).2),g⟩
  case assign =>
   rintro l h x W K ⟨⟨d,b,a⟩,j⟩ o
   have P:=Lib.hid o
   clear o
   have U:=j.size
   gi_wp2
   exact P.out _ _ ((KeepsOthers.alloc _ _).from _) ((Below.refl _ _).alloc (by omega) _) ⟨⟨d,b.alloc _,a.alloc _⟩,j.alloc (by omega) _⟩ ⟨W.heap.size,a.lt,Blk.new _ _ _,rfl⟩
  case body =>
   rintro l h x z W hl ⟨r,i⟩ ⟨⟨rfl,b,a⟩,j⟩ ⟨m,V,G,rfl⟩ Z
   have ac:=G.cell 0
   have ad:=G.cell 1
   have J:=a.cell 0
   have L:=a.cell 1
   have S:=a.frozen
   simp only [List.setIfInBounds_toArray,List.set_cons_zero,List.set_cons_succ]
   gi_wp2
   exact ⟨((KeepsOthers.setCell _ _ _).trans (KeepsOthers.setCell _ _ _)).from _,⟨rfl,x,rfl,(b.other (by omega) _ _).other (by omega) _ _,(a.set 0 _).set 1 _⟩,(j.setCell (by simp) _).setCell (by simp) _⟩
  case done =>
   rintro D ys W R rfl ⟨⟨d,_⟩,_⟩ o
   exact absurd d (by rw [zcq]; simp)
  case stop =>
   rintro D c h W R d ⟨⟨rfl,x,rfl,b,a⟩,j⟩ o
   have J:=a.cell 0
   have L:=a.cell 1
   have aa:=b.cell 0
   have ab:=b.cell 1
   have S:=b.frozen
   have p:x=leastOf n:=by
    unfold leastOf
    rw [if_neg (by omega)]
    by_cases b:n<256
    ·rw [if_pos b]
     simp [zX,qO,xJ,List.filter,b]at d; exact d
    ·rw [if_neg b]
     by_cases a:n<65536
     ·rw [if_pos a]
      simp [zX,qO,xJ,List.filter,b,a]at d; exact d
     ·rw [if_neg a]
      by_cases g:n<4294967296
      ·rw [if_pos g]
       simp [zX,qO,xJ,List.filter,b,a,g]at d; exact d
      ·rw [if_neg g]
       simp [zX,qO,xJ,List.filter,b,a,g]at d; exact d
   have Q:=Lib.hid p
   clear p
   go_wp2
   rw [Exit.noGoto_ret]
   have F:=(b.set 0 (Value.int IntKind.i64 x.fst)).set 1 (Value.int IntKind.i64 x.snd)
   have u:((W.setCell { block:=w.heap.size,off:=0 } (Value.int IntKind.i64 x.fst)).setCell { block:=w.heap.size,off:=1 } (Value.int IntKind.i64 x.snd)).heap[D]? = some (.deferred (some [])):=
    ((Below.heap_setCell _ _ _ D (by simp; omega)).trans (Below.heap_setCell _ _ _ D (by simp; omega))).trans o
   have q:=F.shut u rfl (.deferred none)
   have M:=q.cell 0
   have N:=q.cell 1
   refine leave1 (v:=.agg #[.int .i64 x.1,.int .i64 x.2]) u (by simp [results,Tryz.results267,go_sem,M,N]) rfl ⟨by rw [Q.out],?_⟩
   have U:=j.size
   exact jX (t.trans ((j.setCell (by simp) _).setCell (by simp) _)) (by omega) (by simp [World.setCell]; omega) _
end Go.Proofs.YtonihophanmaaaaGreatDoor
namespace Go.Proofs.YtonihophanmaaaaGreatDoor
open Go.RowKit Go.Shelf
theorem zeV (n:Int) (a:0≤n):0≤(leastOf n).1∧(leastOf n).1≤27∧0≤(leastOf n).2∧(leastOf n).2≤8:=by
 unfold leastOf
 split
 ·exact ⟨a,by omega,by omega,by omega⟩
 ·split <;> (try split) <;> (try split) <;> simp
theorem Tryz.info8:(Tryz.prog.info? 5).map (fun i=>(i.zero,i.size,i.bytes))=some (some (.int .u8 0),1,1):=by kernel_rfl
theorem zil (base n:Nat) (v:Value) (l:List UInt8) (w:World) (h:w.ownsRow base 5 1 v n (qM l)) :
  Calls Tryz.prog 268 #[v] w fun e w'=>e=.returned (.string ⟨l.toArray⟩)∧w=w':=by
 have a:=zdZ (P:=Tryz.prog) (src:=95) (dst:=9) Tryz.underlying95 Tryz.underlying5 Tryz.underlying9 h
 go_enter Tryz.func268,Tryz.ntmps268
 go_wp2
 go_ret
 exact ⟨rfl,rfl⟩
def jG (maj info:Nat):UInt8:=UInt8.ofNat (32*maj+info)
def qe (n k i:Nat):UInt8:=UInt8.ofNat (n / 2 ^ (8*(k - 1 - i)))
theorem jU (n k i:Nat):((n:Int) / 2 ^ (8*(k - 1 - i)) % 256)=((qe n k i).toNat:Int):=by
 unfold qe
 rw [UInt8.toNat_ofNat',Int.natCast_emod,Int.natCast_ediv,Int.natCast_pow]
 rfl
def beBytes (n k:Nat):List UInt8:=(List.range k).map (qe n k)
def zF (n:Nat):Nat×Nat:=((leastOf n).1.toNat,(leastOf n).2.toNat)
def zY (maj n:Nat):List UInt8:=jG maj (zF n).1::beBytes n (zF n).2
theorem zh0 (maj info:Nat) (h:maj≤7) (a:info≤31):bits BinOp.or IntKind.i64 ((maj:Int)*32) (info:Int) % 256=((jG maj info).toNat:Int):=by
 have:∀ m:Fin 8,∀ i:Fin 32,bits BinOp.or IntKind.i64 (((m.val:Nat):Int)*32) ((i.val:Nat):Int) % 256=((jG m.val i.val).toNat:Int):=by decide +kernel
 exact this ⟨maj,by omega⟩ ⟨info,by omega⟩
theorem zjG (maj n:Nat) (s:maj≤7) (hn:n<18446744073709551616) (w:World) :
  Calls Tryz.prog 244 #[.int .i64 maj,.int .u64 n] w fun e w'=>e=.returned (.tuple #[.string ⟨(zY maj n).toArray⟩,.int .i64 0])∧Below w.heap.size w w':=by
 have l:=zeV n (by omega)
 obtain ⟨info,a⟩:∃ info:Nat,(leastOf n).1=info:=⟨(leastOf n).1.toNat,by omega⟩
 obtain ⟨k,p⟩:∃ k:Nat,(leastOf n).2=k:=⟨(leastOf n).2.toNat,by omega⟩
 have r:=zim n (by omega) (by omega)
 have m:zY maj n=jG maj info::beBytes n k:=by simp [zY,zF,a,p]
 rw [m]
 rw [a,p]at l r
 have u:=zh0 maj info s (by omega)
 have C:=Lib.hid r
 have B:=Lib.hid u
 clear r u a p m
 have I:k≤8:=by omega
 have H:info≤27:=by omega
 clear l
 obtain ⟨F,E,x,y,z⟩:=info_parts Tryz.info8
 go_enter Tryz.func244,Tryz.ntmps244
 go_wp2_with (go_at_call 267; refine (C.out _).mono ?_; rintro e t ⟨rfl,c⟩)
 have h:((t.alloc (Obj.cells #[Value.int IntKind.i64 ↑info,Value.int IntKind.i64 ↑k] 229)).alloc (Obj.cells #[Value.int IntKind.u8 (bits BinOp.or IntKind.i64 ((maj:Int)*32) ↑info % 256)] 5)).ownsRow w.heap.size 5 1 (.slice (some ⟨t.heap.size+1,0,none⟩) 1 1) 1 (qM [jG maj info]):=by
  rw [B.out]
  have:=World.ownsRow_lit (base:=w.heap.size) (e:=5) (size:=1) (t.alloc (Obj.cells #[Value.int IntKind.i64 ↑info,Value.int IntKind.i64 ↑k] 229)) #[Value.int IntKind.u8 ↑(jG maj info).toNat] 1 (by have:=c.size; simp; omega) (by decide) rfl
  simpa [qM] using this
 go_loopw [7,8] (fun v i wr=>∃ j:Nat,j≤k∧i=.int .i64 ((k:Int) - 1 - j)∧wr.ownsRow w.heap.size 5 1 v (1+j) (qM (jG maj info::(beBytes n k).take j))∧Below w.heap.size w wr) (fun _ i _=>(intOf i+1).toNat)
 case atStart=>exact ⟨0,by omega,by simp,by simpa using h,(c.alloc c.size _).alloc (by have:=c.size; simp; omega) _⟩
 case round =>
  obtain ⟨j,K,rfl,b,f⟩:=hrel
  by_cases J:j<k
  ·have A:=Lib.hid (jU n k j)
   have G:=f.size
   have D:=Lib.hid (show qM (jG maj info::(beBytes n k).take j)++[Value.int .u8 ((qe n k j).toNat:Int)]=qM (jG maj info::(beBytes n k).take (j+1)) by
    rw [List.take_succ_eq_append_getElem (by simp [beBytes]; omega)]; simp [qM,beBytes])
   go_wp2_with (at_builtin; refine wpList_append_own _ rfl _ _ 95 rfl w.heap.size 5 F (.int .u8 0) 1 1 Tryz.underlying95 E x y z rfl (by decide) _ _ _ rfl (b.alloc _) ⟨wr.heap.size,0,none⟩ 1 1 [.int .u8 ((n:Int) / 2 ^ (8*(k - 1 - j)) % 256)] rfl rfl (cell_one_new _ _ _) (by simp [Value.oneCell']) (by unfold maxLen; omega) (by omega) (by simp; omega) ?_; intro L w2 d g _)
   have o:Below w.heap.size w w2:=(f.alloc (by omega) _).grown g (by simp; omega) (fun q e=>(b.lt q e).1)
   rw [A.out,D.out]at d
   go_roundw
   case rel=>exact ⟨j+1,by omega,by go_num,by rw [show 1+(j+1)=1+j+1 by omega]; exact d,o⟩
   case measure=>simp [intOf]; omega
  ·obtain rfl:j=k:=by omega
   rw [List.take_of_length_le (by simp [beBytes])]at b
   go_wp2_with (go_at_call 268; refine (zil _ _ _ _ _ b).mono ?_; rintro e w2 ⟨rfl,rfl⟩)
   go_ret2
   exact ⟨rfl,f⟩
end Go.Proofs.YtonihophanmaaaaGreatDoor
namespace Go.Proofs.YtonihophanmaaaaGreatDoor
def xx (l:List UInt8):Nat:=l.foldl (fun a b=>a*256+b.toNat) 0
structure zme where
 maj:Nat
 info:Nat
 arg:Nat
 rest:List UInt8
 err:Nat
def xd (l:List UInt8):zme:=
 match l with
 | []=>⟨0,0,0,[],100⟩
 | b::r =>
  if b.toNat % 32<24 then ⟨b.toNat / 32,b.toNat % 32,b.toNat % 32,r,0⟩
  else if b.toNat % 32=31 then ⟨b.toNat / 32,31,0,r,0⟩
  else if 27<b.toNat % 32 then ⟨0,0,0,l,101⟩
  else if r.length<2 ^ (b.toNat % 32 - 24) then ⟨0,0,0,l,100⟩
  else ⟨b.toNat / 32,b.toNat % 32,xx (r.take (2 ^ (b.toNat % 32 - 24))),r.drop (2 ^ (b.toNat % 32 - 24)),0⟩
theorem zaj (l:List UInt8) (b:UInt8):xx (l++[b])=xx l*256+b.toNat:=by simp [xx]
theorem zbs (n:Nat) (h:n<24):zF n=(n,0):=by
 unfold zF leastOf; rw [if_pos (by omega)]; simp
theorem zfY (n:Nat) (h:¬ n<24) (a:n<256):zF n=(24,1):=by
 unfold zF leastOf; rw [if_neg (by omega),if_pos (by omega)]; rfl
theorem zln (n:Nat) (a:¬ n<256) (b:n<65536):zF n=(25,2):=by
 unfold zF leastOf; rw [if_neg (by omega),if_neg (by omega),if_pos (by omega)]; rfl
theorem zlo (n:Nat) (a:¬ n<65536) (b:n<4294967296):zF n=(26,4):=by
 unfold zF leastOf; rw [if_neg (by omega),if_neg (by omega),if_neg (by omega),if_pos (by omega)]; rfl
theorem zlp (n:Nat) (a:¬ n<4294967296):zF n=(27,8):=by
 unfold zF leastOf; rw [if_neg (by omega),if_neg (by omega),if_neg (by omega),if_neg (by omega)]; rfl
def zmp (n info k:Nat):Prop:=(n<24∧info=n∧k=0)∨(24≤n∧24≤info∧info≤27∧k=2 ^ (info - 24)∧n<2 ^ (8*k)∧(info=24∨2 ^ (8*2 ^ (info - 25))≤n))
theorem vV (n:Nat) (hn:n<18446744073709551616):zmp n (zF n).1 (zF n).2:=by
 by_cases h:n<24
 ·rw [zbs n h]; exact .inl ⟨h,rfl,rfl⟩
 ·by_cases a:n<256
  ·rw [zfY n h a]; exact .inr ⟨by omega,by decide,by decide,rfl,a,.inl rfl⟩
  ·by_cases b:n<65536
   ·rw [zln n a b]; exact .inr ⟨by omega,by decide,by decide,rfl,b,.inr (by show 256≤n; omega)⟩
   ·by_cases c:n<4294967296
    ·rw [zlo n b c]; exact .inr ⟨by omega,by decide,by decide,rfl,c,.inr (by show 65536≤n; omega)⟩
    ·rw [zlp n c]; exact .inr ⟨by omega,by decide,by decide,rfl,hn,.inr (by show 4294967296≤n; omega)⟩
theorem beBytes_length (n k:Nat):(beBytes n k).length=k:=by simp [beBytes]
theorem wW (maj n:Nat):(zY maj n).length=1+(zF n).2:=by simp [zY,beBytes_length]; omega
theorem zc3 (maj info:Nat) (h:maj≤7) (a:info≤31):(jG maj info).toNat=32*maj+info:=by
 unfold jG
 rw [UInt8.toNat_ofNat']
 omega
theorem zfi (n k:Nat):beBytes n (k+1)=beBytes (n / 256) k++[UInt8.ofNat n]:=by
 unfold beBytes
 rw [List.range_succ,List.map_append]
 congr 1
 ·apply List.map_congr_left
  intro i a
  have:i<k:=List.mem_range.1 a
  unfold qe
  rw [show k+1 - 1 - i=(k - 1 - i)+1 by omega,Nat.mul_add,Nat.pow_add,Nat.div_div_eq_div_mul,Nat.mul_comm (2 ^ (8*(k - 1 - i)))]
 ·simp [qe]
theorem zeN (k:Nat):∀ n,n<2 ^ (8*k)→xx (beBytes n k)=n:=by
 induction k with
 | zero=>intro n h; simp at h; subst h; rfl
 | succ k a =>
  intro n h
  rw [zfi,zaj,a (n / 256) (by rw [Nat.mul_add,Nat.pow_add]at h; exact Nat.div_lt_of_lt_mul (by rw [Nat.mul_comm]; exact h))]
  rw [UInt8.toNat_ofNat']
  omega
theorem zkS (l:List UInt8):xx l<2 ^ (8*l.length):=by
 suffices h:∀ (l:List UInt8),xx l.reverse<2 ^ (8*l.length) by
  have:=h l.reverse
  simpa using this
 intro l
 induction l with
 | nil=>decide
 | cons b l a =>
  rw [List.reverse_cons,zaj,List.length_cons,Nat.mul_add,Nat.pow_add]
  have:=b.toNat_lt
  omega
theorem zha (maj info:Nat) (r:List UInt8) (h:maj≤7) (c:info≤31):xd (jG maj info::r) =
  if info<24 then ⟨maj,info,info,r,0⟩
  else if info=31 then ⟨maj,31,0,r,0⟩
  else if 27<info then ⟨0,0,0,jG maj info::r,101⟩
  else if r.length<2 ^ (info - 24) then ⟨0,0,0,jG maj info::r,100⟩
  else ⟨maj,info,xx (r.take (2 ^ (info - 24))),r.drop (2 ^ (info - 24)),0⟩:=by
 have e:=zc3 maj info h c
 have a:(jG maj info).toNat / 32=maj:=by omega
 have b:(jG maj info).toNat % 32=info:=by omega
 unfold xd
 simp only [a,b]
end Go.Proofs.YtonihophanmaaaaGreatDoor
