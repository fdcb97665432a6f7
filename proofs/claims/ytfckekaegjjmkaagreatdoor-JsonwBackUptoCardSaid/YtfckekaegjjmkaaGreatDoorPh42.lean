/- The texts BuildJ, JwA, put together. -/
import Derived.Test.YtfckekaegjjmkaaGreatDoorPh01
import Derived.Test.YtfckekaegjjmkaaGreatDoorChecked
import Derived.Test.YtfckekaegjjmkaaGreatDoorPh04
import Derived.Lib.FrozenHead
import Derived.RegionCalls
import Derived.Test.YtfckekaegjjmkaaGreatDoorPh03
import Derived.Test.YtfckekaegjjmkaaGreatDoorPh15
import Derived.RangeFuncLeaves
import Derived.DefersIn
namespace Go.Proofs.YtfckekaegjjmkaaGreatDoor
open Go.RowKit Go.Shelf

def AtJP (B b:Nat) (pr:Bool) (dp:Int) (p:Value) (bs:List Value) (w:World):Prop:=
 B ≤ b ∧ ∃ v,w.heap[b]? = some (.cells #[p,v,.bool pr,.int .i64 dp] 83 (0,0)) ∧ w.ownsRowF B 5 1 v bs.length bs ∧ v.ownBlock ≠ some b
abbrev AtJ (B b:Nat) (pr:Bool) (dp:Int) (bs:List Value) (w:World):Prop:=AtJP B b pr dp (.pointer (some ⟨b,0,none⟩)) bs w
def IsJ (B b:Nat) (pr:Bool) (dp:Int) (bs:List Value) (w:World):Prop:=AtJP B b pr dp (.pointer none) bs w ∨ AtJ B b pr dp bs w
section
variable {B b:Nat} {pr:Bool} {dp:Int} {p:Value} {bs:List Value} {w:World}
theorem AtJ.is (h:AtJ B b pr dp bs w):IsJ B b pr dp bs w:=.inr h
theorem AtJP.cell0 (h:AtJP B b pr dp p bs w):w.cell? ⟨b,0,none⟩=some p:=by
 obtain ⟨_,v,hb,_⟩:=h
 simp [World.cell?,hb]
theorem AtJP.shape (h:AtJP B b pr dp p bs w):w.shape? b=some (83,4):=by
 obtain ⟨_,v,hb,_⟩:=h
 simp [World.shape?,hb]
theorem AtJP.lt (h:AtJP B b pr dp p bs w):b < w.heap.size:=by
 obtain ⟨_,v,hb,_⟩:=h
 exact (Array.getElem?_eq_some_iff.1 hb).1
theorem AtJP.frozen0 (h:AtJP B b pr dp p bs w):w.frozen? ⟨b,0,none⟩=false:=by
 obtain ⟨_,v,hb,_⟩:=h
 simp [World.frozen?,hb]
theorem AtJP.used (h:AtJP B b pr dp p bs w) (q:Value):AtJP B b pr dp q bs (w.setCell ⟨b,0,none⟩ q):=by
 obtain ⟨hB,v,hb,hown,hne⟩:=h
 refine ⟨hB,v,?_,?_,hne⟩
 ·simp [World.setCell,Array.getElem?_modify,hb]
 ·exact hown.kept (row:=some b) ⟨rfl,rfl,rfl,by simp [World.setCell],fun k _ hk=>Below.heap_setCell _ _ _ _ (fun e=>hk (by simp [e]))⟩ (Or.inr hne)
theorem AtJP.put {v v':Value} {bs':List Value} (hB:B ≤ b) (hb:w.heap[b]? = some (.cells #[p,v,.bool pr,.int .i64 dp] 83 (0,0))) (hown:w.ownsRowF B 5 1 v' bs'.length bs'):AtJP B b pr dp p bs' (w.setCell ⟨b,1,none⟩ v'):=by
 have hne:=Lib.ownBlock_neF hown hb (by decide)
 refine ⟨hB,v',?_,?_,hne⟩
 ·simp [World.setCell,Array.getElem?_modify,hb]
 ·exact hown.kept (row:=some b) ⟨rfl,rfl,rfl,by simp [World.setCell],fun k _ hk=>Below.heap_setCell _ _ _ _ (fun e=>hk (by simp [e]))⟩ (Or.inr hne)
theorem AtJP.deep (h:AtJP B b pr dp p bs w) (dp':Int):AtJP B b pr dp' p bs (w.setCell ⟨b,3,none⟩ (.int .i64 dp')):=by
 obtain ⟨hB,v,hb,hown,hne⟩:=h
 refine ⟨hB,v,?_,?_,hne⟩
 ·simp [World.setCell,Array.getElem?_modify,hb]
 ·exact hown.kept (row:=some b) ⟨rfl,rfl,rfl,by simp [World.setCell],fun k _ hk=>Below.heap_setCell _ _ _ _ (fun e=>hk (by simp [e]))⟩ (Or.inr hne)
theorem IsJ.deep (h:IsJ B b pr dp bs w) (dp':Int):IsJ B b pr dp' bs (w.setCell ⟨b,3,none⟩ (.int .i64 dp')):=h.imp (fun x=>x.deep dp') (fun x=>x.deep dp')
theorem IsJ.at (h:IsJ B b pr dp bs w):∃ p,AtJP B b pr dp p bs w:=h.elim (fun x=>⟨_,x⟩) (fun x=>⟨_,x⟩)
theorem IsJ.blk (h:IsJ B b pr dp bs w):∃ p v,Blk w b #[p,v,.bool pr,.int .i64 dp] 83:=by
 obtain ⟨p,_,v,hb,_⟩:=h.at
 exact ⟨p,v,hb⟩
theorem IsJ.lt (h:IsJ B b pr dp bs w):b < w.heap.size:=by
 obtain ⟨p,h⟩:=h.at
 exact h.lt
theorem IsJ.le (h:IsJ B b pr dp bs w):B ≤ b:=by
 obtain ⟨p,h⟩:=h.at
 exact h.1
end

theorem sizeBuilderJ:(Tryz.prog.info? 81).map (·.size)=some 2:=by kernel_rfl
theorem liesBuilderJ:liesAt Tryz.prog Tryz.prog.depth 83 (4 / Tryz.prog.cellsOf 83) 0 81 1=true:=by kernel_rfl
theorem infoByteJ:(Tryz.prog.info? 5).map (fun i=>(i.zero,i.size,i.bytes))=some (some (.int .u8 0),1,1):=by kernel_rfl

set_option maxRecDepth 100000 in
theorem jcheck_fresh (b:Nat) (w:World) (h0:w.cell? ⟨b,0,none⟩=some (.pointer none)) (hsh:w.shape? b=some (83,4)) (hfz:w.frozen? ⟨b,0,none⟩=false) :
  Calls Tryz.prog 206 #[.pointer (some ⟨b,0,none⟩)] w fun e w'=>e=.returned (.tuple #[]) ∧ w'=w.setCell ⟨b,0,none⟩ (.pointer (some ⟨b,0,none⟩)):=by
 obtain ⟨j,hj,hjs⟩:=Option.map_eq_some_iff.1 sizeBuilderJ
 go_enter Tryz.func206,Tryz.ntmps206
 go_wp2
 rw [Lib.run_to_unsafe w ⟨b,0,none⟩ Tryz.underlying79 Tryz.underlying120 hj (by rw [hjs]; decide) hsh (Nat.zero_lt_succ 3)]
 simp only [Result.andThen]
 rw [Oper.upon_value]
 go_wp2
 rw [run_callFunc_extern Tryz.func229 (by kernel_rfl) (by kernel_rfl) (by kernel_rfl) (e:=Extern.AbiNoEscape.same) (by kernel_rfl)]
 rw [Lib.run_noEscape]
 simp only [Result.andThen]
 rw [Oper.upon_value]
 go_wp2
 rw [Lib.run_from_unsafe w ⟨b,0,none⟩ Tryz.underlying120 Tryz.underlying79 hj hsh liesBuilderJ]
 simp only [Result.andThen]
 rw [Oper.upon_value]
 go_wp2
 go_end0
 exact ⟨rfl,rfl⟩

set_option maxRecDepth 100000 in
theorem jcheck_used (b:Nat) (w:World) (h0:w.cell? ⟨b,0,none⟩=some (.pointer (some ⟨b,0,none⟩))) :
  Calls Tryz.prog 206 #[.pointer (some ⟨b,0,none⟩)] w fun e w'=>e=.returned (.tuple #[]) ∧ w'=w:=by
 obtain ⟨j,hj,_⟩:=Option.map_eq_some_iff.1 sizeBuilderJ
 go_enter Tryz.func206,Tryz.ntmps206
 go_wp2
 rw [Lib.run_neq_ptr_same w _ Tryz.underlying79 hj]
 go_wp2
 go_end0
 exact ⟨rfl,rfl⟩

theorem jb_check (B b:Nat) (pr:Bool) (dp:Int) (bs:List Value) (w:World) (h:IsJ B b pr dp bs w) :
  Calls Tryz.prog 206 #[.pointer (some ⟨b,0,none⟩)] w fun e w'=>e=.returned (.tuple #[]) ∧ (AtJ B b pr dp bs w' ∧ Below B w w' ∧ Lib.OthersKept 5 (some b) w w'):=by
 rcases h with h | h
 ·refine (jcheck_fresh b w h.cell0 h.shape h.frozen0).mono ?_
  rintro e w' ⟨rfl,rfl⟩
  exact ⟨rfl,h.used _,(Below.refl B w).setCell (p:=⟨b,0,none⟩) h.1 _,(Lib.OthersKept.refl _ _ w).setCell ⟨b,0,none⟩ rfl _⟩
 ·refine (jcheck_used b w h.cell0).mono ?_
  rintro e w' ⟨rfl,rfl⟩
  exact ⟨rfl,h,Below.refl B _,Lib.OthersKept.refl _ _ _⟩

set_option maxHeartbeats 2000000 in
set_option maxRecDepth 100000 in
theorem jb_WriteString (B b:Nat) (pr:Bool) (dp:Int) (bs:List Value) (s:ByteArray) (w:World) (h:IsJ B b pr dp bs w) (hlen:bs.length + s.size ≤ 140737488355328) (hBw:B ≤ w.heap.size) :
  Calls Tryz.prog 173 #[.pointer (some ⟨b,0,none⟩),.string s] w fun e w'=>e=.returned (.tuple #[.int .i64 s.size,.nilIface]) ∧ (AtJ B b pr dp (bs ++ Lib.strCells s) w' ∧ Below B w w' ∧ Lib.OthersKept 5 (some b) w w'):=by
 obtain ⟨i0,hi,hz0,hz1,hz2⟩:=info_parts infoByteJ
 have HC:=Lib.hid (jb_check B b pr dp bs w h)
 go_enter Tryz.func173,Tryz.ntmps173
 go_wp2_with fail
 refine HC.out.mono ?_
 rintro e w1 ⟨rfl,h1,hb1,hk1⟩
 obtain ⟨hB,v,hbk,hown,hne⟩:=h1
 have c0:w1.cell? ⟨b,0,none⟩=some (.pointer (some ⟨b,0,none⟩)):=by rw [Lib.cell_of_heap hbk]; rfl
 have c1:w1.cell? ⟨b,1,none⟩=some v:=by rw [Lib.cell_of_heap hbk]; rfl
 go_wp2_with (at_builtin; refine Lib.wpList_append_own_stringF _ rfl _ _ 72 9 rfl B 5 i0 Tryz.underlying72 Tryz.underlying9 hi hz0 hz1 hz2 _ _ _ rfl hown s rfl ?c3 ?c4 ?c5 ?_)
 case c3=>unfold maxLen; omega
 case c4=>omega
 case c5=>have:=hb1.size; omega
 intro v' w2 hown' hgrow _
 have hlt:b < w1.heap.size:=by
  rcases Nat.lt_or_ge b w1.heap.size with h' | h'
  ·exact h'
  ·simp [Array.getElem?_eq_none h'] at hbk
 have hb2:w2.heap[b]? = some (.cells #[.pointer (some ⟨b,0,none⟩),v,.bool pr,.int .i64 dp] 83 (0,0)):=by
  rw [hgrow.block b hlt (fun e=>hne e.symm)]
  exact hbk
 have d0:w2.cell? ⟨b,0,none⟩=some (.pointer (some ⟨b,0,none⟩)):=by rw [Lib.cell_of_heap hb2]; rfl
 have d1:w2.cell? ⟨b,1,none⟩=some v:=by rw [Lib.cell_of_heap hb2]; rfl
 have f1:w2.frozen? ⟨b,1,none⟩=false:=Lib.frozen_of_heap hb2 1
 obtain ⟨ao,n',cap,rfl⟩:∃ ao n' cap,v'=.slice ao n' cap:=by
  rcases hown'.2 with ⟨hv,_⟩ | ⟨g,cap,cur,fz,hv,_⟩
  ·exact ⟨_,_,_,hv⟩
  ·exact ⟨_,_,_,hv⟩
 go_wp2
 go_ret2
 refine ⟨rfl,?_,?_,(hk1.grown hgrow (Lib.ownsRowF_kind hown)).setCell ⟨b,1,none⟩ rfl _⟩
 ·exact AtJP.put hB hb2 (bs':=bs ++ Lib.strCells s) (by simpa [Lib.strCells_length] using hown')
 ·exact (hb1.grown hgrow (by have:=hb1.size; omega) (fun k hk=>(hown.lt k hk).1)).setCell (p:=⟨b,1,none⟩) hB _

set_option maxHeartbeats 2000000 in
set_option maxRecDepth 100000 in
theorem jb_String (B b:Nat) (pr:Bool) (dp:Int) (l:List UInt8) (w:World) (h:IsJ B b pr dp (Lib.byteCells l) w) (h0:l ≠ []) :
  Calls Tryz.prog 47 #[.pointer (some ⟨b,0,none⟩)] w fun e w'=>e=.returned (.string ⟨l.toArray⟩) ∧ Below B w w':=by
 obtain ⟨p,hAt⟩:=h.at
 obtain ⟨hB,v,hbk,hown,hne⟩:=hAt
 have hl0:l.length ≠ 0:=by simpa using h0
 rw [Lib.byteCells_length] at hown
 obtain ⟨g,cap,cur,fz,rfl,hbg,hg,hfz,hnc,hcm,hcs,htake⟩:∃ g cap cur fz,v=.slice (some ⟨g,0,none⟩) l.length cap ∧ B ≤ g ∧ w.heap[g]? = some (.cells cur 5 fz) ∧ fz.2 ≤ l.length * 1 ∧ l.length ≤ cap ∧ cap ≤ maxLen ∧ cur.size=cap * 1 ∧ cur.toList.take (l.length * 1)=Lib.byteCells l:=by
  rcases hown.2 with ⟨_,hz⟩ | ⟨g,cap,cur,fz,hv,r⟩
  ·exact absurd hz hl0
  ·exact ⟨g,cap,cur,fz,hv,r⟩
 have c1:w.drew.cell? ⟨b,1,none⟩=some (.slice (some ⟨g,0,none⟩) l.length cap):=by
  have:w.drew.heap[b]? = some (.cells #[p,.slice (some ⟨g,0,none⟩) l.length cap,.bool pr,.int .i64 dp] 83 (0,0)):=hbk
  rw [Lib.cell_of_heap this]
  rfl
 have hSD:(Builtin.unsafeSliceData_ #[72] 109 #[.slice (some ⟨g,0,none⟩) l.length cap]).run Tryz.prog w.drew=.ok (.pointer (some ⟨g,0,none⟩)) w.drew:=
  Lib.run_unsafeSliceData_row _ _ _ _ _ _ (by omega)
 have hUS:(Builtin.unsafeString_ #[109,3] 9 #[.pointer (some ⟨g,0,none⟩),.int .i64 l.length]).run Tryz.prog w.drew=.ok (.string ⟨l.toArray⟩) (w.drew.freeze ⟨g,0,none⟩ l.length):=by
  refine Lib.run_unsafeString_row w.drew 109 3 9 5 Tryz.underlying109 (by kernel_rfl) g cur.size (by have hg':w.drew.heap[g]? = some (.cells cur 5 fz):=hg; simp [World.shape?,hg']) l h0 (by omega) (by unfold maxLen at hcm; omega) ?_
  intro j x hx
  have:=hown.cells (g:=g) rfl j (.int .u8 x.toNat) (by simp [Lib.byteCells,hx])
  exact this
 go_enter Tryz.func47,Tryz.ntmps47
 go_wp2_with fail
 go_region
 all_goals (go_wp2_with fail; go_ret; exact ⟨rfl,Lib.below_freeze (Below.drew (Below.refl B w)) (p:=⟨g,0,none⟩) hbg _⟩)
end Go.Proofs.YtfckekaegjjmkaaGreatDoor
namespace Go.Proofs.YtfckekaegjjmkaaGreatDoor
open Go.RowKit Go.Shelf

theorem isJ_grown {B b:Nat} {pr:Bool} {dp:Int} {bs:List Value} {W W':World} (h:IsJ B b pr dp bs W) {row:Option Nat} (hg:W.grownBy W' row) (hr:∀ r,row=some r → r < B ∨ ∃ o:Obj,W.heap[r]? = some o ∧ o.isCells=false):IsJ B b pr dp bs W':=by
 have key:∀ p,AtJP B b pr dp p bs W → AtJP B b pr dp p bs W':=by
  rintro p ⟨hB,v,hb,hown,hne⟩
  refine ⟨hB,v,(hg.block b (Array.getElem?_eq_some_iff.1 hb).1 ?_).trans hb,hown.kept hg ?_,hne⟩
  ·intro e
   rcases hr b e.symm with h1 | ⟨o,ho,hc⟩
   ·omega
   ·rw [hb] at ho
    cases ho
    cases hc
  ·by_cases hv:v.ownBlock=none
   ·exact .inl hv
   ·right
    intro e
    obtain ⟨g,hvg⟩:∃ g,v.ownBlock=some g:=by
     cases hq:v.ownBlock with
     | none=>exact absurd hq hv
     | some g=>exact ⟨g,rfl⟩
    rcases hr g (by rw [← e,hvg]) with h1 | ⟨o,ho,hc⟩
    ·have:=(hown.lt g hvg).1
     omega
    ·rcases hown.2 with ⟨rfl,_⟩ | ⟨g',cap,cur,fz,rfl,_,hgc,_⟩
     ·simp [Value.ownBlock] at hvg
     ·simp [Value.ownBlock] at hvg
      subst hvg
      rw [hgc] at ho
      cases ho
      cases hc
 exact h.imp (key _) (key _)
theorem isJ_below {B p:Nat} {pr:Bool} {dp:Int} {bs:List Value} {W W':World} (h:IsJ B p pr dp bs W) (hb:Below W.heap.size W W'):IsJ B p pr dp bs W':=isJ_grown h (below_none hb) (fun r e=>by cases e)
theorem othersJ_blk {b:Nat} {W W':World} (h:Lib.OthersKept 5 (some b) W W') {k:Nat} {cs:Array Value} {t:TypeId} (hk:Blk W k cs t) (hkb:k ≠ b) (ht:t ≠ 5):Blk W' k cs t:=
 h k _ hk (fun e=>hkb (by cases e; rfl)) (fun c fz e=>by cases e; exact ht rfl)
theorem othersJ_from {b B:Nat} {W W':World} (h:Lib.OthersKept 5 (some b) W W') (hz:W.heap.size ≤ W'.heap.size) {B':Nat} {pr:Bool} {dp:Int} {bs:List Value} (hI:IsJ B' b pr dp bs W):KeepsFrom B W W':=by
 obtain ⟨c,v,hb⟩:=hI.blk
 refine ⟨hz,fun k o _ hk ho=>h k o hk (fun e=>?_) (fun c fz e=>?_)⟩
 ·cases e
  rw [hb] at hk
  cases hk
  cases ho
 ·subst e
  cases ho
theorem othersJ_below {p:Nat} {W W':World} (h:Below W.heap.size W W'):Lib.OthersKept 5 (some p) W W':=fun k _ hk _ _=>(h.block k (Array.getElem?_eq_some_iff.1 hk).1).trans hk
theorem isJ_size {B b:Nat} {pr:Bool} {dp:Int} {bs:List Value} {W:World} (h:IsJ B b pr dp bs W):B ≤ W.heap.size ∧ b < W.heap.size:=⟨Nat.le_trans h.le (Nat.le_of_lt h.lt),h.lt⟩

structure JP (B p:Nat) (pr:Bool) (dp:Int) (l:List UInt8) (W W':World):Prop where
 is:IsJ B p pr dp (Lib.byteCells l) W'
 below:Below B W W'
 others:Lib.OthersKept 5 (some p) W W'
theorem JP.trans {B p:Nat} {pr:Bool} {dp dp':Int} {l l':List UInt8} {W W1 W2:World} (h:JP B p pr dp l W W1) (k:JP B p pr dp' l' W1 W2):JP B p pr dp' l' W W2:=⟨k.is,h.below.trans k.below,h.others.trans k.others⟩
theorem JP.step {B p:Nat} {pr:Bool} {dp:Int} {l:List UInt8} {W W':World} (h:IsJ B p pr dp (Lib.byteCells l) W) (hb:Below W.heap.size W W'):JP B p pr dp l W W':=⟨isJ_below h hb,hb.mono (isJ_size h).1,othersJ_below hb⟩
theorem JP.blk {B p:Nat} {pr:Bool} {dp:Int} {l:List UInt8} {W W':World} (h:JP B p pr dp l W W') {k:Nat} {cs:Array Value} {t:TypeId} (hk:Blk W k cs t) (hkp:k ≠ p) (ht:t ≠ 5):Blk W' k cs t:=othersJ_blk h.others hk hkp ht
theorem JP.deep {B p:Nat} {pr:Bool} {dp:Int} {l:List UInt8} {W:World} (h:IsJ B p pr dp (Lib.byteCells l) W) (dp':Int):JP B p pr dp' l W (W.setCell ⟨p,3,none⟩ (.int .i64 dp')):=
 ⟨h.deep dp',(Below.refl B W).setCell (p:=⟨p,3,none⟩) h.le _,(Lib.OthersKept.refl _ _ W).setCell ⟨p,3,none⟩ rfl _⟩
theorem cellsJ_app (l:List UInt8) (s:ByteArray):Lib.byteCells l ++ Lib.strCells s=Lib.byteCells (l ++ s.data.toList):=by
 simp [Lib.byteCells,Lib.strCells]
theorem cellsJ_len (l:List UInt8):(Lib.byteCells l).length=l.length:=Lib.byteCells_length l

def BodyC (f:FuncId) (args:Array Value) (w:World) (R:Ending → World → Prop):Prop:=
 ∃ fn c,Tryz.prog.funcs[f]? = some fn ∧ fn.body=some c ∧ c.wp Tryz.prog (bodyPost Tryz.prog fn R) { tmps:=args ++ Array.replicate (fn.ntmps - args.size) undef,defers:=[] } w
theorem BodyC.calls {f:FuncId} {args:Array Value} {w:World} {R:Ending → World → Prop} (h:BodyC f args w R):Calls Tryz.prog f args w R:=by
 obtain ⟨fn,c,hf,hb,h⟩:=h
 exact calls_of_wp hf hb h
theorem BodyC.deferred {f:FuncId} {args:Array Value} {w:World} {R:Ending → World → Prop} (h:BodyC f args w R) (u:FrameMode) (n:Nat):CallsDIn Fence.wide n Tryz.prog f args u w fun e u' w'=>u'=u ∧ R e w':=by
 obtain ⟨fn,c,hf,hb,h⟩:=h
 exact callsDIn_of_wp hf hb trivial (wpIn_wide.2 h)
theorem bodyC_mono {f:FuncId} {args:Array Value} {w:World} {R R':Ending → World → Prop} (h:BodyC f args w R) (hr:∀ e w',R e w' → R' e w'):BodyC f args w R':=by
 obtain ⟨fn,c,hf,hb,h⟩:=h
 refine ⟨fn,c,hf,hb,Code.wp_mono (fun e a w' q=>?_) h⟩
 cases e with
 | normal=>exact ⟨q.1,q.2.imp fun v x=>⟨x.1,hr _ _ x.2⟩⟩
 | ret=>exact ⟨q.1,q.2.imp fun v x=>⟨x.1,hr _ _ x.2⟩⟩
 | panic c=>exact ⟨q.1,hr _ _ q.2⟩
 | outgrown=>exact hr _ _ q
 | exit _=>exact q
 | goto _=>exact q
theorem leave_d {fn:Func} {R:Ending → World → Prop} {a:Act} {w:World} {f:FuncId} {args:Array Value} {v:Value}
  (hd:a.defers=[{ target:=.fn (.func f) #[],args:=args }]) (hi:(invoke (.fn (.func f) #[]) args).run Tryz.prog w=.ok (.enter f args) w)
  (h:BodyC f args w fun e w'=>∃ u,e=.returned u ∧ (results fn a.tmps).run Tryz.prog w'=.ok v w' ∧ R (.returned v) w'):BodyM Tryz.prog fn R .ret a w:=by
 show LeavesInM Fence.wide 9 Tryz.prog fn a.tmps R a.defers .returning w
 rw [hd]
 refine ⟨by simp,.inr ⟨fun _=>(by decide),.func f,#[],f,args,rfl,hi,fun _ _=>trivial,?_⟩⟩
 refine (h.deferred .returning 8).mono ?_
 rintro e u' w' ⟨rfl,u,rfl,h1,h2⟩
 exact ⟨v,h1,h2⟩
theorem leave_md {fn:Func} {R:Ending → World → Prop} {a:Act} {w:World} {D:Nat} {f:FuncId} {args:Array Value} {v:Value}
  (hK:w.heap[D]? = some (.deferred (some []))) (hd:a.defers=[{ target:=.collected D,args:=#[] },{ target:=.fn (.func f) #[],args:=args }]) (hi:∀ w,(invoke (.fn (.func f) #[]) args).run Tryz.prog w=.ok (.enter f args) w)
  (h:BodyC f args (w.putObj D (.deferred none)) fun e w'=>∃ u,e=.returned u ∧ (results fn a.tmps).run Tryz.prog w'=.ok v w' ∧ R (.returned v) w'):BodyM Tryz.prog fn R .ret a w:=by
 show LeavesInM Fence.wide 9 Tryz.prog fn a.tmps R a.defers .returning w
 rw [hd]
 refine ⟨by simp,.inl ⟨_,_,rfl,run_takeDeferred hK,⟨by simp,.inr ⟨fun _=>(by decide),.func f,#[],f,args,rfl,hi _,fun _ _=>trivial,?_⟩⟩⟩⟩
 refine (h.deferred .returning 8).mono ?_
 rintro e u' w' ⟨rfl,u,rfl,h1,h2⟩
 exact ⟨v,h1,h2⟩

set_option maxHeartbeats 2000000 in
set_option maxRecDepth 100000 in
theorem j_words1 (B p k:Nat) (pr:Bool) (dp:Int) (l:List UInt8) (s:ByteArray) (W:World) (h:IsJ B p pr dp (Lib.byteCells l) W) (hlen:l.length + s.size ≤ 1000000000) (hk:Blk W k #[.string s] 9) :
  BodyC 143 #[.pointer (some ⟨p,0,none⟩),.slice (some ⟨k,0,none⟩) 1 1] W fun e W'=>e=.returned (.tuple #[]) ∧ JP B p pr dp (l ++ s.data.toList) W W':=by
 have HB:=Lib.hid (jb_WriteString B p pr dp (Lib.byteCells l) s W h (by rw [cellsJ_len]; omega) (isJ_size h).1)
 rw [cellsJ_app] at HB
 have hc:=hk.cell 0
 clear h hk
 refine ⟨_,_,Tryz.func143,rfl,?_⟩
 simp only [Tryz.ntmps143,List.size_toArray,List.length_cons,List.length_nil,Nat.reduceAdd,Nat.reduceSub,Array.replicate_succ,Array.replicate_zero,List.push_toArray,List.append_toArray,List.nil_append,List.cons_append]
 go_wp2_with fail
 refine wp_loop_rounds 2 ?_
 rw [rounds_succ]
 go_wp2_with fail
 refine HB.out.mono ?_
 rintro e W1 ⟨rfl,h1,hb1,ho1⟩
 go_wp2_with fail
 rw [rounds_succ]
 go_wp2_with fail
 go_end0
 exact ⟨rfl,h1.is,hb1,ho1⟩

set_option maxHeartbeats 2000000 in
set_option maxRecDepth 100000 in
theorem j_words2 (B p k:Nat) (pr:Bool) (dp:Int) (l:List UInt8) (s t:ByteArray) (W:World) (h:IsJ B p pr dp (Lib.byteCells l) W) (hlen:l.length + s.size + t.size ≤ 1000000000) (hk:Blk W k #[.string s,.string t] 9) (hkp:k ≠ p) :
  Calls Tryz.prog 143 #[.pointer (some ⟨p,0,none⟩),.slice (some ⟨k,0,none⟩) 2 2] W fun e W'=>e=.returned (.tuple #[]) ∧ JP B p pr dp (l ++ s.data.toList ++ t.data.toList) W W':=by
 have HB:=Lib.hid (jb_WriteString B p pr dp (Lib.byteCells l) s W h (by rw [cellsJ_len]; omega) (isJ_size h).1)
 rw [cellsJ_app] at HB
 have hsl:s.data.toList.length=s.size:=by simp
 have HB2:=Lib.hid (fun W2 (h2:IsJ B p pr dp (Lib.byteCells (l ++ s.data.toList)) W2)=>jb_WriteString B p pr dp (Lib.byteCells (l ++ s.data.toList)) t W2 h2 (by rw [cellsJ_len,List.length_append]; omega) (isJ_size h2).1)
 simp only [cellsJ_app] at HB2
 have hc0:=hk.cell 0
 have hc1:=hk.cell 1
 have HK:=Lib.hid hk
 clear h hk
 go_enter Tryz.func143,Tryz.ntmps143
 go_wp2_with fail
 refine wp_loop_rounds 3 ?_
 rw [rounds_succ]
 go_wp2_with fail
 refine HB.out.mono ?_
 rintro e W1 ⟨rfl,h1,hb1,ho1⟩
 have hk1:=othersJ_blk ho1 HK.out hkp (by decide)
 have H2:=Lib.hid (HB2.out W1 h1.is)
 clear hc0 hc1
 have hc0:=hk1.cell 0
 have hc1:=hk1.cell 1
 go_wp2_with fail
 rw [rounds_succ]
 go_wp2_with fail
 refine H2.out.mono ?_
 rintro e W2 ⟨rfl,h2,hb2,ho2⟩
 go_wp2_with fail
 rw [rounds_succ]
 go_wp2_with fail
 go_end0
 exact ⟨rfl,h2.is,hb1.trans hb2,ho1.trans ho2⟩

theorem rep_blanks (n:Nat):Lib.repeatL [32,32] n=List.replicate (2 * n) 32:=by
 induction n with
 | zero=>rfl
 | succ n ih =>
  rw [show 2 * (n + 1)=2 * n + 1 + 1 by omega,List.replicate_succ,List.replicate_succ]
  show [32,32] ++ Lib.repeatL [32,32] n=_
  rw [ih]
  rfl
set_option maxHeartbeats 2000000 in
set_option maxRecDepth 100000 in
theorem j_line (B p:Nat) (pr:Bool) (dp:Nat) (l:List UInt8) (W:World) (h:IsJ B p pr dp (Lib.byteCells l) W) (hlen:l.length ≤ 900000000) (hdp:dp ≤ 1000) :
  Calls Tryz.prog 181 #[.pointer (some ⟨p,0,none⟩)] W fun e W'=>e=.returned (.tuple #[]) ∧ JP B p pr dp (l ++ lineL pr dp) W W':=by
 obtain ⟨q,v,hb⟩:=h.blk
 have c2:=hb.cell 2
 have c3:=hb.cell 3
 cases pr with
 | false =>
  have hr:l ++ lineL false dp=l:=by
   show l ++ []=l
   rw [List.append_nil]
  rw [hr]
  have HI:=Lib.hid h
  clear h hr hb
  go_enter Tryz.func181,Tryz.ntmps181
  go_wp2_with fail
  go_end0
  exact ⟨rfl,HI.out,Below.refl _ _,Lib.OthersKept.refl _ _ _⟩
 | true =>
  have HR:=Lib.hid (Tryz.strings_Repeat ⟨#[32,32]⟩ dp W (by omega) (by show 2 * dp ≤ _; omega))
  rw [show (⟨#[32,32]⟩:ByteArray).data.toList=[32,32] from rfl,rep_blanks] at HR
  have HW:=Lib.hid (fun W1 (hb1:Below W.heap.size W W1)=>j_words2 B p W1.heap.size true dp l ⟨#[10]⟩ ⟨(List.replicate (2 * dp) 32).toArray⟩ (W1.alloc (.cells #[.string ⟨#[10]⟩,.string ⟨(List.replicate (2 * dp) 32).toArray⟩] 9)) (isJ_below h (hb1.alloc hb1.size _)) (by
   have:(⟨(List.replicate (2 * dp) 32).toArray⟩:ByteArray).size=2 * dp:=by
    show (List.replicate (2 * dp) (32:UInt8)).toArray.size=_
    simp
   rw [this]
   show l.length + 1 + 2 * dp ≤ _
   omega) (Blk.new _ _ _) (by have:=h.lt; have:=hb1.size; omega))
  have hr:l ++ (⟨#[10]⟩:ByteArray).data.toList ++ (⟨(List.replicate (2 * dp) 32).toArray⟩:ByteArray).data.toList=l ++ lineL true dp:=by
   show l ++ [10] ++ List.replicate (2 * dp) 32=l ++ (10 :: List.replicate (2 * dp) 32)
   simp
  simp only [hr] at HW
  obtain ⟨rs,hrs⟩:∃ rs,l ++ lineL true dp=rs:=⟨_,rfl⟩
  rw [hrs]
  simp only [hrs] at HW
  obtain ⟨bl,hbl⟩:∃ bl:ByteArray,(⟨(List.replicate (2 * dp) 32).toArray⟩:ByteArray)=bl:=⟨_,rfl⟩
  rw [hbl] at HR
  simp only [hbl] at HW
  have HI:=Lib.hid h
  clear h hr hrs hbl hb
  go_enter Tryz.func181,Tryz.ntmps181
  go_wp2_with fail
  refine HR.out.mono ?_
  rintro e W1 ⟨rfl,hb1⟩
  have H2:=Lib.hid (HW.out W1 hb1)
  have H1:=Lib.hid (JP.step HI.out (hb1.alloc hb1.size (.cells #[.string ⟨#[10]⟩,.string bl] 9)))
  clear HW
  go_wp2_with fail
  refine H2.out.mono ?_
  rintro e W2 ⟨rfl,h2⟩
  go_wp2_with fail
  go_end0
  exact ⟨rfl,H1.out.trans h2⟩
end Go.Proofs.YtfckekaegjjmkaaGreatDoor
