/- The texts BuildW, GateK, GateB, GateC, put together. -/
import Derived.Test.YtonihophanmaaaaGreatDoorPa01
import Derived.Test.YtonihophanmaaaaGreatDoorChecked
import Derived.Test.YtonihophanmaaaaGreatDoorPa07
import Derived.Lib.FrozenHead
import Derived.RegionCalls
import Derived.Test.YtonihophanmaaaaGreatDoorPa03
namespace Go.Proofs.YtonihophanmaaaaGreatDoor
open Go.RowKit Go.Shelf
abbrev IsW (B b:Nat) (bs:List Value) (w:World):Prop:=Lib.IsBuilderF 99 5 B b bs w
abbrev AtW (B b:Nat) (bs:List Value) (w:World):Prop:=Lib.BuilderAtF 99 5 B b (.pointer (some ⟨b,0,none⟩)) bs w
theorem AtW.is {B b:Nat} {bs:List Value} {w:World} (h:AtW B b bs w):IsW B b bs w:=.inr h
theorem sizeBuilderW:(Tryz.prog.info? 97).map (·.size)=some 2:=by kernel_rfl
theorem liesBuilderW:liesAt Tryz.prog Tryz.prog.depth 99 (2 / Tryz.prog.cellsOf 99) 0 97 1=true:=by kernel_rfl
theorem infoByteW:(Tryz.prog.info? 5).map (fun i=>(i.zero,i.size,i.bytes))=some (some (.int .u8 0),1,1):=by kernel_rfl
set_option maxRecDepth 100000 in
theorem wcheck_fresh (b:Nat) (w:World) (h0:w.cell? ⟨b,0,none⟩=some (.pointer none)) (hsh:w.shape? b=some (99,2)) (hfz:w.frozen? ⟨b,0,none⟩=false) :
  Calls Tryz.prog 222 #[.pointer (some ⟨b,0,none⟩)] w fun e w'=>e=.returned (.tuple #[])∧w'=w.setCell ⟨b,0,none⟩ (.pointer (some ⟨b,0,none⟩)):=by
 obtain ⟨j,hj,hjs⟩:=Option.map_eq_some_iff.1 sizeBuilderW
 go_enter Tryz.func222,Tryz.ntmps222
 go_wp2
 rw [Lib.run_to_unsafe w ⟨b,0,none⟩ Tryz.underlying94 Tryz.underlying191 hj (by rw [hjs]; decide) hsh (Nat.zero_lt_succ 1)]
 simp only [Result.andThen]
 rw [Oper.upon_value]
 go_wp2
 rw [run_callFunc_extern Tryz.func258 (by kernel_rfl) (by kernel_rfl) (by kernel_rfl) (e:=Extern.AbiNoEscape.same) (by kernel_rfl)]
 rw [Lib.run_noEscape]
 simp only [Result.andThen]
 rw [Oper.upon_value]
 go_wp2
 rw [Lib.run_from_unsafe w ⟨b,0,none⟩ Tryz.underlying191 Tryz.underlying94 hj hsh liesBuilderW]
 simp only [Result.andThen]
 rw [Oper.upon_value]
 go_wp2
 go_end0
 exact ⟨rfl,rfl⟩
set_option maxRecDepth 100000 in
theorem wcheck_used (b:Nat) (w:World) (h0:w.cell? ⟨b,0,none⟩=some (.pointer (some ⟨b,0,none⟩))) :
  Calls Tryz.prog 222 #[.pointer (some ⟨b,0,none⟩)] w fun e w'=>e=.returned (.tuple #[])∧w'=w:=by
 obtain ⟨j,hj,_⟩:=Option.map_eq_some_iff.1 sizeBuilderW
 go_enter Tryz.func222,Tryz.ntmps222
 go_wp2
 rw [Lib.run_neq_ptr_same w _ Tryz.underlying94 hj]
 go_wp2
 go_end0
 exact ⟨rfl,rfl⟩
theorem wb_check (B b:Nat) (bs:List Value) (w:World) (h:IsW B b bs w) :
  Calls Tryz.prog 222 #[.pointer (some ⟨b,0,none⟩)] w fun e w'=>e=.returned (.tuple #[])∧(AtW B b bs w'∧Below B w w'∧Lib.OthersKept 5 (some b) w w'):=by
 rcases h with h | h
 ·refine (wcheck_fresh b w h.cell0 h.shape h.frozen0).mono ?_
  rintro e w' ⟨rfl,rfl⟩
  exact ⟨rfl,h.used _,(Below.refl B w).setCell (p:=⟨b,0,none⟩) h.1 _,(Lib.OthersKept.refl _ _ w).setCell ⟨b,0,none⟩ rfl _⟩
 ·refine (wcheck_used b w h.cell0).mono ?_
  rintro e w' ⟨rfl,rfl⟩
  exact ⟨rfl,h,Below.refl B _,Lib.OthersKept.refl _ _ _⟩
set_option maxHeartbeats 2000000 in
set_option maxRecDepth 100000 in
theorem wb_WriteByte (B b:Nat) (bs:List Value) (c:Int) (w:World) (h:IsW B b bs w) (hlen:bs.length+1≤140737488355328) (hBw:B≤w.heap.size) :
  Calls Tryz.prog 243 #[.pointer (some ⟨b,0,none⟩),.int .u8 c] w fun e w'=>e=.returned .nilIface∧(AtW B b (bs++[.int .u8 c]) w'∧Below B w w'∧Lib.OthersKept 5 (some b) w w'):=by
 obtain ⟨i0,hi,hz0,hz1,hz2⟩:=info_parts infoByteW
 have HC:=Lib.hid (wb_check B b bs w h)
 go_enter Tryz.func243,Tryz.ntmps243
 go_wp2_with fail
 refine HC.out.mono ?_
 rintro e w1 ⟨rfl,h1,hb1,hk1⟩
 obtain ⟨hB,v,hbk,hown,hne⟩:=h1
 have c0:w1.cell? ⟨b,0,none⟩=some (.pointer (some ⟨b,0,none⟩)):=by rw [Lib.cell_of_heap hbk]; rfl
 have c1:w1.cell? ⟨b,1,none⟩=some v:=by rw [Lib.cell_of_heap hbk]; rfl
 go_wp2_with (at_builtin; refine wpList_append_ownF _ rfl _ _ 95 rfl B 5 i0 (.int .u8 0) 1 1 Tryz.underlying95 hi hz0 hz1 hz2 rfl (by decide) _ _ _ rfl (hown.alloc _) ⟨w1.heap.size,0,none⟩ 1 1 [.int .u8 c] rfl rfl ?c1 ?c2 ?c3 ?c4 ?c5 ?_)
 case c1 =>
  intro j u hj
  match j,hj with
  | 0,hj=>simp at hj; subst hj; simp [Addr.add]
 case c2=>intro u hu; simp at hu; subst hu; rfl
 case c3=>unfold maxLen; omega
 case c4=>omega
 case c5=>have:=hb1.size; simp; omega
 intro v' w2 hown' hgrow _
 have hlt:b<w1.heap.size:=by
  rcases Nat.lt_or_ge b w1.heap.size with h' | h'
  ·exact h'
  ·simp [Array.getElem?_eq_none h']at hbk
 have hb2:w2.heap[b]? = some (.cells #[.pointer (some ⟨b,0,none⟩),v] 99 (0,0)):=by
  rw [hgrow.block b (by simp; omega) (fun e=>hne e.symm),Lib.alloc_old w1 _ b hlt]
  exact hbk
 have d0:w2.cell? ⟨b,0,none⟩=some (.pointer (some ⟨b,0,none⟩)):=by rw [Lib.cell_of_heap hb2]; rfl
 have d1:w2.cell? ⟨b,1,none⟩=some v:=by rw [Lib.cell_of_heap hb2]; rfl
 have f1:w2.frozen? ⟨b,1,none⟩=false:=Lib.frozen_of_heap hb2 1
 obtain ⟨g,cap,rfl⟩:∃ g cap,v'=.slice (some ⟨g,0,none⟩) (bs.length+1) cap:=by
  rcases hown'.2 with ⟨_,h0⟩ | ⟨g,cap,cur,fz,hv,_⟩
  ·omega
  ·exact ⟨g,cap,hv⟩
 go_wp2
 go_ret
 refine ⟨rfl,?_,?_,((hk1.alloc _).grown hgrow (Lib.ownsRowF_kind (hown.alloc _))).setCell ⟨b,1,none⟩ rfl _⟩
 ·exact Lib.BuilderAtF.put (T:=99) (e:=5) hB hb2 (bs':=bs++[.int .u8 c]) (by simpa using hown') (by decide)
 ·exact ((hb1.alloc (by have:=hb1.size; omega) _).grown hgrow (by have:=hb1.size; simp; omega) (fun k hk=>(hown.lt k hk).1)).setCell (p:=⟨b,1,none⟩) hB _
set_option maxHeartbeats 2000000 in
set_option maxRecDepth 100000 in
theorem wb_WriteString (B b:Nat) (bs:List Value) (s:ByteArray) (w:World) (h:IsW B b bs w) (hlen:bs.length+s.size≤140737488355328) (hBw:B≤w.heap.size) :
  Calls Tryz.prog 184 #[.pointer (some ⟨b,0,none⟩),.string s] w fun e w'=>e=.returned (.tuple #[.int .i64 s.size,.nilIface])∧(AtW B b (bs++Lib.strCells s) w'∧Below B w w'∧Lib.OthersKept 5 (some b) w w'):=by
 obtain ⟨i0,hi,hz0,hz1,hz2⟩:=info_parts infoByteW
 have HC:=Lib.hid (wb_check B b bs w h)
 go_enter Tryz.func184,Tryz.ntmps184
 go_wp2_with fail
 refine HC.out.mono ?_
 rintro e w1 ⟨rfl,h1,hb1,hk1⟩
 obtain ⟨hB,v,hbk,hown,hne⟩:=h1
 have c0:w1.cell? ⟨b,0,none⟩=some (.pointer (some ⟨b,0,none⟩)):=by rw [Lib.cell_of_heap hbk]; rfl
 have c1:w1.cell? ⟨b,1,none⟩=some v:=by rw [Lib.cell_of_heap hbk]; rfl
 go_wp2_with (at_builtin; refine Lib.wpList_append_own_stringF _ rfl _ _ 95 9 rfl B 5 i0 Tryz.underlying95 Tryz.underlying9 hi hz0 hz1 hz2 _ _ _ rfl hown s rfl ?c3 ?c4 ?c5 ?_)
 case c3=>unfold maxLen; omega
 case c4=>omega
 case c5=>have:=hb1.size; omega
 intro v' w2 hown' hgrow _
 have hlt:b<w1.heap.size:=by
  rcases Nat.lt_or_ge b w1.heap.size with h' | h'
  ·exact h'
  ·simp [Array.getElem?_eq_none h']at hbk
 have hb2:w2.heap[b]? = some (.cells #[.pointer (some ⟨b,0,none⟩),v] 99 (0,0)):=by
  rw [hgrow.block b hlt (fun e=>hne e.symm)]
  exact hbk
 have d0:w2.cell? ⟨b,0,none⟩=some (.pointer (some ⟨b,0,none⟩)):=by rw [Lib.cell_of_heap hb2]; rfl
 have d1:w2.cell? ⟨b,1,none⟩=some v:=by rw [Lib.cell_of_heap hb2]; rfl
 have f1:w2.frozen? ⟨b,1,none⟩=false:=Lib.frozen_of_heap hb2 1
 obtain ⟨ao,n',cap,rfl⟩:∃ ao n' cap,v'=.slice ao n' cap:=by
  rcases hown'.2 with ⟨hv,_⟩ | ⟨g,cap,cur,fz,hv,_⟩
  ·exact ⟨_,_,_,hv⟩
  ·exact ⟨_,_,_,hv⟩
 go_wp2
 go_ret2
 refine ⟨rfl,?_,?_,(hk1.grown hgrow (Lib.ownsRowF_kind hown)).setCell ⟨b,1,none⟩ rfl _⟩
 ·exact Lib.BuilderAtF.put (T:=99) (e:=5) hB hb2 (bs':=bs++Lib.strCells s) (by simpa [Lib.strCells_length] using hown') (by decide)
 ·exact (hb1.grown hgrow (by have:=hb1.size; omega) (fun k hk=>(hown.lt k hk).1)).setCell (p:=⟨b,1,none⟩) hB _
set_option maxHeartbeats 2000000 in
set_option maxRecDepth 100000 in
theorem wb_String (B b:Nat) (l:List UInt8) (w:World) (h:IsW B b (Lib.byteCells l) w) (h0:l≠[]) :
  Calls Tryz.prog 72 #[.pointer (some ⟨b,0,none⟩)] w fun e w'=>e=.returned (.string ⟨l.toArray⟩)∧Below B w w':=by
 obtain ⟨p,hAt⟩:∃ p,Lib.BuilderAtF 99 5 B b p (Lib.byteCells l) w:=by
  rcases h with h | h
  ·exact ⟨_,h⟩
  ·exact ⟨_,h⟩
 obtain ⟨hB,v,hbk,hown,hne⟩:=hAt
 have hl0:l.length≠0:=by simpa using h0
 rw [Lib.byteCells_length]at hown
 obtain ⟨g,cap,cur,fz,rfl,hbg,hg,hfz,hnc,hcm,hcs,htake⟩:∃ g cap cur fz,v=.slice (some ⟨g,0,none⟩) l.length cap∧B≤g∧w.heap[g]? = some (.cells cur 5 fz)∧fz.2≤l.length*1∧l.length≤cap∧cap≤maxLen∧cur.size=cap*1∧cur.toList.take (l.length*1)=Lib.byteCells l:=by
  rcases hown.2 with ⟨_,hz⟩ | ⟨g,cap,cur,fz,hv,r⟩
  ·exact absurd hz hl0
  ·exact ⟨g,cap,cur,fz,hv,r⟩
 have c1:w.drew.cell? ⟨b,1,none⟩=some (.slice (some ⟨g,0,none⟩) l.length cap):=by
  have:w.drew.heap[b]? = some (.cells #[p,.slice (some ⟨g,0,none⟩) l.length cap] 99 (0,0)):=hbk
  rw [Lib.cell_of_heap this]
  rfl
 have hSD:(Builtin.unsafeSliceData_ #[95] 164 #[.slice (some ⟨g,0,none⟩) l.length cap]).run Tryz.prog w.drew=.ok (.pointer (some ⟨g,0,none⟩)) w.drew:=
  Lib.run_unsafeSliceData_row _ _ _ _ _ _ (by omega)
 have hUS:(Builtin.unsafeString_ #[164,3] 9 #[.pointer (some ⟨g,0,none⟩),.int .i64 l.length]).run Tryz.prog w.drew=.ok (.string ⟨l.toArray⟩) (w.drew.freeze ⟨g,0,none⟩ l.length):=by
  refine Lib.run_unsafeString_row w.drew 164 3 9 5 Tryz.underlying164 (by kernel_rfl) g cur.size (by have hg':w.drew.heap[g]? = some (.cells cur 5 fz):=hg; simp [World.shape?,hg']) l h0 (by omega) (by unfold maxLen at hcm; omega) ?_
  intro j x hx
  have:=hown.cells (g:=g) rfl j (.int .u8 x.toNat) (by simp [Lib.byteCells,hx])
  exact this
 go_enter Tryz.func72,Tryz.ntmps72
 go_wp2_with fail
 go_region
 all_goals (go_wp2_with fail; go_ret; exact ⟨rfl,Lib.below_freeze (Below.drew (Below.refl B w)) (p:=⟨g,0,none⟩) hbg _⟩)
def evens:List Tr→List Tr
 | []=>[]
 | [k]=>[k]
 | k::_::r=>k::evens r
theorem evens_drop (l:List Tr) (k:Nat) (h:k<l.length):evens (l.drop k)=l[k]::evens (l.drop (k+2)):=by
 rw [List.drop_eq_getElem_cons h]
 by_cases h1:k+1<l.length
 ·rw [List.drop_eq_getElem_cons h1]
  rfl
 ·rw [List.drop_eq_nil_of_le (by omega),List.drop_eq_nil_of_le (by omega)]
  rfl
theorem evens_length:∀ l:List Tr,(evens l).length=(l.length+1) / 2
 | []=>by simp [evens]
 | [k]=>by simp [evens]
 | k::k'::r=>by
  show (evens r).length+1=_
  rw [evens_length r]
  simp only [List.length_cons]
  omega
theorem evens_get:∀ (l:List Tr) (i:Nat) (h:i<(evens l).length),∃ h':2*i<l.length,(evens l)[i]=l[2*i]
 | [],i,h=>absurd h (by simp [evens])
 | [k],i,h=>by
  have:i=0:=by simp [evens]at h; exact h
  subst this
  exact ⟨by simp,rfl⟩
 | k::k'::r,0,h=>⟨by simp,rfl⟩
 | k::k'::r,i+1,h=>by
  have h1:i<(evens r).length:=by
   have:i+1<(evens r).length+1:=h
   omega
  obtain ⟨h2,e⟩:=evens_get r i h1
  have h3:2*(i+1)<(k::k'::r).length:=by
   simp only [List.length_cons]
   omega
  refine ⟨h3,?_⟩
  show (evens r)[i]=_
  rw [e]
  simp only [Nat.mul_add,Nat.mul_one,List.getElem_cons_succ]
set_option maxHeartbeats 8000000 in
set_option maxRecDepth 100000 in
theorem tree_keys (l:List Tr) (A:Option Addr) (n c:Nat) (w:World) (B d:Nat) (hl:ListAt w B d l (.slice A n c)) (hB:B≤w.heap.size) (hn:l.length=n) (hc:n≤1000000000000) :
  Calls Tryz.prog 91 #[.slice A n c] w fun e w'=>(∃ A' n' c',e=.returned (.slice A' n' c')∧(evens l).length=n'∧ListAt w' w'.heap.size (d+1) (evens l) (.slice A' n' c'))∧Below w.heap.size w w':=by
 obtain ⟨i0,hi,hz0,hz1,hz2⟩:=info_parts infoNode
 have HI:=Lib.hid hi
 have HZ0:=Lib.hid hz0
 have HZ1:=Lib.hid hz1
 have HZ2:=Lib.hid hz2
 clear hi hz0 hz1 hz2
 have HL:=Lib.hid hl
 have HN:=Lib.hid hn
 have H0:=Lib.hid (show evens l=[]++evens (l.drop (2*0)) by simp)
 have hcI:(n:Int)≤1000000000000:=by omega
 have hlen:=hl.slice.1
 rw [hn]at hlen
 clear hl hn hc
 go_enter Tryz.func91,Tryz.ntmps91
 go_wp2_with fail
 go_loopw [3,4] (fun v i wr=>∃ (j:Nat) (acc:List Tr) (xs:List Value),2*j≤n+1∧acc.length=j∧i=.int .i64 ((2*j:Nat):Int)∧wr.ownsRow w.heap.size 28 9 v j xs∧RowT wr (fun q=>q<B) d acc xs∧Below w.heap.size w wr∧Hid (evens l=acc++evens (l.drop (2*j)))) (fun _ i _=>n+2 - (intOf i).toNat)
 case atStart=>exact ⟨0,[],[],by omega,rfl,rfl,World.ownsRow_nil _ _ _ _,rfl,Below.refl _ _,H0⟩
 case round =>
  obtain ⟨j,acc,xs,hj,hacc,rfl,hown,hrow,hbw,hev⟩:=hrel
  clear H0
  obtain ⟨A',c',rfl⟩:=own_sliceT hown
  have hzw:=hbw.size
  obtain ⟨k,hk⟩:∃ k,2*j=k:=⟨_,rfl⟩
  rw [hk]at hev hj ⊢
  by_cases hlt:k<n
  ·have hkl:k<l.length:=by rw [HN.out]; exact hlt
   obtain ⟨d',ad,y,hdd,rfl,hab,hok,hna,hkk⟩:=(HL.out.below hbw hB).at_ hkl
   have hev2:evens l=(acc++[l[k]])++evens (l.drop (k+2)):=by
    rw [hev.out,evens_drop l k hkl,List.append_assoc]
    rfl
   obtain ⟨_,A1,c1,rfl⟩:=hkk.slice
   obtain ⟨n1,hn1⟩:∃ n1,l[k].kids.length=n1:=⟨_,rfl⟩
   rw [hn1]at hkk hna
   have hone:RowT wr (fun q=>q<B) d [l[k]] (nodeCells l[k].own (.slice A1 n1 c1)):=RowT.one hok (hkk.deeper (by omega))
   have hrow2:=RowT.append hone hrow
   obtain ⟨o1,ho1⟩:∃ o,l[k].own=o:=⟨_,rfl⟩
   rw [ho1]at hna hrow2
   obtain ⟨kind3,b3,neg3,dg3,ex3,u3,wd3,s3⟩:=o1
   unfold nodeCells at hrow2
   obtain ⟨k0,k1,k2,k3,k4,k5,k6,k7,k8⟩:=hna
   simp only []at k0 k1 k2 k3 k4 k5 k6 k7 k8 hrow2
   have HR2:=Lib.hid hrow2
   have HE2:=Lib.hid hev2
   have HOWN:=Lib.hid hown
   have y1:(k:Int)<n:=by omega
   have y2:(k:Int)+2≤2000000000000:=by omega
   have hq:∀ q,(Value.slice A' j c').ownBlock=some q→w.heap.size≤q∧q<wr.heap.size:=fun q e=>⟨(hown.lt q e).1,(hown.lt q e).2⟩
   have HQ:=Lib.hid hq
   have hown2:(wr.alloc (.cells #[.int .i64 kind3,.bool b3,.bool neg3,.string dg3,.int .i64 ex3,.int .u64 u3,.int .i64 wd3,.string s3,.slice A1 n1 c1] 28)).ownsRow w.heap.size 28 9 (.slice A' j c') j xs:=hown.alloc _
   have c3:j+1≤maxLen:=by unfold maxLen; omega
   clear hlen
   have yj:(j:Int)≤1000000000000:=by omega
   have HK:=Lib.hid hk
   have HACC:=Lib.hid hacc
   clear hev hev2 hkk hok hdd ho1 hn1 hone hrow hrow2 hown hq hk hacc
   go_wp2_with (at_builtin; refine wpList_append_lies _ rfl _ _ 26 rfl w.heap.size 28 i0 (.agg #[.int .i64 0,.bool false,.bool false,.string ⟨#[]⟩,.int .i64 0,.int .u64 0,.int .i64 0,.string ⟨#[]⟩,.slice none 0 0]) 9 104 Tryz.underlying26 HI.out HZ0.out HZ1.out HZ2.out rfl (by decide) _ _ _ rfl hown2 ⟨wr.heap.size,0,none⟩ 1 1 [.int .i64 kind3,.bool b3,.bool neg3,.string dg3,.int .i64 ex3,.int .u64 u3,.int .i64 wd3,.string s3,.slice A1 n1 c1] rfl rfl (cells_newT _ [.int .i64 kind3,.bool b3,.bool neg3,.string dg3,.int .i64 ex3,.int .u64 u3,.int .i64 wd3,.string s3,.slice A1 n1 c1] _) (by intro u hu; simp at hu; rcases hu with rfl|rfl|rfl|rfl|rfl|rfl|rfl|rfl|rfl <;> rfl) (by decide) (by omega) (by omega) (by simp; omega) (wr.heap.size+1) (by simp) ?_; intro g cap w4 hown4 hgrow hat hg4)
   have hbw4:Below w.heap.size w w4:=(hbw.alloc hbw.size _).grown hgrow (by simp; omega) (fun q e=>(HQ.out q e).1)
   have hkp:∀ q,q<w.heap.size→w4.heap[q]? = wr.heap[q]? := fun q hq=>(hbw4.block q hq).trans (hbw.block q hq).symm
   have hrow4:=HR2.out.keep (W':=w4) (fun q hq=>hkp q (by omega))
   have HR4:=Lib.hid hrow4
   have HO4:=Lib.hid hown4
   clear hgrow hat hg4 hkp hrow4 hown4 hown2 HR2 HOWN HQ hbw k0 k1 k2 k3 k4 k5 k6 k7 k8
   go_wp2_with fail
   go_roundw
   case rel=>exact ⟨j+1,_,_,by have:=HK.out; omega,by rw [List.length_append,HACC.out]; rfl,by have:=HK.out; rw [show 2*(j+1)=k+2 by omega]; go_num,HO4.out,HR4.out,hbw4,by have:=HK.out; rw [show 2*(j+1)=k+2 by omega]; exact HE2⟩
   case measure=>simp [intOf]; omega
  ·have y1:¬ (k:Int)<n:=by omega
   have hfin:evens l=acc:=by
    rw [hev.out,List.drop_eq_nil_of_le (by rw [HN.out]; omega)]
    exact List.append_nil _
   have hres:ListAt wr wr.heap.size (d+1) acc (.slice A' j c'):=hrow.list hown hacc.symm (by omega) (fun q hq=>by omega) (fun a e=>by
    subst e
    exact (hown.lt a.block rfl).2)
   have HFIN:=Lib.hid hfin
   have HRES:=Lib.hid hres
   have HACC:=Lib.hid hacc
   clear hlen
   clear hown hrow hev hfin hres hk hacc
   go_wp2_with fail
   go_ret
   exact ⟨⟨_,_,_,rfl,by rw [HFIN.out]; exact HACC.out,by rw [HFIN.out]; exact HRES.out⟩,hbw⟩
set_option maxHeartbeats 4000000 in
set_option maxRecDepth 100000 in
theorem tsame_not (o o':Own) (A A':Option Addr) (n n' c c':Nat) (h:¬ o=o') (w:World) :
  Calls Tryz.prog 170 #[nodeV o (.slice A n c),nodeV o' (.slice A' n' c')] w fun e w'=>e=.returned (.bool false)∧Below w.heap.size w w':=by
 obtain ⟨kind,b,neg,dg,ex,u,wd,s⟩:=o
 obtain ⟨kind',b',neg',dg',ex',u',wd',s'⟩:=o'
 have hb2:=((Below.refl w.heap.size w).alloc (Nat.le_refl _) (.cells #[.int .i64 kind,.bool b,.bool neg,.string dg,.int .i64 ex,.int .u64 u,.int .i64 wd,.string s,.slice A n c] 28)).alloc (by simp) (.cells #[.int .i64 kind',.bool b',.bool neg',.string dg',.int .i64 ex',.int .u64 u',.int .i64 wd',.string s',.slice A' n' c'] 28)
 unfold nodeV
 simp only []
 have sne:∀ a b:ByteArray,a≠b→(a.toList == b.toList)=false:=fun a b h=>by
  rw [beq_eq_false_iff_ne,ByteArray.toList_eq,ByteArray.toList_eq]
  exact fun e=>h (by apply ByteArray.ext; exact Array.toList_inj.1 e)
 by_cases h1:kind=kind'
 case neg =>
  have e1:(kind == kind')=false:=by rw [beq_eq_false_iff_ne]; exact h1
  clear h sne
  go_enter Tryz.func170,Tryz.ntmps170
  go_wp2_with fail
  go_ret
  exact ⟨rfl,hb2⟩
 subst h1
 by_cases h2:b=b'
 case neg =>
  have e1:(b == b')=false:=by rw [beq_eq_false_iff_ne]; exact h2
  clear h sne
  go_enter Tryz.func170,Tryz.ntmps170
  go_wp2_with fail
  go_ret
  exact ⟨rfl,hb2⟩
 subst h2
 by_cases h3:neg=neg'
 case neg =>
  have e1:(neg == neg')=false:=by rw [beq_eq_false_iff_ne]; exact h3
  clear h sne
  go_enter Tryz.func170,Tryz.ntmps170
  go_wp2_with fail
  go_ret
  exact ⟨rfl,hb2⟩
 subst h3
 by_cases h4:dg=dg'
 case neg =>
  have e1:=sne _ _ h4
  clear h sne
  go_enter Tryz.func170,Tryz.ntmps170
  go_wp2_with fail
  go_ret
  exact ⟨rfl,hb2⟩
 subst h4
 by_cases h5:ex=ex'
 case neg =>
  have e1:(ex == ex')=false:=by rw [beq_eq_false_iff_ne]; exact h5
  clear h sne
  go_enter Tryz.func170,Tryz.ntmps170
  go_wp2_with fail
  go_ret
  exact ⟨rfl,hb2⟩
 subst h5
 by_cases h6:u=u'
 case neg =>
  have e1:(u == u')=false:=by rw [beq_eq_false_iff_ne]; exact h6
  clear h sne
  go_enter Tryz.func170,Tryz.ntmps170
  go_wp2_with fail
  go_ret
  exact ⟨rfl,hb2⟩
 subst h6
 by_cases h7:wd=wd'
 case neg =>
  have e1:(wd == wd')=false:=by rw [beq_eq_false_iff_ne]; exact h7
  clear h sne
  go_enter Tryz.func170,Tryz.ntmps170
  go_wp2_with fail
  go_ret
  exact ⟨rfl,hb2⟩
 subst h7
 by_cases h8:s=s'
 case neg =>
  have e1:=sne _ _ h8
  clear h sne
  go_enter Tryz.func170,Tryz.ntmps170
  go_wp2_with fail
  go_ret
  exact ⟨rfl,hb2⟩
 subst h8
 exact absurd rfl h
def eqL (l l':List Tr):Bool:=decide (l.length=l'.length) && sameL l l'
theorem sameT_eqL (t t':Tr):sameT t t'=(decide (t.own=t'.own) && eqL t.kids t'.kids):=by
 rw [sameT_eq,Bool.and_assoc]
 rfl
set_option maxHeartbeats 4000000 in
set_option maxRecDepth 100000 in
theorem equal_func (d:Nat) (ih:∀ d',d'<d→∀ (t t':Tr) (x x':Value) (w:World) (B:Nat),ListAt w B d' t.kids x→ListAt w B d' t'.kids x'→B≤w.heap.size →
   Calls Tryz.prog 170 #[nodeV t.own x,nodeV t'.own x'] w fun e w'=>e=.returned (.bool (sameT t t'))∧Below w.heap.size w w')
  (l l':List Tr) (A A':Option Addr) (n n' c c':Nat) (w:World) (B:Nat) (hl:ListAt w B d l (.slice A n c)) (hl':ListAt w B d l' (.slice A' n' c')) (hB:B≤w.heap.size) (hn:l.length=n) (hn':l'.length=n') :
  Calls Tryz.prog 213 #[.slice A n c,.slice A' n' c',.func (.func 170) #[] #[]] w fun e w'=>e=.returned (.bool (eqL l l'))∧Below w.heap.size w w':=by
 by_cases hnn:n=n'
 ·subst hnn
  have he:eqL l l'=sameL l l':=by
   unfold eqL
   rw [hn,hn',decide_eq_true rfl,Bool.true_and]
  rw [he]
  obtain ⟨ans,hans⟩:∃ ans,sameL l l'=ans:=⟨_,rfl⟩
  rw [hans]
  have HL:=Lib.hid hl
  have HL':=Lib.hid hl'
  have IH:=Lib.hid ih
  have HN:=Lib.hid hn
  have HN':=Lib.hid hn'
  have H0:=Lib.hid (show sameL (l.drop 0) (l'.drop 0)=ans by rw [List.drop_zero,List.drop_zero]; exact hans)
  have hlen:=hl.slice.1
  rw [hn]at hlen
  clear hl hl' ih he hans hn hn'
  go_enter Tryz.func213,Tryz.ntmps213
  go_wp2_with fail
  go_loopw [17] (fun i wr=>∃ k:Nat,k≤n∧i=.int .i64 k∧Below w.heap.size w wr∧Hid (sameL (l.drop k) (l'.drop k)=ans)) (fun i _=>n - (intOf i).toNat)
  case atStart=>exact ⟨0,by omega,rfl,Below.refl _ _,H0⟩
  case round =>
   obtain ⟨k,hk,rfl,hbw,hs⟩:=hrel
   by_cases hlt:k<n
   ·have hkl:k<l.length:=by rw [HN.out]; exact hlt
    have hkl':k<l'.length:=by rw [HN'.out]; exact hlt
    have hsd:=sameL_drop l l' k hkl hkl'
    rw [hs.out]at hsd
    obtain ⟨d1,ad,x1,hd1,rfl,hab,hok,hna,hkk⟩:=(HL.out.below hbw hB).at_ hkl
    obtain ⟨d2,ad',x2,hd2,rfl,hab',hok',hna',hkk'⟩:=(HL'.out.below hbw hB).at_ hkl'
    obtain rfl:d1=d2:=by omega
    obtain ⟨_,A2,c2,rfl⟩:=hkk.slice
    obtain ⟨n2,hn2⟩:∃ n2,l[k].kids.length=n2:=⟨_,rfl⟩
    rw [hn2]at hna hkk
    obtain ⟨_,A3,c3,rfl⟩:=hkk'.slice
    obtain ⟨n3,hn3⟩:∃ n3,l'[k].kids.length=n3:=⟨_,rfl⟩
    rw [hn3]at hna' hkk'
    obtain ⟨hb2,hk1,hk2⟩:=box2 wr (cellsV l[k].own (.slice A2 n2 c2)) (cellsV l'[k].own (.slice A3 n3 c3)) 28 28
    have hb3:=hbw.trans (hb2.mono hbw.size)
    have hBr:=Nat.le_trans hB hbw.size
    have HC:=IH.out d1 (by omega) l[k] l'[k] (.slice A2 n2 c2) (.slice A3 n3 c3) _ B (hkk.below hb2 hBr) (hkk'.below hb2 hBr) (Nat.le_trans hB hb3.size)
    have hna':NodeAt (wr.alloc (.cells (cellsV l[k].own (.slice A2 n2 c2)) 28)) (ad'.add (k*9)) l'[k].own (.slice A3 n3 c3):=by
     have hb1:Below wr.heap.size wr (wr.alloc (.cells (cellsV l[k].own (.slice A2 n2 c2)) 28)):=(Below.refl _ _).alloc (Nat.le_refl _) _
     obtain ⟨q0,q1,q2,q3,q4,q5,q6,q7,q8⟩:=hna'
     have hlt:(ad'.add (k*9)).block<wr.heap.size:=by rw [add_block]; omega
     exact ⟨(hb1.cell hlt).trans q0,(hb1.cell (p:=⟨(ad'.add (k*9)).block,_,none⟩) hlt).trans q1,(hb1.cell (p:=⟨(ad'.add (k*9)).block,_,none⟩) hlt).trans q2,(hb1.cell (p:=⟨(ad'.add (k*9)).block,_,none⟩) hlt).trans q3,(hb1.cell (p:=⟨(ad'.add (k*9)).block,_,none⟩) hlt).trans q4,(hb1.cell (p:=⟨(ad'.add (k*9)).block,_,none⟩) hlt).trans q5,(hb1.cell (p:=⟨(ad'.add (k*9)).block,_,none⟩) hlt).trans q6,(hb1.cell (p:=⟨(ad'.add (k*9)).block,_,none⟩) hlt).trans q7,(hb1.cell (p:=⟨(ad'.add (k*9)).block,_,none⟩) hlt).trans q8⟩
    have y1:(k:Int)<n:=by omega
    obtain ⟨st,hst⟩:∃ st,sameT l[k] l'[k]=st:=⟨_,rfl⟩
    rw [hst]at HC hsd
    obtain ⟨⟨kind,b,neg,dg,ex,u,wd,s⟩,ho⟩:∃ o,l[k].own=o:=⟨_,rfl⟩
    obtain ⟨⟨kind',b',neg',dg',ex',u',wd',s'⟩,ho'⟩:∃ o,l'[k].own=o:=⟨_,rfl⟩
    rw [ho]at HC hna hna' hk1 hk2 hb3
    rw [ho']at HC hna' hk1 hk2 hb3
    unfold nodeV at HC
    unfold cellsV at HC hna' hk1 hk2 hb3
    obtain ⟨k0,k1,k2,k3,k4,k5,k6,k7,k8⟩:=hna
    obtain ⟨q0,q1,q2,q3,q4,q5,q6,q7,q8⟩:=hna'
    simp only []at k0 k1 k2 k3 k4 k5 k6 k7 k8 q0 q1 q2 q3 q4 q5 q6 q7 q8 HC hk1 hk2 hb3
    have HC:=Lib.hid HC
    have HSD:=Lib.hid hsd
    have z0:=hk1.cell 0
    have v0:=hk2.cell 0
    have z1:=hk1.cell 1
    have v1:=hk2.cell 1
    have z2:=hk1.cell 2
    have v2:=hk2.cell 2
    have z3:=hk1.cell 3
    have v3:=hk2.cell 3
    have z4:=hk1.cell 4
    have v4:=hk2.cell 4
    have z5:=hk1.cell 5
    have v5:=hk2.cell 5
    have z6:=hk1.cell 6
    have v6:=hk2.cell 6
    have z7:=hk1.cell 7
    have v7:=hk2.cell 7
    have z8:=hk1.cell 8
    have v8:=hk2.cell 8
    clear hsd hst ho ho' hkk hkk' hok hok' hd1 hd2 hb2 hn2 hn3 hbw
    go_wp2_with fail
    refine HC.out.mono ?_
    rintro e w2 ⟨rfl,hb⟩
    have hb4:=hb3.trans (hb.mono hb3.size)
    clear hb hb3 HC hk1 hk2 z0 v0 k0 q0 z1 v1 k1 q1 z2 v2 k2 q2 z3 v3 k3 q3 z4 v4 k4 q4 z5 v5 k5 q5 z6 v6 k6 q6 z7 v7 k7 q7 z8 v8 k8 q8
    cases st with
    | true =>
     have hnx:Hid (sameL (l.drop (k+1)) (l'.drop (k+1))=ans):=Lib.hid (by have:=HSD.out; rw [Bool.true_and]at this; exact this.symm)
     go_wp2_with fail
     go_roundw
     case rel=>exact ⟨k+1,by omega,by go_num,hb4,hnx⟩
     case measure=>simp [intOf]; omega
    | false =>
     have hf:ans=false:=by rw [HSD.out,Bool.false_and]
     subst hf
     go_wp2_with fail
     go_ret
     exact ⟨rfl,hb4⟩
   ·obtain rfl:k=n:=by omega
    have y1:¬ (k:Int)<k:=by omega
    have hf:ans=true:=by
     rw [← hs.out,List.drop_eq_nil_of_le (by rw [HN.out]; exact Nat.le_refl _),List.drop_eq_nil_of_le (by rw [HN'.out]; exact Nat.le_refl _)]
     rfl
    subst hf
    go_wp2_with fail
    go_ret
    exact ⟨rfl,hbw⟩
 ·have he:eqL l l'=false:=by
   unfold eqL
   rw [hn,hn',decide_eq_false hnn,Bool.false_and]
  rw [he]
  have y1:((n:Int) != (n':Int))=true:=by rw [bne_iff_ne]; omega
  have y2:¬ (n:Int)=n':=by omega
  clear hl hl' ih he hn hn'
  go_enter Tryz.func213,Tryz.ntmps213
  go_wp2_with fail
  go_ret
  exact ⟨rfl,Below.refl _ _⟩
set_option maxHeartbeats 4000000 in
set_option maxRecDepth 100000 in
theorem tree_Same (d:Nat):∀ (t t':Tr) (x x':Value) (w:World) (B:Nat),ListAt w B d t.kids x→ListAt w B d t'.kids x'→B≤w.heap.size →
  Calls Tryz.prog 170 #[nodeV t.own x,nodeV t'.own x'] w fun e w'=>e=.returned (.bool (sameT t t'))∧Below w.heap.size w w':=by
 induction d using Nat.strongRecOn with
 | _ d ih =>
 intro t t' x x' w B hl hl' hB
 obtain ⟨_,A,c,rfl⟩:=hl.slice
 obtain ⟨_,A',c',rfl⟩:=hl'.slice
 obtain ⟨n,hn⟩:∃ n,t.kids.length=n:=⟨_,rfl⟩
 obtain ⟨n',hn'⟩:∃ n',t'.kids.length=n':=⟨_,rfl⟩
 rw [hn]at hl ⊢
 rw [hn']at hl' ⊢
 rw [sameT_eqL]
 by_cases ho:t.own=t'.own
 ·rw [← ho,decide_eq_true rfl,Bool.true_and]
  obtain ⟨hb2,hk1,hk2⟩:=box2 w (cellsV t.own (.slice A n c)) (cellsV t.own (.slice A' n' c')) 28 28
  have HE:=equal_func d ih t.kids t'.kids A A' n n' c c' _ B (hl.below hb2 hB) (hl'.below hb2 hB) (Nat.le_trans hB hb2.size) hn hn'
  obtain ⟨ans,hans⟩:∃ ans,eqL t.kids t'.kids=ans:=⟨_,rfl⟩
  rw [hans]at HE ⊢
  obtain ⟨⟨kind,b,neg,dg,ex,u,wd,s⟩,hoo⟩:∃ o,t.own=o:=⟨_,rfl⟩
  rw [hoo]at HE hb2 hk1 hk2 ⊢
  unfold nodeV
  unfold cellsV at HE hb2 hk1 hk2
  simp only []at HE hb2 hk1 hk2 ⊢
  have HE:=Lib.hid HE
  have z0:=hk1.cell 0
  have v0:=hk2.cell 0
  have z1:=hk1.cell 1
  have v1:=hk2.cell 1
  have z2:=hk1.cell 2
  have v2:=hk2.cell 2
  have z3:=hk1.cell 3
  have v3:=hk2.cell 3
  have z4:=hk1.cell 4
  have v4:=hk2.cell 4
  have z5:=hk1.cell 5
  have v5:=hk2.cell 5
  have z6:=hk1.cell 6
  have v6:=hk2.cell 6
  have z7:=hk1.cell 7
  have v7:=hk2.cell 7
  have z8:=hk1.cell 8
  have v8:=hk2.cell 8
  clear hl hl' ih hans hk1 hk2 hn hn' hoo ho
  go_enter Tryz.func170,Tryz.ntmps170
  go_wp2_with fail
  refine HE.out.mono ?_
  rintro e w2 ⟨rfl,hb⟩
  have hb3:=hb2.trans (hb.mono hb2.size)
  clear HE hb hb2
  go_wp2_with fail
  go_ret
  exact ⟨rfl,hb3⟩
 ·rw [decide_eq_false ho,Bool.false_and]
  exact tsame_not t.own t'.own A A' n n' c c' ho w
theorem sameT_bare (o xo:Own):sameT (.nd o []) (.nd { xo with kind:=o.kind } [])=onlyB o xo:=by
 rw [sameT_eq]
 unfold onlyB
 simp only [Tr.kids,Tr.own,sameL,List.length_nil,decide_true,Bool.and_true]
 exact decide_eq_decide.2 Iff.rfl
set_option maxHeartbeats 4000000 in
set_option maxRecDepth 100000 in
theorem tree_bare (o xo:Own) (A A':Option Addr) (n n' c c':Nat) (w:World) :
  Calls Tryz.prog 119 #[nodeV o (.slice A n c),nodeV xo (.slice A' n' c')] w fun e w'=>e=.returned (.bool (decide (n=0) && onlyB o xo))∧Below w.heap.size w w':=by
 obtain ⟨kind,b,neg,dg,ex,u,wd,s⟩:=o
 obtain ⟨kind',b',neg',dg',ex',u',wd',s'⟩:=xo
 obtain ⟨hb3,hz1,hs2⟩:=box2 w #[.int .i64 kind,.bool b,.bool neg,.string dg,.int .i64 ex,.int .u64 u,.int .i64 wd,.string s,.slice A n c] #[.int .i64 kind,.bool b',.bool neg',.string dg',.int .i64 ex',.int .u64 u',.int .i64 wd',.string s',.slice none 0 0] 28 28
 have z0:=hz1.cell 0
 have v0:=hs2.cell 0
 have z1:=hz1.cell 1
 have v1:=hs2.cell 1
 have z2:=hz1.cell 2
 have v2:=hs2.cell 2
 have z3:=hz1.cell 3
 have v3:=hs2.cell 3
 have z4:=hz1.cell 4
 have v4:=hs2.cell 4
 have z5:=hz1.cell 5
 have v5:=hs2.cell 5
 have z6:=hz1.cell 6
 have v6:=hs2.cell 6
 have z7:=hz1.cell 7
 have v7:=hs2.cell 7
 have z8:=hz1.cell 8
 have v8:=hs2.cell 8
 clear hs2 hz1
 by_cases h0:n=0
 ·subst h0
  have HS:=tree_Same 0 (.nd ⟨kind,b,neg,dg,ex,u,wd,s⟩ []) (.nd ⟨kind,b',neg',dg',ex',u',wd',s'⟩ []) (.slice A 0 c) (.slice none 0 0) ((w.alloc (.cells #[.int .i64 kind,.bool b,.bool neg,.string dg,.int .i64 ex,.int .u64 u,.int .i64 wd,.string s,.slice A 0 c] 28)).alloc (.cells #[.int .i64 kind,.bool b',.bool neg',.string dg',.int .i64 ex',.int .u64 u',.int .i64 wd',.string s',.slice none 0 0] 28)) 0 (LAt.nil _ _ _ _ _) (LAt.nil _ _ _ _ _) (Nat.zero_le _)
  have hsb:=sameT_bare ⟨kind,b,neg,dg,ex,u,wd,s⟩ ⟨kind',b',neg',dg',ex',u',wd',s'⟩
  simp only []at hsb
  rw [hsb]at HS
  obtain ⟨ans,hans⟩:∃ ans,onlyB ⟨kind,b,neg,dg,ex,u,wd,s⟩ ⟨kind',b',neg',dg',ex',u',wd',s'⟩=ans:=⟨_,rfl⟩
  rw [hans]at HS
  rw [hans,decide_eq_true (rfl:(0:Nat)=0),Bool.true_and]
  unfold nodeV at HS ⊢
  simp only [Tr.own]at HS ⊢
  have HS:=Lib.hid HS
  clear hans hsb
  go_enter Tryz.func119,Tryz.ntmps119
  go_wp2_with fail
  refine HS.out.mono ?_
  rintro e w2 ⟨rfl,hb⟩
  have hb4:=hb3.trans (hb.mono hb3.size)
  clear hb hb3 HS
  go_wp2_with fail
  go_ret
  exact ⟨rfl,hb4⟩
 ·rw [decide_eq_false h0,Bool.false_and]
  have y1:((n:Int) == 0)=false:=by rw [beq_eq_false_iff_ne]; omega
  have y2:¬ (n:Int)=0:=by omega
  unfold nodeV
  go_enter Tryz.func119,Tryz.ntmps119
  go_wp2_with fail
  go_ret
  exact ⟨rfl,hb3⟩
end Go.Proofs.YtonihophanmaaaaGreatDoor
