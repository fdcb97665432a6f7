/- The texts DtF, BuildW, GateK, GateB, GateC, put together. -/
import Derived.Test.YtonihophanmaaaaGreatDoorPc04
import Derived.Test.YtonihophanmaaaaGreatDoorPc01
import Derived.Test.YtonihophanmaaaaGreatDoorChecked
import Derived.Test.YtonihophanmaaaaGreatDoorPc07
import Derived.Lib.FrozenHead
import Derived.RegionCalls
import Derived.Test.YtonihophanmaaaaGreatDoorPc03
set_option maxHeartbeats 8000000
set_option maxRecDepth 100000
namespace Go.Proofs.YtonihophanmaaaaGreatDoor
open Go.RowKit Go.Shelf
abbrev vI:Tr:=.nd { zv with kind:=1 } []
abbrev mpO:Own:={ zv with kind:=8 }
abbrev vm (a:Tr):Tr:=.nd mpO [a,vI]
theorem vW:jk vI=true∧jf 2 flC vI=true∧vI.count=1∧vI.depth=1:=by
 refine ⟨?_,by decide +kernel,by decide +kernel,by decide +kernel⟩
 rw [jk,jy]
 simp [ownB,zI]
theorem zdX (l:List Tr):ownB mpO l=(decide (l.length % 2=0) && qP l):=by
 simp [ownB,zI]
theorem zmD (l:List Tr):qc 2 flC mpO l=zG 2 l:=by
 simp [qc]
theorem qn {f:Int} {fl:Own→Bool} {t:Tr}:zj f fl t=0↔t.count≤300∧t.depth≤16∧jk t=true∧jf f fl t=true:=by
 unfold zj
 constructor
 ·intro h
  split at h
  ·rename_i a
   split at h
   ·rename_i g
    unfold xt at a
    rw [Bool.and_eq_true,Bool.and_eq_true,decide_eq_true_iff,decide_eq_true_iff]at a
    exact ⟨a.1,a.2.1,a.2.2,g⟩
   ·cases h
  ·cases h
 ·rintro ⟨b,c,d,e⟩
  have a:xt t=true:=by
   unfold xt
   rw [decide_eq_true b,decide_eq_true c,d]
   rfl
  rw [if_pos a,if_pos e]
theorem wy (a:Tr):zj 2 flC (vm a)=0↔jk a=true∧jf 2 flC a=true∧kg 2 a.own=true:=by
 obtain ⟨m,n,p,q⟩:=vW
 rw [qn]
 have f:qP [a,vI]=true:=by
  rw [qU]
  intro i k j f r s
  simp only [List.length_cons,List.length_nil]at j
  omega
 have g:jk (vm a)=jk a:=by
  rw [jk,zdX,f,jy,jy,jy,m]
  simp
 have h:jf 2 flC (vm a)=(kg 2 a.own && jf 2 flC a):=by
  rw [jf,zmD,zG,zG,jp,jp,jp,n]
  simp
 rw [g,h,Bool.and_eq_true]
 constructor
 ·rintro ⟨_,_,b,c,d⟩
  exact ⟨b,d,c⟩
 ·rintro ⟨b,d,c⟩
  refine ⟨?_,?_,b,c,d⟩
  ·cases a with
   | nd o l =>
    obtain ⟨e,_⟩:=vU c (js b).1
    subst e
    rw [Tr.count,zm,zm,zm,p,Tr.count,zm]
    decide
  ·cases a with
   | nd o l =>
    obtain ⟨e,_⟩:=vU c (js b).1
    subst e
    rw [Tr.depth,zW,zW,zW,q,Tr.depth,zW]
    decide
section
variable (it:Tr→List UInt8)
noncomputable def yw (a b:Tr):Bool:=decide (zj 2 flC (vm a)=0) && (decide (zj 2 flC (vm b)=0) && decide (it a<it b))
variable {it}
theorem zfZ {a b:Tr}:yw it a b=true↔zj 2 flC (vm a)=0∧zj 2 flC (vm b)=0∧it a<it b:=by
 unfold yw
 rw [Bool.and_eq_true,Bool.and_eq_true,decide_eq_true_iff,decide_eq_true_iff,decide_eq_true_iff]
end
end Go.Proofs.YtonihophanmaaaaGreatDoor
namespace Go.Proofs.YtonihophanmaaaaGreatDoor
open Go.RowKit Go.Shelf
abbrev IsW (B b:Nat) (bs:List Value) (w:World):Prop:=Lib.IsBuilderF 99 5 B b bs w
abbrev AtW (B b:Nat) (bs:List Value) (w:World):Prop:=Lib.BuilderAtF 99 5 B b (.pointer (some ⟨b,0,none⟩)) bs w
theorem AtW.is {B b:Nat} {a:List Value} {w:World} (h:AtW B b a w):IsW B b a w:=.inr h
theorem zbH:(Tryz.prog.info? 97).map (·.size)=some 2:=by kernel_rfl
theorem zf0:liesAt Tryz.prog Tryz.prog.depth 99 (2 / Tryz.prog.cellsOf 99) 0 97 1=true:=by kernel_rfl
theorem zef:(Tryz.prog.info? 5).map (fun i=>(i.zero,i.size,i.bytes))=some (some (.int .u8 0),1,1):=by kernel_rfl
theorem zgJ (b:Nat) (w:World) (h:w.cell? ⟨b,0,none⟩=some (.pointer none)) (a:w.shape? b=some (99,2)) (g:w.frozen? ⟨b,0,none⟩=false) :
  Calls Tryz.prog 222 #[.pointer (some ⟨b,0,none⟩)] w fun e f=>e=.returned (.tuple #[])∧f=w.setCell ⟨b,0,none⟩ (.pointer (some ⟨b,0,none⟩)):=by
 obtain ⟨j,c,d⟩:=Option.map_eq_some_iff.1 zbH
 go_enter Tryz.func222,Tryz.ntmps222
 go_wp2
 rw [Lib.run_to_unsafe w ⟨b,0,none⟩ Tryz.underlying94 Tryz.underlying191 c (by rw [d]; decide) a (Nat.zero_lt_succ 1)]
 simp only [Result.andThen]
 rw [Oper.upon_value]
 go_wp2
 rw [run_callFunc_extern Tryz.func258 (by kernel_rfl) (by kernel_rfl) (by kernel_rfl) (e:=Extern.AbiNoEscape.same) (by kernel_rfl)]
 rw [Lib.run_noEscape]
 simp only [Result.andThen]
 rw [Oper.upon_value]
 go_wp2
 rw [Lib.run_from_unsafe w ⟨b,0,none⟩ Tryz.underlying191 Tryz.underlying94 c a zf0]
 simp only [Result.andThen]
 rw [Oper.upon_value]
 go_wp2
 go_end0
 exact ⟨rfl,rfl⟩
theorem zhh (b:Nat) (w:World) (d:w.cell? ⟨b,0,none⟩=some (.pointer (some ⟨b,0,none⟩))) :
  Calls Tryz.prog 222 #[.pointer (some ⟨b,0,none⟩)] w fun e c=>e=.returned (.tuple #[])∧c=w:=by
 obtain ⟨j,a,_⟩:=Option.map_eq_some_iff.1 zbH
 go_enter Tryz.func222,Tryz.ntmps222
 go_wp2
 rw [Lib.run_neq_ptr_same w _ Tryz.underlying94 a]
 go_wp2
 go_end0
 exact ⟨rfl,rfl⟩
theorem zgI (B b:Nat) (c:List Value) (w:World) (h:IsW B b c w) :
  Calls Tryz.prog 222 #[.pointer (some ⟨b,0,none⟩)] w fun e a=>e=.returned (.tuple #[])∧(AtW B b c a∧Below B w a∧Lib.OthersKept 5 (some b) w a):=by
 rcases h with h | h
 ·refine (zgJ b w h.cell0 h.shape h.frozen0).mono ?_
  rintro e a ⟨rfl,rfl⟩
  exact ⟨rfl,h.used _,(Below.refl B w).setCell (p:=⟨b,0,none⟩) h.1 _,(Lib.OthersKept.refl _ _ w).setCell ⟨b,0,none⟩ rfl _⟩
 ·refine (zhh b w h.cell0).mono ?_
  rintro e a ⟨rfl,rfl⟩
  exact ⟨rfl,h,Below.refl B _,Lib.OthersKept.refl _ _ _⟩
theorem zgH (B b:Nat) (n:List Value) (c:Int) (w:World) (h:IsW B b n w) (K:n.length+1≤140737488355328) (P:B≤w.heap.size) :
  Calls Tryz.prog 243 #[.pointer (some ⟨b,0,none⟩),.int .u8 c] w fun e t=>e=.returned .nilIface∧(AtW B b (n++[.int .u8 c]) t∧Below B w t∧Lib.OthersKept 5 (some b) w t):=by
 obtain ⟨M,I,D,E,F⟩:=info_parts zef
 have G:=Lib.hid (zgI B b n w h)
 go_enter Tryz.func243,Tryz.ntmps243
 go_wp2_with fail
 refine G.out.mono ?_
 rintro e o ⟨rfl,H,f,y⟩
 obtain ⟨x,v,l,d,A⟩:=H
 have c0:o.cell? ⟨b,0,none⟩=some (.pointer (some ⟨b,0,none⟩)):=by rw [Lib.cell_of_heap l]; rfl
 have c1:o.cell? ⟨b,1,none⟩=some v:=by rw [Lib.cell_of_heap l]; rfl
 go_wp2_with (at_builtin; refine wpList_append_ownF _ rfl _ _ 95 rfl B 5 M (.int .u8 0) 1 1 Tryz.underlying95 I D E F rfl (by decide) _ _ _ rfl (d.alloc _) ⟨o.heap.size,0,none⟩ 1 1 [.int .u8 c] rfl rfl ?c1 ?c2 ?c3 ?c4 ?c5 ?_)
 case c1 =>
  intro j u q
  match j,q with
  | 0,q=>simp at q; subst q; simp [Addr.add]
 case c2=>intro u C; simp at C; subst C; rfl
 case c3=>unfold maxLen; omega
 case c4=>omega
 case c5=>have:=f.size; simp; omega
 intro N r m a _
 have z:b<o.heap.size:=by
  rcases Nat.lt_or_ge b o.heap.size with s | s
  ·exact s
  ·simp [Array.getElem?_eq_none s]at l
 have i:r.heap[b]? = some (.cells #[.pointer (some ⟨b,0,none⟩),v] 99 (0,0)):=by
  rw [a.block b (by simp; omega) (fun e=>A e.symm),Lib.alloc_old o _ b z]
  exact l
 have Q:r.cell? ⟨b,0,none⟩=some (.pointer (some ⟨b,0,none⟩)):=by rw [Lib.cell_of_heap i]; rfl
 have R:r.cell? ⟨b,1,none⟩=some v:=by rw [Lib.cell_of_heap i]; rfl
 have S:r.frozen? ⟨b,1,none⟩=false:=Lib.frozen_of_heap i 1
 obtain ⟨g,cap,rfl⟩:∃ g cap,N=.slice (some ⟨g,0,none⟩) (n.length+1) cap:=by
  rcases m.2 with ⟨_,V⟩ | ⟨g,cap,O,U,L,_⟩
  ·omega
  ·exact ⟨g,cap,L⟩
 go_wp2
 go_ret
 refine ⟨rfl,?_,?_,((y.alloc _).grown a (Lib.ownsRowF_kind (d.alloc _))).setCell ⟨b,1,none⟩ rfl _⟩
 ·exact Lib.BuilderAtF.put (T:=99) (e:=5) x i (bs':=n++[.int .u8 c]) (by simpa using m) (by decide)
 ·exact ((f.alloc (by have:=f.size; omega) _).grown a (by have:=f.size; simp; omega) (fun k J=>(d.lt k J).1)).setCell (p:=⟨b,1,none⟩) x _
theorem vL (B b:Nat) (j:List Value) (s:ByteArray) (w:World) (h:IsW B b j w) (J:j.length+s.size≤140737488355328) (N:B≤w.heap.size) :
  Calls Tryz.prog 184 #[.pointer (some ⟨b,0,none⟩),.string s] w fun e r=>e=.returned (.tuple #[.int .i64 s.size,.nilIface])∧(AtW B b (j++Lib.strCells s) r∧Below B w r∧Lib.OthersKept 5 (some b) w r):=by
 obtain ⟨K,H,A,C,D⟩:=info_parts zef
 have F:=Lib.hid (zgI B b j w h)
 go_enter Tryz.func184,Tryz.ntmps184
 go_wp2_with fail
 refine F.out.mono ?_
 rintro e m ⟨rfl,G,l,x⟩
 obtain ⟨u,v,f,c,z⟩:=G
 have c0:m.cell? ⟨b,0,none⟩=some (.pointer (some ⟨b,0,none⟩)):=by rw [Lib.cell_of_heap f]; rfl
 have c1:m.cell? ⟨b,1,none⟩=some v:=by rw [Lib.cell_of_heap f]; rfl
 go_wp2_with (at_builtin; refine Lib.wpList_append_own_stringF _ rfl _ _ 95 9 rfl B 5 K Tryz.underlying95 Tryz.underlying9 H A C D _ _ _ rfl c s rfl ?c3 ?c4 ?c5 ?_)
 case c3=>unfold maxLen; omega
 case c4=>omega
 case c5=>have:=l.size; omega
 intro L n i a _
 have y:b<m.heap.size:=by
  rcases Nat.lt_or_ge b m.heap.size with o | o
  ·exact o
  ·simp [Array.getElem?_eq_none o]at f
 have d:n.heap[b]? = some (.cells #[.pointer (some ⟨b,0,none⟩),v] 99 (0,0)):=by
  rw [a.block b y (fun e=>z e.symm)]
  exact f
 have O:n.cell? ⟨b,0,none⟩=some (.pointer (some ⟨b,0,none⟩)):=by rw [Lib.cell_of_heap d]; rfl
 have P:n.cell? ⟨b,1,none⟩=some v:=by rw [Lib.cell_of_heap d]; rfl
 have Q:n.frozen? ⟨b,1,none⟩=false:=Lib.frozen_of_heap d 1
 obtain ⟨t,E,cap,rfl⟩:∃ t E cap,L=.slice t E cap:=by
  rcases i.2 with ⟨q,_⟩ | ⟨g,cap,M,R,q,_⟩
  ·exact ⟨_,_,_,q⟩
  ·exact ⟨_,_,_,q⟩
 go_wp2
 go_ret2
 refine ⟨rfl,?_,?_,(x.grown a (Lib.ownsRowF_kind c)).setCell ⟨b,1,none⟩ rfl _⟩
 ·exact Lib.BuilderAtF.put (T:=99) (e:=5) u d (bs':=j++Lib.strCells s) (by simpa [Lib.strCells_length] using i) (by decide)
 ·exact (l.grown a (by have:=l.size; omega) (fun k I=>(c.lt k I).1)).setCell (p:=⟨b,1,none⟩) u _
theorem zkA (B b:Nat) (l:List UInt8) (w:World) (h:IsW B b (Lib.byteCells l) w) (i:l≠[]) :
  Calls Tryz.prog 72 #[.pointer (some ⟨b,0,none⟩)] w fun e w'=>e=.returned (.string ⟨l.toArray⟩)∧Below B w w':=by
 obtain ⟨p,k⟩:∃ p,Lib.BuilderAtF 99 5 B b p (Lib.byteCells l) w:=by
  rcases h with h | h
  ·exact ⟨_,h⟩
  ·exact ⟨_,h⟩
 obtain ⟨I,v,n,d,H⟩:=k
 have s:l.length≠0:=by simpa using i
 rw [Lib.byteCells_length]at d
 obtain ⟨g,a,c,f,rfl,m,u,F,G,o,E,t⟩:∃ g a c f,v=.slice (some ⟨g,0,none⟩) l.length a∧B≤g∧w.heap[g]? = some (.cells c 5 f)∧f.2≤l.length*1∧l.length≤a∧a≤maxLen∧c.size=a*1∧c.toList.take (l.length*1)=Lib.byteCells l:=by
  rcases d.2 with ⟨_,A⟩ | ⟨g,a,c,f,y,r⟩
  ·exact absurd A s
  ·exact ⟨g,a,c,f,y,r⟩
 have c1:w.drew.cell? ⟨b,1,none⟩=some (.slice (some ⟨g,0,none⟩) l.length a):=by
  have:w.drew.heap[b]? = some (.cells #[p,.slice (some ⟨g,0,none⟩) l.length a] 99 (0,0)):=n
  rw [Lib.cell_of_heap this]
  rfl
 have C:(Builtin.unsafeSliceData_ #[95] 164 #[.slice (some ⟨g,0,none⟩) l.length a]).run Tryz.prog w.drew=.ok (.pointer (some ⟨g,0,none⟩)) w.drew:=
  Lib.run_unsafeSliceData_row _ _ _ _ _ _ (by omega)
 have D:(Builtin.unsafeString_ #[164,3] 9 #[.pointer (some ⟨g,0,none⟩),.int .i64 l.length]).run Tryz.prog w.drew=.ok (.string ⟨l.toArray⟩) (w.drew.freeze ⟨g,0,none⟩ l.length):=by
  refine Lib.run_unsafeString_row w.drew 164 3 9 5 Tryz.underlying164 (by kernel_rfl) g c.size (by have q:w.drew.heap[g]? = some (.cells c 5 f):=u; simp [World.shape?,q]) l i (by omega) (by unfold maxLen at o; omega) ?_
  intro j x z
  have:=d.cells (g:=g) rfl j (.int .u8 x.toNat) (by simp [Lib.byteCells,z])
  exact this
 go_enter Tryz.func72,Tryz.ntmps72
 go_wp2_with fail
 go_region
 all_goals (go_wp2_with fail; go_ret; exact ⟨rfl,Lib.below_freeze (Below.drew (Below.refl B w)) (p:=⟨g,0,none⟩) m _⟩)
def jg:List Tr→List Tr
 | []=>[]
 | [k]=>[k]
 | k::_::r=>k::jg r
theorem zic (l:List Tr) (k:Nat) (h:k<l.length):jg (l.drop k)=l[k]::jg (l.drop (k+2)):=by
 rw [List.drop_eq_getElem_cons h]
 by_cases a:k+1<l.length
 ·rw [List.drop_eq_getElem_cons a]
  rfl
 ·rw [List.drop_eq_nil_of_le (by omega),List.drop_eq_nil_of_le (by omega)]
  rfl
theorem zbg:∀ l:List Tr,(jg l).length=(l.length+1) / 2
 | []=>by simp [jg]
 | [k]=>by simp [jg]
 | k::a::r=>by
  show (jg r).length+1=_
  rw [zbg r]
  simp only [List.length_cons]
  omega
theorem ym:∀ (l:List Tr) (i:Nat) (h:i<(jg l).length),∃ d:2*i<l.length,(jg l)[i]=l[2*i]
 | [],i,h=>absurd h (by simp [jg])
 | [k],i,h=>by
  have:i=0:=by simp [jg]at h; exact h
  subst this
  exact ⟨by simp,rfl⟩
 | k::a::r,0,h=>⟨by simp,rfl⟩
 | k::a::r,i+1,h=>by
  have b:i<(jg r).length:=by
   have:i+1<(jg r).length+1:=h
   omega
  obtain ⟨f,e⟩:=ym r i b
  have c:2*(i+1)<(k::a::r).length:=by
   simp only [List.length_cons]
   omega
  refine ⟨c,?_⟩
  show (jg r)[i]=_
  rw [e]
  simp only [Nat.mul_add,Nat.mul_one,List.getElem_cons_succ]
theorem zbL (l:List Tr) (A:Option Addr) (n c:Nat) (w:World) (B d:Nat) (hl:zq w B d l (.slice A n c)) (hB:B≤w.heap.size) (hn:l.length=n) (hc:n≤1000000000000) :
  Calls Tryz.prog 91 #[.slice A n c] w fun e w'=>(∃ I n' J,e=.returned (.slice I n' J)∧(jg l).length=n'∧zq w' w'.heap.size (d+1) (jg l) (.slice I n' J))∧Below w.heap.size w w':=by
 obtain ⟨i0,hi,ac,ae,af⟩:=info_parts xQ
 have HI:=Lib.hid hi
 have av:=Lib.hid ac
 have aw:=Lib.hid ae
 have ax:=Lib.hid af
 clear hi ac ae af
 have HL:=Lib.hid hl
 have HN:=Lib.hid hn
 have H0:=Lib.hid (show jg l=[]++jg (l.drop (2*0)) by simp)
 have aW:(n:Int)≤1000000000000:=by omega
 have x:=hl.slice.1
 rw [hn]at x
 clear hl hn hc
 go_enter Tryz.func91,Tryz.ntmps91
 go_wp2_with fail
 go_loopw [3,4] (fun v i wr=>∃ (j:Nat) (acc:List Tr) (xs:List Value),2*j≤n+1∧acc.length=j∧i=.int .i64 ((2*j:Nat):Int)∧wr.ownsRow w.heap.size 28 9 v j xs∧zV wr (fun q=>q<B) d acc xs∧Below w.heap.size w wr∧Hid (jg l=acc++jg (l.drop (2*j)))) (fun _ i _=>n+2 - (intOf i).toNat)
 case atStart=>exact ⟨0,[],[],by omega,rfl,rfl,World.ownsRow_nil _ _ _ _,rfl,Below.refl _ _,H0⟩
 case round =>
  obtain ⟨j,acc,xs,hj,h,rfl,b,p,m,s⟩:=hrel
  clear H0
  obtain ⟨I,J,rfl⟩:=xE b
  have aX:=m.size
  obtain ⟨k,V⟩:∃ k,2*j=k:=⟨_,rfl⟩
  rw [V]at s hj ⊢
  by_cases aC:k<n
  ·have X:k<l.length:=by rw [HN.out]; exact aC
   obtain ⟨d',ad,y,az,rfl,aV,ab,Q,E⟩:=(HL.out.below m hB).at_ X
   have O:jg l=(acc++[l[k]])++jg (l.drop (k+2)):=by
    rw [s.out,zic l k X,List.append_assoc]
    rfl
   obtain ⟨_,U,c1,rfl⟩:=E.slice
   obtain ⟨n1,Z⟩:∃ n1,l[k].kids.length=n1:=⟨_,rfl⟩
   rw [Z]at E Q
   have R:zV wr (fun q=>q<B) d [l[k]] (zp l[k].own (.slice U n1 c1)):=zV.one ab (E.deeper (by omega))
   have f:=zV.append R p
   obtain ⟨o1,aa⟩:∃ o,l[k].own=o:=⟨_,rfl⟩
   rw [aa]at Q f
   obtain ⟨r,b3,C,L,M,u3,T,s3⟩:=o1
   unfold zp at f
   obtain ⟨k0,k1,k2,k3,k4,k5,k6,k7,k8⟩:=Q
   simp only []at k0 k1 k2 k3 k4 k5 k6 k7 k8 f
   have W:=Lib.hid f
   have ao:=Lib.hid O
   have ah:=Lib.hid b
   have y1:(k:Int)<n:=by omega
   have y2:(k:Int)+2≤2000000000000:=by omega
   have z:∀ q,(Value.slice I j J).ownBlock=some q→w.heap.size≤q∧q<wr.heap.size:=fun q e=>⟨(b.lt q e).1,(b.lt q e).2⟩
   have HQ:=Lib.hid z
   have F:(wr.alloc (.cells #[.int .i64 r,.bool b3,.bool C,.string L,.int .i64 M,.int .u64 u3,.int .i64 T,.string s3,.slice U n1 c1] 28)).ownsRow w.heap.size 28 9 (.slice I j J) j xs:=b.alloc _
   have c3:j+1≤maxLen:=by unfold maxLen; omega
   clear x
   have yj:(j:Int)≤1000000000000:=by omega
   have HK:=Lib.hid V
   have t:=Lib.hid h
   clear s O E ab az aa Z R p f b z V h
   go_wp2_with (at_builtin; refine wpList_append_lies _ rfl _ _ 26 rfl w.heap.size 28 i0 (.agg #[.int .i64 0,.bool false,.bool false,.string ⟨#[]⟩,.int .i64 0,.int .u64 0,.int .i64 0,.string ⟨#[]⟩,.slice none 0 0]) 9 104 Tryz.underlying26 HI.out av.out aw.out ax.out rfl (by decide) _ _ _ rfl F ⟨wr.heap.size,0,none⟩ 1 1 [.int .i64 r,.bool b3,.bool C,.string L,.int .i64 M,.int .u64 u3,.int .i64 T,.string s3,.slice U n1 c1] rfl rfl (zam _ [.int .i64 r,.bool b3,.bool C,.string L,.int .i64 M,.int .u64 u3,.int .i64 T,.string s3,.slice U n1 c1] _) (by intro u hu; simp at hu; rcases hu with rfl|rfl|rfl|rfl|rfl|rfl|rfl|rfl|rfl <;> rfl) (by decide) (by omega) (by omega) (by simp; omega) (wr.heap.size+1) (by simp) ?_; intro g aU w4 G D ay aA)
   have N:Below w.heap.size w w4:=(m.alloc m.size _).grown D (by simp; omega) (fun q e=>(HQ.out q e).1)
   have Y:∀ q,q<w.heap.size→w4.heap[q]? = wr.heap[q]? := fun q z=>(N.block q z).trans (m.block q z).symm
   have H:=W.out.keep (W':=w4) (fun q z=>Y q (by omega))
   have au:=Lib.hid H
   have aq:=Lib.hid G
   clear D ay aA Y H G F W ah HQ m k0 k1 k2 k3 k4 k5 k6 k7 k8
   go_wp2_with fail
   go_roundw
   case rel=>exact ⟨j+1,_,_,by have:=HK.out; omega,by rw [List.length_append,t.out]; rfl,by have:=HK.out; rw [show 2*(j+1)=k+2 by omega]; go_num,aq.out,au.out,N,by have:=HK.out; rw [show 2*(j+1)=k+2 by omega]; exact ao⟩
   case measure=>simp [intOf]; omega
  ·have y1:¬ (k:Int)<n:=by omega
   have P:jg l=acc:=by
    rw [s.out,List.drop_eq_nil_of_le (by rw [HN.out]; omega)]
    exact List.append_nil _
   have S:zq wr wr.heap.size (d+1) acc (.slice I j J):=p.list b h.symm (by omega) (fun q z=>by omega) (fun a e=>by
    subst e
    exact (b.lt a.block rfl).2)
   have K:=Lib.hid P
   have ai:=Lib.hid S
   have t:=Lib.hid h
   clear x
   clear b p s P S V h
   go_wp2_with fail
   go_ret
   exact ⟨⟨_,_,_,rfl,by rw [K.out]; exact t.out,by rw [K.out]; exact ai.out⟩,m⟩
theorem zkx (o o':Own) (A r:Option Addr) (n E c c':Nat) (h:¬ o=o') (w:World) :
  Calls Tryz.prog 170 #[ze o (.slice A n c),ze o' (.slice r E c')] w fun e w'=>e=.returned (.bool false)∧Below w.heap.size w w':=by
 obtain ⟨kind,b,neg,dg,ex,u,wd,s⟩:=o
 obtain ⟨g,p,j,m,k,q,l,F⟩:=o'
 have f:=((Below.refl w.heap.size w).alloc (Nat.le_refl _) (.cells #[.int .i64 kind,.bool b,.bool neg,.string dg,.int .i64 ex,.int .u64 u,.int .i64 wd,.string s,.slice A n c] 28)).alloc (by simp) (.cells #[.int .i64 g,.bool p,.bool j,.string m,.int .i64 k,.int .u64 q,.int .i64 l,.string F,.slice r E c'] 28)
 unfold ze
 simp only []
 have d:∀ a b:ByteArray,a≠b→(a.toList == b.toList)=false:=fun a b h=>by
  rw [beq_eq_false_iff_ne,ByteArray.toList_eq,ByteArray.toList_eq]
  exact fun e=>h (by apply ByteArray.ext; exact Array.toList_inj.1 e)
 by_cases t:kind=g
 case neg =>
  have i:(kind == g)=false:=by rw [beq_eq_false_iff_ne]; exact t
  clear h d
  go_enter Tryz.func170,Tryz.ntmps170
  go_wp2_with fail
  go_ret
  exact ⟨rfl,f⟩
 subst t
 by_cases v:b=p
 case neg =>
  have i:(b == p)=false:=by rw [beq_eq_false_iff_ne]; exact v
  clear h d
  go_enter Tryz.func170,Tryz.ntmps170
  go_wp2_with fail
  go_ret
  exact ⟨rfl,f⟩
 subst v
 by_cases x:neg=j
 case neg =>
  have i:(neg == j)=false:=by rw [beq_eq_false_iff_ne]; exact x
  clear h d
  go_enter Tryz.func170,Tryz.ntmps170
  go_wp2_with fail
  go_ret
  exact ⟨rfl,f⟩
 subst x
 by_cases y:dg=m
 case neg =>
  have i:=d _ _ y
  clear h d
  go_enter Tryz.func170,Tryz.ntmps170
  go_wp2_with fail
  go_ret
  exact ⟨rfl,f⟩
 subst y
 by_cases z:ex=k
 case neg =>
  have i:(ex == k)=false:=by rw [beq_eq_false_iff_ne]; exact z
  clear h d
  go_enter Tryz.func170,Tryz.ntmps170
  go_wp2_with fail
  go_ret
  exact ⟨rfl,f⟩
 subst z
 by_cases B:u=q
 case neg =>
  have i:(u == q)=false:=by rw [beq_eq_false_iff_ne]; exact B
  clear h d
  go_enter Tryz.func170,Tryz.ntmps170
  go_wp2_with fail
  go_ret
  exact ⟨rfl,f⟩
 subst B
 by_cases C:wd=l
 case neg =>
  have i:(wd == l)=false:=by rw [beq_eq_false_iff_ne]; exact C
  clear h d
  go_enter Tryz.func170,Tryz.ntmps170
  go_wp2_with fail
  go_ret
  exact ⟨rfl,f⟩
 subst C
 by_cases D:s=F
 case neg =>
  have i:=d _ _ D
  clear h d
  go_enter Tryz.func170,Tryz.ntmps170
  go_wp2_with fail
  go_ret
  exact ⟨rfl,f⟩
 subst D
 exact absurd rfl h
def eqL (l l':List Tr):Bool:=decide (l.length=l'.length) && qt l l'
theorem zkm (t t':Tr):j1 t t'=(decide (t.own=t'.own) && eqL t.kids t'.kids):=by
 rw [zcz,Bool.and_assoc]
 rfl
theorem zib (d:Nat) (ih:∀ d',d'<d→∀ (t t':Tr) (x x':Value) (w:World) (B:Nat),zq w B d' t.kids x→zq w B d' t'.kids x'→B≤w.heap.size →
   Calls Tryz.prog 170 #[ze t.own x,ze t'.own x'] w fun e w'=>e=.returned (.bool (j1 t t'))∧Below w.heap.size w w')
  (l l':List Tr) (A A':Option Addr) (n n' c c':Nat) (w:World) (B:Nat) (M:zq w B d l (.slice A n c)) (I:zq w B d l' (.slice A' n' c')) (L:B≤w.heap.size) (hn:l.length=n) (z:l'.length=n') :
  Calls Tryz.prog 213 #[.slice A n c,.slice A' n' c',.func (.func 170) #[] #[]] w fun e w'=>e=.returned (.bool (eqL l l'))∧Below w.heap.size w w':=by
 by_cases ae:n=n'
 ·subst ae
  have G:eqL l l'=qt l l':=by
   unfold eqL
   rw [hn,z,decide_eq_true rfl,Bool.true_and]
  rw [G]
  obtain ⟨ans,C⟩:∃ ans,qt l l'=ans:=⟨_,rfl⟩
  rw [C]
  have HL:=Lib.hid M
  have ap:=Lib.hid I
  have IH:=Lib.hid ih
  have HN:=Lib.hid hn
  have W:=Lib.hid z
  have H0:=Lib.hid (show qt (l.drop 0) (l'.drop 0)=ans by rw [List.drop_zero,List.drop_zero]; exact C)
  have ak:=M.slice.1
  rw [hn]at ak
  clear M I ih G C hn z
  go_enter Tryz.func213,Tryz.ntmps213
  go_wp2_with fail
  go_loopw [17] (fun i wr=>∃ k:Nat,k≤n∧i=.int .i64 k∧Below w.heap.size w wr∧Hid (qt (l.drop k) (l'.drop k)=ans)) (fun i _=>n - (intOf i).toNat)
  case atStart=>exact ⟨0,by omega,rfl,Below.refl _ _,H0⟩
  case round =>
   obtain ⟨k,hk,rfl,r,hs⟩:=hrel
   by_cases g:k<n
   ·have aa:k<l.length:=by rw [HN.out]; exact g
    have H:k<l'.length:=by rw [W.out]; exact g
    have F:=zdr l l' k aa H
    rw [hs.out]at F
    obtain ⟨d1,ad,x1,au,rfl,bb,ay,J,E⟩:=(HL.out.below r L).at_ aa
    obtain ⟨d2,h,x2,av,rfl,aP,al,j,y⟩:=(ap.out.below r L).at_ H
    obtain rfl:d1=d2:=by omega
    obtain ⟨_,K,c2,rfl⟩:=E.slice
    obtain ⟨n2,ab⟩:∃ n2,l[k].kids.length=n2:=⟨_,rfl⟩
    rw [ab]at J E
    obtain ⟨_,A3,c3,rfl⟩:=y.slice
    obtain ⟨n3,ac⟩:∃ n3,l'[k].kids.length=n3:=⟨_,rfl⟩
    rw [ac]at j y
    obtain ⟨D,a,f⟩:=qa wr (zf l[k].own (.slice K n2 c2)) (zf l'[k].own (.slice A3 n3 c3)) 28 28
    have q:=r.trans (D.mono r.size)
    have Y:=Nat.le_trans L r.size
    have v:=IH.out d1 (by omega) l[k] l'[k] (.slice K n2 c2) (.slice A3 n3 c3) _ B (E.below D Y) (y.below D Y) (Nat.le_trans L q.size)
    have j:vQ (wr.alloc (.cells (zf l[k].own (.slice K n2 c2)) 28)) (h.add (k*9)) l'[k].own (.slice A3 n3 c3):=by
     have m:Below wr.heap.size wr (wr.alloc (.cells (zf l[k].own (.slice K n2 c2)) 28)):=(Below.refl _ _).alloc (Nat.le_refl _) _
     obtain ⟨N,O,P,Q,R,S,T,U,V⟩:=j
     have g:(h.add (k*9)).block<wr.heap.size:=by rw [add_block]; omega
     exact ⟨(m.cell g).trans N,(m.cell (p:=⟨(h.add (k*9)).block,_,none⟩) g).trans O,(m.cell (p:=⟨(h.add (k*9)).block,_,none⟩) g).trans P,(m.cell (p:=⟨(h.add (k*9)).block,_,none⟩) g).trans Q,(m.cell (p:=⟨(h.add (k*9)).block,_,none⟩) g).trans R,(m.cell (p:=⟨(h.add (k*9)).block,_,none⟩) g).trans S,(m.cell (p:=⟨(h.add (k*9)).block,_,none⟩) g).trans T,(m.cell (p:=⟨(h.add (k*9)).block,_,none⟩) g).trans U,(m.cell (p:=⟨(h.add (k*9)).block,_,none⟩) g).trans V⟩
    have y1:(k:Int)<n:=by omega
    obtain ⟨st,ag⟩:∃ st,j1 l[k] l'[k]=st:=⟨_,rfl⟩
    rw [ag]at v F
    obtain ⟨⟨kind,b,neg,dg,ex,u,wd,s⟩,ho⟩:∃ o,l[k].own=o:=⟨_,rfl⟩
    obtain ⟨⟨aL,b',aQ,a9,ba,u',bc,s'⟩,af⟩:∃ o,l'[k].own=o:=⟨_,rfl⟩
    rw [ho]at v J j a f q
    rw [af]at v j a f q
    unfold ze at v
    unfold zf at v j a f q
    obtain ⟨k0,k1,k2,k3,k4,k5,k6,k7,k8⟩:=J
    obtain ⟨N,O,P,Q,R,S,T,U,V⟩:=j
    simp only []at k0 k1 k2 k3 k4 k5 k6 k7 k8 N O P Q R S T U V v a f q
    have v:=Lib.hid v
    have X:=Lib.hid F
    have z0:=a.cell 0
    have v0:=f.cell 0
    have z1:=a.cell 1
    have v1:=f.cell 1
    have z2:=a.cell 2
    have v2:=f.cell 2
    have z3:=a.cell 3
    have v3:=f.cell 3
    have z4:=a.cell 4
    have v4:=f.cell 4
    have z5:=a.cell 5
    have v5:=f.cell 5
    have z6:=a.cell 6
    have v6:=f.cell 6
    have z7:=a.cell 7
    have v7:=f.cell 7
    have z8:=a.cell 8
    have v8:=f.cell 8
    clear F ag ho af E y ay al au av D ab ac r
    go_wp2_with fail
    refine v.out.mono ?_
    rintro e w2 ⟨rfl,hb⟩
    have Z:=q.trans (hb.mono q.size)
    clear hb q v a f z0 v0 k0 N z1 v1 k1 O z2 v2 k2 P z3 v3 k3 Q z4 v4 k4 R z5 v5 k5 S z6 v6 k6 T z7 v7 k7 U z8 v8 k8 V
    cases st with
    | true =>
     have aw:Hid (qt (l.drop (k+1)) (l'.drop (k+1))=ans):=Lib.hid (by have:=X.out; rw [Bool.true_and]at this; exact this.symm)
     go_wp2_with fail
     go_roundw
     case rel=>exact ⟨k+1,by omega,by go_num,Z,aw⟩
     case measure=>simp [intOf]; omega
    | false =>
     have hf:ans=false:=by rw [X.out,Bool.false_and]
     subst hf
     go_wp2_with fail
     go_ret
     exact ⟨rfl,Z⟩
   ·obtain rfl:k=n:=by omega
    have y1:¬ (k:Int)<k:=by omega
    have hf:ans=true:=by
     rw [← hs.out,List.drop_eq_nil_of_le (by rw [HN.out]; exact Nat.le_refl _),List.drop_eq_nil_of_le (by rw [W.out]; exact Nat.le_refl _)]
     rfl
    subst hf
    go_wp2_with fail
    go_ret
    exact ⟨rfl,r⟩
 ·have G:eqL l l'=false:=by
   unfold eqL
   rw [hn,z,decide_eq_false ae,Bool.false_and]
  rw [G]
  have y1:((n:Int) != (n':Int))=true:=by rw [bne_iff_ne]; omega
  have y2:¬ (n:Int)=n':=by omega
  clear M I ih G hn z
  go_enter Tryz.func213,Tryz.ntmps213
  go_wp2_with fail
  go_ret
  exact ⟨rfl,Below.refl _ _⟩
theorem zeD (d:Nat):∀ (t h:Tr) (x z:Value) (w:World) (B:Nat),zq w B d t.kids x→zq w B d h.kids z→B≤w.heap.size →
  Calls Tryz.prog 170 #[ze t.own x,ze h.own z] w fun e w'=>e=.returned (.bool (j1 t h))∧Below w.heap.size w w':=by
 induction d using Nat.strongRecOn with
 | _ d E =>
 intro t h x z w B m j y
 obtain ⟨_,A,c,rfl⟩:=m.slice
 obtain ⟨_,r,v,rfl⟩:=j.slice
 obtain ⟨n,hn⟩:∃ n,t.kids.length=n:=⟨_,rfl⟩
 obtain ⟨n',l⟩:∃ n',h.kids.length=n':=⟨_,rfl⟩
 rw [hn]at m ⊢
 rw [l]at j ⊢
 rw [zkm]
 by_cases p:t.own=h.own
 ·rw [← p,decide_eq_true rfl,Bool.true_and]
  obtain ⟨g,a,f⟩:=qa w (zf t.own (.slice A n c)) (zf t.own (.slice r n' v)) 28 28
  have i:=zib d E t.kids h.kids A r n n' c v _ B (m.below g y) (j.below g y) (Nat.le_trans y g.size) hn l
  obtain ⟨ans,k⟩:∃ ans,eqL t.kids h.kids=ans:=⟨_,rfl⟩
  rw [k]at i ⊢
  obtain ⟨⟨kind,b,neg,dg,ex,u,wd,s⟩,q⟩:∃ o,t.own=o:=⟨_,rfl⟩
  rw [q]at i g a f ⊢
  unfold ze
  unfold zf at i g a f
  simp only []at i g a f ⊢
  have i:=Lib.hid i
  have P:=a.cell 0
  have F:=f.cell 0
  have Q:=a.cell 1
  have G:=f.cell 1
  have R:=a.cell 2
  have H:=f.cell 2
  have S:=a.cell 3
  have I:=f.cell 3
  have T:=a.cell 4
  have J:=f.cell 4
  have U:=a.cell 5
  have K:=f.cell 5
  have V:=a.cell 6
  have L:=f.cell 6
  have W:=a.cell 7
  have M:=f.cell 7
  have X:=a.cell 8
  have N:=f.cell 8
  clear m j E k a f hn l q p
  go_enter Tryz.func170,Tryz.ntmps170
  go_wp2_with fail
  refine i.out.mono ?_
  rintro e O ⟨rfl,C⟩
  have D:=g.trans (C.mono g.size)
  clear i C g
  go_wp2_with fail
  go_ret
  exact ⟨rfl,D⟩
 ·rw [decide_eq_false p,Bool.false_and]
  exact zkx t.own h.own A r n n' c v p w
theorem ziS (o xo:Own):j1 (.nd o []) (.nd { xo with kind:=o.kind } [])=zI o xo:=by
 rw [zcz]
 unfold zI
 simp only [Tr.kids,Tr.own,qt,List.length_nil,decide_true,Bool.and_true]
 exact decide_eq_decide.2 Iff.rfl
theorem qV (o v:Own) (A B:Option Addr) (n C c c':Nat) (w:World) :
  Calls Tryz.prog 119 #[ze o (.slice A n c),ze v (.slice B C c')] w fun e w'=>e=.returned (.bool (decide (n=0) && zI o v))∧Below w.heap.size w w':=by
 obtain ⟨kind,b,neg,dg,ex,u,wd,s⟩:=o
 obtain ⟨m,p,f,h,i,t,j,r⟩:=v
 obtain ⟨l,d,a⟩:=qa w #[.int .i64 kind,.bool b,.bool neg,.string dg,.int .i64 ex,.int .u64 u,.int .i64 wd,.string s,.slice A n c] #[.int .i64 kind,.bool p,.bool f,.string h,.int .i64 i,.int .u64 t,.int .i64 j,.string r,.slice none 0 0] 28 28
 have P:=d.cell 0
 have D:=a.cell 0
 have Q:=d.cell 1
 have E:=a.cell 1
 have R:=d.cell 2
 have F:=a.cell 2
 have S:=d.cell 3
 have G:=a.cell 3
 have T:=d.cell 4
 have H:=a.cell 4
 have U:=d.cell 5
 have I:=a.cell 5
 have V:=d.cell 6
 have J:=a.cell 6
 have W:=d.cell 7
 have K:=a.cell 7
 have X:=d.cell 8
 have L:=a.cell 8
 clear a d
 by_cases x:n=0
 ·subst x
  have g:=zeD 0 (.nd ⟨kind,b,neg,dg,ex,u,wd,s⟩ []) (.nd ⟨kind,p,f,h,i,t,j,r⟩ []) (.slice A 0 c) (.slice none 0 0) ((w.alloc (.cells #[.int .i64 kind,.bool b,.bool neg,.string dg,.int .i64 ex,.int .u64 u,.int .i64 wd,.string s,.slice A 0 c] 28)).alloc (.cells #[.int .i64 kind,.bool p,.bool f,.string h,.int .i64 i,.int .u64 t,.int .i64 j,.string r,.slice none 0 0] 28)) 0 (LAt.nil _ _ _ _ _) (LAt.nil _ _ _ _ _) (Nat.zero_le _)
  have q:=ziS ⟨kind,b,neg,dg,ex,u,wd,s⟩ ⟨m,p,f,h,i,t,j,r⟩
  simp only []at q
  rw [q]at g
  obtain ⟨ans,k⟩:∃ ans,zI ⟨kind,b,neg,dg,ex,u,wd,s⟩ ⟨m,p,f,h,i,t,j,r⟩=ans:=⟨_,rfl⟩
  rw [k]at g
  rw [k,decide_eq_true (rfl:(0:Nat)=0),Bool.true_and]
  unfold ze at g ⊢
  simp only [Tr.own]at g ⊢
  have g:=Lib.hid g
  clear k q
  go_enter Tryz.func119,Tryz.ntmps119
  go_wp2_with fail
  refine g.out.mono ?_
  rintro e M ⟨rfl,y⟩
  have z:=l.trans (y.mono l.size)
  clear y l g
  go_wp2_with fail
  go_ret
  exact ⟨rfl,z⟩
 ·rw [decide_eq_false x,Bool.false_and]
  have N:((n:Int) == 0)=false:=by rw [beq_eq_false_iff_ne]; omega
  have O:¬ (n:Int)=0:=by omega
  unfold ze
  go_enter Tryz.func119,Tryz.ntmps119
  go_wp2_with fail
  go_ret
  exact ⟨rfl,l⟩
end Go.Proofs.YtonihophanmaaaaGreatDoor
