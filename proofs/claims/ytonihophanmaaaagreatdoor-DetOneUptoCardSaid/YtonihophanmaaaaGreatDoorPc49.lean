/- The texts TreeV, DsXjA, DsXjB, put together. -/
import Derived.Test.YtonihophanmaaaaGreatDoorRows
import Derived.Test.YtonihophanmaaaaGreatDoorPc02
import Derived.Test.YtonihophanmaaaaGreatDoorPc48
import Derived.Deep.Slices
import Derived.ChangeArms
import Derived.WideShapes
import Derived.Deep.DeepHandedRow
set_option maxHeartbeats 2000000
set_option maxRecDepth 100000
namespace Go.Proofs.YtonihophanmaaaaGreatDoor
open Go.RowKit Go.Shelf Go.Lib
theorem zce {p:Nat→Tr→Prop}:∀ (n:Nat),(∀ i,i<n→∃ s,p i s)→∃ l:List Tr,l.length=n∧∀ i (h:i<l.length),p i l[i]
 | 0,_=>⟨[],rfl,fun i h=>by simp at h⟩
 | n+1,h=>by
  obtain ⟨l,b,c⟩:=zce n (fun i a=>h i (by omega))
  obtain ⟨s,d⟩:=h n (by omega)
  refine ⟨l++[s],by simp [b],fun i a=>?_⟩
  rw [List.getElem_append]
  split
  ·exact c i _
  ·have:i=n:=by simp at a; omega
   subst this
   simpa [b] using d
theorem znE {n:Int} (h:(Lit.int .u64 n).wf=true):0≤n∧n<18446744073709551616:=by
 simp [Lit.wf,IntKind.min,IntKind.max,IntKind.signed,IntKind.bits]at h
 omega
theorem zmf:Tryz.prog.cellsOf 28=9:=by kernel_rfl
section
variable {H:Type} {enc:TypeId×Value→H} {w:World} {base:Nat} {sp:Nat→Bool} {held:Bool}
theorem zfj (d:DataW H):1≤Rows.uptoBulk d:=by
 cases d with
 | lit l=>cases l <;> simp [Rows.uptoBulk]
 | _=>simp [Rows.uptoBulk]
theorem zji {d:DataW H} {l:List (DataW H)} (h:d∈l):Rows.uptoBulk d≤Rows.uptoBulkAll l:=by
 induction l with
 | nil=>cases h
 | cons x r a =>
  simp only [Rows.uptoBulkAll]
  rcases List.mem_cons.1 h with rfl | h
  ·omega
  ·have:=a h
   omega
theorem zgR (l r:List (DataW H)):Rows.uptoBulkAll (l++r)=Rows.uptoBulkAll l+Rows.uptoBulkAll r:=by
 induction l with
 | nil=>simp [Rows.uptoBulkAll]
 | cons x l a=>simp only [List.cons_append,Rows.uptoBulkAll,a]; omega
theorem zcR (D:Nat→DataW H):∀ (n:Nat) (l:List Tr),l.length=n→(∀ i (h:i<l.length),l[i].count≤Rows.uptoBulk (D i))→zm l≤Rows.uptoBulkAll ((List.range n).map D)
 | 0,l,a,_=>by
  obtain rfl:l=[]:=List.eq_nil_of_length_eq_zero a
  simp [zm]
 | n+1,l,a,h=>by
  have hn:n<l.length:=by omega
  have e:l=l.take n++[l[n]]:=by
   rw [← List.take_succ_eq_append_getElem hn,List.take_of_length_le (by omega)]
  have f:=zcR D n (l.take n) (by rw [List.length_take]; omega) (fun i c=>by
   rw [List.length_take]at c
   rw [List.getElem_take]
   exact h i (by omega))
  rw [List.range_succ,List.map_append,zgR]
  have d:=h n hn
  have b:zm l=zm (l.take n)+zm [l[n]]:=by
   rw [← kW,← e]
  rw [b]
  simp only [zm,List.map_cons,List.map_nil,Rows.uptoBulkAll]
  omega
theorem zkd:∀ (b f:Nat) (o:List Value) (x:DataW H×List MemPlace),DataW.trod enc Tryz.prog w base sp held f 28 o=some x→Rows.uptoBulk x.1≤b →
  ∃ (t:Tr) (v:Value),o=zp t.own v∧zq w w.heap.size b t.kids v∧zt t.own∧t.count≤Rows.uptoBulk x.1:=by
 intro b
 induction b with
 | zero =>
  intro f o x _ hx
  have:=zfj x.1
  omega
 | succ b ih =>
  intro f o x h hb
  obtain ⟨xs,n,rfl,rfl,hl,am,hall⟩:=DataW.trod_struct Tryz.underlying28 h
  rw [zmf]at hl
  match o,hl with
  | [c0,c1,c2,c3,c4,c5,c6,c7,c8],_ =>
   match xs,am with
   | [N,O,P,Q,R,S,x6],_ =>
    have h0:=hall 0 _ rfl
    have r:=hall 1 _ rfl
    have J:=hall 2 _ rfl
    have K:=hall 3 _ rfl
    have L:=hall 4 _ rfl
    have M:=hall 5 _ rfl
    have h6:=hall 6 _ rfl
    obtain ⟨kind,Y,_,w0⟩:=DataW.trod_int Tryz.underlying3 h0
    obtain ⟨X,y,_⟩:=DataW.trod_bool Tryz.underlying4 r
    obtain ⟨u,z,_,w3⟩:=DataW.trod_int Tryz.underlying25 K
    obtain ⟨wd,A,_,w4⟩:=DataW.trod_int Tryz.underlying3 L
    obtain ⟨s,B,_,w5⟩:=DataW.trod_string Tryz.underlying9 M
    obtain ⟨ys,m,_,aO,aL,an,c⟩:=DataW.trod_struct Tryz.underlying24 J
    match ys,an with
    | [y0,y1,y2],_ =>
     have g0:=c 0 _ rfl
     have G:=c 1 _ rfl
     have I:=c 2 _ rfl
     obtain ⟨neg,C,_⟩:=DataW.trod_bool Tryz.underlying4 g0
     obtain ⟨dg,E,_,v1⟩:=DataW.trod_string Tryz.underlying9 G
     obtain ⟨ex,F,_,v2⟩:=DataW.trod_int Tryz.underlying3 I
     have Y:[c0]=[_]:=Y
     have y:[c1]=[_]:=y
     have z:[c5]=[_]:=z
     have A:[c6]=[_]:=A
     have B:[c7]=[_]:=B
     have C:[c2]=[_]:=C
     have E:[c3]=[_]:=E
     have F:[c4]=[_]:=F
     cases Y
     cases y
     cases z
     cases A
     cases B
     cases C
     cases E
     cases F
     have W:zt ⟨kind,X,neg,dg,ex,u,wd,s⟩:=⟨by simpa [maxLen] using v1,by simpa [maxLen] using w5,wf_i64 w0,wf_i64 v2,znE w3,wf_i64 w4⟩
     have k:Rows.uptoBulk x6.1+1≤Rows.uptoBulk (DataW.agg ([N,O,P,Q,R,S,x6].map (·.1))):=by
      simp only [Rows.uptoBulk,List.map_cons,List.map_nil,Rows.uptoBulkAll]
      omega
     have h6:DataW.trod enc Tryz.prog w base sp held n 26 [c8]=some x6:=h6
     clear hall c h h0 r J K L M g0 G I y z A B C E F w0 w3 w4 w5 v1 v2
     rcases Go.Deep.open_slice Tryz.underlying26 h6 with ⟨Z,_⟩ | ⟨a,len,T,m',n',D,Pl,Z,aI,aM,hm,ai,al,hx⟩
     ·cases Z
      refine ⟨.nd ⟨kind,X,neg,dg,ex,u,wd,s⟩ [],.slice none 0 0,rfl,LAt.nil _ _ _ _ _,W,?_⟩
      rw [Tr.count_eq]
      show 1+zm []≤_
      rw [zm]
      exact zfj _
     ·cases Z
      have aN:len≤m':=by rw [ai]; split <;> omega
      rw [zmf]at hx
      have ag:x6.1=DataW.slice ((List.range len).map D) ((List.range (m' - len)).map fun j=>D (len+j)):=by rw [al]
      rw [ag]at k
      have aK:Rows.uptoBulkAll ((List.range len).map D)+2≤Rows.uptoBulk (DataW.agg ([N,O,P,Q,R,S,x6].map (·.1))):=by
       have:Rows.uptoBulk (DataW.slice ((List.range len).map D) ((List.range (m' - len)).map fun j=>D (len+j)))=Rows.uptoBulkAll ((List.range len).map D)+Rows.uptoBulkAll ((List.range (m' - len)).map fun j=>D (len+j))+1:=by simp only [Rows.uptoBulk]
       rw [this]at k
       omega
      have af:∀ i,i<len→Rows.uptoBulk (D i)≤b:=fun i g=>by
       have r:=zji (d:=D i) (l:=(List.range len).map D) (List.mem_map.2 ⟨i,List.mem_range.2 g,rfl⟩)
       have aJ:Rows.uptoBulk (DataW.agg ([N,O,P,Q,R,S,x6].map (·.1)))≤b+1:=hb
       omega
      obtain ⟨l,V,hp⟩:=zce (p:=fun i t=>∃ v,(∀ j q,(zp t.own v)[j]? = some q→w.cell? (a.add (i*9+j))=some q)∧a.block<w.heap.size∧zq w w.heap.size b t.kids v∧zt t.own∧t.count≤Rows.uptoBulk (D i)) len (fun i g=>by
       obtain ⟨ac,r,J⟩:=hx i (by omega)
       obtain ⟨t,v,e,K,L,M⟩:=ih n' ac (D i,Pl i) J (af i g)
       subst e
       obtain ⟨_,aC,hc⟩:=World.cells?_some r
       have U:∀ j q,(zp t.own v)[j]? = some q→w.cell? (a.add (i*9+j))=some q:=fun j q hq=>by
        have hj:j<9:=(List.getElem?_eq_some_iff.1 hq).1
        rw [← add_add',hc j hj,hq]
       refine ⟨t,v,U,?_,K,L,M⟩
       have:=zeO (U 0 _ rfl)
       rwa [add_block]at this)
      refine ⟨.nd ⟨kind,X,neg,dg,ex,u,wd,s⟩ l,.slice (some a) len T,rfl,⟨some a,T,by rw [← V]; rfl,⟨by show l.length≤_; simp [maxLen]at hm; omega,by show l.length≤_; omega⟩,fun i g=>?_⟩,W,?_⟩
      ·obtain ⟨v,G,I,g3,g4,_⟩:=hp i g
       exact ⟨a,v,rfl,I,g4,G,g3⟩
      ·rw [Tr.count_eq]
       show 1+zm l≤Rows.uptoBulk (DataW.agg ([N,O,P,Q,R,S,x6].map (·.1)))
       have:=zcR D len l V (fun i g=>by
        obtain ⟨_,_,_,_,_,g5⟩:=hp i g
        exact g5)
       omega
theorem open_tree {W:World} {r:Reach} {c:Nat} {v:Value} {d:DataW H} {k:List MemPlace} (b:Value.okWide Tryz.prog W r c 28 v) (hd:DataW.Trod enc Tryz.prog w base sp held 28 v d k) :
  ∃ (t:Tr) (x:Value),v=ze t.own x∧zq w w.heap.size (Rows.uptoBulk d) t.kids x∧zt t.own∧t.count≤Rows.uptoBulk d:=by
 obtain ⟨a,j⟩:=hd
 obtain ⟨t,x,e,g,h,i⟩:=zkd (Rows.uptoBulk d) a _ _ j (Nat.le_refl _)
 refine ⟨t,x,?_,g,h,i⟩
 obtain ⟨f,rfl,_⟩:=Go.WideShapes.okWide_struct Tryz.underlying28 b
 have e:f.toList=zp t.own x:=e
 rw [zf3,← e]
end
end Go.Proofs.YtonihophanmaaaaGreatDoor
namespace Go.Proofs.YtonihophanmaaaaGreatDoor.detOne
open Go.ChangeShapes Go.WideShapes Go.ChangeAt Go.RowKit Go.Lib
open Go.ChangeMaps (open_string shut_string)
theorem own:ownKnob Tryz.prog.godebug=none:=by kernel_rfl
theorem laidOut:laidOutB Tryz.prog=true:=by kernel_rfl
theorem listed:Rows.detOneUptoRow.laid=wK:=rfl
abbrev zArgs:Array Value:=#[zdz,.string ByteArray.empty]
noncomputable abbrev znQ (os:Os):World:=((zau os).forCall (fun _ _=>0) ⟨#[],zArgs,[]⟩).memory
theorem lifted (os:Os) (c:os.Started) (H:Type) (enc:TypeId×Value→H) (F:Stop.Interp) :
  ReturnsInHanded {} Tryz.checked os 9 .any ((Rows.OpenSpec.upto Rows.detOneSpec).preRow enc Tryz.prog Tryz.f9 Rows.detOneUptoRow.domain false Rows.detOneUptoRow.laid) (((Rows.OpenSpec.upto Rows.detOneSpec).at F).post enc Tryz.prog Tryz.f9 false true false false):=by
 have R:(DataW.whole enc Tryz.prog (znQ os) Tryz.f9.params.toList Rows.detOneSpec.vars false zArgs.toList 8).isSome=true:=by kernel_rfl
 refine returnsInHanded_of_row (C:=Tryz.checked) (s:=Rows.OpenSpec.upto Rows.detOneSpec) own c (by kernel_rfl) Tryz.func9
  ⟨zau os,fun _ _=>0,⟨#[],zArgs,[]⟩,zlk os,zfV os _,
   rfl,(Input.okWide_of_okWideB (P:=Tryz.prog) (w:=(zau os).forCall (fun _ _=>0) ⟨#[],zArgs,[]⟩) (f:=9) (i:=⟨#[],zArgs,[]⟩) (by kernel_rfl)).2,
   OpenSpec.preRow_of_cond 8 (Option.some_get R).symm (by kernel_rfl) (fun k Q=>by cases Q; kernel_rfl) (by kernel_rfl) (by
    rw [listed]
    exact zjT os _),by
   simp only [Assume.holds]
   exact ⟨by simp,by simp,fun _=>Modest.zero,by simp,by simp⟩⟩ ?_
 intro W base a I gs m g x _ d _ u _ _
 have b:∀ (j:Nat) t v,Tryz.f9.params[j]? = some t→a[j]? = some v→Value.okWide Tryz.prog W .any base t v:=g
 have y:=x
 obtain ⟨p,q,r,M,rfl,_,_⟩:=x
 have hA:DataW.TrodAll enc Tryz.prog W 0 (fun _=>true) true Tryz.f9.params.toList a.toList I p:=r
 rw [Tryz.params9]at hA b
 obtain ⟨A,ab,n,Z,p0,q0,D,rfl,rfl,J,T⟩:=trodAll_cons hA
 obtain ⟨B,ac,o,aa,p1,q1,rfl,rfl,rfl,K,U⟩:=trodAll_cons T
 obtain ⟨rfl,rfl,rfl⟩:=trodAll_nil U
 obtain rfl:a = #[A,B]:=by cases a; simp_all
 obtain ⟨rfl,rfl⟩:=trodVars_none M
 have E:Rows.uptoBulk n≤1048576∧Rows.uptoBulk o≤1048576:=by
  have:=d _ rfl
  have h:Rows.uptoBulkAll ([n,o]++[])≤1048576:=of_decide_eq_true this
  simp only [List.append_nil,Rows.uptoBulkAll]at h
  omega
 obtain ⟨V,Y,rfl,z,l,S⟩:=open_tree (b 0 28 A rfl rfl) J
 obtain ⟨G,rfl,rfl,rfl,X⟩:=open_string Tryz.underlying9 (b 1 9 B rfl rfl) K
 rw [listed]at u
 obtain ⟨aT,aF,L⟩:=ziR u
 refine (zkb V Y G W L _ z l (by omega) X).mono fun e W' ⟨O,N⟩=>?_
 subst O
 exact ⟨_,rfl,zlm laidOut (by kernel_rfl) rfl Tryz.underlying4 rfl rfl rfl rfl y N⟩
end Go.Proofs.YtonihophanmaaaaGreatDoor.detOne
namespace Go.Proofs.YtonihophanmaaaaGreatDoor.detOne
open Go.ChangeShapes Go.WideShapes Go.ChangeAt Go.RowKit Go.Lib
open Go.ChangeMaps (open_string shut_string)
theorem zmN:(Rows.detOneUptoRow.inPlace == Tryz.pinned.checked.prog.inPlace 9)=true:=by kernel_rfl
theorem znO:(Rows.detOneUptoRow.unfollowed == Tryz.pinned.checked.prog.unfollowed 9)=true:=by kernel_rfl
theorem znN:(Rows.detOneUptoRow.recurses == Tryz.pinned.checked.prog.recurses 9)=true:=by kernel_rfl
theorem zmM:(Rows.detOneUptoRow.named == Tryz.pinned.checked.prog.varsNamed 9)=true:=by kernel_rfl
theorem zmU:Tryz.pinned.checked.prog.funcNamed Rows.detOneUptoRow.func=some 9:=by kernel_rfl
theorem zkU:joinedFacts Tryz.pinned.checked.prog 9 Tryz.f9 (Rows.OpenSpec.upto Rows.detOneSpec).bare Rows.detOneUptoRow=true:=by
 unfold joinedFacts
 rw [zmN,znO,znN,zmM]
 kernel_rfl
theorem over:Rows.DetOneUptoSaid:=
 OpenClaim.holds_of_cond 9 Tryz.f9 rfl rfl rfl rfl rfl rfl rfl ⟨rfl,rfl,rfl,rfl,rfl⟩ rfl rfl rfl rfl rfl zmU Tryz.func9 zkU
  (of_decide_eq_true (by kernel_rfl)) (by unfold Func.isWrapper; first | (rw [if_pos (by decide +kernel)]; kernel_rfl) | (rw [if_neg (by decide +kernel)]; exact ⟨rfl,rfl⟩))
  (fun os a H b _ F=>by rw [OpenClaim.pre_eq_preRow]; exact lifted os a H b F)
end Go.Proofs.YtonihophanmaaaaGreatDoor.detOne
