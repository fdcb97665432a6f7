/- The texts TreeV, JwBjA, JwBjB, put together. -/
import Derived.Test.YtfckekaegjjmkaaGreatDoorRows
import Derived.Test.YtfckekaegjjmkaaGreatDoorPh02
import Derived.Test.YtfckekaegjjmkaaGreatDoorPh47
import Derived.Deep.Slices
import Derived.ChangeArms
import Derived.WideShapes
import Derived.Test.YtfckekaegjjmkaaGreatDoorPh48
import Derived.Deep.DeepHandedRow
namespace Go.Proofs.YtfckekaegjjmkaaGreatDoor
open Go.RowKit Go.Shelf Go.Lib

theorem tree_choose {p:Nat → Tr → Prop}:∀ (n:Nat),(∀ i,i < n → ∃ s,p i s) → ∃ l:List Tr,l.length=n ∧ ∀ i (h:i < l.length),p i l[i]
 | 0,_=>⟨[],rfl,fun i h=>by simp at h⟩
 | n + 1,h=>by
  obtain ⟨l,hl,hp⟩:=tree_choose n (fun i hi=>h i (by omega))
  obtain ⟨s,hs⟩:=h n (by omega)
  refine ⟨l ++ [s],by simp [hl],fun i hi=>?_⟩
  rw [List.getElem_append]
  split
  ·exact hp i _
  ·have:i=n:=by simp at hi; omega
   subst this
   simpa [hl] using hs
theorem wf_n64 {n:Int} (h:(Lit.int .u64 n).wf=true):0 ≤ n ∧ n < 18446744073709551616:=by
 simp [Lit.wf,IntKind.min,IntKind.max,IntKind.signed,IntKind.bits] at h
 omega
set_option maxRecDepth 100000 in
theorem cNode:Tryz.prog.cellsOf 27=9:=by kernel_rfl

section
variable {H:Type} {enc:TypeId × Value → H} {w:World} {base:Nat} {sp:Nat → Bool} {held:Bool}

theorem bulk_one (d:DataW H):1 ≤ Rows.uptoBulk d:=by
 cases d with
 | lit l=>cases l <;> simp [Rows.uptoBulk]
 | _=>simp [Rows.uptoBulk]
theorem bulk_part {d:DataW H} {l:List (DataW H)} (h:d ∈ l):Rows.uptoBulk d ≤ Rows.uptoBulkAll l:=by
 induction l with
 | nil=>cases h
 | cons x r ih =>
  simp only [Rows.uptoBulkAll]
  rcases List.mem_cons.1 h with rfl | h
  ·omega
  ·have:=ih h
   omega
theorem bulk_append (l r:List (DataW H)):Rows.uptoBulkAll (l ++ r)=Rows.uptoBulkAll l + Rows.uptoBulkAll r:=by
 induction l with
 | nil=>simp [Rows.uptoBulkAll]
 | cons x l ih=>simp only [List.cons_append,Rows.uptoBulkAll,ih]; omega
theorem bulk_count (D:Nat → DataW H):∀ (n:Nat) (l:List Tr),l.length=n → (∀ i (h:i < l.length),l[i].count ≤ Rows.uptoBulk (D i)) → countL l ≤ Rows.uptoBulkAll ((List.range n).map D)
 | 0,l,hl,_=>by
  obtain rfl:l=[]:=List.eq_nil_of_length_eq_zero hl
  simp [countL]
 | n + 1,l,hl,h=>by
  have hn:n < l.length:=by omega
  have e:l=l.take n ++ [l[n]]:=by
   rw [← List.take_succ_eq_append_getElem hn,List.take_of_length_le (by omega)]
  have ih:=bulk_count D n (l.take n) (by rw [List.length_take]; omega) (fun i hi=>by
   rw [List.length_take] at hi
   rw [List.getElem_take]
   exact h i (by omega))
  rw [List.range_succ,List.map_append,bulk_append]
  have h1:=h n hn
  have h2:countL l=countL (l.take n) + countL [l[n]]:=by
   rw [← countL_append,← e]
  rw [h2]
  simp only [countL,List.map_cons,List.map_nil,Rows.uptoBulkAll]
  omega

set_option maxHeartbeats 1000000 in
set_option maxRecDepth 100000 in
theorem open_node:∀ (b fuel:Nat) (cs:List Value) (x:DataW H × List MemPlace),DataW.trod enc Tryz.prog w base sp held fuel 27 cs=some x → Rows.uptoBulk x.1 ≤ b →
  ∃ (t:Tr) (v:Value),cs=nodeCells t.own v ∧ ListAt w w.heap.size b t.kids v ∧ OwnOk t.own ∧ t.count ≤ Rows.uptoBulk x.1:=by
 intro b
 induction b with
 | zero =>
  intro fuel cs x _ hx
  have:=bulk_one x.1
  omega
 | succ b ih =>
  intro fuel cs x h hb
  obtain ⟨xs,n,rfl,rfl,hl,hxl,hall⟩:=DataW.trod_struct Tryz.underlying27 h
  rw [cNode] at hl
  match cs,hl with
  | [c0,c1,c2,c3,c4,c5,c6,c7,c8],_ =>
   match xs,hxl with
   | [x0,x1,x2,x3,x4,x5,x6],_ =>
    have h0:=hall 0 _ rfl
    have h1:=hall 1 _ rfl
    have h2:=hall 2 _ rfl
    have h3:=hall 3 _ rfl
    have h4:=hall 4 _ rfl
    have h5:=hall 5 _ rfl
    have h6:=hall 6 _ rfl
    obtain ⟨kind,e0,_,w0⟩:=DataW.trod_int Tryz.underlying3 h0
    obtain ⟨bb,e1,_⟩:=DataW.trod_bool Tryz.underlying4 h1
    obtain ⟨u,e3,_,w3⟩:=DataW.trod_int Tryz.underlying24 h3
    obtain ⟨wd,e4,_,w4⟩:=DataW.trod_int Tryz.underlying3 h4
    obtain ⟨s,e5,_,w5⟩:=DataW.trod_string Tryz.underlying9 h5
    obtain ⟨ys,m,_,hx2,hl2,hyl,hall2⟩:=DataW.trod_struct Tryz.underlying23 h2
    match ys,hyl with
    | [y0,y1,y2],_ =>
     have g0:=hall2 0 _ rfl
     have g1:=hall2 1 _ rfl
     have g2:=hall2 2 _ rfl
     obtain ⟨neg,f0,_⟩:=DataW.trod_bool Tryz.underlying4 g0
     obtain ⟨dg,f1,_,v1⟩:=DataW.trod_string Tryz.underlying9 g1
     obtain ⟨ex,f2,_,v2⟩:=DataW.trod_int Tryz.underlying3 g2
     have e0:[c0]=[_]:=e0
     have e1:[c1]=[_]:=e1
     have e3:[c5]=[_]:=e3
     have e4:[c6]=[_]:=e4
     have e5:[c7]=[_]:=e5
     have f0:[c2]=[_]:=f0
     have f1:[c3]=[_]:=f1
     have f2:[c4]=[_]:=f2
     cases e0
     cases e1
     cases e3
     cases e4
     cases e5
     cases f0
     cases f1
     cases f2
     have hok:OwnOk ⟨kind,bb,neg,dg,ex,u,wd,s⟩:=⟨by simpa [maxLen] using v1,by simpa [maxLen] using w5,wf_i64 w0,wf_i64 v2,wf_n64 w3,wf_i64 w4⟩
     have hbulk:Rows.uptoBulk x6.1 + 1 ≤ Rows.uptoBulk (DataW.agg ([x0,x1,x2,x3,x4,x5,x6].map (·.1))):=by
      simp only [Rows.uptoBulk,List.map_cons,List.map_nil,Rows.uptoBulkAll]
      omega
     have h6:DataW.trod enc Tryz.prog w base sp held n 25 [c8]=some x6:=h6
     clear hall hall2 h h0 h1 h2 h3 h4 h5 g0 g1 g2 e1 e3 e4 e5 f0 f1 f2 w0 w3 w4 w5 v1 v2
     rcases Go.Deep.open_slice Tryz.underlying25 h6 with ⟨e6,_⟩ | ⟨a,len,cap,m',n',D,Pl,e6,hab,hlc,hm,hmm,hx6,hx⟩
     ·cases e6
      refine ⟨.nd ⟨kind,bb,neg,dg,ex,u,wd,s⟩ [],.slice none 0 0,rfl,LAt.nil _ _ _ _ _,hok,?_⟩
      rw [Tr.count_eq]
      show 1 + countL [] ≤ _
      rw [countL]
      exact bulk_one _
     ·cases e6
      have hlm:len ≤ m':=by rw [hmm]; split <;> omega
      rw [cNode] at hx
      have hd6:x6.1=DataW.slice ((List.range len).map D) ((List.range (m' - len)).map fun j=>D (len + j)):=by rw [hx6]
      rw [hd6] at hbulk
      have hb2:Rows.uptoBulkAll ((List.range len).map D) + 2 ≤ Rows.uptoBulk (DataW.agg ([x0,x1,x2,x3,x4,x5,x6].map (·.1))):=by
       have:Rows.uptoBulk (DataW.slice ((List.range len).map D) ((List.range (m' - len)).map fun j=>D (len + j)))=Rows.uptoBulkAll ((List.range len).map D) + Rows.uptoBulkAll ((List.range (m' - len)).map fun j=>D (len + j)) + 1:=by simp only [Rows.uptoBulk]
       rw [this] at hbulk
       omega
      have hbD:∀ i,i < len → Rows.uptoBulk (D i) ≤ b:=fun i hi=>by
       have h1:=bulk_part (d:=D i) (l:=(List.range len).map D) (List.mem_map.2 ⟨i,List.mem_range.2 hi,rfl⟩)
       have hb':Rows.uptoBulk (DataW.agg ([x0,x1,x2,x3,x4,x5,x6].map (·.1))) ≤ b + 1:=hb
       omega
      obtain ⟨l,hll,hp⟩:=tree_choose (p:=fun i t=>∃ v,(∀ j q,(nodeCells t.own v)[j]? = some q → w.cell? (a.add (i * 9 + j))=some q) ∧ a.block < w.heap.size ∧ ListAt w w.heap.size b t.kids v ∧ OwnOk t.own ∧ t.count ≤ Rows.uptoBulk (D i)) len (fun i hi=>by
       obtain ⟨cs',h1,h2⟩:=hx i (by omega)
       obtain ⟨t,v,e,h3,h4,h5⟩:=ih n' cs' (D i,Pl i) h2 (hbD i hi)
       subst e
       obtain ⟨_,hlen,hc⟩:=World.cells?_some h1
       have hcc:∀ j q,(nodeCells t.own v)[j]? = some q → w.cell? (a.add (i * 9 + j))=some q:=fun j q hq=>by
        have hj:j < 9:=(List.getElem?_eq_some_iff.1 hq).1
        rw [← add_add',hc j hj,hq]
       refine ⟨t,v,hcc,?_,h3,h4,h5⟩
       have:=cell_block_lt (hcc 0 _ rfl)
       rwa [add_block] at this)
      refine ⟨.nd ⟨kind,bb,neg,dg,ex,u,wd,s⟩ l,.slice (some a) len cap,rfl,⟨some a,cap,by rw [← hll]; rfl,⟨by show l.length ≤ _; simp [maxLen] at hm; omega,by show l.length ≤ _; omega⟩,fun i hi=>?_⟩,hok,?_⟩
      ·obtain ⟨v,g1,g2,g3,g4,_⟩:=hp i hi
       exact ⟨a,v,rfl,g2,g4,g1,g3⟩
      ·rw [Tr.count_eq]
       show 1 + countL l ≤ Rows.uptoBulk (DataW.agg ([x0,x1,x2,x3,x4,x5,x6].map (·.1)))
       have:=bulk_count D len l hll (fun i hi=>by
        obtain ⟨_,_,_,_,_,g5⟩:=hp i hi
        exact g5)
       omega
set_option maxRecDepth 100000 in
theorem open_tree {W:World} {r:Reach} {b0:Nat} {v:Value} {d:DataW H} {ps:List MemPlace} (hval:Value.okWide Tryz.prog W r b0 27 v) (hd:DataW.Trod enc Tryz.prog w base sp held 27 v d ps) :
  ∃ (t:Tr) (x:Value),v=nodeV t.own x ∧ ListAt w w.heap.size (Rows.uptoBulk d) t.kids x ∧ OwnOk t.own ∧ t.count ≤ Rows.uptoBulk d:=by
 obtain ⟨fuel,hf⟩:=hd
 obtain ⟨t,x,e,h1,h2,h3⟩:=open_node (Rows.uptoBulk d) fuel _ _ hf (Nat.le_refl _)
 refine ⟨t,x,?_,h1,h2,h3⟩
 obtain ⟨cs,rfl,_⟩:=Go.WideShapes.okWide_struct Tryz.underlying27 hval
 have e:cs.toList=nodeCells t.own x:=e
 rw [nodeCells_eq,← e]
end
end Go.Proofs.YtfckekaegjjmkaaGreatDoor
namespace Go.Proofs.YtfckekaegjjmkaaGreatDoor.jsonwBack
open Go.ChangeShapes Go.WideShapes Go.ChangeAt Go.RowKit Go.Lib
open Go.ChangeMaps (open_string shut_string)

theorem own:ownKnob Tryz.prog.godebug=none:=by kernel_rfl
theorem laidOut:laidOutB Tryz.prog=true:=by kernel_rfl
theorem listed:Rows.jsonwBackUptoRow.laid=allJ:=rfl

abbrev zArgs:Array Value:=#[zeroN]
noncomputable abbrev laidW (os:Os):World:=((laidHJ os).forCall (fun _ _=>0) ⟨#[],zArgs,[]⟩).memory
set_option maxRecDepth 100000 in
set_option maxHeartbeats 2000000 in
theorem lifted (os:Os) (started:os.Started) (H:Type) (enc:TypeId × Value → H) (F:Stop.Interp) :
  ReturnsInHanded {} Tryz.checked os 13 .any ((Rows.OpenSpec.upto Rows.jsonwBackSpec).preRow enc Tryz.prog Tryz.f13 Rows.jsonwBackUptoRow.domain false Rows.jsonwBackUptoRow.laid) (((Rows.OpenSpec.upto Rows.jsonwBackSpec).at F).post enc Tryz.prog Tryz.f13 false true false false):=by
 have hs:(DataW.whole enc Tryz.prog (laidW os) Tryz.f13.params.toList Rows.jsonwBackSpec.vars false zArgs.toList 8).isSome=true:=by kernel_rfl
 refine returnsInHanded_of_row (C:=Tryz.checked) (s:=Rows.OpenSpec.upto Rows.jsonwBackSpec) own started (by kernel_rfl) Tryz.func13
  ⟨laidHJ os,fun _ _=>0,⟨#[],zArgs,[]⟩,laidH_osJ os,laidH_shapedJ os _,
   rfl,(Input.okWide_of_okWideB (P:=Tryz.prog) (w:=(laidHJ os).forCall (fun _ _=>0) ⟨#[],zArgs,[]⟩) (f:=13) (i:=⟨#[],zArgs,[]⟩) (by kernel_rfl)).2,
   OpenSpec.preRow_of_cond 8 (Option.some_get hs).symm (by kernel_rfl) (fun k hk=>by cases hk; kernel_rfl) (by kernel_rfl) (by
    rw [listed]
    exact laidH_metJ os _),by
   simp only [Assume.holds]
   exact ⟨by simp,by simp,fun _=>Modest.zero,by simp,by simp⟩⟩ ?_
 intro W base args ds gs before hval0 hW _ hcond _ hL _ _
 have hval:∀ (j:Nat) t v,Tryz.f13.params[j]? = some t → args[j]? = some v → Value.okWide Tryz.prog W .any base t v:=hval0
 have hW':=hW
 obtain ⟨p,q,hA0,hV,rfl,_,_⟩:=hW
 have hA:DataW.TrodAll enc Tryz.prog W 0 (fun _=>true) true Tryz.f13.params.toList args.toList ds p:=hA0
 rw [Tryz.params13] at hA hval
 obtain ⟨v0,vs0,d0,ds0,p0,q0,hargs,rfl,rfl,h0,r0⟩:=trodAll_cons hA
 obtain ⟨rfl,rfl,rfl⟩:=trodAll_nil r0
 obtain rfl:args = #[v0]:=by cases args; simp_all
 obtain ⟨rfl,rfl⟩:=trodVars_none hV
 have hbulk:Rows.uptoBulk d0 ≤ 1048576:=by
  have:=hcond _ rfl
  have h:Rows.uptoBulkAll ([d0] ++ []) ≤ 1048576:=of_decide_eq_true this
  simp only [List.append_nil,Rows.uptoBulkAll] at h
  omega
 obtain ⟨t0,x0,rfl,ht0,hto0,htc0⟩:=open_tree (hval 0 27 v0 rfl rfl) h0
 rw [listed] at hL
 obtain ⟨uT,uQ,aT,aF,hU⟩:=jrw_of_laid hL
 obtain ⟨bT,bF,hS⟩:=sw_of_laidJ hL
 refine (back_walkJ t0 x0 W hU hS _ ht0 hto0 (by omega)).mono fun e W' ⟨he,hb⟩=>?_
 subst he
 exact ⟨_,rfl,law_post laidOut (by kernel_rfl) rfl Tryz.underlying4 rfl rfl rfl rfl hW' hb⟩

end Go.Proofs.YtfckekaegjjmkaaGreatDoor.jsonwBack
namespace Go.Proofs.YtfckekaegjjmkaaGreatDoor.jsonwBack
open Go.ChangeShapes Go.WideShapes Go.ChangeAt Go.RowKit Go.Lib
open Go.ChangeMaps (open_string shut_string)

theorem k_place:(Rows.jsonwBackUptoRow.inPlace == Tryz.pinned.checked.prog.inPlace 13)=true:=by kernel_rfl
theorem k_unf:(Rows.jsonwBackUptoRow.unfollowed == Tryz.pinned.checked.prog.unfollowed 13)=true:=by kernel_rfl
theorem k_rec:(Rows.jsonwBackUptoRow.recurses == Tryz.pinned.checked.prog.recurses 13)=true:=by kernel_rfl
theorem k_named:(Rows.jsonwBackUptoRow.named == Tryz.pinned.checked.prog.varsNamed 13)=true:=by kernel_rfl
theorem named_f:Tryz.pinned.checked.prog.funcNamed Rows.jsonwBackUptoRow.func=some 13:=by kernel_rfl
theorem closed_f:joinedFacts Tryz.pinned.checked.prog 13 Tryz.f13 (Rows.OpenSpec.upto Rows.jsonwBackSpec).bare Rows.jsonwBackUptoRow=true:=by
 unfold joinedFacts
 rw [k_place,k_unf,k_rec,k_named]
 kernel_rfl

theorem over:Rows.JsonwBackUptoSaid:=
 OpenClaim.holds_of_cond 13 Tryz.f13 rfl rfl rfl rfl rfl rfl rfl ⟨rfl,rfl,rfl,rfl,rfl⟩ rfl rfl rfl rfl rfl named_f Tryz.func13 closed_f
  (of_decide_eq_true (by kernel_rfl)) (by unfold Func.isWrapper; first | (rw [if_pos (by decide +kernel)]; kernel_rfl) | (rw [if_neg (by decide +kernel)]; exact ⟨rfl,rfl⟩))
  (fun os started H enc _ F=>by rw [OpenClaim.pre_eq_preRow]; exact lifted os started H enc F)

end Go.Proofs.YtfckekaegjjmkaaGreatDoor.jsonwBack
