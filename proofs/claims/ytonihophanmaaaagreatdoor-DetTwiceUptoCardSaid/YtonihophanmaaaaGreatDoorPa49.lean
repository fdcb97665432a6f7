/- The texts LaidV, CbV, CsV, TreeV, DsTjA, DsTjB, put together. -/
import Derived.Test.YtonihophanmaaaaGreatDoorPa01
import Derived.Test.YtonihophanmaaaaGreatDoorRows
import Derived.Test.YtonihophanmaaaaGreatDoorPa07
import Derived.Lib.LaidU8T
import Derived.PinnedBridge
import Derived.Stop.LaidErr
import Derived.Stop.Joined
import Derived.LaidMore
import Derived.LaidLaws
import Derived.Lay
import Derived.SevenTiedAt
import Derived.ProofKit
import Derived.OpenShut
import Derived.Lib.LaidTab
import Derived.Test.YtonihophanmaaaaGreatDoorPa11
import Derived.Test.YtonihophanmaaaaGreatDoorPa46
import Derived.LaidHandle
import Derived.Test.YtonihophanmaaaaGreatDoorPa02
import Derived.Deep.Slices
import Derived.ChangeArms
import Derived.WideShapes
import Derived.Test.YtonihophanmaaaaGreatDoorPa48
import Derived.Deep.DeepHandedRow
namespace Go.Proofs.YtonihophanmaaaaGreatDoor
open Go.RowKit Go.Shelf Go.Lib
theorem laidMet_drop {P:Program} {W:World}:∀ (k:Nat) {l:List (String×DataW Unit)},laidMet P l W→laidMet P (l.drop k) W
 | 0,_,h=>h
 | _+1,[],h=>h
 | k+1,_::_,h=>laidMet_drop k h.tail
set_option maxRecDepth 100000 in
theorem sentinel_of {n:String} {g:Nat} {text:List UInt8} {r:List (String×DataW Unit)} {W:World} (h:laidMet Tryz.prog ((n,.iface "*errors.errorString" (.ptr (.agg [.lit (.string text)])))::r) W)
  (hg:Tryz.prog.globalNamed n=some g) (ht:(Tryz.prog.globals[g]?).map (·.type)=some 48)
  (hi:∃ ms,Tryz.prog.underlying 48=some (.interface ms)) (hrow:∀ u,Tryz.prog.typeName? 3 u=some "*errors.errorString"→u=321)
  (he:∃ f:Field,Tryz.prog.underlying 323=some (.struct #[f])∧f.type=9∧f.offset=0) (hc:Tryz.prog.cellsOf 323=1) (hcs:Tryz.prog.cellsOf 9=1) :
  ∃ a:Addr,W.cell? ⟨g,0,none⟩=some (.iface 321 (.pointer (some a)))∧(∃ c t,W.heap[a.block]? = some (.cells c t (0,0)))∧∃ s:ByteArray,W.cell? a=some (.string s)∧s.data.toList=text:=by
 obtain ⟨ms,hi⟩:=hi
 obtain ⟨f,he,hft,hfo⟩:=he
 obtain ⟨ps,⟨g0,t0,cs0,f0,p0,q0,hg0,ht0,hv0,hd0,_,e0⟩,_,hrows⟩:=h
 obtain rfl:=Option.some.inj (hg.symm.trans hg0)
 obtain rfl:=Option.some.inj (ht.symm.trans ht0)
 subst e0
 obtain ⟨l0⟩:=cs0
 have ok0:∀ u v,l0=[.iface u v]→Value.okWide Tryz.prog W .any 0 u v:=fun u v e=>by
  subst e
  exact (hrows g 0 (by simp [MemPlace.row])).2 u v (by simpa using World.var?_cell hg0 hv0 0)
 obtain ⟨a0,s0,rfl,hc0,hs0,hz0,rfl⟩:=errorString_of_trod hi hrow Tryz.underlying321 he hft hfo Tryz.underlying9 hc hcs hd0 ok0
 obtain ⟨c0,t0,hb0⟩:=(hrows a0.block a0.off (by simp [MemPlace.row])).1
 refine ⟨a0,?_,⟨c0,t0,hb0⟩,s0,hc0,hs0⟩
 simpa using World.var?_cell hg0 hv0 0
set_option maxRecDepth 100000 in
theorem u8extra:U8Extra Tryz.prog Tryz.lays196_ren:={ n3:=by kernel_rfl,n4:=by kernel_rfl,y3:=by kernel_rfl,y4:=by kernel_rfl,c5:=by kernel_rfl,c119:=by kernel_rfl,c138:=by kernel_rfl }
theorem es_star : "*" ++ "errors.errorString" = "*errors.errorString" := by decide
set_option maxRecDepth 100000 in
theorem es_row (u:TypeId) (h:Tryz.prog.typeName? 3 u=some "*errors.errorString"):u=321:=
 typeName_ptr_named (nm := "errors.errorString") (by rw [es_star]; kernel_rfl) (by kernel_rfl) (by decide) u (by rw [es_star]; exact h)
theorem es_iface:∃ ms,Tryz.prog.underlying 48=some (.interface ms):=⟨_,Tryz.underlying48⟩
theorem es_struct:∃ f:Field,Tryz.prog.underlying 323=some (.struct #[f])∧f.type=9∧f.offset=0:=⟨_,Tryz.underlying323,rfl,rfl⟩
set_option maxRecDepth 100000 in
theorem es_cells:Tryz.prog.cellsOf 323=1:=by kernel_rfl
set_option maxRecDepth 100000 in
theorem es_string:Tryz.prog.cellsOf 9=1:=by kernel_rfl
theorem wf_i64 {a:Int} (h:(Lit.int .i64 a).wf=true) : -9223372036854775808≤a∧a<9223372036854775808:=by
 simp [Lit.wf,IntKind.min,IntKind.max,IntKind.signed,IntKind.bits]at h
 omega
theorem cell_block_lt {w:World} {a:Addr} {v:Value} (h:w.cell? a=some v):a.block<w.heap.size:=by
 unfold World.cell? at h
 cases hh:w.heap[a.block]? with
 | none=>rw [hh]at h; cases h
 | some o=>exact (Array.getElem?_eq_some_iff.1 hh).1
set_option maxRecDepth 100000 in
theorem sentinel_var {n:String} {g:Nat} {text:List UInt8} {r:List (String×DataW Unit)} {W:World} (h:laidMet Tryz.prog ((n,.iface "*errors.errorString" (.ptr (.agg [.lit (.string text)])))::r) W)
  (hg:Tryz.prog.globalNamed n=some g) (ht:(Tryz.prog.globals[g]?).map (·.type)=some 48):∃ tp p,W.var? Tryz.prog n=some #[.iface tp p]:=by
 obtain ⟨ms,hi⟩:=es_iface
 obtain ⟨f,he,hft,hfo⟩:=es_struct
 obtain ⟨ps,⟨g0,t0,cs0,f0,p0,q0,hg0,ht0,hv0,hd0,_,e0⟩,_,hrows⟩:=h
 obtain rfl:=Option.some.inj (hg.symm.trans hg0)
 obtain rfl:=Option.some.inj (ht.symm.trans ht0)
 subst e0
 obtain ⟨l0⟩:=cs0
 have ok0:∀ u v,l0=[.iface u v]→Value.okWide Tryz.prog W .any 0 u v:=fun u v e=>by
  subst e
  exact (hrows g 0 (by simp [MemPlace.row])).2 u v (by simpa using World.var?_cell hg0 hv0 0)
 obtain ⟨a0,s0,rfl,hc0,hs0,hz0,rfl⟩:=errorString_of_trod hi es_row Tryz.underlying321 he hft hfo Tryz.underlying9 es_cells es_string hd0 ok0
 exact ⟨_,_,hv0⟩
set_option maxRecDepth 100000 in
theorem gR:Tryz.prog.globalNamed "strconv.ErrRange" = some 6:=by kernel_rfl
set_option maxRecDepth 100000 in
theorem tR:(Tryz.prog.globals[6]?).map (·.type)=some 48:=by kernel_rfl
end Go.Proofs.YtonihophanmaaaaGreatDoor
namespace Go.Proofs.YtonihophanmaaaaGreatDoor
open Go.RowKit Go.Shelf Go.Lib
set_option maxRecDepth 100000 in
theorem gTr:Tryz.prog.globalNamed "targum/tree.errTree" = some 0:=by kernel_rfl
set_option maxRecDepth 100000 in
theorem gFo:Tryz.prog.globalNamed "targum/tree.errForm" = some 1:=by kernel_rfl
set_option maxRecDepth 100000 in
theorem tTr:(Tryz.prog.globals[0]?).map (·.type)=some 48:=by kernel_rfl
set_option maxRecDepth 100000 in
theorem tFo:(Tryz.prog.globals[1]?).map (·.type)=some 48:=by kernel_rfl
structure GateLaid (l:List (String×DataW Unit)):Prop where
 eT:∃ k r,l.drop k=("targum/tree.errTree",.iface "*errors.errorString" (.ptr (.agg [.lit (.string [110,111,32,116,114,101,101])])))::r
 eF:∃ k r,l.drop k=("targum/tree.errForm",.iface "*errors.errorString" (.ptr (.agg [.lit (.string [110,111,32,115,117,99,104,32,102,111,114,109])])))::r
 ra:("unicode/utf8.acceptRanges",acceptData)∈l
 fi:("unicode/utf8.first",firstData)∈l
 eR:∃ k r,l.drop k=("strconv.ErrRange",.iface "*errors.errorString" (.ptr (.agg [.lit (.string [118,97,108,117,101,32,111,117,116,32,111,102,32,114,97,110,103,101])])))::r
theorem gw_of_laid {l:List (String×DataW Unit)} (hl:GateLaid l) {W:World} (h:laidMet Tryz.prog l W):∃ aT aF,GW W aT aF:=by
 obtain ⟨kT,rT,eT⟩:=hl.eT
 obtain ⟨kF,rF,eF⟩:=hl.eF
 obtain ⟨kR,rR,eR⟩:=hl.eR
 have hT:=laidMet_drop kT h
 have hF:=laidMet_drop kF h
 have hR:=laidMet_drop kR h
 rw [eT]at hT
 rw [eF]at hF
 rw [eR]at hR
 obtain ⟨aT,cT,bT,sT,dT,xT⟩:=sentinel_of hT gTr tTr es_iface es_row es_struct es_cells es_string
 obtain ⟨aF,cF,bF,sF,dF,xF⟩:=sentinel_of hF gFo tFo es_iface es_row es_struct es_cells es_string
 refine ⟨aT,aF,cT,cF,?_,bT,bF,?_,sentinel_var hR gR tR⟩
 ·rintro rfl
  rw [dT]at dF
  cases dF
  rw [xT]at xF
  cases xF
 ·obtain ⟨ps,hv,_,_⟩:=h
  exact utf8Tabs_of_readsT (U8Types.of196 Tryz.lays196) u8extra (LaidVars_reads hv _ _ hl.fi) (LaidVars_reads hv _ _ hl.ra)
end Go.Proofs.YtonihophanmaaaaGreatDoor
namespace Go.Proofs.YtonihophanmaaaaGreatDoor
open Go.RowKit Go.Shelf Go.Lib
noncomputable abbrev plainL:List (String×DataW Unit):=[("math/bits.deBruijn32tab",Rows.laid_math_bits_deBruijn32tab),("math/bits.deBruijn64tab",Rows.laid_math_bits_deBruijn64tab),("internal/strconv.uint64pow10",Rows.laid_internal_strconv_uint64pow10),("unicode/utf8.acceptRanges",Rows.laid_unicode_utf8_acceptRanges),("strconv.ErrRange",Rows.laid_strconv_ErrRange),("strconv.ErrSyntax",Rows.laid_strconv_ErrSyntax),("targum/tree.errTree",Rows.laid_targum_tree_errTree),("targum/tree.errForm",Rows.laid_targum_tree_errForm),("unicode/utf8.first",Rows.laid_unicode_utf8_first)]
noncomputable abbrev allL10:List (String×DataW Unit):=[("math/bits.deBruijn32tab",Rows.laid_math_bits_deBruijn32tab),("math/bits.deBruijn64tab",Rows.laid_math_bits_deBruijn64tab),("internal/strconv.uint64pow10",Rows.laid_internal_strconv_uint64pow10),("unicode/utf8.acceptRanges",Rows.laid_unicode_utf8_acceptRanges),("errors.errorType",Rows.laid_errors_errorType),("strconv.ErrRange",Rows.laid_strconv_ErrRange),("strconv.ErrSyntax",Rows.laid_strconv_ErrSyntax),("targum/tree.errTree",Rows.laid_targum_tree_errTree),("targum/tree.errForm",Rows.laid_targum_tree_errForm),("unicode/utf8.first",Rows.laid_unicode_utf8_first)]
set_option maxRecDepth 100000 in
theorem hand_parts {W:World} (h:laidMetH Tryz.prog allL10 W):laidMet Tryz.prog plainL W∧handlesMet Tryz.prog [("errors.errorType",Rows.laid_errors_errorType)] W:=by
 have e1:(allL10.filter fun x=>x.2.handleName?.isSome)=[("errors.errorType",Rows.laid_errors_errorType)]:=by kernel_rfl
 have e2:(allL10.filter fun x=>x.2.handleName?.isNone)=plainL:=by kernel_rfl
 unfold laidMetH at h
 rw [e1,e2]at h
 exact h
set_option maxRecDepth 100000 in
theorem hand_et:Tryz.prog.globalNamed "errors.errorType" = some 2:=by kernel_rfl
set_option maxRecDepth 100000 in
theorem hand_rt:(Tryz.prog.cutTypes.find? (·.1 == "internal/reflectlite.rtype")).map (·.2)=some 107:=by kernel_rfl
set_option maxRecDepth 100000 in
theorem hand_size:Tryz.prog.types.size=359:=by kernel_rfl
set_option maxRecDepth 100000 in
theorem hand_row:((List.range 359).filter fun t=>Tryz.prog.rowNamed t [101,114,114,111,114])=[48]:=by kernel_rfl
set_option maxRecDepth 100000 in
theorem hand_ty {W:World} (h:handlesMet Tryz.prog [("errors.errorType",Rows.laid_errors_errorType)] W):ErrTy W:=by
 obtain ⟨name,u,ty,e1,e2,e3,e4,e5⟩:=h _ (List.mem_singleton.2 rfl)
 have en:name=[101,114,114,111,114]:=(Option.some.inj e1).symm
 subst en
 obtain rfl:=Option.some.inj (hand_rt.symm.trans e2)
 have hm:ty∈(List.range 359).filter fun t=>Tryz.prog.rowNamed t [101,114,114,111,114]:=List.mem_filter.2 ⟨List.mem_range.2 (by rw [← hand_size]; exact e3),e4⟩
 rw [hand_row]at hm
 obtain rfl:=List.mem_singleton.1 hm
 have hh:typeHandle Tryz.prog 48=.pointer (some ⟨11,48,none⟩):=by kernel_rfl
 rw [hh]at e5
 simpa using World.var?_cell hand_et e5 0
set_option maxRecDepth 100000 in
theorem plain_gate:GateLaid plainL where
 eT:=⟨6,_,rfl⟩
 eF:=⟨7,_,rfl⟩
 ra:=by
  rw [show (acceptData:DataW Unit)=Rows.laid_unicode_utf8_acceptRanges from by kernel_rfl]
  exact .tail _ (.tail _ (.tail _ (.head _)))
 fi:=by
  rw [show (firstData:DataW Unit)=Rows.laid_unicode_utf8_first from by kernel_rfl]
  exact .tail _ (.tail _ (.tail _ (.tail _ (.tail _ (.tail _ (.tail _ (.tail _ (.head _))))))))
 eR:=⟨4,_,rfl⟩
set_option maxRecDepth 100000 in
theorem pow_g:Tryz.prog.globalNamed "internal/strconv.uint64pow10" = some 8:=by kernel_rfl
set_option maxRecDepth 100000 in
theorem pow_t:(Tryz.prog.globals[8]?).map (·.type)=some 326:=by kernel_rfl
set_option maxRecDepth 100000 in
theorem pow_u:Tryz.prog.cellsOf 25=1:=by kernel_rfl
set_option maxRecDepth 100000 in
theorem pow_c:Tryz.prog.cellsOf 326=20:=by kernel_rfl
set_option maxRecDepth 100000 in
theorem rw_of_laid {W:World} (h:laidMetH Tryz.prog allL10 W):∃ aT aF,RW W aT aF:=by
 obtain ⟨h1,h2⟩:=hand_parts h
 obtain ⟨aT,aF,hg⟩:=gw_of_laid plain_gate h1
 have h3:=laidMet_drop 2 h1
 exact ⟨aT,aF,hg,tabIs_of_head pow_g pow_t Tryz.underlying326 Tryz.underlying25 pow_u pow_c h3,hand_ty h2⟩
noncomputable def handW (os:Os):World:=
 let w0:=World.holding Tryz.prog os ⟨#[],#[],[]⟩
 { w0 with heap:=w0.heap.modify 2 fun
   | .cells _ t frozen=>.cells #[.iface 107 (.agg #[.pointer (some ⟨11,48,none⟩)])] t frozen
   | o=>o }
noncomputable def laidH (os:Os):World:=(handW os).layVars Tryz.prog plainL
theorem laidH_os (os:Os):(laidH os).os=os:=World.layVars_os _ _ _
set_option maxRecDepth 100000 in
theorem laidH_met (os:Os) (args:Array Value):laidMetH Tryz.prog allL10 ((laidH os).forCall (fun _ _=>0) ⟨#[],args,[]⟩).memory:=by
 refine laidMetH_of_parts ?_ ?_
 ·have e2:(allL10.filter fun x=>x.2.handleName?.isNone)=plainL:=by kernel_rfl
  rw [e2]
  have e3:(plainL.filter fun x=>(plainL.map (·.1)).contains x.1)=plainL:=List.filter_eq_self.2 fun x hx=>List.contains_iff_mem.2 (List.mem_map.2 ⟨x,hx,rfl⟩)
  have e4:(plainL.filter fun x=>!(plainL.map (·.1)).contains x.1)=[]:=List.filter_eq_nil_iff.2 fun x hx=>by rw [List.contains_iff_mem.2 (List.mem_map.2 ⟨x,hx,rfl⟩)]; simp
  have h:laidMet Tryz.prog plainL (laidH os):=laidMet_layVars (w0:=handW os) (plainL.map (·.1)) [] (by rw [e3]; rfl) (by rw [e3]; kernel_rfl) (by rw [e3]; kernel_rfl) (by rw [e4]; exact LaidIn.none)
  exact h.of_heap (by simp [World.memory,World.forCall,Input.heap])
 ·kernel_rfl
set_option maxRecDepth 100000 in
theorem laidH_shaped (os:Os) (args:Array Value):((laidH os).forCall (fun _ _=>0) ⟨#[],args,[]⟩).Shaped Tryz.prog:=World.shaped_of_ZipB (by kernel_rfl) (by kernel_rfl)
end Go.Proofs.YtonihophanmaaaaGreatDoor
namespace Go.Proofs.YtonihophanmaaaaGreatDoor
open Go.RowKit Go.Shelf Go.Lib
theorem tree_choose {p:Nat→Tr→Prop}:∀ (n:Nat),(∀ i,i<n→∃ s,p i s)→∃ l:List Tr,l.length=n∧∀ i (h:i<l.length),p i l[i]
 | 0,_=>⟨[],rfl,fun i h=>by simp at h⟩
 | n+1,h=>by
  obtain ⟨l,hl,hp⟩:=tree_choose n (fun i hi=>h i (by omega))
  obtain ⟨s,hs⟩:=h n (by omega)
  refine ⟨l++[s],by simp [hl],fun i hi=>?_⟩
  rw [List.getElem_append]
  split
  ·exact hp i _
  ·have:i=n:=by simp at hi; omega
   subst this
   simpa [hl] using hs
theorem wf_n64 {n:Int} (h:(Lit.int .u64 n).wf=true):0≤n∧n<18446744073709551616:=by
 simp [Lit.wf,IntKind.min,IntKind.max,IntKind.signed,IntKind.bits]at h
 omega
set_option maxRecDepth 100000 in
theorem cNode:Tryz.prog.cellsOf 28=9:=by kernel_rfl
section
variable {H:Type} {enc:TypeId×Value→H} {w:World} {base:Nat} {sp:Nat→Bool} {held:Bool}
theorem bulk_one (d:DataW H):1≤Rows.uptoBulk d:=by
 cases d with
 | lit l=>cases l <;> simp [Rows.uptoBulk]
 | _=>simp [Rows.uptoBulk]
theorem bulk_part {d:DataW H} {l:List (DataW H)} (h:d∈l):Rows.uptoBulk d≤Rows.uptoBulkAll l:=by
 induction l with
 | nil=>cases h
 | cons x r ih =>
  simp only [Rows.uptoBulkAll]
  rcases List.mem_cons.1 h with rfl | h
  ·omega
  ·have:=ih h
   omega
theorem bulk_append (l r:List (DataW H)):Rows.uptoBulkAll (l++r)=Rows.uptoBulkAll l+Rows.uptoBulkAll r:=by
 induction l with
 | nil=>simp [Rows.uptoBulkAll]
 | cons x l ih=>simp only [List.cons_append,Rows.uptoBulkAll,ih]; omega
theorem bulk_count (D:Nat→DataW H):∀ (n:Nat) (l:List Tr),l.length=n→(∀ i (h:i<l.length),l[i].count≤Rows.uptoBulk (D i))→countL l≤Rows.uptoBulkAll ((List.range n).map D)
 | 0,l,hl,_=>by
  obtain rfl:l=[]:=List.eq_nil_of_length_eq_zero hl
  simp [countL]
 | n+1,l,hl,h=>by
  have hn:n<l.length:=by omega
  have e:l=l.take n++[l[n]]:=by
   rw [← List.take_succ_eq_append_getElem hn,List.take_of_length_le (by omega)]
  have ih:=bulk_count D n (l.take n) (by rw [List.length_take]; omega) (fun i hi=>by
   rw [List.length_take]at hi
   rw [List.getElem_take]
   exact h i (by omega))
  rw [List.range_succ,List.map_append,bulk_append]
  have h1:=h n hn
  have h2:countL l=countL (l.take n)+countL [l[n]]:=by
   rw [← countL_append,← e]
  rw [h2]
  simp only [countL,List.map_cons,List.map_nil,Rows.uptoBulkAll]
  omega
set_option maxHeartbeats 1000000 in
set_option maxRecDepth 100000 in
theorem open_node:∀ (b fuel:Nat) (cs:List Value) (x:DataW H×List MemPlace),DataW.trod enc Tryz.prog w base sp held fuel 28 cs=some x→Rows.uptoBulk x.1≤b →
  ∃ (t:Tr) (v:Value),cs=nodeCells t.own v∧ListAt w w.heap.size b t.kids v∧OwnOk t.own∧t.count≤Rows.uptoBulk x.1:=by
 intro b
 induction b with
 | zero =>
  intro fuel cs x _ hx
  have:=bulk_one x.1
  omega
 | succ b ih =>
  intro fuel cs x h hb
  obtain ⟨xs,n,rfl,rfl,hl,hxl,hall⟩:=DataW.trod_struct Tryz.underlying28 h
  rw [cNode]at hl
  match cs,hl with
  | [c0,c1,c2,c3,c4,c5,c6,c7,c8],_ =>
   match xs,hxl with
   | [x0,x1,x2,x3,x4,x5,x6],_ =>
    have h0:=hall 0 _ rfl
    have h1:=hall 1 _ rfl
    have h2:=hall 2 _ rfl
    have h3:=hall 3 _ rfl
    have h4:=hall 4 _ rfl
    have h5:=hall 5 _ rfl
    have h6:=hall 6 _ rfl
    obtain ⟨kind,e0,_,w0⟩:=DataW.trod_int Tryz.underlying3 h0
    obtain ⟨bb,e1,_⟩:=DataW.trod_bool Tryz.underlying4 h1
    obtain ⟨u,e3,_,w3⟩:=DataW.trod_int Tryz.underlying25 h3
    obtain ⟨wd,e4,_,w4⟩:=DataW.trod_int Tryz.underlying3 h4
    obtain ⟨s,e5,_,w5⟩:=DataW.trod_string Tryz.underlying9 h5
    obtain ⟨ys,m,_,hx2,hl2,hyl,hall2⟩:=DataW.trod_struct Tryz.underlying24 h2
    match ys,hyl with
    | [y0,y1,y2],_ =>
     have g0:=hall2 0 _ rfl
     have g1:=hall2 1 _ rfl
     have g2:=hall2 2 _ rfl
     obtain ⟨neg,f0,_⟩:=DataW.trod_bool Tryz.underlying4 g0
     obtain ⟨dg,f1,_,v1⟩:=DataW.trod_string Tryz.underlying9 g1
     obtain ⟨ex,f2,_,v2⟩:=DataW.trod_int Tryz.underlying3 g2
     have e0:[c0]=[_]:=e0
     have e1:[c1]=[_]:=e1
     have e3:[c5]=[_]:=e3
     have e4:[c6]=[_]:=e4
     have e5:[c7]=[_]:=e5
     have f0:[c2]=[_]:=f0
     have f1:[c3]=[_]:=f1
     have f2:[c4]=[_]:=f2
     cases e0
     cases e1
     cases e3
     cases e4
     cases e5
     cases f0
     cases f1
     cases f2
     have hok:OwnOk ⟨kind,bb,neg,dg,ex,u,wd,s⟩:=⟨by simpa [maxLen] using v1,by simpa [maxLen] using w5,wf_i64 w0,wf_i64 v2,wf_n64 w3,wf_i64 w4⟩
     have hbulk:Rows.uptoBulk x6.1+1≤Rows.uptoBulk (DataW.agg ([x0,x1,x2,x3,x4,x5,x6].map (·.1))):=by
      simp only [Rows.uptoBulk,List.map_cons,List.map_nil,Rows.uptoBulkAll]
      omega
     have h6:DataW.trod enc Tryz.prog w base sp held n 26 [c8]=some x6:=h6
     clear hall hall2 h h0 h1 h2 h3 h4 h5 g0 g1 g2 e1 e3 e4 e5 f0 f1 f2 w0 w3 w4 w5 v1 v2
     rcases Go.Deep.open_slice Tryz.underlying26 h6 with ⟨e6,_⟩ | ⟨a,len,cap,m',n',D,Pl,e6,hab,hlc,hm,hmm,hx6,hx⟩
     ·cases e6
      refine ⟨.nd ⟨kind,bb,neg,dg,ex,u,wd,s⟩ [],.slice none 0 0,rfl,LAt.nil _ _ _ _ _,hok,?_⟩
      rw [Tr.count_eq]
      show 1+countL []≤_
      rw [countL]
      exact bulk_one _
     ·cases e6
      have hlm:len≤m':=by rw [hmm]; split <;> omega
      rw [cNode]at hx
      have hd6:x6.1=DataW.slice ((List.range len).map D) ((List.range (m' - len)).map fun j=>D (len+j)):=by rw [hx6]
      rw [hd6]at hbulk
      have hb2:Rows.uptoBulkAll ((List.range len).map D)+2≤Rows.uptoBulk (DataW.agg ([x0,x1,x2,x3,x4,x5,x6].map (·.1))):=by
       have:Rows.uptoBulk (DataW.slice ((List.range len).map D) ((List.range (m' - len)).map fun j=>D (len+j)))=Rows.uptoBulkAll ((List.range len).map D)+Rows.uptoBulkAll ((List.range (m' - len)).map fun j=>D (len+j))+1:=by simp only [Rows.uptoBulk]
       rw [this]at hbulk
       omega
      have hbD:∀ i,i<len→Rows.uptoBulk (D i)≤b:=fun i hi=>by
       have h1:=bulk_part (d:=D i) (l:=(List.range len).map D) (List.mem_map.2 ⟨i,List.mem_range.2 hi,rfl⟩)
       have hb':Rows.uptoBulk (DataW.agg ([x0,x1,x2,x3,x4,x5,x6].map (·.1)))≤b+1:=hb
       omega
      obtain ⟨l,hll,hp⟩:=tree_choose (p:=fun i t=>∃ v,(∀ j q,(nodeCells t.own v)[j]? = some q→w.cell? (a.add (i*9+j))=some q)∧a.block<w.heap.size∧ListAt w w.heap.size b t.kids v∧OwnOk t.own∧t.count≤Rows.uptoBulk (D i)) len (fun i hi=>by
       obtain ⟨cs',h1,h2⟩:=hx i (by omega)
       obtain ⟨t,v,e,h3,h4,h5⟩:=ih n' cs' (D i,Pl i) h2 (hbD i hi)
       subst e
       obtain ⟨_,hlen,hc⟩:=World.cells?_some h1
       have hcc:∀ j q,(nodeCells t.own v)[j]? = some q→w.cell? (a.add (i*9+j))=some q:=fun j q hq=>by
        have hj:j<9:=(List.getElem?_eq_some_iff.1 hq).1
        rw [← add_add',hc j hj,hq]
       refine ⟨t,v,hcc,?_,h3,h4,h5⟩
       have:=cell_block_lt (hcc 0 _ rfl)
       rwa [add_block]at this)
      refine ⟨.nd ⟨kind,bb,neg,dg,ex,u,wd,s⟩ l,.slice (some a) len cap,rfl,⟨some a,cap,by rw [← hll]; rfl,⟨by show l.length≤_; simp [maxLen]at hm; omega,by show l.length≤_; omega⟩,fun i hi=>?_⟩,hok,?_⟩
      ·obtain ⟨v,g1,g2,g3,g4,_⟩:=hp i hi
       exact ⟨a,v,rfl,g2,g4,g1,g3⟩
      ·rw [Tr.count_eq]
       show 1+countL l≤Rows.uptoBulk (DataW.agg ([x0,x1,x2,x3,x4,x5,x6].map (·.1)))
       have:=bulk_count D len l hll (fun i hi=>by
        obtain ⟨_,_,_,_,_,g5⟩:=hp i hi
        exact g5)
       omega
set_option maxRecDepth 100000 in
theorem open_tree {W:World} {r:Reach} {b0:Nat} {v:Value} {d:DataW H} {ps:List MemPlace} (hval:Value.okWide Tryz.prog W r b0 28 v) (hd:DataW.Trod enc Tryz.prog w base sp held 28 v d ps) :
  ∃ (t:Tr) (x:Value),v=nodeV t.own x∧ListAt w w.heap.size (Rows.uptoBulk d) t.kids x∧OwnOk t.own∧t.count≤Rows.uptoBulk d:=by
 obtain ⟨fuel,hf⟩:=hd
 obtain ⟨t,x,e,h1,h2,h3⟩:=open_node (Rows.uptoBulk d) fuel _ _ hf (Nat.le_refl _)
 refine ⟨t,x,?_,h1,h2,h3⟩
 obtain ⟨cs,rfl,_⟩:=Go.WideShapes.okWide_struct Tryz.underlying28 hval
 have e:cs.toList=nodeCells t.own x:=e
 rw [nodeCells_eq,← e]
end
end Go.Proofs.YtonihophanmaaaaGreatDoor
namespace Go.Proofs.YtonihophanmaaaaGreatDoor.detTwice
open Go.ChangeShapes Go.WideShapes Go.ChangeAt Go.RowKit Go.Lib
open Go.ChangeMaps (open_string shut_string)
theorem own:ownKnob Tryz.prog.godebug=none:=by kernel_rfl
theorem laidOut:laidOutB Tryz.prog=true:=by kernel_rfl
theorem listed:Rows.detTwiceUptoRow.laid=allL10:=rfl
abbrev zArgs:Array Value:=#[zeroN]
noncomputable abbrev laidW (os:Os):World:=((laidH os).forCall (fun _ _=>0) ⟨#[],zArgs,[]⟩).memory
set_option maxRecDepth 100000 in
set_option maxHeartbeats 2000000 in
theorem lifted (os:Os) (started:os.Started) (H:Type) (enc:TypeId×Value→H) (F:Stop.Interp) :
  ReturnsInHanded {} Tryz.checked os 8 .any ((Rows.OpenSpec.upto Rows.detTwiceSpec).preRow enc Tryz.prog Tryz.f8 Rows.detTwiceUptoRow.domain false Rows.detTwiceUptoRow.laid) (((Rows.OpenSpec.upto Rows.detTwiceSpec).at F).post enc Tryz.prog Tryz.f8 false true false false):=by
 have hs:(DataW.whole enc Tryz.prog (laidW os) Tryz.f8.params.toList Rows.detTwiceSpec.vars false zArgs.toList 8).isSome=true:=by kernel_rfl
 refine returnsInHanded_of_row (C:=Tryz.checked) (s:=Rows.OpenSpec.upto Rows.detTwiceSpec) own started (by kernel_rfl) Tryz.func8
  ⟨laidH os,fun _ _=>0,⟨#[],zArgs,[]⟩,laidH_os os,laidH_shaped os _,
   rfl,(Input.okWide_of_okWideB (P:=Tryz.prog) (w:=(laidH os).forCall (fun _ _=>0) ⟨#[],zArgs,[]⟩) (f:=8) (i:=⟨#[],zArgs,[]⟩) (by kernel_rfl)).2,
   OpenSpec.preRow_of_cond 8 (Option.some_get hs).symm (by kernel_rfl) (fun k hk=>by cases hk; kernel_rfl) (by kernel_rfl) (by
    rw [listed]
    exact laidH_met os _),by
   simp only [Assume.holds]
   exact ⟨by simp,by simp,fun _=>Modest.zero,by simp,by simp⟩⟩ ?_
 intro W base args ds gs before hval0 hW _ hcond _ hL _ _
 have hval:∀ (j:Nat) t v,Tryz.f8.params[j]? = some t→args[j]? = some v→Value.okWide Tryz.prog W .any base t v:=hval0
 have hW':=hW
 obtain ⟨p,q,hA0,hV,rfl,_,_⟩:=hW
 have hA:DataW.TrodAll enc Tryz.prog W 0 (fun _=>true) true Tryz.f8.params.toList args.toList ds p:=hA0
 rw [Tryz.params8]at hA hval
 obtain ⟨v0,vs0,d0,ds0,p0,q0,hargs,rfl,rfl,h0,r0⟩:=trodAll_cons hA
 obtain ⟨rfl,rfl,rfl⟩:=trodAll_nil r0
 obtain rfl:args = #[v0]:=by cases args; simp_all
 obtain ⟨rfl,rfl⟩:=trodVars_none hV
 have hbulk:Rows.uptoBulk d0≤1048576:=by
  have:=hcond _ rfl
  have h:Rows.uptoBulkAll ([d0]++[])≤1048576:=of_decide_eq_true this
  simp only [List.append_nil,Rows.uptoBulkAll]at h
  omega
 obtain ⟨t0,x0,rfl,ht0,hto0,htc0⟩:=open_tree (hval 0 28 v0 rfl rfl) h0
 rw [listed]at hL
 obtain ⟨aT,aF,hU⟩:=rw_of_laid hL
 refine (twice_walk t0 x0 W hU _ ht0 hto0 (by omega)).mono fun e W' ⟨he,hb⟩=>?_
 subst he
 exact ⟨_,rfl,law_post laidOut (by kernel_rfl) rfl Tryz.underlying4 rfl rfl rfl rfl hW' hb⟩
end Go.Proofs.YtonihophanmaaaaGreatDoor.detTwice
namespace Go.Proofs.YtonihophanmaaaaGreatDoor.detTwice
open Go.ChangeShapes Go.WideShapes Go.ChangeAt Go.RowKit Go.Lib
open Go.ChangeMaps (open_string shut_string)
theorem k_place:(Rows.detTwiceUptoRow.inPlace == Tryz.pinned.checked.prog.inPlace 8)=true:=by kernel_rfl
theorem k_unf:(Rows.detTwiceUptoRow.unfollowed == Tryz.pinned.checked.prog.unfollowed 8)=true:=by kernel_rfl
theorem k_rec:(Rows.detTwiceUptoRow.recurses == Tryz.pinned.checked.prog.recurses 8)=true:=by kernel_rfl
theorem k_named:(Rows.detTwiceUptoRow.named == Tryz.pinned.checked.prog.varsNamed 8)=true:=by kernel_rfl
theorem named_f:Tryz.pinned.checked.prog.funcNamed Rows.detTwiceUptoRow.func=some 8:=by kernel_rfl
theorem closed_f:joinedFacts Tryz.pinned.checked.prog 8 Tryz.f8 (Rows.OpenSpec.upto Rows.detTwiceSpec).bare Rows.detTwiceUptoRow=true:=by
 unfold joinedFacts
 rw [k_place,k_unf,k_rec,k_named]
 kernel_rfl
theorem over:Rows.DetTwiceUptoSaid:=
 OpenClaim.holds_of_cond 8 Tryz.f8 rfl rfl rfl rfl rfl rfl rfl ⟨rfl,rfl,rfl,rfl,rfl⟩ rfl rfl rfl rfl rfl named_f Tryz.func8 closed_f
  (of_decide_eq_true (by kernel_rfl)) (by unfold Func.isWrapper; first | (rw [if_pos (by decide +kernel)]; kernel_rfl) | (rw [if_neg (by decide +kernel)]; exact ⟨rfl,rfl⟩))
  (fun os started H enc _ F=>by rw [OpenClaim.pre_eq_preRow]; exact lifted os started H enc F)
end Go.Proofs.YtonihophanmaaaaGreatDoor.detTwice
