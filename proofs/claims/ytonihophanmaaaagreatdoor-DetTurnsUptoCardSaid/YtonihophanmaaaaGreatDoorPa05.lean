/- The texts DtD, DtI, DtJ, HeadA, HeadL, HeadM, HeadD, put together. -/
import Derived.Test.YtonihophanmaaaaGreatDoorPa04
import Derived.Sort.Statements
import Derived.Test.YtonihophanmaaaaGreatDoorPa01
import Derived.Lib.Hide
import Derived.Outline
namespace Go.Proofs.YtonihophanmaaaaGreatDoor
open Go.RowKit Go.Shelf
section
variable (it:Tr→List UInt8)
def risesB:List Tr→Bool
 | k::_::k2::v2::l=>decide (it k<it k2) && risesB (k2::v2::l)
 | _=>true
mutual
def sortB:Tr→Bool
 | .nd o l=>(!decide (o.kind=8) || risesB it l) && sortBL l
def sortBL:List Tr→Bool
 | []=>true
 | t::l=>sortB t && sortBL l
end
end
section
variable {it:Tr→List UInt8} {nar:Own→Own} {G:Tr→Prop} {flD:Own→Bool}
theorem sortBL_iff:∀ l:List Tr,sortBL it l=true↔∀ t∈l,sortB it t=true
 | []=>by simp [sortBL]
 | t::l=>by rw [sortBL,Bool.and_eq_true,sortBL_iff l]; simp
theorem mem_unp:∀ (ps:List (Tr×Tr)) (t:Tr),t∈unp ps→∃ p∈ps,t=p.1∨t=p.2
 | [],t,h=>by rw [unp]at h; cases h
 | p::ps,t,h=>by
  rw [unp]at h
  rcases List.mem_cons.1 h with h | h
  ·exact ⟨p,by simp,.inl h⟩
  rcases List.mem_cons.1 h with h | h
  ·exact ⟨p,by simp,.inr h⟩
  ·obtain ⟨q,h1,h2⟩:=mem_unp ps t h
   exact ⟨q,by simp [h1],h2⟩
theorem rises_unp:∀ ps:List (Tr×Tr),RisesP it ps→risesB it (unp ps)=true
 | [],_=>by rw [unp,risesB]; simp
 | [p],_=>by rw [unp,unp,risesB]; simp
 | p::q::ps,h=>by
  obtain ⟨h1,h2⟩:=List.pairwise_cons.1 h
  have h3:=rises_unp (q::ps) h2
  rw [unp]at h3
  rw [unp,unp,risesB,h3,decide_eq_true (h1 q (by simp))]
  rfl
theorem keyO_leaf {o:Own} {l:List Tr} (hk:keyO 2 o=true) (ho:ownB o l=true):l=[]∧o.kind≠8∧o.kind≠4:=by
 unfold keyO at hk
 have h:o.kind=5∨o.kind=3∨o.kind=6∨o.kind=2∨o.kind=1:=by
  by_cases h5:o.kind=5
  ·exact .inl h5
  rw [if_neg h5,if_neg (by decide)]at hk
  by_cases h3:o.kind=3
  ·exact .inr (.inl h3)
  rw [if_neg h3,Bool.or_eq_true,Bool.or_eq_true,decide_eq_true_iff,decide_eq_true_iff,decide_eq_true_iff]at hk
  exact .inr (.inr hk)
 refine ⟨?_,by omega,by omega⟩
 unfold ownB at ho
 rcases h with h | h | h | h | h <;> rw [h]at ho <;> simp at ho <;> exact ho.1
theorem keysFit_mem (f:Int):∀ (l:List Tr) (i:Nat) (h:2*i<l.length),keysFit f l=true→keyO f l[2*i].own=true
 | [],i,h,_=>by simp at h
 | [k],0,_,hk=>by rw [keysFit]at hk; exact hk
 | [k],i+1,h,_=>by simp at h
 | k::v::l,0,_,hk=>by
  rw [keysFit,Bool.and_eq_true]at hk
  exact hk.1
 | k::v::l,i+1,h,hk=>by
  rw [keysFit,Bool.and_eq_true]at hk
  have h1:=keysFit_mem f l i (by simp at h; omega) hk.2
  have e:(k::v::l)[2*(i+1)]=l[2*i]'(by simp at h; omega):=by
   simp only [show 2*(i+1)=2*i+1+1 by omega,List.getElem_cons_succ]
  rw [e]
  exact h1
theorem fit_parts {f:Int} {fl:Own→Bool} {o:Own} {l:List Tr} (h:fitT f fl (.nd o l)=true):fitO f fl o l=true∧fitL f fl l=true:=by
 rw [fitT,Bool.and_eq_true]at h
 exact h
theorem fit_cons {f:Int} {fl:Own→Bool} {t:Tr} {l:List Tr} (h:fitL f fl (t::l)=true):fitT f fl t=true∧fitL f fl l=true:=by
 rw [fitL,Bool.and_eq_true]at h
 exact h
theorem fit_keys {f:Int} {fl:Own→Bool} {o:Own} {l:List Tr} (h:fitO f fl o l=true) (h8:o.kind=8):keysFit f l=true:=by
 unfold fitO at h
 rw [h8]at h
 simp only [show ¬ (8:Int)=4 by decide,show ¬ (8:Int)=3 by decide,show ¬ (8:Int)=6 by decide,show ¬ ((8:Int)=9∨(8:Int)=10) by decide,show ¬ (8:Int)=11 by decide,if_false,if_true,Bool.and_eq_true]at h
 exact h.2
mutual
theorem set_sorted (hn:NarOk nar) (hG:ItemsOk it G):∀ t,allB t=true→fitT 2 flC t=true→G t→sortB it (setT it nar t)=true
 | .nd o l,h,hf,hg=>by
  obtain ⟨h1,h2⟩:=own_of_all h
  obtain ⟨f1,f2⟩:=fit_parts hf
  have hgl:=hG.kids o l hg
  by_cases h4:o.kind=4
  ·have hl:=own_float h1 h4
   subst hl
   rw [setT,if_pos h4,sortB,sortBL,decide_eq_false (by rw [hn.kind o h4]; decide)]
   rfl
  by_cases h8:o.kind=8
  ·obtain ⟨he,hk⟩:=own_even h1 h8
   have hs:=sort_rises it _ (setP_apart (nar:=nar) hG l ((keysB_iff l).1 hk) hgl)
   rw [setT,if_neg h4,if_pos h8,sortB,rises_unp _ hs,Bool.or_true,Bool.true_and,sortBL_iff]
   intro t ht
   obtain ⟨p,hp,hpt⟩:=mem_unp _ t ht
   obtain ⟨e1,e2⟩:=set_sortedP hn hG l h2 f2 hgl (fit_keys f1 h8) p ((sort_perm it (setP it nar l)).mem_iff.1 hp)
   rcases hpt with rfl|rfl
   ·exact e1
   ·exact e2
  ·rw [setT,if_neg h4,if_neg h8,sortB,decide_eq_false h8,set_sortedL hn hG l h2 f2 hgl]
   rfl
theorem set_sortedL (hn:NarOk nar) (hG:ItemsOk it G):∀ l,allL l=true→fitL 2 flC l=true→(∀ t∈l,G t)→sortBL it (setL it nar l)=true
 | [],_,_,_=>by rw [setL,sortBL]
 | t::l,h,hf,hg=>by
  obtain ⟨h1,h2⟩:=all_cons h
  obtain ⟨f1,f2⟩:=fit_cons hf
  rw [setL,sortBL,set_sorted hn hG t h1 f1 (hg t (by simp)),set_sortedL hn hG l h2 f2 (fun x hx=>hg x (by simp [hx]))]
  rfl
theorem set_sortedP (hn:NarOk nar) (hG:ItemsOk it G):∀ l,allL l=true→fitL 2 flC l=true→(∀ t∈l,G t)→keysFit 2 l=true→∀ p∈setP it nar l,sortB it p.1=true∧sortB it p.2=true
 | [],_,_,_,_,p,hp=>by rw [setP]at hp; cases hp
 | [_],_,_,_,_,p,hp=>by rw [setP]at hp; cases hp
 | k::v::l,h,hf,hg,hk,p,hp=>by
  obtain ⟨h1,h2⟩:=all_cons h
  obtain ⟨h3,h4⟩:=all_cons h2
  obtain ⟨_,f2⟩:=fit_cons hf
  obtain ⟨f3,f4⟩:=fit_cons f2
  rw [keysFit,Bool.and_eq_true]at hk
  rw [setP]at hp
  rcases List.mem_cons.1 hp with rfl | hp
  ·refine ⟨?_,set_sorted hn hG v h3 f3 (hg v (by simp))⟩
   cases k with
   | nd ok lk =>
    obtain ⟨e1,e2,_⟩:=keyO_leaf hk.1 (own_of_all h1).1
    subst e1
    rw [sortB,sortBL,decide_eq_false (show ¬ ok.kind=8 from e2)]
    rfl
  ·exact set_sortedP hn hG l h4 f4 (fun x hx=>hg x (by simp [hx])) hk.2 p hp
end
theorem keyO_23 (o:Own):keyO 3 o=keyO 2 o:=by
 unfold keyO
 rw [if_neg (show ¬ (3:Int)=1 by decide),if_neg (show ¬ (2:Int)=1 by decide)]
theorem keysFit_23:∀ l:List Tr,keysFit 3 l=keysFit 2 l
 | []=>by rw [keysFit,keysFit]
 | [k]=>by rw [keysFit,keysFit,keyO_23]
 | k::v::l=>by rw [keysFit,keysFit,keyO_23,keysFit_23 l]
theorem fitO_23 (fl fl':Own→Bool) (o:Own) (l:List Tr) (h4:o.kind≠4):fitO 3 fl o l=fitO 2 fl' o l:=by
 unfold fitO
 rw [if_neg h4,if_neg h4,keysFit_23]
 simp
structure NarFit (nar:Own→Own) (fl:Own→Bool):Prop where
 yes:∀ o,o.kind=4→ownB o []=true→fl (nar o)=true
 self:∀ o,o.kind=4→ownB o []=true→fl o=true→nar o=o
mutual
theorem set_fit (hn:NarOk nar) (hd:NarFit nar flD):∀ t,allB t=true→fitT 2 flC t=true→fitT 3 flD (setT it nar t)=true
 | .nd o l,h,hf=>by
  obtain ⟨h1,h2⟩:=own_of_all h
  obtain ⟨f1,f2⟩:=fit_parts hf
  by_cases h4:o.kind=4
  ·have hl:=own_float h1 h4
   subst hl
   rw [setT,if_pos h4,fitT,fitL,Bool.and_true]
   unfold fitO
   rw [if_pos (hn.kind o h4)]
   exact hd.yes o h4 h1
  by_cases h8:o.kind=8
  ·obtain ⟨he,hk⟩:=own_even h1 h8
   have hp:=sort_perm it (setP it nar l)
   have hlen2:(unp (setP it nar l)).length=l.length:=by
    rw [unp_len,setP_len]
    omega
   have hkf:=fit_keys f1 h8
   rw [setT,if_neg h4,if_pos h8,fitT,perm_fit 3 flD hp,set_fitP hn hd l h2 f2 hkf,Bool.and_true,fitO_23 flD flC o _ h4]
   unfold fitO at f1 ⊢
   rw [h8]at f1 ⊢
   simp only [show ¬ (8:Int)=4 by decide,show ¬ (8:Int)=3 by decide,show ¬ (8:Int)=6 by decide,show ¬ ((8:Int)=9∨(8:Int)=10) by decide,show ¬ (8:Int)=11 by decide,if_false,if_true]at f1 ⊢
   rw [perm_keys 2 hp,keysFit_keys 2 hlen2 (setP_keys l he)]
   exact f1
  ·rw [setT,if_neg h4,if_neg h8,fitT,set_fitL hn hd l h2 f2,Bool.and_true,fitO_23 flD flC o _ h4]
   unfold fitO at f1 ⊢
   rw [if_neg h8]at f1 ⊢
   exact f1
theorem set_fitL (hn:NarOk nar) (hd:NarFit nar flD):∀ l,allL l=true→fitL 2 flC l=true→fitL 3 flD (setL it nar l)=true
 | [],_,_=>by rw [setL,fitL]
 | t::l,h,hf=>by
  obtain ⟨h1,h2⟩:=all_cons h
  obtain ⟨f1,f2⟩:=fit_cons hf
  rw [setL,fitL,set_fit hn hd t h1 f1,set_fitL hn hd l h2 f2]
  rfl
theorem set_fitP (hn:NarOk nar) (hd:NarFit nar flD):∀ l,allL l=true→fitL 2 flC l=true→keysFit 2 l=true→fitL 3 flD (unp (setP it nar l))=true
 | [],_,_,_=>by rw [setP,unp,fitL]
 | [_],_,_,_=>by rw [setP,unp,fitL]
 | k::v::l,h,hf,hk=>by
  obtain ⟨h1,h2⟩:=all_cons h
  obtain ⟨h3,h4⟩:=all_cons h2
  obtain ⟨f0,f2⟩:=fit_cons hf
  obtain ⟨f3,f4⟩:=fit_cons f2
  rw [keysFit,Bool.and_eq_true]at hk
  have hkf:fitT 3 flD k=true:=by
   cases k with
   | nd ok lk =>
    obtain ⟨e1,e2,e3⟩:=keyO_leaf hk.1 (own_of_all h1).1
    subst e1
    rw [fitT,fitL,fitO_23 flD flC ok [] e3,(fit_parts f0).1]
    rfl
  rw [setP,unp,fitL,fitL,hkf,set_fit hn hd v h3 f3,set_fitP hn hd l h4 f4 hk.2]
  rfl
end
end
end Go.Proofs.YtonihophanmaaaaGreatDoor
namespace Go.Proofs.YtonihophanmaaaaGreatDoor
open Go.RowKit Go.Shelf
section
variable (it:Tr→List UInt8)
variable {it}
end
end Go.Proofs.YtonihophanmaaaaGreatDoor
namespace Go.Proofs.YtonihophanmaaaaGreatDoor
open Go.RowKit Go.Shelf
theorem extract_all {α:Type} (d:Array α) (n:Nat) (h:d.size=n):d.extract 0 n=d:=by
 rw [← h,Array.extract_size]
theorem perm_of {α:Type} [Inhabited α] {d d':Array α} (hp:Go.Sort.PermIn 0 d.size d d'):d'.toList.Perm d.toList:=by
 obtain ⟨h1,_,h2⟩:=hp
 rwa [extract_all d _ rfl,extract_all d' _ h1]at h2
variable (it:Tr→List UInt8)
theorem sorted_pairs {α:Type} [Inhabited α] (key:α→Tr×Tr) (lt:α→α→Bool) (hlt:∀ x y,lt x y=decide (it (key x).1<it (key y).1)) {d d':Array α} (hp:Go.Sort.PermIn 0 d.size d d')
  (hs:Go.Sort.SortedIn lt 0 d.size d') (ha:ItemsApart it (d.toList.map key)):d'.toList.map key=sortP it (d.toList.map key):=by
 have h1:=(perm_of hp).map key
 have h2:ItemsApart it (d'.toList.map key):=apart_perm it h1.symm ha
 refine rises_one it _ _ (h1.trans (sort_perm it _).symm) ?_ (sort_rises it _ ha)
 have hz:d'.toList.length=d.size:=by
  rw [Array.length_toList]
  exact hp.1
 unfold RisesP ItemsApart at *
 rw [List.pairwise_iff_getElem]at h2 ⊢
 intro i j hi hj hij
 have h3:=h2 i j hi hj hij
 rw [List.length_map,hz]at hi hj
 have h4:=hs i j (Nat.zero_le _) hij hj
 rw [hlt]at h4
 have h5:=of_decide_eq_false h4
 have ei:d'[i]! = d'.toList[i]'(by omega):=by
  rw [getElem!_pos d' i (by rw [hp.1]; exact hi)]
  exact (Array.getElem_toList _).symm
 have ej:d'[j]! = d'.toList[j]'(by omega):=by
  rw [getElem!_pos d' j (by rw [hp.1]; exact hj)]
  exact (Array.getElem_toList _).symm
 rw [ei,ej]at h5
 rw [List.getElem_map,List.getElem_map]at h3 ⊢
 rcases lt_or h3 with h | h
 ·exact h
 ·exact absurd h h5
end Go.Proofs.YtonihophanmaaaaGreatDoor
namespace Go.Proofs.YtonihophanmaaaaGreatDoor
open Go.RowKit Go.Shelf
theorem head_sizes (w:World) :
  Calls Tryz.prog 201 #[] w fun e w'=>e=.returned (.agg #[.int .i64 24,.int .i64 1,.int .i64 25,.int .i64 2,.int .i64 26,.int .i64 4,.int .i64 27,.int .i64 8])∧Below w.heap.size w w':=by
 go_enter Tryz.func201,Tryz.ntmps201
 go_wp2
 exact bodyPost_ret (v:=.agg #[.int .i64 24,.int .i64 1,.int .i64 25,.int .i64 2,.int .i64 26,.int .i64 4,.int .i64 27,.int .i64 8]) (by simp [results,Tryz.results201,go_sem]) rfl ⟨rfl,(Below.refl _ _).alloc (Nat.le_refl _) _⟩
theorem head_fitting (n:Int) (w:World) :
  Calls Tryz.prog 282 #[.int .u64 n] w fun e w'=>e=.returned (.func (.func 292) #[] #[.pointer (some ⟨w.heap.size,0,none⟩)])∧w.alloc (.cells #[.int .u64 n] 25)=w':=by
 go_enter Tryz.func282,Tryz.ntmps282
 go_wp2
 go_ret
 exact ⟨rfl,rfl⟩
attribute [local go_sem] Oper.semAt_some
attribute [local go_sem] wide_fn wide_depth
def sizeList:List (Int×Int):=[(24,1),(25,2),(26,4),(27,8)]
def fitsB (n:Int) (s:Int×Int):Bool:=decide (8≤s.2) || decide (n<2 ^ (8*s.2.toNat))
def fitsTo (n:Int) (k:Nat):List (Int×Int):=(sizeList.take k).filter (fitsB n)
theorem fitsTo_1 {n:Int} (h:n<256):fitsTo n 1=fitsTo n 0++[(24,1)]:=by simp [fitsTo,sizeList,fitsB,List.filter,h]
theorem fitsTo_1n {n:Int} (h:¬ n<256):fitsTo n 1=fitsTo n 0:=by simp [fitsTo,sizeList,fitsB,List.filter,h]
theorem fitsTo_2 {n:Int} (h:n<65536):fitsTo n 2=fitsTo n 1++[(25,2)]:=by
 by_cases h1:n<256 <;> simp [fitsTo,sizeList,fitsB,List.filter,h,h1]
theorem fitsTo_2n {n:Int} (h:¬ n<65536):fitsTo n 2=fitsTo n 1:=by
 by_cases h1:n<256 <;> simp [fitsTo,sizeList,fitsB,List.filter,h,h1]
theorem fitsTo_3 {n:Int} (h:n<4294967296):fitsTo n 3=fitsTo n 2++[(26,4)]:=by
 by_cases h1:n<256 <;> by_cases h2:n<65536 <;> simp [fitsTo,sizeList,fitsB,List.filter,h,h1,h2]
theorem fitsTo_3n {n:Int} (h:¬ n<4294967296):fitsTo n 3=fitsTo n 2:=by
 by_cases h1:n<256 <;> by_cases h2:n<65536 <;> simp [fitsTo,sizeList,fitsB,List.filter,h,h1,h2]
theorem fitsTo_4 (n:Int):fitsTo n 4=fitsTo n 3++[(27,8)]:=by
 by_cases h1:n<256 <;> by_cases h2:n<65536 <;> by_cases h3:n<4294967296 <;> simp [fitsTo,sizeList,fitsB,List.filter,h1,h2,h3]
theorem fitsTo_le (n:Int) (k:Nat) (h:k≤4):fitsTo n k <+: fitsTo n 4:=by
 unfold fitsTo
 exact (List.take_prefix_take_left h).filter _
theorem fitsTo_len (n:Int) (k:Nat):(fitsTo n k).length≤k:=Nat.le_trans (List.length_filter_le _ _) (List.length_take_le _ _)
theorem szA0 (w:World):(Instr.index 230 (.agg #[.int .i64 24,.int .i64 1,.int .i64 25,.int .i64 2,.int .i64 26,.int .i64 4,.int .i64 27,.int .i64 8]) (.int .i64 0)).run Tryz.prog w=.ok (.agg #[.int .i64 24,.int .i64 1]) w:=by kernel_rfl
theorem szA1 (w:World):(Instr.index 230 (.agg #[.int .i64 24,.int .i64 1,.int .i64 25,.int .i64 2,.int .i64 26,.int .i64 4,.int .i64 27,.int .i64 8]) (.int .i64 1)).run Tryz.prog w=.ok (.agg #[.int .i64 25,.int .i64 2]) w:=by kernel_rfl
theorem szA2 (w:World):(Instr.index 230 (.agg #[.int .i64 24,.int .i64 1,.int .i64 25,.int .i64 2,.int .i64 26,.int .i64 4,.int .i64 27,.int .i64 8]) (.int .i64 2)).run Tryz.prog w=.ok (.agg #[.int .i64 26,.int .i64 4]) w:=by kernel_rfl
theorem szA3 (w:World):(Instr.index 230 (.agg #[.int .i64 24,.int .i64 1,.int .i64 25,.int .i64 2,.int .i64 26,.int .i64 4,.int .i64 27,.int .i64 8]) (.int .i64 3)).run Tryz.prog w=.ok (.agg #[.int .i64 27,.int .i64 8]) w:=by kernel_rfl
set_option maxRecDepth 100000 in
set_option maxHeartbeats 1000000 in
theorem head_fitting1 (m l Bn n₀:Nat) (n:Int) (h0n:0≤n) (hn64:n<18446744073709551616) (J Jx:List (Int×Int)→World→Prop)
  (hJ:∀ s (A B:World),J s A→A.grownBy B none→J s B)
  (hY:∀ pre x W,J pre W→pre.length<4→YieldAt Fence.wide (m - 1) Tryz.prog l #[.agg #[.int .i64 x.1,.int .i64 x.2]] W fun e W' =>
   (e=.returned (.bool true)∧J (pre++[x]) W'∧Below n₀ W W')∨(e=.returned (.bool false)∧Jx (pre++[x]) W'))
  (W:World) (hb:Bn<n₀) (hn₀:n₀≤W.heap.size) (hBn:W.cell? ⟨Bn,0,none⟩=some (.int .u64 n)) (h0:J [] W) :
  CallsIn Fence.wide m Tryz.prog 292 #[.func (.yield l) #[] #[],.pointer (some ⟨Bn,0,none⟩)] W fun e W'=>(∃ v,e=.returned v) ∧
   ((∃ ys,ys=fitsTo n 4∧J ys W')∨(∃ pre,pre <+: fitsTo n 4∧Jx pre W')):=by
 have i0:=szA0
 have i1:=szA1
 have i2:=szA2
 have i3:=szA3
 refine callsIn_of_wp Tryz.func292 rfl trivial ?_ rfl
 simp only [Tryz.ntmps292,List.size_toArray,List.length_cons,List.length_nil,Nat.reduceAdd,Nat.reduceSub,Array.replicate_succ,Array.replicate_zero,List.push_toArray,List.append_toArray,List.nil_append,List.cons_append]
 gi_wp2_with (gi_at_call 201; refine (callsIn_wide.2 (head_sizes _)).mono ?_; rintro e w1 ⟨rfl,hb1⟩)
 gi_loopw [6] (fun i wr=>∃ k:Nat,k≤4∧i=.int .i64 k∧J (fitsTo n k) wr∧wr.cell? ⟨Bn,0,none⟩=some (.int .u64 n)) (fun i _=>4 - (intOf i).toNat)
 case atStart=>exact ⟨0,by omega,rfl,hJ _ _ _ h0 ⟨hb1.os,hb1.tape,hb1.output,hb1.size,fun k hk _=>hb1.block k hk⟩,(hb1.cell (p:=⟨Bn,0,none⟩) (by simp; omega)).trans hBn⟩
 case round =>
  obtain ⟨k,hk,rfl,hj,hc⟩:=hrel
  by_cases hlt:k<4
  ·have hBw:Bn<wr.heap.size:=by
    unfold World.cell? at hc
    rcases Nat.lt_or_ge Bn wr.heap.size with h | h
    ·exact h
    ·simp [Array.getElem?_eq_none h]at hc
   have hca:∀ o,(wr.alloc o).cell? ⟨Bn,0,none⟩=some (.int .u64 n):=fun o=>by
    rw [← hc]; exact World.cell?_of_block (Below.heap_alloc wr o Bn hBw)
   have hja:∀ o,J (fitsTo n k) (wr.alloc o):=fun o=>hJ _ _ _ hj (World.grownBy_alloc wr o none)
   obtain rfl|rfl|rfl|rfl:k=0∨k=1∨k=2∨k=3:=by omega
   ·by_cases hf:n<256
    ·have hb0:(n / 256 != 0)=false:=by rw [bne_eq_false_iff_eq]; omega
     obtain ⟨fn,tmps,assign,body,hy,hR⟩:=hY (fitsTo n 0) (24,1) _ (hja (Obj.cells #[Value.int IntKind.i64 24,Value.int IntKind.i64 1] 229)) (Nat.lt_of_le_of_lt (fitsTo_len _ _) (by decide))
     gi_wp2
     refine hR.mono ?_
     rintro e W3 (⟨rfl,hJ3,hk3⟩ | ⟨rfl,hJx3⟩)
     ·gi_wp2
      go_roundw
      case rel=>exact ⟨1,by omega,rfl,by rw [fitsTo_1 hf]; exact hJ3,(hk3.cell (p:=⟨Bn,0,none⟩) hb).trans (hca _)⟩
      case measure=>simp [intOf]
     ·gi_wp2
      refine bodyPost_ret (results_none rfl _ _ _) rfl ?_
      exact ⟨⟨_,rfl⟩,.inr ⟨_,by rw [← fitsTo_1 hf]; exact fitsTo_le _ _ (by omega),hJx3⟩⟩
    ·have hb0:(n / 256 != 0)=true:=by rw [bne_iff_ne]; omega
     gi_wp2
     go_roundw
     case rel=>exact ⟨1,by omega,rfl,by rw [fitsTo_1n hf]; exact hja _,hca _⟩
     case measure=>simp [intOf]
   ·by_cases hf:n<65536
    ·have hb0:(n / 65536 != 0)=false:=by rw [bne_eq_false_iff_eq]; omega
     obtain ⟨fn,tmps,assign,body,hy,hR⟩:=hY (fitsTo n 1) (25,2) _ (hja (Obj.cells #[Value.int IntKind.i64 25,Value.int IntKind.i64 2] 229)) (Nat.lt_of_le_of_lt (fitsTo_len _ _) (by decide))
     gi_wp2
     refine hR.mono ?_
     rintro e W3 (⟨rfl,hJ3,hk3⟩ | ⟨rfl,hJx3⟩)
     ·gi_wp2
      go_roundw
      case rel=>exact ⟨2,by omega,rfl,by rw [fitsTo_2 hf]; exact hJ3,(hk3.cell (p:=⟨Bn,0,none⟩) hb).trans (hca _)⟩
      case measure=>simp [intOf]
     ·gi_wp2
      refine bodyPost_ret (results_none rfl _ _ _) rfl ?_
      exact ⟨⟨_,rfl⟩,.inr ⟨_,by rw [← fitsTo_2 hf]; exact fitsTo_le _ _ (by omega),hJx3⟩⟩
    ·have hb0:(n / 65536 != 0)=true:=by rw [bne_iff_ne]; omega
     gi_wp2
     go_roundw
     case rel=>exact ⟨2,by omega,rfl,by rw [fitsTo_2n hf]; exact hja _,hca _⟩
     case measure=>simp [intOf]
   ·by_cases hf:n<4294967296
    ·have hb0:(n / 4294967296 != 0)=false:=by rw [bne_eq_false_iff_eq]; omega
     obtain ⟨fn,tmps,assign,body,hy,hR⟩:=hY (fitsTo n 2) (26,4) _ (hja (Obj.cells #[Value.int IntKind.i64 26,Value.int IntKind.i64 4] 229)) (Nat.lt_of_le_of_lt (fitsTo_len _ _) (by decide))
     gi_wp2
     refine hR.mono ?_
     rintro e W3 (⟨rfl,hJ3,hk3⟩ | ⟨rfl,hJx3⟩)
     ·gi_wp2
      go_roundw
      case rel=>exact ⟨3,by omega,rfl,by rw [fitsTo_3 hf]; exact hJ3,(hk3.cell (p:=⟨Bn,0,none⟩) hb).trans (hca _)⟩
      case measure=>simp [intOf]
     ·gi_wp2
      refine bodyPost_ret (results_none rfl _ _ _) rfl ?_
      exact ⟨⟨_,rfl⟩,.inr ⟨_,by rw [← fitsTo_3 hf]; exact fitsTo_le _ _ (by omega),hJx3⟩⟩
    ·have hb0:(n / 4294967296 != 0)=true:=by rw [bne_iff_ne]; omega
     gi_wp2
     go_roundw
     case rel=>exact ⟨3,by omega,rfl,by rw [fitsTo_3n hf]; exact hja _,hca _⟩
     case measure=>simp [intOf]
   ·have _i:=i3
    obtain ⟨fn,tmps,assign,body,hy,hR⟩:=hY (fitsTo n 3) (27,8) _ (hja (Obj.cells #[Value.int IntKind.i64 27,Value.int IntKind.i64 8] 229)) (Nat.lt_of_le_of_lt (fitsTo_len _ _) (by decide))
    gi_wp2
    refine hR.mono ?_
    rintro e W3 (⟨rfl,hJ3,hk3⟩ | ⟨rfl,hJx3⟩)
    ·gi_wp2
     go_roundw
     case rel=>exact ⟨4,by omega,rfl,by rw [fitsTo_4]; exact hJ3,(hk3.cell (p:=⟨Bn,0,none⟩) hb).trans (hca _)⟩
     case measure=>simp [intOf]
    ·gi_wp2
     refine bodyPost_ret (results_none rfl _ _ _) rfl ?_
     exact ⟨⟨_,rfl⟩,.inr ⟨_,by rw [← fitsTo_4]; exact fitsTo_le _ _ (by omega),hJx3⟩⟩
  ·obtain rfl:k=4:=by omega
   gi_wp2
   go_end0
   exact ⟨⟨_,rfl⟩,.inl ⟨_,rfl,hj⟩⟩
theorem head_fitting_stops (m Bn n₀:Nat) (n:Int) (h0n:0≤n) (hn64:n<18446744073709551616) (w:World) (hb:Bn<n₀) (hn₀:n₀≤w.heap.size) (hc:w.cell? ⟨Bn,0,none⟩=some (.int .u64 n)) :
  SeqStopsK Fence.wide m Tryz.prog 292 #[.pointer (some ⟨Bn,0,none⟩)] (fun x:Int×Int=>#[Value.agg #[.int .i64 x.1,.int .i64 x.2]]) (Below n₀) (fun ys=>ys=fitsTo n 4) (fun pre=>pre <+: fitsTo n 4) 4 w:=fun l J Jx W hW hJ _ hY h0 =>
 head_fitting1 m l Bn n₀ n h0n hn64 J Jx (fun s A B hs hg=>hJ s A B none hs hg (fun r e=>by cases e)) hY W hb (Nat.le_trans hn₀ hW.size) ((hW.cell (p:=⟨Bn,0,none⟩) (by simp; omega)).trans hc) h0
end Go.Proofs.YtonihophanmaaaaGreatDoor
namespace Go.Proofs.YtonihophanmaaaaGreatDoor
open Go.RowKit Go.Shelf
attribute [local go_sem] Oper.semAt_some wide_fn wide_depth
def leastOf (n:Int):Int×Int:=if n<24 then (n,0) else if n<256 then (24,1) else if n<65536 then (25,2) else if n<4294967296 then (26,4) else (27,8)
set_option maxRecDepth 100000 in
set_option maxHeartbeats 400000 in
theorem head_least (n:Int) (h0n:0≤n) (hn64:n<18446744073709551616) (w:World) :
  Calls Tryz.prog 267 #[.int .u64 n] w fun e w'=>e=.returned (.agg #[.int .i64 (leastOf n).1,.int .i64 (leastOf n).2])∧Below w.heap.size w w':=by
 refine calls_of_marks Tryz.func267 rfl ?_
 simp only [Tryz.ntmps267,List.size_toArray,List.length_cons,List.length_nil,Nat.reduceAdd,Nat.reduceSub,Array.replicate_succ,Array.replicate_zero,List.push_toArray,List.append_toArray,List.nil_append,List.cons_append]
 by_cases h24:n<24
 ·go_wp2
  go_step3
  go_wp2
  rw [Exit.noGoto_ret]
  exact leave0 (v:=.agg #[.int .i64 n,.int .i64 0]) (by simp [results,Tryz.results267,go_sem]) rfl ⟨by simp [leastOf,h24],((Below.refl _ _).alloc (Nat.le_refl _) _).alloc (by simp) _⟩
 ·go_wp2
  go_step3
  go_wp2
  go_step3
  go_wp2_with (go_at_call 282; refine (head_fitting _ _).mono ?_; rintro e w' ⟨rfl,rfl⟩)
  have bA:=Blk.new ((w.alloc (Obj.cells #[Value.int IntKind.i64 0,Value.int IntKind.i64 0] 229)).alloc (Obj.cells #[Value.int IntKind.i64 (wrap64 n),Value.int IntKind.i64 0] 229)) #[.int .u64 n] 25
  have bR:=((Blk.new w #[Value.int IntKind.i64 0,Value.int IntKind.i64 0] 229).alloc (Obj.cells #[Value.int IntKind.i64 (wrap64 n),Value.int IntKind.i64 0] 229)).alloc (Obj.cells #[Value.int .u64 n] 25)
  have bO:=(Blk.new (w.alloc (Obj.cells #[Value.int IntKind.i64 0,Value.int IntKind.i64 0] 229)) #[Value.int IntKind.i64 (wrap64 n),Value.int IntKind.i64 0] 229).alloc (Obj.cells #[Value.int .u64 n] 25)
  have hB0:Below w.heap.size w (((w.alloc (Obj.cells #[Value.int IntKind.i64 0,Value.int IntKind.i64 0] 229)).alloc (Obj.cells #[Value.int IntKind.i64 (wrap64 n),Value.int IntKind.i64 0] 229)).alloc (Obj.cells #[Value.int IntKind.u64 n] 25)):=(((Below.refl _ w).alloc (Nat.le_refl _) _).alloc (by simp) _).alloc (by simp; omega) _
  have hsz:(((w.alloc (Obj.cells #[Value.int IntKind.i64 0,Value.int IntKind.i64 0] 229)).alloc (Obj.cells #[Value.int IntKind.i64 (wrap64 n),Value.int IntKind.i64 0] 229)).alloc (Obj.cells #[Value.int IntKind.u64 n] 25)).heap.size=w.heap.size+3:=by simp
  simp only [World.size_alloc]at bA bO bR
  obtain ⟨W0,hW0⟩:∃ W0,((w.alloc (Obj.cells #[Value.int IntKind.i64 0,Value.int IntKind.i64 0] 229)).alloc (Obj.cells #[Value.int IntKind.i64 (wrap64 n),Value.int IntKind.i64 0] 229)).alloc (Obj.cells #[Value.int IntKind.u64 n] 25)=W0:=⟨_,rfl⟩
  rw [hW0]at bA bO bR hB0 hsz ⊢
  clear hW0
  refine wp_rangeFunc (gf:=292) (lb:=#[.pointer (some ⟨w.heap.size+1+1,0,none⟩)]) rfl (enters_of Tryz.func292 (by kernel_rfl) rfl)
   (head_fitting_stops 8 (w.heap.size+1+1) (w.heap.size+3) n h0n hn64 W0 (by omega) (by omega) ((bA.cell 0).trans rfl)) (by omega) (Below.refl _ _) (fun _=>rfl)
   (fun pre W=>(pre=[]∧Blk W w.heap.size #[.int .i64 0,.int .i64 0] 229∧Blk W (w.heap.size+1) #[.int .i64 (wrap64 n),.int .i64 0] 229)∧Below w.heap.size W0 W)
   (fun c pre W=>(c=.exit 0∧∃ x:Int×Int,pre=[x]∧Blk W w.heap.size #[.int .i64 0,.int .i64 0] 229∧Blk W (w.heap.size+1) #[.int .i64 x.1,.int .i64 x.2] 229)∧Below w.heap.size W0 W)
   ?hI ?hIx ⟨⟨rfl,bR,bO⟩,Below.refl _ _⟩
   (fun T x a' W=>∃ Bx,w.heap.size+1<Bx∧Blk W Bx #[.int .i64 x.1,.int .i64 x.2] 229∧a'={ tmps:=(T.setIfInBounds 13 (.agg #[.int .i64 x.1,.int .i64 x.2])).setIfInBounds 4 (.pointer (some ⟨Bx,0,none⟩)),defers:=[] })
   ?hAx ?assign ?body ?done ?stop
  case hI =>
   refine OwnFrom.and (Own.from ?_ _) (ownFrom_below (by omega) (by omega))
   rintro s X Y row ⟨h1,h2,h3⟩ hg hr
   exact ⟨h1,blk_own _ _ (fun _:Unit=>_) () X Y row h2 hg hr,blk_own _ _ (fun _:Unit=>_) () X Y row h3 hg hr⟩
  case hIx =>
   intro c
   refine OwnFrom.and (Own.from ?_ _) (ownFrom_below (by omega) (by omega))
   rintro s X Y row ⟨h1,x,hx,h2,h3⟩ hg hr
   exact ⟨h1,x,hx,blk_own _ _ (fun _:Unit=>_) () X Y row h2 hg hr,blk_own _ _ (fun _:Unit=>_) () X Y row h3 hg hr⟩
  case hAx =>
   rintro x a' _ X Y row ⟨Bx,h1,h2,h3⟩ hg hr
   exact ⟨Bx,h1,blk_own _ _ (fun _:Unit=>_) () X Y row h2 hg (fun r e=>(hr r e).2),h3⟩
  case assign =>
   rintro l pre x W K ⟨⟨hp,h1,h2⟩,hB⟩ hK
   have HK:=Lib.hid hK
   clear hK
   have hz:=hB.size
   gi_wp2
   exact HK.out _ _ ((KeepsOthers.alloc _ _).from _) ((Below.refl _ _).alloc (by omega) _) ⟨⟨hp,h1.alloc _,h2.alloc _⟩,hB.alloc (by omega) _⟩ ⟨W.heap.size,h2.lt,Blk.new _ _ _,rfl⟩
  case body =>
   rintro l pre x a' W hl ⟨r,hr⟩ ⟨⟨rfl,h1,h2⟩,hB⟩ ⟨Bx,hBx,bX,rfl⟩ hlt
   have hx0:=bX.cell 0
   have hx1:=bX.cell 1
   have ho0:=h2.cell 0
   have ho1:=h2.cell 1
   have hf:=h2.frozen
   simp only [List.setIfInBounds_toArray,List.set_cons_zero,List.set_cons_succ]
   gi_wp2
   exact ⟨((KeepsOthers.setCell _ _ _).trans (KeepsOthers.setCell _ _ _)).from _,⟨rfl,x,rfl,(h1.other (by omega) _ _).other (by omega) _ _,(h2.set 0 _).set 1 _⟩,(hB.setCell (by simp) _).setCell (by simp) _⟩
  case done =>
   rintro D ys W hD rfl ⟨⟨hp,_⟩,_⟩ hK
   exact absurd hp (by rw [fitsTo_4]; simp)
  case stop =>
   rintro D c pre W hD hp ⟨⟨rfl,x,rfl,h1,h2⟩,hB⟩ hK
   have ho0:=h2.cell 0
   have ho1:=h2.cell 1
   have hr0:=h1.cell 0
   have hr1:=h1.cell 1
   have hf:=h1.frozen
   have hx:x=leastOf n:=by
    unfold leastOf
    rw [if_neg (by omega)]
    by_cases h1:n<256
    ·rw [if_pos h1]
     simp [fitsTo,sizeList,fitsB,List.filter,h1]at hp; exact hp
    ·rw [if_neg h1]
     by_cases h2:n<65536
     ·rw [if_pos h2]
      simp [fitsTo,sizeList,fitsB,List.filter,h1,h2]at hp; exact hp
     ·rw [if_neg h2]
      by_cases h3:n<4294967296
      ·rw [if_pos h3]
       simp [fitsTo,sizeList,fitsB,List.filter,h1,h2,h3]at hp; exact hp
      ·rw [if_neg h3]
       simp [fitsTo,sizeList,fitsB,List.filter,h1,h2,h3]at hp; exact hp
   have HX:=Lib.hid hx
   clear hx
   go_wp2
   rw [Exit.noGoto_ret]
   have bR':=(h1.set 0 (Value.int IntKind.i64 x.fst)).set 1 (Value.int IntKind.i64 x.snd)
   have hK':((W.setCell { block:=w.heap.size,off:=0 } (Value.int IntKind.i64 x.fst)).setCell { block:=w.heap.size,off:=1 } (Value.int IntKind.i64 x.snd)).heap[D]? = some (.deferred (some [])):=
    ((Below.heap_setCell _ _ _ D (by simp; omega)).trans (Below.heap_setCell _ _ _ D (by simp; omega))).trans hK
   have bR2:=bR'.shut hK' rfl (.deferred none)
   have hq0:=bR2.cell 0
   have hq1:=bR2.cell 1
   refine leave1 (v:=.agg #[.int .i64 x.1,.int .i64 x.2]) hK' (by simp [results,Tryz.results267,go_sem,hq0,hq1]) rfl ⟨by rw [HX.out],?_⟩
   have hz:=hB.size
   exact below_shut (hB0.trans ((hB.setCell (by simp) _).setCell (by simp) _)) (by omega) (by simp [World.setCell]; omega) _
end Go.Proofs.YtonihophanmaaaaGreatDoor
namespace Go.Proofs.YtonihophanmaaaaGreatDoor
open Go.RowKit Go.Shelf
theorem leastOf_cases (n:Int) (h0:0≤n):0≤(leastOf n).1∧(leastOf n).1≤27∧0≤(leastOf n).2∧(leastOf n).2≤8:=by
 unfold leastOf
 split
 ·exact ⟨h0,by omega,by omega,by omega⟩
 ·split <;> (try split) <;> (try split) <;> simp
theorem Tryz.info8:(Tryz.prog.info? 5).map (fun i=>(i.zero,i.size,i.bytes))=some (some (.int .u8 0),1,1):=by kernel_rfl
theorem head_bytes (base n:Nat) (v:Value) (l:List UInt8) (w:World) (h:w.ownsRow base 5 1 v n (byteVals l)) :
  Calls Tryz.prog 268 #[v] w fun e w'=>e=.returned (.string ⟨l.toArray⟩)∧w=w':=by
 have hcv:=run_string_own (P:=Tryz.prog) (src:=95) (dst:=9) Tryz.underlying95 Tryz.underlying5 Tryz.underlying9 h
 go_enter Tryz.func268,Tryz.ntmps268
 go_wp2
 go_ret
 exact ⟨rfl,rfl⟩
def firstByte (maj info:Nat):UInt8:=UInt8.ofNat (32*maj+info)
def beByte (n k i:Nat):UInt8:=UInt8.ofNat (n / 2 ^ (8*(k - 1 - i)))
theorem beByte_eq (n k i:Nat):((n:Int) / 2 ^ (8*(k - 1 - i)) % 256)=((beByte n k i).toNat:Int):=by
 unfold beByte
 rw [UInt8.toNat_ofNat',Int.natCast_emod,Int.natCast_ediv,Int.natCast_pow]
 rfl
def beBytes (n k:Nat):List UInt8:=(List.range k).map (beByte n k)
def leastN (n:Nat):Nat×Nat:=((leastOf n).1.toNat,(leastOf n).2.toNat)
def makeL (maj n:Nat):List UInt8:=firstByte maj (leastN n).1::beBytes n (leastN n).2
theorem bits_first (maj info:Nat) (h:maj≤7) (hi:info≤31):bits BinOp.or IntKind.i64 ((maj:Int)*32) (info:Int) % 256=((firstByte maj info).toNat:Int):=by
 have:∀ m:Fin 8,∀ i:Fin 32,bits BinOp.or IntKind.i64 (((m.val:Nat):Int)*32) ((i.val:Nat):Int) % 256=((firstByte m.val i.val).toNat:Int):=by decide +kernel
 exact this ⟨maj,by omega⟩ ⟨info,by omega⟩
set_option maxRecDepth 100000 in
set_option maxHeartbeats 400000 in
theorem head_Make (maj n:Nat) (hmaj:maj≤7) (hn:n<18446744073709551616) (w:World) :
  Calls Tryz.prog 244 #[.int .i64 maj,.int .u64 n] w fun e w'=>e=.returned (.tuple #[.string ⟨(makeL maj n).toArray⟩,.int .i64 0])∧Below w.heap.size w w':=by
 have hlc:=leastOf_cases n (by omega)
 obtain ⟨info,hinfo⟩:∃ info:Nat,(leastOf n).1=info:=⟨(leastOf n).1.toNat,by omega⟩
 obtain ⟨k,hk⟩:∃ k:Nat,(leastOf n).2=k:=⟨(leastOf n).2.toNat,by omega⟩
 have hl:=head_least n (by omega) (by omega)
 have hmk:makeL maj n=firstByte maj info::beBytes n k:=by simp [makeL,leastN,hinfo,hk]
 rw [hmk]
 rw [hinfo,hk]at hlc hl
 have hf:=bits_first maj info hmaj (by omega)
 have HL:=Lib.hid hl
 have HF:=Lib.hid hf
 clear hl hf hinfo hk hmk
 have hkb:k≤8:=by omega
 have hib:info≤27:=by omega
 clear hlc
 obtain ⟨i0,hi,hz0,hz1,hz2⟩:=info_parts Tryz.info8
 go_enter Tryz.func244,Tryz.ntmps244
 go_wp2_with (go_at_call 267; refine (HL.out _).mono ?_; rintro e w1 ⟨rfl,hb1⟩)
 have hown0:((w1.alloc (Obj.cells #[Value.int IntKind.i64 ↑info,Value.int IntKind.i64 ↑k] 229)).alloc (Obj.cells #[Value.int IntKind.u8 (bits BinOp.or IntKind.i64 ((maj:Int)*32) ↑info % 256)] 5)).ownsRow w.heap.size 5 1 (.slice (some ⟨w1.heap.size+1,0,none⟩) 1 1) 1 (byteVals [firstByte maj info]):=by
  rw [HF.out]
  have:=World.ownsRow_lit (base:=w.heap.size) (e:=5) (size:=1) (w1.alloc (Obj.cells #[Value.int IntKind.i64 ↑info,Value.int IntKind.i64 ↑k] 229)) #[Value.int IntKind.u8 ↑(firstByte maj info).toNat] 1 (by have:=hb1.size; simp; omega) (by decide) rfl
  simpa [byteVals] using this
 go_loopw [7,8] (fun v i wr=>∃ j:Nat,j≤k∧i=.int .i64 ((k:Int) - 1 - j)∧wr.ownsRow w.heap.size 5 1 v (1+j) (byteVals (firstByte maj info::(beBytes n k).take j))∧Below w.heap.size w wr) (fun _ i _=>(intOf i+1).toNat)
 case atStart=>exact ⟨0,by omega,by simp,by simpa using hown0,(hb1.alloc hb1.size _).alloc (by have:=hb1.size; simp; omega) _⟩
 case round =>
  obtain ⟨j,hj,rfl,hown,hbw⟩:=hrel
  by_cases hlt:j<k
  ·have HB:=Lib.hid (beByte_eq n k j)
   have hbz:=hbw.size
   have HT:=Lib.hid (show byteVals (firstByte maj info::(beBytes n k).take j)++[Value.int .u8 ((beByte n k j).toNat:Int)]=byteVals (firstByte maj info::(beBytes n k).take (j+1)) by
    rw [List.take_succ_eq_append_getElem (by simp [beBytes]; omega)]; simp [byteVals,beBytes])
   go_wp2_with (at_builtin; refine wpList_append_own _ rfl _ _ 95 rfl w.heap.size 5 i0 (.int .u8 0) 1 1 Tryz.underlying95 hi hz0 hz1 hz2 rfl (by decide) _ _ _ rfl (hown.alloc _) ⟨wr.heap.size,0,none⟩ 1 1 [.int .u8 ((n:Int) / 2 ^ (8*(k - 1 - j)) % 256)] rfl rfl (cell_one_new _ _ _) (by simp [Value.oneCell']) (by unfold maxLen; omega) (by omega) (by simp; omega) ?_; intro v' w2 hown2 hgrow _)
   have hbw2:Below w.heap.size w w2:=(hbw.alloc (by omega) _).grown hgrow (by simp; omega) (fun q e=>(hown.lt q e).1)
   rw [HB.out,HT.out]at hown2
   go_roundw
   case rel=>exact ⟨j+1,by omega,by go_num,by rw [show 1+(j+1)=1+j+1 by omega]; exact hown2,hbw2⟩
   case measure=>simp [intOf]; omega
  ·obtain rfl:j=k:=by omega
   rw [List.take_of_length_le (by simp [beBytes])]at hown
   go_wp2_with (go_at_call 268; refine (head_bytes _ _ _ _ _ hown).mono ?_; rintro e w2 ⟨rfl,rfl⟩)
   go_ret2
   exact ⟨rfl,hbw⟩
end Go.Proofs.YtonihophanmaaaaGreatDoor
namespace Go.Proofs.YtonihophanmaaaaGreatDoor
def beVal (l:List UInt8):Nat:=l.foldl (fun a b=>a*256+b.toNat) 0
structure ReadR where
 maj:Nat
 info:Nat
 arg:Nat
 rest:List UInt8
 err:Nat
def readL (l:List UInt8):ReadR:=
 match l with
 | []=>⟨0,0,0,[],100⟩
 | b::r =>
  if b.toNat % 32<24 then ⟨b.toNat / 32,b.toNat % 32,b.toNat % 32,r,0⟩
  else if b.toNat % 32=31 then ⟨b.toNat / 32,31,0,r,0⟩
  else if 27<b.toNat % 32 then ⟨0,0,0,l,101⟩
  else if r.length<2 ^ (b.toNat % 32 - 24) then ⟨0,0,0,l,100⟩
  else ⟨b.toNat / 32,b.toNat % 32,beVal (r.take (2 ^ (b.toNat % 32 - 24))),r.drop (2 ^ (b.toNat % 32 - 24)),0⟩
theorem beVal_snoc (l:List UInt8) (b:UInt8):beVal (l++[b])=beVal l*256+b.toNat:=by simp [beVal]
end Go.Proofs.YtonihophanmaaaaGreatDoor
