/- The texts UtfM, UtfN, Dig, RefB, RefN, Spec, Num, put together. -/
import Derived.Test.YtfckekaegjjmkaaGreatDoorPh08
import Derived.Outline
import Derived.Deep.RegionHeld3
import Derived.Test.YtfckekaegjjmkaaGreatDoorPh01
import Derived.Lib.SmallJoins
import Derived.Lib.Strings
import Derived.Lib.AtoiAll
import Derived.Lib.ItoaNum
import Derived.BigRegion
import Derived.RegionTactic
import Derived.Deep.QuietTactic
import Derived.Test.YtfckekaegjjmkaaGreatDoorPh02
import Derived.Test.YtfckekaegjjmkaaGreatDoorPh03
import Derived.Lib.ValidU
namespace Go.Proofs.YtfckekaegjjmkaaGreatDoor
open Go.RowKit Go.Shelf
attribute [local go_sem] Oper.semAt_some wide_fn wide_depth

def UnqI (n E b:Nat) (w:World) (pre:List Part) (W:World):Prop:=(∀ e,.error e ∉ pre) ∧ (IsB (n + 1) b (Lib.byteCells (partBytes pre)) W ∧ Blk W E #[.nilIface] 62 ∧ Blk W (b + 1) #[.pointer (some ⟨n,0,none⟩)] 219) ∧ Below n w W
def UnqX (n E:Nat) (aT aQ:Addr) (w:World) (c:Code) (pre:List Part) (W:World):Prop:=(c=.exit 0 ∧ ∃ xs e,pre=xs ++ [.error e] ∧ Blk W E #[errV (if e then aT else aQ)] 62) ∧ Below n w W
def UnqA (aT aQ:Addr) (m:Nat) (T:Array Value) (pre:List Part) (x:Part) (a':Act) (_:World):Prop:=((pre ++ [x]).length ≤ m + 1 ∧ ∀ v,.ok v ∈ pre ++ [x] → charOk v) ∧ match x with
 | .ok v=>a'={ tmps:=(((T.setIfInBounds 47 (.int .i32 (v:Int))).setIfInBounds 48 .nilIface).setIfInBounds 10 (.int .i32 (v:Int))).setIfInBounds 11 .nilIface,defers:=[] }
 | .error e=>a'={ tmps:=(((T.setIfInBounds 47 (.int .i32 0)).setIfInBounds 48 (errV (if e then aT else aQ))).setIfInBounds 10 (.int .i32 0)).setIfInBounds 11 (errV (if e then aT else aQ)),defers:=[] }
theorem unqI_own (n E b:Nat) (w:World) {m:Nat} (hm:n ≤ m) (hm2:n ≤ w.heap.size):OwnFrom m (UnqI n E b w):=by
 refine fun s X Y row hs hg hr=>⟨hs.1,⟨?_,?_,?_⟩,?_⟩
 ·exact isB_grown hs.2.1.1 hg (fun r e=>.inr (hr r e).2)
 ·exact blk_own _ _ (fun _:Unit=>_) () X Y row hs.2.1.2.1 hg (fun r e=>(hr r e).2)
 ·exact blk_own _ _ (fun _:Unit=>_) () X Y row hs.2.1.2.2 hg (fun r e=>(hr r e).2)
 ·exact ownFrom_below (β:=Unit) hm2 hm () X Y row hs.2.2 hg hr

set_option maxHeartbeats 4000000 in
set_option maxRecDepth 100000 in
theorem utf_Unquote_in {aT aQ:Addr} (s:ByteArray) (w:World) (h:UW w aT aQ) (k:Nat) (hk0:1 ≤ k) (hk:k ≤ s.size) (hs:s.size ≤ 1000000000)
  (hf:firstV aT aQ s=.tuple #[.int .i32 34,.int .i64 k,.nilIface]) :
  Calls Tryz.prog 150 #[.string s] w fun e w'=>Below w.heap.size w w' ∧ match unqL s.size (s.data.toList.drop k) with
   | .error b=>e=.returned (.tuple #[.string ⟨#[]⟩,.string s,.int .i64 (if b then 20 else 21)])
   | .ok (t,r)=>e=.returned (.tuple #[.string ⟨t.toArray⟩,.string ⟨r.toArray⟩,.int .i64 0]):=by
 have hU0:UWB w.heap.size (w.alloc (.cells #[.string s] 223)) aT aQ:=(UWB.of h).to ((Below.refl _ w).alloc (Nat.le_refl _) _)
 have hp0:Rd (w.alloc (.cells #[.string s] 223)) w.heap.size s:=Blk.new _ _ _
 have HF:=Lib.hid (utf_first s w.heap.size _ hU0.uw hp0)
 rw [hf] at HF
 have hb0:Below w.heap.size w (w.alloc (.cells #[.string s] 223)):=(Below.refl _ w).alloc (Nat.le_refl _) _
 have k1:=built_left s
 have k2:=built_reader s
 have z1:(k:Int) ≤ s.size:=by omega
 have z2:(0:Int) ≤ k:=by omega
 have hfu:(s.data.toList.drop k).length < s.size:=by
  rw [List.length_drop]
  have:s.data.toList.length=s.size:=by simp
  omega
 clear hf hk hk0
 refine calls_of_marks Tryz.func150 rfl ?_
 simp only [Tryz.ntmps150,List.size_toArray,List.length_cons,List.length_nil,Nat.reduceAdd,Nat.reduceSub,Array.replicate_succ,Array.replicate_zero,List.push_toArray,List.append_toArray,List.nil_append,List.cons_append]
 go_wp2_with fail
 go_step3
 go_wp2_with fail
 refine HF.out.mono ?_
 rintro e w1 ⟨rfl,hb1⟩
 have hU1:UWB w.heap.size w1 aT aQ:=hU0.to (hb1.mono (by simp))
 have hb01:=hb0.trans (hb1.mono (by simp))
 have hp1:Rd w1 w.heap.size s:=hp0.below hb1 hp0.lt
 have hpE:Rd (w1.alloc (.cells #[.nilIface] 62)) w.heap.size s:=hp1.alloc _
 have hcp:=hpE.cell 0
 have hfp:=hpE.frozen 0
 clear hb0 hb1 hU0 hp0 HF
 obtain ⟨r,hr⟩:∃ r,s.extract k s.size=r:=⟨_,rfl⟩
 have hrl:=extract_list s k
 rw [hr] at hrl
 have HR:=Lib.hid hr
 have HRL:=Lib.hid hrl
 clear hr hrl
 go_wp2_with fail
 go_step3
 go_wp2_with fail
 rw [HR.out]
 have hn1:w.heap.size < w1.heap.size:=hp1.lt
 have hbE:Blk (w1.alloc (.cells #[.nilIface] 62)) w1.heap.size #[.nilIface] 62:=Blk.new _ _ _
 have hzS:((w1.alloc (.cells #[.nilIface] 62)).setCell ⟨w.heap.size,0,none⟩ (.string r)).heap.size=w1.heap.size + 1:=by simp [World.setCell]
 have hpS:=hpE.put r
 have hbS:=hbE.other (by omega:w1.heap.size ≠ w.heap.size) 0 (.string r)
 have hB1:=hb01.alloc hU1.le (.cells #[.nilIface] 62)
 have hBS:=hB1.setCell (p:=⟨w.heap.size,0,none⟩) (Nat.le_refl _) (.string r)
 generalize (w1.alloc (.cells #[.nilIface] 62)).setCell ⟨w.heap.size,0,none⟩ (.string r)=wS at hzS hpS hbS hBS ⊢
 clear hpE hbE hcp hfp hp1 hB1
 refine (utf_parts _ _).mono ?_
 rintro e w3 ⟨rfl,hw3⟩
 have hz3:w3.heap.size=w1.heap.size + 3:=by rw [← hw3]; simp [hzS]
 have hp3:Rd w3 w.heap.size r:=by rw [← hw3]; exact (hpS.alloc _).alloc _
 have hE3:Blk w3 w1.heap.size #[.nilIface] 62:=by rw [← hw3]; exact (hbS.alloc _).alloc _
 have hI3:IsB (w.heap.size + 1) (w1.heap.size + 1) [] w3:=by
  refine .inl ⟨by omega,.slice none 0 0,?_,World.ownsRowF_nil _ _ _ _,by simp [Value.ownBlock]⟩
  have:=(Blk.new wS #[.pointer none,.slice none 0 0] 81).alloc (.cells #[.pointer (some ⟨w.heap.size,0,none⟩)] 219)
  rw [hzS] at this
  rw [← hw3]
  exact this
 have hC3:Blk w3 (w1.heap.size + 2) #[.pointer (some ⟨w.heap.size,0,none⟩)] 219:=by
  have:=Blk.new (wS.alloc (.cells #[.pointer none,.slice none 0 0] 81)) #[.pointer (some ⟨w.heap.size,0,none⟩)] 219
  rw [World.size_alloc,hzS] at this
  rw [← hw3]
  exact this
 have hB3:Below w.heap.size w w3:=by rw [← hw3]; exact (hBS.alloc (by omega) _).alloc (by simp; omega) _
 have hU3:UWB w.heap.size w3 aT aQ:=⟨w,rfl,h,hB3⟩
 clear hpS hbS hBS hw3
 rw [World.size_alloc,hzS]
 clear hzS
 go_wp2_with fail
 refine wp_rangeFuncW (gf:=216) (lb:=#[.pointer (some ⟨w1.heap.size + 2,0,none⟩)]) rfl (enters_of Tryz.func216 (by kernel_rfl) rfl)
  (utf_parts_seq w.heap.size w.heap.size (w1.heap.size + 2) aT aQ r (Nat.le_refl _) (by omega)) ?hMv ?hA0 ?hKt ?hKb ?hps (UnqI w.heap.size w1.heap.size (w1.heap.size + 1) w) (UnqX w.heap.size w1.heap.size aT aQ w) ?hI ?hIx ?hIM ?hIxM ?h0 ?hCt
  (UnqA aT aQ r.size) ?hAx ?assign ?body ?hS ?hSp ?done ?stop
 case hMv =>
  intro A B k o hM hk ho _
  exact (hM.block k (Array.getElem?_eq_some_iff.1 ho).1 (fun e=>by cases e; omega)).trans ho
 case hA0 =>
  intro o o'
  exact ⟨hU3.to (((Below.refl _ w3).alloc (by omega) o).alloc (by simp; omega) o'),(hp3.alloc o).alloc o',(hC3.alloc o).alloc o'⟩
 case hKt =>
  intro A B C h1 h2
  have hz:=h1.1.size
  exact ⟨h1.1.trans h2.1,fun hp=>(h2.2.1 (by omega)).trans (h1.2.1 hp),fun hp=>(h2.2.2 (by omega)).trans (h1.2.2 hp)⟩
 case hKb =>
  intro W l o o' hl ho hc
  have hlt:=(Array.getElem?_eq_some_iff.1 ho).1
  exact ⟨(Below.refl _ W).grown (grownBy_putObj' W l o') (by omega) (fun k e=>by cases e; omega),fun _=>World.putObj_heap_other (by omega),fun _=>World.putObj_heap_other (by omega)⟩
 case hps =>
  intro x
  cases x <;> rfl
 case hI=>exact unqI_own _ _ _ _ (by omega) (Nat.le_refl _)
 case hIx =>
  intro c
  refine OwnFrom.and (Go.Own.from ?_ _) (ownFrom_below (by omega) (by omega))
  rintro s' X Y row ⟨h1,xs,e,hx,h2⟩ hg hr
  exact ⟨h1,xs,e,hx,blk_own _ _ (fun _:Unit=>_) () X Y row h2 hg hr⟩
 case hIM =>
  rintro s' X Y ⟨h1,⟨h2,h3,h5⟩,h4⟩ hg
  have hz:=h4.size
  refine ⟨h1,⟨isB_grown h2 hg (fun r e=>by cases e; exact .inl (by omega)),h3.kept hg (fun e=>by simp only [Option.some.injEq] at e; omega),h5.kept hg (fun e=>by simp only [Option.some.injEq] at e; omega)⟩,h4.grown hg (by omega) (fun k e=>by cases e; omega)⟩
 case hIxM =>
  rintro c s' X Y ⟨⟨h1,xs,e,hx,h2⟩,h4⟩ hg
  have hz:=h4.size
  exact ⟨⟨h1,xs,e,hx,h2.kept hg (fun e=>by simp only [Option.some.injEq] at e; omega)⟩,h4.grown hg (by omega) (fun k e=>by cases e; omega)⟩
 case h0=>exact ⟨by simp,⟨hI3,hE3,hC3⟩,hB3⟩
 case hCt =>
  rintro pre x W ⟨h1,_⟩
  cases x with
  | ok y=>exact ⟨y,rfl⟩
  | error e=>exact absurd (List.mem_append_right _ (List.mem_singleton.2 rfl)) (h1 e)
 case hAx =>
  intro pre x a' _ X Y row hs _ _
  exact hs
 case hS =>
  rintro s' X Y row ⟨l,r',h1,h2,h3⟩ hg hr
  exact ⟨l,r',h1,h2,blk_own _ _ (fun _:Unit=>_) () X Y row h3 hg (fun r e=>(hr r e).2)⟩
 case hSp =>
  intro s' X Y row hs _ _
  exact hs
 case assign =>
  rintro l pre x W K hI hT hK
  have HK:=Lib.hid hK
  have HI:=Lib.hid hI
  have HT:=Lib.hid hT
  clear hK hI hT
  cases x with
  | ok v =>
   simp only [partEnc]
   gi_wp2
   exact HK.out _ _ (KeepsFrom.refl _ _) ⟨Below.refl _ _,fun _=>rfl,fun _=>rfl⟩ HI.out ⟨HT.out,rfl⟩
  | error e =>
   simp only [partEnc]
   cases e with
   | true =>
    gi_wp2
    exact HK.out _ _ (KeepsFrom.refl _ _) ⟨Below.refl _ _,fun _=>rfl,fun _=>rfl⟩ HI.out ⟨HT.out,rfl⟩
   | false =>
    gi_wp2
    exact HK.out _ _ (KeepsFrom.refl _ _) ⟨Below.refl _ _,fun _=>rfl,fun _=>rfl⟩ HI.out ⟨HT.out,rfl⟩
 case body =>
  rintro l pre x a' W hl _ ⟨h1,⟨h2,h3,h5⟩,h4⟩ ⟨⟨hlen,hch⟩,ha⟩
  have hz:=h4.size
  have hbz:=h3.lt
  have hcE:=h3.cell 0
  have hfE:=h3.frozen 0
  cases x with
  | ok v =>
   obtain rfl:=ha
   simp only [List.setIfInBounds_toArray,List.set_cons_zero,List.set_cons_succ]
   have hI2:=isB_set h2 h3 (by omega:w1.heap.size ≠ w1.heap.size + 1) (by decide) 0 .nilIface
   have hb2:=partBytes_len pre
   have hlen2:(Lib.byteCells (partBytes pre)).length + 4 ≤ 140737488355328:=by
    rw [Lib.byteCells_length]
    simp only [List.length_append,List.length_singleton] at hlen
    have:=HRL.out
    have e1:r.data.toList.length=r.size:=by simp
    have e2:s.data.toList.length=s.size:=by simp
    rw [this,List.length_drop] at e1
    omega
   have hv:(v:Int) ≤ 2147483647:=by
    have:=charOk_le (hch v (List.mem_append_right _ (List.mem_singleton.2 rfl)))
    omega
   have HCH:=Lib.hid hch
   clear hch
   have HW:=Lib.hid (b_WriteRune (w.heap.size + 1) (w1.heap.size + 1) _ v (by omega) hv _ hI2 hlen2 (by simp [World.setCell]; omega))
   gi_wp2_with fail
   refine (show CallsIn (Fence.wide.inRound l) 6 _ _ _ _ _ from (callsIn_wide.2 HW.out:CallsIn Fence.wide 6 _ _ _ _ _)).mono ?_
   rintro e W1 ⟨rfl,hA1,hb1,hk1⟩
   have hz1:=hb1.size
   simp only [World.setCell,Array.size_modify] at hz1
   have hE1:Blk W1 w1.heap.size #[.nilIface] 62:=others_blk hk1 ((h3.set 0 .nilIface):Blk _ _ #[.nilIface] _) (by omega) (by decide)
   have hC1:=others_blk hk1 (h5.other (by omega:w1.heap.size + 1 + 1 ≠ w1.heap.size) 0 .nilIface) (by omega) (by decide)
   gi_wp2_with fail
   refine ⟨(KeepsOthers.setCell W _ _).from _ |>.trans (others_from hk1 hb1.size hI2),⟨?_,?_,?_⟩,⟨?_,⟨?_,hE1,hC1⟩,?_⟩⟩
   ·exact ((Below.refl _ W).setCell (by simp; omega) _).trans (hb1.mono (by omega))
   ·intro hp
    exact (hb1.block w.heap.size (by omega)).trans (Below.heap_setCell _ _ _ _ (by simp; omega))
   ·intro hp
    exact hC1.trans h5.symm
   ·intro e he
    rcases List.mem_append.1 he with q | q
    ·exact h1 e q
    ·cases List.mem_singleton.1 q
   ·rw [partBytes_snoc,Lib.byteCells_append,Lib.byteCells_encodeRune]
    exact hA1.is
   ·exact (h4.setCell (by simp; omega) _).trans (hb1.mono (by omega))
  | error e =>
   obtain rfl:=ha
   simp only [List.setIfInBounds_toArray,List.set_cons_zero,List.set_cons_succ]
   cases e with
   | true =>
    gi_wp2_with fail
    exact ⟨(KeepsOthers.setCell W _ _).from _,⟨rfl,pre,true,rfl,h3.set 0 _⟩,h4.setCell (by simp; omega) _⟩
   | false =>
    gi_wp2_with fail
    exact ⟨(KeepsOthers.setCell W _ _).from _,⟨rfl,pre,false,rfl,h3.set 0 _⟩,h4.setCell (by simp; omega) _⟩
 case done =>
  rintro D xs W hD ⟨l,r',hst,hnx,hp⟩ ⟨h1,⟨h2,h3,h5⟩,h4⟩ hK
  have hq:=hst.unq_end hnx (f:=s.size) (by rw [HRL.out]; exact hfu)
  rw [HRL.out] at hq
  have HQ:=Lib.hid hq
  clear hq hst hnx
  have hcE:=h3.cell 0
  have hcp:=hp.cell 0
  have HS:=Lib.hid (fun (W:World) (h2:IsB (w.heap.size + 1) (w1.heap.size + 1) (Lib.byteCells (partBytes xs)) W) (hz:w.heap.size + 1 ≤ W.heap.size)=>Tryz.Builder_String_any_k (w.heap.size + 1) (w1.heap.size + 1) (partBytes xs) W h2 hz)
  have hzW:w.heap.size + 1 ≤ W.heap.size:=hp.lt
  have H2:=Lib.hid h2
  have HK:=Lib.hid hK
  have hDb:w1.heap.size + 1 < D:=by omega
  have hDn:w.heap.size ≤ D:=by omega
  clear hz3 hp3 hE3 hI3 hC3 hB3 hU3 hU1 hb01 h1 h2 h3 h5 hK hD hn1 k1 k2 h hp
  go_wp2_with fail
  go_region_held3 (fun w'=>w'.cell? ⟨w.heap.size,0,none⟩=some (.string ⟨r'.toArray⟩)) (go_keep)
   (first | (go_at_call 47; refine (HS.out W.drew H2.out hzW).mono ?_; rintro e w4 ⟨rfl,_,hb4,hk4⟩; have hc4:w4.cell? ⟨w.heap.size,0,none⟩=some (.string ⟨r'.toArray⟩):=(hb4.cell (p:=⟨w.heap.size,0,none⟩) (Nat.lt_succ_self _)).trans hcp))
  have hK4:w4.heap[D]? = some (.deferred (some [])):=hk4 D _ HK.out (fun e=>by simp only [Option.some.injEq] at e; omega) (fun c fz e=>by cases e)
  have hz4:=hb4.size
  have hz4':W.drew.heap.size=W.heap.size:=rfl
  have hw4:Below w.heap.size w w4:=(h4.trans (below_drewN (Below.refl _ _) 1)).trans (hb4.mono (by omega))
  have HK4:=Lib.hid hK4
  clear hK4 hk4 hcE hcp HK H2 HS hb4 h4
  go_wp2_with fail
  rw [Exit.noGoto_ret]
  refine leave1 (v:=.tuple #[.string ⟨(partBytes xs).toArray⟩,.string ⟨r'.toArray⟩,.int .i64 0]) HK4.out (by simp [results,Tryz.results150,go_sem]) rfl ⟨below_shut hw4 hDn (by omega) _,?_⟩
  rw [HQ.out]
 case stop =>
  rintro D c pre W hD hsp ⟨⟨rfl,xs,e,rfl,h3⟩,h4⟩ hK
  have hq:unqL s.size r.data.toList=.error e:=by
   rcases hsp with ⟨ys,b,l,hy,hst,hnx⟩ | ⟨l,hst⟩
   ·obtain ⟨rfl,h⟩:=List.append_inj' hy rfl
    cases h
    exact hst.unq_error hnx (by rw [HRL.out]; exact hfu)
   ·exact absurd (List.mem_append_right _ (List.mem_singleton.2 rfl)) (hst.ok e)
  rw [HRL.out] at hq
  have HQ:=Lib.hid hq
  have hcE:=h3.cell 0
  have hU:=h.below h4
  clear hq hsp
  have hDn:w.heap.size ≤ D:=by omega
  have hz4:=h4.size
  have HK:=Lib.hid hK
  clear hK hz3 hp3 hE3 hI3 hC3 hB3 hU3 hU1 hb01 k1 k2 h hD hn1
  cases e with
  | true =>
   have HT:=Lib.hid (told_text W hU)
   simp only [if_true] at h3 hcE
   go_wp2_with fail
   refine HT.out.mono ?_
   rintro e W' ⟨rfl,hW⟩
   obtain rfl:W=W':=hW
   go_wp2_with fail
   rw [Exit.noGoto_ret]
   refine leave1 (v:=.tuple #[.string ⟨#[]⟩,.string s,.int .i64 20]) HK.out (by simp [results,Tryz.results150,go_sem]) rfl ⟨below_shut h4 hDn (by omega) _,?_⟩
   rw [HQ.out]
   rfl
  | false =>
   have HT:=Lib.hid (told_quote W hU)
   simp only [Bool.false_eq_true,if_false] at h3 hcE
   go_wp2_with fail
   refine HT.out.mono ?_
   rintro e W' ⟨rfl,hW⟩
   obtain rfl:W=W':=hW
   go_wp2_with fail
   rw [Exit.noGoto_ret]
   refine leave1 (v:=.tuple #[.string ⟨#[]⟩,.string s,.int .i64 21]) HK.out (by simp [results,Tryz.results150,go_sem]) rfl ⟨below_shut h4 hDn (by omega) _,?_⟩
   rw [HQ.out]
   rfl
end Go.Proofs.YtfckekaegjjmkaaGreatDoor
namespace Go.Proofs.YtfckekaegjjmkaaGreatDoor
open Go.RowKit Go.Shelf

theorem utf_Unquote {aT aQ:Addr} (s:ByteArray) (w:World) (h:UW w aT aQ) (hs:s.size ≤ 1000000000) :
  Calls Tryz.prog 150 #[.string s] w (UnqPost s w):=by
 have hbad:∀ b:Bool,unquoteL s.data.toList=.error b → firstV aT aQ s=.tuple #[.int .i32 0,.int .i64 0,errV (if b then aT else aQ)] → Calls Tryz.prog 150 #[.string s] w (UnqPost s w):=fun b hb hf=>by
  refine (utf_Unquote_no s w h b hf).mono ?_
  rintro e w' ⟨rfl,hw⟩
  refine ⟨hw,?_⟩
  rw [hb]
 by_cases h0:s.size=0
 ·refine hbad false ?_ ?_
  ·rw [str_empty h0]
   rfl
  ·unfold firstV
   rw [if_pos h0]
   rfl
 ·have hne:=list_ne h0
  have hdec:=decodeGo_list h0
  by_cases h1:Lib.decodeL s.data.toList=(65533,1)
  ·refine hbad true ?_ ?_
   ·unfold unquoteL
    rw [if_neg hne,if_pos h1]
   ·unfold firstV
    rw [if_neg h0,hdec,if_pos h1]
    rfl
  ·have hf:firstV aT aQ s=.tuple #[.int .i32 (Lib.decodeL s.data.toList).1,.int .i64 (Lib.decodeL s.data.toList).2,.nilIface]:=by
    unfold firstV
    rw [if_neg h0,hdec,if_neg h1]
   by_cases h2:(Lib.decodeL s.data.toList).1=34
   ·have hle:=Lib.decodeL_le _ hne
    have hlen:s.data.toList.length=s.size:=by simp
    rw [hlen] at hle
    rw [h2] at hf
    refine (utf_Unquote_in s w h _ (Lib.decodeL_width _) hle hs hf).mono ?_
    rintro e w' ⟨hw,hm⟩
    refine ⟨hw,?_⟩
    unfold unquoteL
    rw [if_neg hne,if_neg h1,if_neg (fun e=>e h2),hlen]
    exact hm
   ·refine (utf_Unquote_else s w h _ _ h2 hf).mono ?_
    rintro e w' ⟨rfl,hw⟩
    refine ⟨hw,?_⟩
    unfold unquoteL
    rw [if_neg hne,if_neg h1,if_pos h2]
    rfl
end Go.Proofs.YtfckekaegjjmkaaGreatDoor
namespace Go.Proofs.YtfckekaegjjmkaaGreatDoor
open Go.RowKit Go.Shelf

def isDig (b:UInt8):Bool:=decide (48 ≤ b.toNat) && decide (b.toNat ≤ 57)
def digN (l:List UInt8):Nat:=(l.takeWhile isDig).length
theorem digN_cons_yes {b:UInt8} {l:List UInt8} (h:isDig b=true):digN (b :: l)=digN l + 1:=by
 unfold digN
 rw [List.takeWhile_cons_of_pos h]
 rfl
theorem digN_cons_no {b:UInt8} {l:List UInt8} (h:isDig b=false):digN (b :: l)=0:=by
 unfold digN
 rw [List.takeWhile_cons_of_neg (by rw [h]; decide)]
 rfl
def dval:Nat → List UInt8 → Nat
 | acc,[]=>acc
 | acc,c :: r=>dval (acc * 10 + (c.toNat - 48)) r
theorem dval_ge:∀ (l:List UInt8) (acc:Nat),acc ≤ dval acc l
 | [],acc=>Nat.le_refl _
 | c :: r,acc=>by
  have:=dval_ge r (acc * 10 + (c.toNat - 48))
  show acc ≤ dval (acc * 10 + (c.toNat - 48)) r
  omega
theorem parse_digits:∀ (l:List UInt8) (acc:Nat),acc < 18446744073709551616 → (∀ c ∈ l,isDig c=true) → Lib.parseUint10 acc l=if dval acc l < 18446744073709551616 then .ok (dval acc l) else .range
 | [],acc,ha,_=>by
  show Lib.NumEnd.ok acc=_
  rw [if_pos (show dval acc [] < _ from ha)]
  rfl
 | c :: r,acc,ha,h=>by
  have hc:=h c List.mem_cons_self
  unfold isDig at hc
  rw [Bool.and_eq_true,decide_eq_true_iff,decide_eq_true_iff] at hc
  have hge:=dval_ge r (acc * 10 + (c.toNat - 48))
  have hd:dval acc (c :: r)=dval (acc * 10 + (c.toNat - 48)) r:=rfl
  rw [hd]
  unfold Lib.parseUint10
  rw [if_pos hc]
  by_cases h1:1844674407370955162 ≤ acc
  ·rw [if_pos h1,if_neg (by omega)]
  ·rw [if_neg h1]
   by_cases h2:18446744073709551616 ≤ acc * 10 + (c.toNat - 48)
   ·rw [if_pos h2,if_neg (by omega)]
   ·rw [if_neg h2]
    exact parse_digits r _ (by omega) (fun x hx=>h x (List.mem_cons_of_mem _ hx))
theorem atoi_digits {l:List UInt8} (hne:l ≠ []) (h:∀ c ∈ l,isDig c=true):Lib.atoiAll l=if dval 0 l < 9223372036854775808 then .ok (dval 0 l:Int) else .range:=by
 cases l with
 | nil=>exact absurd rfl hne
 | cons c r =>
  have hc:=h c List.mem_cons_self
  unfold isDig at hc
  rw [Bool.and_eq_true,decide_eq_true_iff,decide_eq_true_iff] at hc
  have hp:=parse_digits (c :: r) 0 (by decide) h
  unfold Lib.atoiAll Lib.parseMag
  simp only []
  rw [if_neg (by omega:¬ (c.toNat=43 ∨ c.toNat=45)),if_neg (by simp),hp]
  by_cases h1:dval 0 (c :: r) < 18446744073709551616
  ·rw [if_pos h1]
   simp only []
   by_cases h2:dval 0 (c :: r) < 9223372036854775808
   ·rw [if_neg (by omega),if_neg (by omega),if_neg (by omega),if_pos h2]
   ·rw [if_pos ⟨by omega,by omega⟩,if_neg h2]
  ·rw [if_neg h1,if_neg (by omega)]
theorem takeWhile_all (l:List UInt8):∀ c ∈ l.take (digN l),isDig c=true:=by
 intro c hc
 have e:l.take (digN l)=l.takeWhile isDig:=(List.prefix_iff_eq_take.1 (List.takeWhile_prefix isDig)).symm
 rw [e] at hc
 exact List.all_eq_true.1 (List.all_takeWhile) c hc
theorem dval_append:∀ (l:List UInt8) (acc:Nat) (c:UInt8),dval acc (l ++ [c])=dval acc l * 10 + (c.toNat - 48)
 | [],_,_=>rfl
 | b :: l,acc,c=>dval_append l (acc * 10 + (b.toNat - 48)) c
theorem digit_byte (d:Nat) (h:d < 10):(UInt8.ofNat (48 + d)).toNat=48 + d:=by
 rw [UInt8.toNat_ofNat']
 omega
theorem dec_facts (u:Nat):dval 0 (Lib.decDigits u)=u ∧ (∀ c ∈ Lib.decDigits u,isDig c=true) ∧ Lib.decDigits u ≠ []:=by
 induction u using Nat.strongRecOn with
 | _ u ih =>
  by_cases h:u < 10
  ·rw [Lib.decDigits_one h]
   refine ⟨?_,?_,by simp⟩
   ·show 0 * 10 + ((UInt8.ofNat (48 + u)).toNat - 48)=u
    rw [digit_byte u h]
    omega
   ·intro c hc
    rw [List.mem_singleton.1 hc]
    unfold isDig
    rw [digit_byte u h,Bool.and_eq_true,decide_eq_true_iff,decide_eq_true_iff]
    omega
  ·obtain ⟨h1,h2,h3⟩:=ih (u / 10) (by omega)
   rw [Lib.decDigits,dif_neg h]
   refine ⟨?_,?_,by simp⟩
   ·rw [dval_append,h1,digit_byte _ (by omega)]
    omega
   ·intro c hc
    rcases List.mem_append.1 hc with q | q
    ·exact h2 c q
    ·rw [List.mem_singleton.1 q]
     unfold isDig
     rw [digit_byte _ (by omega),Bool.and_eq_true,decide_eq_true_iff,decide_eq_true_iff]
     omega
theorem digN_all:∀ (l t:List UInt8),(∀ c ∈ l,isDig c=true) → digN t=0 → digN (l ++ t)=l.length
 | [],t,_,ht=>ht
 | c :: l,t,h,ht=>by
  show digN (c :: (l ++ t))=_
  rw [digN_cons_yes (h c List.mem_cons_self),digN_all l t (fun x hx=>h x (List.mem_cons_of_mem _ hx)) ht,List.length_cons]
theorem head_append {l t:List UInt8} (h:l ≠ []):(l ++ t).head? = l.head? := by
 cases l with
 | nil=>exact absurd rfl h
 | cons c l=>rfl
theorem dec_head0:∀ (n u:Nat),u ≤ n → 0 < u → (Lib.decDigits u).head? ≠ some 48
 | 0,u,h0,h1=>by omega
 | n + 1,u,h0,h1=>by
  by_cases h:u < 10
  ·rw [Lib.decDigits_one h,List.head?_cons]
   intro e
   have:=congrArg UInt8.toNat (Option.some.inj e)
   rw [digit_byte u h] at this
   have h48:(48:UInt8).toNat=48:=rfl
   omega
  ·rw [Lib.decDigits,dif_neg h,head_append (dec_facts (u / 10)).2.2]
   exact dec_head0 n (u / 10) (by omega) (by omega)
end Go.Proofs.YtfckekaegjjmkaaGreatDoor
namespace Go.Proofs.YtfckekaegjjmkaaGreatDoor


theorem isDig_iff {c:UInt8} (h:isDig c=true):48 ≤ c.toNat ∧ c.toNat ≤ 57:=by
 simpa [isDig] using h
theorem dval_lt:∀ (l:List UInt8) (acc:Nat),(∀ c ∈ l,isDig c=true) → dval acc l < (acc + 1) * 10 ^ l.length
 | [],acc,_=>by
  rw [List.length_nil,Nat.pow_zero,Nat.mul_one]
  exact Nat.lt_succ_self acc
 | c :: l,acc,h=>by
  have hc:=isDig_iff (h c List.mem_cons_self)
  have:=dval_lt l (acc * 10 + (c.toNat - 48)) (fun x hx=>h x (List.mem_cons_of_mem _ hx))
  show dval (acc * 10 + (c.toNat - 48)) l < _
  rw [List.length_cons,Nat.pow_succ,Nat.mul_comm (10 ^ _) 10,← Nat.mul_assoc]
  exact Nat.lt_of_lt_of_le this (Nat.mul_le_mul_right _ (by omega))
theorem dval_le:∀ (l:List UInt8) (acc:Nat),acc * 10 ^ l.length ≤ dval acc l
 | [],acc=>by
  rw [List.length_nil,Nat.pow_zero,Nat.mul_one]
  exact Nat.le_refl acc
 | c :: l,acc=>by
  have:=dval_le l (acc * 10 + (c.toNat - 48))
  show _ ≤ dval (acc * 10 + (c.toNat - 48)) l
  rw [List.length_cons,Nat.pow_succ,Nat.mul_comm (10 ^ _) 10,← Nat.mul_assoc]
  exact Nat.le_trans (Nat.mul_le_mul_right _ (by omega)) this


end Go.Proofs.YtfckekaegjjmkaaGreatDoor
namespace Go.Proofs.YtfckekaegjjmkaaGreatDoor
open Go.RowKit Go.Shelf




theorem drop_at (s:ByteArray) (k:Nat) (h:k < s.size):s.data.toList.drop k=s[k] :: s.data.toList.drop (k + 1):=by
 rw [List.drop_eq_getElem_cons (by simpa using h)]
 congr 1


end Go.Proofs.YtfckekaegjjmkaaGreatDoor
namespace Go.Proofs.YtfckekaegjjmkaaGreatDoor
open Go.RowKit Go.Shelf

mutual
def Tr.depth:Tr → Nat
 | .nd _ l=>depthL l + 1
def depthL:List Tr → Nat
 | []=>0
 | t :: l=>max t.depth (depthL l)
end
theorem Tr.depth_eq (t:Tr):t.depth=depthL t.kids + 1:=by
 cases t
 rw [Tr.depth]
 rfl
theorem depthL_append:∀ a b:List Tr,depthL (a ++ b)=max (depthL a) (depthL b)
 | [],b=>by simp [depthL]
 | t :: a,b=>by
  show max t.depth (depthL (a ++ b))=max (max t.depth (depthL a)) (depthL b)
  rw [depthL_append a b]
  omega
theorem depthL_take (l:List Tr) (k:Nat) (hk:k < l.length):depthL (l.take (k + 1))=max (depthL (l.take k)) l[k].depth:=by
 rw [List.take_succ_eq_append_getElem hk,depthL_append]
 simp [depthL]
mutual
theorem depth_count:∀ t:Tr,t.depth ≤ t.count
 | .nd _ l=>by
  rw [Tr.depth,Tr.count]
  have:=depthL_count l
  omega
theorem depthL_count:∀ l:List Tr,depthL l ≤ countL l
 | []=>by simp [depthL]
 | t :: l=>by
  rw [depthL,countL]
  have:=depth_count t
  have:=depthL_count l
  omega
end

def onlyB (o x:Own):Bool:=decide (o={ x with kind:=o.kind })

def natOk (s:ByteArray):Bool:=decide (1 ≤ s.size) && (decide (s.size ≤ 400) && (!(decide (1 < s.size) && decide (s.data.toList.head? = some 48)) && s.data.toList.all isDig))
theorem head_at0 (s:ByteArray) (h:0 < s.size):s.data.toList.head? = some s[0]:=by
 rw [List.head?_eq_getElem?,List.getElem?_eq_getElem (by simpa using h)]
 simp [ByteArray.getElem_eq_getElem_data]

def decOk (neg:Bool) (dg:ByteArray) (ex:Int):Bool:=
 natOk dg && (decide (dg.size ≤ 100) && (if dg.toList=[48] then decide (ex=0) && !neg else decide (-100 ≤ ex) && (decide (ex ≤ 100) && !decide (dg.data.toList.getLast? = some 48))))


def wideOk (u:Int) (wd:Int):Bool:=if wd=64 then true else if wd=16 then decide (u < 65536) else if wd=32 then decide (u < 4294967296) else false

def KeysApart (l:List Tr):Prop:=∀ (i k:Nat) (hi:i < l.length) (hk:k < i),i % 2=0 → k % 2=0 → sameT l[i] (l[k]'(by omega))=false
noncomputable def keysB (l:List Tr):Bool:=@decide (KeysApart l) (Classical.propDecidable _)
noncomputable def ownB (o:Own) (l:List Tr):Bool:=
 if o.kind=1 then decide (l.length=0) && onlyB o zeroO
 else if o.kind=2 then decide (l.length=0) && onlyB o { zeroO with b:=o.b }
 else if o.kind=3 then decide (l.length=0) && (onlyB o { zeroO with neg:=o.neg,dg:=o.dg,ex:=o.ex } && decOk o.neg o.dg o.ex)
 else if o.kind=4 then decide (l.length=0) && (onlyB o { zeroO with u:=o.u,wd:=o.wd } && wideOk o.u o.wd)
 else if o.kind=5 then decide (l.length=0) && (onlyB o { zeroO with s:=o.s } && (decide (o.s.size ≤ 400) && Lib.validD o.s.data.toList))
 else if o.kind=6 then decide (l.length=0) && (onlyB o { zeroO with s:=o.s } && decide (o.s.size ≤ 400))
 else if o.kind=7 then onlyB o zeroO
 else if o.kind=8 then onlyB o zeroO && (decide (l.length % 2=0) && keysB l)
 else if o.kind=9 then decide (l.length=1) && onlyB o { zeroO with u:=o.u }
 else if o.kind=10 then decide (l.length=0) && (onlyB o { zeroO with u:=o.u } && (decide (o.u ≤ 19) || (decide (o.u=23) || (decide (32 ≤ o.u) && decide (o.u ≤ 255)))))
 else if o.kind=11 then decide (l.length=0) && (onlyB o { zeroO with u:=o.u,s:=o.s } && (decide (o.u ≤ 255) && decide (o.s.size ≤ 400)))
 else false

mutual
noncomputable def allB:Tr → Bool
 | .nd o l=>ownB o l && allL l
noncomputable def allL:List Tr → Bool
 | []=>true
 | t :: l=>allB t && allL l
end

noncomputable def rightT (t:Tr):Bool:=decide (t.count ≤ 300) && (decide (t.depth ≤ 16) && allB t)
end Go.Proofs.YtfckekaegjjmkaaGreatDoor
namespace Go.Proofs.YtfckekaegjjmkaaGreatDoor
open Go.RowKit Go.Shelf

def wholeN (dg:ByteArray) (ex:Int):Nat:=dval 0 dg.data.toList * 10 ^ ex.toNat
def toIntD (neg:Bool) (dg:ByteArray) (ex:Int):Option (Bool × Nat):=
 if decOk neg dg ex=true ∧ 0 ≤ ex ∧ ex ≤ 20 ∧ wholeN dg ex < 18446744073709551616 then some (neg,wholeN dg ex) else none

theorem dval_head {l:List UInt8} (hl:l ≠ []) (hd:∀ c ∈ l,isDig c=true) (h0:l.head? ≠ some 48):10 ^ (l.length - 1) ≤ dval 0 l:=by
 cases l with
 | nil=>exact absurd rfl hl
 | cons c r =>
  have hc:=isDig_iff (hd c List.mem_cons_self)
  have hne:c.toNat ≠ 48:=fun e=>h0 (by rw [List.head?_cons,show c=48 from UInt8.toNat_inj.1 e])
  have h1:=dval_le r (0 * 10 + (c.toNat - 48))
  show 10 ^ r.length ≤ dval (0 * 10 + (c.toNat - 48)) r
  refine Nat.le_trans ?_ h1
  have:1 ≤ 0 * 10 + (c.toNat - 48):=by omega
  exact Nat.le_mul_of_pos_left _ this
theorem dval_up {l:List UInt8} (hd:∀ c ∈ l,isDig c=true):dval 0 l < 10 ^ l.length:=by
 have:=dval_lt l 0 hd
 rwa [Nat.zero_add,Nat.one_mul] at this
theorem dec_parts {neg:Bool} {dg:ByteArray} {ex:Int} (h:decOk neg dg ex=true) :
  (dg.data.toList=[48] ∧ ex=0 ∧ neg=false) ∨ (dg.data.toList ≠ [] ∧ (∀ c ∈ dg.data.toList,isDig c=true) ∧ dg.data.toList.head? ≠ some 48 ∧ dg.data.toList.getLast? ≠ some 48):=by
 unfold decOk at h
 rw [Bool.and_eq_true,Bool.and_eq_true] at h
 obtain ⟨h1,h2,h3⟩:=h
 have hsz:dg.data.toList.length=dg.size:=by simp
 by_cases h0:dg.toList=[48]
 ·rw [if_pos h0,Bool.and_eq_true,decide_eq_true_iff] at h3
  refine .inl ⟨?_,h3.1,by simpa using h3.2⟩
  rw [← ByteArray.toList_eq]
  exact h0
 ·rw [if_neg h0,Bool.and_eq_true,Bool.and_eq_true] at h3
  have hl:=h3.2.2
  rw [Bool.not_eq_true',decide_eq_false_iff_not] at hl
  unfold natOk at h1
  rw [Bool.and_eq_true,Bool.and_eq_true,Bool.and_eq_true,decide_eq_true_iff] at h1
  obtain ⟨g1,g2,g3,g4⟩:=h1
  rw [Bool.not_eq_true',Bool.and_eq_false_iff,decide_eq_false_iff_not,decide_eq_false_iff_not] at g3
  refine .inr ⟨fun e=>by rw [e] at hsz; simp at hsz; omega,fun c hc=>List.all_eq_true.1 g4 c hc,?_,hl⟩
  rcases g3 with g | g
  ·intro e
   apply h0
   rw [ByteArray.toList_eq]
   cases hq:dg.data.toList with
   | nil=>rw [hq] at e; cases e
   | cons c r =>
    rw [hq] at e hsz
    rw [List.length_cons] at hsz
    have:r=[]:=List.eq_nil_of_length_eq_zero (by omega)
    rw [this]
    rw [List.head?_cons] at e
    rw [Option.some.inj e]
  ·exact g
end Go.Proofs.YtfckekaegjjmkaaGreatDoor
