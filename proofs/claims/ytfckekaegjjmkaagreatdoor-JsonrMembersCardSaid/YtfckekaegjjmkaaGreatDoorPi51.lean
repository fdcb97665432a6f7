/- The texts CbV, UtfV, BuildJ, JwA, DecF, JwB, JwV, JrV, JrMeA, JrMeB, put together. -/
import Derived.Test.YtfckekaegjjmkaaGreatDoorPi33
import Derived.Test.YtfckekaegjjmkaaGreatDoorPi49
import Derived.Test.YtfckekaegjjmkaaGreatDoorPi02
import Derived.Test.YtfckekaegjjmkaaGreatDoorRows
import Derived.Test.YtfckekaegjjmkaaGreatDoorPi03
import Derived.Lib.LaidU8T
import Derived.PinnedBridge
import Derived.Stop.LaidErr
import Derived.Stop.Joined
import Derived.LaidMore
import Derived.LaidLaws
import Derived.Lay
import Derived.SevenTiedAt
import Derived.ProofKit
import Derived.OpenShut
import Derived.Test.YtfckekaegjjmkaaGreatDoorPi01
import Derived.Test.YtfckekaegjjmkaaGreatDoorChecked
import Derived.Lib.FrozenHead
import Derived.RegionCalls
import Derived.Test.YtfckekaegjjmkaaGreatDoorPi09
import Derived.RangeFuncLeaves
import Derived.DefersIn
import Derived.Test.YtfckekaegjjmkaaGreatDoorPi15
import Derived.Test.YtfckekaegjjmkaaGreatDoorPi08
import Derived.Test.YtfckekaegjjmkaaGreatDoorPi07
import Derived.Deep.RegionHeld3
import Derived.Lib.ItoaNum
import Derived.Lib.AppendIntMem
import Derived.Test.YtfckekaegjjmkaaGreatDoorPi21
import Derived.Test.YtfckekaegjjmkaaGreatDoorPi42
import Derived.LaidHandle
import Derived.Test.YtfckekaegjjmkaaGreatDoorPi50
namespace Go.Proofs.YtfckekaegjjmkaaGreatDoor
open Go.RowKit Go.Shelf Go.Lib

set_option maxRecDepth 100000 in
theorem gTr : Tryz.prog.globalNamed "targum/tree.errTree" = some 0 := by kernel_rfl
set_option maxRecDepth 100000 in
theorem gFo : Tryz.prog.globalNamed "targum/tree.errForm" = some 1 := by kernel_rfl
set_option maxRecDepth 100000 in
theorem tTr : (Tryz.prog.globals[0]?).map (·.type) = some 62 := by kernel_rfl
set_option maxRecDepth 100000 in
theorem tFo : (Tryz.prog.globals[1]?).map (·.type) = some 62 := by kernel_rfl

/-- A list of laid variables in which the gate's five stand. -/
structure GateLaid (l : List (String × DataW Unit)) : Prop where
  eT : ∃ k r, l.drop k = ("targum/tree.errTree", .iface "*errors.errorString" (.ptr (.agg [.lit (.string [110, 111, 32, 116, 114, 101, 101])]))) :: r
  eF : ∃ k r, l.drop k = ("targum/tree.errForm", .iface "*errors.errorString" (.ptr (.agg [.lit (.string [110, 111, 32, 115, 117, 99, 104, 32, 102, 111, 114, 109])]))) :: r
  ra : ("unicode/utf8.acceptRanges", acceptData) ∈ l
  fi : ("unicode/utf8.first", firstData) ∈ l
  eR : ∃ k r, l.drop k = ("strconv.ErrRange", .iface "*errors.errorString" (.ptr (.agg [.lit (.string [118, 97, 108, 117, 101, 32, 111, 117, 116, 32, 111, 102, 32, 114, 97, 110, 103, 101])]))) :: r

theorem gw_of_laid {l : List (String × DataW Unit)} (hl : GateLaid l) {W : World} (h : laidMet Tryz.prog l W) : ∃ aT aF, GW W aT aF := by
  obtain ⟨kT, rT, eT⟩ := hl.eT
  obtain ⟨kF, rF, eF⟩ := hl.eF
  obtain ⟨kR, rR, eR⟩ := hl.eR
  have hT := laidMet_drop kT h
  have hF := laidMet_drop kF h
  have hR := laidMet_drop kR h
  rw [eT] at hT
  rw [eF] at hF
  rw [eR] at hR
  obtain ⟨aT, cT, bT, sT, dT, xT⟩ := sentinel_of hT gTr tTr es_iface es_row es_struct es_cells es_string
  obtain ⟨aF, cF, bF, sF, dF, xF⟩ := sentinel_of hF gFo tFo es_iface es_row es_struct es_cells es_string
  refine ⟨aT, aF, cT, cF, ?_, bT, bF, ?_, sentinel_var hR gR tR⟩
  · rintro rfl
    rw [dT] at dF
    cases dF
    rw [xT] at xF
    cases xF
  · obtain ⟨ps, hv, _, _⟩ := h
    exact utf8Tabs_of_readsT (U8Types.of196 Tryz.lays196) u8extra (LaidVars_reads hv _ _ hl.fi) (LaidVars_reads hv _ _ hl.ra)
end Go.Proofs.YtfckekaegjjmkaaGreatDoor
namespace Go.Proofs.YtfckekaegjjmkaaGreatDoor
open Go.RowKit Go.Shelf Go.Lib

set_option maxRecDepth 100000 in
theorem gT : Tryz.prog.globalNamed "targum/utf.errText" = some 6 := by kernel_rfl
set_option maxRecDepth 100000 in
theorem gQ : Tryz.prog.globalNamed "targum/utf.errQuote" = some 3 := by kernel_rfl
set_option maxRecDepth 100000 in
theorem tT : (Tryz.prog.globals[6]?).map (·.type) = some 62 := by kernel_rfl
set_option maxRecDepth 100000 in
theorem tQ : (Tryz.prog.globals[3]?).map (·.type) = some 62 := by kernel_rfl

/-- A list of laid variables in which the utf chapter's four stand. -/
structure UtfLaid (l : List (String × DataW Unit)) : Prop where
  eT : ∃ k r, l.drop k = ("targum/utf.errText", .iface "*errors.errorString" (.ptr (.agg [.lit (.string [110, 111, 32, 116, 101, 120, 116])]))) :: r
  eQ : ∃ k r, l.drop k = ("targum/utf.errQuote", .iface "*errors.errorString" (.ptr (.agg [.lit (.string [110, 111, 32, 113, 117, 111, 116, 97, 116, 105, 111, 110])]))) :: r
  ra : ("unicode/utf8.acceptRanges", acceptData) ∈ l
  fi : ("unicode/utf8.first", firstData) ∈ l

theorem uw_of_laid {l : List (String × DataW Unit)} (hl : UtfLaid l) {W : World} (h : laidMet Tryz.prog l W) : ∃ aT aQ, UW W aT aQ := by
  obtain ⟨kT, rT, eT⟩ := hl.eT
  obtain ⟨kQ, rQ, eQ⟩ := hl.eQ
  have hT := laidMet_drop kT h
  have hQ := laidMet_drop kQ h
  rw [eT] at hT
  rw [eQ] at hQ
  obtain ⟨aT, cT, bT, sT, dT, xT⟩ := sentinel_of hT gT tT es_iface es_row es_struct es_cells es_string
  obtain ⟨aQ, cQ, bQ, sQ, dQ, xQ⟩ := sentinel_of hQ gQ tQ es_iface es_row es_struct es_cells es_string
  refine ⟨aT, aQ, cT, cQ, ?_, bT, bQ, ?_⟩
  · rintro rfl
    rw [dT] at dQ
    cases dQ
    rw [xT] at xQ
    cases xQ
  · obtain ⟨ps, hv, _, _⟩ := h
    exact utf8Tabs_of_readsT (U8Types.of196 Tryz.lays196) u8extra (LaidVars_reads hv _ _ hl.fi) (LaidVars_reads hv _ _ hl.ra)

end Go.Proofs.YtfckekaegjjmkaaGreatDoor
namespace Go.Proofs.YtfckekaegjjmkaaGreatDoor
open Go.RowKit Go.Shelf

/-- The writer's block: the builder, whether pretty, how deep. -/
def AtJP (B b : Nat) (pr : Bool) (dp : Int) (p : Value) (bs : List Value) (w : World) : Prop :=
  B ≤ b ∧ ∃ v, w.heap[b]? = some (.cells #[p, v, .bool pr, .int .i64 dp] 83 (0, 0)) ∧ w.ownsRowF B 5 1 v bs.length bs ∧ v.ownBlock ≠ some b
abbrev AtJ (B b : Nat) (pr : Bool) (dp : Int) (bs : List Value) (w : World) : Prop := AtJP B b pr dp (.pointer (some ⟨b, 0, none⟩)) bs w
def IsJ (B b : Nat) (pr : Bool) (dp : Int) (bs : List Value) (w : World) : Prop := AtJP B b pr dp (.pointer none) bs w ∨ AtJ B b pr dp bs w
section
variable {B b : Nat} {pr : Bool} {dp : Int} {p : Value} {bs : List Value} {w : World}
theorem AtJ.is (h : AtJ B b pr dp bs w) : IsJ B b pr dp bs w := .inr h
theorem AtJP.cell0 (h : AtJP B b pr dp p bs w) : w.cell? ⟨b, 0, none⟩ = some p := by
  obtain ⟨_, v, hb, _⟩ := h
  simp [World.cell?, hb]
theorem AtJP.shape (h : AtJP B b pr dp p bs w) : w.shape? b = some (83, 4) := by
  obtain ⟨_, v, hb, _⟩ := h
  simp [World.shape?, hb]
theorem AtJP.lt (h : AtJP B b pr dp p bs w) : b < w.heap.size := by
  obtain ⟨_, v, hb, _⟩ := h
  exact (Array.getElem?_eq_some_iff.1 hb).1
theorem AtJP.frozen0 (h : AtJP B b pr dp p bs w) : w.frozen? ⟨b, 0, none⟩ = false := by
  obtain ⟨_, v, hb, _⟩ := h
  simp [World.frozen?, hb]
theorem AtJP.used (h : AtJP B b pr dp p bs w) (q : Value) : AtJP B b pr dp q bs (w.setCell ⟨b, 0, none⟩ q) := by
  obtain ⟨hB, v, hb, hown, hne⟩ := h
  refine ⟨hB, v, ?_, ?_, hne⟩
  · simp [World.setCell, Array.getElem?_modify, hb]
  · exact hown.kept (row := some b) ⟨rfl, rfl, rfl, by simp [World.setCell], fun k _ hk => Below.heap_setCell _ _ _ _ (fun e => hk (by simp [e]))⟩ (Or.inr hne)
theorem AtJP.put {v v' : Value} {bs' : List Value} (hB : B ≤ b) (hb : w.heap[b]? = some (.cells #[p, v, .bool pr, .int .i64 dp] 83 (0, 0))) (hown : w.ownsRowF B 5 1 v' bs'.length bs') : AtJP B b pr dp p bs' (w.setCell ⟨b, 1, none⟩ v') := by
  have hne := Lib.ownBlock_neF hown hb (by decide)
  refine ⟨hB, v', ?_, ?_, hne⟩
  · simp [World.setCell, Array.getElem?_modify, hb]
  · exact hown.kept (row := some b) ⟨rfl, rfl, rfl, by simp [World.setCell], fun k _ hk => Below.heap_setCell _ _ _ _ (fun e => hk (by simp [e]))⟩ (Or.inr hne)
theorem AtJP.deep (h : AtJP B b pr dp p bs w) (dp' : Int) : AtJP B b pr dp' p bs (w.setCell ⟨b, 3, none⟩ (.int .i64 dp')) := by
  obtain ⟨hB, v, hb, hown, hne⟩ := h
  refine ⟨hB, v, ?_, ?_, hne⟩
  · simp [World.setCell, Array.getElem?_modify, hb]
  · exact hown.kept (row := some b) ⟨rfl, rfl, rfl, by simp [World.setCell], fun k _ hk => Below.heap_setCell _ _ _ _ (fun e => hk (by simp [e]))⟩ (Or.inr hne)
theorem IsJ.deep (h : IsJ B b pr dp bs w) (dp' : Int) : IsJ B b pr dp' bs (w.setCell ⟨b, 3, none⟩ (.int .i64 dp')) := h.imp (fun x => x.deep dp') (fun x => x.deep dp')
theorem IsJ.at (h : IsJ B b pr dp bs w) : ∃ p, AtJP B b pr dp p bs w := h.elim (fun x => ⟨_, x⟩) (fun x => ⟨_, x⟩)
theorem IsJ.blk (h : IsJ B b pr dp bs w) : ∃ p v, Blk w b #[p, v, .bool pr, .int .i64 dp] 83 := by
  obtain ⟨p, _, v, hb, _⟩ := h.at
  exact ⟨p, v, hb⟩
theorem IsJ.lt (h : IsJ B b pr dp bs w) : b < w.heap.size := by
  obtain ⟨p, h⟩ := h.at
  exact h.lt
theorem IsJ.le (h : IsJ B b pr dp bs w) : B ≤ b := by
  obtain ⟨p, h⟩ := h.at
  exact h.1
end






end Go.Proofs.YtfckekaegjjmkaaGreatDoor
namespace Go.Proofs.YtfckekaegjjmkaaGreatDoor
open Go.RowKit Go.Shelf

/-- A writer abides what turns another block. -/
theorem isJ_grown {B b : Nat} {pr : Bool} {dp : Int} {bs : List Value} {W W' : World} (h : IsJ B b pr dp bs W) {row : Option Nat} (hg : W.grownBy W' row) (hr : ∀ r, row = some r → r < B ∨ ∃ o : Obj, W.heap[r]? = some o ∧ o.isCells = false) : IsJ B b pr dp bs W' := by
  have key : ∀ p, AtJP B b pr dp p bs W → AtJP B b pr dp p bs W' := by
    rintro p ⟨hB, v, hb, hown, hne⟩
    refine ⟨hB, v, (hg.block b (Array.getElem?_eq_some_iff.1 hb).1 ?_).trans hb, hown.kept hg ?_, hne⟩
    · intro e
      rcases hr b e.symm with h1 | ⟨o, ho, hc⟩
      · omega
      · rw [hb] at ho
        cases ho
        cases hc
    · by_cases hv : v.ownBlock = none
      · exact .inl hv
      · right
        intro e
        obtain ⟨g, hvg⟩ : ∃ g, v.ownBlock = some g := by
          cases hq : v.ownBlock with
          | none => exact absurd hq hv
          | some g => exact ⟨g, rfl⟩
        rcases hr g (by rw [← e, hvg]) with h1 | ⟨o, ho, hc⟩
        · have := (hown.lt g hvg).1
          omega
        · rcases hown.2 with ⟨rfl, _⟩ | ⟨g', cap, cur, fz, rfl, _, hgc, _⟩
          · simp [Value.ownBlock] at hvg
          · simp [Value.ownBlock] at hvg
            subst hvg
            rw [hgc] at ho
            cases ho
            cases hc
  exact h.imp (key _) (key _)
theorem isJ_below {B p : Nat} {pr : Bool} {dp : Int} {bs : List Value} {W W' : World} (h : IsJ B p pr dp bs W) (hb : Below W.heap.size W W') : IsJ B p pr dp bs W' := isJ_grown h (below_none hb) (fun r e => by cases e)
/-- A block that is neither the writer nor a row of bytes. -/
theorem othersJ_blk {b : Nat} {W W' : World} (h : Lib.OthersKept 5 (some b) W W') {k : Nat} {cs : Array Value} {t : TypeId} (hk : Blk W k cs t) (hkb : k ≠ b) (ht : t ≠ 5) : Blk W' k cs t :=
  h k _ hk (fun e => hkb (by cases e; rfl)) (fun c fz e => by cases e; exact ht rfl)
theorem othersJ_below {p : Nat} {W W' : World} (h : Below W.heap.size W W') : Lib.OthersKept 5 (some p) W W' := fun k _ hk _ _ => (h.block k (Array.getElem?_eq_some_iff.1 hk).1).trans hk
theorem isJ_size {B b : Nat} {pr : Bool} {dp : Int} {bs : List Value} {W : World} (h : IsJ B b pr dp bs W) : B ≤ W.heap.size ∧ b < W.heap.size := ⟨Nat.le_trans h.le (Nat.le_of_lt h.lt), h.lt⟩

/-- What a writer's call leaves: the writer with its bytes, and so deep; all else as it was, but rows of bytes. -/
structure JP (B p : Nat) (pr : Bool) (dp : Int) (l : List UInt8) (W W' : World) : Prop where
  is : IsJ B p pr dp (Lib.byteCells l) W'
  below : Below B W W'
  others : Lib.OthersKept 5 (some p) W W'
theorem JP.trans {B p : Nat} {pr : Bool} {dp dp' : Int} {l l' : List UInt8} {W W1 W2 : World} (h : JP B p pr dp l W W1) (k : JP B p pr dp' l' W1 W2) : JP B p pr dp' l' W W2 := ⟨k.is, h.below.trans k.below, h.others.trans k.others⟩
theorem JP.step {B p : Nat} {pr : Bool} {dp : Int} {l : List UInt8} {W W' : World} (h : IsJ B p pr dp (Lib.byteCells l) W) (hb : Below W.heap.size W W') : JP B p pr dp l W W' := ⟨isJ_below h hb, hb.mono (isJ_size h).1, othersJ_below hb⟩
theorem JP.blk {B p : Nat} {pr : Bool} {dp : Int} {l : List UInt8} {W W' : World} (h : JP B p pr dp l W W') {k : Nat} {cs : Array Value} {t : TypeId} (hk : Blk W k cs t) (hkp : k ≠ p) (ht : t ≠ 5) : Blk W' k cs t := othersJ_blk h.others hk hkp ht
theorem JP.deep {B p : Nat} {pr : Bool} {dp : Int} {l : List UInt8} {W : World} (h : IsJ B p pr dp (Lib.byteCells l) W) (dp' : Int) : JP B p pr dp' l W (W.setCell ⟨p, 3, none⟩ (.int .i64 dp')) :=
  ⟨h.deep dp', (Below.refl B W).setCell (p := ⟨p, 3, none⟩) h.le _, (Lib.OthersKept.refl _ _ W).setCell ⟨p, 3, none⟩ rfl _⟩

/-- A function's contract from its body: as a call, and as a deferred one. -/
def BodyC (f : FuncId) (args : Array Value) (w : World) (R : Ending → World → Prop) : Prop :=
  ∃ fn c, Tryz.prog.funcs[f]? = some fn ∧ fn.body = some c ∧ c.wp Tryz.prog (bodyPost Tryz.prog fn R) { tmps := args ++ Array.replicate (fn.ntmps - args.size) undef, defers := [] } w
theorem BodyC.calls {f : FuncId} {args : Array Value} {w : World} {R : Ending → World → Prop} (h : BodyC f args w R) : Calls Tryz.prog f args w R := by
  obtain ⟨fn, c, hf, hb, h⟩ := h
  exact calls_of_wp hf hb h
theorem BodyC.deferred {f : FuncId} {args : Array Value} {w : World} {R : Ending → World → Prop} (h : BodyC f args w R) (u : FrameMode) (n : Nat) : CallsDIn Fence.wide n Tryz.prog f args u w fun e u' w' => u' = u ∧ R e w' := by
  obtain ⟨fn, c, hf, hb, h⟩ := h
  exact callsDIn_of_wp hf hb trivial (wpIn_wide.2 h)



end Go.Proofs.YtfckekaegjjmkaaGreatDoor
namespace Go.Proofs.YtfckekaegjjmkaaGreatDoor
open Go.RowKit Go.Shelf
attribute [local go_sem] Oper.semAt_some

abbrev Pow10F (w : World) : Prop := Lib.TabIs Tryz.prog w "internal/strconv.uint64pow10" .u64 Lib.pow10Tab









end Go.Proofs.YtfckekaegjjmkaaGreatDoor
namespace Go.Proofs.YtfckekaegjjmkaaGreatDoor
open Go.RowKit Go.Shelf

/-- The world of the chapter: the gate's, the texts', strconv's powers of ten. -/
structure SW (w : World) (aT aF : Addr) : Prop where
  g : GW w aT aF
  tab : Pow10F w
theorem SW.below {w w' : World} {aT aF : Addr} (h : SW w aT aF) (hb : Below w.heap.size w w') : SW w' aT aF where
  g := h.g.below hb
  tab := Lib.tabBelow_of_tabIs h.tab w' hb






end Go.Proofs.YtfckekaegjjmkaaGreatDoor
namespace Go.Proofs.YtfckekaegjjmkaaGreatDoor
open Go.RowKit Go.Shelf Go.Lib

end Go.Proofs.YtfckekaegjjmkaaGreatDoor
namespace Go.Proofs.YtfckekaegjjmkaaGreatDoor
open Go.RowKit Go.Shelf Go.Lib

/-- The list, the handle left out. -/
noncomputable abbrev plainJ : List (String × DataW Unit) := [("math/bits.deBruijn32tab", Rows.laid_math_bits_deBruijn32tab), ("math/bits.deBruijn64tab", Rows.laid_math_bits_deBruijn64tab), ("internal/strconv.uint64pow10", Rows.laid_internal_strconv_uint64pow10), ("unicode/utf8.acceptRanges", Rows.laid_unicode_utf8_acceptRanges), ("strconv.ErrRange", Rows.laid_strconv_ErrRange), ("strconv.ErrSyntax", Rows.laid_strconv_ErrSyntax), ("targum/utf.errText", Rows.laid_targum_utf_errText), ("targum/utf.errQuote", Rows.laid_targum_utf_errQuote), ("targum/tree.errTree", Rows.laid_targum_tree_errTree), ("targum/tree.errForm", Rows.laid_targum_tree_errForm), ("unicode/utf8.first", Rows.laid_unicode_utf8_first)]
noncomputable abbrev allJ : List (String × DataW Unit) := [("math/bits.deBruijn32tab", Rows.laid_math_bits_deBruijn32tab), ("math/bits.deBruijn64tab", Rows.laid_math_bits_deBruijn64tab), ("internal/strconv.uint64pow10", Rows.laid_internal_strconv_uint64pow10), ("unicode/utf8.acceptRanges", Rows.laid_unicode_utf8_acceptRanges), ("errors.errorType", Rows.laid_errors_errorType), ("strconv.ErrRange", Rows.laid_strconv_ErrRange), ("strconv.ErrSyntax", Rows.laid_strconv_ErrSyntax), ("targum/utf.errText", Rows.laid_targum_utf_errText), ("targum/utf.errQuote", Rows.laid_targum_utf_errQuote), ("targum/tree.errTree", Rows.laid_targum_tree_errTree), ("targum/tree.errForm", Rows.laid_targum_tree_errForm), ("unicode/utf8.first", Rows.laid_unicode_utf8_first)]
set_option maxRecDepth 100000 in
theorem hand_partsJ {W : World} (h : laidMetH Tryz.prog allJ W) : laidMet Tryz.prog plainJ W ∧ handlesMet Tryz.prog [("errors.errorType", Rows.laid_errors_errorType)] W := by
  have e1 : (allJ.filter fun x => x.2.handleName?.isSome) = [("errors.errorType", Rows.laid_errors_errorType)] := by kernel_rfl
  have e2 : (allJ.filter fun x => x.2.handleName?.isNone) = plainJ := by kernel_rfl
  unfold laidMetH at h
  rw [e1, e2] at h
  exact h
set_option maxRecDepth 100000 in
theorem hand_etJ : Tryz.prog.globalNamed "errors.errorType" = some 2 := by kernel_rfl
set_option maxRecDepth 100000 in
theorem hand_rtJ : (Tryz.prog.cutTypes.find? (·.1 == "internal/reflectlite.rtype")).map (·.2) = some 134 := by kernel_rfl
set_option maxRecDepth 100000 in
theorem hand_sizeJ : Tryz.prog.types.size = 326 := by kernel_rfl
set_option maxRecDepth 100000 in
theorem hand_rowJ : ((List.range 326).filter fun t => Tryz.prog.rowNamed t [101, 114, 114, 111, 114]) = [62] := by kernel_rfl
set_option maxRecDepth 100000 in
theorem hand_tyJ {W : World} (h : handlesMet Tryz.prog [("errors.errorType", Rows.laid_errors_errorType)] W) : ErrTyJ W := by
  obtain ⟨name, u, ty, e1, e2, e3, e4, e5⟩ := h _ (List.mem_singleton.2 rfl)
  have en : name = [101, 114, 114, 111, 114] := (Option.some.inj e1).symm
  subst en
  obtain rfl := Option.some.inj (hand_rtJ.symm.trans e2)
  have hm : ty ∈ (List.range 326).filter fun t => Tryz.prog.rowNamed t [101, 114, 114, 111, 114] := List.mem_filter.2 ⟨List.mem_range.2 (by rw [← hand_sizeJ]; exact e3), e4⟩
  rw [hand_rowJ] at hm
  obtain rfl := List.mem_singleton.1 hm
  have hh : typeHandle Tryz.prog 62 = .pointer (some ⟨13, 62, none⟩) := by kernel_rfl
  rw [hh] at e5
  simpa using World.var?_cell hand_etJ e5 0
set_option maxRecDepth 100000 in
theorem plain_gateJ : GateLaid plainJ where
  eT := ⟨8, _, rfl⟩
  eF := ⟨9, _, rfl⟩
  ra := by
    rw [show (acceptData : DataW Unit) = Rows.laid_unicode_utf8_acceptRanges from by kernel_rfl]
    exact .tail _ (.tail _ (.tail _ (.head _)))
  fi := by
    rw [show (firstData : DataW Unit) = Rows.laid_unicode_utf8_first from by kernel_rfl]
    exact .tail _ (.tail _ (.tail _ (.tail _ (.tail _ (.tail _ (.tail _ (.tail _ (.tail _ (.tail _ (.head _))))))))))
  eR := ⟨4, _, rfl⟩
set_option maxRecDepth 100000 in
theorem plain_utfJ : UtfLaid plainJ where
  eT := ⟨6, _, rfl⟩
  eQ := ⟨7, _, rfl⟩
  ra := plain_gateJ.ra
  fi := plain_gateJ.fi
set_option maxRecDepth 100000 in
theorem gSyn : Tryz.prog.globalNamed "strconv.ErrSyntax" = some 7 := by kernel_rfl
set_option maxRecDepth 100000 in
theorem tSyn : (Tryz.prog.globals[7]?).map (·.type) = some 62 := by kernel_rfl
set_option maxRecDepth 100000 in
theorem jrw_of_laid {W : World} (h : laidMetH Tryz.prog allJ W) : ∃ uT uQ aT aF, JRW W uT uQ aT aF := by
  obtain ⟨h1, h2⟩ := hand_partsJ h
  obtain ⟨aT, aF, hg⟩ := gw_of_laid plain_gateJ h1
  obtain ⟨uT, uQ, hu⟩ := uw_of_laid plain_utfJ h1
  have h3 := laidMet_drop 5 h1
  obtain ⟨aS, cS, _, _, _, _⟩ := sentinel_of h3 gSyn tSyn es_iface es_row es_struct es_cells es_string
  exact ⟨uT, uQ, aT, aF, hu, hg, ⟨⟨_, _, cS⟩, hg.rng⟩, hand_tyJ h2⟩

/-- The world of the door, the handle laid; then all else. -/
noncomputable def handWJ (os : Os) : World :=
  let w0 := World.holding Tryz.prog os ⟨#[], #[], []⟩
  { w0 with heap := w0.heap.modify 2 fun
      | .cells _ t frozen => .cells #[.iface 134 (.agg #[.pointer (some ⟨13, 62, none⟩)])] t frozen
      | o => o }
noncomputable def laidHJ (os : Os) : World := (handWJ os).layVars Tryz.prog plainJ
theorem laidH_osJ (os : Os) : (laidHJ os).os = os := World.layVars_os _ _ _
set_option maxRecDepth 100000 in
theorem laidH_metJ (os : Os) (args : Array Value) : laidMetH Tryz.prog allJ ((laidHJ os).forCall (fun _ _ => 0) ⟨#[], args, []⟩).memory := by
  refine laidMetH_of_parts ?_ ?_
  · have e2 : (allJ.filter fun x => x.2.handleName?.isNone) = plainJ := by kernel_rfl
    rw [e2]
    have e3 : (plainJ.filter fun x => (plainJ.map (·.1)).contains x.1) = plainJ := List.filter_eq_self.2 fun x hx => List.contains_iff_mem.2 (List.mem_map.2 ⟨x, hx, rfl⟩)
    have e4 : (plainJ.filter fun x => !(plainJ.map (·.1)).contains x.1) = [] := List.filter_eq_nil_iff.2 fun x hx => by rw [List.contains_iff_mem.2 (List.mem_map.2 ⟨x, hx, rfl⟩)]; simp
    have h : laidMet Tryz.prog plainJ (laidHJ os) := laidMet_layVars (w0 := handWJ os) (plainJ.map (·.1)) [] (by rw [e3]; rfl) (by rw [e3]; kernel_rfl) (by rw [e3]; kernel_rfl) (by rw [e4]; exact LaidIn.none)
    exact h.of_heap (by simp [World.memory, World.forCall, Input.heap])
  · kernel_rfl
set_option maxRecDepth 100000 in
theorem laidH_shapedJ (os : Os) (args : Array Value) : ((laidHJ os).forCall (fun _ _ => 0) ⟨#[], args, []⟩).Shaped Tryz.prog := World.shaped_of_ZipB (by kernel_rfl) (by kernel_rfl)
end Go.Proofs.YtfckekaegjjmkaaGreatDoor
namespace Go.Proofs.YtfckekaegjjmkaaGreatDoor.jsonrMembers
open Go.ChangeShapes Go.WideShapes Go.ChangeAt Go.RowKit Go.Lib
open Go.ChangeMaps (open_string shut_string)

theorem own : ownKnob Tryz.prog.godebug = none := by kernel_rfl
theorem laidOut : laidOutB Tryz.prog = true := by kernel_rfl
theorem listed : Rows.jsonrMembersRow.laid = allJ := rfl

set_option maxRecDepth 100000 in
theorem lifted (os : Os) (started : os.Started) (H : Type) (enc : TypeId × Value → H) :
    ReturnsInHanded {} Tryz.checked os 10 .any (fun w args => (Rows.jsonrMembersSpec.pre enc Tryz.prog Tryz.f10 Rows.jsonrMembersRow.domain false w args ∧ laidMetH Tryz.prog Rows.jsonrMembersRow.laid w) ∧ sizedMet enc Tryz.prog Tryz.f10 (OpenSpec.ofChange Rows.jsonrMembersSpec) false w args)
      (Rows.jsonrMembersSpec.post enc Tryz.prog Tryz.f10 false true false false) := by
  refine returnsInHanded_of_change_and (C := Tryz.checked) (X := fun w _ => laidMetH Tryz.prog Rows.jsonrMembersRow.laid w) (fun _ _ _ hh h => h.of_heap hh) own started (by kernel_rfl) Tryz.func10
    (ChangeSpec.witness_shaped (enc := enc) (C := Tryz.checked) (os := os) (X := fun w _ => laidMetH Tryz.prog Rows.jsonrMembersRow.laid w) false (laidHJ os) #[.slice none 0 0] 8 (laidH_osJ os)
      (laidH_shapedJ os _) (by kernel_rfl) (by kernel_rfl) (by kernel_rfl)
      (by rw [listed]; exact laidH_metJ os _)) ?_
  intro W base args ds gs before hval0 hW _ _ hL _
  have hval : ∀ (j : Nat) t v, Tryz.f10.params[j]? = some t → args[j]? = some v → Value.okWide Tryz.prog W .any base t v := hval0
  have hW' := hW
  obtain ⟨p, q, hA0, hV, rfl, _, _⟩ := hW
  have hA : DataW.TrodAll enc Tryz.prog W 0 (fun _ => true) true Tryz.f10.params.toList args.toList ds p := hA0
  rw [Tryz.params10] at hA hval
  obtain ⟨v0, vs0, d0, ds0, p0, q0, hargs, rfl, rfl, h0, r0⟩ := trodAll_cons hA
  obtain ⟨rfl, rfl, rfl⟩ := trodAll_nil r0
  obtain rfl : args = #[v0] := by cases args; simp_all
  obtain ⟨rfl, rfl⟩ := trodVars_none hV
  obtain ⟨A0, n0, c0, l0, rfl, hn0, hl0⟩ := open_strings (hval 0 36 v0 rfl rfl) h0
  rw [listed] at hL
  obtain ⟨uT, uQ, aT, aF, hU⟩ := jrw_of_laid hL
  refine (members_walk W A0 n0 c0 l0 hn0 hl0 hU).mono fun e W' ⟨he, hb⟩ => ?_
  subst he
  exact ⟨_, rfl, law_post laidOut (by kernel_rfl) rfl Tryz.underlying4 rfl rfl rfl rfl hW' hb⟩

end Go.Proofs.YtfckekaegjjmkaaGreatDoor.jsonrMembers
namespace Go.Proofs.YtfckekaegjjmkaaGreatDoor.jsonrMembers
open Go.ChangeShapes Go.WideShapes Go.ChangeAt Go.RowKit Go.Lib
open Go.ChangeMaps (open_string shut_string)

theorem k_place : (Rows.jsonrMembersRow.inPlace == Tryz.pinned.checked.prog.inPlace 10) = true := by kernel_rfl
theorem k_unf : (Rows.jsonrMembersRow.unfollowed == Tryz.pinned.checked.prog.unfollowed 10) = true := by kernel_rfl
theorem k_rec : (Rows.jsonrMembersRow.recurses == Tryz.pinned.checked.prog.recurses 10) = true := by kernel_rfl
theorem k_named : (Rows.jsonrMembersRow.named == Tryz.pinned.checked.prog.varsNamed 10) = true := by kernel_rfl
theorem named_f : Tryz.pinned.checked.prog.funcNamed Rows.jsonrMembersRow.func = some 10 := by kernel_rfl
theorem closed_f : joinedFacts Tryz.pinned.checked.prog 10 Tryz.f10 Rows.jsonrMembersSpec Rows.jsonrMembersRow = true := by
  unfold joinedFacts
  rw [k_place, k_unf, k_rec, k_named]
  kernel_rfl

theorem over : Rows.jsonrMembersRow.holds Tryz.pinned (OpenSpec.ofChange Rows.jsonrMembersSpec) :=
  OpenClaim.holds_of_wide 10 Tryz.f10 rfl rfl rfl rfl rfl rfl rfl ⟨rfl, rfl, rfl, rfl, rfl⟩ rfl rfl rfl rfl rfl named_f Tryz.func10 closed_f
    (of_decide_eq_true (by kernel_rfl)) (by unfold Func.isWrapper; first | (rw [if_pos (by decide +kernel)]; kernel_rfl) | (rw [if_neg (by decide +kernel)]; exact ⟨rfl, rfl⟩))
    (fun os started H enc _ => lifted os started H enc)

end Go.Proofs.YtfckekaegjjmkaaGreatDoor.jsonrMembers
