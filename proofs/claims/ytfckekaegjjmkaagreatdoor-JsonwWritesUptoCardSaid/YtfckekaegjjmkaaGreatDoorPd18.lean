/- The texts JwA, UtfM, UtfN, UtfRt, put together. -/
import Derived.Test.YtfckekaegjjmkaaGreatDoorPd17
import Derived.Test.YtfckekaegjjmkaaGreatDoorPd05
import Derived.Test.YtfckekaegjjmkaaGreatDoorPd16
import Derived.RangeFuncLeaves
import Derived.DefersIn
import Derived.Test.YtfckekaegjjmkaaGreatDoorPd09
import Derived.Outline
import Derived.Deep.RegionHeld3
import Derived.Test.YtfckekaegjjmkaaGreatDoorPd01
import Derived.Test.YtfckekaegjjmkaaGreatDoorPd06
import Derived.Shelf.Unicode.ValidAny
namespace Go.Proofs.YtfckekaegjjmkaaGreatDoor
open Go.RowKit Go.Shelf

/-- A writer abides what turns another block. -/
theorem isJ_grown {B b : Nat} {pr : Bool} {dp : Int} {bs : List Value} {W W' : World} (h : IsJ B b pr dp bs W) {row : Option Nat} (hg : W.grownBy W' row) (hr : ∀ r, row = some r → r < B ∨ ∃ o : Obj, W.heap[r]? = some o ∧ o.isCells = false) : IsJ B b pr dp bs W' := by
  have key : ∀ p, AtJP B b pr dp p bs W → AtJP B b pr dp p bs W' := by
    rintro p ⟨hB, v, hb, hown, hne⟩
    refine ⟨hB, v, (hg.block b (Array.getElem?_eq_some_iff.1 hb).1 ?_).trans hb, hown.kept hg ?_, hne⟩
    · intro e
      rcases hr b e.symm with h1 | ⟨o, ho, hc⟩
      · omega
      · rw [hb] at ho
        cases ho
        cases hc
    · by_cases hv : v.ownBlock = none
      · exact .inl hv
      · right
        intro e
        obtain ⟨g, hvg⟩ : ∃ g, v.ownBlock = some g := by
          cases hq : v.ownBlock with
          | none => exact absurd hq hv
          | some g => exact ⟨g, rfl⟩
        rcases hr g (by rw [← e, hvg]) with h1 | ⟨o, ho, hc⟩
        · have := (hown.lt g hvg).1
          omega
        · rcases hown.2 with ⟨rfl, _⟩ | ⟨g', cap, cur, fz, rfl, _, hgc, _⟩
          · simp [Value.ownBlock] at hvg
          · simp [Value.ownBlock] at hvg
            subst hvg
            rw [hgc] at ho
            cases ho
            cases hc
  exact h.imp (key _) (key _)
theorem isJ_below {B p : Nat} {pr : Bool} {dp : Int} {bs : List Value} {W W' : World} (h : IsJ B p pr dp bs W) (hb : Below W.heap.size W W') : IsJ B p pr dp bs W' := isJ_grown h (below_none hb) (fun r e => by cases e)
/-- A block that is neither the writer nor a row of bytes. -/
theorem othersJ_blk {b : Nat} {W W' : World} (h : Lib.OthersKept 5 (some b) W W') {k : Nat} {cs : Array Value} {t : TypeId} (hk : Blk W k cs t) (hkb : k ≠ b) (ht : t ≠ 5) : Blk W' k cs t :=
  h k _ hk (fun e => hkb (by cases e; rfl)) (fun c fz e => by cases e; exact ht rfl)
theorem othersJ_from {b B : Nat} {W W' : World} (h : Lib.OthersKept 5 (some b) W W') (hz : W.heap.size ≤ W'.heap.size) {B' : Nat} {pr : Bool} {dp : Int} {bs : List Value} (hI : IsJ B' b pr dp bs W) : KeepsFrom B W W' := by
  obtain ⟨c, v, hb⟩ := hI.blk
  refine ⟨hz, fun k o _ hk ho => h k o hk (fun e => ?_) (fun c fz e => ?_)⟩
  · cases e
    rw [hb] at hk
    cases hk
    cases ho
  · subst e
    cases ho
theorem othersJ_below {p : Nat} {W W' : World} (h : Below W.heap.size W W') : Lib.OthersKept 5 (some p) W W' := fun k _ hk _ _ => (h.block k (Array.getElem?_eq_some_iff.1 hk).1).trans hk
theorem isJ_size {B b : Nat} {pr : Bool} {dp : Int} {bs : List Value} {W : World} (h : IsJ B b pr dp bs W) : B ≤ W.heap.size ∧ b < W.heap.size := ⟨Nat.le_trans h.le (Nat.le_of_lt h.lt), h.lt⟩

/-- What a writer's call leaves: the writer with its bytes, and so deep; all else as it was, but rows of bytes. -/
structure JP (B p : Nat) (pr : Bool) (dp : Int) (l : List UInt8) (W W' : World) : Prop where
  is : IsJ B p pr dp (Lib.byteCells l) W'
  below : Below B W W'
  others : Lib.OthersKept 5 (some p) W W'
theorem JP.trans {B p : Nat} {pr : Bool} {dp dp' : Int} {l l' : List UInt8} {W W1 W2 : World} (h : JP B p pr dp l W W1) (k : JP B p pr dp' l' W1 W2) : JP B p pr dp' l' W W2 := ⟨k.is, h.below.trans k.below, h.others.trans k.others⟩
theorem JP.step {B p : Nat} {pr : Bool} {dp : Int} {l : List UInt8} {W W' : World} (h : IsJ B p pr dp (Lib.byteCells l) W) (hb : Below W.heap.size W W') : JP B p pr dp l W W' := ⟨isJ_below h hb, hb.mono (isJ_size h).1, othersJ_below hb⟩
theorem JP.blk {B p : Nat} {pr : Bool} {dp : Int} {l : List UInt8} {W W' : World} (h : JP B p pr dp l W W') {k : Nat} {cs : Array Value} {t : TypeId} (hk : Blk W k cs t) (hkp : k ≠ p) (ht : t ≠ 5) : Blk W' k cs t := othersJ_blk h.others hk hkp ht
theorem JP.deep {B p : Nat} {pr : Bool} {dp : Int} {l : List UInt8} {W : World} (h : IsJ B p pr dp (Lib.byteCells l) W) (dp' : Int) : JP B p pr dp' l W (W.setCell ⟨p, 3, none⟩ (.int .i64 dp')) :=
  ⟨h.deep dp', (Below.refl B W).setCell (p := ⟨p, 3, none⟩) h.le _, (Lib.OthersKept.refl _ _ W).setCell ⟨p, 3, none⟩ rfl _⟩
theorem cellsJ_app (l : List UInt8) (s : ByteArray) : Lib.byteCells l ++ Lib.strCells s = Lib.byteCells (l ++ s.data.toList) := by
  simp [Lib.byteCells, Lib.strCells]
theorem cellsJ_len (l : List UInt8) : (Lib.byteCells l).length = l.length := Lib.byteCells_length l

/-- A function's contract from its body: as a call, and as a deferred one. -/
def BodyC (f : FuncId) (args : Array Value) (w : World) (R : Ending → World → Prop) : Prop :=
  ∃ fn c, Tryz.prog.funcs[f]? = some fn ∧ fn.body = some c ∧ c.wp Tryz.prog (bodyPost Tryz.prog fn R) { tmps := args ++ Array.replicate (fn.ntmps - args.size) undef, defers := [] } w
theorem BodyC.calls {f : FuncId} {args : Array Value} {w : World} {R : Ending → World → Prop} (h : BodyC f args w R) : Calls Tryz.prog f args w R := by
  obtain ⟨fn, c, hf, hb, h⟩ := h
  exact calls_of_wp hf hb h
theorem BodyC.deferred {f : FuncId} {args : Array Value} {w : World} {R : Ending → World → Prop} (h : BodyC f args w R) (u : FrameMode) (n : Nat) : CallsDIn Fence.wide n Tryz.prog f args u w fun e u' w' => u' = u ∧ R e w' := by
  obtain ⟨fn, c, hf, hb, h⟩ := h
  exact callsDIn_of_wp hf hb trivial (wpIn_wide.2 h)
theorem bodyC_mono {f : FuncId} {args : Array Value} {w : World} {R R' : Ending → World → Prop} (h : BodyC f args w R) (hr : ∀ e w', R e w' → R' e w') : BodyC f args w R' := by
  obtain ⟨fn, c, hf, hb, h⟩ := h
  refine ⟨fn, c, hf, hb, Code.wp_mono (fun e a w' q => ?_) h⟩
  cases e with
  | normal => exact ⟨q.1, q.2.imp fun v x => ⟨x.1, hr _ _ x.2⟩⟩
  | ret => exact ⟨q.1, q.2.imp fun v x => ⟨x.1, hr _ _ x.2⟩⟩
  | panic c => exact ⟨q.1, hr _ _ q.2⟩
  | outgrown => exact hr _ _ q
  | exit _ => exact q
  | goto _ => exact q
/-- The end of a body behind a deferred call. -/
theorem leave_d {fn : Func} {R : Ending → World → Prop} {a : Act} {w : World} {f : FuncId} {args : Array Value} {v : Value}
    (hd : a.defers = [{ target := .fn (.func f) #[], args := args }]) (hi : (invoke (.fn (.func f) #[]) args).run Tryz.prog w = .ok (.enter f args) w)
    (h : BodyC f args w fun e w' => ∃ u, e = .returned u ∧ (results fn a.tmps).run Tryz.prog w' = .ok v w' ∧ R (.returned v) w') : BodyM Tryz.prog fn R .ret a w := by
  show LeavesInM Fence.wide 9 Tryz.prog fn a.tmps R a.defers .returning w
  rw [hd]
  refine ⟨by simp, .inr ⟨fun _ => (by decide), .func f, #[], f, args, rfl, hi, fun _ _ => trivial, ?_⟩⟩
  refine (h.deferred .returning 8).mono ?_
  rintro e u' w' ⟨rfl, u, rfl, h1, h2⟩
  exact ⟨v, h1, h2⟩
/-- The end of a body behind a range over a function and, ahead of it, a deferred call. -/
theorem leave_md {fn : Func} {R : Ending → World → Prop} {a : Act} {w : World} {D : Nat} {f : FuncId} {args : Array Value} {v : Value}
    (hK : w.heap[D]? = some (.deferred (some []))) (hd : a.defers = [{ target := .collected D, args := #[] }, { target := .fn (.func f) #[], args := args }]) (hi : ∀ w, (invoke (.fn (.func f) #[]) args).run Tryz.prog w = .ok (.enter f args) w)
    (h : BodyC f args (w.putObj D (.deferred none)) fun e w' => ∃ u, e = .returned u ∧ (results fn a.tmps).run Tryz.prog w' = .ok v w' ∧ R (.returned v) w') : BodyM Tryz.prog fn R .ret a w := by
  show LeavesInM Fence.wide 9 Tryz.prog fn a.tmps R a.defers .returning w
  rw [hd]
  refine ⟨by simp, .inl ⟨_, _, rfl, run_takeDeferred hK, ⟨by simp, .inr ⟨fun _ => (by decide), .func f, #[], f, args, rfl, hi _, fun _ _ => trivial, ?_⟩⟩⟩⟩
  refine (h.deferred .returning 8).mono ?_
  rintro e u' w' ⟨rfl, u, rfl, h1, h2⟩
  exact ⟨v, h1, h2⟩

set_option maxHeartbeats 2000000 in
set_option maxRecDepth 100000 in
theorem j_words1 (B p k : Nat) (pr : Bool) (dp : Int) (l : List UInt8) (s : ByteArray) (W : World) (h : IsJ B p pr dp (Lib.byteCells l) W) (hlen : l.length + s.size ≤ 1000000000) (hk : Blk W k #[.string s] 9) :
    BodyC 143 #[.pointer (some ⟨p, 0, none⟩), .slice (some ⟨k, 0, none⟩) 1 1] W fun e W' => e = .returned (.tuple #[]) ∧ JP B p pr dp (l ++ s.data.toList) W W' := by
  have HB := Lib.hid (jb_WriteString B p pr dp (Lib.byteCells l) s W h (by rw [cellsJ_len]; omega) (isJ_size h).1)
  rw [cellsJ_app] at HB
  have hc := hk.cell 0
  clear h hk
  refine ⟨_, _, Tryz.func143, rfl, ?_⟩
  simp only [Tryz.ntmps143, List.size_toArray, List.length_cons, List.length_nil, Nat.reduceAdd, Nat.reduceSub, Array.replicate_succ, Array.replicate_zero, List.push_toArray, List.append_toArray, List.nil_append, List.cons_append]
  go_wp2_with fail
  refine wp_loop_rounds 2 ?_
  rw [rounds_succ]
  go_wp2_with fail
  refine HB.out.mono ?_
  rintro e W1 ⟨rfl, h1, hb1, ho1⟩
  go_wp2_with fail
  rw [rounds_succ]
  go_wp2_with fail
  go_end0
  exact ⟨rfl, h1.is, hb1, ho1⟩

set_option maxHeartbeats 2000000 in
set_option maxRecDepth 100000 in
theorem j_words2 (B p k : Nat) (pr : Bool) (dp : Int) (l : List UInt8) (s t : ByteArray) (W : World) (h : IsJ B p pr dp (Lib.byteCells l) W) (hlen : l.length + s.size + t.size ≤ 1000000000) (hk : Blk W k #[.string s, .string t] 9) (hkp : k ≠ p) :
    Calls Tryz.prog 143 #[.pointer (some ⟨p, 0, none⟩), .slice (some ⟨k, 0, none⟩) 2 2] W fun e W' => e = .returned (.tuple #[]) ∧ JP B p pr dp (l ++ s.data.toList ++ t.data.toList) W W' := by
  have HB := Lib.hid (jb_WriteString B p pr dp (Lib.byteCells l) s W h (by rw [cellsJ_len]; omega) (isJ_size h).1)
  rw [cellsJ_app] at HB
  have hsl : s.data.toList.length = s.size := by simp
  have HB2 := Lib.hid (fun W2 (h2 : IsJ B p pr dp (Lib.byteCells (l ++ s.data.toList)) W2) => jb_WriteString B p pr dp (Lib.byteCells (l ++ s.data.toList)) t W2 h2 (by rw [cellsJ_len, List.length_append]; omega) (isJ_size h2).1)
  simp only [cellsJ_app] at HB2
  have hc0 := hk.cell 0
  have hc1 := hk.cell 1
  have HK := Lib.hid hk
  clear h hk
  go_enter Tryz.func143, Tryz.ntmps143
  go_wp2_with fail
  refine wp_loop_rounds 3 ?_
  rw [rounds_succ]
  go_wp2_with fail
  refine HB.out.mono ?_
  rintro e W1 ⟨rfl, h1, hb1, ho1⟩
  have hk1 := othersJ_blk ho1 HK.out hkp (by decide)
  have H2 := Lib.hid (HB2.out W1 h1.is)
  clear hc0 hc1
  have hc0 := hk1.cell 0
  have hc1 := hk1.cell 1
  go_wp2_with fail
  rw [rounds_succ]
  go_wp2_with fail
  refine H2.out.mono ?_
  rintro e W2 ⟨rfl, h2, hb2, ho2⟩
  go_wp2_with fail
  rw [rounds_succ]
  go_wp2_with fail
  go_end0
  exact ⟨rfl, h2.is, hb1.trans hb2, ho1.trans ho2⟩

theorem rep_blanks (n : Nat) : Lib.repeatL [32, 32] n = List.replicate (2 * n) 32 := by
  induction n with
  | zero => rfl
  | succ n ih =>
    rw [show 2 * (n + 1) = 2 * n + 1 + 1 by omega, List.replicate_succ, List.replicate_succ]
    show [32, 32] ++ Lib.repeatL [32, 32] n = _
    rw [ih]
    rfl
set_option maxHeartbeats 2000000 in
set_option maxRecDepth 100000 in
/-- A line, if it is to be pretty. -/
theorem j_line (B p : Nat) (pr : Bool) (dp : Nat) (l : List UInt8) (W : World) (h : IsJ B p pr dp (Lib.byteCells l) W) (hlen : l.length ≤ 900000000) (hdp : dp ≤ 1000) :
    Calls Tryz.prog 181 #[.pointer (some ⟨p, 0, none⟩)] W fun e W' => e = .returned (.tuple #[]) ∧ JP B p pr dp (l ++ lineL pr dp) W W' := by
  obtain ⟨q, v, hb⟩ := h.blk
  have c2 := hb.cell 2
  have c3 := hb.cell 3
  cases pr with
  | false =>
    have hr : l ++ lineL false dp = l := by
      show l ++ [] = l
      rw [List.append_nil]
    rw [hr]
    have HI := Lib.hid h
    clear h hr hb
    go_enter Tryz.func181, Tryz.ntmps181
    go_wp2_with fail
    go_end0
    exact ⟨rfl, HI.out, Below.refl _ _, Lib.OthersKept.refl _ _ _⟩
  | true =>
    have HR := Lib.hid (Tryz.strings_Repeat ⟨#[32, 32]⟩ dp W (by omega) (by show 2 * dp ≤ _; omega))
    rw [show (⟨#[32, 32]⟩ : ByteArray).data.toList = [32, 32] from rfl, rep_blanks] at HR
    have HW := Lib.hid (fun W1 (hb1 : Below W.heap.size W W1) => j_words2 B p W1.heap.size true dp l ⟨#[10]⟩ ⟨(List.replicate (2 * dp) 32).toArray⟩ (W1.alloc (.cells #[.string ⟨#[10]⟩, .string ⟨(List.replicate (2 * dp) 32).toArray⟩] 9)) (isJ_below h (hb1.alloc hb1.size _)) (by
      have : (⟨(List.replicate (2 * dp) 32).toArray⟩ : ByteArray).size = 2 * dp := by
        show (List.replicate (2 * dp) (32 : UInt8)).toArray.size = _
        simp
      rw [this]
      show l.length + 1 + 2 * dp ≤ _
      omega) (Blk.new _ _ _) (by have := h.lt; have := hb1.size; omega))
    have hr : l ++ (⟨#[10]⟩ : ByteArray).data.toList ++ (⟨(List.replicate (2 * dp) 32).toArray⟩ : ByteArray).data.toList = l ++ lineL true dp := by
      show l ++ [10] ++ List.replicate (2 * dp) 32 = l ++ (10 :: List.replicate (2 * dp) 32)
      simp
    simp only [hr] at HW
    obtain ⟨rs, hrs⟩ : ∃ rs, l ++ lineL true dp = rs := ⟨_, rfl⟩
    rw [hrs]
    simp only [hrs] at HW
    obtain ⟨bl, hbl⟩ : ∃ bl : ByteArray, (⟨(List.replicate (2 * dp) 32).toArray⟩ : ByteArray) = bl := ⟨_, rfl⟩
    rw [hbl] at HR
    simp only [hbl] at HW
    have HI := Lib.hid h
    clear h hr hrs hbl hb
    go_enter Tryz.func181, Tryz.ntmps181
    go_wp2_with fail
    refine HR.out.mono ?_
    rintro e W1 ⟨rfl, hb1⟩
    have H2 := Lib.hid (HW.out W1 hb1)
    have H1 := Lib.hid (JP.step HI.out (hb1.alloc hb1.size (.cells #[.string ⟨#[10]⟩, .string bl] 9)))
    clear HW
    go_wp2_with fail
    refine H2.out.mono ?_
    rintro e W2 ⟨rfl, h2⟩
    go_wp2_with fail
    go_end0
    exact ⟨rfl, H1.out.trans h2⟩
end Go.Proofs.YtfckekaegjjmkaaGreatDoor
namespace Go.Proofs.YtfckekaegjjmkaaGreatDoor
open Go.RowKit Go.Shelf
attribute [local go_sem] Oper.semAt_some wide_fn wide_depth


end Go.Proofs.YtfckekaegjjmkaaGreatDoor
namespace Go.Proofs.YtfckekaegjjmkaaGreatDoor
open Go.RowKit Go.Shelf

end Go.Proofs.YtfckekaegjjmkaaGreatDoor
namespace Go.Proofs.YtfckekaegjjmkaaGreatDoor
open Go.RowKit Go.Shelf

set_option maxRecDepth 100000 in
theorem utf_RightT (s : ByteArray) (hs : s.size ≤ 9223372036854775807) (w : World) (h : Lib.Utf8Tabs 4 5 w) :
    Calls Tryz.prog 128 #[.string s] w fun e w' => e = .returned (.bool (Lib.validD s.data.toList)) ∧ Below w.heap.size w w' := by
  have HV := Lib.hid (show Calls Tryz.prog 164 #[.string s] w fun e w' => e = .returned (.bool (Lib.validD s.data.toList)) ∧ Below w.heap.size w w' from Any.utf8_ValidString Tryz.lays196 s w hs h)
  clear h
  go_enter Tryz.func128, Tryz.ntmps128
  go_wp2_with fail
  refine HV.out.mono ?_
  rintro e w1 ⟨rfl, hb⟩
  go_wp2_with fail
  go_ret
  exact ⟨rfl, hb⟩
end Go.Proofs.YtfckekaegjjmkaaGreatDoor
