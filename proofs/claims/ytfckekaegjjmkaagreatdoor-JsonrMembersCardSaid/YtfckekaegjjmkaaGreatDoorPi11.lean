/- The texts UtfM, UtfN, RefN, DrA, DrB, put together. -/
import Derived.Test.YtfckekaegjjmkaaGreatDoorPi07
import Derived.Outline
import Derived.Deep.RegionHeld3
import Derived.BigRegion
import Derived.RegionTactic
import Derived.Deep.QuietTactic
import Derived.Test.YtfckekaegjjmkaaGreatDoorPi01
import Derived.Test.YtfckekaegjjmkaaGreatDoorPi08
namespace Go.Proofs.YtfckekaegjjmkaaGreatDoor
open Go.RowKit Go.Shelf
attribute [local go_sem] Oper.semAt_some wide_fn wide_depth

def UnqI (n E b : Nat) (w : World) (pre : List Part) (W : World) : Prop := (∀ e, .error e ∉ pre) ∧ (IsB (n + 1) b (Lib.byteCells (partBytes pre)) W ∧ Blk W E #[.nilIface] 62 ∧ Blk W (b + 1) #[.pointer (some ⟨n, 0, none⟩)] 219) ∧ Below n w W
def UnqX (n E : Nat) (aT aQ : Addr) (w : World) (c : Code) (pre : List Part) (W : World) : Prop := (c = .exit 0 ∧ ∃ xs e, pre = xs ++ [.error e] ∧ Blk W E #[errV (if e then aT else aQ)] 62) ∧ Below n w W
def UnqA (aT aQ : Addr) (m : Nat) (T : Array Value) (pre : List Part) (x : Part) (a' : Act) (_ : World) : Prop := ((pre ++ [x]).length ≤ m + 1 ∧ ∀ v, .ok v ∈ pre ++ [x] → charOk v) ∧ match x with
  | .ok v => a' = { tmps := (((T.setIfInBounds 47 (.int .i32 (v : Int))).setIfInBounds 48 .nilIface).setIfInBounds 10 (.int .i32 (v : Int))).setIfInBounds 11 .nilIface, defers := [] }
  | .error e => a' = { tmps := (((T.setIfInBounds 47 (.int .i32 0)).setIfInBounds 48 (errV (if e then aT else aQ))).setIfInBounds 10 (.int .i32 0)).setIfInBounds 11 (errV (if e then aT else aQ)), defers := [] }
theorem unqI_own (n E b : Nat) (w : World) {m : Nat} (hm : n ≤ m) (hm2 : n ≤ w.heap.size) : OwnFrom m (UnqI n E b w) := by
  refine fun s X Y row hs hg hr => ⟨hs.1, ⟨?_, ?_, ?_⟩, ?_⟩
  · exact isB_grown hs.2.1.1 hg (fun r e => .inr (hr r e).2)
  · exact blk_own _ _ (fun _ : Unit => _) () X Y row hs.2.1.2.1 hg (fun r e => (hr r e).2)
  · exact blk_own _ _ (fun _ : Unit => _) () X Y row hs.2.1.2.2 hg (fun r e => (hr r e).2)
  · exact ownFrom_below (β := Unit) hm2 hm () X Y row hs.2.2 hg hr

set_option maxHeartbeats 4000000 in
set_option maxRecDepth 100000 in
theorem utf_Unquote_in {aT aQ : Addr} (s : ByteArray) (w : World) (h : UW w aT aQ) (k : Nat) (hk0 : 1 ≤ k) (hk : k ≤ s.size) (hs : s.size ≤ 1000000000)
    (hf : firstV aT aQ s = .tuple #[.int .i32 34, .int .i64 k, .nilIface]) :
    Calls Tryz.prog 150 #[.string s] w fun e w' => Below w.heap.size w w' ∧ match unqL s.size (s.data.toList.drop k) with
      | .error b => e = .returned (.tuple #[.string ⟨#[]⟩, .string s, .int .i64 (if b then 20 else 21)])
      | .ok (t, r) => e = .returned (.tuple #[.string ⟨t.toArray⟩, .string ⟨r.toArray⟩, .int .i64 0]) := by
  have hU0 : UWB w.heap.size (w.alloc (.cells #[.string s] 223)) aT aQ := (UWB.of h).to ((Below.refl _ w).alloc (Nat.le_refl _) _)
  have hp0 : Rd (w.alloc (.cells #[.string s] 223)) w.heap.size s := Blk.new _ _ _
  have HF := Lib.hid (utf_first s w.heap.size _ hU0.uw hp0)
  rw [hf] at HF
  have hb0 : Below w.heap.size w (w.alloc (.cells #[.string s] 223)) := (Below.refl _ w).alloc (Nat.le_refl _) _
  have k1 := built_left s
  have k2 := built_reader s
  have z1 : (k : Int) ≤ s.size := by omega
  have z2 : (0 : Int) ≤ k := by omega
  have hfu : (s.data.toList.drop k).length < s.size := by
    rw [List.length_drop]
    have : s.data.toList.length = s.size := by simp
    omega
  clear hf hk hk0
  refine calls_of_marks Tryz.func150 rfl ?_
  simp only [Tryz.ntmps150, List.size_toArray, List.length_cons, List.length_nil, Nat.reduceAdd, Nat.reduceSub, Array.replicate_succ, Array.replicate_zero, List.push_toArray, List.append_toArray, List.nil_append, List.cons_append]
  go_wp2_with fail
  go_step3
  go_wp2_with fail
  refine HF.out.mono ?_
  rintro e w1 ⟨rfl, hb1⟩
  have hU1 : UWB w.heap.size w1 aT aQ := hU0.to (hb1.mono (by simp))
  have hb01 := hb0.trans (hb1.mono (by simp))
  have hp1 : Rd w1 w.heap.size s := hp0.below hb1 hp0.lt
  have hpE : Rd (w1.alloc (.cells #[.nilIface] 62)) w.heap.size s := hp1.alloc _
  have hcp := hpE.cell 0
  have hfp := hpE.frozen 0
  clear hb0 hb1 hU0 hp0 HF
  obtain ⟨r, hr⟩ : ∃ r, s.extract k s.size = r := ⟨_, rfl⟩
  have hrl := extract_list s k
  rw [hr] at hrl
  have HR := Lib.hid hr
  have HRL := Lib.hid hrl
  clear hr hrl
  go_wp2_with fail
  go_step3
  go_wp2_with fail
  rw [HR.out]
  have hn1 : w.heap.size < w1.heap.size := hp1.lt
  have hbE : Blk (w1.alloc (.cells #[.nilIface] 62)) w1.heap.size #[.nilIface] 62 := Blk.new _ _ _
  have hzS : ((w1.alloc (.cells #[.nilIface] 62)).setCell ⟨w.heap.size, 0, none⟩ (.string r)).heap.size = w1.heap.size + 1 := by simp [World.setCell]
  have hpS := hpE.put r
  have hbS := hbE.other (by omega : w1.heap.size ≠ w.heap.size) 0 (.string r)
  have hB1 := hb01.alloc hU1.le (.cells #[.nilIface] 62)
  have hBS := hB1.setCell (p := ⟨w.heap.size, 0, none⟩) (Nat.le_refl _) (.string r)
  generalize (w1.alloc (.cells #[.nilIface] 62)).setCell ⟨w.heap.size, 0, none⟩ (.string r) = wS at hzS hpS hbS hBS ⊢
  clear hpE hbE hcp hfp hp1 hB1
  refine (utf_parts _ _).mono ?_
  rintro e w3 ⟨rfl, hw3⟩
  have hz3 : w3.heap.size = w1.heap.size + 3 := by rw [← hw3]; simp [hzS]
  have hp3 : Rd w3 w.heap.size r := by rw [← hw3]; exact (hpS.alloc _).alloc _
  have hE3 : Blk w3 w1.heap.size #[.nilIface] 62 := by rw [← hw3]; exact (hbS.alloc _).alloc _
  have hI3 : IsB (w.heap.size + 1) (w1.heap.size + 1) [] w3 := by
    refine .inl ⟨by omega, .slice none 0 0, ?_, World.ownsRowF_nil _ _ _ _, by simp [Value.ownBlock]⟩
    have := (Blk.new wS #[.pointer none, .slice none 0 0] 81).alloc (.cells #[.pointer (some ⟨w.heap.size, 0, none⟩)] 219)
    rw [hzS] at this
    rw [← hw3]
    exact this
  have hC3 : Blk w3 (w1.heap.size + 2) #[.pointer (some ⟨w.heap.size, 0, none⟩)] 219 := by
    have := Blk.new (wS.alloc (.cells #[.pointer none, .slice none 0 0] 81)) #[.pointer (some ⟨w.heap.size, 0, none⟩)] 219
    rw [World.size_alloc, hzS] at this
    rw [← hw3]
    exact this
  have hB3 : Below w.heap.size w w3 := by rw [← hw3]; exact (hBS.alloc (by omega) _).alloc (by simp; omega) _
  have hU3 : UWB w.heap.size w3 aT aQ := ⟨w, rfl, h, hB3⟩
  clear hpS hbS hBS hw3
  rw [World.size_alloc, hzS]
  clear hzS
  go_wp2_with fail
  refine wp_rangeFuncW (gf := 216) (lb := #[.pointer (some ⟨w1.heap.size + 2, 0, none⟩)]) rfl (enters_of Tryz.func216 (by kernel_rfl) rfl)
    (utf_parts_seq w.heap.size w.heap.size (w1.heap.size + 2) aT aQ r (Nat.le_refl _) (by omega)) ?hMv ?hA0 ?hKt ?hKb ?hps (UnqI w.heap.size w1.heap.size (w1.heap.size + 1) w) (UnqX w.heap.size w1.heap.size aT aQ w) ?hI ?hIx ?hIM ?hIxM ?h0 ?hCt
    (UnqA aT aQ r.size) ?hAx ?assign ?body ?hS ?hSp ?done ?stop
  case hMv =>
    intro A B k o hM hk ho _
    exact (hM.block k (Array.getElem?_eq_some_iff.1 ho).1 (fun e => by cases e; omega)).trans ho
  case hA0 =>
    intro o o'
    exact ⟨hU3.to (((Below.refl _ w3).alloc (by omega) o).alloc (by simp; omega) o'), (hp3.alloc o).alloc o', (hC3.alloc o).alloc o'⟩
  case hKt =>
    intro A B C h1 h2
    have hz := h1.1.size
    exact ⟨h1.1.trans h2.1, fun hp => (h2.2.1 (by omega)).trans (h1.2.1 hp), fun hp => (h2.2.2 (by omega)).trans (h1.2.2 hp)⟩
  case hKb =>
    intro W l o o' hl ho hc
    have hlt := (Array.getElem?_eq_some_iff.1 ho).1
    exact ⟨(Below.refl _ W).grown (grownBy_putObj' W l o') (by omega) (fun k e => by cases e; omega), fun _ => World.putObj_heap_other (by omega), fun _ => World.putObj_heap_other (by omega)⟩
  case hps =>
    intro x
    cases x <;> rfl
  case hI => exact unqI_own _ _ _ _ (by omega) (Nat.le_refl _)
  case hIx =>
    intro c
    refine OwnFrom.and (Go.Own.from ?_ _) (ownFrom_below (by omega) (by omega))
    rintro s' X Y row ⟨h1, xs, e, hx, h2⟩ hg hr
    exact ⟨h1, xs, e, hx, blk_own _ _ (fun _ : Unit => _) () X Y row h2 hg hr⟩
  case hIM =>
    rintro s' X Y ⟨h1, ⟨h2, h3, h5⟩, h4⟩ hg
    have hz := h4.size
    refine ⟨h1, ⟨isB_grown h2 hg (fun r e => by cases e; exact .inl (by omega)), h3.kept hg (fun e => by simp only [Option.some.injEq] at e; omega), h5.kept hg (fun e => by simp only [Option.some.injEq] at e; omega)⟩, h4.grown hg (by omega) (fun k e => by cases e; omega)⟩
  case hIxM =>
    rintro c s' X Y ⟨⟨h1, xs, e, hx, h2⟩, h4⟩ hg
    have hz := h4.size
    exact ⟨⟨h1, xs, e, hx, h2.kept hg (fun e => by simp only [Option.some.injEq] at e; omega)⟩, h4.grown hg (by omega) (fun k e => by cases e; omega)⟩
  case h0 => exact ⟨by simp, ⟨hI3, hE3, hC3⟩, hB3⟩
  case hCt =>
    rintro pre x W ⟨h1, _⟩
    cases x with
    | ok y => exact ⟨y, rfl⟩
    | error e => exact absurd (List.mem_append_right _ (List.mem_singleton.2 rfl)) (h1 e)
  case hAx =>
    intro pre x a' _ X Y row hs _ _
    exact hs
  case hS =>
    rintro s' X Y row ⟨l, r', h1, h2, h3⟩ hg hr
    exact ⟨l, r', h1, h2, blk_own _ _ (fun _ : Unit => _) () X Y row h3 hg (fun r e => (hr r e).2)⟩
  case hSp =>
    intro s' X Y row hs _ _
    exact hs
  case assign =>
    rintro l pre x W K hI hT hK
    have HK := Lib.hid hK
    have HI := Lib.hid hI
    have HT := Lib.hid hT
    clear hK hI hT
    cases x with
    | ok v =>
      simp only [partEnc]
      gi_wp2
      exact HK.out _ _ (KeepsFrom.refl _ _) ⟨Below.refl _ _, fun _ => rfl, fun _ => rfl⟩ HI.out ⟨HT.out, rfl⟩
    | error e =>
      simp only [partEnc]
      cases e with
      | true =>
        gi_wp2
        exact HK.out _ _ (KeepsFrom.refl _ _) ⟨Below.refl _ _, fun _ => rfl, fun _ => rfl⟩ HI.out ⟨HT.out, rfl⟩
      | false =>
        gi_wp2
        exact HK.out _ _ (KeepsFrom.refl _ _) ⟨Below.refl _ _, fun _ => rfl, fun _ => rfl⟩ HI.out ⟨HT.out, rfl⟩
  case body =>
    rintro l pre x a' W hl _ ⟨h1, ⟨h2, h3, h5⟩, h4⟩ ⟨⟨hlen, hch⟩, ha⟩
    have hz := h4.size
    have hbz := h3.lt
    have hcE := h3.cell 0
    have hfE := h3.frozen 0
    cases x with
    | ok v =>
      obtain rfl := ha
      simp only [List.setIfInBounds_toArray, List.set_cons_zero, List.set_cons_succ]
      have hI2 := isB_set h2 h3 (by omega : w1.heap.size ≠ w1.heap.size + 1) (by decide) 0 .nilIface
      have hb2 := partBytes_len pre
      have hlen2 : (Lib.byteCells (partBytes pre)).length + 4 ≤ 140737488355328 := by
        rw [Lib.byteCells_length]
        simp only [List.length_append, List.length_singleton] at hlen
        have := HRL.out
        have e1 : r.data.toList.length = r.size := by simp
        have e2 : s.data.toList.length = s.size := by simp
        rw [this, List.length_drop] at e1
        omega
      have hv : (v : Int) ≤ 2147483647 := by
        have := charOk_le (hch v (List.mem_append_right _ (List.mem_singleton.2 rfl)))
        omega
      have HCH := Lib.hid hch
      clear hch
      have HW := Lib.hid (b_WriteRune (w.heap.size + 1) (w1.heap.size + 1) _ v (by omega) hv _ hI2 hlen2 (by simp [World.setCell]; omega))
      gi_wp2_with fail
      refine (show CallsIn (Fence.wide.inRound l) 6 _ _ _ _ _ from (callsIn_wide.2 HW.out : CallsIn Fence.wide 6 _ _ _ _ _)).mono ?_
      rintro e W1 ⟨rfl, hA1, hb1, hk1⟩
      have hz1 := hb1.size
      simp only [World.setCell, Array.size_modify] at hz1
      have hE1 : Blk W1 w1.heap.size #[.nilIface] 62 := others_blk hk1 ((h3.set 0 .nilIface) : Blk _ _ #[.nilIface] _) (by omega) (by decide)
      have hC1 := others_blk hk1 (h5.other (by omega : w1.heap.size + 1 + 1 ≠ w1.heap.size) 0 .nilIface) (by omega) (by decide)
      gi_wp2_with fail
      refine ⟨(KeepsOthers.setCell W _ _).from _ |>.trans (others_from hk1 hb1.size hI2), ⟨?_, ?_, ?_⟩, ⟨?_, ⟨?_, hE1, hC1⟩, ?_⟩⟩
      · exact ((Below.refl _ W).setCell (by simp; omega) _).trans (hb1.mono (by omega))
      · intro hp
        exact (hb1.block w.heap.size (by omega)).trans (Below.heap_setCell _ _ _ _ (by simp; omega))
      · intro hp
        exact hC1.trans h5.symm
      · intro e he
        rcases List.mem_append.1 he with q | q
        · exact h1 e q
        · cases List.mem_singleton.1 q
      · rw [partBytes_snoc, Lib.byteCells_append, Lib.byteCells_encodeRune]
        exact hA1.is
      · exact (h4.setCell (by simp; omega) _).trans (hb1.mono (by omega))
    | error e =>
      obtain rfl := ha
      simp only [List.setIfInBounds_toArray, List.set_cons_zero, List.set_cons_succ]
      cases e with
      | true =>
        gi_wp2_with fail
        exact ⟨(KeepsOthers.setCell W _ _).from _, ⟨rfl, pre, true, rfl, h3.set 0 _⟩, h4.setCell (by simp; omega) _⟩
      | false =>
        gi_wp2_with fail
        exact ⟨(KeepsOthers.setCell W _ _).from _, ⟨rfl, pre, false, rfl, h3.set 0 _⟩, h4.setCell (by simp; omega) _⟩
  case done =>
    rintro D xs W hD ⟨l, r', hst, hnx, hp⟩ ⟨h1, ⟨h2, h3, h5⟩, h4⟩ hK
    have hq := hst.unq_end hnx (f := s.size) (by rw [HRL.out]; exact hfu)
    rw [HRL.out] at hq
    have HQ := Lib.hid hq
    clear hq hst hnx
    have hcE := h3.cell 0
    have hcp := hp.cell 0
    have HS := Lib.hid (fun (W : World) (h2 : IsB (w.heap.size + 1) (w1.heap.size + 1) (Lib.byteCells (partBytes xs)) W) (hz : w.heap.size + 1 ≤ W.heap.size) => Tryz.Builder_String_any_k (w.heap.size + 1) (w1.heap.size + 1) (partBytes xs) W h2 hz)
    have hzW : w.heap.size + 1 ≤ W.heap.size := hp.lt
    have H2 := Lib.hid h2
    have HK := Lib.hid hK
    have hDb : w1.heap.size + 1 < D := by omega
    have hDn : w.heap.size ≤ D := by omega
    clear hz3 hp3 hE3 hI3 hC3 hB3 hU3 hU1 hb01 h1 h2 h3 h5 hK hD hn1 k1 k2 h hp
    go_wp2_with fail
    go_region_held3 (fun w' => w'.cell? ⟨w.heap.size, 0, none⟩ = some (.string ⟨r'.toArray⟩)) (go_keep)
      (first | (go_at_call 47; refine (HS.out W.drew H2.out hzW).mono ?_; rintro e w4 ⟨rfl, _, hb4, hk4⟩; have hc4 : w4.cell? ⟨w.heap.size, 0, none⟩ = some (.string ⟨r'.toArray⟩) := (hb4.cell (p := ⟨w.heap.size, 0, none⟩) (Nat.lt_succ_self _)).trans hcp))
    have hK4 : w4.heap[D]? = some (.deferred (some [])) := hk4 D _ HK.out (fun e => by simp only [Option.some.injEq] at e; omega) (fun c fz e => by cases e)
    have hz4 := hb4.size
    have hz4' : W.drew.heap.size = W.heap.size := rfl
    have hw4 : Below w.heap.size w w4 := (h4.trans (below_drewN (Below.refl _ _) 1)).trans (hb4.mono (by omega))
    have HK4 := Lib.hid hK4
    clear hK4 hk4 hcE hcp HK H2 HS hb4 h4
    go_wp2_with fail
    rw [Exit.noGoto_ret]
    refine leave1 (v := .tuple #[.string ⟨(partBytes xs).toArray⟩, .string ⟨r'.toArray⟩, .int .i64 0]) HK4.out (by simp [results, Tryz.results150, go_sem]) rfl ⟨below_shut hw4 hDn (by omega) _, ?_⟩
    rw [HQ.out]
  case stop =>
    rintro D c pre W hD hsp ⟨⟨rfl, xs, e, rfl, h3⟩, h4⟩ hK
    have hq : unqL s.size r.data.toList = .error e := by
      rcases hsp with ⟨ys, b, l, hy, hst, hnx⟩ | ⟨l, hst⟩
      · obtain ⟨rfl, h⟩ := List.append_inj' hy rfl
        cases h
        exact hst.unq_error hnx (by rw [HRL.out]; exact hfu)
      · exact absurd (List.mem_append_right _ (List.mem_singleton.2 rfl)) (hst.ok e)
    rw [HRL.out] at hq
    have HQ := Lib.hid hq
    have hcE := h3.cell 0
    have hU := h.below h4
    clear hq hsp
    have hDn : w.heap.size ≤ D := by omega
    have hz4 := h4.size
    have HK := Lib.hid hK
    clear hK hz3 hp3 hE3 hI3 hC3 hB3 hU3 hU1 hb01 k1 k2 h hD hn1
    cases e with
    | true =>
      have HT := Lib.hid (told_text W hU)
      simp only [if_true] at h3 hcE
      go_wp2_with fail
      refine HT.out.mono ?_
      rintro e W' ⟨rfl, hW⟩
      obtain rfl : W = W' := hW
      go_wp2_with fail
      rw [Exit.noGoto_ret]
      refine leave1 (v := .tuple #[.string ⟨#[]⟩, .string s, .int .i64 20]) HK.out (by simp [results, Tryz.results150, go_sem]) rfl ⟨below_shut h4 hDn (by omega) _, ?_⟩
      rw [HQ.out]
      rfl
    | false =>
      have HT := Lib.hid (told_quote W hU)
      simp only [Bool.false_eq_true, if_false] at h3 hcE
      go_wp2_with fail
      refine HT.out.mono ?_
      rintro e W' ⟨rfl, hW⟩
      obtain rfl : W = W' := hW
      go_wp2_with fail
      rw [Exit.noGoto_ret]
      refine leave1 (v := .tuple #[.string ⟨#[]⟩, .string s, .int .i64 21]) HK.out (by simp [results, Tryz.results150, go_sem]) rfl ⟨below_shut h4 hDn (by omega) _, ?_⟩
      rw [HQ.out]
      rfl
end Go.Proofs.YtfckekaegjjmkaaGreatDoor
namespace Go.Proofs.YtfckekaegjjmkaaGreatDoor
open Go.RowKit Go.Shelf

theorem utf_Unquote {aT aQ : Addr} (s : ByteArray) (w : World) (h : UW w aT aQ) (hs : s.size ≤ 1000000000) :
    Calls Tryz.prog 150 #[.string s] w (UnqPost s w) := by
  have hbad : ∀ b : Bool, unquoteL s.data.toList = .error b → firstV aT aQ s = .tuple #[.int .i32 0, .int .i64 0, errV (if b then aT else aQ)] → Calls Tryz.prog 150 #[.string s] w (UnqPost s w) := fun b hb hf => by
    refine (utf_Unquote_no s w h b hf).mono ?_
    rintro e w' ⟨rfl, hw⟩
    refine ⟨hw, ?_⟩
    rw [hb]
  by_cases h0 : s.size = 0
  · refine hbad false ?_ ?_
    · rw [str_empty h0]
      rfl
    · unfold firstV
      rw [if_pos h0]
      rfl
  · have hne := list_ne h0
    have hdec := decodeGo_list h0
    by_cases h1 : Lib.decodeL s.data.toList = (65533, 1)
    · refine hbad true ?_ ?_
      · unfold unquoteL
        rw [if_neg hne, if_pos h1]
      · unfold firstV
        rw [if_neg h0, hdec, if_pos h1]
        rfl
    · have hf : firstV aT aQ s = .tuple #[.int .i32 (Lib.decodeL s.data.toList).1, .int .i64 (Lib.decodeL s.data.toList).2, .nilIface] := by
        unfold firstV
        rw [if_neg h0, hdec, if_neg h1]
      by_cases h2 : (Lib.decodeL s.data.toList).1 = 34
      · have hle := Lib.decodeL_le _ hne
        have hlen : s.data.toList.length = s.size := by simp
        rw [hlen] at hle
        rw [h2] at hf
        refine (utf_Unquote_in s w h _ (Lib.decodeL_width _) hle hs hf).mono ?_
        rintro e w' ⟨hw, hm⟩
        refine ⟨hw, ?_⟩
        unfold unquoteL
        rw [if_neg hne, if_neg h1, if_neg (fun e => e h2), hlen]
        exact hm
      · refine (utf_Unquote_else s w h _ _ h2 hf).mono ?_
        rintro e w' ⟨rfl, hw⟩
        refine ⟨hw, ?_⟩
        unfold unquoteL
        rw [if_neg hne, if_neg h1, if_pos h2]
        rfl
end Go.Proofs.YtfckekaegjjmkaaGreatDoor
namespace Go.Proofs.YtfckekaegjjmkaaGreatDoor
open Go.RowKit Go.Shelf




theorem drop_at (s : ByteArray) (k : Nat) (h : k < s.size) : s.data.toList.drop k = s[k] :: s.data.toList.drop (k + 1) := by
  rw [List.drop_eq_getElem_cons (by simpa using h)]
  congr 1


end Go.Proofs.YtfckekaegjjmkaaGreatDoor
namespace Go.Proofs.YtfckekaegjjmkaaGreatDoor
open Go.RowKit Go.Shelf

set_option maxHeartbeats 4000000 in
set_option maxRecDepth 100000 in
theorem rd_next_no (p q : Nat) (s : ByteArray) (cs : List UInt8) (cap : Nat) (w : World) (hR : Blk w p #[.string s] 154) (hQ : ∀ k (h : k < cs.length), w.cell? ⟨q, k, none⟩ = some (.int .u8 (cs[k].toNat : Int))) (hz : s.size ≤ 1000000000) (hc : cs.length ≤ 10)
    (h : ∀ x r, s.data.toList = x :: r → x ∉ cs) :
    Calls Tryz.prog 119 #[.pointer (some ⟨p, 0, none⟩), .slice (some ⟨q, 0, none⟩) cs.length cap] w fun e w' => e = .returned (.bool false) ∧ w' = w := by
  have c0 := hR.cell 0
  obtain ⟨n, hn⟩ : ∃ n, cs.length = n := ⟨_, rfl⟩
  rw [hn] at hc ⊢
  have HN := Lib.hid hn
  have HQ := Lib.hid hQ
  have HH := Lib.hid h
  clear hn hQ h hR
  go_enter Tryz.func119, Tryz.ntmps119
  go_wp2_with fail
  go_loopw [9] (fun i wr => ∃ k : Nat, k ≤ n ∧ i = .int .i64 k ∧ wr = w) (fun i _ => n - (intOf i).toNat)
  case atStart => exact ⟨0, by omega, rfl, rfl⟩
  case round =>
    obtain ⟨k, hk, rfl, rfl⟩ := hrel
    by_cases hlt : k < n
    · have hkl : k < cs.length := by rw [HN.out]; exact hlt
      have hq := HQ.out k hkl
      obtain ⟨cb, hcb⟩ : ∃ cb, cs[k] = cb := ⟨_, rfl⟩
      have hcm : cb ∈ cs := by rw [← hcb]; exact List.getElem_mem hkl
      rw [hcb] at hq
      have y1 : (k : Int) < n := by omega
      clear hcb hkl
      by_cases h0 : s.size = 0
      · have hse : s = ⟨#[]⟩ := by
          apply ByteArray.ext
          exact Array.eq_empty_of_size_eq_zero h0
        subst hse
        clear HN HQ HH h0 hcm
        go_wp2_with fail
        go_roundw
        case rel => exact ⟨k + 1, by omega, congrArg (Value.int .i64) (Int.natCast_succ k).symm, trivial⟩
        case measure => simp [intOf]; omega
      · have hne := str_nonempty h0
        have z0 : (0 : Int) < s.size := by omega
        have z1 : 0 < s.size := by omega
        have hx : ¬ s[0] = cb := fun e => by
          refine HH.out s[0] (s.data.toList.drop 1) ?_ (by rw [e]; exact hcm)
          have := drop_at s 0 z1
          rw [List.drop_zero] at this
          exact this
        have y2 : ((s[0].toNat : Int) == (cb.toNat : Int)) = false := by
          rw [beq_eq_false_iff_ne]
          intro e
          exact hx (UInt8.toNat_inj.1 (by omega))
        obtain ⟨ck, hck⟩ : ∃ ck : Int, (cb.toNat : Int) = ck := ⟨_, rfl⟩
        rw [hck] at hq y2
        clear HN HQ HH h0 hx hck hcm
        go_wp2_with fail
        go_roundw
        case rel => exact ⟨k + 1, by omega, congrArg (Value.int .i64) (Int.natCast_succ k).symm, trivial⟩
        case measure => simp [intOf]; omega
    · have y1 : ¬ (k : Int) < n := by omega
      go_wp2_with fail
      go_ret
      exact ⟨rfl, rfl⟩

set_option maxHeartbeats 4000000 in
set_option maxRecDepth 100000 in
theorem rd_next_yes (p q : Nat) (s : ByteArray) (cs : List UInt8) (cap : Nat) (w : World) (hR : Blk w p #[.string s] 154) (hQ : ∀ k (h : k < cs.length), w.cell? ⟨q, k, none⟩ = some (.int .u8 (cs[k].toNat : Int))) (hz : s.size ≤ 1000000000) (hc : cs.length ≤ 10)
    (x : UInt8) (r : List UInt8) (h : s.data.toList = x :: r) (hx : x ∈ cs) :
    Calls Tryz.prog 119 #[.pointer (some ⟨p, 0, none⟩), .slice (some ⟨q, 0, none⟩) cs.length cap] w fun e w' => e = .returned (.bool true) ∧ w' = w.setCell ⟨p, 0, none⟩ (.string ⟨r.toArray⟩) := by
  have c0 := hR.cell 0
  have f0 := hR.frozen 0
  obtain ⟨n, hn⟩ : ∃ n, cs.length = n := ⟨_, rfl⟩
  rw [hn] at hc ⊢
  have hsl : s.data.toList.length = s.size := by simp
  rw [h, List.length_cons] at hsl
  have z1 : 0 < s.size := by omega
  have z0 : (0 : Int) < s.size := by omega
  have z2 : (1 : Int) ≤ s.size := by omega
  have hne := str_nonempty (show s.size ≠ 0 by omega)
  have hs0 : s[0] = x := by
    have := drop_at s 0 z1
    rw [List.drop_zero, h] at this
    exact (List.cons.inj this).1.symm
  have hex : s.extract 1 s.size = ⟨r.toArray⟩ := by
    apply ByteArray.ext
    apply Array.toList_inj.1
    have : (s.extract 1 s.size).data.toList = (s.data.toList.drop 1).take (s.size - 1) := by simp [ByteArray.data_extract]
    rw [this, h, List.drop_one, List.tail_cons, List.take_of_length_le (by omega)]
  obtain ⟨sr, hsr⟩ : ∃ sr, s.extract 1 s.size = sr := ⟨_, rfl⟩
  rw [← hex, hsr]
  have HN := Lib.hid hn
  have HQ := Lib.hid hQ
  have HX := Lib.hid hx
  clear hn hQ h hR hx hsl hex
  go_enter Tryz.func119, Tryz.ntmps119
  go_wp2_with fail
  go_loopw [9] (fun i wr => ∃ k : Nat, k ≤ n ∧ i = .int .i64 k ∧ wr = w ∧ Hid (x ∉ cs.take k)) (fun i _ => n - (intOf i).toNat)
  case atStart => exact ⟨0, by omega, rfl, rfl, Lib.hid (by simp)⟩
  case round =>
    obtain ⟨k, hk, rfl, rfl, HK⟩ := hrel
    by_cases hlt : k < n
    · have hkl : k < cs.length := by rw [HN.out]; exact hlt
      have hq := HQ.out k hkl
      obtain ⟨cb, hcb⟩ : ∃ cb, cs[k] = cb := ⟨_, rfl⟩
      rw [hcb] at hq
      have htk : cs.take (k + 1) = cs.take k ++ [cb] := by rw [List.take_succ_eq_append_getElem hkl, hcb]
      have HTK := Lib.hid htk
      have y1 : (k : Int) < n := by omega
      clear hcb hkl htk
      by_cases hxe : x = cb
      · have y2 : ((s[0].toNat : Int) == (cb.toNat : Int)) = true := by
          rw [beq_iff_eq, hs0, hxe]
        obtain ⟨ck, hck⟩ : ∃ ck : Int, (cb.toNat : Int) = ck := ⟨_, rfl⟩
        rw [hck] at hq y2
        clear HN HQ HX HTK HK hxe hck hs0
        go_wp2_with fail
        go_ret
        exact ⟨rfl, rfl⟩
      · have y2 : ((s[0].toNat : Int) == (cb.toNat : Int)) = false := by
          rw [beq_eq_false_iff_ne, hs0]
          intro e
          exact hxe (UInt8.toNat_inj.1 (by omega))
        have HK2 := Lib.hid (show x ∉ cs.take (k + 1) by
          rw [HTK.out, List.mem_append, List.mem_singleton]
          rintro (h | h)
          · exact HK.out h
          · exact hxe h)
        obtain ⟨ck, hck⟩ : ∃ ck : Int, (cb.toNat : Int) = ck := ⟨_, rfl⟩
        rw [hck] at hq y2
        clear HN HQ HTK HK hxe hck hs0
        go_wp2_with fail
        go_roundw
        case rel => exact ⟨k + 1, by omega, congrArg (Value.int .i64) (Int.natCast_succ k).symm, trivial, HK2⟩
        case measure => simp [intOf]; omega
    · exfalso
      have : k = n := by omega
      subst this
      refine HK.out ?_
      rw [← HN.out, List.take_length]
      exact HX.out
end Go.Proofs.YtfckekaegjjmkaaGreatDoor
namespace Go.Proofs.YtfckekaegjjmkaaGreatDoor
open Go.RowKit Go.Shelf

set_option maxHeartbeats 2000000 in
set_option maxRecDepth 100000 in
theorem dec_isDigit (x : Int) (w : World) :
    Calls Tryz.prog 155 #[.int .i32 x] w fun e w' => e = .returned (.bool (decide (48 ≤ x) && decide (x ≤ 57))) ∧ w' = w := by
  by_cases h : 48 ≤ x
  · rw [decide_eq_true h, Bool.true_and]
    go_enter Tryz.func155, Tryz.ntmps155
    go_wp2_with fail
    go_ret
    exact ⟨rfl, rfl⟩
  · rw [decide_eq_false h, Bool.false_and]
    go_enter Tryz.func155, Tryz.ntmps155
    go_wp2_with fail
    go_ret
    exact ⟨rfl, rfl⟩
end Go.Proofs.YtfckekaegjjmkaaGreatDoor
