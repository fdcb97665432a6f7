/- The walk of head.least. -/
import Derived.Test.YtanccdmlddgnaaaHeadA
import Derived.Lib.Hide
namespace Go.Proofs.Ytanccdmlddgnaaa
open Go.RowKit Go.Shelf
attribute [local go_sem] Oper.semAt_some wide_fn wide_depth

def leastOf (n : Int) : Int × Int := if n < 24 then (n, 0) else if n < 256 then (24, 1) else if n < 65536 then (25, 2) else if n < 4294967296 then (26, 4) else (27, 8)

set_option maxRecDepth 100000 in
set_option maxHeartbeats 400000 in
theorem head_least (n : Int) (h0n : 0 ≤ n) (hn64 : n < 18446744073709551616) (w : World) :
    Calls Try.prog 20 #[.int .u64 n] w fun e w' => e = .returned (.agg #[.int .i64 (leastOf n).1, .int .i64 (leastOf n).2]) ∧ Below w.heap.size w w' := by
  refine calls_of_marks Try.func20 rfl ?_
  simp only [Try.ntmps20, List.size_toArray, List.length_cons, List.length_nil, Nat.reduceAdd, Nat.reduceSub, Array.replicate_succ, Array.replicate_zero, List.push_toArray, List.append_toArray, List.nil_append, List.cons_append]
  by_cases h24 : n < 24
  · go_wp2
    go_step3
    go_wp2
    rw [Exit.noGoto_ret]
    exact leave0 (v := .agg #[.int .i64 n, .int .i64 0]) (by simp [results, Try.results20, go_sem]) rfl ⟨by simp [leastOf, h24], ((Below.refl _ _).alloc (Nat.le_refl _) _).alloc (by simp) _⟩
  · go_wp2
    go_step3
    go_wp2
    go_step3
    go_wp2_with (go_at_call 25; refine (head_fitting _ _).mono ?_; rintro e w' ⟨rfl, rfl⟩)
    have bA := Blk.new ((w.alloc (Obj.cells #[Value.int IntKind.i64 0, Value.int IntKind.i64 0] 41)).alloc (Obj.cells #[Value.int IntKind.i64 (wrap64 n), Value.int IntKind.i64 0] 41)) #[.int .u64 n] 22
    have bR := ((Blk.new w #[Value.int IntKind.i64 0, Value.int IntKind.i64 0] 41).alloc (Obj.cells #[Value.int IntKind.i64 (wrap64 n), Value.int IntKind.i64 0] 41)).alloc (Obj.cells #[Value.int .u64 n] 22)
    have bO := (Blk.new (w.alloc (Obj.cells #[Value.int IntKind.i64 0, Value.int IntKind.i64 0] 41)) #[Value.int IntKind.i64 (wrap64 n), Value.int IntKind.i64 0] 41).alloc (Obj.cells #[Value.int .u64 n] 22)
    have hB0 : Below w.heap.size w (((w.alloc (Obj.cells #[Value.int IntKind.i64 0, Value.int IntKind.i64 0] 41)).alloc (Obj.cells #[Value.int IntKind.i64 (wrap64 n), Value.int IntKind.i64 0] 41)).alloc (Obj.cells #[Value.int IntKind.u64 n] 22)) := (((Below.refl _ w).alloc (Nat.le_refl _) _).alloc (by simp) _).alloc (by simp; omega) _
    have hsz : (((w.alloc (Obj.cells #[Value.int IntKind.i64 0, Value.int IntKind.i64 0] 41)).alloc (Obj.cells #[Value.int IntKind.i64 (wrap64 n), Value.int IntKind.i64 0] 41)).alloc (Obj.cells #[Value.int IntKind.u64 n] 22)).heap.size = w.heap.size + 3 := by simp
    simp only [World.size_alloc] at bA bO bR
    obtain ⟨W0, hW0⟩ : ∃ W0, ((w.alloc (Obj.cells #[Value.int IntKind.i64 0, Value.int IntKind.i64 0] 41)).alloc (Obj.cells #[Value.int IntKind.i64 (wrap64 n), Value.int IntKind.i64 0] 41)).alloc (Obj.cells #[Value.int IntKind.u64 n] 22) = W0 := ⟨_, rfl⟩
    rw [hW0] at bA bO bR hB0 hsz ⊢
    clear hW0
    refine wp_rangeFunc (gf := 26) (lb := #[.pointer (some ⟨w.heap.size + 1 + 1, 0, none⟩)]) rfl (enters_of Try.func26 (by kernel_rfl) rfl)
      (head_fitting_stops 8 (w.heap.size + 1 + 1) (w.heap.size + 3) n h0n hn64 W0 (by omega) (by omega) ((bA.cell 0).trans rfl)) (by omega) (Below.refl _ _) (fun _ => rfl)
      (fun pre W => (pre = [] ∧ Blk W w.heap.size #[.int .i64 0, .int .i64 0] 41 ∧ Blk W (w.heap.size + 1) #[.int .i64 (wrap64 n), .int .i64 0] 41) ∧ Below w.heap.size W0 W)
      (fun c pre W => (c = .exit 0 ∧ ∃ x : Int × Int, pre = [x] ∧ Blk W w.heap.size #[.int .i64 0, .int .i64 0] 41 ∧ Blk W (w.heap.size + 1) #[.int .i64 x.1, .int .i64 x.2] 41) ∧ Below w.heap.size W0 W)
      ?hI ?hIx ⟨⟨rfl, bR, bO⟩, Below.refl _ _⟩
      (fun T x a' W => ∃ Bx, w.heap.size + 1 < Bx ∧ Blk W Bx #[.int .i64 x.1, .int .i64 x.2] 41 ∧ a' = { tmps := (T.setIfInBounds 13 (.agg #[.int .i64 x.1, .int .i64 x.2])).setIfInBounds 4 (.pointer (some ⟨Bx, 0, none⟩)), defers := [] })
      ?hAx ?assign ?body ?done ?stop
    case hI =>
      refine OwnFrom.and (Own.from ?_ _) (ownFrom_below (by omega) (by omega))
      rintro s X Y row ⟨h1, h2, h3⟩ hg hr
      exact ⟨h1, blk_own _ _ (fun _ : Unit => _) () X Y row h2 hg hr, blk_own _ _ (fun _ : Unit => _) () X Y row h3 hg hr⟩
    case hIx =>
      intro c
      refine OwnFrom.and (Own.from ?_ _) (ownFrom_below (by omega) (by omega))
      rintro s X Y row ⟨h1, x, hx, h2, h3⟩ hg hr
      exact ⟨h1, x, hx, blk_own _ _ (fun _ : Unit => _) () X Y row h2 hg hr, blk_own _ _ (fun _ : Unit => _) () X Y row h3 hg hr⟩
    case hAx =>
      rintro x a' _ X Y row ⟨Bx, h1, h2, h3⟩ hg hr
      exact ⟨Bx, h1, blk_own _ _ (fun _ : Unit => _) () X Y row h2 hg (fun r e => (hr r e).2), h3⟩
    case assign =>
      rintro l pre x W K ⟨⟨hp, h1, h2⟩, hB⟩ hK
      have HK := Lib.hid hK
      clear hK
      have hz := hB.size
      gi_wp2
      exact HK.out _ _ ((KeepsOthers.alloc _ _).from _) ((Below.refl _ _).alloc (by omega) _) ⟨⟨hp, h1.alloc _, h2.alloc _⟩, hB.alloc (by omega) _⟩ ⟨W.heap.size, h2.lt, Blk.new _ _ _, rfl⟩
    case body =>
      rintro l pre x a' W hl ⟨r, hr⟩ ⟨⟨rfl, h1, h2⟩, hB⟩ ⟨Bx, hBx, bX, rfl⟩ hlt
      have hx0 := bX.cell 0
      have hx1 := bX.cell 1
      have ho0 := h2.cell 0
      have ho1 := h2.cell 1
      have hf := h2.frozen
      simp only [List.setIfInBounds_toArray, List.set_cons_zero, List.set_cons_succ]
      gi_wp2
      exact ⟨((KeepsOthers.setCell _ _ _).trans (KeepsOthers.setCell _ _ _)).from _, ⟨rfl, x, rfl, (h1.other (by omega) _ _).other (by omega) _ _, (h2.set 0 _).set 1 _⟩, (hB.setCell (by simp) _).setCell (by simp) _⟩
    case done =>
      rintro D ys W hD rfl ⟨⟨hp, _⟩, _⟩ hK
      exact absurd hp (by rw [fitsTo_4]; simp)
    case stop =>
      rintro D c pre W hD hp ⟨⟨rfl, x, rfl, h1, h2⟩, hB⟩ hK
      have ho0 := h2.cell 0
      have ho1 := h2.cell 1
      have hr0 := h1.cell 0
      have hr1 := h1.cell 1
      have hf := h1.frozen
      have hx : x = leastOf n := by
        unfold leastOf
        rw [if_neg (by omega)]
        by_cases h1 : n < 256
        · rw [if_pos h1]
          simp [fitsTo, sizeList, fitsB, List.filter, h1] at hp; exact hp
        · rw [if_neg h1]
          by_cases h2 : n < 65536
          · rw [if_pos h2]
            simp [fitsTo, sizeList, fitsB, List.filter, h1, h2] at hp; exact hp
          · rw [if_neg h2]
            by_cases h3 : n < 4294967296
            · rw [if_pos h3]
              simp [fitsTo, sizeList, fitsB, List.filter, h1, h2, h3] at hp; exact hp
            · rw [if_neg h3]
              simp [fitsTo, sizeList, fitsB, List.filter, h1, h2, h3] at hp; exact hp
      have HX := Lib.hid hx
      clear hx
      go_wp2
      rw [Exit.noGoto_ret]
      have bR' := (h1.set 0 (Value.int IntKind.i64 x.fst)).set 1 (Value.int IntKind.i64 x.snd)
      have hK' : ((W.setCell { block := w.heap.size, off := 0 } (Value.int IntKind.i64 x.fst)).setCell { block := w.heap.size, off := 1 } (Value.int IntKind.i64 x.snd)).heap[D]? = some (.deferred (some [])) :=
        ((Below.heap_setCell _ _ _ D (by simp; omega)).trans (Below.heap_setCell _ _ _ D (by simp; omega))).trans hK
      have bR2 := bR'.shut hK' rfl (.deferred none)
      have hq0 := bR2.cell 0
      have hq1 := bR2.cell 1
      refine leave1 (v := .agg #[.int .i64 x.1, .int .i64 x.2]) hK' (by simp [results, Try.results20, go_sem, hq0, hq1]) rfl ⟨by rw [HX.out], ?_⟩
      have hz := hB.size
      exact below_shut (hB0.trans ((hB.setCell (by simp) _).setCell (by simp) _)) (by omega) (by simp [World.setCell]; omega) _
end Go.Proofs.Ytanccdmlddgnaaa
