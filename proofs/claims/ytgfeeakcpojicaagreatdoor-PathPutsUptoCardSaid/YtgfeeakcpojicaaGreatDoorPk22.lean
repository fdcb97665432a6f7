/- The texts PathH, put together. -/
import Derived.Test.YtgfeeakcpojicaaGreatDoorPk21
/- path: at. -/
namespace Go.Proofs.YtgfeeakcpojicaaGreatDoor
open Go.RowKit Go.Shelf
attribute [local go_sem] Oper.semAt_some wide_fn wide_depth

/-- Where a step leads to. -/
def atO (t : Tr) (s : Stp) : Option Nat := ((stepsOf t).find? fun y => decide (y.1 = s)).map (·.2)
def atI (t : Tr) (s : Stp) : Int := match atO t s with
  | some i => (i : Int)
  | none => -1

def NotIn (pre : List (Stp × Nat)) (s : Stp) : Prop := ∀ y ∈ pre, y.1 ≠ s
def FoundAt (pre : List (Stp × Nat)) (s : Stp) (j : Nat) : Prop := ∃ p0 y, pre = p0 ++ [y] ∧ NotIn p0 s ∧ y.1 = s ∧ y.2 = j
theorem NotIn.snoc {pre : List (Stp × Nat)} {s : Stp} {x : Stp × Nat} (h : NotIn pre s) (hx : x.1 ≠ s) : NotIn (pre ++ [x]) s := fun y hy => by
  rcases List.mem_append.1 hy with hy | hy
  · exact h y hy
  · rw [List.mem_singleton.1 hy]
    exact hx
theorem at_none {t : Tr} {s : Stp} (h : NotIn (stepsOf t) s) : atI t s = -1 := by
  have : atO t s = none := by
    unfold atO
    rw [Option.map_eq_none_iff, List.find?_eq_none]
    exact fun y hy => by simpa using h y hy
  unfold atI
  rw [this]
theorem at_some {t : Tr} {s : Stp} {pre : List (Stp × Nat)} {j : Nat} (h : FoundAt pre s j) (hp : pre <+: stepsOf t) : atI t s = (j : Int) := by
  obtain ⟨p0, y, rfl, hn, hy, rfl⟩ := h
  obtain ⟨r, hr⟩ := hp
  have : atO t s = some y.2 := by
    unfold atO
    have e0 : p0.find? (fun z => decide (z.1 = s)) = none := List.find?_eq_none.2 (fun z hz => by simpa using hn z hz)
    rw [← hr, List.append_assoc, List.find?_append, e0]
    simp [hy]
  unfold atI
  rw [this]

set_option maxHeartbeats 4000000 in
set_option maxRecDepth 100000 in
theorem path_at (t : Tr) (x : Value) (s : Stp) (w : World) (B d : Nat) (hl : ListAt w B d t.kids x) (hB : B ≤ w.heap.size) :
    Calls Tryz.prog 40 #[nodeV t.own x, stepV s] w fun e w' => e = .returned (.int .i64 (atI t s)) ∧ Below w.heap.size w w' := by
  obtain ⟨o, ho⟩ : ∃ o, t.own = o := ⟨_, rfl⟩
  have HPS := Lib.hid (fun w => path_steps x o w)
  obtain ⟨kind, b, neg, dg, ex, u, wd, str⟩ := o
  obtain ⟨i, key⟩ := s
  have HB := fun (o1 o2 o3 o4 : Obj) => ((((Below.refl w.heap.size w).alloc (Nat.le_refl _) o1).alloc (by simp) o2).alloc (by simp; omega) o3).alloc (by simp; omega) o4
  unfold nodeV at HPS ⊢
  unfold cellsV at HPS
  simp only [] at HPS ⊢
  refine calls_of_marks Tryz.func40 rfl ?_
  simp only [Tryz.ntmps40, List.size_toArray, List.length_cons, List.length_nil, Nat.reduceAdd, Nat.reduceSub, Array.replicate_succ, Array.replicate_zero, List.push_toArray, List.append_toArray, List.nil_append, List.cons_append]
  go_wp2_with fail
  go_step3
  go_wp2_with fail
  go_step3
  go_wp2_with fail
  refine (HPS.out _).mono ?_
  rintro e w1 ⟨rfl, hw1⟩
  have hbw := HB (.cells #[.int .i64 kind, .bool b, .bool neg, .string dg, .int .i64 ex, .int .u64 u, .int .i64 wd, .string str, x] 38) (.cells #[.int .i64 i, .string key] 53) (.cells #[.int .i64 (-1)] 3) (.cells #[.int .i64 kind, .bool b, .bool neg, .string dg, .int .i64 ex, .int .u64 u, .int .i64 wd, .string str, x] 38)
  have bN := Blk.new (((w.alloc (.cells #[.int .i64 kind, .bool b, .bool neg, .string dg, .int .i64 ex, .int .u64 u, .int .i64 wd, .string str, x] 38)).alloc (.cells #[.int .i64 i, .string key] 53)).alloc (.cells #[.int .i64 (-1)] 3)) #[.int .i64 kind, .bool b, .bool neg, .string dg, .int .i64 ex, .int .u64 u, .int .i64 wd, .string str, x] 38
  have bF := (Blk.new ((w.alloc (.cells #[.int .i64 kind, .bool b, .bool neg, .string dg, .int .i64 ex, .int .u64 u, .int .i64 wd, .string str, x] 38)).alloc (.cells #[.int .i64 i, .string key] 53)) #[.int .i64 (-1)] 3).alloc (.cells #[.int .i64 kind, .bool b, .bool neg, .string dg, .int .i64 ex, .int .u64 u, .int .i64 wd, .string str, x] 38)
  have bS := ((Blk.new (w.alloc (.cells #[.int .i64 kind, .bool b, .bool neg, .string dg, .int .i64 ex, .int .u64 u, .int .i64 wd, .string str, x] 38)) #[.int .i64 i, .string key] 53).alloc (.cells #[.int .i64 (-1)] 3)).alloc (.cells #[.int .i64 kind, .bool b, .bool neg, .string dg, .int .i64 ex, .int .u64 u, .int .i64 wd, .string str, x] 38)
  rw [hw1] at hbw bN bF bS
  have hsz : w1.heap.size = w.heap.size + 4 := by rw [← hw1]; simp
  simp only [World.size_alloc] at bN bF bS
  have hl1 := hl.below hbw hB
  have hseq := steps_seq (w.heap.size + 1 + 1 + 1) (w.heap.size + 4) d (fun q => q < w.heap.size + 4) t x w1 (by omega) (fun _ h => h) (fun q hq => by omega) (by unfold cellsV; rw [ho]; exact bN) (hl1.more (by omega))
  have HSEQ := Lib.hid hseq
  clear HPS HB hl hl1 hseq hw1 bN ho
  go_wp2_with fail
  refine wp_rangeFuncV (gf := 81) (lb := #[.pointer (some ⟨w.heap.size + 1 + 1 + 1, 0, none⟩)]) rfl (enters_of Tryz.func81 (by kernel_rfl) rfl)
    HSEQ.out (fun q hq => by omega) (Below.refl _ _) (fun _ => rfl)
    (fun pre W => (NotIn pre (i, key) ∧ Blk W (w.heap.size + 1) #[.int .i64 i, .string key] 53 ∧ Blk W (w.heap.size + 1 + 1) #[.int .i64 (-1)] 3) ∧ Below w.heap.size w1 W)
    (fun c pre W => (c = .exit 0 ∧ ∃ j : Nat, FoundAt pre (i, key) j ∧ Blk W (w.heap.size + 1 + 1) #[.int .i64 j] 3) ∧ Below w.heap.size w1 W)
    ?hI ?hIx ⟨⟨(fun y hy => nomatch hy), bS, bF⟩, Below.refl _ _⟩
    (fun T x a' W => ∃ Bx, w.heap.size + 4 ≤ Bx ∧ Blk W Bx #[.int .i64 x.1.1, .string x.1.2] 53 ∧ a' = { tmps := (((T.setIfInBounds 10 (stepV x.1)).setIfInBounds 11 (.int .i64 x.2)).setIfInBounds 6 (.pointer (some ⟨Bx, 0, none⟩))).setIfInBounds 7 (.int .i64 x.2), defers := [] })
    ?hAx ?assign ?body ?done ?stop
  case hI =>
    refine OwnFrom.and (Own.from ?_ _) (ownFrom_below (by omega) (by omega))
    rintro s X Y row ⟨h1, h2, h3⟩ hg hr
    exact ⟨h1, blk_own _ _ (fun _ : Unit => _) () X Y row h2 hg hr, blk_own _ _ (fun _ : Unit => _) () X Y row h3 hg hr⟩
  case hIx =>
    intro c
    refine OwnFrom.and (Own.from ?_ _) (ownFrom_below (by omega) (by omega))
    rintro s X Y row ⟨h1, j, h2, h4⟩ hg hr
    exact ⟨h1, j, h2, blk_own _ _ (fun _ : Unit => _) () X Y row h4 hg hr⟩
  case hAx =>
    rintro x a' _ X Y row ⟨Bx, h1, h2, h3⟩ hg hr
    exact ⟨Bx, h1, blk_own _ _ (fun _ : Unit => _) () X Y row h2 hg (fun r e => (hr r e).2), h3⟩
  case assign =>
    rintro l pre x W K ⟨⟨hp, h1, h2⟩, hB'⟩ _ hK
    have HK := Lib.hid hK
    clear hK
    have hz := hB'.size
    gi_wp2
    have hbe : Below W.heap.size W (W.alloc (.cells #[.int .i64 x.1.1, .string x.1.2] 53)) := (Below.refl _ _).alloc (Nat.le_refl _) _
    exact HK.out _ _ (keeps_below hbe) (KpB.below hbe (fun q hq => by omega)) ⟨⟨hp, h1.alloc _, h2.alloc _⟩, hB'.alloc (by omega) _⟩ ⟨W.heap.size, by omega, Blk.new _ _ _, rfl⟩
  case body =>
    rintro l pre x a' W hl ⟨r, hr⟩ ⟨⟨hp, h1, h2⟩, hB'⟩ ⟨Bx, hBx, bX, rfl⟩ _
    have hx0 := bX.cell 0
    have hx1 := bX.cell 1
    have hs0 := h1.cell 0
    have hs1 := h1.cell 1
    have hf := h2.frozen
    have hf0 := h2.cell 0
    simp only [List.setIfInBounds_toArray, List.set_cons_zero, List.set_cons_succ]
    obtain ⟨⟨xi, xk⟩, xa⟩ := x
    simp only [] at hx0 hx1 bX ⊢
    by_cases h1' : xi = i
    · by_cases h2' : xk = key
      · have hfd : FoundAt (pre ++ [((xi, xk), xa)]) (i, key) xa := ⟨pre, _, rfl, hp, by rw [h1', h2'], rfl⟩
        have HFD := Lib.hid hfd
        have HP := Lib.hid hp
        clear hfd hp
        subst h1' h2'
        gi_wp2_with fail
        exact ⟨(KeepsOthers.setCell _ _ _).from _, ⟨rfl, xa, HFD.out, h2.set 0 _⟩, hB'.setCell (by show w.heap.size ≤ w.heap.size + 1 + 1; omega) _⟩
      · have hnn := hp.snoc (x := ((xi, xk), xa)) (fun e => h2' (by injection e))
        have HNN := Lib.hid hnn
        have hb := toList_beq xk key
        rw [decide_eq_false h2'] at hb
        clear hp hnn h2'
        subst h1'
        gi_wp2_with fail
        exact ⟨KeepsFrom.refl _ _, KpB.refl _ _, ⟨HNN.out, h1, h2⟩, hB'⟩
    · have hnn := hp.snoc (x := ((xi, xk), xa)) (fun e => h1' (by injection e))
      have HNN := Lib.hid hnn
      have hb : (xi == i) = false := by rw [beq_eq_false_iff_ne]; exact h1'
      clear hp hnn h1'
      gi_wp2_with fail
      exact ⟨KeepsFrom.refl _ _, KpB.refl _ _, ⟨HNN.out, h1, h2⟩, hB'⟩
  case done =>
    rintro D ys W hD rfl ⟨⟨hp, _, h2⟩, hB'⟩ hK
    have hf0 := h2.cell 0
    have hz := hB'.size
    have HP := Lib.hid (at_none hp)
    clear hp
    go_wp2_with fail
    rw [Exit.noGoto_ret]
    exact leave1 (v := .int .i64 (-1)) hK (by simp [results, Tryz.results40, go_sem]) rfl ⟨by rw [HP.out], below_shut (hbw.trans hB') (by omega) (by omega) _⟩
  case stop =>
    rintro D c pre W hD hp ⟨⟨rfl, j, hj, h2⟩, hB'⟩ hK
    have hf0 := h2.cell 0
    have hz := hB'.size
    have HP := Lib.hid (at_some hj hp)
    clear hp hj
    go_wp2_with fail
    rw [Exit.noGoto_ret]
    exact leave1 (v := .int .i64 j) hK (by simp [results, Tryz.results40, go_sem]) rfl ⟨by rw [HP.out], below_shut (hbw.trans hB') (by omega) (by omega) _⟩
end Go.Proofs.YtgfeeakcpojicaaGreatDoor
