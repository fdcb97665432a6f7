/- The texts GateN, put together. -/
import Derived.Test.YtfckekaegjjmkaaGreatDoorPc29
namespace Go.Proofs.YtfckekaegjjmkaaGreatDoor
open Go.RowKit Go.Shelf

theorem tree_nodes (v : Value) (o : Own) (w : World) :
    Calls Tryz.prog 43 #[nodeV o v] w fun e w' => e = .returned (.func (.func 61) #[] #[.pointer (some ⟨w.heap.size, 0, none⟩)]) ∧ w.alloc (.cells (cellsV o v) 27) = w' := by
  unfold nodeV cellsV
  go_enter Tryz.func43, Tryz.ntmps43
  go_wp2
  go_ret
  exact ⟨rfl, rfl⟩

section
attribute [local go_sem] Oper.semAt_some wide_fn wide_depth
theorem GoodN.back {w W : World} {B : Nat} {s : TV} (hb : Below w.heap.size w W) (hB : B ≤ w.heap.size) (h : GoodN W B s) : GoodN w B s :=
  ⟨h.1, let ⟨d, hl⟩ := h.2; ⟨d, hl.keep (fun q hq => (hb.block q (by omega)).symm)⟩⟩
theorem AllG.back {w W : World} {B : Nat} {ys : List TV} (hb : Below w.heap.size w W) (hB : B ≤ w.heap.size) (h : AllG W B ys) : AllG w B ys := fun s hs => (h s hs).back hb hB

set_option maxHeartbeats 4000000 in
set_option maxRecDepth 100000 in
theorem nodes_seq (bn B d n0 : Nat) (X : Nat → Prop) (t : Tr) (x : Value) (w0 : World) (hB : B ≤ n0) (hn0 : n0 ≤ w0.heap.size) (hXB : ∀ q, q < B → ¬ X q) (hXn : ∀ q, n0 ≤ q → ¬ X q) (hb : Blk w0 bn (cellsV t.own x) 27) (hl : ListAt w0 B d t.kids x) (ho : OwnOk t.own) :
    SeqW Tryz.prog 61 #[.pointer (some ⟨bn, 0, none⟩)] encN MvB (KpC X n0) (fun _ => True) (fun xs _ => xs.map Prod.fst <+: preT t ∧ AllG w0 B xs) (fun xs _ => xs.map Prod.fst = preT t ∧ AllG w0 B xs) (fun pre _ => pre.map Prod.fst <+: preT t ∧ AllG w0 B pre) (fun W => Below w0.heap.size w0 W) := by
  intro l0 J Jx W hW hJ hJx hY h0
  have hB0 := Nat.le_trans hB hn0
  have hW2 := walk_in l0 B n0 X W J Jx (fun xs => xs.map Prod.fst <+: preT t ∧ AllG w0 B xs) hJ hB (Nat.le_trans hn0 hW.size) hXB hXn
    (fun pre y W1 hj hT => by
      obtain ⟨fn, tmps, assign, body, hy, hR⟩ := hY pre y W1 hj hT
      refine ⟨fn, tmps, assign, body, hy, hR.mono ?_⟩
      rintro e W' (⟨h1, _, h2, h3⟩ | h1)
      · exact .inl ⟨h1, h2, h3⟩
      · exact .inr h1) d t x [] W (KpC.refl _ _ _) (hl.below hW hB0) ho (fun xs hx hg => ⟨hx, hg.back hW hB0⟩) h0
  have hbW := hb.below hW hb.lt
  obtain ⟨⟨kind, b, neg, dg, ex, u, wd, s⟩, ho'⟩ : ∃ o, t.own = o := ⟨_, rfl⟩
  obtain ⟨_, A, c, rfl⟩ := hl.slice
  obtain ⟨n, hn⟩ : ∃ n, t.kids.length = n := ⟨_, rfl⟩
  rw [ho', hn] at hW2 hbW
  unfold nodeV at hW2
  unfold cellsV at hbW
  simp only [] at hW2 hbW
  have HC := Lib.hid (callsIn_wide (n := 7).2 hW2)
  have z0 := hbW.cell 0
  have z1 := hbW.cell 1
  have z2 := hbW.cell 2
  have z3 := hbW.cell 3
  have z4 := hbW.cell 4
  have z5 := hbW.cell 5
  have z6 := hbW.cell 6
  have z7 := hbW.cell 7
  have z8 := hbW.cell 8
  clear hY hJ hJx hl hb hW2 hbW
  refine callsIn_of_wp Tryz.func61 rfl trivial ?_ rfl
  simp only [Tryz.ntmps61, List.size_toArray, List.length_cons, List.length_nil, Nat.reduceAdd, Nat.reduceSub, Array.replicate_succ, Array.replicate_zero, List.push_toArray, List.append_toArray, List.nil_append, List.cons_append]
  gi_wp2_with fail
  refine HC.out.mono ?_
  rintro e w2 (⟨rfl, ys, hm, hg, hj, _⟩ | ⟨rfl, ys, hm, hg, hx⟩)
  · have hg2 := hg.back hW hB0
    clear HC z0 z1 z2 z3 z4 z5 z6 z7 z8
    gi_wp2_with fail
    go_end0
    exact ⟨⟨_, rfl⟩, .inl ⟨ys, ⟨hm, hg2⟩, hj⟩⟩
  · have hg2 := hg.back hW hB0
    clear HC z0 z1 z2 z3 z4 z5 z6 z7 z8
    gi_wp2_with fail
    go_end0
    exact ⟨⟨_, rfl⟩, .inr ⟨ys, ⟨hm, hg2⟩, hx⟩⟩

theorem KpC.setCell {X : Nat → Prop} {n : Nat} (W : World) (p i : Nat) (v : Value) (hx : X p) : KpC X n W (W.setCell ⟨p, i, none⟩ v) := by
  have hne : ∀ q, ¬ X q → q ≠ p := fun q hq e => hq (by rw [e]; exact hx)
  exact ⟨by simp [World.setCell], fun q _ hq => Below.heap_setCell W ⟨p, i, none⟩ v q (hne q hq), fun q o ho _ hq => (Below.heap_setCell W ⟨p, i, none⟩ v q (hne q hq)).trans ho⟩

set_option maxHeartbeats 4000000 in
set_option maxRecDepth 100000 in
theorem tree_Count (t : Tr) (x : Value) (w : World) (B d : Nat) (hl : ListAt w B d t.kids x) (ho : OwnOk t.own) (hB : B ≤ w.heap.size) (hc : t.count ≤ 1000000000000) :
    Calls Tryz.prog 31 #[nodeV t.own x] w fun e w' => e = .returned (.int .i64 (t.count : Nat)) ∧ Below w.heap.size w w' := by
  obtain ⟨hb2, hk1, hk2⟩ := box2 w (cellsV t.own x) #[.int .i64 0] 27 3
  have HN := Lib.hid (tree_nodes x t.own)
  refine calls_of_marks Tryz.func31 rfl ?_
  simp only [Tryz.ntmps31, List.size_toArray, List.length_cons, List.length_nil, Nat.reduceAdd, Nat.reduceSub, Array.replicate_succ, Array.replicate_zero, List.push_toArray, List.append_toArray, List.nil_append, List.cons_append]
  obtain ⟨⟨kind, b, neg, dg, ex, u, wd, s⟩, ho'⟩ : ∃ o, t.own = o := ⟨_, rfl⟩
  rw [ho'] at HN hk1 hk2 hb2
  unfold nodeV at *
  unfold cellsV at *
  simp only [] at HN hk1 hk2 hb2
  have hbx := box2
  have HK2 := Lib.hid hk2
  have HB2 := Lib.hid hb2
  have HK1 := Lib.hid hk1
  clear hbx
  go_wp2_with (refine wpList_load_row rfl 27 (.tmp 1) rfl w.heap.size rfl 27 _ (0, 0) _ HK1.out Tryz.underlying27 rfl (by kernel_rfl) ?_)
  refine (HN.out _).mono ?_
  rintro e w1 ⟨rfl, hw1⟩
  have hb3 : Below w.heap.size w w1 := by
    rw [← hw1]
    exact HB2.out.alloc (by simp; omega) _
  have hbn : Blk w1 (w.heap.size + 2) #[.int .i64 kind, .bool b, .bool neg, .string dg, .int .i64 ex, .int .u64 u, .int .i64 wd, .string s, x] 27 := by
    rw [← hw1]
    have := Blk.new ((w.alloc (.cells #[.int .i64 kind, .bool b, .bool neg, .string dg, .int .i64 ex, .int .u64 u, .int .i64 wd, .string s, x] 27)).alloc (.cells #[.int .i64 0] 3)) #[.int .i64 kind, .bool b, .bool neg, .string dg, .int .i64 ex, .int .u64 u, .int .i64 wd, .string s, x] 27
    simp only [World.size_alloc] at this
    exact this
  have hbc : Blk w1 (w.heap.size + 1) #[.int .i64 0] 3 := by
    rw [← hw1]
    exact HK2.out.alloc (.cells #[.int .i64 kind, .bool b, .bool neg, .string dg, .int .i64 ex, .int .u64 u, .int .i64 wd, .string s, x] 27)
  have hzw : w1.heap.size = w.heap.size + 3 := by rw [← hw1]; simp
  rw [World.size_alloc, World.size_alloc]
  clear HK1 HK2 HB2 hw1 hk1 hk2 hb2
  go_wp2_with fail
  have hcn := countL_pre t
  refine wp_rangeFuncW (gf := 61) (lb := #[.pointer (some ⟨w.heap.size + 2, 0, none⟩)]) rfl (enters_of Tryz.func61 (by kernel_rfl) rfl)
    (nodes_seq (w.heap.size + 2) B d w1.heap.size (fun q => q = w.heap.size + 1) t x w1 (by omega) (Nat.le_refl _) (fun q hq => by omega) (fun q hq => by omega) (by rw [ho']; exact hbn) (hl.below hb3 hB) ho)
    ?hMv ?hA0 ?hKt ?hKb ?hps (fun pre W => Blk W (w.heap.size + 1) #[.int .i64 pre.length] 3 ∧ Below w.heap.size w W) (fun _ _ _ => False) ?hI ?hIx ?hIM ?hIxM ?h0 ?hCt
    (fun tm pre y a' _ => pre.length < t.count ∧ a' = { tmps := tm.setIfInBounds 6 (nodeV y.1.own y.2), defers := [] }) ?hAx ?assign ?body ?hS ?hSp ?done ?stop
  case hMv => exact fun A B k o hM hk ho _ => (hM.block k (Array.getElem?_eq_some_iff.1 ho).1).trans ho
  case hA0 => exact fun o o' => ((Below.refl _ w1).alloc (Nat.le_refl _) o).alloc (by simp) o'
  case hKt => exact fun h1 h2 => h1.trans h2
  case hKb => exact fun W l o o' hl h ho => KpC.putObj W l o o' hl h ho
  case hps => exact fun _ => rfl
  case hI =>
    refine OwnFrom.and (Own.from ?_ _) (ownFrom_below (by omega) (by omega))
    exact blk_own _ _ (fun pre : List TV => #[.int .i64 pre.length])
  case hIx => exact fun c s A B row h _ _ => h.elim
  case hIM => exact fun s A B h hM => ⟨h.1.below hM h.1.lt, h.2.trans (hM.mono h.2.size)⟩
  case hIxM => exact fun c s A B h _ => h.elim
  case h0 => exact ⟨hbc, hb3⟩
  case hCt => exact fun _ _ _ _ => trivial
  case hAx => exact fun _ _ _ _ _ _ _ h _ _ => h
  case assign =>
    intro l pre y W K hI hT hK
    have hlt : pre.length < t.count := by
      have := hT.1.length_le
      rw [List.map_append, List.length_append, List.length_map, hcn] at this
      exact this
    unfold encN
    gi_wp2
    exact hK _ _ (KeepsFrom.refl _ _) (KpC.refl _ _ _) hI ⟨hlt, rfl⟩
  case body =>
    rintro l pre y a' W hl hlo ⟨hc0, hbw⟩ ⟨hlt, rfl⟩
    have y1 := hc0.cell 0
    have y2 := hc0.frozen 0
    have e1 : wrap64 ((pre.length : Int) + 1) = ((pre.length + 1 : Nat) : Int) := by
      rw [← IntWalk.i64_left]
      exact IntWalk.i64_in _ (by omega)
    gi_wp2
    refine ⟨KeepsFrom.of_grownBy (grown_set W (w.heap.size + 1) 0 _) (fun j e => by cases e; omega), KpC.setCell _ _ _ _ rfl, ?_, hbw.setCell (Nat.le_succ _) _⟩
    have := hc0.set 0 (.int .i64 ((pre.length : Int) + 1))
    rw [List.length_append]
    exact this
  case hS => exact fun _ _ _ _ h _ _ => h
  case hSp => exact fun _ _ _ _ h _ _ => h
  case done =>
    rintro D xs W hD ⟨hS, _⟩ ⟨hc0, hbw⟩ hdf
    have hlen : xs.length = t.count := by
      rw [← hcn, ← hS, List.length_map]
    have y1 := hc0.cell 0
    rw [hlen] at y1
    go_wp2_with fail
    refine leave1 (v := .int .i64 (t.count : Nat)) hdf (by simp [results, Tryz.results31, go_sem]) rfl ⟨rfl, below_shut hbw (by omega) hbw.size _⟩
  case stop => exact fun D c pre W _ _ h _ => h.elim
end
end Go.Proofs.YtfckekaegjjmkaaGreatDoor
