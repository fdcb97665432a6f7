/- The texts TreeF, put together. -/
import Derived.Test.YtgfeeakcpojicaaGreatDoorPk05
import Derived.Test.YtgfeeakcpojicaaGreatDoorPk06
/- Trees: tree.Clone. -/
namespace Go.Proofs.YtgfeeakcpojicaaGreatDoor
open Go.RowKit Go.Shelf

theorem range_keep {W W' : World} {g o : Nat} {cs : List Value} (h : W.rangeAt g o cs) (hk : W'.heap[g]? = W.heap[g]?) : W'.rangeAt g o cs := fun j v hj => by
  rw [← h j v hj]
  exact cell_keep hk
theorem there_keep {W W' : World} {g o n : Nat} (h : W.there g o n) (hk : W'.heap[g]? = W.heap[g]?) : W'.there g o n := fun j hj => by
  have := h j hj
  refine ⟨?_, ?_⟩
  · rw [cell_keep (W := W) (W' := W') hk]
    exact this.1
  · have h2 := this.2
    unfold World.frozen? at h2 ⊢
    rw [hk]
    exact h2
/-- The lists of S that lie in a world stay when another block alone is written. -/
theorem LAt.grown {W W' : World} {T : Nat → Prop} {g : Nat} {d : Nat} {l : List Tr} {v : Value} (h : LAt W (fun q => T q ∧ q < W.heap.size) d l v) (hg : W.grownBy W' (some g)) (hT : ∀ q, T q → q ≠ g) : LAt W' (fun q => T q ∧ q < W'.heap.size) d l v :=
  (h.keep (fun q hq => hg.block q hq.2 (fun e => hT q hq.1 (by injection e)))).mono (fun q hq => ⟨hq.1, Nat.lt_of_lt_of_le hq.2 hg.size⟩)

/-- The row in block g, with element k replaced by a node whose list is l'. -/
def RowNow (T : Nat → Prop) (g k d n : Nat) (o : Own) (l' : List Tr) (xs : List Value) (W : World) : Prop :=
  ∃ y, LAt W (fun q => T q ∧ q < W.heap.size) d l' y ∧ W.rangeAt g 0 (setAt xs k (nodeCells o y)) ∧ W.there g 0 (n * 9)
theorem RowNow.keep {T : Nat → Prop} {g k d n : Nat} {o : Own} {l' : List Tr} {xs : List Value} {W W' : World} (h : RowNow T g k d n o l' xs W) (hg : W.grownBy W' (some g)) (hT : ∀ q, T q → q ≠ g) (hk : W'.heap[g]? = W.heap[g]?) : RowNow T g k d n o l' xs W' := by
  obtain ⟨y, h1, h2, h3⟩ := h
  exact ⟨y, h1.grown hg hT, range_keep h2 hk, there_keep h3 hk⟩
theorem setAt_in {xs c : List Value} {k j : Nat} (hc : c.length = 9) (hk : k * 9 + 9 ≤ xs.length) (hj : j < 9) : (setAt xs k c)[k * 9 + j]? = c[j]? := by
  unfold setAt
  rw [List.append_assoc, List.getElem?_append_right (by rw [List.length_take]; omega), List.length_take, List.getElem?_append_left (by omega)]
  congr 1
  omega
theorem setAt_out {xs c : List Value} {k j : Nat} (hc : c.length = 9) (hk : k * 9 + 9 ≤ xs.length) (hj : j < k * 9 ∨ k * 9 + 9 ≤ j) : (setAt xs k c)[j]? = xs[j]? := by
  unfold setAt
  rcases hj with hj | hj
  · rw [List.append_assoc, List.getElem?_append_left (by rw [List.length_take]; omega), List.getElem?_take_of_lt hj]
  · rw [List.getElem?_append_right (by rw [List.length_append, List.length_take]; omega), List.length_append, List.length_take, List.getElem?_drop]
    congr 1
    omega
/-- Element k of the row in block g is stored. -/
theorem range_store {W : World} {g k n : Nat} {xs c : List Value} (hr : ∀ j, (j < k * 9 ∨ k * 9 + 9 ≤ j) → ∀ v, xs[j]? = some v → W.cell? ⟨g, j, none⟩ = some v) (ht : W.there g 0 (n * 9)) (hx : xs.length = n * 9) (hk : k < n) (hc : c.length = 9) :
    (W.setCells g (k * 9) c).rangeAt g 0 (setAt xs k c) ∧ (W.setCells g (k * 9) c).there g 0 (n * 9) := by
  have hkn : k * 9 + 9 ≤ n * 9 := by omega
  refine ⟨fun j v hj => ?_, World.there_setCells ht _ _ _⟩
  rw [Nat.zero_add]
  by_cases h1 : j < k * 9 ∨ k * 9 + 9 ≤ j
  · rw [setAt_out hc (by omega) h1] at hj
    rw [World.cell?_setCells_out g c (k * 9) W ⟨g, j, none⟩ (fun _ _ => by rw [hc]; exact h1)]
    exact hr j h1 v hj
  · obtain ⟨i, rfl⟩ : ∃ i, j = k * 9 + i := ⟨j - k * 9, by omega⟩
    rw [setAt_in hc (by omega) (by omega)] at hj
    have hi : i < c.length := (List.getElem?_eq_some_iff.1 hj).1
    rw [World.cell?_setCells_in g c (k * 9) W (fun i' hi' => by
      have := (ht (k * 9 + i') (by omega)).1
      rwa [Nat.zero_add] at this) i hi, ← hj, List.getElem?_eq_getElem hi]
theorem there_mid {W : World} {g n k : Nat} (ht : W.there g 0 (n * 9)) (hk : k < n) : W.there g (k * 9) 9 := fun j hj => by
  have := ht (k * 9 + j) (by omega)
  rwa [Nat.zero_add] at this
theorem oneCell_node {o : Own} {A : Option Addr} {n c : Nat} : (#[.int .i64 o.kind, .bool o.b, .bool o.neg, .string o.dg, .int .i64 o.ex, .int .u64 o.u, .int .i64 o.wd, .string o.s, .slice A n c] : Array Value).all (·.oneCell') = true := by
  simp [Value.oneCell']
theorem kids_count {t : Tr} : t.kids.length < t.count := by
  rw [Tr.count_eq]
  have : ∀ l : List Tr, l.length ≤ countL l := by
    intro l
    induction l with
    | nil => simp
    | cons t l ih =>
      show l.length + 1 ≤ t.count + countL l
      have := Tr.count_eq t
      omega
  have := this t.kids
  omega
theorem kid_count {t : Tr} {k : Nat} (hk : k < t.kids.length) : (t.kids[k]).count < t.count := by
  have h1 := countL_take t.kids k hk
  have h2 := countL_mono t.kids (k + 1)
  rw [Tr.count_eq t]
  omega

theorem kid_mem {t u : Tr} (h : u ∈ t.kids) : u.count < t.count := by
  obtain ⟨k, hk, rfl⟩ := List.getElem_of_mem h
  exact kid_count hk

/-- What holds while element k of the row in block g is replaced. -/
structure CloneE (w wr : World) (g k n bx : Nat) (cs cs2 cs3 : Array Value) (ys : List Value) (t : TypeId) (W : World) : Prop where
  bel : Below w.heap.size w W
  gr : wr.grownBy W (some g)
  b1 : Blk W w.heap.size cs t
  b2 : Blk W (w.heap.size + 1) cs2 t
  b3 : Blk W bx cs3 t
  out : ∀ j, (j < k * 9 ∨ k * 9 + 9 ≤ j) → ∀ v, ys[j]? = some v → W.cell? ⟨g, j, none⟩ = some v
  th : W.there g 0 (n * 9)
  glt : g < W.heap.size
theorem CloneE.below {w wr : World} {g k n bx : Nat} {cs cs2 cs3 : Array Value} {ys : List Value} {t : TypeId} {W W' : World} (h : CloneE w wr g k n bx cs cs2 cs3 ys t W) (hb : Below W.heap.size W W') : CloneE w wr g k n bx cs cs2 cs3 ys t W' where
  bel := h.bel.trans (hb.mono h.bel.size)
  gr := grown_transT h.gr ⟨hb.os, hb.tape, hb.output, hb.size, fun k hk _ => hb.block k hk⟩
  b1 := h.b1.below hb h.b1.lt
  b2 := h.b2.below hb h.b2.lt
  b3 := h.b3.below hb h.b3.lt
  out := fun j hj v hv => by
    rw [← h.out j hj v hv]
    exact cell_keep (hb.block g h.glt)
  th := there_keep h.th (hb.block g h.glt)
  glt := Nat.lt_of_lt_of_le h.glt hb.size
theorem CloneE.store {w wr : World} {g k n bx : Nat} {cs cs2 cs3 : Array Value} {ys : List Value} {t : TypeId} {W : World} (h : CloneE w wr g k n bx cs cs2 cs3 ys t W) (hg : w.heap.size + 2 ≤ g) (hx : bx ≠ g) (c : List Value) (hc : c.length = 9) : CloneE w wr g k n bx cs cs2 cs3 ys t (W.setCells g (k * 9) c) where
  bel := h.bel.grown (grown_cells g c (k * 9) W) h.bel.size (fun q e => by cases e; omega)
  gr := grown_transT h.gr (grown_cells g c (k * 9) W)
  b1 := h.b1.kept (grown_cells g c (k * 9) W) (fun e => by injection e with e; omega)
  b2 := h.b2.kept (grown_cells g c (k * 9) W) (fun e => by injection e with e; omega)
  b3 := h.b3.kept (grown_cells g c (k * 9) W) (fun e => by injection e with e; exact hx e)
  out := fun j hj v hv => by
    rw [World.cell?_setCells_out g c (k * 9) W ⟨g, j, none⟩ (fun _ _ => by rw [hc]; exact hj)]
    exact h.out j hj v hv
  th := World.there_setCells h.th _ _ _
  glt := Nat.lt_of_lt_of_le h.glt (grown_cells g c (k * 9) W).size
theorem grown_of_below {W W' : World} (hb : Below W.heap.size W W') (r : Option Nat) : W.grownBy W' r := ⟨hb.os, hb.tape, hb.output, hb.size, fun k hk _ => hb.block k hk⟩
/-- What an operation may do there. -/
def CloneR (E A : World → Prop) (g : Nat) (W W' : World) : Prop := W.grownBy W' (some g) ∧ (E W → E W') ∧ (E W → A W → A W')
theorem CloneR.refl (E A : World → Prop) (g : Nat) (W : World) : CloneR E A g W W := ⟨grown_reflT _ _, id, fun _ h => h⟩

set_option maxHeartbeats 8000000 in
set_option maxRecDepth 100000 in
theorem tree_Clone (d : Nat) : ∀ (t : Tr) (x : Value) (w : World) (S : Nat → Prop), LAt w S d t.kids x → OwnOk t.own → (∀ q, S q → q < w.heap.size) → t.count ≤ 1000000 →
    Calls Tryz.prog 37 #[nodeV t.own x] w fun e w' => (∃ y, e = .returned (nodeV t.own y) ∧ LAt w' (fun q => (S q ∨ w.heap.size ≤ q) ∧ q < w'.heap.size) d t.kids y) ∧ Below w.heap.size w w' := by
  induction d using Nat.strongRecOn with
  | _ d ih =>
  intro t x w S hl ho hS hc
  obtain ⟨hlen, A, c, rfl⟩ := hl.slice
  have hkc := kids_count (t := t)
  have hkid : ∀ u ∈ t.kids, u.count < t.count := fun u hu => kid_mem hu
  obtain ⟨l, hkl⟩ : ∃ l, t.kids = l := ⟨_, rfl⟩
  rw [hkl] at hl hlen hkc hkid ⊢
  obtain ⟨n, hn⟩ : ∃ n, l.length = n := ⟨_, rfl⟩
  rw [hn] at hl hlen hkc ⊢
  obtain ⟨⟨kind, b, neg, dg, ex, u, wd, s⟩, ho'⟩ : ∃ o, t.own = o := ⟨_, rfl⟩
  rw [ho'] at ho ⊢
  unfold nodeV
  have HCL := fun (w' : World) (hw : Below w.heap.size w w') => clone_nodes A n c (d - 1) S l w' (LAt.deeper (by omega) (hl.keep (fun q hq => hw.block q (hS q hq)))) (fun q hq => Nat.lt_of_lt_of_le (hS q hq) hw.size) (by omega) hn
  have HCL := Lib.hid HCL
  have IH := Lib.hid ih
  have HN := Lib.hid hn
  have HKC := Lib.hid (fun u hu => Nat.le_of_lt (Nat.lt_of_lt_of_le (hkid u hu) hc))
  have HB2 := Lib.hid (box2 w #[.int .i64 kind, .bool b, .bool neg, .string dg, .int .i64 ex, .int .u64 u, .int .i64 wd, .string s, .slice A n c] #[.int .i64 0, .bool false, .bool false, .string ⟨#[]⟩, .int .i64 0, .int .u64 0, .int .i64 0, .string ⟨#[]⟩, .slice none 0 0] 38 38)
  have HD := Lib.hid (show n ≠ 0 → d = d - 1 + 1 from fun h0 => by
    obtain ⟨d', _, _, hd, _⟩ := hl.at_ (k := 0) (by omega)
    omega)
  clear hl ih hn hkid hkl ho' ho
  simp only []
  go_enter Tryz.func37, Tryz.ntmps37
  go_wp2_with fail
  refine (HCL.out _ HB2.out.1).mono ?_
  rintro e w1 ⟨⟨v, xs, rfl, hown, hrow⟩, hb1⟩
  obtain ⟨A', c', rfl⟩ := own_sliceT hown
  have HNC := Lib.hid (own_cap hown)
  have hbw := HB2.out.1.trans (hb1.mono HB2.out.1.size)
  have hk1 := HB2.out.2.1.below hb1 HB2.out.2.1.lt
  have hk2 := HB2.out.2.2.below hb1 HB2.out.2.2.lt
  have hz1 := hb1.size
  simp only [World.size_alloc] at hz1
  have f8 := hk1.frozen 8
  have k8 := hk1.cell 8
  have hs1 : Blk (w1.setCell ⟨w.heap.size, 8, none⟩ (.slice A' n c')) w.heap.size #[.int .i64 kind, .bool b, .bool neg, .string dg, .int .i64 ex, .int .u64 u, .int .i64 wd, .string s, .slice A' n c'] 38 := hk1.set 8 _
  have hs2 : Blk (w1.setCell ⟨w.heap.size, 8, none⟩ (.slice A' n c')) (w.heap.size + 1) #[.int .i64 0, .bool false, .bool false, .string ⟨#[]⟩, .int .i64 0, .int .u64 0, .int .i64 0, .string ⟨#[]⟩, .slice none 0 0] 38 := blk_keep hk2 (Below.heap_setCell w1 ⟨w.heap.size, 8, none⟩ _ _ (fun e => by have e : w.heap.size + 1 = w.heap.size := e; omega))
  have hb3 : Below w.heap.size w (w1.setCell ⟨w.heap.size, 8, none⟩ (.slice A' n c')) := hbw.grown (grown_setT w1 w.heap.size 8 _) hbw.size (fun q e => by cases e; exact Nat.le_refl _)
  have hk3 : ∀ q, q ≠ w.heap.size → (w1.setCell ⟨w.heap.size, 8, none⟩ (.slice A' n c')).heap[q]? = w1.heap[q]? := fun q hq => Below.heap_setCell w1 ⟨w.heap.size, 8, none⟩ _ q hq
  have hz3 : (w1.setCell ⟨w.heap.size, 8, none⟩ (.slice A' n c')).heap.size = w1.heap.size := by simp [World.setCell]
  clear hb1 hk1 hk2 hbw HCL HB2
  by_cases hn0 : n = 0
  · have hl0 : l = [] := List.eq_nil_of_length_eq_zero (by rw [HN.out]; exact hn0)
    subst hl0
    subst hn0
    have hs3 := blk_row hs2 #[.int .i64 kind, .bool b, .bool neg, .string dg, .int .i64 ex, .int .u64 u, .int .i64 wd, .string s, .slice A' 0 c']
    have hb4 : Below w.heap.size w ((w1.setCell ⟨w.heap.size, 8, none⟩ (.slice A' 0 c')).setRow (w.heap.size + 1) #[.int .i64 kind, .bool b, .bool neg, .string dg, .int .i64 ex, .int .u64 u, .int .i64 wd, .string s, .slice A' 0 c']) := hb3.grown (grown_row _ (w.heap.size + 1) _) hb3.size (fun q e => by cases e; omega)
    have HS1 := Lib.hid hs1
    have HS2 := Lib.hid hs2
    have HS3 := Lib.hid hs3
    have HB4 := Lib.hid hb4
    clear hs1 hs2 hs3 hb3 hb4 hk3 hown hrow
    go_wp2_with fail
    refine wp_loop_rounds 1 ?_
    rw [rounds_succ]
    go_wp2_with (first | (refine wpList_load_row rfl 38 (.tmp 1) rfl w.heap.size rfl 38 _ (0, 0) _ HS1.out Tryz.underlying38 rfl (by kernel_rfl) ?_) | (refine wpList_store_row rfl 38 (.tmp 2) (.tmp 24) rfl (w.heap.size + 1) #[.int .i64 kind, .bool b, .bool neg, .string dg, .int .i64 ex, .int .u64 u, .int .i64 wd, .string s, .slice A' 0 c'] rfl rfl 38 _ HS2.out (by kernel_rfl) rfl (by simp [Value.oneCell']) ?_))
    refine bodyPost_ret (v := .agg #[.int .i64 kind, .bool b, .bool neg, .string dg, .int .i64 ex, .int .u64 u, .int .i64 wd, .string s, .slice A' 0 c']) (results_cell_row rfl _ _ (w.heap.size + 1) 38 _ (0, 0) _ rfl HS3.out Tryz.underlying38 rfl (by kernel_rfl)) rfl ?_
    exact ⟨⟨_, rfl, LAt.nil _ _ _ _ _⟩, HB4.out⟩
  obtain ⟨g, cap, hform, hgb, hgl⟩ := hown.form (by omega)
  obtain ⟨ad, rfl⟩ : ∃ ad, A' = some ad := by injection hform with h1; exact ⟨_, h1⟩
  have had : ad = ⟨g, 0, none⟩ := by injection hform with h1; injection h1
  have hgb2 : w.heap.size + 2 ≤ g := by simpa using hgb
  have hr0 := own_range (g := g) (c := c') (by rw [had] at hown; exact hown)
  have hxl := hrow.len
  rw [HN.out] at hxl
  have hr1 := range_keep hr0.1 (hk3 g (by omega))
  have hr2 := there_keep hr0.2.1 (hk3 g (by omega))
  rw [hxl] at hr2
  have hrow1 : RowT (w1.setCell ⟨w.heap.size, 8, none⟩ (.slice (some ad) n c')) (fun q => ((S q ∨ w.heap.size + 2 ≤ q) ∧ q ≠ g) ∧ q < (w1.setCell ⟨w.heap.size, 8, none⟩ (.slice (some ad) n c')).heap.size) (d - 1) l xs :=
    (hrow.keep (fun q hq => hk3 q (by have := hS q hq; omega))).mono (fun q hq => ⟨⟨.inl hq, by have := hS q hq; omega⟩, by have := hS q hq; rw [hz3]; omega⟩)
  have HAD := Lib.hid had
  have HS1 := Lib.hid hs1
  have HS2 := Lib.hid hs2
  have HB3 := Lib.hid hb3
  have HR1 := Lib.hid hr1
  have HR2 := Lib.hid hr2
  have HROW := Lib.hid hrow1
  have HXL := Lib.hid hxl
  have hgz : g < (w1.setCell ⟨w.heap.size, 8, none⟩ (.slice (some ad) n c')).heap.size := by rw [hz3]; exact hgl
  have HGZ := Lib.hid hgz
  have hdd := HD.out hn0
  clear hs1 hs2 hb3 hr0 hr1 hr2 hrow hrow1 hk3 hown hform hgb had hxl hgz hgl
  go_wp2_with fail
  go_loopw [12] (fun i wr => ∃ (k : Nat) (ys : List Value), k ≤ n ∧ i = .int .i64 k ∧ ys.length = n * 9 ∧ Below w.heap.size w wr ∧ Blk wr w.heap.size #[.int .i64 kind, .bool b, .bool neg, .string dg, .int .i64 ex, .int .u64 u, .int .i64 wd, .string s, .slice (some ad) n c'] 38 ∧ Blk wr (w.heap.size + 1) #[.int .i64 0, .bool false, .bool false, .string ⟨#[]⟩, .int .i64 0, .int .u64 0, .int .i64 0, .string ⟨#[]⟩, .slice none 0 0] 38 ∧ wr.rangeAt g 0 ys ∧ wr.there g 0 (n * 9) ∧ g < wr.heap.size ∧ RowT wr (fun q => ((S q ∨ w.heap.size + 2 ≤ q) ∧ q ≠ g) ∧ q < wr.heap.size) (d - 1) l ys) (fun i _ => n - (intOf i).toNat)
  case atStart => exact ⟨0, xs, by omega, rfl, HXL.out, HB3.out, HS1.out, HS2.out, HR1.out, HR2.out, HGZ.out, HROW.out⟩
  case round =>
    obtain ⟨k, ys, hk, rfl, hyl, hbw, hb1, hb2, hra, hth, hgs, hro⟩ := hrel
    clear HS1 HS2 HB3 HR1 HR2 HROW HXL HGZ f8 k8 hz3
    by_cases hlt : k < n
    · have hkl : k < l.length := by rw [HN.out]; exact hlt
      obtain ⟨y, hok, hg, hky⟩ := hro.get k hkl
      have hna : NodeAt wr (ad.add (k * 9)) l[k].own y := NodeAt.of (fun j v hv => by
        rw [HAD.out, addr0]
        have := hra _ _ (hg j v hv)
        rwa [Nat.zero_add] at this)
      have hcnt := HKC.out l[k] (List.getElem_mem hkl)
      have hT : ∀ q, ((S q ∨ w.heap.size + 2 ≤ q) ∧ q ≠ g) → q ≠ g := fun q h => h.2
      have hIH := fun (w' : World) (hw : wr.grownBy w' (some g)) => IH.out (d - 1) (by omega) l[k] y w' (fun q => ((S q ∨ w.heap.size + 2 ≤ q) ∧ q ≠ g) ∧ q < w'.heap.size) (hky.grown hw hT) hok (fun q hq => hq.2) hcnt
      obtain ⟨_, A2, c2, rfl⟩ := hky.slice
      obtain ⟨n2, hn2⟩ : ∃ n2, l[k].kids.length = n2 := ⟨_, rfl⟩
      rw [hn2] at hna hky hIH
      obtain ⟨⟨kind2, b2, neg2, dg2, ex2, u2, wd2, s2⟩, ho2⟩ : ∃ o, l[k].own = o := ⟨_, rfl⟩
      rw [ho2] at hna hok hIH
      obtain ⟨k0, k1, k2, k3, k4, k5, k6, k7, k8⟩ := hna
      simp only [] at k0 k1 k2 k3 k4 k5 k6 k7 k8
      have y1 : (k : Int) < n := by omega
      have f8 := hb1.frozen 8
      have m8 := hb1.cell 8
      go_wp2_with fail
      have hbs : w.heap.size + 2 ≤ wr.heap.size := by omega
      obtain ⟨E, hE⟩ : ∃ E : World → Prop, CloneE w wr g k n wr.heap.size #[.int .i64 kind, .bool b, .bool neg, .string dg, .int .i64 ex, .int .u64 u, .int .i64 wd, .string s, .slice (some ad) n c'] #[.int .i64 0, .bool false, .bool false, .string ⟨#[]⟩, .int .i64 0, .int .u64 0, .int .i64 0, .string ⟨#[]⟩, .slice none 0 0] #[.int .i64 kind2, .bool b2, .bool neg2, .string dg2, .int .i64 ex2, .int .u64 u2, .int .i64 wd2, .string s2, .slice A2 n2 c2] ys 38 = E := ⟨_, rfl⟩
      have E0 : E (wr.alloc (.cells #[.int .i64 kind2, .bool b2, .bool neg2, .string dg2, .int .i64 ex2, .int .u64 u2, .int .i64 wd2, .string s2, .slice A2 n2 c2] 38)) := by
        rw [← hE]
        have ha : Below wr.heap.size wr (wr.alloc (.cells #[.int .i64 kind2, .bool b2, .bool neg2, .string dg2, .int .i64 ex2, .int .u64 u2, .int .i64 wd2, .string s2, .slice A2 n2 c2] 38)) := (Below.refl _ _).alloc (Nat.le_refl _) _
        exact ⟨hbw.trans (ha.mono hbw.size), grown_of_below ha _, hb1.alloc _, hb2.alloc _, Blk.new _ _ _, fun j _ v hv => by
          rw [cell_keep (ha.block g hgs)]
          have := hra _ _ hv
          rwa [Nat.zero_add] at this, there_keep hth (ha.block g hgs), Nat.lt_of_lt_of_le hgs ha.size⟩
      refine wp_region_phis (R := CloneR E (RowNow (fun q => (S q ∨ w.heap.size + 2 ≤ q) ∧ q ≠ g) g k (d - 1) n ⟨kind2, b2, neg2, dg2, ex2, u2, wd2, s2⟩ l[k].kids ys) g) (by kernel_rfl) (by kernel_rfl) (CloneR.refl _ _ _) (by kernel_rfl) E
        [fun v _ => v = .pointer (some ⟨w.heap.size, 8, none⟩), fun v _ => v = .slice (some ad) n c', fun v _ => v = .int .i64 k, fun v _ => v = nodeV ⟨kind2, b2, neg2, dg2, ex2, u2, wd2, s2⟩ (.slice A2 n2 c2),
         fun v W => ∃ y, v = nodeV ⟨kind2, b2, neg2, dg2, ex2, u2, wd2, s2⟩ y ∧ LAt W (fun q => ((S q ∨ w.heap.size + 2 ≤ q) ∧ q ≠ g) ∧ q < W.heap.size) (d - 1) l[k].kids y,
         fun v _ => v = .pointer (some (ad.add (k * 9))), fun _ W => RowNow (fun q => (S q ∨ w.heap.size + 2 ≤ q) ∧ q ≠ g) g k (d - 1) n ⟨kind2, b2, neg2, dg2, ex2, u2, wd2, s2⟩ l[k].kids ys W] ?_ ?_ ?_ ?_ ?_
      case refine_1 => rw [← hE] at E0 ⊢; exact ⟨E0.bel.drew, ⟨E0.gr.os, rfl, E0.gr.output, E0.gr.size, E0.gr.block⟩, E0.b1, E0.b2, E0.b3, E0.out, E0.th, E0.glt⟩
      case refine_2 => exact fun W W' he hr => hr.2.1 he
      case refine_3 =>
        intro p hp v W W' hE' hpv hr
        simp only [List.mem_cons, List.not_mem_nil, or_false] at hp
        rcases hp with rfl | rfl | rfl | rfl | rfl | rfl | rfl
        all_goals first | exact hpv | exact (hr.2.2 hE' hpv) | exact (let ⟨y, h1, h2⟩ := hpv; ⟨y, h1, h2.grown hr.1 hT⟩)
      case refine_4 =>
        refine flow_cons (flow_op rfl rfl (by kernel_rfl) (by kernel_rfl) ?_) ?_
        · intro env W hE' hn ρ hρ hc hf hg' K hK
          have r1 : ρ (.tmp 1) = .pointer (some ⟨w.heap.size, 0, none⟩) := by rw [hρ]; kernel_rfl
          clear hρ hn hg'
          simp only [opLands, go_sem, r1]
          exact hK _ _ rfl (CloneR.refl _ _ _ _)
        refine flow_cons (flow_op rfl rfl (by kernel_rfl) (by kernel_rfl) ?_) ?_
        · intro env W hE' hn ρ hρ hc hf hg' K hK
          have r17 := (show ρ (.tmp 17) = env 0 by rw [hρ]; kernel_rfl).trans (hn 0 (by kernel_rfl))
          rw [← hE] at hE'
          have q8 := hE'.b1.cell 8
          clear hρ hn hg'
          simp [opLands, go_sem, r17, q8]
          exact hK _ _ rfl (CloneR.refl _ _ _ _)
        refine flow_cons (flow_op rfl rfl (by kernel_rfl) (by kernel_rfl) ?_) ?_
        · intro env W hE' hn ρ hρ hc hf hg' K hK
          have r3 : ρ (.tmp 3) = .int .i64 k := by rw [hρ]; kernel_rfl
          clear hρ hn hg'
          simp only [opLands, go_sem, r3]
          exact hK _ _ rfl (CloneR.refl _ _ _ _)
        refine flow_cons (flow_op rfl rfl (by kernel_rfl) (by kernel_rfl) ?_) ?_
        · intro env W hE' hn ρ hρ hc hf hg' K hK
          have r4 : ρ (.tmp 4) = .pointer (some ⟨wr.heap.size, 0, none⟩) := by rw [hρ]; kernel_rfl
          clear hρ hn hg'
          have hE2 := hE'
          rw [← hE] at hE2
          exact lands_load_row 38 (.tmp 4) rfl wr.heap.size r4 38 _ (0, 0) _ hE2.b3 Tryz.underlying38 rfl (by kernel_rfl) (hK _ _ rfl (CloneR.refl _ _ _ _))
        refine flow_cons (flow_op rfl rfl (by kernel_rfl) (by kernel_rfl) ?_) ?_
        · intro env W hE' hn ρ hρ hc hf hg' K hK
          have r20 := (show ρ (.tmp 20) = env 3 by rw [hρ]; kernel_rfl).trans (hn 3 (by kernel_rfl))
          clear hρ hn hg'
          have hE2 := hE'
          rw [← hE] at hE2
          refine lands_call rfl (by kernel_rfl) hf ?_
          rw [show #[Operand.tmp 20].map ρ = #[nodeV ⟨kind2, b2, neg2, dg2, ex2, u2, wd2, s2⟩ (.slice A2 n2 c2)] by simp [r20]]
          refine (hIH W hE2.gr).mono ?_
          rintro e W' ⟨⟨y, rfl, hly⟩, hbb⟩
          refine ⟨_, rfl, hK _ _ ⟨y, rfl, hly.mono (fun q hq => ⟨?_, hq.2⟩)⟩ ⟨grown_of_below hbb _, fun _ => by rw [← hE]; exact hE2.below hbb, fun _ ha => ha.keep (grown_of_below hbb _) hT (hbb.block g hE2.glt)⟩⟩
          rcases hq.1 with h | h
          · exact h.1
          · have h1 := hE2.glt
            have h2 := hE2.b2.lt
            exact ⟨.inr (by omega), by omega⟩
        refine flow_cons (flow_op rfl rfl (by kernel_rfl) (by kernel_rfl) ?_) ?_
        · intro env W hE' hn ρ hρ hc hf hg' K hK
          have r18 := (show ρ (.tmp 18) = env 1 by rw [hρ]; kernel_rfl).trans (hn 1 (by kernel_rfl))
          have r19 := (show ρ (.tmp 19) = env 2 by rw [hρ]; kernel_rfl).trans (hn 2 (by kernel_rfl))
          clear hρ hn hg'
          simp [opLands, go_sem, r18, r19, hlt]
          exact hK _ _ rfl (CloneR.refl _ _ _ _)
        refine flow_cons (flow_op0 rfl rfl (by kernel_rfl) rfl ?_) flow_nil
        · intro env W hE' hn ρ hρ hc hf hg' K hK
          obtain ⟨y, hy, hly⟩ := hn 4 (by kernel_rfl)
          have r21 := (show ρ (.tmp 21) = env 4 by rw [hρ]; kernel_rfl).trans hy
          have r22 := (show ρ (.tmp 22) = env 5 by rw [hρ]; kernel_rfl).trans (hn 5 (by kernel_rfl))
          clear hρ hn hg'
          have hE2 := hE'
          rw [← hE] at hE2
          obtain ⟨_, A3, c3, rfl⟩ := hly.slice
          have hst := range_store (c := nodeCells ⟨kind2, b2, neg2, dg2, ex2, u2, wd2, s2⟩ (.slice A3 l[k].kids.length c3)) hE2.out hE2.th hyl hlt rfl
          have hgr := grown_cells g (nodeCells ⟨kind2, b2, neg2, dg2, ex2, u2, wd2, s2⟩ (.slice A3 l[k].kids.length c3)) (k * 9) W
          have haft : RowNow (fun q => (S q ∨ w.heap.size + 2 ≤ q) ∧ q ≠ g) g k (d - 1) n ⟨kind2, b2, neg2, dg2, ex2, u2, wd2, s2⟩ l[k].kids ys (W.setCells g (k * 9) (nodeCells ⟨kind2, b2, neg2, dg2, ex2, u2, wd2, s2⟩ (.slice A3 l[k].kids.length c3))) := ⟨_, hly.grown hgr hT, hst.1, hst.2⟩
          rw [HAD.out, addr0] at r22
          refine lands_store_mid 38 (.tmp 22) (.tmp 21) rfl g (k * 9) _ r22 r21 (there_mid hE2.th hlt) (by kernel_rfl) (oneCell_node (o := ⟨kind2, b2, neg2, dg2, ex2, u2, wd2, s2⟩)) ?_
          exact hK undef _ haft ⟨hgr, fun _ => by rw [← hE]; exact hE2.store hgb2 (by omega) _ rfl, fun _ _ => haft⟩
      case refine_5 =>
        intro env W hE' hn
        have hE2 := hE'
        rw [← hE] at hE2
        obtain ⟨y, hly, hra2, hth2⟩ := hn 6 (by decide)
        have hro2 : RowT W (fun q => ((S q ∨ w.heap.size + 2 ≤ q) ∧ q ≠ g) ∧ q < W.heap.size) (d - 1) l (setAt ys k (nodeCells ⟨kind2, b2, neg2, dg2, ex2, u2, wd2, s2⟩ y)) := by
          have h1 := (hro.keep (fun q hq => hE2.gr.block q hq.2 (fun e => hq.1.2 (by injection e)))).mono (S' := fun q => ((S q ∨ w.heap.size + 2 ≤ q) ∧ q ≠ g) ∧ q < W.heap.size) (fun q hq => ⟨hq.1, Nat.lt_of_lt_of_le hq.2 hE2.gr.size⟩)
          have h2 := h1.setAt k hkl hly
          rwa [ho2] at h2
        have hyl2 : (setAt ys k (nodeCells ⟨kind2, b2, neg2, dg2, ex2, u2, wd2, s2⟩ y)).length = n * 9 := by rw [setAt_length rfl (by omega), hyl]
        obtain ⟨zs, hzs⟩ : ∃ zs, setAt ys k (nodeCells ⟨kind2, b2, neg2, dg2, ex2, u2, wd2, s2⟩ y) = zs := ⟨_, rfl⟩
        rw [hzs] at hra2 hro2 hyl2
        obtain ⟨f0, f1, f2, _, _, f5, _, f7⟩ := hE2
        clear hE hE' hn hly hzs hIH hky hro hra hth E0 k0 k1 k2 k3 k4 k5 k6 k7 k8 hb1 hb2 hbw hg
        simp only [frameAll]
        go_simp
        go_wp2_with fail
        go_roundw
        case rel => exact ⟨k + 1, zs, by omega, by go_num, hyl2, f0, ‹_›, ‹_›, hra2, hth2, ‹_›, hro2⟩
        case measure => simp [intOf]; omega
    · obtain rfl : k = n := by omega
      have y1 : ¬ (k : Int) < k := by omega
      have hs3 := blk_row hb2 #[.int .i64 kind, .bool b, .bool neg, .string dg, .int .i64 ex, .int .u64 u, .int .i64 wd, .string s, .slice (some ad) k c']
      have hb4 : Below w.heap.size w (wr.setRow (w.heap.size + 1) #[.int .i64 kind, .bool b, .bool neg, .string dg, .int .i64 ex, .int .u64 u, .int .i64 wd, .string s, .slice (some ad) k c']) := hbw.grown (grown_row _ (w.heap.size + 1) _) hbw.size (fun q e => by cases e; omega)
      have hk4 : ∀ q, q ≠ w.heap.size + 1 → (wr.setRow (w.heap.size + 1) #[.int .i64 kind, .bool b, .bool neg, .string dg, .int .i64 ex, .int .u64 u, .int .i64 wd, .string s, .slice (some ad) k c']).heap[q]? = wr.heap[q]? := fun q hq => setRow_other _ _ _ _ hq
      have hro4 : RowT (wr.setRow (w.heap.size + 1) #[.int .i64 kind, .bool b, .bool neg, .string dg, .int .i64 ex, .int .u64 u, .int .i64 wd, .string s, .slice (some ad) k c']) (fun q => ((S q ∨ w.heap.size + 2 ≤ q) ∧ q ≠ g) ∧ q < wr.heap.size) (d - 1) l ys := hro.keep (fun q hq => hk4 q (by rcases hq.1.1 with h | h; have := hS q h; omega; omega))
      have hra4 := range_keep hra (hk4 g (by omega))
      have hli := hro4.listR (c := c') (S' := fun q => (S q ∨ w.heap.size ≤ q) ∧ q < (wr.setRow (w.heap.size + 1) #[.int .i64 kind, .bool b, .bool neg, .string dg, .int .i64 ex, .int .u64 u, .int .i64 wd, .string s, .slice (some ad) k c']).heap.size) hra4 (by rw [HN.out]; exact hlen) (by rw [HN.out]; exact HNC.out) (fun q hq => ⟨hq.1.1.imp id (by omega), by rw [setRow_size]; exact hq.2⟩) ⟨.inr (by omega), by rw [setRow_size]; exact hgs⟩
      rw [← HAD.out, HN.out, ← hdd] at hli
      have HS1 := Lib.hid hb1
      have HS2 := Lib.hid hb2
      have HS3 := Lib.hid hs3
      have HB4 := Lib.hid hb4
      have HLI := Lib.hid hli
      clear hb1 hb2 hs3 hb4 hk4 hro4 hra4 hli hra hth hro hbw hdd
      go_wp2_with (first | (refine wpList_load_row rfl 38 (.tmp 1) rfl w.heap.size rfl 38 _ (0, 0) _ HS1.out Tryz.underlying38 rfl (by kernel_rfl) ?_) | (refine wpList_store_row rfl 38 (.tmp 2) (.tmp 24) rfl (w.heap.size + 1) #[.int .i64 kind, .bool b, .bool neg, .string dg, .int .i64 ex, .int .u64 u, .int .i64 wd, .string s, .slice (some ad) k c'] rfl rfl 38 _ HS2.out (by kernel_rfl) rfl (by simp [Value.oneCell']) ?_))
      refine bodyPost_ret (v := .agg #[.int .i64 kind, .bool b, .bool neg, .string dg, .int .i64 ex, .int .u64 u, .int .i64 wd, .string s, .slice (some ad) k c']) (results_cell_row rfl _ _ (w.heap.size + 1) 38 _ (0, 0) _ rfl HS3.out Tryz.underlying38 rfl (by kernel_rfl)) rfl ?_
      exact ⟨⟨_, rfl, HLI.out⟩, HB4.out⟩
end Go.Proofs.YtgfeeakcpojicaaGreatDoor
