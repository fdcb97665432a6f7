/- The texts TreeD, TreeE, put together. -/
import Derived.Test.YtgfeeakcpojicaaGreatDoorPk04
import Derived.Deep.MidRow
import Derived.Lib.LazyBuf
/- Trees: the laws' own Few (targumlaw06). -/
namespace Go.Proofs.YtgfeeakcpojicaaGreatDoor
open Go.RowKit Go.Shelf

mutual
theorem cut_count : ∀ (d : Nat) (t : Tr), (cutT d t).count ≤ t.count
  | 0, t => by
    rw [Tr.count_eq, Tr.count_eq t]
    show 1 + countL [] ≤ _
    rw [countL]
    omega
  | d + 1, .nd o l => by
    rw [Tr.count_eq, Tr.count_eq (.nd o l)]
    show 1 + countL ((l.take 40).map (cutT d)) ≤ 1 + countL l
    have h1 := cut_countL d (l.take 40)
    have h2 := countL_mono l 40
    omega
theorem cut_countL : ∀ (d : Nat) (l : List Tr), countL (l.map (cutT d)) ≤ countL l
  | _, [] => by simp
  | d, t :: l => by
    show (cutT d t).count + countL (l.map (cutT d)) ≤ t.count + countL l
    have h1 := cut_count d t
    have h2 := cut_countL d l
    omega
end
/-- Few: at most four hundred nodes. -/
def fewT (t : Tr) : Tr := if 400 < (cutT 17 t).count then .nd (cutO t.own) [] else cutT 17 t
theorem fewT_own (t : Tr) : (fewT t).own = cutO t.own := by
  unfold fewT
  split
  · rfl
  · exact cutT_own 17 t
theorem few_count (t : Tr) : (fewT t).count ≤ 400 := by
  unfold fewT
  split
  · rw [Tr.count_eq]
    show 1 + countL [] ≤ 400
    rw [countL]
    omega
  · omega
theorem blk_row {W : World} {p : Nat} {cs : Array Value} {t : TypeId} (h : Blk W p cs t) (cs' : Array Value) : Blk (W.setRow p cs') p cs' t := setRow_heap _ _ _ _ _ _ h
theorem blk_row_other {W : World} {p q : Nat} {cs : Array Value} {t : TypeId} (h : Blk W q cs t) (hne : q ≠ p) (cs' : Array Value) : Blk (W.setRow p cs') q cs t := (setRow_other _ _ _ _ hne).trans h
theorem grown_row (w : World) (p : Nat) (cs : Array Value) : w.grownBy (w.setRow p cs) (some p) :=
  ⟨rfl, rfl, rfl, by simp, fun k _ hk => setRow_other _ _ _ _ (fun e => hk (by rw [e]))⟩

set_option maxHeartbeats 4000000 in
set_option maxRecDepth 100000 in
theorem law_FewT (t : Tr) (x : Value) (w : World) (B D : Nat) (hl : ListAt w B D t.kids x) (ho : OwnOk t.own) (hB : B ≤ w.heap.size) (hc : t.count ≤ 1000000000) :
    Calls Tryz.prog 14 #[nodeV t.own x] w fun e w' => (∃ y, e = .returned (nodeV (fewT t).own y) ∧ LAt w' (fun q => w.heap.size ≤ q ∧ q < w'.heap.size) 17 (fewT t).kids y) ∧ Below w.heap.size w w' := by
  have hbx := box2 w (cellsV t.own x) (cellsV ⟨0, false, false, ⟨#[]⟩, 0, 0, 0, ⟨#[]⟩⟩ (.slice none 0 0)) 38 38
  have HC := law_Cut 17 (by omega) t x _ B D (hl.below hbx.1 hB) ho (Nat.le_trans hB hbx.1.size)
  have hcc : (cutT 17 t).count ≤ 1000000000 := Nat.le_trans (cut_count 17 t) hc
  have HN := Lib.hid (fun y (w' : World) (B : Nat) (h : LAt w' (fun q => q < B) 17 (cutT 17 t).kids y) (hB : B ≤ w'.heap.size) => ref_Count 17 (cutT 17 t) y w' B h hB (by omega))
  rw [cutT_own] at HN
  rw [fewT_own]
  have hfew : (fewT t).kids = if 400 < (cutT 17 t).count then [] else (cutT 17 t).kids := by
    unfold fewT
    split <;> rfl
  rw [hfew]
  obtain ⟨cl, hcl⟩ : ∃ cl, (cutT 17 t).kids = cl := ⟨_, rfl⟩
  obtain ⟨cn, hcn⟩ : ∃ cn, (cutT 17 t).count = cn := ⟨_, rfl⟩
  rw [hcl] at HC HN ⊢
  rw [hcn] at HN hcc ⊢
  obtain ⟨fl, hfl⟩ : ∃ fl, (if 400 < cn then [] else cl) = fl := ⟨_, rfl⟩
  rw [hfl]
  have HFL := Lib.hid hfl
  clear hfl
  obtain ⟨o2, ho2⟩ : ∃ o2, cutO t.own = o2 := ⟨_, rfl⟩
  rw [ho2] at HC HN ⊢
  obtain ⟨kind2, b2, neg2, dg2, ex2, u2, wd2, s2⟩ := o2
  obtain ⟨⟨kind, b, neg, dg, ex, u, wd, s⟩, ho'⟩ : ∃ o, t.own = o := ⟨_, rfl⟩
  rw [ho'] at HC hbx ⊢
  unfold cellsV at hbx HC
  unfold nodeV at HC HN ⊢
  simp only [] at HC HN hbx ⊢
  have HC := Lib.hid HC
  obtain ⟨h1, h2, h3⟩ := hbx
  have H1 := Lib.hid h1
  have H2 := Lib.hid h2
  have H3 := Lib.hid h3
  clear hl ho hc hfew ho2 ho' h1 h2 h3 hcl hcn
  go_enter Tryz.func14, Tryz.ntmps14
  go_wp2_with fail
  refine HC.out.mono ?_
  rintro e w1 ⟨⟨y, rfl, hly⟩, hb⟩
  obtain ⟨_, A, c, rfl⟩ := hly.slice
  obtain ⟨n, hn⟩ : ∃ n, cl.length = n := ⟨_, rfl⟩
  rw [hn] at hly ⊢
  have hz := hb.size
  simp only [World.size_alloc] at hz
  have hbw := H1.out.trans (hb.mono H1.out.size)
  have hk1 := H2.out.below hb H2.out.lt
  have hk2 := H3.out.below hb H3.out.lt
  have hly2 : LAt w1 (fun q => w.heap.size + 2 ≤ q ∧ q < w1.heap.size) 17 cl (.slice A n c) := hly.mono (fun q hq => by
    have := hq.1
    simp only [World.size_alloc] at this
    exact ⟨by omega, hq.2⟩)
  clear H1 H2 H3 HC hb hly
  have hbw2 : Below w.heap.size w (w1.setRow w.heap.size #[.int .i64 kind2, .bool b2, .bool neg2, .string dg2, .int .i64 ex2, .int .u64 u2, .int .i64 wd2, .string s2, .slice A n c]) := hbw.grown (grown_row w1 w.heap.size _) hbw.size (fun q e => by cases e; exact Nat.le_refl _)
  have hk3 := blk_row hk1 #[.int .i64 kind2, .bool b2, .bool neg2, .string dg2, .int .i64 ex2, .int .u64 u2, .int .i64 wd2, .string s2, .slice A n c]
  have hk4 := blk_row_other hk2 (by omega : w.heap.size + 1 ≠ w.heap.size) #[.int .i64 kind2, .bool b2, .bool neg2, .string dg2, .int .i64 ex2, .int .u64 u2, .int .i64 wd2, .string s2, .slice A n c]
  have hly3 : LAt (w1.setRow w.heap.size #[.int .i64 kind2, .bool b2, .bool neg2, .string dg2, .int .i64 ex2, .int .u64 u2, .int .i64 wd2, .string s2, .slice A n c]) (fun q => w.heap.size + 2 ≤ q ∧ q < w1.heap.size) 17 cl (.slice A n c) := hly2.keep (fun q hq => setRow_other _ _ _ _ (by omega))
  have hz3 : (w1.setRow w.heap.size #[.int .i64 kind2, .bool b2, .bool neg2, .string dg2, .int .i64 ex2, .int .u64 u2, .int .i64 wd2, .string s2, .slice A n c]).heap.size = w1.heap.size := setRow_size _ _ _
  have HK1 := Lib.hid hk1
  clear hk2 hly2 hbw hk1
  have HK3 := Lib.hid hk3
  clear hk3
  go_wp2_with (first | (refine wpList_store_row rfl 38 (.tmp 1) (.tmp 4) rfl w.heap.size #[.int .i64 kind2, .bool b2, .bool neg2, .string dg2, .int .i64 ex2, .int .u64 u2, .int .i64 wd2, .string s2, .slice A n c] rfl rfl 38 _ HK1.out (by kernel_rfl) rfl (by simp [Value.oneCell']) ?_) | (refine wpList_load_row rfl 38 (.tmp 1) rfl w.heap.size rfl 38 _ (0, 0) _ HK3.out Tryz.underlying38 rfl (by kernel_rfl) ?_))
  clear HK1
  generalize w1.setRow w.heap.size #[.int .i64 kind2, .bool b2, .bool neg2, .string dg2, .int .i64 ex2, .int .u64 u2, .int .i64 wd2, .string s2, .slice A n c] = w2 at *
  refine (HN.out _ w2 w2.heap.size (hly3.mono (fun q hq => by omega)) (Nat.le_refl _)).mono ?_
  rintro e w3 ⟨rfl, hb⟩
  have hz5 := hb.size
  have hbw3 := hbw2.trans (hb.mono hbw2.size)
  have hk5 := HK3.out.below hb HK3.out.lt
  have hk6 := hk4.below hb hk4.lt
  have hly5 : LAt w3 (fun q => w.heap.size + 2 ≤ q ∧ q < w1.heap.size) 17 cl (.slice A n c) := hly3.keep (fun q hq => hb.block q (by omega))
  clear hb hly3 hk4 HK3 hbw2 HN
  by_cases h400 : 400 < cn
  · obtain rfl : [] = fl := by rw [← HFL.out, if_pos h400]
    have y1 : (400 : Int) < cn := by omega
    have f8 := hk5.frozen 8
    have k8 := hk5.cell 8
    have hs1 : Blk (w3.setCell ⟨w.heap.size, 8, none⟩ (.slice none 0 0)) w.heap.size #[.int .i64 kind2, .bool b2, .bool neg2, .string dg2, .int .i64 ex2, .int .u64 u2, .int .i64 wd2, .string s2, .slice none 0 0] 38 := hk5.set 8 _
    have hs2 : Blk (w3.setCell ⟨w.heap.size, 8, none⟩ (.slice none 0 0)) (w.heap.size + 1) _ 38 := blk_keep hk6 (Below.heap_setCell w3 ⟨w.heap.size, 8, none⟩ _ _ (fun e => by have e : w.heap.size + 1 = w.heap.size := e; omega))
    have hb3 : Below w.heap.size w (w3.setCell ⟨w.heap.size, 8, none⟩ (.slice none 0 0)) := hbw3.grown (grown_setT w3 w.heap.size 8 _) hbw3.size (fun q e => by cases e; exact Nat.le_refl _)
    have hs3 := blk_row hs2 #[.int .i64 kind2, .bool b2, .bool neg2, .string dg2, .int .i64 ex2, .int .u64 u2, .int .i64 wd2, .string s2, .slice none 0 0]
    have hb4 : Below w.heap.size w ((w3.setCell ⟨w.heap.size, 8, none⟩ (.slice none 0 0)).setRow (w.heap.size + 1) #[.int .i64 kind2, .bool b2, .bool neg2, .string dg2, .int .i64 ex2, .int .u64 u2, .int .i64 wd2, .string s2, .slice none 0 0]) := hb3.grown (grown_row _ (w.heap.size + 1) _) hb3.size (fun q e => by cases e; omega)
    have HS1 := Lib.hid hs1
    have HS2 := Lib.hid hs2
    have HS3 := Lib.hid hs3
    have HB4 := Lib.hid hb4
    clear hs1 hs2 hb3 hs3 hb4 hly5 h400 hk5 hk6
    go_wp2_with (first | (refine wpList_load_row rfl 38 (.tmp 1) rfl w.heap.size rfl 38 _ (0, 0) _ HS1.out Tryz.underlying38 rfl (by kernel_rfl) ?_) | (refine wpList_store_row rfl 38 (.tmp 2) (.tmp 9) rfl (w.heap.size + 1) #[.int .i64 kind2, .bool b2, .bool neg2, .string dg2, .int .i64 ex2, .int .u64 u2, .int .i64 wd2, .string s2, .slice none 0 0] rfl rfl 38 _ HS2.out (by kernel_rfl) rfl (by simp [Value.oneCell']) ?_))
    refine bodyPost_ret (v := .agg #[.int .i64 kind2, .bool b2, .bool neg2, .string dg2, .int .i64 ex2, .int .u64 u2, .int .i64 wd2, .string s2, .slice none 0 0]) (results_cell_row rfl _ _ (w.heap.size + 1) 38 _ (0, 0) _ rfl HS3.out Tryz.underlying38 rfl (by kernel_rfl)) rfl ?_
    exact ⟨⟨_, rfl, LAt.nil _ _ _ _ _⟩, HB4.out⟩
  · obtain rfl : cl = fl := by rw [← HFL.out, if_neg h400]
    have y1 : ¬ (400 : Int) < cn := by omega
    have hs3 := blk_row hk6 #[.int .i64 kind2, .bool b2, .bool neg2, .string dg2, .int .i64 ex2, .int .u64 u2, .int .i64 wd2, .string s2, .slice A n c]
    have hb4 : Below w.heap.size w (w3.setRow (w.heap.size + 1) #[.int .i64 kind2, .bool b2, .bool neg2, .string dg2, .int .i64 ex2, .int .u64 u2, .int .i64 wd2, .string s2, .slice A n c]) := hbw3.grown (grown_row _ (w.heap.size + 1) _) hbw3.size (fun q e => by cases e; omega)
    have hly6 : LAt (w3.setRow (w.heap.size + 1) #[.int .i64 kind2, .bool b2, .bool neg2, .string dg2, .int .i64 ex2, .int .u64 u2, .int .i64 wd2, .string s2, .slice A n c]) (fun q => w.heap.size ≤ q ∧ q < (w3.setRow (w.heap.size + 1) #[.int .i64 kind2, .bool b2, .bool neg2, .string dg2, .int .i64 ex2, .int .u64 u2, .int .i64 wd2, .string s2, .slice A n c]).heap.size) 17 cl (.slice A n c) := (hly5.keep (fun q hq => setRow_other _ _ _ _ (by omega))).mono (fun q hq => ⟨by omega, by rw [setRow_size]; omega⟩)
    have HS1 := Lib.hid hk5
    have HS2 := Lib.hid hk6
    have HS3 := Lib.hid hs3
    have HB4 := Lib.hid hb4
    have HL6 := Lib.hid hly6
    clear hs3 hb4 hly5 h400 hk5 hk6 hly6
    go_wp2_with (first | (refine wpList_load_row rfl 38 (.tmp 1) rfl w.heap.size rfl 38 _ (0, 0) _ HS1.out Tryz.underlying38 rfl (by kernel_rfl) ?_) | (refine wpList_store_row rfl 38 (.tmp 2) (.tmp 9) rfl (w.heap.size + 1) #[.int .i64 kind2, .bool b2, .bool neg2, .string dg2, .int .i64 ex2, .int .u64 u2, .int .i64 wd2, .string s2, .slice A n c] rfl rfl 38 _ HS2.out (by kernel_rfl) rfl (by simp [Value.oneCell']) ?_))
    refine bodyPost_ret (v := .agg #[.int .i64 kind2, .bool b2, .bool neg2, .string dg2, .int .i64 ex2, .int .u64 u2, .int .i64 wd2, .string s2, .slice A n c]) (results_cell_row rfl _ _ (w.heap.size + 1) 38 _ (0, 0) _ rfl HS3.out Tryz.underlying38 rfl (by kernel_rfl)) rfl ?_
    exact ⟨⟨_, rfl, HL6.out⟩, HB4.out⟩
end Go.Proofs.YtgfeeakcpojicaaGreatDoor
/- Trees: rows of nodes, one of them replaced; slices.Clone at nodes. -/
namespace Go.Proofs.YtgfeeakcpojicaaGreatDoor
open Go.RowKit Go.Shelf

theorem grown_transT {a b c : World} {r : Option Nat} (h : a.grownBy b r) (k : b.grownBy c r) : a.grownBy c r :=
  ⟨k.os.trans h.os, k.tape.trans h.tape, k.output.trans h.output, Nat.le_trans h.size k.size, fun i hi hr => (k.block i (Nat.lt_of_lt_of_le hi h.size) hr).trans (h.block i hi hr)⟩
theorem grown_reflT (w : World) (r : Option Nat) : w.grownBy w r := ⟨rfl, rfl, rfl, Nat.le_refl _, fun _ _ _ => rfl⟩
theorem grown_cells (b : Nat) : ∀ (vs : List Value) (o : Nat) (w : World), w.grownBy (w.setCells b o vs) (some b)
  | [], _, w => grown_reflT w _
  | v :: r, o, w => by
    rw [World.setCells]
    exact grown_transT (grown_setT w b o v) (grown_cells b r (o + 1) _)
theorem addr0 (g j : Nat) : (⟨g, 0, none⟩ : Addr).add j = ⟨g, j, none⟩ := by
  unfold Addr.add
  split
  · rename_i h0
    rw [h0]
  · simp

def setAt (xs : List Value) (k : Nat) (c : List Value) : List Value := xs.take (k * 9) ++ c ++ xs.drop (k * 9 + 9)
theorem RowT.setAt {W : World} {S : Nat → Prop} {d : Nat} : ∀ {l : List Tr} {xs : List Value} (_ : RowT W S d l xs) (k : Nat) (hk : k < l.length) {y : Value} (_ : LAt W S d l[k].kids y),
    RowT W S d l (Go.Proofs.YtgfeeakcpojicaaGreatDoor.setAt xs k (nodeCells l[k].own y))
  | [], _, _, k, hk, _, _ => absurd hk (by simp)
  | t :: l, _, ⟨y0, r, hx, ho, hl, h⟩, 0, _, y, hy => by
    refine ⟨y, r, ?_, ho, hy, h⟩
    subst hx
    unfold Go.Proofs.YtgfeeakcpojicaaGreatDoor.setAt
    simp [nodeCells]
  | t :: l, _, ⟨y0, r, hx, ho, hl, h⟩, k + 1, hk, y, hy => by
    have ih := RowT.setAt h k (by simpa using hk) hy
    refine ⟨y0, _, ?_, ho, hl, ih⟩
    subst hx
    unfold Go.Proofs.YtgfeeakcpojicaaGreatDoor.setAt
    have t1 : (nodeCells t.own y0 ++ r).take ((k + 1) * 9) = nodeCells t.own y0 ++ r.take (k * 9) := by
      rw [List.take_append, List.take_of_length_le (by simp only [nodeCells, List.length_cons, List.length_nil]; omega)]
      congr 2
      simp only [nodeCells, List.length_cons, List.length_nil]
      omega
    have t2 : (nodeCells t.own y0 ++ r).drop ((k + 1) * 9 + 9) = r.drop (k * 9 + 9) := by
      rw [List.drop_append, List.drop_eq_nil_of_le (by simp only [nodeCells, List.length_cons, List.length_nil]; omega), List.nil_append]
      congr 1
      simp only [nodeCells, List.length_cons, List.length_nil]
      omega
    rw [t1, t2]
    simp
theorem setAt_length {xs : List Value} {k : Nat} {c : List Value} (hc : c.length = 9) (hk : k * 9 + 9 ≤ xs.length) : (setAt xs k c).length = xs.length := by
  unfold setAt
  rw [List.length_append, List.length_append, List.length_take, List.length_drop]
  omega
/-- A row of nodes that lies at the beginning of a block is a list of nodes. -/
theorem RowT.listR {W : World} {S S' : Nat → Prop} {d g c : Nat} {l : List Tr} {xs : List Value} (h : RowT W S d l xs) (hr : W.rangeAt g 0 xs) (hl : l.length ≤ 9223372036854775807) (hlc : l.length ≤ c)
    (hS : ∀ q, S q → S' q) (hg : S' g) : LAt W S' (d + 1) l (.slice (some ⟨g, 0, none⟩) l.length c) := by
  refine ⟨_, c, rfl, ⟨hl, hlc⟩, fun i hi => ?_⟩
  obtain ⟨y, ho, hgt, hk⟩ := h.get i hi
  refine ⟨⟨g, 0, none⟩, y, rfl, hg, ho, fun j u hu => ?_, hk.mono hS⟩
  rw [addr0]
  have := hr _ _ (hgt j u hu)
  rw [Nat.zero_add] at this
  exact this
theorem own_cap {W : World} {base n c : Nat} {e : TypeId} {A : Option Addr} {xs : List Value} (h : W.ownsRow base e 9 (.slice A n c) n xs) : n ≤ c := by
  rcases h.2 with ⟨h1, h2⟩ | ⟨_, _, _, h1, _, _, h2, _⟩
  · omega
  · injection h1 with _ _ h1
    omega
/-- A row that a call owns lies there, and may be written. -/
theorem own_range {W : World} {base n c g : Nat} {e : TypeId} {xs : List Value} (h : W.ownsRow base e 9 (.slice (some ⟨g, 0, none⟩) n c) n xs) : W.rangeAt g 0 xs ∧ W.there g 0 xs.length ∧ g < W.heap.size := by
  rcases h.2 with ⟨h1, _⟩ | ⟨g', cap, cur, hv, hb, hh, hn, hc, hz, ht⟩
  · cases h1
  · have hgg : g' = g := by
      injection hv with h1
      injection h1 with h1
      injection h1 with h1
      exact h1.symm
    subst hgg
    have hcell : ∀ j : Nat, W.cell? ⟨g', j, none⟩ = cur[j]? := fun j => by
      simp [World.cell?, hh]
    refine ⟨fun j v hj => ?_, fun j hj => ?_, (Array.getElem?_eq_some_iff.1 hh).1⟩
    · rw [Nat.zero_add, hcell]
      rw [← ht] at hj
      have hjl : j < n * 9 := by
        have := (List.getElem?_eq_some_iff.1 hj).1
        rw [List.length_take] at this
        omega
      rw [List.getElem?_take_of_lt hjl] at hj
      simpa using hj
    · rw [Nat.zero_add]
      refine ⟨?_, ?_⟩
      · rw [hcell]
        have : j < cur.size := by
          have h1 := h.1
          have h2 : n * 9 ≤ cap * 9 := Nat.mul_le_mul_right _ hn
          omega
        simp [this]
      · unfold World.frozen?
        rw [hh]
        simp
/-- A slice of nodes, as the row of its cells. -/
theorem row_of {W : World} {S : Nat → Prop} {d : Nat} {a : Addr} : ∀ (l : List Tr) (k : Nat), (∀ i (h : i < l.length), ∃ x, OwnOk l[i].own ∧ (∀ j u, (nodeCells l[i].own x)[j]? = some u → W.cell? (a.add ((k + i) * 9 + j)) = some u) ∧ LAt W S d l[i].kids x) →
    ∃ xs, RowT W S d l xs ∧ ∀ j u, xs[j]? = some u → W.cell? (a.add (k * 9 + j)) = some u
  | [], _, _ => ⟨[], rfl, fun j u h => by simp at h⟩
  | t :: l, k, h => by
    obtain ⟨x, ho, hc, hk⟩ := h 0 (by simp)
    obtain ⟨r, hr, hrc⟩ := row_of l (k + 1) (fun i hi => by
      obtain ⟨x', ho', hc', hk'⟩ := h (i + 1) (by simpa using hi)
      refine ⟨x', ho', fun j u hu => ?_, hk'⟩
      have := hc' j u hu
      rwa [show k + (i + 1) = k + 1 + i by omega] at this)
    refine ⟨nodeCells t.own x ++ r, ⟨x, r, rfl, ho, hk, hr⟩, fun j u hu => ?_⟩
    by_cases hj : j < 9
    · rw [List.getElem?_append_left (by simpa [nodeCells] using hj)] at hu
      have := hc j u hu
      rwa [Nat.add_zero] at this
    · rw [List.getElem?_append_right (by simp [nodeCells]; omega)] at hu
      have e : (nodeCells t.own x).length = 9 := rfl
      rw [e] at hu
      have := hrc _ u hu
      rwa [show (k + 1) * 9 + (j - 9) = k * 9 + j by omega] at this
theorem LAt.row {W : World} {S : Nat → Prop} {d n c : Nat} {a : Addr} {l : List Tr} (h : LAt W S (d + 1) l (.slice (some a) n c)) : ∃ xs, RowT W S d l xs ∧ ∀ j u, xs[j]? = some u → W.cell? (a.add j) = some u := by
  obtain ⟨A', c', hv, _, h⟩ := h
  have hA : some a = A' := by injection hv
  subst hA
  obtain ⟨xs, h1, h2⟩ := row_of (W := W) (S := S) (d := d) (a := a) l 0 (fun i hi => by
    obtain ⟨a', x, ha, _, ho, hc, hk⟩ := h i hi
    cases ha
    exact ⟨x, ho, fun j u hu => by
      have := hc j u hu
      rwa [Nat.zero_add], hk⟩)
  exact ⟨xs, h1, fun j u hu => by
    have := h2 j u hu
    rwa [Nat.zero_mul, Nat.zero_add] at this⟩
theorem RowT.cells1 {W : World} {S : Nat → Prop} {d : Nat} : ∀ {l : List Tr} {xs : List Value}, RowT W S d l xs → ∀ u ∈ xs, u.oneCell' = true
  | [], _, h, u, hu => by
    have h : _ = [] := h
    subst h
    cases hu
  | t :: l, _, ⟨y, r, hx, _, hl, h⟩, u, hu => by
    subst hx
    rcases List.mem_append.1 hu with hu | hu
    · obtain ⟨_, A, c, rfl⟩ := hl.slice
      unfold nodeCells at hu
      simp only [List.mem_cons, List.not_mem_nil, or_false] at hu
      rcases hu with rfl | rfl | rfl | rfl | rfl | rfl | rfl | rfl | rfl <;> rfl
    · exact h.cells1 u hu

theorem slice_nil (P : Program) (w : World) (t e : TypeId) (a : Option Addr) (l c : Nat) (h : P.underlying t = some (.slice e)) : (binOp .eql t (.slice a l c) (.slice none 0 0)).run P w = .ok (.bool a.isNone) w := Go.run_eql_slice_nil w t e a l c h

set_option maxHeartbeats 4000000 in
set_option maxRecDepth 100000 in
theorem clone_nodes (A : Option Addr) (n c d : Nat) (S : Nat → Prop) (l : List Tr) (w : World) (h : LAt w S (d + 1) l (.slice A n c)) (hS : ∀ q, S q → q < w.heap.size) (hn : n ≤ 1000000) (hln : l.length = n) :
    Calls Tryz.prog 66 #[.slice A n c] w fun e w' => (∃ v xs, e = .returned v ∧ w'.ownsRow w.heap.size 38 9 v n xs ∧ RowT w' S d l xs) ∧ Below w.heap.size w w' := by
  obtain ⟨i0, hi, hz0, hz1, hz2⟩ := info_parts infoNode
  have HI := Lib.hid hi
  have HZ0 := Lib.hid hz0
  have HZ1 := Lib.hid hz1
  have HZ2 := Lib.hid hz2
  clear hi hz0 hz1 hz2
  cases A with
  | none =>
    have hn0 : n = 0 := by
      rcases Nat.eq_zero_or_pos n with h0 | h0
      · exact h0
      · obtain ⟨A', c', hv, _, hh⟩ := h
        obtain ⟨a, _, ha, _⟩ := hh 0 (by omega)
        have : none = A' := by injection hv
        rw [← this] at ha
        cases ha
    subst hn0
    have hl0 : l = [] := List.eq_nil_of_length_eq_zero hln
    have ke := slice_nil Tryz.prog w 36 38 none 0 c Tryz.underlying36
    subst hl0
    clear h hS
    go_enter Tryz.func66, Tryz.ntmps66
    go_wp2_with fail
    go_ret
    exact ⟨⟨_, [], rfl, World.ownsRow_nil _ _ _ _, rfl⟩, Below.refl _ _⟩
  | some a =>
    obtain ⟨xs, hrow, hcells⟩ := h.row
    have ke := slice_nil Tryz.prog w 36 38 (some a) n c Tryz.underlying36
    have hxl := hrow.len
    have hx1 := hrow.cells1
    have hown0 : (w.alloc (.cells #[] 38)).ownsRow w.heap.size 38 9 (.slice (some ⟨w.heap.size, 0, none⟩) 0 0) 0 [] := by
      have := World.ownsRow_lit (base := w.heap.size) (e := 38) (size := 9) w #[] 0 (Nat.le_refl _) (by decide) rfl
      simpa using this
    have hcells1 : ∀ j u, xs[j]? = some u → (w.alloc (.cells #[] 38)).cell? (a.add j) = some u := fun j u hu => by
      rw [← hcells j u hu]
      refine cell_keep ?_
      rw [add_block]
      obtain ⟨A', c', hv, _, hh⟩ := h
      have hj : j < xs.length := (List.getElem?_eq_some_iff.1 hu).1
      obtain ⟨a', _, ha, hs, _⟩ := hh 0 (by omega)
      have : some a = A' := by injection hv
      rw [← this] at ha
      cases ha
      exact ((Below.refl w.heap.size w).alloc (Nat.le_refl _) _).block _ (hS _ hs)
    have hb0 := (Below.refl w.heap.size w).alloc (Nat.le_refl _) (.cells #[] 38)
    have HR := Lib.hid hrow
    have c3 : 0 + n ≤ maxLen := by unfold maxLen; omega
    clear h hrow hcells
    go_enter Tryz.func66, Tryz.ntmps66
    go_wp2_with (at_builtin; refine wpList_append_own _ rfl _ _ 36 rfl w.heap.size 38 i0 (.agg #[.int .i64 0, .bool false, .bool false, .string ⟨#[]⟩, .int .i64 0, .int .u64 0, .int .i64 0, .string ⟨#[]⟩, .slice none 0 0]) 9 104 Tryz.underlying36 HI.out HZ0.out HZ1.out HZ2.out rfl (by decide) _ _ _ rfl hown0 a n c xs rfl (by omega) hcells1 hx1 c3 (by omega) (by simp) ?_; intro v' w2 hown2 hgrow _)
    rw [Nat.zero_add, List.nil_append] at hown2
    have hb2 : Below w.heap.size w w2 := hb0.grown hgrow hb0.size (fun q e => (hown0.lt q e).1)
    clear hgrow
    go_wp2_with fail
    go_ret
    exact ⟨⟨_, xs, rfl, hown2, HR.out.keep (fun q hq => hb2.block q (hS q hq))⟩, hb2⟩
end Go.Proofs.YtgfeeakcpojicaaGreatDoor
