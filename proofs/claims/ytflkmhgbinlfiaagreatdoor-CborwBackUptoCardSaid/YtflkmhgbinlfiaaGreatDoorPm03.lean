/- The texts TreeD, HeadA, HeadL, put together. -/
import Derived.Test.YtflkmhgbinlfiaaGreatDoorPm02
import Derived.Test.YtflkmhgbinlfiaaGreatDoorPm01
import Derived.Lib.Hide
namespace Go.Proofs.YtflkmhgbinlfiaaGreatDoor
open Go.RowKit Go.Shelf

mutual
theorem cut_count : ∀ (d : Nat) (t : Tr), (cutT d t).count ≤ t.count
  | 0, t => by
    rw [Tr.count_eq, Tr.count_eq t]
    show 1 + countL [] ≤ _
    rw [countL]
    omega
  | d + 1, .nd o l => by
    rw [Tr.count_eq, Tr.count_eq (.nd o l)]
    show 1 + countL ((l.take 40).map (cutT d)) ≤ 1 + countL l
    have h1 := cut_countL d (l.take 40)
    have h2 := countL_mono l 40
    omega
theorem cut_countL : ∀ (d : Nat) (l : List Tr), countL (l.map (cutT d)) ≤ countL l
  | _, [] => by simp
  | d, t :: l => by
    show (cutT d t).count + countL (l.map (cutT d)) ≤ t.count + countL l
    have h1 := cut_count d t
    have h2 := cut_countL d l
    omega
end
/-- Few: at most four hundred nodes. -/
def fewT (t : Tr) : Tr := if 400 < (cutT 17 t).count then .nd (cutO t.own) [] else cutT 17 t
theorem fewT_own (t : Tr) : (fewT t).own = cutO t.own := by
  unfold fewT
  split
  · rfl
  · exact cutT_own 17 t
theorem few_count (t : Tr) : (fewT t).count ≤ 400 := by
  unfold fewT
  split
  · rw [Tr.count_eq]
    show 1 + countL [] ≤ 400
    rw [countL]
    omega
  · omega
theorem blk_row {W : World} {p : Nat} {cs : Array Value} {t : TypeId} (h : Blk W p cs t) (cs' : Array Value) : Blk (W.setRow p cs') p cs' t := setRow_heap _ _ _ _ _ _ h
theorem blk_row_other {W : World} {p q : Nat} {cs : Array Value} {t : TypeId} (h : Blk W q cs t) (hne : q ≠ p) (cs' : Array Value) : Blk (W.setRow p cs') q cs t := (setRow_other _ _ _ _ hne).trans h
theorem grown_row (w : World) (p : Nat) (cs : Array Value) : w.grownBy (w.setRow p cs) (some p) :=
  ⟨rfl, rfl, rfl, by simp, fun k _ hk => setRow_other _ _ _ _ (fun e => hk (by rw [e]))⟩

set_option maxHeartbeats 4000000 in
set_option maxRecDepth 100000 in
theorem law_FewT (t : Tr) (x : Value) (w : World) (B D : Nat) (hl : ListAt w B D t.kids x) (ho : OwnOk t.own) (hB : B ≤ w.heap.size) (hc : t.count ≤ 1000000000) :
    Calls Tryz.prog 19 #[nodeV t.own x] w fun e w' => (∃ y, e = .returned (nodeV (fewT t).own y) ∧ LAt w' (fun q => w.heap.size ≤ q ∧ q < w'.heap.size) 17 (fewT t).kids y) ∧ Below w.heap.size w w' := by
  have hbx := box2 w (cellsV t.own x) (cellsV ⟨0, false, false, ⟨#[]⟩, 0, 0, 0, ⟨#[]⟩⟩ (.slice none 0 0)) 28 28
  have HC := law_Cut 17 (by omega) t x _ B D (hl.below hbx.1 hB) ho (Nat.le_trans hB hbx.1.size)
  have hcc : (cutT 17 t).count ≤ 1000000000 := Nat.le_trans (cut_count 17 t) hc
  have HN := Lib.hid (fun y (w' : World) (B : Nat) (h : LAt w' (fun q => q < B) 17 (cutT 17 t).kids y) (hB : B ≤ w'.heap.size) => ref_Count 17 (cutT 17 t) y w' B h hB (by omega))
  rw [cutT_own] at HN
  rw [fewT_own]
  have hfew : (fewT t).kids = if 400 < (cutT 17 t).count then [] else (cutT 17 t).kids := by
    unfold fewT
    split <;> rfl
  rw [hfew]
  obtain ⟨cl, hcl⟩ : ∃ cl, (cutT 17 t).kids = cl := ⟨_, rfl⟩
  obtain ⟨cn, hcn⟩ : ∃ cn, (cutT 17 t).count = cn := ⟨_, rfl⟩
  rw [hcl] at HC HN ⊢
  rw [hcn] at HN hcc ⊢
  obtain ⟨fl, hfl⟩ : ∃ fl, (if 400 < cn then [] else cl) = fl := ⟨_, rfl⟩
  rw [hfl]
  have HFL := Lib.hid hfl
  clear hfl
  obtain ⟨o2, ho2⟩ : ∃ o2, cutO t.own = o2 := ⟨_, rfl⟩
  rw [ho2] at HC HN ⊢
  obtain ⟨kind2, b2, neg2, dg2, ex2, u2, wd2, s2⟩ := o2
  obtain ⟨⟨kind, b, neg, dg, ex, u, wd, s⟩, ho'⟩ : ∃ o, t.own = o := ⟨_, rfl⟩
  rw [ho'] at HC hbx ⊢
  unfold cellsV at hbx HC
  unfold nodeV at HC HN ⊢
  simp only [] at HC HN hbx ⊢
  have HC := Lib.hid HC
  obtain ⟨h1, h2, h3⟩ := hbx
  have H1 := Lib.hid h1
  have H2 := Lib.hid h2
  have H3 := Lib.hid h3
  clear hl ho hc hfew ho2 ho' h1 h2 h3 hcl hcn
  go_enter Tryz.func19, Tryz.ntmps19
  go_wp2_with fail
  refine HC.out.mono ?_
  rintro e w1 ⟨⟨y, rfl, hly⟩, hb⟩
  obtain ⟨_, A, c, rfl⟩ := hly.slice
  obtain ⟨n, hn⟩ : ∃ n, cl.length = n := ⟨_, rfl⟩
  rw [hn] at hly ⊢
  have hz := hb.size
  simp only [World.size_alloc] at hz
  have hbw := H1.out.trans (hb.mono H1.out.size)
  have hk1 := H2.out.below hb H2.out.lt
  have hk2 := H3.out.below hb H3.out.lt
  have hly2 : LAt w1 (fun q => w.heap.size + 2 ≤ q ∧ q < w1.heap.size) 17 cl (.slice A n c) := hly.mono (fun q hq => by
    have := hq.1
    simp only [World.size_alloc] at this
    exact ⟨by omega, hq.2⟩)
  clear H1 H2 H3 HC hb hly
  have hbw2 : Below w.heap.size w (w1.setRow w.heap.size #[.int .i64 kind2, .bool b2, .bool neg2, .string dg2, .int .i64 ex2, .int .u64 u2, .int .i64 wd2, .string s2, .slice A n c]) := hbw.grown (grown_row w1 w.heap.size _) hbw.size (fun q e => by cases e; exact Nat.le_refl _)
  have hk3 := blk_row hk1 #[.int .i64 kind2, .bool b2, .bool neg2, .string dg2, .int .i64 ex2, .int .u64 u2, .int .i64 wd2, .string s2, .slice A n c]
  have hk4 := blk_row_other hk2 (by omega : w.heap.size + 1 ≠ w.heap.size) #[.int .i64 kind2, .bool b2, .bool neg2, .string dg2, .int .i64 ex2, .int .u64 u2, .int .i64 wd2, .string s2, .slice A n c]
  have hly3 : LAt (w1.setRow w.heap.size #[.int .i64 kind2, .bool b2, .bool neg2, .string dg2, .int .i64 ex2, .int .u64 u2, .int .i64 wd2, .string s2, .slice A n c]) (fun q => w.heap.size + 2 ≤ q ∧ q < w1.heap.size) 17 cl (.slice A n c) := hly2.keep (fun q hq => setRow_other _ _ _ _ (by omega))
  have hz3 : (w1.setRow w.heap.size #[.int .i64 kind2, .bool b2, .bool neg2, .string dg2, .int .i64 ex2, .int .u64 u2, .int .i64 wd2, .string s2, .slice A n c]).heap.size = w1.heap.size := setRow_size _ _ _
  have HK1 := Lib.hid hk1
  clear hk2 hly2 hbw hk1
  have HK3 := Lib.hid hk3
  clear hk3
  go_wp2_with (first | (refine wpList_store_row rfl 28 (.tmp 1) (.tmp 4) rfl w.heap.size #[.int .i64 kind2, .bool b2, .bool neg2, .string dg2, .int .i64 ex2, .int .u64 u2, .int .i64 wd2, .string s2, .slice A n c] rfl rfl 28 _ HK1.out (by kernel_rfl) rfl (by simp [Value.oneCell']) ?_) | (refine wpList_load_row rfl 28 (.tmp 1) rfl w.heap.size rfl 28 _ (0, 0) _ HK3.out Tryz.underlying28 rfl (by kernel_rfl) ?_))
  clear HK1
  generalize w1.setRow w.heap.size #[.int .i64 kind2, .bool b2, .bool neg2, .string dg2, .int .i64 ex2, .int .u64 u2, .int .i64 wd2, .string s2, .slice A n c] = w2 at *
  refine (HN.out _ w2 w2.heap.size (hly3.mono (fun q hq => by omega)) (Nat.le_refl _)).mono ?_
  rintro e w3 ⟨rfl, hb⟩
  have hz5 := hb.size
  have hbw3 := hbw2.trans (hb.mono hbw2.size)
  have hk5 := HK3.out.below hb HK3.out.lt
  have hk6 := hk4.below hb hk4.lt
  have hly5 : LAt w3 (fun q => w.heap.size + 2 ≤ q ∧ q < w1.heap.size) 17 cl (.slice A n c) := hly3.keep (fun q hq => hb.block q (by omega))
  clear hb hly3 hk4 HK3 hbw2 HN
  by_cases h400 : 400 < cn
  · obtain rfl : [] = fl := by rw [← HFL.out, if_pos h400]
    have y1 : (400 : Int) < cn := by omega
    have f8 := hk5.frozen 8
    have k8 := hk5.cell 8
    have hs1 : Blk (w3.setCell ⟨w.heap.size, 8, none⟩ (.slice none 0 0)) w.heap.size #[.int .i64 kind2, .bool b2, .bool neg2, .string dg2, .int .i64 ex2, .int .u64 u2, .int .i64 wd2, .string s2, .slice none 0 0] 28 := hk5.set 8 _
    have hs2 : Blk (w3.setCell ⟨w.heap.size, 8, none⟩ (.slice none 0 0)) (w.heap.size + 1) _ 28 := blk_keep hk6 (Below.heap_setCell w3 ⟨w.heap.size, 8, none⟩ _ _ (fun e => by have e : w.heap.size + 1 = w.heap.size := e; omega))
    have hb3 : Below w.heap.size w (w3.setCell ⟨w.heap.size, 8, none⟩ (.slice none 0 0)) := hbw3.grown (grown_setT w3 w.heap.size 8 _) hbw3.size (fun q e => by cases e; exact Nat.le_refl _)
    have hs3 := blk_row hs2 #[.int .i64 kind2, .bool b2, .bool neg2, .string dg2, .int .i64 ex2, .int .u64 u2, .int .i64 wd2, .string s2, .slice none 0 0]
    have hb4 : Below w.heap.size w ((w3.setCell ⟨w.heap.size, 8, none⟩ (.slice none 0 0)).setRow (w.heap.size + 1) #[.int .i64 kind2, .bool b2, .bool neg2, .string dg2, .int .i64 ex2, .int .u64 u2, .int .i64 wd2, .string s2, .slice none 0 0]) := hb3.grown (grown_row _ (w.heap.size + 1) _) hb3.size (fun q e => by cases e; omega)
    have HS1 := Lib.hid hs1
    have HS2 := Lib.hid hs2
    have HS3 := Lib.hid hs3
    have HB4 := Lib.hid hb4
    clear hs1 hs2 hb3 hs3 hb4 hly5 h400 hk5 hk6
    go_wp2_with (first | (refine wpList_load_row rfl 28 (.tmp 1) rfl w.heap.size rfl 28 _ (0, 0) _ HS1.out Tryz.underlying28 rfl (by kernel_rfl) ?_) | (refine wpList_store_row rfl 28 (.tmp 2) (.tmp 9) rfl (w.heap.size + 1) #[.int .i64 kind2, .bool b2, .bool neg2, .string dg2, .int .i64 ex2, .int .u64 u2, .int .i64 wd2, .string s2, .slice none 0 0] rfl rfl 28 _ HS2.out (by kernel_rfl) rfl (by simp [Value.oneCell']) ?_))
    refine bodyPost_ret (v := .agg #[.int .i64 kind2, .bool b2, .bool neg2, .string dg2, .int .i64 ex2, .int .u64 u2, .int .i64 wd2, .string s2, .slice none 0 0]) (results_cell_row rfl _ _ (w.heap.size + 1) 28 _ (0, 0) _ rfl HS3.out Tryz.underlying28 rfl (by kernel_rfl)) rfl ?_
    exact ⟨⟨_, rfl, LAt.nil _ _ _ _ _⟩, HB4.out⟩
  · obtain rfl : cl = fl := by rw [← HFL.out, if_neg h400]
    have y1 : ¬ (400 : Int) < cn := by omega
    have hs3 := blk_row hk6 #[.int .i64 kind2, .bool b2, .bool neg2, .string dg2, .int .i64 ex2, .int .u64 u2, .int .i64 wd2, .string s2, .slice A n c]
    have hb4 : Below w.heap.size w (w3.setRow (w.heap.size + 1) #[.int .i64 kind2, .bool b2, .bool neg2, .string dg2, .int .i64 ex2, .int .u64 u2, .int .i64 wd2, .string s2, .slice A n c]) := hbw3.grown (grown_row _ (w.heap.size + 1) _) hbw3.size (fun q e => by cases e; omega)
    have hly6 : LAt (w3.setRow (w.heap.size + 1) #[.int .i64 kind2, .bool b2, .bool neg2, .string dg2, .int .i64 ex2, .int .u64 u2, .int .i64 wd2, .string s2, .slice A n c]) (fun q => w.heap.size ≤ q ∧ q < (w3.setRow (w.heap.size + 1) #[.int .i64 kind2, .bool b2, .bool neg2, .string dg2, .int .i64 ex2, .int .u64 u2, .int .i64 wd2, .string s2, .slice A n c]).heap.size) 17 cl (.slice A n c) := (hly5.keep (fun q hq => setRow_other _ _ _ _ (by omega))).mono (fun q hq => ⟨by omega, by rw [setRow_size]; omega⟩)
    have HS1 := Lib.hid hk5
    have HS2 := Lib.hid hk6
    have HS3 := Lib.hid hs3
    have HB4 := Lib.hid hb4
    have HL6 := Lib.hid hly6
    clear hs3 hb4 hly5 h400 hk5 hk6 hly6
    go_wp2_with (first | (refine wpList_load_row rfl 28 (.tmp 1) rfl w.heap.size rfl 28 _ (0, 0) _ HS1.out Tryz.underlying28 rfl (by kernel_rfl) ?_) | (refine wpList_store_row rfl 28 (.tmp 2) (.tmp 9) rfl (w.heap.size + 1) #[.int .i64 kind2, .bool b2, .bool neg2, .string dg2, .int .i64 ex2, .int .u64 u2, .int .i64 wd2, .string s2, .slice A n c] rfl rfl 28 _ HS2.out (by kernel_rfl) rfl (by simp [Value.oneCell']) ?_))
    refine bodyPost_ret (v := .agg #[.int .i64 kind2, .bool b2, .bool neg2, .string dg2, .int .i64 ex2, .int .u64 u2, .int .i64 wd2, .string s2, .slice A n c]) (results_cell_row rfl _ _ (w.heap.size + 1) 28 _ (0, 0) _ rfl HS3.out Tryz.underlying28 rfl (by kernel_rfl)) rfl ?_
    exact ⟨⟨_, rfl, HL6.out⟩, HB4.out⟩
end Go.Proofs.YtflkmhgbinlfiaaGreatDoor
namespace Go.Proofs.YtflkmhgbinlfiaaGreatDoor
open Go.RowKit Go.Shelf

theorem head_sizes (w : World) :
    Calls Tryz.prog 78 #[] w fun e w' => e = .returned (.agg #[.int .i64 24, .int .i64 1, .int .i64 25, .int .i64 2, .int .i64 26, .int .i64 4, .int .i64 27, .int .i64 8]) ∧ Below w.heap.size w w' := by
  go_enter Tryz.func78, Tryz.ntmps78
  go_wp2
  exact bodyPost_ret (v := .agg #[.int .i64 24, .int .i64 1, .int .i64 25, .int .i64 2, .int .i64 26, .int .i64 4, .int .i64 27, .int .i64 8]) (by simp [results, Tryz.results78, go_sem]) rfl ⟨rfl, (Below.refl _ _).alloc (Nat.le_refl _) _⟩

theorem head_fitting (n : Int) (w : World) :
    Calls Tryz.prog 42 #[.int .u64 n] w fun e w' => e = .returned (.func (.func 77) #[] #[.pointer (some ⟨w.heap.size, 0, none⟩)]) ∧ w.alloc (.cells #[.int .u64 n] 25) = w' := by
  go_enter Tryz.func42, Tryz.ntmps42
  go_wp2
  go_ret
  exact ⟨rfl, rfl⟩

attribute [local go_sem] Oper.semAt_some
attribute [local go_sem] wide_fn wide_depth

/-- The sizes, and which of them have room for n. -/
def sizeList : List (Int × Int) := [(24, 1), (25, 2), (26, 4), (27, 8)]
def fitsB (n : Int) (s : Int × Int) : Bool := decide (8 ≤ s.2) || decide (n < 2 ^ (8 * s.2.toNat))
def fitsTo (n : Int) (k : Nat) : List (Int × Int) := (sizeList.take k).filter (fitsB n)

theorem fitsTo_1 {n : Int} (h : n < 256) : fitsTo n 1 = fitsTo n 0 ++ [(24, 1)] := by simp [fitsTo, sizeList, fitsB, List.filter, h]
theorem fitsTo_1n {n : Int} (h : ¬ n < 256) : fitsTo n 1 = fitsTo n 0 := by simp [fitsTo, sizeList, fitsB, List.filter, h]
theorem fitsTo_2 {n : Int} (h : n < 65536) : fitsTo n 2 = fitsTo n 1 ++ [(25, 2)] := by
  by_cases h1 : n < 256 <;> simp [fitsTo, sizeList, fitsB, List.filter, h, h1]
theorem fitsTo_2n {n : Int} (h : ¬ n < 65536) : fitsTo n 2 = fitsTo n 1 := by
  by_cases h1 : n < 256 <;> simp [fitsTo, sizeList, fitsB, List.filter, h, h1]
theorem fitsTo_3 {n : Int} (h : n < 4294967296) : fitsTo n 3 = fitsTo n 2 ++ [(26, 4)] := by
  by_cases h1 : n < 256 <;> by_cases h2 : n < 65536 <;> simp [fitsTo, sizeList, fitsB, List.filter, h, h1, h2]
theorem fitsTo_3n {n : Int} (h : ¬ n < 4294967296) : fitsTo n 3 = fitsTo n 2 := by
  by_cases h1 : n < 256 <;> by_cases h2 : n < 65536 <;> simp [fitsTo, sizeList, fitsB, List.filter, h, h1, h2]
theorem fitsTo_4 (n : Int) : fitsTo n 4 = fitsTo n 3 ++ [(27, 8)] := by
  by_cases h1 : n < 256 <;> by_cases h2 : n < 65536 <;> by_cases h3 : n < 4294967296 <;> simp [fitsTo, sizeList, fitsB, List.filter, h1, h2, h3]
theorem fitsTo_le (n : Int) (k : Nat) (h : k ≤ 4) : fitsTo n k <+: fitsTo n 4 := by
  unfold fitsTo
  exact (List.take_prefix_take_left h).filter _
theorem fitsTo_len (n : Int) (k : Nat) : (fitsTo n k).length ≤ k := Nat.le_trans (List.length_filter_le _ _) (List.length_take_le _ _)

theorem szA0 (w : World) : (Instr.index 143 (.agg #[.int .i64 24, .int .i64 1, .int .i64 25, .int .i64 2, .int .i64 26, .int .i64 4, .int .i64 27, .int .i64 8]) (.int .i64 0)).run Tryz.prog w = .ok (.agg #[.int .i64 24, .int .i64 1]) w := by kernel_rfl
theorem szA1 (w : World) : (Instr.index 143 (.agg #[.int .i64 24, .int .i64 1, .int .i64 25, .int .i64 2, .int .i64 26, .int .i64 4, .int .i64 27, .int .i64 8]) (.int .i64 1)).run Tryz.prog w = .ok (.agg #[.int .i64 25, .int .i64 2]) w := by kernel_rfl
theorem szA2 (w : World) : (Instr.index 143 (.agg #[.int .i64 24, .int .i64 1, .int .i64 25, .int .i64 2, .int .i64 26, .int .i64 4, .int .i64 27, .int .i64 8]) (.int .i64 2)).run Tryz.prog w = .ok (.agg #[.int .i64 26, .int .i64 4]) w := by kernel_rfl
theorem szA3 (w : World) : (Instr.index 143 (.agg #[.int .i64 24, .int .i64 1, .int .i64 25, .int .i64 2, .int .i64 26, .int .i64 4, .int .i64 27, .int .i64 8]) (.int .i64 3)).run Tryz.prog w = .ok (.agg #[.int .i64 27, .int .i64 8]) w := by kernel_rfl

set_option maxRecDepth 100000 in
set_option maxHeartbeats 1000000 in
theorem head_fitting1 (m l Bn n₀ : Nat) (n : Int) (h0n : 0 ≤ n) (hn64 : n < 18446744073709551616) (J Jx : List (Int × Int) → World → Prop)
    (hJ : ∀ s (A B : World), J s A → A.grownBy B none → J s B)
    (hY : ∀ pre x W, J pre W → pre.length < 4 → YieldAt Fence.wide (m - 1) Tryz.prog l #[.agg #[.int .i64 x.1, .int .i64 x.2]] W fun e W' =>
      (e = .returned (.bool true) ∧ J (pre ++ [x]) W' ∧ Below n₀ W W') ∨ (e = .returned (.bool false) ∧ Jx (pre ++ [x]) W'))
    (W : World) (hb : Bn < n₀) (hn₀ : n₀ ≤ W.heap.size) (hBn : W.cell? ⟨Bn, 0, none⟩ = some (.int .u64 n)) (h0 : J [] W) :
    CallsIn Fence.wide m Tryz.prog 77 #[.func (.yield l) #[] #[], .pointer (some ⟨Bn, 0, none⟩)] W fun e W' => (∃ v, e = .returned v) ∧
      ((∃ ys, ys = fitsTo n 4 ∧ J ys W') ∨ (∃ pre, pre <+: fitsTo n 4 ∧ Jx pre W')) := by
  have i0 := szA0
  have i1 := szA1
  have i2 := szA2
  have i3 := szA3
  refine callsIn_of_wp Tryz.func77 rfl trivial ?_ rfl
  simp only [Tryz.ntmps77, List.size_toArray, List.length_cons, List.length_nil, Nat.reduceAdd, Nat.reduceSub, Array.replicate_succ, Array.replicate_zero, List.push_toArray, List.append_toArray, List.nil_append, List.cons_append]
  gi_wp2_with (gi_at_call 78; refine (callsIn_wide.2 (head_sizes _)).mono ?_; rintro e w1 ⟨rfl, hb1⟩)
  gi_loopw [6] (fun i wr => ∃ k : Nat, k ≤ 4 ∧ i = .int .i64 k ∧ J (fitsTo n k) wr ∧ wr.cell? ⟨Bn, 0, none⟩ = some (.int .u64 n)) (fun i _ => 4 - (intOf i).toNat)
  case atStart => exact ⟨0, by omega, rfl, hJ _ _ _ h0 ⟨hb1.os, hb1.tape, hb1.output, hb1.size, fun k hk _ => hb1.block k hk⟩, (hb1.cell (p := ⟨Bn, 0, none⟩) (by simp; omega)).trans hBn⟩
  case round =>
    obtain ⟨k, hk, rfl, hj, hc⟩ := hrel
    by_cases hlt : k < 4
    · have hBw : Bn < wr.heap.size := by
        unfold World.cell? at hc
        rcases Nat.lt_or_ge Bn wr.heap.size with h | h
        · exact h
        · simp [Array.getElem?_eq_none h] at hc
      have hca : ∀ o, (wr.alloc o).cell? ⟨Bn, 0, none⟩ = some (.int .u64 n) := fun o => by
        rw [← hc]; exact World.cell?_of_block (Below.heap_alloc wr o Bn hBw)
      have hja : ∀ o, J (fitsTo n k) (wr.alloc o) := fun o => hJ _ _ _ hj (World.grownBy_alloc wr o none)
      obtain rfl | rfl | rfl | rfl : k = 0 ∨ k = 1 ∨ k = 2 ∨ k = 3 := by omega
      · by_cases hf : n < 256
        · have hb0 : (n / 256 != 0) = false := by rw [bne_eq_false_iff_eq]; omega
          obtain ⟨fn, tmps, assign, body, hy, hR⟩ := hY (fitsTo n 0) (24, 1) _ (hja (Obj.cells #[Value.int IntKind.i64 24, Value.int IntKind.i64 1] 69)) (Nat.lt_of_le_of_lt (fitsTo_len _ _) (by decide))
          gi_wp2
          refine hR.mono ?_
          rintro e W3 (⟨rfl, hJ3, hk3⟩ | ⟨rfl, hJx3⟩)
          · gi_wp2
            go_roundw
            case rel => exact ⟨1, by omega, rfl, by rw [fitsTo_1 hf]; exact hJ3, (hk3.cell (p := ⟨Bn, 0, none⟩) hb).trans (hca _)⟩
            case measure => simp [intOf]
          · gi_wp2
            refine bodyPost_ret (results_none rfl _ _ _) rfl ?_
            exact ⟨⟨_, rfl⟩, .inr ⟨_, by rw [← fitsTo_1 hf]; exact fitsTo_le _ _ (by omega), hJx3⟩⟩
        · have hb0 : (n / 256 != 0) = true := by rw [bne_iff_ne]; omega
          gi_wp2
          go_roundw
          case rel => exact ⟨1, by omega, rfl, by rw [fitsTo_1n hf]; exact hja _, hca _⟩
          case measure => simp [intOf]
      · by_cases hf : n < 65536
        · have hb0 : (n / 65536 != 0) = false := by rw [bne_eq_false_iff_eq]; omega
          obtain ⟨fn, tmps, assign, body, hy, hR⟩ := hY (fitsTo n 1) (25, 2) _ (hja (Obj.cells #[Value.int IntKind.i64 25, Value.int IntKind.i64 2] 69)) (Nat.lt_of_le_of_lt (fitsTo_len _ _) (by decide))
          gi_wp2
          refine hR.mono ?_
          rintro e W3 (⟨rfl, hJ3, hk3⟩ | ⟨rfl, hJx3⟩)
          · gi_wp2
            go_roundw
            case rel => exact ⟨2, by omega, rfl, by rw [fitsTo_2 hf]; exact hJ3, (hk3.cell (p := ⟨Bn, 0, none⟩) hb).trans (hca _)⟩
            case measure => simp [intOf]
          · gi_wp2
            refine bodyPost_ret (results_none rfl _ _ _) rfl ?_
            exact ⟨⟨_, rfl⟩, .inr ⟨_, by rw [← fitsTo_2 hf]; exact fitsTo_le _ _ (by omega), hJx3⟩⟩
        · have hb0 : (n / 65536 != 0) = true := by rw [bne_iff_ne]; omega
          gi_wp2
          go_roundw
          case rel => exact ⟨2, by omega, rfl, by rw [fitsTo_2n hf]; exact hja _, hca _⟩
          case measure => simp [intOf]
      · by_cases hf : n < 4294967296
        · have hb0 : (n / 4294967296 != 0) = false := by rw [bne_eq_false_iff_eq]; omega
          obtain ⟨fn, tmps, assign, body, hy, hR⟩ := hY (fitsTo n 2) (26, 4) _ (hja (Obj.cells #[Value.int IntKind.i64 26, Value.int IntKind.i64 4] 69)) (Nat.lt_of_le_of_lt (fitsTo_len _ _) (by decide))
          gi_wp2
          refine hR.mono ?_
          rintro e W3 (⟨rfl, hJ3, hk3⟩ | ⟨rfl, hJx3⟩)
          · gi_wp2
            go_roundw
            case rel => exact ⟨3, by omega, rfl, by rw [fitsTo_3 hf]; exact hJ3, (hk3.cell (p := ⟨Bn, 0, none⟩) hb).trans (hca _)⟩
            case measure => simp [intOf]
          · gi_wp2
            refine bodyPost_ret (results_none rfl _ _ _) rfl ?_
            exact ⟨⟨_, rfl⟩, .inr ⟨_, by rw [← fitsTo_3 hf]; exact fitsTo_le _ _ (by omega), hJx3⟩⟩
        · have hb0 : (n / 4294967296 != 0) = true := by rw [bne_iff_ne]; omega
          gi_wp2
          go_roundw
          case rel => exact ⟨3, by omega, rfl, by rw [fitsTo_3n hf]; exact hja _, hca _⟩
          case measure => simp [intOf]
      · have _i := i3
        obtain ⟨fn, tmps, assign, body, hy, hR⟩ := hY (fitsTo n 3) (27, 8) _ (hja (Obj.cells #[Value.int IntKind.i64 27, Value.int IntKind.i64 8] 69)) (Nat.lt_of_le_of_lt (fitsTo_len _ _) (by decide))
        gi_wp2
        refine hR.mono ?_
        rintro e W3 (⟨rfl, hJ3, hk3⟩ | ⟨rfl, hJx3⟩)
        · gi_wp2
          go_roundw
          case rel => exact ⟨4, by omega, rfl, by rw [fitsTo_4]; exact hJ3, (hk3.cell (p := ⟨Bn, 0, none⟩) hb).trans (hca _)⟩
          case measure => simp [intOf]
        · gi_wp2
          refine bodyPost_ret (results_none rfl _ _ _) rfl ?_
          exact ⟨⟨_, rfl⟩, .inr ⟨_, by rw [← fitsTo_4]; exact fitsTo_le _ _ (by omega), hJx3⟩⟩
    · obtain rfl : k = 4 := by omega
      gi_wp2
      go_end0
      exact ⟨⟨_, rfl⟩, .inl ⟨_, rfl, hj⟩⟩

/-- What fitting hands back, as an iterator. -/
theorem head_fitting_stops (m Bn n₀ : Nat) (n : Int) (h0n : 0 ≤ n) (hn64 : n < 18446744073709551616) (w : World) (hb : Bn < n₀) (hn₀ : n₀ ≤ w.heap.size) (hc : w.cell? ⟨Bn, 0, none⟩ = some (.int .u64 n)) :
    SeqStopsK Fence.wide m Tryz.prog 77 #[.pointer (some ⟨Bn, 0, none⟩)] (fun x : Int × Int => #[Value.agg #[.int .i64 x.1, .int .i64 x.2]]) (Below n₀) (fun ys => ys = fitsTo n 4) (fun pre => pre <+: fitsTo n 4) 4 w := fun l J Jx W hW hJ _ hY h0 =>
  head_fitting1 m l Bn n₀ n h0n hn64 J Jx (fun s A B hs hg => hJ s A B none hs hg (fun r e => by cases e)) hY W hb (Nat.le_trans hn₀ hW.size) ((hW.cell (p := ⟨Bn, 0, none⟩) (by simp; omega)).trans hc) h0

end Go.Proofs.YtflkmhgbinlfiaaGreatDoor
namespace Go.Proofs.YtflkmhgbinlfiaaGreatDoor
open Go.RowKit Go.Shelf
attribute [local go_sem] Oper.semAt_some wide_fn wide_depth

def leastOf (n : Int) : Int × Int := if n < 24 then (n, 0) else if n < 256 then (24, 1) else if n < 65536 then (25, 2) else if n < 4294967296 then (26, 4) else (27, 8)

set_option maxRecDepth 100000 in
set_option maxHeartbeats 400000 in
theorem head_least (n : Int) (h0n : 0 ≤ n) (hn64 : n < 18446744073709551616) (w : World) :
    Calls Tryz.prog 26 #[.int .u64 n] w fun e w' => e = .returned (.agg #[.int .i64 (leastOf n).1, .int .i64 (leastOf n).2]) ∧ Below w.heap.size w w' := by
  refine calls_of_marks Tryz.func26 rfl ?_
  simp only [Tryz.ntmps26, List.size_toArray, List.length_cons, List.length_nil, Nat.reduceAdd, Nat.reduceSub, Array.replicate_succ, Array.replicate_zero, List.push_toArray, List.append_toArray, List.nil_append, List.cons_append]
  by_cases h24 : n < 24
  · go_wp2
    go_step3
    go_wp2
    rw [Exit.noGoto_ret]
    exact leave0 (v := .agg #[.int .i64 n, .int .i64 0]) (by simp [results, Tryz.results26, go_sem]) rfl ⟨by simp [leastOf, h24], ((Below.refl _ _).alloc (Nat.le_refl _) _).alloc (by simp) _⟩
  · go_wp2
    go_step3
    go_wp2
    go_step3
    go_wp2_with (go_at_call 42; refine (head_fitting _ _).mono ?_; rintro e w' ⟨rfl, rfl⟩)
    have bA := Blk.new ((w.alloc (Obj.cells #[Value.int IntKind.i64 0, Value.int IntKind.i64 0] 69)).alloc (Obj.cells #[Value.int IntKind.i64 (wrap64 n), Value.int IntKind.i64 0] 69)) #[.int .u64 n] 25
    have bR := ((Blk.new w #[Value.int IntKind.i64 0, Value.int IntKind.i64 0] 69).alloc (Obj.cells #[Value.int IntKind.i64 (wrap64 n), Value.int IntKind.i64 0] 69)).alloc (Obj.cells #[Value.int .u64 n] 25)
    have bO := (Blk.new (w.alloc (Obj.cells #[Value.int IntKind.i64 0, Value.int IntKind.i64 0] 69)) #[Value.int IntKind.i64 (wrap64 n), Value.int IntKind.i64 0] 69).alloc (Obj.cells #[Value.int .u64 n] 25)
    have hB0 : Below w.heap.size w (((w.alloc (Obj.cells #[Value.int IntKind.i64 0, Value.int IntKind.i64 0] 69)).alloc (Obj.cells #[Value.int IntKind.i64 (wrap64 n), Value.int IntKind.i64 0] 69)).alloc (Obj.cells #[Value.int IntKind.u64 n] 25)) := (((Below.refl _ w).alloc (Nat.le_refl _) _).alloc (by simp) _).alloc (by simp; omega) _
    have hsz : (((w.alloc (Obj.cells #[Value.int IntKind.i64 0, Value.int IntKind.i64 0] 69)).alloc (Obj.cells #[Value.int IntKind.i64 (wrap64 n), Value.int IntKind.i64 0] 69)).alloc (Obj.cells #[Value.int IntKind.u64 n] 25)).heap.size = w.heap.size + 3 := by simp
    simp only [World.size_alloc] at bA bO bR
    obtain ⟨W0, hW0⟩ : ∃ W0, ((w.alloc (Obj.cells #[Value.int IntKind.i64 0, Value.int IntKind.i64 0] 69)).alloc (Obj.cells #[Value.int IntKind.i64 (wrap64 n), Value.int IntKind.i64 0] 69)).alloc (Obj.cells #[Value.int IntKind.u64 n] 25) = W0 := ⟨_, rfl⟩
    rw [hW0] at bA bO bR hB0 hsz ⊢
    clear hW0
    refine wp_rangeFunc (gf := 77) (lb := #[.pointer (some ⟨w.heap.size + 1 + 1, 0, none⟩)]) rfl (enters_of Tryz.func77 (by kernel_rfl) rfl)
      (head_fitting_stops 8 (w.heap.size + 1 + 1) (w.heap.size + 3) n h0n hn64 W0 (by omega) (by omega) ((bA.cell 0).trans rfl)) (by omega) (Below.refl _ _) (fun _ => rfl)
      (fun pre W => (pre = [] ∧ Blk W w.heap.size #[.int .i64 0, .int .i64 0] 69 ∧ Blk W (w.heap.size + 1) #[.int .i64 (wrap64 n), .int .i64 0] 69) ∧ Below w.heap.size W0 W)
      (fun c pre W => (c = .exit 0 ∧ ∃ x : Int × Int, pre = [x] ∧ Blk W w.heap.size #[.int .i64 0, .int .i64 0] 69 ∧ Blk W (w.heap.size + 1) #[.int .i64 x.1, .int .i64 x.2] 69) ∧ Below w.heap.size W0 W)
      ?hI ?hIx ⟨⟨rfl, bR, bO⟩, Below.refl _ _⟩
      (fun T x a' W => ∃ Bx, w.heap.size + 1 < Bx ∧ Blk W Bx #[.int .i64 x.1, .int .i64 x.2] 69 ∧ a' = { tmps := (T.setIfInBounds 13 (.agg #[.int .i64 x.1, .int .i64 x.2])).setIfInBounds 4 (.pointer (some ⟨Bx, 0, none⟩)), defers := [] })
      ?hAx ?assign ?body ?done ?stop
    case hI =>
      refine OwnFrom.and (Own.from ?_ _) (ownFrom_below (by omega) (by omega))
      rintro s X Y row ⟨h1, h2, h3⟩ hg hr
      exact ⟨h1, blk_own _ _ (fun _ : Unit => _) () X Y row h2 hg hr, blk_own _ _ (fun _ : Unit => _) () X Y row h3 hg hr⟩
    case hIx =>
      intro c
      refine OwnFrom.and (Own.from ?_ _) (ownFrom_below (by omega) (by omega))
      rintro s X Y row ⟨h1, x, hx, h2, h3⟩ hg hr
      exact ⟨h1, x, hx, blk_own _ _ (fun _ : Unit => _) () X Y row h2 hg hr, blk_own _ _ (fun _ : Unit => _) () X Y row h3 hg hr⟩
    case hAx =>
      rintro x a' _ X Y row ⟨Bx, h1, h2, h3⟩ hg hr
      exact ⟨Bx, h1, blk_own _ _ (fun _ : Unit => _) () X Y row h2 hg (fun r e => (hr r e).2), h3⟩
    case assign =>
      rintro l pre x W K ⟨⟨hp, h1, h2⟩, hB⟩ hK
      have HK := Lib.hid hK
      clear hK
      have hz := hB.size
      gi_wp2
      exact HK.out _ _ ((KeepsOthers.alloc _ _).from _) ((Below.refl _ _).alloc (by omega) _) ⟨⟨hp, h1.alloc _, h2.alloc _⟩, hB.alloc (by omega) _⟩ ⟨W.heap.size, h2.lt, Blk.new _ _ _, rfl⟩
    case body =>
      rintro l pre x a' W hl ⟨r, hr⟩ ⟨⟨rfl, h1, h2⟩, hB⟩ ⟨Bx, hBx, bX, rfl⟩ hlt
      have hx0 := bX.cell 0
      have hx1 := bX.cell 1
      have ho0 := h2.cell 0
      have ho1 := h2.cell 1
      have hf := h2.frozen
      simp only [List.setIfInBounds_toArray, List.set_cons_zero, List.set_cons_succ]
      gi_wp2
      exact ⟨((KeepsOthers.setCell _ _ _).trans (KeepsOthers.setCell _ _ _)).from _, ⟨rfl, x, rfl, (h1.other (by omega) _ _).other (by omega) _ _, (h2.set 0 _).set 1 _⟩, (hB.setCell (by simp) _).setCell (by simp) _⟩
    case done =>
      rintro D ys W hD rfl ⟨⟨hp, _⟩, _⟩ hK
      exact absurd hp (by rw [fitsTo_4]; simp)
    case stop =>
      rintro D c pre W hD hp ⟨⟨rfl, x, rfl, h1, h2⟩, hB⟩ hK
      have ho0 := h2.cell 0
      have ho1 := h2.cell 1
      have hr0 := h1.cell 0
      have hr1 := h1.cell 1
      have hf := h1.frozen
      have hx : x = leastOf n := by
        unfold leastOf
        rw [if_neg (by omega)]
        by_cases h1 : n < 256
        · rw [if_pos h1]
          simp [fitsTo, sizeList, fitsB, List.filter, h1] at hp; exact hp
        · rw [if_neg h1]
          by_cases h2 : n < 65536
          · rw [if_pos h2]
            simp [fitsTo, sizeList, fitsB, List.filter, h1, h2] at hp; exact hp
          · rw [if_neg h2]
            by_cases h3 : n < 4294967296
            · rw [if_pos h3]
              simp [fitsTo, sizeList, fitsB, List.filter, h1, h2, h3] at hp; exact hp
            · rw [if_neg h3]
              simp [fitsTo, sizeList, fitsB, List.filter, h1, h2, h3] at hp; exact hp
      have HX := Lib.hid hx
      clear hx
      go_wp2
      rw [Exit.noGoto_ret]
      have bR' := (h1.set 0 (Value.int IntKind.i64 x.fst)).set 1 (Value.int IntKind.i64 x.snd)
      have hK' : ((W.setCell { block := w.heap.size, off := 0 } (Value.int IntKind.i64 x.fst)).setCell { block := w.heap.size, off := 1 } (Value.int IntKind.i64 x.snd)).heap[D]? = some (.deferred (some [])) :=
        ((Below.heap_setCell _ _ _ D (by simp; omega)).trans (Below.heap_setCell _ _ _ D (by simp; omega))).trans hK
      have bR2 := bR'.shut hK' rfl (.deferred none)
      have hq0 := bR2.cell 0
      have hq1 := bR2.cell 1
      refine leave1 (v := .agg #[.int .i64 x.1, .int .i64 x.2]) hK' (by simp [results, Tryz.results26, go_sem, hq0, hq1]) rfl ⟨by rw [HX.out], ?_⟩
      have hz := hB.size
      exact below_shut (hB0.trans ((hB.setCell (by simp) _).setCell (by simp) _)) (by omega) (by simp [World.setCell]; omega) _
end Go.Proofs.YtflkmhgbinlfiaaGreatDoor
