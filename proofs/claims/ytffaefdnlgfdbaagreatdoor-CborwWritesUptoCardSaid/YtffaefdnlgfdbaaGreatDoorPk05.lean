/- The texts TreeD, Dig, Str, Spec, put together. -/
import Derived.Test.YtffaefdnlgfdbaaGreatDoorPk04
import Derived.Test.YtffaefdnlgfdbaaGreatDoorPk01
import Derived.Lib.SmallJoins
import Derived.Lib.Strings
import Derived.Lib.AtoiAll
import Derived.Lib.ItoaNum
import Derived.Test.YtffaefdnlgfdbaaGreatDoorPk03
import Derived.Lib.ValidU
/- Trees: the laws' own Few (targumlaw06). -/
namespace Go.Proofs.YtffaefdnlgfdbaaGreatDoor
open Go.RowKit Go.Shelf

mutual
theorem cut_count : ∀ (d : Nat) (t : Tr), (cutT d t).count ≤ t.count
  | 0, t => by
    rw [Tr.count_eq, Tr.count_eq t]
    show 1 + countL [] ≤ _
    rw [countL]
    omega
  | d + 1, .nd o l => by
    rw [Tr.count_eq, Tr.count_eq (.nd o l)]
    show 1 + countL ((l.take 40).map (cutT d)) ≤ 1 + countL l
    have h1 := cut_countL d (l.take 40)
    have h2 := countL_mono l 40
    omega
theorem cut_countL : ∀ (d : Nat) (l : List Tr), countL (l.map (cutT d)) ≤ countL l
  | _, [] => by simp
  | d, t :: l => by
    show (cutT d t).count + countL (l.map (cutT d)) ≤ t.count + countL l
    have h1 := cut_count d t
    have h2 := cut_countL d l
    omega
end
/-- Few: at most four hundred nodes. -/
def fewT (t : Tr) : Tr := if 400 < (cutT 17 t).count then .nd (cutO t.own) [] else cutT 17 t
theorem fewT_own (t : Tr) : (fewT t).own = cutO t.own := by
  unfold fewT
  split
  · rfl
  · exact cutT_own 17 t
theorem few_count (t : Tr) : (fewT t).count ≤ 400 := by
  unfold fewT
  split
  · rw [Tr.count_eq]
    show 1 + countL [] ≤ 400
    rw [countL]
    omega
  · omega
theorem blk_row {W : World} {p : Nat} {cs : Array Value} {t : TypeId} (h : Blk W p cs t) (cs' : Array Value) : Blk (W.setRow p cs') p cs' t := setRow_heap _ _ _ _ _ _ h
theorem blk_row_other {W : World} {p q : Nat} {cs : Array Value} {t : TypeId} (h : Blk W q cs t) (hne : q ≠ p) (cs' : Array Value) : Blk (W.setRow p cs') q cs t := (setRow_other _ _ _ _ hne).trans h
theorem grown_row (w : World) (p : Nat) (cs : Array Value) : w.grownBy (w.setRow p cs) (some p) :=
  ⟨rfl, rfl, rfl, by simp, fun k _ hk => setRow_other _ _ _ _ (fun e => hk (by rw [e]))⟩

set_option maxHeartbeats 4000000 in
set_option maxRecDepth 100000 in
theorem law_FewT (t : Tr) (x : Value) (w : World) (B D : Nat) (hl : ListAt w B D t.kids x) (ho : OwnOk t.own) (hB : B ≤ w.heap.size) (hc : t.count ≤ 1000000000) :
    Calls Tryz.prog 8 #[nodeV t.own x] w fun e w' => (∃ y, e = .returned (nodeV (fewT t).own y) ∧ LAt w' (fun q => w.heap.size ≤ q ∧ q < w'.heap.size) 17 (fewT t).kids y) ∧ Below w.heap.size w w' := by
  have hbx := box2 w (cellsV t.own x) (cellsV ⟨0, false, false, ⟨#[]⟩, 0, 0, 0, ⟨#[]⟩⟩ (.slice none 0 0)) 27 27
  have HC := law_Cut 17 (by omega) t x _ B D (hl.below hbx.1 hB) ho (Nat.le_trans hB hbx.1.size)
  have hcc : (cutT 17 t).count ≤ 1000000000 := Nat.le_trans (cut_count 17 t) hc
  have HN := Lib.hid (fun y (w' : World) (B : Nat) (h : LAt w' (fun q => q < B) 17 (cutT 17 t).kids y) (hB : B ≤ w'.heap.size) => ref_Count 17 (cutT 17 t) y w' B h hB (by omega))
  rw [cutT_own] at HN
  rw [fewT_own]
  have hfew : (fewT t).kids = if 400 < (cutT 17 t).count then [] else (cutT 17 t).kids := by
    unfold fewT
    split <;> rfl
  rw [hfew]
  obtain ⟨cl, hcl⟩ : ∃ cl, (cutT 17 t).kids = cl := ⟨_, rfl⟩
  obtain ⟨cn, hcn⟩ : ∃ cn, (cutT 17 t).count = cn := ⟨_, rfl⟩
  rw [hcl] at HC HN ⊢
  rw [hcn] at HN hcc ⊢
  obtain ⟨fl, hfl⟩ : ∃ fl, (if 400 < cn then [] else cl) = fl := ⟨_, rfl⟩
  rw [hfl]
  have HFL := Lib.hid hfl
  clear hfl
  obtain ⟨o2, ho2⟩ : ∃ o2, cutO t.own = o2 := ⟨_, rfl⟩
  rw [ho2] at HC HN ⊢
  obtain ⟨kind2, b2, neg2, dg2, ex2, u2, wd2, s2⟩ := o2
  obtain ⟨⟨kind, b, neg, dg, ex, u, wd, s⟩, ho'⟩ : ∃ o, t.own = o := ⟨_, rfl⟩
  rw [ho'] at HC hbx ⊢
  unfold cellsV at hbx HC
  unfold nodeV at HC HN ⊢
  simp only [] at HC HN hbx ⊢
  have HC := Lib.hid HC
  obtain ⟨h1, h2, h3⟩ := hbx
  have H1 := Lib.hid h1
  have H2 := Lib.hid h2
  have H3 := Lib.hid h3
  clear hl ho hc hfew ho2 ho' h1 h2 h3 hcl hcn
  go_enter Tryz.func8, Tryz.ntmps8
  go_wp2_with fail
  refine HC.out.mono ?_
  rintro e w1 ⟨⟨y, rfl, hly⟩, hb⟩
  obtain ⟨_, A, c, rfl⟩ := hly.slice
  obtain ⟨n, hn⟩ : ∃ n, cl.length = n := ⟨_, rfl⟩
  rw [hn] at hly ⊢
  have hz := hb.size
  simp only [World.size_alloc] at hz
  have hbw := H1.out.trans (hb.mono H1.out.size)
  have hk1 := H2.out.below hb H2.out.lt
  have hk2 := H3.out.below hb H3.out.lt
  have hly2 : LAt w1 (fun q => w.heap.size + 2 ≤ q ∧ q < w1.heap.size) 17 cl (.slice A n c) := hly.mono (fun q hq => by
    have := hq.1
    simp only [World.size_alloc] at this
    exact ⟨by omega, hq.2⟩)
  clear H1 H2 H3 HC hb hly
  have hbw2 : Below w.heap.size w (w1.setRow w.heap.size #[.int .i64 kind2, .bool b2, .bool neg2, .string dg2, .int .i64 ex2, .int .u64 u2, .int .i64 wd2, .string s2, .slice A n c]) := hbw.grown (grown_row w1 w.heap.size _) hbw.size (fun q e => by cases e; exact Nat.le_refl _)
  have hk3 := blk_row hk1 #[.int .i64 kind2, .bool b2, .bool neg2, .string dg2, .int .i64 ex2, .int .u64 u2, .int .i64 wd2, .string s2, .slice A n c]
  have hk4 := blk_row_other hk2 (by omega : w.heap.size + 1 ≠ w.heap.size) #[.int .i64 kind2, .bool b2, .bool neg2, .string dg2, .int .i64 ex2, .int .u64 u2, .int .i64 wd2, .string s2, .slice A n c]
  have hly3 : LAt (w1.setRow w.heap.size #[.int .i64 kind2, .bool b2, .bool neg2, .string dg2, .int .i64 ex2, .int .u64 u2, .int .i64 wd2, .string s2, .slice A n c]) (fun q => w.heap.size + 2 ≤ q ∧ q < w1.heap.size) 17 cl (.slice A n c) := hly2.keep (fun q hq => setRow_other _ _ _ _ (by omega))
  have hz3 : (w1.setRow w.heap.size #[.int .i64 kind2, .bool b2, .bool neg2, .string dg2, .int .i64 ex2, .int .u64 u2, .int .i64 wd2, .string s2, .slice A n c]).heap.size = w1.heap.size := setRow_size _ _ _
  have HK1 := Lib.hid hk1
  clear hk2 hly2 hbw hk1
  have HK3 := Lib.hid hk3
  clear hk3
  go_wp2_with (first | (refine wpList_store_row rfl 27 (.tmp 1) (.tmp 4) rfl w.heap.size #[.int .i64 kind2, .bool b2, .bool neg2, .string dg2, .int .i64 ex2, .int .u64 u2, .int .i64 wd2, .string s2, .slice A n c] rfl rfl 27 _ HK1.out (by kernel_rfl) rfl (by simp [Value.oneCell']) ?_) | (refine wpList_load_row rfl 27 (.tmp 1) rfl w.heap.size rfl 27 _ (0, 0) _ HK3.out Tryz.underlying27 rfl (by kernel_rfl) ?_))
  clear HK1
  generalize w1.setRow w.heap.size #[.int .i64 kind2, .bool b2, .bool neg2, .string dg2, .int .i64 ex2, .int .u64 u2, .int .i64 wd2, .string s2, .slice A n c] = w2 at *
  refine (HN.out _ w2 w2.heap.size (hly3.mono (fun q hq => by omega)) (Nat.le_refl _)).mono ?_
  rintro e w3 ⟨rfl, hb⟩
  have hz5 := hb.size
  have hbw3 := hbw2.trans (hb.mono hbw2.size)
  have hk5 := HK3.out.below hb HK3.out.lt
  have hk6 := hk4.below hb hk4.lt
  have hly5 : LAt w3 (fun q => w.heap.size + 2 ≤ q ∧ q < w1.heap.size) 17 cl (.slice A n c) := hly3.keep (fun q hq => hb.block q (by omega))
  clear hb hly3 hk4 HK3 hbw2 HN
  by_cases h400 : 400 < cn
  · obtain rfl : [] = fl := by rw [← HFL.out, if_pos h400]
    have y1 : (400 : Int) < cn := by omega
    have f8 := hk5.frozen 8
    have k8 := hk5.cell 8
    have hs1 : Blk (w3.setCell ⟨w.heap.size, 8, none⟩ (.slice none 0 0)) w.heap.size #[.int .i64 kind2, .bool b2, .bool neg2, .string dg2, .int .i64 ex2, .int .u64 u2, .int .i64 wd2, .string s2, .slice none 0 0] 27 := hk5.set 8 _
    have hs2 : Blk (w3.setCell ⟨w.heap.size, 8, none⟩ (.slice none 0 0)) (w.heap.size + 1) _ 27 := blk_keep hk6 (Below.heap_setCell w3 ⟨w.heap.size, 8, none⟩ _ _ (fun e => by have e : w.heap.size + 1 = w.heap.size := e; omega))
    have hb3 : Below w.heap.size w (w3.setCell ⟨w.heap.size, 8, none⟩ (.slice none 0 0)) := hbw3.grown (grown_setT w3 w.heap.size 8 _) hbw3.size (fun q e => by cases e; exact Nat.le_refl _)
    have hs3 := blk_row hs2 #[.int .i64 kind2, .bool b2, .bool neg2, .string dg2, .int .i64 ex2, .int .u64 u2, .int .i64 wd2, .string s2, .slice none 0 0]
    have hb4 : Below w.heap.size w ((w3.setCell ⟨w.heap.size, 8, none⟩ (.slice none 0 0)).setRow (w.heap.size + 1) #[.int .i64 kind2, .bool b2, .bool neg2, .string dg2, .int .i64 ex2, .int .u64 u2, .int .i64 wd2, .string s2, .slice none 0 0]) := hb3.grown (grown_row _ (w.heap.size + 1) _) hb3.size (fun q e => by cases e; omega)
    have HS1 := Lib.hid hs1
    have HS2 := Lib.hid hs2
    have HS3 := Lib.hid hs3
    have HB4 := Lib.hid hb4
    clear hs1 hs2 hb3 hs3 hb4 hly5 h400 hk5 hk6
    go_wp2_with (first | (refine wpList_load_row rfl 27 (.tmp 1) rfl w.heap.size rfl 27 _ (0, 0) _ HS1.out Tryz.underlying27 rfl (by kernel_rfl) ?_) | (refine wpList_store_row rfl 27 (.tmp 2) (.tmp 9) rfl (w.heap.size + 1) #[.int .i64 kind2, .bool b2, .bool neg2, .string dg2, .int .i64 ex2, .int .u64 u2, .int .i64 wd2, .string s2, .slice none 0 0] rfl rfl 27 _ HS2.out (by kernel_rfl) rfl (by simp [Value.oneCell']) ?_))
    refine bodyPost_ret (v := .agg #[.int .i64 kind2, .bool b2, .bool neg2, .string dg2, .int .i64 ex2, .int .u64 u2, .int .i64 wd2, .string s2, .slice none 0 0]) (results_cell_row rfl _ _ (w.heap.size + 1) 27 _ (0, 0) _ rfl HS3.out Tryz.underlying27 rfl (by kernel_rfl)) rfl ?_
    exact ⟨⟨_, rfl, LAt.nil _ _ _ _ _⟩, HB4.out⟩
  · obtain rfl : cl = fl := by rw [← HFL.out, if_neg h400]
    have y1 : ¬ (400 : Int) < cn := by omega
    have hs3 := blk_row hk6 #[.int .i64 kind2, .bool b2, .bool neg2, .string dg2, .int .i64 ex2, .int .u64 u2, .int .i64 wd2, .string s2, .slice A n c]
    have hb4 : Below w.heap.size w (w3.setRow (w.heap.size + 1) #[.int .i64 kind2, .bool b2, .bool neg2, .string dg2, .int .i64 ex2, .int .u64 u2, .int .i64 wd2, .string s2, .slice A n c]) := hbw3.grown (grown_row _ (w.heap.size + 1) _) hbw3.size (fun q e => by cases e; omega)
    have hly6 : LAt (w3.setRow (w.heap.size + 1) #[.int .i64 kind2, .bool b2, .bool neg2, .string dg2, .int .i64 ex2, .int .u64 u2, .int .i64 wd2, .string s2, .slice A n c]) (fun q => w.heap.size ≤ q ∧ q < (w3.setRow (w.heap.size + 1) #[.int .i64 kind2, .bool b2, .bool neg2, .string dg2, .int .i64 ex2, .int .u64 u2, .int .i64 wd2, .string s2, .slice A n c]).heap.size) 17 cl (.slice A n c) := (hly5.keep (fun q hq => setRow_other _ _ _ _ (by omega))).mono (fun q hq => ⟨by omega, by rw [setRow_size]; omega⟩)
    have HS1 := Lib.hid hk5
    have HS2 := Lib.hid hk6
    have HS3 := Lib.hid hs3
    have HB4 := Lib.hid hb4
    have HL6 := Lib.hid hly6
    clear hs3 hb4 hly5 h400 hk5 hk6 hly6
    go_wp2_with (first | (refine wpList_load_row rfl 27 (.tmp 1) rfl w.heap.size rfl 27 _ (0, 0) _ HS1.out Tryz.underlying27 rfl (by kernel_rfl) ?_) | (refine wpList_store_row rfl 27 (.tmp 2) (.tmp 9) rfl (w.heap.size + 1) #[.int .i64 kind2, .bool b2, .bool neg2, .string dg2, .int .i64 ex2, .int .u64 u2, .int .i64 wd2, .string s2, .slice A n c] rfl rfl 27 _ HS2.out (by kernel_rfl) rfl (by simp [Value.oneCell']) ?_))
    refine bodyPost_ret (v := .agg #[.int .i64 kind2, .bool b2, .bool neg2, .string dg2, .int .i64 ex2, .int .u64 u2, .int .i64 wd2, .string s2, .slice A n c]) (results_cell_row rfl _ _ (w.heap.size + 1) 27 _ (0, 0) _ rfl HS3.out Tryz.underlying27 rfl (by kernel_rfl)) rfl ?_
    exact ⟨⟨_, rfl, HL6.out⟩, HB4.out⟩
end Go.Proofs.YtffaefdnlgfdbaaGreatDoor
/- Digits, plainly: their value, how many lead a row. No function of the program. -/
namespace Go.Proofs.YtffaefdnlgfdbaaGreatDoor
open Go.RowKit Go.Shelf

def isDig (b : UInt8) : Bool := decide (48 ≤ b.toNat) && decide (b.toNat ≤ 57)
def digN (l : List UInt8) : Nat := (l.takeWhile isDig).length
theorem digN_cons_yes {b : UInt8} {l : List UInt8} (h : isDig b = true) : digN (b :: l) = digN l + 1 := by
  unfold digN
  rw [List.takeWhile_cons_of_pos h]
  rfl
theorem digN_cons_no {b : UInt8} {l : List UInt8} (h : isDig b = false) : digN (b :: l) = 0 := by
  unfold digN
  rw [List.takeWhile_cons_of_neg (by rw [h]; decide)]
  rfl
def dval : Nat → List UInt8 → Nat
  | acc, [] => acc
  | acc, c :: r => dval (acc * 10 + (c.toNat - 48)) r
theorem dval_ge : ∀ (l : List UInt8) (acc : Nat), acc ≤ dval acc l
  | [], acc => Nat.le_refl _
  | c :: r, acc => by
    have := dval_ge r (acc * 10 + (c.toNat - 48))
    show acc ≤ dval (acc * 10 + (c.toNat - 48)) r
    omega
theorem parse_digits : ∀ (l : List UInt8) (acc : Nat), acc < 18446744073709551616 → (∀ c ∈ l, isDig c = true) → Lib.parseUint10 acc l = if dval acc l < 18446744073709551616 then .ok (dval acc l) else .range
  | [], acc, ha, _ => by
    show Lib.NumEnd.ok acc = _
    rw [if_pos (show dval acc [] < _ from ha)]
    rfl
  | c :: r, acc, ha, h => by
    have hc := h c List.mem_cons_self
    unfold isDig at hc
    rw [Bool.and_eq_true, decide_eq_true_iff, decide_eq_true_iff] at hc
    have hge := dval_ge r (acc * 10 + (c.toNat - 48))
    have hd : dval acc (c :: r) = dval (acc * 10 + (c.toNat - 48)) r := rfl
    rw [hd]
    unfold Lib.parseUint10
    rw [if_pos hc]
    by_cases h1 : 1844674407370955162 ≤ acc
    · rw [if_pos h1, if_neg (by omega)]
    · rw [if_neg h1]
      by_cases h2 : 18446744073709551616 ≤ acc * 10 + (c.toNat - 48)
      · rw [if_pos h2, if_neg (by omega)]
      · rw [if_neg h2]
        exact parse_digits r _ (by omega) (fun x hx => h x (List.mem_cons_of_mem _ hx))
theorem atoi_digits {l : List UInt8} (hne : l ≠ []) (h : ∀ c ∈ l, isDig c = true) : Lib.atoiAll l = if dval 0 l < 9223372036854775808 then .ok (dval 0 l : Int) else .range := by
  cases l with
  | nil => exact absurd rfl hne
  | cons c r =>
    have hc := h c List.mem_cons_self
    unfold isDig at hc
    rw [Bool.and_eq_true, decide_eq_true_iff, decide_eq_true_iff] at hc
    have hp := parse_digits (c :: r) 0 (by decide) h
    unfold Lib.atoiAll Lib.parseMag
    simp only []
    rw [if_neg (by omega : ¬ (c.toNat = 43 ∨ c.toNat = 45)), if_neg (by simp), hp]
    by_cases h1 : dval 0 (c :: r) < 18446744073709551616
    · rw [if_pos h1]
      simp only []
      by_cases h2 : dval 0 (c :: r) < 9223372036854775808
      · rw [if_neg (by omega), if_neg (by omega), if_neg (by omega), if_pos h2]
      · rw [if_pos ⟨by omega, by omega⟩, if_neg h2]
    · rw [if_neg h1, if_neg (by omega)]
theorem takeWhile_all (l : List UInt8) : ∀ c ∈ l.take (digN l), isDig c = true := by
  intro c hc
  have e : l.take (digN l) = l.takeWhile isDig := (List.prefix_iff_eq_take.1 (List.takeWhile_prefix isDig)).symm
  rw [e] at hc
  exact List.all_eq_true.1 (List.all_takeWhile) c hc
theorem dval_append : ∀ (l : List UInt8) (acc : Nat) (c : UInt8), dval acc (l ++ [c]) = dval acc l * 10 + (c.toNat - 48)
  | [], _, _ => rfl
  | b :: l, acc, c => dval_append l (acc * 10 + (b.toNat - 48)) c
theorem digit_byte (d : Nat) (h : d < 10) : (UInt8.ofNat (48 + d)).toNat = 48 + d := by
  rw [UInt8.toNat_ofNat']
  omega
theorem dec_facts (u : Nat) : dval 0 (Lib.decDigits u) = u ∧ (∀ c ∈ Lib.decDigits u, isDig c = true) ∧ Lib.decDigits u ≠ [] := by
  induction u using Nat.strongRecOn with
  | _ u ih =>
    by_cases h : u < 10
    · rw [Lib.decDigits_one h]
      refine ⟨?_, ?_, by simp⟩
      · show 0 * 10 + ((UInt8.ofNat (48 + u)).toNat - 48) = u
        rw [digit_byte u h]
        omega
      · intro c hc
        rw [List.mem_singleton.1 hc]
        unfold isDig
        rw [digit_byte u h, Bool.and_eq_true, decide_eq_true_iff, decide_eq_true_iff]
        omega
    · obtain ⟨h1, h2, h3⟩ := ih (u / 10) (by omega)
      rw [Lib.decDigits, dif_neg h]
      refine ⟨?_, ?_, by simp⟩
      · rw [dval_append, h1, digit_byte _ (by omega)]
        omega
      · intro c hc
        rcases List.mem_append.1 hc with q | q
        · exact h2 c q
        · rw [List.mem_singleton.1 q]
          unfold isDig
          rw [digit_byte _ (by omega), Bool.and_eq_true, decide_eq_true_iff, decide_eq_true_iff]
          omega
theorem digN_all : ∀ (l t : List UInt8), (∀ c ∈ l, isDig c = true) → digN t = 0 → digN (l ++ t) = l.length
  | [], t, _, ht => ht
  | c :: l, t, h, ht => by
    show digN (c :: (l ++ t)) = _
    rw [digN_cons_yes (h c List.mem_cons_self), digN_all l t (fun x hx => h x (List.mem_cons_of_mem _ hx)) ht, List.length_cons]
theorem head_append {l t : List UInt8} (h : l ≠ []) : (l ++ t).head? = l.head? := by
  cases l with
  | nil => exact absurd rfl h
  | cons c l => rfl
theorem dec_head0 : ∀ (n u : Nat), u ≤ n → 0 < u → (Lib.decDigits u).head? ≠ some 48
  | 0, u, h0, h1 => by omega
  | n + 1, u, h0, h1 => by
    by_cases h : u < 10
    · rw [Lib.decDigits_one h, List.head?_cons]
      intro e
      have := congrArg UInt8.toNat (Option.some.inj e)
      rw [digit_byte u h] at this
      have h48 : (48 : UInt8).toNat = 48 := rfl
      omega
    · rw [Lib.decDigits, dif_neg h, head_append (dec_facts (u / 10)).2.2]
      exact dec_head0 n (u / 10) (by omega) (by omega)
theorem dec_head (u : Nat) (h : 1 < (Lib.decDigits u).length) : (Lib.decDigits u).head? ≠ some 48 := by
  refine dec_head0 u u (Nat.le_refl _) ?_
  rcases Nat.eq_zero_or_pos u with h0 | h0
  · subst h0
    rw [Lib.decDigits_one (by omega)] at h
    simp at h
  · exact h0
end Go.Proofs.YtffaefdnlgfdbaaGreatDoor
/- Strings and worlds: small plain facts. -/
namespace Go.Proofs.YtffaefdnlgfdbaaGreatDoor
open Go.RowKit Go.Shelf

theorem grown_below {n p : Nat} {w w' : World} (h : w.grownBy w' (some p)) (hn : n ≤ p) (hp : p < w.heap.size) : Below n w w' :=
  ⟨h.os, h.tape, h.output, h.size, fun k hk => h.block k (by omega) (fun e => by cases e; omega)⟩
theorem below_grown {w w' : World} (h : Below w.heap.size w w') (r : Option Nat) : w.grownBy w' r := ⟨h.os, h.tape, h.output, h.size, fun k hk _ => h.block k hk⟩
theorem grown_trans {a b c : World} {r : Option Nat} (h : a.grownBy b r) (k : b.grownBy c r) : a.grownBy c r :=
  ⟨k.os.trans h.os, k.tape.trans h.tape, k.output.trans h.output, Nat.le_trans h.size k.size, fun i hi hr => (k.block i (Nat.lt_of_lt_of_le hi h.size) hr).trans (h.block i hi hr)⟩
theorem grown_set (w : World) (p i : Nat) (v : Value) : w.grownBy (w.setCell ⟨p, i, none⟩ v) (some p) :=
  ⟨rfl, rfl, rfl, by simp [World.setCell], fun k _ hk => Below.heap_setCell w ⟨p, i, none⟩ v k (fun e => hk (by rw [e]))⟩
theorem extract_list (s : ByteArray) (k : Nat) : (s.extract k s.size).data.toList = s.data.toList.drop k := by
  rw [ByteArray.data_extract, Array.toList_extract]
  simp [List.extract]
  rw [List.take_of_length_le (by simp)]
theorem str_ext {s t : ByteArray} (h : s.data.toList = t.data.toList) : s = t := by
  apply ByteArray.ext
  exact Array.toList_inj.1 h
theorem str_empty {s : ByteArray} (h : s.size = 0) : s = ⟨#[]⟩ := by
  apply ByteArray.ext
  apply Array.eq_empty_of_size_eq_zero
  exact h
theorem cell_below {w w' : World} (hb : Below w.heap.size w w') {b i : Nat} {v : Value} (h : w.cell? ⟨b, i, none⟩ = some v) : w'.cell? ⟨b, i, none⟩ = some v := by
  have hlt : b < w.heap.size := by
    apply Decidable.byContradiction
    intro hn
    have : w.heap[b]? = none := Array.getElem?_eq_none (by omega)
    simp [World.cell?, this] at h
  rw [← h]
  simp only [World.cell?, hb.block b hlt]

theorem block_below {w w' : World} (hb : Below w.heap.size w w') {b : Nat} {o : Obj} (h : w.heap[b]? = some o) : w'.heap[b]? = some o :=
  (hb.block b (Array.getElem?_eq_some_iff.1 h).1).trans h

theorem var_below {w w' : World} {n : String} {cs : Array Value} (h : w.var? Tryz.prog n = some cs) (hb : Below w.heap.size w w') : w'.var? Tryz.prog n = some cs := by
  unfold World.var? at h ⊢
  cases hg : Tryz.prog.globalNamed n with
  | none => rw [hg] at h; cases h
  | some g =>
    rw [hg] at h
    simp only [Option.bind_some] at h ⊢
    cases hh : w.heap[g]? with
    | none => rw [hh] at h; cases h
    | some o => rw [block_below hb hh]; rw [hh] at h; exact h

end Go.Proofs.YtffaefdnlgfdbaaGreatDoor
/- What a tree is that is right, plainly: naturals, decimals, widths, a node's own, all of it. No function of the program. -/
namespace Go.Proofs.YtffaefdnlgfdbaaGreatDoor
open Go.RowKit Go.Shelf

mutual
def Tr.depth : Tr → Nat
  | .nd _ l => depthL l + 1
def depthL : List Tr → Nat
  | [] => 0
  | t :: l => max t.depth (depthL l)
end
theorem Tr.depth_eq (t : Tr) : t.depth = depthL t.kids + 1 := by
  cases t
  rw [Tr.depth]
  rfl
theorem depthL_append : ∀ a b : List Tr, depthL (a ++ b) = max (depthL a) (depthL b)
  | [], b => by simp [depthL]
  | t :: a, b => by
    show max t.depth (depthL (a ++ b)) = max (max t.depth (depthL a)) (depthL b)
    rw [depthL_append a b]
    omega
theorem depthL_take (l : List Tr) (k : Nat) (hk : k < l.length) : depthL (l.take (k + 1)) = max (depthL (l.take k)) l[k].depth := by
  rw [List.take_succ_eq_append_getElem hk, depthL_append]
  simp [depthL]
mutual
theorem depth_count : ∀ t : Tr, t.depth ≤ t.count
  | .nd _ l => by
    rw [Tr.depth, Tr.count]
    have := depthL_count l
    omega
theorem depthL_count : ∀ l : List Tr, depthL l ≤ countL l
  | [] => by simp [depthL]
  | t :: l => by
    rw [depthL, countL]
    have := depth_count t
    have := depthL_count l
    omega
end

theorem sameT_own (t : Tr) (o : Own) : sameT t (.nd o t.kids) = decide (t.own = o) := by
  rw [sameT_eq]
  show (decide (t.own = o) && decide (t.kids.length = t.kids.length) && sameL t.kids t.kids) = _
  rw [sameL_refl, decide_eq_true rfl, Bool.and_true, Bool.and_true]
/-- Has a node nothing but what x has (and its kind and its list)? -/
def onlyB (o x : Own) : Bool := decide (o = { x with kind := o.kind })

def natOk (s : ByteArray) : Bool := decide (1 ≤ s.size) && (decide (s.size ≤ 400) && (!(decide (1 < s.size) && decide (s.data.toList.head? = some 48)) && s.data.toList.all isDig))
theorem all_dig {s : ByteArray} : s.data.toList.all isDig = true ↔ ∀ j (h : j < s.size), isDig s[j] = true := by
  rw [List.all_eq_true]
  constructor
  · intro h j hj
    refine h _ ?_
    rw [ByteArray.getElem_eq_getElem_data, Array.mem_toList_iff]
    exact Array.getElem_mem _
  · intro h c hc
    obtain ⟨j, hj, rfl⟩ := List.getElem_of_mem hc
    have hj' : j < s.size := by simpa using hj
    have := h j hj'
    rw [ByteArray.getElem_eq_getElem_data] at this
    simpa using this
theorem head_at0 (s : ByteArray) (h : 0 < s.size) : s.data.toList.head? = some s[0] := by
  rw [List.head?_eq_getElem?, List.getElem?_eq_getElem (by simpa using h)]
  simp [ByteArray.getElem_eq_getElem_data]

def decOk (neg : Bool) (dg : ByteArray) (ex : Int) : Bool :=
  natOk dg && (decide (dg.size ≤ 100) && (if dg.toList = [48] then decide (ex = 0) && !neg else decide (-100 ≤ ex) && (decide (ex ≤ 100) && !decide (dg.data.toList.getLast? = some 48))))

def wideB (w : Int) : Bool := decide (w = 16) || (decide (w = 32) || decide (w = 64))

def wideOk (u : Int) (wd : Int) : Bool := if wd = 64 then true else if wd = 16 then decide (u < 65536) else if wd = 32 then decide (u < 4294967296) else false

/-- No two keys are the same. -/
def KeysApart (l : List Tr) : Prop := ∀ (i k : Nat) (hi : i < l.length) (hk : k < i), i % 2 = 0 → k % 2 = 0 → sameT l[i] (l[k]'(by omega)) = false
noncomputable def keysB (l : List Tr) : Bool := @decide (KeysApart l) (Classical.propDecidable _)
noncomputable def ownB (o : Own) (l : List Tr) : Bool :=
  if o.kind = 1 then decide (l.length = 0) && onlyB o zeroO
  else if o.kind = 2 then decide (l.length = 0) && onlyB o { zeroO with b := o.b }
  else if o.kind = 3 then decide (l.length = 0) && (onlyB o { zeroO with neg := o.neg, dg := o.dg, ex := o.ex } && decOk o.neg o.dg o.ex)
  else if o.kind = 4 then decide (l.length = 0) && (onlyB o { zeroO with u := o.u, wd := o.wd } && wideOk o.u o.wd)
  else if o.kind = 5 then decide (l.length = 0) && (onlyB o { zeroO with s := o.s } && (decide (o.s.size ≤ 400) && Lib.validD o.s.data.toList))
  else if o.kind = 6 then decide (l.length = 0) && (onlyB o { zeroO with s := o.s } && decide (o.s.size ≤ 400))
  else if o.kind = 7 then onlyB o zeroO
  else if o.kind = 8 then onlyB o zeroO && (decide (l.length % 2 = 0) && keysB l)
  else if o.kind = 9 then decide (l.length = 1) && onlyB o { zeroO with u := o.u }
  else if o.kind = 10 then decide (l.length = 0) && (onlyB o { zeroO with u := o.u } && (decide (o.u ≤ 19) || (decide (o.u = 23) || (decide (32 ≤ o.u) && decide (o.u ≤ 255)))))
  else if o.kind = 11 then decide (l.length = 0) && (onlyB o { zeroO with u := o.u, s := o.s } && (decide (o.u ≤ 255) && decide (o.s.size ≤ 400)))
  else false

mutual
noncomputable def allB : Tr → Bool
  | .nd o l => ownB o l && allL l
noncomputable def allL : List Tr → Bool
  | [] => true
  | t :: l => allB t && allL l
end
theorem allB_eq (t : Tr) : allB t = (ownB t.own t.kids && allL t.kids) := by
  cases t
  rw [allB]
  rfl
theorem allL_drop (l : List Tr) (k : Nat) (h : k < l.length) : allL (l.drop k) = (allB l[k] && allL (l.drop (k + 1))) := by
  rw [List.drop_eq_getElem_cons h, allL]

/-- The reference's Right. -/
noncomputable def rightT (t : Tr) : Bool := decide (t.count ≤ 300) && (decide (t.depth ≤ 16) && allB t)
end Go.Proofs.YtffaefdnlgfdbaaGreatDoor
