/- The texts PathJ, put together. -/
import Derived.Test.YtgfeeakcpojicaaGreatDoorPk21
import Derived.Test.YtgfeeakcpojicaaGreatDoorPk22
/- path: changed. -/
namespace Go.Proofs.YtgfeeakcpojicaaGreatDoor
open Go.RowKit Go.Shelf

/-- A node, what a path leads to being changed. -/
def changedT (ch : Tr → Tr) : List Stp → Tr → Tr
  | [], t => ch t
  | s :: p, t => match atO t s with
    | some i => match t.kids[i]? with
      | some u => .nd t.own (t.kids.set i (changedT ch p u))
      | none => t
    | none => t
theorem RowT.deeper {W : World} {S : Nat → Prop} {d d' : Nat} (hd : d ≤ d') : ∀ {l : List Tr} {xs : List Value}, RowT W S d l xs → RowT W S d' l xs
  | [], _, h => h
  | _ :: _, _, ⟨y, r, hx, ho, hl, h⟩ => ⟨y, r, hx, ho, hl.deeper hd, h.deeper hd⟩
theorem RowT.set {W : World} {S : Nat → Prop} {d : Nat} : ∀ {l : List Tr} {xs : List Value} (_ : RowT W S d l xs) (k : Nat) (_ : k < l.length) {t' : Tr} {y : Value} (_ : OwnOk t'.own) (_ : LAt W S d t'.kids y),
    RowT W S d (l.set k t') (Go.Proofs.YtgfeeakcpojicaaGreatDoor.setAt xs k (nodeCells t'.own y))
  | [], _, _, k, hk, _, _, _, _ => absurd hk (by simp)
  | t :: l, _, ⟨y0, r, hx, ho, hl, h⟩, 0, _, t', y, ho', hy => by
    refine ⟨y, r, ?_, ho', hy, h⟩
    subst hx
    unfold Go.Proofs.YtgfeeakcpojicaaGreatDoor.setAt
    simp [nodeCells]
  | t :: l, _, ⟨y0, r, hx, ho, hl, h⟩, k + 1, hk, t', y, ho', hy => by
    have ih := RowT.set h k (by simpa using hk) ho' hy
    refine ⟨y0, _, ?_, ho, hl, ih⟩
    subst hx
    unfold Go.Proofs.YtgfeeakcpojicaaGreatDoor.setAt
    have t1 : (nodeCells t.own y0 ++ r).take ((k + 1) * 9) = nodeCells t.own y0 ++ r.take (k * 9) := by
      rw [List.take_append, List.take_of_length_le (by simp only [nodeCells, List.length_cons, List.length_nil]; omega)]
      congr 2
      simp only [nodeCells, List.length_cons, List.length_nil]
      omega
    have t2 : (nodeCells t.own y0 ++ r).drop ((k + 1) * 9 + 9) = r.drop (k * 9 + 9) := by
      rw [List.drop_append, List.drop_eq_nil_of_le (by simp only [nodeCells, List.length_cons, List.length_nil]; omega), List.nil_append]
      congr 1
      simp only [nodeCells, List.length_cons, List.length_nil]
      omega
    rw [t1, t2]
    simp
theorem setCell_size (W : World) (a : Addr) (v : Value) : (W.setCell a v).heap.size = W.heap.size := by simp [World.setCell]
theorem setCells_size (b : Nat) : ∀ (vs : List Value) (o : Nat) (W : World), (W.setCells b o vs).heap.size = W.heap.size
  | [], _, _ => rfl
  | v :: r, o, W => by rw [World.setCells, setCells_size b r, setCell_size]
/-- What a function that makes a node of a node answers. -/
def NodePostS (S : Nat → Prop) (t : Tr) (w : World) (e : Ending) (w' : World) : Prop := (∃ y D, e = .returned (nodeV t.own y) ∧ LAt w' (fun q => (S q ∨ w.heap.size ≤ q) ∧ q < w'.heap.size) D t.kids y ∧ OwnOk t.own) ∧ Below w.heap.size w w'
def NodePost (B : Nat) (t : Tr) (w : World) (e : Ending) (w' : World) : Prop := NodePostS (fun q => q < B) t w e w'
theorem LAt.belowS {W W' : World} {S : Nat → Prop} {B m : Nat} (hS : ∀ q, S q → q < B) (hb : Below m W W') (hm : B ≤ m) {d : Nat} {l : List Tr} {v : Value} (h : LAt W S d l v) : LAt W' S d l v :=
  LAt.keep (fun q hq => hb.block q (by have := hS q hq; omega)) h

set_option maxHeartbeats 4000000 in
set_option maxRecDepth 100000 in
theorem path_changedS (gf : Nat) (caps : Array Value) (ch : Tr → Tr) (Pre : Tr → Prop) (w0 : World) (B : Nat) (S : Nat → Prop) (hS : ∀ q, S q → q < B)
    (hch : ∀ W : World, Below w0.heap.size w0 W → ∀ (u : Tr) (x : Value) (d : Nat), Pre u → LAt W S d u.kids x → OwnOk u.own → B ≤ W.heap.size → Calls Tryz.prog gf (#[nodeV u.own x] ++ caps) W (NodePostS S (ch u) W))
    (heg : ∀ args w, (callFunc gf args).run Tryz.prog w = .ok (.enter gf args) w) :
    ∀ (p : List Stp) (t : Tr) (x : Value) (A : Option Addr) (n c : Nat) (w : World) (d : Nat), Below w0.heap.size w0 w → LAt w S d t.kids x → OwnOk t.own → StepsAt w B A n p → n ≤ c → (∃ u, findT t p = some u ∧ Pre u) → B ≤ w.heap.size → t.count ≤ 1000000 →
      Calls Tryz.prog 38 #[nodeV t.own x, .slice A n c, .func (.func gf) #[] caps] w (NodePostS S (changedT ch p t) w) := by
  intro p
  induction p with
  | nil =>
    intro t x A n c w d hw hl ho hp hnc hf hB hc
    obtain ⟨u, hu, hpre⟩ := hf
    obtain rfl : t = u := by simpa [findT] using hu
    obtain rfl : 0 = n := hp.len
    obtain ⟨⟨kind, b, neg, dg, ex, un, wd, str⟩, ho'⟩ : ∃ o, t.own = o := ⟨_, rfl⟩
    have hbx := box2 w #[.int .i64 kind, .bool b, .bool neg, .string dg, .int .i64 ex, .int .u64 un, .int .i64 wd, .string str, x] zeroCs 38 38
    obtain ⟨hb2, hk1, hk2⟩ := hbx
    have HC := Lib.hid (hch _ (hw.trans (hb2.mono hw.size)) t x d hpre (hl.belowS hS hb2 hB) ho (Nat.le_trans hB hb2.size))
    unfold nodeV at HC ⊢
    rw [ho'] at HC ⊢
    unfold zeroCs at *
    simp only [] at HC ⊢
    have HK1 := Lib.hid hk1
    clear hl hp ho hu
    go_enter Tryz.func38, Tryz.ntmps38
    go_wp2_with (refine wpList_load_row rfl 38 (.tmp 3) rfl w.heap.size rfl 38 _ (0, 0) _ HK1.out Tryz.underlying38 rfl (by kernel_rfl) ?_)
    refine HC.out.mono ?_
    rintro e w1 ⟨⟨y, D, rfl, hly, hoy⟩, hb⟩
    have hb4 := hb2.trans (hb.mono hb2.size)
    have hz := hb.size
    simp only [World.size_alloc] at hz
    have hk3 := hk2.below hb hk2.lt
    obtain ⟨⟨kind2, b2, neg2, dg2, ex2, u2, wd2, s2⟩, ho2⟩ : ∃ o, (ch t).own = o := ⟨_, rfl⟩
    unfold nodeV
    rw [ho2]
    simp only []
    have h1c : y.oneCell' = true := by
      obtain ⟨_, A3, c3, h3⟩ := hly.slice
      rw [h3]
      rfl
    unfold Value.oneCell' at h1c
    have hb5 : Below w.heap.size w (w1.setRow (w.heap.size + 1) #[.int .i64 kind2, .bool b2, .bool neg2, .string dg2, .int .i64 ex2, .int .u64 u2, .int .i64 wd2, .string s2, y]) := hb4.grown (grown_row _ (w.heap.size + 1) _) hb4.size (fun q e => by cases e; omega)
    have hk4 := blk_row hk3 #[.int .i64 kind2, .bool b2, .bool neg2, .string dg2, .int .i64 ex2, .int .u64 u2, .int .i64 wd2, .string s2, y]
    have hly2 := hly.keep (W' := w1.setRow (w.heap.size + 1) #[.int .i64 kind2, .bool b2, .bool neg2, .string dg2, .int .i64 ex2, .int .u64 u2, .int .i64 wd2, .string s2, y]) (fun q hq => setRow_other _ _ _ _ (by
      have := hq.1.imp_left (hS q)
      simp only [World.size_alloc] at this
      omega))
    have hly3 := hly2.mono (S' := fun q => (S q ∨ w.heap.size ≤ q) ∧ q < (w1.setRow (w.heap.size + 1) #[.int .i64 kind2, .bool b2, .bool neg2, .string dg2, .int .i64 ex2, .int .u64 u2, .int .i64 wd2, .string s2, y]).heap.size) (fun q hq => by
      rw [setRow_size]
      exact ⟨hq.1.imp_right (fun h => by simp only [World.size_alloc] at h; omega), hq.2⟩)
    have HK3 := Lib.hid hk3
    have HK4 := Lib.hid hk4
    have HLY := Lib.hid hly3
    clear hb hk1 hk2 hk3 hk4 HK1 HC hly hly2 hly3 hb4 hb2
    go_wp2_with (refine wpList_store_row rfl 38 (.tmp 6) (.tmp 14) rfl (w.heap.size + 1) #[.int .i64 kind2, .bool b2, .bool neg2, .string dg2, .int .i64 ex2, .int .u64 u2, .int .i64 wd2, .string s2, y] rfl rfl 38 _ HK3.out (by kernel_rfl) rfl (by simp [Value.oneCell', h1c]) ?_)
    refine bodyPost_ret (v := .agg #[.int .i64 kind2, .bool b2, .bool neg2, .string dg2, .int .i64 ex2, .int .u64 u2, .int .i64 wd2, .string s2, y]) (results_cell_row rfl _ _ (w.heap.size + 1) 38 _ (0, 0) _ rfl HK4.out Tryz.underlying38 rfl (by kernel_rfl)) rfl ?_
    exact ⟨⟨y, D, by rw [show changedT ch [] t = ch t from rfl, ho2]; rfl, HLY.out, hoy⟩, hb5⟩
  | cons s p ih =>
    intro t x A n c w d hw hl ho hp hnc hf hB hc
    obtain ⟨v, hv, hpre⟩ := hf
    obtain ⟨i, hat⟩ : ∃ i, atO t s = some i := by
      unfold findT at hv
      cases h : atO t s with
      | none => rw [h] at hv; cases hv
      | some i => exact ⟨i, rfl⟩
    have hil := atO_lt hat
    have hfv : findT t.kids[i] p = some v := by
      unfold findT at hv
      rw [hat] at hv
      simp only [List.getElem?_eq_getElem hil] at hv
      exact hv
    have hct : changedT ch (s :: p) t = .nd t.own (t.kids.set i (changedT ch p t.kids[i])) := by
      rw [changedT, hat]
      simp only [List.getElem?_eq_getElem hil]
    rw [hct]
    obtain ⟨a, rfl, hab, hs0, hs1, hks⟩ := hp.at_ (k := 0) (by simp)
    have hnl := hp.len
    rw [List.length_cons] at hnl
    obtain ⟨⟨si, sk⟩, hs⟩ : ∃ s', (s :: p)[0] = s' := ⟨_, rfl⟩
    rw [hs] at hs0 hs1
    obtain rfl : s = (si, sk) := hs
    rw [Nat.zero_mul, show a.add 0 = a from if_pos rfl] at hs0 hs1
    simp only [] at hs0 hs1
    have hrest := hp.rest hnc
    obtain ⟨hml, A0, cl, rfl⟩ := hl.slice
    have hcc := kids_count (t := t)
    have hcu := kid_count hil
    obtain ⟨l, hkl⟩ : ∃ l, t.kids = l := ⟨_, rfl⟩
    have hAT0 := fun (W : World) (hW : Below w.heap.size w W) => path_at t (.slice A0 t.kids.length cl) (si, sk) W B d ((hl.mono hS).below hW hB) (Nat.le_trans hB hW.size)
    rw [atI_some hat] at hAT0
    obtain ⟨d', al, x2, hdd, rfl, hab2, hok2, hna, hkk⟩ := hl.at_ hil
    have hab2 := hS _ hab2
    subst hdd
    obtain ⟨xs, hrow, hcells⟩ := hl.row
    have hxl := hrow.len
    have hx1 := hrow.cells1
    obtain ⟨y0, _, hg0, hky⟩ := hrow.get i hil
    have hHIH := fun (W : World) (hW : Below w0.heap.size w0 W) (hW2 : Below w.heap.size w W) (A2 : Option Addr) (hA2 : StepsAt w B A2 (n - 1) p) => ih t.kids[i] y0 A2 (n - 1) (c - 1) W d' hW (hky.belowS hS hW2 hB) hok2 (hA2.below hW2 hB) (by omega) ⟨v, hfv, hpre⟩ (Nat.le_trans hB hW2.size) (by omega)
    simp only [hkl] at hrow hxl hg0 hil hAT0 hml hcc hl hHIH hky ⊢
    obtain ⟨m, hm⟩ : ∃ m, l.length = m := ⟨_, rfl⟩
    obtain ⟨⟨kind2, b2, neg2, dg2, ex2, u2, wd2, s2⟩, ho2⟩ : ∃ o, l[i].own = o := ⟨_, rfl⟩
    obtain ⟨⟨kind, b, neg, dg, ex, un, wd, str⟩, ho'⟩ : ∃ o, t.own = o := ⟨_, rfl⟩
    have hbx := box2 w #[.int .i64 kind, .bool b, .bool neg, .string dg, .int .i64 ex, .int .u64 un, .int .i64 wd, .string str, .slice (some al) m cl] #[.int .i64 0, .bool false, .bool false, .string ⟨#[]⟩, .int .i64 0, .int .u64 0, .int .i64 0, .string ⟨#[]⟩, .slice none 0 0] 38 38
    obtain ⟨hb2, hk1, hk2⟩ := hbx
    rw [ho', hm] at hAT0
    rw [ho2] at hHIH hg0
    rw [hm] at hxl hil hml hcc
    have HAT := Lib.hid (fun (W : World) (hW : Below _ _ W) => hAT0 W (hb2.trans (hW.mono hb2.size)))
    unfold nodeV at HAT ⊢
    rw [ho', hm]
    simp only [] at HAT ⊢
    have hn0N : 0 < n := by omega
    have hn1 : (1 : Int) ≤ n := by omega
    have hne0 : ((n : Int) == 0) = false := by rw [beq_eq_false_iff_ne]; omega
    have hlw : ∀ q, q < B → q < w.heap.size := fun q hq => by omega
    have HROW := Lib.hid hrow
    have HX1 := Lib.hid hx1
    have HG0 := Lib.hid hg0
    have HIH0 := Lib.hid hHIH
    have HCE := Lib.hid hcells
    have HRE := Lib.hid hrest
    have HM := Lib.hid hm
    have HOK := Lib.hid ho
    clear ih hAT0 hl hp hrow hx1 hg0 hHIH hcells hrest hna hkk hky hv hfv hct hat
    go_enter Tryz.func38, Tryz.ntmps38
    go_wp2_with fail
    refine wp_region_tail (R := fun W W' => Below W.heap.size W W') 5 (by kernel_rfl) (by kernel_rfl) (fun _ => Below.refl _ _) (by kernel_rfl) (by kernel_rfl) (fun W => Below ((w.alloc (.cells #[.int .i64 kind, .bool b, .bool neg, .string dg, .int .i64 ex, .int .u64 un, .int .i64 wd, .string str, .slice (some al) m cl] 38)).alloc (.cells #[.int .i64 0, .bool false, .bool false, .string ⟨#[]⟩, .int .i64 0, .int .u64 0, .int .i64 0, .string ⟨#[]⟩, .slice none 0 0] 38)).heap.size ((w.alloc (.cells #[.int .i64 kind, .bool b, .bool neg, .string dg, .int .i64 ex, .int .u64 un, .int .i64 wd, .string str, .slice (some al) m cl] 38)).alloc (.cells #[.int .i64 0, .bool false, .bool false, .string ⟨#[]⟩, .int .i64 0, .int .u64 0, .int .i64 0, .string ⟨#[]⟩, .slice none 0 0] 38)) W)
      [fun v _ => v = .agg #[.int .i64 kind, .bool b, .bool neg, .string dg, .int .i64 ex, .int .u64 un, .int .i64 wd, .string str, .slice (some al) m cl], fun v _ => v = .slice (some a) n c, fun v _ => v = .pointer (some a), fun v _ => v = .agg #[.int .i64 si, .string sk], fun v _ => v = .int .i64 i] ?_ ?_ ?_ ?_ ?_
    case refine_1 => exact (Below.refl _ _).drew
    case refine_2 => exact fun W W' he hr => he.trans (hr.mono he.size)
    case refine_3 =>
      intro q hq v W W' _ hv _
      simp only [List.mem_cons, List.not_mem_nil, or_false] at hq
      rcases hq with rfl | rfl | rfl | rfl | rfl <;> exact hv
    case refine_4 =>
      refine flow_cons (flow_op rfl rfl (by kernel_rfl) (by kernel_rfl) ?_) ?_
      · intro env W hE hn ρ hρ hc hf hg K hK
        have r3 : ρ (.tmp 3) = .pointer (some ⟨w.heap.size, 0, none⟩) := by rw [hρ]; kernel_rfl
        clear hρ hn hg
        exact lands_load_row 38 (.tmp 3) rfl w.heap.size r3 38 _ (0, 0) _ (hk1.below hE hk1.lt) Tryz.underlying38 rfl (by kernel_rfl) (hK _ _ rfl (Below.refl _ _))
      refine flow_cons (flow_op rfl rfl (by kernel_rfl) (by kernel_rfl) ?_) ?_
      · intro env W hE hn ρ hρ hc hf hg K hK
        have r1 : ρ (.tmp 1) = .slice (some a) n c := by rw [hρ]; kernel_rfl
        clear hρ hn hg
        simp [opLands, go_sem, r1]
        exact hK _ _ rfl (Below.refl _ _)
      refine flow_cons (flow_op rfl rfl (by kernel_rfl) (by kernel_rfl) ?_) ?_
      · intro env W hE hn ρ hρ hc hf hg K hK
        have r16 := (show ρ (.tmp 16) = env 1 by rw [hρ]; kernel_rfl).trans (hn 1 (by kernel_rfl))
        clear hρ hn hg
        simp [opLands, go_sem, hc, r16, hn0N]
        exact hK _ _ rfl (Below.refl _ _)
      refine flow_cons (flow_op rfl rfl (by kernel_rfl) (by kernel_rfl) ?_) ?_
      · intro env W hE hn ρ hρ hc hf hg K hK
        have r17 := (show ρ (.tmp 17) = env 2 by rw [hρ]; kernel_rfl).trans (hn 2 (by kernel_rfl))
        clear hρ hn hg
        have hEb := hb2.trans (hE.mono hb2.size)
        have q0 := (hEb.cell (p := a) (by omega)).trans hs0
        have q1 := (hEb.cell (p := ⟨a.block, a.off + 1, none⟩) (by show a.block < _; omega)).trans hs1
        simp [opLands, go_sem, r17, q0, q1]
        exact hK _ _ rfl (Below.refl _ _)
      refine flow_cons (flow_op rfl rfl (by kernel_rfl) (by kernel_rfl) ?_) flow_nil
      · intro env W hE hn ρ hρ hc hf hg K hK
        have r15 := (show ρ (.tmp 15) = env 0 by rw [hρ]; kernel_rfl).trans (hn 0 (by kernel_rfl))
        have r18 := (show ρ (.tmp 18) = env 3 by rw [hρ]; kernel_rfl).trans (hn 3 (by kernel_rfl))
        clear hρ hn hg
        refine lands_call rfl (by kernel_rfl) hf ?_
        rw [show #[Operand.tmp 15, Operand.tmp 18].map ρ = #[.agg #[.int .i64 kind, .bool b, .bool neg, .string dg, .int .i64 ex, .int .u64 un, .int .i64 wd, .string str, .slice (some al) m cl], .agg #[.int .i64 si, .string sk]] by simp [r15, r18]]
        refine (HAT.out W hE).mono ?_
        rintro e W' ⟨rfl, hb⟩
        exact ⟨_, rfl, hK _ _ rfl hb⟩
    case refine_5 =>
      intro env W hE hn
      have e4 : env 4 = .int .i64 i := hn 4 (by decide)
      clear hn
      simp only [List.take_succ_cons, List.take_zero, List.drop_succ_cons, List.drop_zero, frameAll, e4]
      go_simp
      have hb3 := hb2.trans (hE.mono hb2.size)
      have hk3 := hk1.below hE hk1.lt
      have hk4 := hk2.below hE hk2.lt
      have k8 := hk3.cell 8
      clear hE HAT hk1 hk2 hb2
      have hk3l := hk3.lt
      have hmt := made_there W m
      have hbm : Below W.heap.size W (W.alloc (.cells (madeCells zeroCs (m * 9)) 38)) := (Below.refl _ _).alloc (Nat.le_refl _) _
      have hb4 := hb3.trans (hbm.mono hb3.size)
      have hsrc : ∀ j u, xs[j]? = some u → (W.alloc (.cells (madeCells zeroCs (m * 9)) 38)).cell? (al.add j) = some u := fun j u hj => (hb4.cell (p := al.add j) (by rw [add_block]; omega)).trans (HCE.out j u hj)
      obtain ⟨hr5, ht5⟩ := set_all hmt hxl
      have hgr5 := grown_cells W.heap.size xs 0 (W.alloc (.cells (madeCells zeroCs (m * 9)) 38))
      have hb5 := hb4.grown hgr5 hb4.size (fun q e => by cases e; exact hb3.size)
      have hk5 := (hk3.alloc (.cells (madeCells zeroCs (m * 9)) 38)).kept hgr5 (fun e => by injection e with e; omega)
      have hk6 := (hk4.alloc (.cells (madeCells zeroCs (m * 9)) 38)).kept hgr5 (fun e => by injection e with e; have := hk4.lt; omega)
      have hz5 : W.heap.size + 1 ≤ ((W.alloc (.cells (madeCells zeroCs (m * 9)) 38)).setCells W.heap.size 0 xs).heap.size := by have := hgr5.size; simpa using this
      have hwl6 := hk4.lt
      go_wp2_with (first | (refine wpList_make_node _ rfl _ _ rfl m (by omega) rfl rfl ?_) | (refine wpList_copy_node _ rfl _ _ rfl W.heap.size m m cl al xs rfl rfl hxl hsrc hmt HX1.out ?_))
      obtain ⟨g, hg⟩ : ∃ g, W.heap.size = g := ⟨_, rfl⟩
      obtain ⟨W5, hW5⟩ : ∃ W5, (W.alloc (.cells (madeCells zeroCs (m * 9)) 38)).setCells W.heap.size 0 xs = W5 := ⟨_, rfl⟩
      rw [hW5] at hr5 ht5 hb5 hk5 hk6 hz5 ⊢
      rw [hg] at hr5 ht5 hz5 hwl6 ⊢
      clear hmt hsrc hgr5 hW5 hbm hb4 k8 hk3 hk4
      have hzz := hb3.size
      rw [hg] at hzz
      have hg9 : w.heap.size + 1 < g := hwl6
      clear hb3 hg
      have HRM := Lib.hid (show ∀ W' : World, Below W5.heap.size W5 W' → W'.rangeAt g (i * 9) (nodeCells ⟨kind2, b2, neg2, dg2, ex2, u2, wd2, s2⟩ y0) from fun W' hW' j u hj => by
        rw [hW'.cell (p := ⟨g, i * 9 + j, none⟩) (by show g < _; omega)]
        have := hr5 _ _ (HG0.out j u hj)
        rwa [Nat.zero_add] at this)
      have ha2 : a.add 2 = ⟨a.block, a.off + 2, none⟩ := by
        unfold Addr.add
        rw [if_neg (by decide)]
      obtain ⟨A2, hA2⟩ : ∃ A2, (if c = 1 then some a else some ⟨a.block, a.off + 2, none⟩) = A2 := ⟨_, rfl⟩
      have HIH := Lib.hid (fun (W' : World) (hW' : Below W5.heap.size W5 W') => HIH0.out W' (hw.trans ((hb5.trans (hW'.mono hb5.size)).mono hw.size)) (hb5.trans (hW'.mono hb5.size)) A2 (by rw [← hA2, ← ha2]; exact HRE.out))
      refine wp_region_tail (R := fun W W' => Below W.heap.size W W') 10 (by kernel_rfl) (by kernel_rfl) (fun _ => Below.refl _ _) (by kernel_rfl) (by kernel_rfl) (fun W => Below W5.heap.size W5 W)
        [fun v _ => v = .slice (some ⟨g, 0, none⟩) m m, fun v _ => v = .int .i64 i, fun v _ => v = .slice (some ⟨g, 0, none⟩) m m, fun v _ => v = .int .i64 i, fun v _ => v = .pointer (some ⟨g, i * 9, none⟩), fun v _ => v = nodeV ⟨kind2, b2, neg2, dg2, ex2, u2, wd2, s2⟩ y0,
         fun v _ => v = .slice (some a) n c, fun v _ => v = .slice A2 (n - 1) (c - 1), fun v _ => v = .func (.func gf) #[] caps,
         fun v W => ∃ y D, v = nodeV (changedT ch p l[i]).own y ∧ LAt W (fun q => (S q ∨ W5.heap.size ≤ q) ∧ q < W.heap.size) D (changedT ch p l[i]).kids y ∧ OwnOk (changedT ch p l[i]).own] ?_ ?_ ?_ ?_ ?_
      case refine_1 => exact (Below.refl _ _).drew
      case refine_2 => exact fun W W' he hr => he.trans (hr.mono he.size)
      case refine_3 =>
        intro q hq v W W' _ hv hr
        simp only [List.mem_cons, List.not_mem_nil, or_false] at hq
        rcases hq with rfl | rfl | rfl | rfl | rfl | rfl | rfl | rfl | rfl | rfl
        all_goals first | exact hv | exact (let ⟨y, D, h1, h2, h3⟩ := hv; ⟨y, D, h1, (h2.keep (fun q hq => hr.block q hq.2)).mono (fun q hq => ⟨hq.1, Nat.lt_of_lt_of_le hq.2 hr.size⟩), h3⟩)
      case refine_4 =>
        refine flow_cons (flow_op rfl rfl (by kernel_rfl) (by kernel_rfl) ?_) ?_
        · intro env W hE hn ρ hρ hc hf hg K hK
          have r8 : ρ (.tmp 8) = .slice (some ⟨g, 0, none⟩) m m := by rw [hρ]; kernel_rfl
          clear hρ hn hg
          simp [opLands, go_sem, r8]
          exact hK _ _ rfl (Below.refl _ _)
        refine flow_cons (flow_op rfl rfl (by kernel_rfl) (by kernel_rfl) ?_) ?_
        · intro env W hE hn ρ hρ hc hf hg K hK
          have r7 : ρ (.tmp 7) = .int .i64 i := by rw [hρ]; kernel_rfl
          clear hρ hn hg
          simp [opLands, go_sem, r7]
          exact hK _ _ rfl (Below.refl _ _)
        refine flow_cons (flow_op rfl rfl (by kernel_rfl) (by kernel_rfl) ?_) ?_
        · intro env W hE hn ρ hρ hc hf hg K hK
          have r8 : ρ (.tmp 8) = .slice (some ⟨g, 0, none⟩) m m := by rw [hρ]; kernel_rfl
          clear hρ hn hg
          simp [opLands, go_sem, r8]
          exact hK _ _ rfl (Below.refl _ _)
        refine flow_cons (flow_op rfl rfl (by kernel_rfl) (by kernel_rfl) ?_) ?_
        · intro env W hE hn ρ hρ hc hf hg K hK
          have r7 : ρ (.tmp 7) = .int .i64 i := by rw [hρ]; kernel_rfl
          clear hρ hn hg
          simp [opLands, go_sem, r7]
          exact hK _ _ rfl (Below.refl _ _)
        refine flow_cons (flow_op rfl rfl (by kernel_rfl) (by kernel_rfl) ?_) ?_
        · intro env W hE hn ρ hρ hc hf hg K hK
          have r30 := (show ρ (.tmp 30) = env 2 by rw [hρ]; kernel_rfl).trans (hn 2 (by kernel_rfl))
          have r31 := (show ρ (.tmp 31) = env 3 by rw [hρ]; kernel_rfl).trans (hn 3 (by kernel_rfl))
          clear hρ hn hg
          simp [opLands, go_sem, r30, r31, hil]
          exact hK _ _ rfl (Below.refl _ _)
        refine flow_cons (flow_op rfl rfl (by kernel_rfl) (by kernel_rfl) ?_) ?_
        · intro env W hE hn ρ hρ hc hf hg K hK
          have r32 := (show ρ (.tmp 32) = env 4 by rw [hρ]; kernel_rfl).trans (hn 4 (by kernel_rfl))
          clear hρ hn hg
          exact lands_load_mid 38 (.tmp 32) rfl g (i * 9) r32 (nodeCells ⟨kind2, b2, neg2, dg2, ex2, u2, wd2, s2⟩ y0) _ (HRM.out W hE) Tryz.underlying38 rfl (by kernel_rfl) (hK _ _ rfl (Below.refl _ _))
        refine flow_cons (flow_op rfl rfl (by kernel_rfl) (by kernel_rfl) ?_) ?_
        · intro env W hE hn ρ hρ hc hf hg K hK
          have r1 : ρ (.tmp 1) = .slice (some a) n c := by rw [hρ]; kernel_rfl
          clear hρ hn hg
          simp [opLands, go_sem, r1]
          exact hK _ _ rfl (Below.refl _ _)
        refine flow_cons (flow_op rfl rfl (by kernel_rfl) (by kernel_rfl) ?_) ?_
        · intro env W hE hn ρ hρ hc hf hg K hK
          have r34 := (show ρ (.tmp 34) = env 6 by rw [hρ]; kernel_rfl).trans (hn 6 (by kernel_rfl))
          clear hρ hn hg
          simp [opLands, go_sem, hc, r34, hn1, hA2]
          exact hK _ _ rfl (Below.refl _ _)
        refine flow_cons (flow_op rfl rfl (by kernel_rfl) (by kernel_rfl) ?_) ?_
        · intro env W hE hn ρ hρ hc hf hg K hK
          have r2 : ρ (.tmp 2) = .func (.func gf) #[] caps := by rw [hρ]; kernel_rfl
          clear hρ hn hg
          simp [opLands, go_sem, r2]
          exact hK _ _ rfl (Below.refl _ _)
        refine flow_cons (flow_op rfl rfl (by kernel_rfl) (by kernel_rfl) ?_) flow_nil
        · intro env W hE hn ρ hρ hc hf hg K hK
          have r33 := (show ρ (.tmp 33) = env 5 by rw [hρ]; kernel_rfl).trans (hn 5 (by kernel_rfl))
          have r35 := (show ρ (.tmp 35) = env 7 by rw [hρ]; kernel_rfl).trans (hn 7 (by kernel_rfl))
          have r36 := (show ρ (.tmp 36) = env 8 by rw [hρ]; kernel_rfl).trans (hn 8 (by kernel_rfl))
          clear hρ hn hg
          refine lands_call rfl (by kernel_rfl) hf ?_
          rw [show #[Operand.tmp 33, Operand.tmp 35, Operand.tmp 36].map ρ = #[nodeV ⟨kind2, b2, neg2, dg2, ex2, u2, wd2, s2⟩ y0, .slice A2 (n - 1) (c - 1), .func (.func gf) #[] caps] by simp [r33, r35, r36]]
          refine (HIH.out W hE).mono ?_
          rintro e W' ⟨⟨y, D, rfl, hly, hoy⟩, hb⟩
          exact ⟨_, rfl, hK _ _ ⟨y, D, rfl, hly.mono (fun q hq => ⟨hq.1.imp id (fun h => Nat.le_trans hE.size h), hq.2⟩), hoy⟩ hb⟩
      case refine_5 =>
        intro env W hE hn
        have e0 : env 0 = .slice (some ⟨g, 0, none⟩) m m := hn 0 (by decide)
        have e1 : env 1 = .int .i64 i := hn 1 (by decide)
        obtain ⟨y, D, e9, hly, hoy⟩ := hn 9 (by decide)
        clear hn
        simp only [List.take_succ_cons, List.take_zero, List.drop_succ_cons, List.drop_zero, frameAll, e0, e1, e9]
        go_simp
        clear e0 e1 e9
        have hb6 := hb5.trans (hE.mono hb5.size)
        have hk7 := hk5.below hE hk5.lt
        have hk8 := hk6.below hE hk6.lt
        have hgW5 : g < W5.heap.size := by omega
        have ht6 := there_keep ht5 (hE.block g hgW5)
        have hr6 := range_keep hr5 (hE.block g hgW5)
        have hzW := hE.size
        obtain ⟨t3, ht3⟩ : ∃ t3, changedT ch p l[i] = t3 := ⟨_, rfl⟩
        rw [ht3] at hly hoy ⊢
        obtain ⟨⟨kind3, b3, neg3, dg3, ex3, u3, wd3, s3⟩, ho3⟩ : ∃ o, t3.own = o := ⟨_, rfl⟩
        have hst := range_store (W := W) (g := g) (k := i) (n := m) (xs := xs) (c := [.int .i64 kind3, .bool b3, .bool neg3, .string dg3, .int .i64 ex3, .int .u64 u3, .int .i64 wd3, .string s3, y]) (fun j _ v hj => by have := hr6 j v hj; rwa [Nat.zero_add] at this) ht6 hxl hil rfl
        have hgr7 := grown_cells g [.int .i64 kind3, .bool b3, .bool neg3, .string dg3, .int .i64 ex3, .int .u64 u3, .int .i64 wd3, .string s3, y] (i * 9) W
        have hb7 : Below w.heap.size w (W.setCells g (i * 9) [.int .i64 kind3, .bool b3, .bool neg3, .string dg3, .int .i64 ex3, .int .u64 u3, .int .i64 wd3, .string s3, y]) := hb6.grown hgr7 hb6.size (fun q e => by cases e; omega)
        have hk9 := hk7.kept hgr7 (fun e => by injection e with e; omega)
        have hk10 := hk8.kept hgr7 (fun e => by injection e with e; omega)
        have hz7 := setCells_size g [.int .i64 kind3, .bool b3, .bool neg3, .string dg3, .int .i64 ex3, .int .u64 u3, .int .i64 wd3, .string s3, y] (i * 9) W
        obtain ⟨W7, hW7⟩ : ∃ W7, W.setCells g (i * 9) [.int .i64 kind3, .bool b3, .bool neg3, .string dg3, .int .i64 ex3, .int .u64 u3, .int .i64 wd3, .string s3, y] = W7 := ⟨_, rfl⟩
        rw [hW7] at hst hgr7 hb7 hk9 hk10 hz7
        have f8 := hk9.frozen 8
        have k8 := hk9.cell 8
        have hs1 : Blk (W7.setCell ⟨w.heap.size, 8, none⟩ (.slice (some ⟨g, 0, none⟩) m m)) w.heap.size #[.int .i64 kind, .bool b, .bool neg, .string dg, .int .i64 ex, .int .u64 un, .int .i64 wd, .string str, .slice (some ⟨g, 0, none⟩) m m] 38 := hk9.set 8 _
        have hs2 : Blk (W7.setCell ⟨w.heap.size, 8, none⟩ (.slice (some ⟨g, 0, none⟩) m m)) (w.heap.size + 1) #[.int .i64 0, .bool false, .bool false, .string ⟨#[]⟩, .int .i64 0, .int .u64 0, .int .i64 0, .string ⟨#[]⟩, .slice none 0 0] 38 := hk10.other (by omega) _ _
        have hb8 : Below w.heap.size w (W7.setCell ⟨w.heap.size, 8, none⟩ (.slice (some ⟨g, 0, none⟩) m m)) := hb7.setCell (Nat.le_refl _) _
        have hs3 := blk_row hs2 #[.int .i64 kind, .bool b, .bool neg, .string dg, .int .i64 ex, .int .u64 un, .int .i64 wd, .string str, .slice (some ⟨g, 0, none⟩) m m]
        have hb9 : Below w.heap.size w ((W7.setCell ⟨w.heap.size, 8, none⟩ (.slice (some ⟨g, 0, none⟩) m m)).setRow (w.heap.size + 1) #[.int .i64 kind, .bool b, .bool neg, .string dg, .int .i64 ex, .int .u64 un, .int .i64 wd, .string str, .slice (some ⟨g, 0, none⟩) m m]) := hb8.grown (grown_row _ (w.heap.size + 1) _) hb8.size (fun q e => by cases e; omega)
        have hkeep : ∀ q, q ≠ g → q ≠ w.heap.size → q ≠ w.heap.size + 1 → ((W7.setCell ⟨w.heap.size, 8, none⟩ (.slice (some ⟨g, 0, none⟩) m m)).setRow (w.heap.size + 1) #[.int .i64 kind, .bool b, .bool neg, .string dg, .int .i64 ex, .int .u64 un, .int .i64 wd, .string str, .slice (some ⟨g, 0, none⟩) m m]).heap[q]? = W.heap[q]? := fun q h1 h2 h3 => by
          rw [setRow_other _ _ _ _ h3, Below.heap_setCell _ _ _ _ h2]
          by_cases hq : q < W.heap.size
          · exact hgr7.block q hq (fun e => by injection e with e; exact h1 e)
          · have e1 : W7.heap.size = W.heap.size := hz7
            rw [Array.getElem?_eq_none (by omega), Array.getElem?_eq_none (by omega)]
        have hgk : ((W7.setCell ⟨w.heap.size, 8, none⟩ (.slice (some ⟨g, 0, none⟩) m m)).setRow (w.heap.size + 1) #[.int .i64 kind, .bool b, .bool neg, .string dg, .int .i64 ex, .int .u64 un, .int .i64 wd, .string str, .slice (some ⟨g, 0, none⟩) m m]).heap[g]? = W7.heap[g]? := by
          rw [setRow_other _ _ _ _ (by omega), Below.heap_setCell _ _ _ _ (by show g ≠ w.heap.size; omega)]
        obtain ⟨W9, hW9⟩ : ∃ W9, (W7.setCell ⟨w.heap.size, 8, none⟩ (.slice (some ⟨g, 0, none⟩) m m)).setRow (w.heap.size + 1) #[.int .i64 kind, .bool b, .bool neg, .string dg, .int .i64 ex, .int .u64 un, .int .i64 wd, .string str, .slice (some ⟨g, 0, none⟩) m m] = W9 := ⟨_, rfl⟩
        have hz9 : W9.heap.size = W.heap.size := by rw [← hW9, setRow_size, setCell_size, hz7]
        rw [hW9] at hkeep hgk
        have hlist : LAt W9 (fun q => (S q ∨ w.heap.size ≤ q) ∧ q < W9.heap.size) (max d' D + 1) (l.set i t3) (.slice (some ⟨g, 0, none⟩) m m) := by
          have hra9 := range_keep hst.1 hgk
          have r1 := (HROW.out.keep (W' := W9) (fun q hq0 => have hq := hS q hq0; (hkeep q (by omega) (by omega) (by omega)).trans (hb6.block q (by omega)))).mono (S' := fun q => (S q ∨ W5.heap.size ≤ q) ∧ q < W.heap.size) (fun q hq => ⟨.inl hq, by have := hS q hq; omega⟩)
          have r2 := hly.keep (W' := W9) (fun q hq => have h1 := hq.1.imp_left (hS q); hkeep q (by omega) (by omega) (by omega))
          have r3 := (r1.deeper (Nat.le_max_left d' D)).set i (by rw [HM.out]; exact hil) (t' := t3) hoy (r2.deeper (Nat.le_max_right d' D))
          rw [ho3] at r3
          have r4 := r3.listR (c := m) (S' := fun q => (S q ∨ w.heap.size ≤ q) ∧ q < W9.heap.size) hra9 (by rw [List.length_set, HM.out]; exact hml) (by rw [List.length_set, HM.out]; exact Nat.le_refl _) (fun q hq => ⟨hq.1.imp_right (fun h => by omega), by omega⟩) ⟨.inr (by omega), by omega⟩
          rw [List.length_set, HM.out] at r4
          exact r4
        have h1c : y.oneCell' = true := by
          obtain ⟨_, A3, c3, h3⟩ := hly.slice
          rw [h3]
          rfl
        unfold Value.oneCell' at h1c
        have H1A := Lib.hid (show (#[.int .i64 kind3, .bool b3, .bool neg3, .string dg3, .int .i64 ex3, .int .u64 u3, .int .i64 wd3, .string s3, y] : Array Value).all (·.oneCell') = true by simp [Value.oneCell', h1c])
        have HLI := Lib.hid hlist
        have HT6 := Lib.hid (there_mid ht6 hil)
        have HS1 := Lib.hid hs1
        have HS2 := Lib.hid hs2
        have HS3 := Lib.hid hs3
        have HB9 := Lib.hid hb9
        have HW9 := Lib.hid hW9
        unfold nodeV
        rw [ho3]
        simp only []
        clear hlist ht6 hs1 hs2 hs3 hb9 hW9 hkeep hgk hly hoy hst hr6 hgr7 hb7 hb8 hk7 hk8 hk10 hb6 hE hr5 ht5 hb5 hk5 hk6
        go_wp2_with (first | (refine wpList_store_mid rfl 38 (.tmp 38) (.tmp 37) rfl g (i * 9) #[.int .i64 kind3, .bool b3, .bool neg3, .string dg3, .int .i64 ex3, .int .u64 u3, .int .i64 wd3, .string s3, y] rfl rfl HT6.out (by kernel_rfl) H1A.out ?_; rw [List.toList_toArray, hW7]) | (refine wpList_load_row rfl 38 (.tmp 3) rfl w.heap.size rfl 38 _ (0, 0) _ HS1.out Tryz.underlying38 rfl (by kernel_rfl) ?_) | (refine wpList_store_row rfl 38 (.tmp 6) (.tmp 41) rfl (w.heap.size + 1) #[.int .i64 kind, .bool b, .bool neg, .string dg, .int .i64 ex, .int .u64 un, .int .i64 wd, .string str, .slice (some ⟨g, 0, none⟩) m m] rfl rfl 38 _ HS2.out (by kernel_rfl) rfl (by simp [Value.oneCell']) ?_))
        refine bodyPost_ret (v := .agg #[.int .i64 kind, .bool b, .bool neg, .string dg, .int .i64 ex, .int .u64 un, .int .i64 wd, .string str, .slice (some ⟨g, 0, none⟩) m m]) (results_cell_row rfl _ _ (w.heap.size + 1) 38 _ (0, 0) _ rfl HS3.out Tryz.underlying38 rfl (by kernel_rfl)) rfl ?_
        have hok := HOK.out
        rw [ho'] at hok
        exact ⟨⟨_, max d' D + 1, rfl, by rw [HW9.out]; exact HLI.out, hok⟩, HB9.out⟩
theorem path_changed (gf : Nat) (caps : Array Value) (ch : Tr → Tr) (Pre : Tr → Prop) (w0 : World) (B : Nat)
    (hch : ∀ W : World, Below w0.heap.size w0 W → ∀ (u : Tr) (x : Value) (d : Nat), Pre u → ListAt W B d u.kids x → OwnOk u.own → B ≤ W.heap.size → Calls Tryz.prog gf (#[nodeV u.own x] ++ caps) W (NodePost B (ch u) W))
    (heg : ∀ args w, (callFunc gf args).run Tryz.prog w = .ok (.enter gf args) w)
    (p : List Stp) (t : Tr) (x : Value) (A : Option Addr) (n c : Nat) (w : World) (d : Nat) (h1 : Below w0.heap.size w0 w) (h2 : ListAt w B d t.kids x) (h3 : OwnOk t.own) (h4 : StepsAt w B A n p) (h5 : n ≤ c) (h6 : ∃ u, findT t p = some u ∧ Pre u) (h7 : B ≤ w.heap.size) (h8 : t.count ≤ 1000000) :
      Calls Tryz.prog 38 #[nodeV t.own x, .slice A n c, .func (.func gf) #[] caps] w (NodePost B (changedT ch p t) w) :=
  path_changedS gf caps ch Pre w0 B (fun q => q < B) (fun _ h => h) hch heg p t x A n c w d h1 h2 h3 h4 h5 h6 h7 h8
end Go.Proofs.YtgfeeakcpojicaaGreatDoor
