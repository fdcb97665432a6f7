/- The texts PathN, put together. -/
import Derived.Test.YtgfeeakcpojicaaGreatDoorPk29
/- path: all, All. -/
namespace Go.Proofs.YtgfeeakcpojicaaGreatDoor
open Go.RowKit Go.Shelf
attribute [local go_sem] Oper.semAt_some wide_fn wide_depth

theorem cell_cells {W : World} {a : Addr} {u : Value} (h : W.cell? a = some u) : ∃ o, W.heap[a.block]? = some o ∧ o.isCells = true := by
  unfold World.cell? at h
  cases hb : W.heap[a.block]? with
  | none => rw [hb] at h; cases h
  | some o =>
    rw [hb] at h
    cases o <;> first | exact ⟨_, rfl, rfl⟩ | cases h
theorem StepsS.grownC {W W' : World} {row : Option Nat} {S : Nat → Prop} {A : Option Addr} {p : List Stp} (h : StepsS W S A p) (hg : W.grownBy W' row) (hr : ∀ r, row = some r → ∃ o : Obj, W.heap[r]? = some o ∧ o.isCells = false) : StepsS W' S A p :=
  And.intro (fun hp => by
    obtain ⟨ad, e, hs, hc⟩ := h.1 hp
    refine ⟨ad, e, hs, fun j u hu => ?_⟩
    have h1 := hc j u hu
    obtain ⟨o, ho, hoc⟩ := cell_cells h1
    rw [← h1]
    refine cell_keep ?_
    rw [add_block] at ho ⊢
    refine hg.block _ (Array.getElem?_eq_some_iff.1 ho).1 (fun e => ?_)
    obtain ⟨o', ho', hoc'⟩ := hr _ e.symm
    rw [ho] at ho'
    cases ho'
    rw [hoc] at hoc'
    cases hoc') h.2
theorem RowsS.grownC {W W' : World} {row : Option Nat} {S : Nat → Prop} (hg : W.grownBy W' row) (hr : ∀ r, row = some r → ∃ o : Obj, W.heap[r]? = some o ∧ o.isCells = false) : ∀ {ps : List (List Stp)} {vs : List Value}, RowsS W S ps vs → RowsS W' S ps vs
  | [], _, h => h
  | _ :: _, _, ⟨A, c, r, hv, hc, hs, h⟩ => ⟨A, c, r, hv, hc, hs.grownC hg hr, h.grownC hg hr⟩
theorem own_cells {W : World} {base size n : Nat} {e : TypeId} {v : Value} {xs : List Value} (h : W.ownsRow base e size v n xs) {g : Nat} (hg : v.ownBlock = some g) : ∃ o : Obj, W.heap[g]? = some o ∧ o.isCells = true := by
  rcases h.2 with ⟨rfl, _⟩ | ⟨g', cap, cur, rfl, _, hh, _⟩
  · cases hg
  · have : g' = g := by simpa [Value.ownBlock] using hg
    subst this
    exact ⟨_, hh, rfl⟩
theorem own_grownC {W W' : World} {row : Option Nat} {base size n : Nat} {e : TypeId} {v : Value} {xs : List Value} (h : W.ownsRow base e size v n xs) (hg : W.grownBy W' row) (hr : ∀ r, row = some r → ∃ o : Obj, W.heap[r]? = some o ∧ o.isCells = false) : W'.ownsRow base e size v n xs :=
  h.kept hg (by
    cases hv : v.ownBlock with
    | none => exact .inl rfl
    | some g =>
      refine .inr (fun e => ?_)
      obtain ⟨o, ho, hc⟩ := own_cells h hv
      obtain ⟨o', ho', hc'⟩ := hr g e.symm
      rw [ho] at ho'
      cases ho'
      rw [hc] at hc'
      cases hc')
theorem ownsRow_base {W : World} {base base' size n : Nat} {e : TypeId} {v : Value} {xs : List Value} (h : W.ownsRow base e size v n xs) (hb : base' ≤ base) : W.ownsRow base' e size v n xs :=
  ⟨h.1, h.2.imp id (fun ⟨g, cap, cur, h1, h2, h3⟩ => ⟨g, cap, cur, h1, Nat.le_trans hb h2, h3⟩)⟩

theorem keeps_opt {n : Nat} {A B : World} {r : Option Nat} (h : A.grownBy B r) (hr : ∀ g, r = some g → ∃ o : Obj, A.heap[g]? = some o ∧ o.isCells = true) : KeepsFrom n A B :=
  ⟨h.size, fun k o _ hk ho => (h.block k (Array.getElem?_eq_some_iff.1 hk).1 (fun e => by
    obtain ⟨o', ho', hc'⟩ := hr k e.symm
    rw [hk] at ho'
    cases ho'
    rw [hc'] at ho
    cases ho)).trans hk⟩
theorem KpB.opt {K : Nat → Prop} {A B : World} {r : Option Nat} (h : A.grownBy B r) (hK : ∀ q, K q → q < A.heap.size ∧ r ≠ some q) (hr : ∀ g, r = some g → ∃ o : Obj, A.heap[g]? = some o ∧ o.isCells = true) : KpB K A B :=
  ⟨fun q hq => h.block q (hK q hq).1 (fun e => (hK q hq).2 e.symm), h.size, fun k o hk ho => (h.block k (Array.getElem?_eq_some_iff.1 hk).1 (fun e => by
    obtain ⟨o', ho', hc'⟩ := hr k e.symm
    rw [hk] at ho'
    cases ho'
    rw [isWalk_cells hc'] at ho
    cases ho)).trans hk⟩
theorem KpB.setCell {K : Nat → Prop} (A : World) (a : Addr) (v : Value) (hK : ¬ K a.block) : KpB K A (A.setCell a v) := ⟨fun _ hq => Below.heap_setCell _ _ _ _ (fun e => hK (e ▸ hq)), KeepsWalks.setCell A a v⟩
theorem NodeAt.keep {W W' : World} {a : Addr} {o : Own} {x : Value} (h : NodeAt W a o x) (hk : W'.heap[a.block]? = W.heap[a.block]?) : NodeAt W' a o x where
  c0 := (cell_keep hk).trans h.c0
  c1 := (cell_keep (a := ⟨a.block, a.off + 1, none⟩) hk).trans h.c1
  c2 := (cell_keep (a := ⟨a.block, a.off + 2, none⟩) hk).trans h.c2
  c3 := (cell_keep (a := ⟨a.block, a.off + 3, none⟩) hk).trans h.c3
  c4 := (cell_keep (a := ⟨a.block, a.off + 4, none⟩) hk).trans h.c4
  c5 := (cell_keep (a := ⟨a.block, a.off + 5, none⟩) hk).trans h.c5
  c6 := (cell_keep (a := ⟨a.block, a.off + 6, none⟩) hk).trans h.c6
  c7 := (cell_keep (a := ⟨a.block, a.off + 7, none⟩) hk).trans h.c7
  c8 := (cell_keep (a := ⟨a.block, a.off + 8, none⟩) hk).trans h.c8
theorem allT_pos (k : Nat) (t : Tr) (p : List Stp) : 0 < (allT k t p).length := by
  cases k with
  | zero => exact Nat.zero_lt_one
  | succ k => rw [allT_succ]; unfold accT; simp
theorem infoSteps : (Tryz.prog.info? 22).map (fun i => (i.zero, i.size, i.bytes)) = some (some (.slice none 0 0), 1, 24) := by kernel_rfl

/-- What a slice of paths is, behind a call. -/
def AllPost (Sp : Nat → Prop) (ps : List (List Stp)) (w : World) (e : Ending) (w' : World) : Prop :=
  (∃ v vs, e = .returned v ∧ w'.ownsRow w.heap.size 22 1 v ps.length vs ∧ RowsS w' (fun q => (Sp q ∨ w.heap.size ≤ q) ∧ q < w'.heap.size ∧ v.ownBlock ≠ some q) ps vs) ∧ Below w.heap.size w w'
/-- What holds between two rounds: the row that has been gathered. -/
def AllI (Sp : Nat → Prop) (w : World) (cs : Array Value) (vp : Value) (ps : List (List Stp)) (W : World) : Prop :=
  (∃ v vs, Blk W (w.heap.size + 3) #[v] 40 ∧ W.ownsRow w.heap.size 22 1 v ps.length vs ∧ RowsS W (fun q => (Sp q ∨ w.heap.size ≤ q) ∧ q < W.heap.size ∧ v.ownBlock ≠ some q ∧ q ≠ w.heap.size + 3) ps vs ∧ ∀ g, v.ownBlock = some g → g = w.heap.size + 2 ∨ w.heap.size + 5 ≤ g) ∧
  (Blk W w.heap.size cs 38 ∧ Blk W (w.heap.size + 1) #[vp] 22) ∧ Below w.heap.size w W
theorem AllI.grown {Sp : Nat → Prop} {w : World} {cs : Array Value} {vp : Value} {ps : List (List Stp)} {W W' : World} {row : Option Nat} (h : AllI Sp w cs vp ps W) (hg : W.grownBy W' row) (hr : ∀ r, row = some r → w.heap.size ≤ r ∧ ∃ o : Obj, W.heap[r]? = some o ∧ o.isCells = false) : AllI Sp w cs vp ps W' := by
  obtain ⟨⟨v, vs, h1, h2, h3, h4⟩, ⟨h5, h6⟩, h7⟩ := h
  have hr' : ∀ r, row = some r → ∃ o : Obj, W.heap[r]? = some o ∧ o.isCells = false := fun r e => (hr r e).2
  exact ⟨⟨v, vs, blk_own _ _ (fun _ : Unit => _) () W W' row h1 hg hr', own_grownC h2 hg hr', (h3.grownC hg hr').mono (fun q hq => ⟨hq.1, Nat.lt_of_lt_of_le hq.2.1 hg.size, hq.2.2⟩), h4⟩,
    ⟨blk_own _ _ (fun _ : Unit => _) () W W' row h5 hg hr', blk_own _ _ (fun _ : Unit => _) () W W' row h6 hg hr'⟩, h7.grown hg h7.size (fun q e => (hr q e).1)⟩

theorem stepsTo_key {kind : Int} {l : List Tr} (hl : ∀ u ∈ l, u.own.s.size ≤ 9223372036854775807) : ∀ k, ∀ x ∈ stepsTo kind l k, x.1.2.size ≤ 9223372036854775807
  | 0 => fun x hx => by cases hx
  | k + 1 => fun x hx => by
    have ih := stepsTo_key (kind := kind) hl k
    unfold stepsTo at hx
    cases hs : stepAt kind l k with
    | none => rw [hs] at hx; exact ih x hx
    | some y =>
      rw [hs] at hx
      simp only [] at hx
      split at hx
      · exact ih x hx
      · rcases List.mem_append.1 hx with hx | hx
        · exact ih x hx
        · rw [List.mem_singleton.1 hx]
          unfold stepAt at hs
          split at hs
          · split at hs
            · cases hs
              exact hl _ (List.getElem_mem _)
            · split at hs
              · cases hs
                show (⟨#[]⟩ : ByteArray).size ≤ _
                decide
              · cases hs
          · cases hs
theorem LAt.keys {W : World} {S : Nat → Prop} {d : Nat} {l : List Tr} {v : Value} (h : LAt W S d l v) : ∀ u ∈ l, u.own.s.size ≤ 9223372036854775807 := by
  intro u hu
  obtain ⟨i, hi, rfl⟩ := List.getElem_of_mem hu
  obtain ⟨_, A, c, rfl⟩ := h.slice
  obtain ⟨_, _, _, _, _, _, hok, _⟩ := h.at_ hi
  exact hok.s

/-- The four blocks that all begins with. -/
theorem all_start (w : World) (cs : Array Value) (A : Option Addr) (p : List Stp) (c : Nat) (Sp : Nat → Prop) (hp : StepsS w Sp A p) (hpc : p.length ≤ c) (hS : ∀ q, Sp q → q < w.heap.size) :
    AllI Sp w cs (.slice A p.length c) [p] ((((w.alloc (.cells cs 38)).alloc (.cells #[.slice A p.length c] 22)).alloc (.cells #[.slice A p.length c] 22)).alloc (.cells #[.slice (some ⟨w.heap.size + 1 + 1, 0, none⟩) 1 1] 40)) := by
  have hb : Below w.heap.size w ((((w.alloc (.cells cs 38)).alloc (.cells #[.slice A p.length c] 22)).alloc (.cells #[.slice A p.length c] 22)).alloc (.cells #[.slice (some ⟨w.heap.size + 1 + 1, 0, none⟩) 1 1] 40)) :=
    (((((Below.refl w.heap.size w).alloc (Nat.le_refl _) _).alloc (by simp) _).alloc (by simp; omega) _).alloc (by simp; omega) _)
  have k0 := (((Blk.new w cs 38).alloc (.cells #[.slice A p.length c] 22)).alloc (.cells #[.slice A p.length c] 22)).alloc (.cells #[.slice (some ⟨w.heap.size + 1 + 1, 0, none⟩) 1 1] 40)
  have k1 := ((Blk.new (w.alloc (.cells cs 38)) #[.slice A p.length c] 22).alloc (.cells #[.slice A p.length c] 22)).alloc (.cells #[.slice (some ⟨w.heap.size + 1 + 1, 0, none⟩) 1 1] 40)
  have k3 := Blk.new (((w.alloc (.cells cs 38)).alloc (.cells #[.slice A p.length c] 22)).alloc (.cells #[.slice A p.length c] 22)) #[.slice (some ⟨w.heap.size + 1 + 1, 0, none⟩) 1 1] 40
  have hown := (World.ownsRow_lit (base := w.heap.size) (e := 22) (size := 1) ((w.alloc (.cells cs 38)).alloc (.cells #[.slice A p.length c] 22)) #[.slice A p.length c] 1 (by simp; omega) (by decide) rfl).alloc (.cells #[.slice (some ⟨w.heap.size + 1 + 1, 0, none⟩) 1 1] 40)
  simp only [World.size_alloc] at k1 k3 hown
  refine ⟨⟨_, [.slice A p.length c], k3, hown, ⟨A, c, [], rfl, hpc, (hp.keep (fun q hq => hb.block q (hS q hq))).mono (fun q hq => ?_), rfl⟩, fun g hg => ?_⟩, ⟨k0, k1⟩, hb⟩
  · have := hS q hq
    refine ⟨.inl hq, by have := hb.size; omega, fun e => ?_, by omega⟩
    have e : w.heap.size + 1 + 1 = q := by simpa [Value.ownBlock] using e
    omega
  · have e : w.heap.size + 1 + 1 = g := by simpa [Value.ownBlock] using hg
    exact .inl e.symm

set_option maxHeartbeats 8000000 in
set_option maxRecDepth 100000 in
theorem path_all {aT aQ : Addr} : ∀ (k : Nat) (Sp : Nat → Prop) (t : Tr) (x : Value) (A : Option Addr) (c : Nat) (p : List Stp) (w : World) (B d : Nat), UW w aT aQ → ListAt w B d t.kids x → StepsS w Sp A p → p.length + k = 16 → p.length ≤ c → (∀ q, Sp q → q < w.heap.size) → B ≤ w.heap.size → t.count ≤ 1000 →
    Calls Tryz.prog 36 #[nodeV t.own x, .slice A p.length c] w (AllPost Sp (allT k t p) w) := by
  intro k
  induction k with
  | zero =>
    intro Sp t x A c p w B d hU hl hp hpk hpc hS hB hc
    have hp16 : p.length = 16 := by omega
    obtain ⟨⟨kind, b, neg, dg, ex, un, wd, str⟩, ho⟩ : ∃ o, t.own = o := ⟨_, rfl⟩
    unfold nodeV
    rw [ho, hp16]
    simp only []
    refine calls_of_marks Tryz.func36 rfl ?_
    simp only [Tryz.ntmps36, List.size_toArray, List.length_cons, List.length_nil, Nat.reduceAdd, Nat.reduceSub, Array.replicate_succ, Array.replicate_zero, List.push_toArray, List.append_toArray, List.nil_append, List.cons_append]
    go_wp2_with fail
    have hst := all_start w #[.int .i64 kind, .bool b, .bool neg, .string dg, .int .i64 ex, .int .u64 un, .int .i64 wd, .string str, x] A p c Sp hp hpc hS
    rw [hp16] at hst
    refine leave0 (v := .slice (some ⟨w.heap.size + 1 + 1, 0, none⟩) 1 1) (by simp [results, Tryz.results36, go_sem]) rfl ?_
    obtain ⟨⟨v, vs, h1, h2, h3, _⟩, _, hb⟩ := hst
    have e1 : v = .slice (some ⟨w.heap.size + 1 + 1, 0, none⟩) 1 1 := by
      have h5 := h1.cell 0
      have k3 := Blk.new (((w.alloc (.cells #[.int .i64 kind, .bool b, .bool neg, .string dg, .int .i64 ex, .int .u64 un, .int .i64 wd, .string str, x] 38)).alloc (.cells #[.slice A 16 c] 22)).alloc (.cells #[.slice A 16 c] 22)) #[.slice (some ⟨w.heap.size + 1 + 1, 0, none⟩) 1 1] 40
      have h6 := k3.cell 0
      simp only [World.size_alloc] at h6
      rw [show w.heap.size + 1 + 1 + 1 = w.heap.size + 3 by omega] at h6
      rw [h5] at h6
      simpa using h6
    subst e1
    exact ⟨⟨_, vs, rfl, h2, h3.mono (fun q hq => ⟨hq.1, hq.2.1, hq.2.2.1⟩)⟩, hb⟩
  | succ k ih =>
    intro Sp t x A c p w B d hU hl hp hpk hpc hS hB hc
    have hne16 : ((p.length : Int) == 16) = false := by rw [beq_eq_false_iff_ne]; omega
    rw [allT_succ]
    obtain ⟨hml, A0, cl, rfl⟩ := hl.slice
    obtain ⟨m, hm⟩ : ∃ m, t.kids.length = m := ⟨_, rfl⟩
    obtain ⟨o, ho⟩ : ∃ o, t.own = o := ⟨_, rfl⟩
    have HPS := Lib.hid (fun w => path_steps (.slice A0 t.kids.length cl) o w)
    have hst := all_start w (cellsV o (.slice A0 t.kids.length cl)) A p c Sp hp hpc hS
    obtain ⟨kind, b, neg, dg, ex, un, wd, str⟩ := o
    rw [hm] at HPS hst
    unfold nodeV at HPS ⊢
    unfold cellsV at HPS hst
    rw [ho, hm]
    simp only [] at HPS hst ⊢
    refine calls_of_marks Tryz.func36 rfl ?_
    simp only [Tryz.ntmps36, List.size_toArray, List.length_cons, List.length_nil, Nat.reduceAdd, Nat.reduceSub, Array.replicate_succ, Array.replicate_zero, List.push_toArray, List.append_toArray, List.nil_append, List.cons_append]
    go_wp2_with fail
    refine (HPS.out _).mono ?_
    rintro e w1 ⟨rfl, hw1⟩
    have hbox := Blk.new ((((w.alloc (.cells #[.int .i64 kind, .bool b, .bool neg, .string dg, .int .i64 ex, .int .u64 un, .int .i64 wd, .string str, .slice A0 m cl] 38)).alloc (.cells #[.slice A p.length c] 22)).alloc (.cells #[.slice A p.length c] 22)).alloc (.cells #[.slice (some ⟨w.heap.size + 1 + 1, 0, none⟩) 1 1] 40)) #[.int .i64 kind, .bool b, .bool neg, .string dg, .int .i64 ex, .int .u64 un, .int .i64 wd, .string str, .slice A0 m cl] 38
    have hst1 := AllI.grown hst (World.grownBy_alloc _ (.cells #[.int .i64 kind, .bool b, .bool neg, .string dg, .int .i64 ex, .int .u64 un, .int .i64 wd, .string str, .slice A0 m cl] 38) none) (fun r e => by cases e)
    rw [hw1] at hbox hst1
    have hsz : w1.heap.size = w.heap.size + 5 := by rw [← hw1]; simp
    simp only [World.size_alloc] at hbox ⊢
    clear hst hw1
    have hbw := hst1.2.2
    have hl1 := hl.below hbw hB
    rw [hm] at hl1
    have hseq := steps_seq (w.heap.size + 1 + 1 + 1 + 1) B d (fun q => q < w.heap.size ∨ q = w.heap.size + 4) t _ w1 (.inr rfl) (fun q hq => .inl (by omega)) (fun q hq => by omega) (by unfold cellsV; rw [ho]; exact hbox) hl1
    have HSEQ := Lib.hid hseq
    have HST := Lib.hid hst1
    have hkeys := hl.keys
    have HL1 := Lib.hid hl1
    have HL := Lib.hid hl
    have HU := Lib.hid hU
    have HP := Lib.hid hp
    have HKEY := Lib.hid (fun x (hx : x ∈ stepsOf t) => stepsTo_key hkeys t.kids.length x hx)
    clear HPS hseq hbox hl hl1 hst1 hkeys hU hp
    go_wp2_with fail
    refine wp_rangeFuncV (gf := 81) (lb := #[.pointer (some ⟨w.heap.size + 1 + 1 + 1 + 1, 0, none⟩)]) rfl (enters_of Tryz.func81 (by kernel_rfl) rfl)
      HSEQ.out (fun q hq => by omega) (Below.refl _ _) (fun _ => rfl)
      (fun pre W => AllI Sp w #[.int .i64 kind, .bool b, .bool neg, .string dg, .int .i64 ex, .int .u64 un, .int .i64 wd, .string str, .slice A0 m cl] (.slice A p.length c) (accT k t p pre) W ∧ w.heap.size + 5 ≤ W.heap.size)
      (fun _ _ _ => False)
      ?hI ?hIx ⟨HST.out, by omega⟩
      (fun T x a' W => ∃ Bx, w.heap.size + 5 ≤ Bx ∧ Blk W Bx #[.int .i64 x.1.1, .string x.1.2] 53 ∧ a' = { tmps := (((T.setIfInBounds 16 (stepV x.1)).setIfInBounds 17 (.int .i64 x.2)).setIfInBounds 6 (.pointer (some ⟨Bx, 0, none⟩))).setIfInBounds 7 (.int .i64 x.2), defers := [] })
      ?hAx ?assign ?body ?done ?stop
    case hI => exact fun s X Y row h hg hr => ⟨AllI.grown h.1 hg (fun r e => ⟨by have := (hr r e).1; omega, (hr r e).2⟩), Nat.le_trans h.2 hg.size⟩
    case hIx => exact fun _ _ _ _ _ h _ _ => h
    case hAx =>
      rintro x a' _ X Y row ⟨Bx, h1, h2, h3⟩ hg hr
      exact ⟨Bx, h1, blk_own _ _ (fun _ : Unit => _) () X Y row h2 hg (fun r e => (hr r e).2), h3⟩
    case assign =>
      rintro l pre x W K ⟨hI, hz⟩ _ hK
      have HK := Lib.hid hK
      clear hK
      gi_wp2
      have hbe : Below W.heap.size W (W.alloc (.cells #[.int .i64 x.1.1, .string x.1.2] 53)) := (Below.refl _ _).alloc (Nat.le_refl _) _
      exact HK.out _ _ (keeps_below hbe) (KpB.below hbe (fun q hq => by omega)) ⟨AllI.grown hI (World.grownBy_alloc _ _ none) (fun r e => by cases e), by simp; omega⟩ ⟨W.heap.size, hz, Blk.new _ _ _, rfl⟩
    case body =>
      rintro l pre x a' W hl ⟨r, hr⟩ ⟨hI, hz5⟩ ⟨Bx, hBx, bX, rfl⟩ hT
      obtain ⟨⟨si, sk⟩, i⟩ := x
      have hmem : (((si, sk), i) : Stp × Nat) ∈ stepsOf t := hT.subset (by simp)
      have him : i < t.kids.length := stepsTo_lt _ _ _ (Nat.le_refl _) _ hmem
      have hsk : sk.size ≤ 9223372036854775807 := HKEY.out _ hmem
      have haccl := accT_len (k := k) (p := p) hT
      have hbW := hI.2.2
      have HR := Lib.hid (path_isRight si sk hsk W (HU.out.below hbW))
      have hx0 := bX.cell 0
      have hx1 := bX.cell 1
      simp only [] at hx0 hx1 bX ⊢
      simp only [List.setIfInBounds_toArray, List.set_cons_zero, List.set_cons_succ]
      clear hmem
      gi_wp2_with fail
      refine (show CallsIn (Fence.wide.inRound l) 6 _ _ _ _ _ from (callsIn_wide.2 HR.out : CallsIn Fence.wide 6 _ _ _ _ _)).mono ?_
      rintro e W1 ⟨rfl, hb⟩
      have hI1 := AllI.grown hI (below_none hb) (fun r e => by cases e)
      have hbX1 := bX.below hb bX.lt
      have hz1 := hb.size
      clear HR bX hx0 hx1 hI
      cases hsr : stepRight (si, sk) with
      | false =>
        have hgo : accT k t p (pre ++ [((si, sk), i)]) = accT k t p pre := by
          rw [accT_snoc, goT, hsr]
          simp
        have HGO := Lib.hid hgo
        clear hgo hsr
        gi_wp2_with fail
        exact ⟨keeps_below hb, KpB.below hb (fun q hq => by omega), by rw [HGO.out]; exact hI1, by omega⟩
      | true =>
        obtain ⟨d', al, y0, hdd, rfl, hab, hok, hna, hkk⟩ := HL.out.at_ him
        have hgo : accT k t p (pre ++ [((si, sk), i)]) = accT k t p pre ++ allT k t.kids[i] (p ++ [(si, sk)]) := by
          rw [accT_snoc, goT, hsr]
          simp only [if_true, List.getElem?_eq_getElem him]
        rw [hgo, List.length_append] at haccl
        have HGO := Lib.hid hgo
        have hcu := kid_count him
        obtain ⟨⟨vout, vs, h1, h2, h3, h4⟩, ⟨h5, h6⟩, hbw1⟩ := hI1
        have hlow : ∀ (W' : World), Below W1.heap.size W1 W' → Below w.heap.size w W' := fun W' hW' => hbw1.trans (hW'.mono hbw1.size)
        have HNA := Lib.hid (fun (W' : World) (hW' : Below W1.heap.size W1 W') => hna.keep (W' := W') ((hlow W' hW').block _ (by rw [add_block]; omega)))
        have HPA := Lib.hid (fun (W' : World) (hW' : Below W1.heap.size W1 W') => (HP.out.keep (fun q hq => (hlow W' hW').block q (hS q hq))).at_ hS)
        have HIH := Lib.hid (fun (W' : World) (hW' : Below W1.heap.size W1 W') (Sp' : Nat → Prop) (A2 : Option Addr) (c2 : Nat) (hs2 : StepsS W' Sp' A2 (p ++ [(si, sk)])) (hc2 : (p ++ [(si, sk)]).length ≤ c2) (hSp' : ∀ q, Sp' q → q < W'.heap.size) =>
          ih Sp' t.kids[i] y0 A2 c2 (p ++ [(si, sk)]) W' B d' (HU.out.below (hlow W' hW')) (hkk.below (hlow W' hW') hB) hs2 (by rw [List.length_append, List.length_singleton]; omega) hc2 hSp' (Nat.le_trans hB (hlow W' hW').size) (by omega))
        obtain ⟨u, hu⟩ : ∃ u, t.kids[i] = u := ⟨_, rfl⟩
        rw [hu] at HNA HIH haccl
        simp only [hu] at HGO
        obtain ⟨⟨kind2, b2, neg2, dg2, ex2, u2, wd2, s2⟩, ho2⟩ : ∃ o, u.own = o := ⟨_, rfl⟩
        rw [ho2] at HNA HIH
        rw [hm] at him
        have HOUT := Lib.hid h1
        have HOWN := Lib.hid h2
        have HROW := Lib.hid h3
        have HNB := Lib.hid h5
        have HPB := Lib.hid h6
        have HSB := Lib.hid hbX1
        have HV4 := Lib.hid h4
        have HLOW := Lib.hid hlow
        have HDD := Lib.hid hdd
        clear h1 h2 h3 h4 h5 h6 hna hkk hok hgo hsr hbX1 hlow hu hdd ih
        gi_wp2_with fail
        refine wpIn_region_tail (R := fun W W' => Below W.heap.size W W') 11 (by kernel_rfl) (by kernel_rfl) (fun _ => Below.refl _ _) (by kernel_rfl) (by kernel_rfl) (by kernel_rfl) (fun W => Below W1.heap.size W1 W)
          [fun v _ => v = vout, fun v _ => v = .pointer (some ⟨w.heap.size, 8, none⟩), fun v _ => v = .slice (some al) m cl, fun v _ => v = .int .i64 i, fun v _ => v = .pointer (some (al.add (i * 9))), fun v _ => v = nodeV ⟨kind2, b2, neg2, dg2, ex2, u2, wd2, s2⟩ y0,
           fun v _ => v = .slice A p.length c, fun v _ => v = .agg #[.int .i64 si, .string sk],
           fun v W => ∃ bb, v = .slice (some ⟨bb, 0, none⟩) 1 1 ∧ Blk W bb #[.int .i64 si, .string sk] 53 ∧ W1.heap.size ≤ bb,
           fun v W => ∃ A2 c2, v = .slice A2 (p.length + 1) c2 ∧ p.length + 1 ≤ c2 ∧ StepsS W (fun q => W1.heap.size ≤ q ∧ q < W.heap.size) A2 (p ++ [(si, sk)]),
           fun v W => ∃ vs', W.ownsRow W1.heap.size 22 1 v (allT k u (p ++ [(si, sk)])).length vs' ∧ RowsS W (fun q => W1.heap.size ≤ q ∧ q < W.heap.size ∧ v.ownBlock ≠ some q) (allT k u (p ++ [(si, sk)])) vs'] ?_ ?_ ?_ ?_ ?_
        case refine_1 => exact (Below.refl _ _).drew
        case refine_2 => exact fun W W' he hr => he.trans (hr.mono he.size)
        case refine_3 =>
          intro q hq v W W' _ hv hr
          simp only [List.mem_cons, List.not_mem_nil, or_false] at hq
          rcases hq with rfl | rfl | rfl | rfl | rfl | rfl | rfl | rfl | rfl | rfl | rfl
          all_goals first | exact hv | exact (let ⟨bb, g1, g2, g3⟩ := hv; ⟨bb, g1, g2.below hr g2.lt, g3⟩) | exact (let ⟨A2, c2, g1, g2, g3⟩ := hv; ⟨A2, c2, g1, g2, (g3.keep (fun q hq => hr.block q hq.2)).mono (fun q hq => ⟨hq.1, Nat.lt_of_lt_of_le hq.2 hr.size⟩)⟩) | exact (let ⟨vs', g1, g2⟩ := hv; ⟨vs', own_grownC g1 (below_none hr) (fun r e => by cases e), (g2.keep (fun q hq => hr.block q hq.2.1)).mono (fun q hq => ⟨hq.1, Nat.lt_of_lt_of_le hq.2.1 hr.size, hq.2.2⟩)⟩)
        case refine_4 =>
          refine flow_cons (flow_op rfl rfl (by kernel_rfl) (by kernel_rfl) ?_) ?_
          · intro env W hE hn ρ hρ hc hf hg K hK
            have r5 : ρ (.tmp 5) = .pointer (some ⟨w.heap.size + 3, 0, none⟩) := by rw [hρ]; kernel_rfl
            clear hρ hn hg
            have q0 := (HOUT.out.below hE HOUT.out.lt).cell 0
            simp [opLands, go_sem, r5, q0]
            exact hK _ _ rfl (Below.refl _ _)
          refine flow_cons (flow_op rfl rfl (by kernel_rfl) (by kernel_rfl) ?_) ?_
          · intro env W hE hn ρ hρ hc hf hg K hK
            have r2 : ρ (.tmp 2) = .pointer (some ⟨w.heap.size, 0, none⟩) := by rw [hρ]; kernel_rfl
            clear hρ hn hg
            simp [opLands, go_sem, r2]
            exact hK _ _ rfl (Below.refl _ _)
          refine flow_cons (flow_op rfl rfl (by kernel_rfl) (by kernel_rfl) ?_) ?_
          · intro env W hE hn ρ hρ hc hf hg K hK
            have r21 := (show ρ (.tmp 21) = env 1 by rw [hρ]; kernel_rfl).trans (hn 1 (by kernel_rfl))
            clear hρ hn hg
            have q8 := (HNB.out.below hE HNB.out.lt).cell 8
            simp [opLands, go_sem, r21, q8]
            exact hK _ _ rfl (Below.refl _ _)
          refine flow_cons (flow_op rfl rfl (by kernel_rfl) (by kernel_rfl) ?_) ?_
          · intro env W hE hn ρ hρ hc hf hg K hK
            have r7 : ρ (.tmp 7) = .int .i64 i := by rw [hρ]; kernel_rfl
            clear hρ hn hg
            simp [opLands, go_sem, r7]
            exact hK _ _ rfl (Below.refl _ _)
          refine flow_cons (flow_op rfl rfl (by kernel_rfl) (by kernel_rfl) ?_) ?_
          · intro env W hE hn ρ hρ hc hf hg K hK
            have r22 := (show ρ (.tmp 22) = env 2 by rw [hρ]; kernel_rfl).trans (hn 2 (by kernel_rfl))
            have r23 := (show ρ (.tmp 23) = env 3 by rw [hρ]; kernel_rfl).trans (hn 3 (by kernel_rfl))
            clear hρ hn hg
            simp [opLands, go_sem, r22, r23, him]
            exact hK _ _ rfl (Below.refl _ _)
          refine flow_cons (flow_op rfl rfl (by kernel_rfl) (by kernel_rfl) ?_) ?_
          · intro env W hE hn ρ hρ hc hf hg K hK
            have r24 := (show ρ (.tmp 24) = env 4 by rw [hρ]; kernel_rfl).trans (hn 4 (by kernel_rfl))
            clear hρ hn hg
            obtain ⟨q0, q1, q2, q3, q4, q5, q6, q7, q8⟩ := HNA.out W hE
            simp only [] at q0 q1 q2 q3 q4 q5 q6 q7 q8
            simp [opLands, go_sem, r24, q0, q1, q2, q3, q4, q5, q6, q7, q8]
            exact hK _ _ rfl (Below.refl _ _)
          refine flow_cons (flow_op rfl rfl (by kernel_rfl) (by kernel_rfl) ?_) ?_
          · intro env W hE hn ρ hρ hc hf hg K hK
            have r3 : ρ (.tmp 3) = .pointer (some ⟨w.heap.size + 1, 0, none⟩) := by rw [hρ]; kernel_rfl
            clear hρ hn hg
            have q0 := (HPB.out.below hE HPB.out.lt).cell 0
            simp [opLands, go_sem, r3, q0]
            exact hK _ _ rfl (Below.refl _ _)
          refine flow_cons (flow_op rfl rfl (by kernel_rfl) (by kernel_rfl) ?_) ?_
          · intro env W hE hn ρ hρ hc hf hg K hK
            have r6 : ρ (.tmp 6) = .pointer (some ⟨Bx, 0, none⟩) := by rw [hρ]; kernel_rfl
            clear hρ hn hg
            have q0 := (HSB.out.below hE HSB.out.lt).cell 0
            have q1 := (HSB.out.below hE HSB.out.lt).cell 1
            simp [opLands, go_sem, r6, q0, q1]
            exact hK _ _ rfl (Below.refl _ _)
          refine flow_cons (flow_op rfl rfl (by kernel_rfl) (by kernel_rfl) ?_) ?_
          · intro env W hE hn ρ hρ hc hf hg K hK
            have r27 := (show ρ (.tmp 27) = env 7 by rw [hρ]; kernel_rfl).trans (hn 7 (by kernel_rfl))
            clear hρ hn hg
            simp [opLands, go_sem, r27]
            exact hK _ _ ⟨_, rfl, Blk.new _ _ _, hE.size⟩ ((Below.refl _ _).alloc (Nat.le_refl _) _)
          refine flow_cons (flow_op rfl rfl (by kernel_rfl) (by kernel_rfl) ?_) ?_
          · intro env W hE hn ρ hρ hc hf hg K hK
            have r26 := (show ρ (.tmp 26) = env 6 by rw [hρ]; kernel_rfl).trans (hn 6 (by kernel_rfl))
            obtain ⟨bb, e28, hbb, hbz⟩ := hn 8 (by kernel_rfl)
            have r28 := (show ρ (.tmp 28) = env 8 by rw [hρ]; kernel_rfl).trans e28
            clear hρ hn hg
            refine lands_call rfl (by kernel_rfl) hf ?_
            rw [show #[Operand.tmp 26, Operand.tmp 28].map ρ = #[.slice A p.length c, .slice (some ⟨bb, 0, none⟩) 1 1] by simp [r26, r28]]
            refine (path_on A p.length c p (si, sk) ⟨bb, 0, none⟩ 1 W w.heap.size (HPA.out W hE) hpc (by omega) ((hbb.cell 0).trans rfl) ((hbb.cell 1).trans rfl) hsk).mono ?_
            rintro e W' ⟨⟨A2, c2, rfl, hc2, hs2⟩, hb⟩
            exact ⟨_, rfl, hK _ _ ⟨A2, c2, rfl, hc2, hs2.mono (fun q hq => ⟨Nat.le_trans hE.size hq.1, hq.2⟩)⟩ hb⟩
          refine flow_cons (flow_op rfl rfl (by kernel_rfl) (by kernel_rfl) ?_) flow_nil
          · intro env W hE hn ρ hρ hc hf hg K hK
            have r25 := (show ρ (.tmp 25) = env 5 by rw [hρ]; kernel_rfl).trans (hn 5 (by kernel_rfl))
            obtain ⟨A2, c2, e29, hc2, hs2⟩ := hn 9 (by kernel_rfl)
            have r29 := (show ρ (.tmp 29) = env 9 by rw [hρ]; kernel_rfl).trans e29
            clear hρ hn hg
            refine lands_call rfl (by kernel_rfl) hf ?_
            rw [show #[Operand.tmp 25, Operand.tmp 29].map ρ = #[nodeV ⟨kind2, b2, neg2, dg2, ex2, u2, wd2, s2⟩ y0, .slice A2 (p ++ [(si, sk)]).length c2] by simp [r25, r29, nodeV]]
            refine (HIH.out W hE (fun q => W1.heap.size ≤ q ∧ q < W.heap.size) A2 c2 hs2 (by rw [List.length_append]; exact hc2) (fun q hq => hq.2)).mono ?_
            rintro e W' ⟨⟨v', vs', rfl, ho', hr'⟩, hb⟩
            exact ⟨_, rfl, hK _ _ ⟨vs', ownsRow_base ho' hE.size, hr'.mono (fun q hq => ⟨by have := hE.size; omega, hq.2⟩)⟩ hb⟩
        case refine_5 =>
          intro env W2 hE hn
          have e0 : env 0 = vout := hn 0 (by decide)
          obtain ⟨vs', ho', hr'⟩ := hn 10 (by decide)
          have hpos := allT_pos k u (p ++ [(si, sk)])
          obtain ⟨len', hlen'⟩ : ∃ n, (allT k u (p ++ [(si, sk)])).length = n := ⟨_, rfl⟩
          rw [hlen'] at ho' hpos haccl
          obtain ⟨g', cap', e10⟩ : ∃ g' cap', env 10 = .slice (some ⟨g', 0, none⟩) len' cap' := by
            rcases ho'.2 with ⟨_, h⟩ | ⟨g', cap, cur, h, _⟩
            · omega
            · exact ⟨g', cap, h⟩
          clear hn
          simp only [List.take_succ_cons, List.take_zero, List.drop_succ_cons, List.drop_zero, frameAll, e0, e10]
          rw [e10] at ho' hr'
          go_simp
          obtain ⟨i0, hi, hz0, hz1, hz2⟩ := info_parts infoSteps
          have hgr12 := below_none hE
          have hown2 := own_grownC HOWN.out hgr12 (fun r e => by cases e)
          have hbw2 := HLOW.out W2 hE
          have hgl' : g' < W2.heap.size ∧ W1.heap.size ≤ g' := ⟨(ho'.lt g' rfl).2, (ho'.lt g' rfl).1⟩
          have hcs' := Lies.own ho'
          obtain ⟨g, cap, w3, hrun, hown3, hgr3, hgg, hg3⟩ := run_append_lies (P := Tryz.prog) W2 40 40 w.heap.size 22 i0 _ 1 24 Tryz.underlying40 hi hz0 hz1 hz2 rfl (by decide) vout _ vs hown2 ⟨g', 0, none⟩ len' cap' vs' ho'.1 (fun j v hj => by
            obtain ⟨ad, e, _, hc⟩ := hcs'.2 hpos
            cases e
            exact hc j v hj) hr'.cells1 hpos (by unfold maxLen; omega) (by omega) hbw2.size W2.heap.size rfl
          have hv4 := HV4.out
          have hvo : ∀ q, vout.ownBlock = some q → q < W1.heap.size := fun q hq => (HOWN.out.lt q hq).2
          have hoc : ∀ q, vout.ownBlock = some q → ∃ o : Obj, W2.heap[q]? = some o ∧ o.isCells = true := fun q hq => own_cells hown2 hq
          have hne3 : vout.ownBlock ≠ some (w.heap.size + 3) := fun e => by have := hv4 _ e; omega
          have hk3 : Blk w3 (w.heap.size + 3) #[vout] 40 := (HOUT.out.below hE HOUT.out.lt).kept hgr3 (fun e => hne3 e.symm)
          have hc3 := hk3.cell 0
          have hf3 := hk3.frozen 0
          have hk4 := hk3.set 0 (.slice (some ⟨g, 0, none⟩) ((accT k t p pre).length + len') cap)
          have hnb3 : Blk w3 w.heap.size #[.int .i64 kind, .bool b, .bool neg, .string dg, .int .i64 ex, .int .u64 un, .int .i64 wd, .string str, .slice (some al) m cl] 38 := (HNB.out.below hE HNB.out.lt).kept hgr3 (fun e => by have := hv4 _ e.symm; omega)
          have hpb3 : Blk w3 (w.heap.size + 1) #[.slice A p.length c] 22 := (HPB.out.below hE HPB.out.lt).kept hgr3 (fun e => by have := hv4 _ e.symm; omega)
          have hown5 : (w3.setCell ⟨w.heap.size + 3, 0, none⟩ (.slice (some ⟨g, 0, none⟩) ((accT k t p pre).length + len') cap)).ownsRow w.heap.size 22 1 (.slice (some ⟨g, 0, none⟩) ((accT k t p pre).length + len') cap) ((accT k t p pre).length + len') (vs ++ vs') :=
            hown3.kept (grown_setT w3 (w.heap.size + 3) 0 _) (.inr (by
              have : g ≠ w.heap.size + 3 := by
                rcases hgg with h | h
                · exact fun e => hne3 (e ▸ h)
                · omega
              simpa [Value.ownBlock] using this))
          have hkeep3 : ∀ q, q < W2.heap.size → vout.ownBlock ≠ some q → q ≠ w.heap.size + 3 → (w3.setCell ⟨w.heap.size + 3, 0, none⟩ (.slice (some ⟨g, 0, none⟩) ((accT k t p pre).length + len') cap)).heap[q]? = W2.heap[q]? := fun q h1 h2 h3 => (Below.heap_setCell _ _ _ _ h3).trans (hgr3.block q h1 (fun e => h2 e.symm))
          have hz3 := hgr3.size
          have hzf : (w3.setCell ⟨w.heap.size + 3, 0, none⟩ (.slice (some ⟨g, 0, none⟩) ((accT k t p pre).length + len') cap)).heap.size = w3.heap.size := by simp [World.setCell]
          have hzw := hbw1.size
          have hz12 := hE.size
          have hrows : RowsS (w3.setCell ⟨w.heap.size + 3, 0, none⟩ (.slice (some ⟨g, 0, none⟩) ((accT k t p pre).length + len') cap)) (fun q => (Sp q ∨ w.heap.size ≤ q) ∧ q < (w3.setCell ⟨w.heap.size + 3, 0, none⟩ (.slice (some ⟨g, 0, none⟩) ((accT k t p pre).length + len') cap)).heap.size ∧ (Value.slice (some ⟨g, 0, none⟩) ((accT k t p pre).length + len') cap).ownBlock ≠ some q ∧ q ≠ w.heap.size + 3) (accT k t p pre ++ allT k u (p ++ [(si, sk)])) (vs ++ vs') := by
            refine RowsS.append ?_ ?_
            · refine (hr'.keep (fun q hq => hkeep3 q hq.2.1 (fun e => ?_) (by omega))).mono (fun q hq => ⟨.inr (by omega), by omega, fun e => ?_, by omega⟩)
              · have := hvo q e
                omega
              · have e : g = q := by simpa [Value.ownBlock] using e
                subst e
                rcases hgg with h | h
                · have := hvo g h
                  omega
                · omega
            · refine (HROW.out.keep (fun q hq => (hkeep3 q (by omega) hq.2.2.1 hq.2.2.2).trans (hE.block q hq.2.1))).mono (fun q hq => ⟨hq.1, by omega, fun e => ?_, hq.2.2.2⟩)
              have e : g = q := by simpa [Value.ownBlock] using e
              subst e
              rcases hgg with h | h
              · exact hq.2.2.1 h
              · omega
          have hbwf : Below w.heap.size w (w3.setCell ⟨w.heap.size + 3, 0, none⟩ (.slice (some ⟨g, 0, none⟩) ((accT k t p pre).length + len') cap)) := (hbw2.grown hgr3 hbw2.size (fun q e => by have := hv4 q e; omega)).setCell (by show w.heap.size ≤ w.heap.size + 3; omega) _
          have hkf : KeepsFrom w1.heap.size W (w3.setCell ⟨w.heap.size + 3, 0, none⟩ (.slice (some ⟨g, 0, none⟩) ((accT k t p pre).length + len') cap)) :=
            (((keeps_below hb).trans (keeps_below hE)).trans (keeps_opt hgr3 hoc)).trans ((KeepsOthers.setCell _ _ _).from _)
          have hkp : KpB (fun q => q < w.heap.size ∨ q = w.heap.size + 4) W (w3.setCell ⟨w.heap.size + 3, 0, none⟩ (.slice (some ⟨g, 0, none⟩) ((accT k t p pre).length + len') cap)) :=
            (((KpB.below hb (fun q hq => by omega)).trans (KpB.below hE (fun q hq => by omega))).trans (KpB.opt hgr3 (fun q hq => ⟨by omega, fun e => by have := hv4 q e; omega⟩) hoc)).trans (KpB.setCell _ _ _ (by show ¬ (w.heap.size + 3 < w.heap.size ∨ w.heap.size + 3 = w.heap.size + 4); omega))
          have hnew : AllI Sp w #[.int .i64 kind, .bool b, .bool neg, .string dg, .int .i64 ex, .int .u64 un, .int .i64 wd, .string str, .slice (some al) m cl] (.slice A p.length c) (accT k t p (pre ++ [((si, sk), i)])) (w3.setCell ⟨w.heap.size + 3, 0, none⟩ (.slice (some ⟨g, 0, none⟩) ((accT k t p pre).length + len') cap)) := by
            rw [HGO.out]
            refine ⟨⟨_, vs ++ vs', hk4, ?_, hrows, fun q hq => ?_⟩, ⟨hnb3.other (by omega) _ _, hpb3.other (by omega) _ _⟩, hbwf⟩
            · rw [List.length_append, hlen']
              exact hown5
            · have e : g = q := by simpa [Value.ownBlock] using hq
              subst e
              rcases hgg with h | h
              · exact hv4 g h
              · exact .inr (by omega)
          have HRUN := Lib.hid hrun
          have HEND := Lib.hid (And.intro hkf (And.intro hkp (And.intro hnew (show w.heap.size + 5 ≤ (w3.setCell ⟨w.heap.size + 3, 0, none⟩ (.slice (some ⟨g, 0, none⟩) ((accT k t p pre).length + len') cap)).heap.size by omega))))
          clear hrun hkf hkp hnew hbwf hrows hkeep3 hown5 hnb3 hpb3 hk4 hk3 hoc hvo hv4 hown3 hgr3 hgg hcs' hr' ho' hown2 hgr12 hE hbw2 e0 e10 HIH HNA HPA HOUT HOWN HROW HNB HPB HSB
          gi_wp2_with (refine wpListIn_append_run _ rfl _ _ 40 rfl vout (.slice (some ⟨g', 0, none⟩) len' cap') (.slice (some ⟨g, 0, none⟩) ((accT k t p pre).length + len') cap) w3 rfl rfl HRUN.out ?_)
          exact HEND.out
    case done =>
      rintro D ys W hD rfl ⟨⟨⟨v, vs, h1, h2, h3, h4⟩, ⟨h5, h6⟩, hB'⟩, _⟩ hK
      have hf0 := h1.cell 0
      have hz := hB'.size
      go_wp2_with fail
      exact leave1 (v := v) hK (by simp [results, Tryz.results36, go_sem]) rfl ⟨⟨v, vs, rfl, own_grownC h2 (grownBy_putObj' W D _) (fun r e => by cases e; exact ⟨_, hK, rfl⟩), (h3.grownC (grownBy_putObj' W D (.deferred none)) (fun r e => by cases e; exact ⟨_, hK, rfl⟩)).mono (fun q hq => ⟨hq.1, by simpa using hq.2.1, hq.2.2.1⟩)⟩, below_shut hB' (by omega) (by omega) _⟩
    case stop =>
      rintro D c pre W hD hp h hK
      exact h.elim
end Go.Proofs.YtgfeeakcpojicaaGreatDoor
