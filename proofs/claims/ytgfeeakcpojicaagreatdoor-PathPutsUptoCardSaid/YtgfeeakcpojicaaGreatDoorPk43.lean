/- The texts FlowJ, put together. -/
import Derived.Test.YtgfeeakcpojicaaGreatDoorPk42
import Derived.Test.YtgfeeakcpojicaaGreatDoorPk27
import Derived.Test.YtgfeeakcpojicaaGreatDoorPk05
/- A drawn region that calls Find, takes its two answers apart and makes a box for the node: the joint fact. -/
namespace Go.Proofs.YtgfeeakcpojicaaGreatDoor
open Go.RowKit Go.Shelf

theorem updV_self (env : Nat → Value) (i : Nat) (v : Value) : updV env i v i = v := by simp [updV]
theorem updV_ne (env : Nat → Value) {i j : Nat} (v : Value) (h : j ≠ i) : updV env i v j = env j := by simp [updV, h]
theorem updB_ne (sel : Nat → Bool) {i j : Nat} (h : j ≠ i) : updB sel i j = sel j := by simp [updB, h]
theorem updB_self (sel : Nat → Bool) (i : Nat) : updB sel i i = true := by simp [updB]
abbrev zeroCells : Array Value := #[.int .i64 0, .bool false, .bool false, .string ⟨#[]⟩, .int .i64 0, .int .u64 0, .int .i64 0, .string ⟨#[]⟩, .slice none 0 0]

section
variable {P : Program} {R : World → World → Prop} {ops : Array Oper}
/-- One operation that gives no value, without a guard. -/
theorem flow_op0G {a : Act} {E : World → Prop} {Φ : Nat → (Nat → Value) → World → Prop} {χ : (Nat → Bool) → (Nat → Value) → World → Prop} {i : Nat} {o : Oper} (hg : o.guard = none) (hsel : (o.op matches .select ..) = false)
    (hz : (o.looksAt ops).all (fun t => decide (t < a.tmps.size)) = true) (hd : o.dst = none)
    (h : ∀ (sel : Nat → Bool) (env : Nat → Value) (w : World), E w → (∀ j, sel j = true → Φ j env w) → χ sel env w → sel i = false → (∀ j, waitsFor o j = true → sel j = true) →
      ∀ ρ, ρ = readOf ops a (waitsFor o) env → (∀ v, ρ (.const v) = v) → (∀ f, ρ (.func f) = .func (.func f) #[] #[]) → (∀ g, ρ (.global g) = .pointer (some ⟨g, 0, none⟩)) →
        ∀ K : Value → World → Prop, (∀ v w', Φ i (updV env i undef) w' → χ (updB sel i) (updV env i undef) w' → R w w' → K v w') → opLands P o ρ w K) :
    FlowOpG P R ops a E Φ χ i o := by
  intro sel env w hE hn hx hs hwt a' ha'
  have hw : Region.wanted o (yielded ops a'.tmps) = true := by unfold Region.wanted; rw [hg]
  rw [if_pos hw]
  intro K hK
  have h := h sel env w hE hn hx hs hwt _ rfl (fun _ => rfl) (fun _ => rfl) (fun _ => rfl) (fun _ w' => Φ i (updV env i undef) w' ∧ χ (updB sel i) (updV env i undef) w' ∧ R w w') (fun _ _ h1 h2 h3 => ⟨h1, h2, h3⟩)
  have hrun : execOp a'.eval o = execOp (readOf ops a (waitsFor o) env) o := execOp_congr o (fun cs b e => by rw [e] at hsel; cases hsel) (fun x hx => by
    cases x with
    | tmp t =>
      have hm : t ∈ o.looksAt ops := List.mem_append_left _ (List.mem_filterMap.2 ⟨.tmp t, by simpa using hx, rfl⟩)
      have ht : t < a.tmps.size := by simpa using List.all_eq_true.1 hz t hm
      rw [ha']
      exact frameOf_read ht _
    | const v => rfl
    | global g => rfl
    | func f => rfl)
  have hput : ∀ v w', Φ i (updV env i undef) w' ∧ χ (updB sel i) (updV env i undef) w' ∧ R w w' → K (a'.put o.dst v) w' := fun v w' h => by
    have hv : slotOf o (a'.put o.dst v) = undef := by
      unfold slotOf
      rw [hd]
    refine hK _ _ ?_ ?_ ?_ h.2.2
    · rw [hd]; rfl
    · rw [hv]; exact h.1
    · rw [hv]; exact h.2.1
  unfold Oper.wp
  rw [hrun]
  unfold opLands at h
  revert h
  cases (execOp (readOf ops a (waitsFor o) env) o).run P w with
  | halt x w' => exact False.elim
  | ok n w' =>
    cases n <;> simp only [Oper.upon]
    case value v => exact hput v w'
    case skip => exact hput undef w'
    case enter f args =>
      intro h
      refine Calls.mono h (fun e w'' he => ?_)
      obtain ⟨v, rfl, hv⟩ := he
      exact hput v w'' hv
    all_goals exact False.elim
/-- A whole struct is stored into its box. -/
theorem lands_store_row {o : Oper} {ρ : Operand → Value} {w : World} {R : Value → World → Prop} (ty : TypeId) (x y : Operand) (ho : o.op = .store ty x y)
    (g : Nat) (cells : Array Value) (hx : ρ x = .pointer (some ⟨g, 0, none⟩)) (hy : ρ y = .agg cells) (t : TypeId) (old : Array Value) (hg : Blk w g old t) (hi : (P.info? ty).map (·.size) = some cells.size)
    (hold : old.size = cells.size) (h1 : cells.all (·.oneCell') = true) (hR : R undef (w.setRow g cells)) : opLands P o ρ w R := by
  unfold opLands
  have hrun : (execOp ρ o).run P w = .ok .skip (w.setRow g cells) := by
    unfold execOp
    simp only [ho, hx, hy, Instr.storeAt, Instr.sureAddr, Sem.run_bind, Sem.run_pure, Result.andThen_ok, run_storeVar_row w g t ty old cells hg hi hold h1]
  rw [hrun]
  exact hR
end

/-- What Find answers, as a value. -/
def FindVal (o : Option Tr) (v : Value) : Prop := match o with
  | some u => ∃ A n c, v = .tuple #[nodeV u.own (.slice A n c), .bool true]
  | none => v = .tuple #[zeroN, .bool false]
theorem FindVal.pair {o : Option Tr} {v : Value} (h : FindVal o v) : ∃ o' A n c b, v = .tuple #[nodeV o' (.slice A n c), .bool b] := by
  cases o with
  | none => exact ⟨_, _, _, _, _, h⟩
  | some u =>
    obtain ⟨A, n, c, h⟩ := h
    exact ⟨_, _, _, _, _, h⟩
abbrev ptrTo (q : Nat) : Value := .pointer (some ⟨q, 0, none⟩)
theorem ptr_inj {p q : Nat} (h : ptrTo p = ptrTo q) : p = q := by
  injection h with h
  injection h with h
  injection h with h
def F5 (o : Option Tr) (env : Nat → Value) (_ : World) : Prop := FindVal o (env 5)
def F6 (o : Option Tr) (env : Nat → Value) (_ : World) : Prop := env 6 = env 5 ∧ FindVal o (env 6)
def F7 (env : Nat → Value) (_ : World) : Prop := ∃ o' A n c b, env 6 = .tuple #[nodeV o' (.slice A n c), .bool b] ∧ env 7 = nodeV o' (.slice A n c)
def F8 (env : Nat → Value) (_ : World) : Prop := ∃ x b, env 6 = .tuple #[x, .bool b] ∧ env 8 = .bool b
def F9 (lo : Nat) (env : Nat → Value) (_ : World) : Prop := ∃ bb, env 9 = ptrTo bb ∧ lo ≤ bb

/-- The joint fact: Find is operation 5, the parts 7 and 8, the box 9, its store 10. -/
structure JS (o : Option Tr) (d : Nat) (T : TypeId) (sel : Nat → Bool) (env : Nat → Value) (W : World) : Prop where
  c1 : sel 10 = true → sel 5 = true ∧ sel 7 = true ∧ sel 9 = true
  c2 : sel 5 = true → ∀ u, o = some u → ∀ ya, env 5 = .tuple #[nodeV u.own ya, .bool true] → LAt W (fun q => q < W.heap.size ∧ (sel 9 = true → env 9 ≠ ptrTo q)) d u.kids ya
  c3 : sel 9 = true → sel 10 = false → ∀ bb, env 9 = ptrTo bb → Blk W bb zeroCells T
  c4 : sel 9 = true → sel 10 = true → ∀ bb, env 9 = ptrTo bb → ∀ o' A n c, env 7 = nodeV o' (.slice A n c) → Blk W bb (cellsV o' (.slice A n c)) T
  c5 : sel 9 = true → ∀ bb, env 9 = ptrTo bb → bb < W.heap.size
variable {o : Option Tr} {d : Nat} {T : TypeId} {sel : Nat → Bool} {env : Nat → Value} {W W' : World}
theorem JS.start : JS o d T (fun _ => false) env W where
  c1 h := by cases h
  c2 h := by cases h
  c3 h := by cases h
  c4 h := by cases h
  c5 h := by cases h
theorem JS.lists {u : Tr} {ya : Value} (h : LAt W (fun q => q < W.heap.size ∧ (sel 9 = true → env 9 ≠ ptrTo q)) d u.kids ya) (hb : Below W.heap.size W W') : LAt W' (fun q => q < W'.heap.size ∧ (sel 9 = true → env 9 ≠ ptrTo q)) d u.kids ya :=
  (h.keep (fun q hq => hb.block q hq.1)).mono (fun _ hq => ⟨Nat.lt_of_lt_of_le hq.1 hb.size, hq.2⟩)
theorem JS.other (h : JS o d T sel env W) (hb : Below W.heap.size W W') (i : Nat) (h5 : 5 ≠ i) (h7 : 7 ≠ i) (h9 : 9 ≠ i) (h10 : 10 ≠ i) (v : Value) : JS o d T (updB sel i) (updV env i v) W' where
  c1 := by
    rw [updB_ne _ h5, updB_ne _ h7, updB_ne _ h9, updB_ne _ h10]
    exact h.c1
  c2 := by
    rw [updB_ne _ h5, updB_ne _ h9, updV_ne _ _ h5, updV_ne _ _ h9]
    exact fun s u hu ya e => JS.lists (h.c2 s u hu ya e) hb
  c3 := by
    rw [updB_ne _ h9, updB_ne _ h10, updV_ne _ _ h9]
    exact fun s s' bb e => (h.c3 s s' bb e).below hb (h.c5 s bb e)
  c4 := by
    rw [updB_ne _ h9, updB_ne _ h10, updV_ne _ _ h9, updV_ne _ _ h7]
    exact fun s s' bb e o' A n c e' => (h.c4 s s' bb e o' A n c e').below hb (h.c5 s bb e)
  c5 := by
    rw [updB_ne _ h9, updV_ne _ _ h9]
    exact fun s bb e => Nat.lt_of_lt_of_le (h.c5 s bb e) hb.size
theorem JS.part (h : JS o d T sel env W) (hs : sel 7 = false) (v : Value) : JS o d T (updB sel 7) (updV env 7 v) W where
  c1 := by
    intro s
    rw [updB_ne _ (show (10 : Nat) ≠ 7 by decide)] at s
    rw [(h.c1 s).2.1] at hs
    cases hs
  c2 := by
    rw [updB_ne _ (by decide), updB_ne _ (by decide), updV_ne _ _ (by decide), updV_ne _ _ (by decide)]
    exact h.c2
  c3 := by
    rw [updB_ne _ (by decide), updB_ne _ (by decide), updV_ne _ _ (by decide)]
    exact h.c3
  c4 := by
    rw [updB_ne _ (by decide), updB_ne _ (by decide)]
    intro _ s
    rw [(h.c1 s).2.1] at hs
    cases hs
  c5 := by
    rw [updB_ne _ (by decide), updV_ne _ _ (by decide)]
    exact h.c5
theorem JS.find {B lo : Nat} {v : Value} (h : JS o d T sel env W) (hs : sel 5 = false) (hp : FindPostS B W.heap.size o d (.returned v) W') (hb : Below W.heap.size W W') (h9 : sel 9 = true → F9 lo env W) (hlo : B ≤ lo) : JS o d T (updB sel 5) (updV env 5 v) W' where
  c1 := by
    intro s
    rw [updB_ne _ (show (10 : Nat) ≠ 5 by decide)] at s
    rw [(h.c1 s).1] at hs
    cases hs
  c2 := by
    rw [updB_ne _ (show (9 : Nat) ≠ 5 by decide), updV_ne _ _ (show (9 : Nat) ≠ 5 by decide), updV_self]
    intro _ u hu ya e5
    subst hu
    obtain ⟨y, h4, h6⟩ := hp
    injection h4 with h4
    rw [e5] at h4
    have : y = ya := by
      unfold nodeV at h4
      simp at h4
      exact h4.symm
    subst this
    refine h6.mono (fun q hq => ⟨hq.2, fun s9 e9 => ?_⟩)
    obtain ⟨b2, h1, h2⟩ := h9 s9
    have h3 := h.c5 s9 b2 h1
    rw [h1] at e9
    have := ptr_inj e9
    omega
  c3 := by
    rw [updB_ne _ (by decide), updB_ne _ (by decide), updV_ne _ _ (by decide)]
    exact fun s s' bb e => (h.c3 s s' bb e).below hb (h.c5 s bb e)
  c4 := by
    rw [updB_ne _ (by decide), updB_ne _ (by decide)]
    intro _ s
    rw [(h.c1 s).1] at hs
    cases hs
  c5 := by
    rw [updB_ne _ (by decide), updV_ne _ _ (by decide)]
    exact fun s bb e => Nat.lt_of_lt_of_le (h.c5 s bb e) hb.size
theorem JS.box (h : JS o d T sel env W) (hs : sel 9 = false) : JS o d T (updB sel 9) (updV env 9 (ptrTo W.heap.size)) (W.alloc (.cells zeroCells T)) where
  c1 := by
    intro s
    rw [updB_ne _ (show (10 : Nat) ≠ 9 by decide)] at s
    rw [(h.c1 s).2.2] at hs
    cases hs
  c2 := by
    rw [updB_ne _ (by decide), updV_ne _ _ (by decide), updV_self]
    have ha : Below W.heap.size W (W.alloc (.cells zeroCells T)) := (Below.refl _ _).alloc (Nat.le_refl _) _
    refine fun s u hu ya e => ((h.c2 s u hu ya e).keep (fun q hq => ha.block q hq.1)).mono (fun q hq => ⟨Nat.lt_of_lt_of_le hq.1 ha.size, fun _ e9 => ?_⟩)
    have := ptr_inj e9
    omega
  c3 := by
    rw [updV_self]
    intro _ _ bb e
    rw [← ptr_inj e]
    exact Blk.new _ _ _
  c4 := by
    rw [updB_ne _ (by decide : (10 : Nat) ≠ 9)]
    intro _ s
    rw [(h.c1 s).2.2] at hs
    cases hs
  c5 := by
    rw [updV_self]
    intro _ bb e
    rw [← ptr_inj e, World.size_alloc]
    exact Nat.lt_succ_self _
theorem JS.store {bb : Nat} {o' : Own} {A : Option Addr} {n c : Nat} {v : Value} (h : JS o d T sel env W) (s5 : sel 5 = true) (s7 : sel 7 = true) (s9 : sel 9 = true) (e9 : env 9 = ptrTo bb) (e7 : env 7 = nodeV o' (.slice A n c)) (hk : Blk W bb zeroCells T) :
    JS o d T (updB sel 10) (updV env 10 v) (W.setRow bb (cellsV o' (.slice A n c))) where
  c1 := fun _ => ⟨by rw [updB_ne _ (show (5 : Nat) ≠ 10 by decide)]; exact s5, by rw [updB_ne _ (show (7 : Nat) ≠ 10 by decide)]; exact s7, by rw [updB_ne _ (show (9 : Nat) ≠ 10 by decide)]; exact s9⟩
  c2 := by
    rw [updB_ne _ (by decide), updB_ne _ (by decide), updV_ne _ _ (by decide), updV_ne _ _ (by decide)]
    intro s u hu ya e
    refine ((h.c2 s u hu ya e).keep (fun q hq => setRow_other _ _ _ _ (fun e => hq.2 s9 (by rw [e9, e])))).mono (fun q hq => ⟨by rw [setRow_size]; exact hq.1, hq.2⟩)
  c3 := by
    rw [updB_self]
    intro _ s
    cases s
  c4 := by
    rw [updV_ne _ _ (by decide), updV_ne _ _ (by decide)]
    intro _ _ b2 e2 o2 A2 n2 c2 e7'
    rw [e9] at e2
    have := ptr_inj e2
    subst this
    have e : nodeV o' (.slice A n c) = nodeV o2 (.slice A2 n2 c2) := e7.symm.trans e7'
    unfold nodeV at e
    injection e with e
    have e : cellsV o' (.slice A n c) = cellsV o2 (.slice A2 n2 c2) := e
    rw [e]
    exact blk_row hk _
  c5 := by
    rw [updB_ne _ (by decide), updV_ne _ _ (by decide), setRow_size]
    exact h.c5

/-- What follows for the end of the region. -/
theorem flow_end {lo n : Nat} (h5 : F5 o env W) (h6 : F6 o env W) (h7 : F7 env W) (h8 : F8 env W) (h9 : F9 lo env W) (hn : 10 < n) (hx : JS o d T (fun j => decide (j < n)) env W) :
    ∃ o' A k c bb, env 7 = nodeV o' (.slice A k c) ∧ env 8 = .bool o.isSome ∧ env 9 = ptrTo bb ∧ Blk W bb (cellsV o' (.slice A k c)) T ∧ lo ≤ bb ∧ ∀ u, o = some u → o' = u.own ∧ ListAt W W.heap.size d u.kids (.slice A k c) := by
  obtain ⟨o', A, k, c, b, e6, e7⟩ := h7
  obtain ⟨x, b', e6', e8⟩ := h8
  rw [e6] at e6'
  have e6' : nodeV o' (.slice A k c) = x ∧ b = b' := by simpa using e6'
  obtain ⟨bb, e9, hlo⟩ := h9
  have e5 := h6.1.symm.trans e6
  have hk := hx.c4 (by simp; omega) (by simp; omega) bb e9 o' A k c e7
  cases o with
  | none =>
    have h : env 5 = _ := h5
    rw [e5] at h
    have h : nodeV o' (.slice A k c) = zeroN ∧ b = false := by simpa using h
    exact ⟨o', A, k, c, bb, e7, by rw [e8, ← e6'.2, h.2]; rfl, e9, hk, hlo, fun u hu => by cases hu⟩
  | some u =>
    obtain ⟨A', n', c', h⟩ := h5
    rw [e5] at h
    have h : nodeV o' (.slice A k c) = nodeV u.own (.slice A' n' c') ∧ b = true := by simpa using h
    have hl := hx.c2 (by simp; omega) u rfl _ (by rw [e5, h.1, h.2])
    refine ⟨u.own, A', n', c', bb, by rw [e7, h.1], by rw [e8, ← e6'.2, h.2]; rfl, e9, ?_, hlo, fun u' hu => ?_⟩
    · have e := h.1
      unfold nodeV at e
      injection e with e
      have e : cellsV o' (.slice A k c) = cellsV u.own (.slice A' n' c') := e
      rw [← e]
      exact hk
    · cases hu
      exact ⟨rfl, hl.mono (fun _ hq => hq.1)⟩
theorem FindPostS.shape {B lo : Nat} {v : Value} (h : FindPostS B lo o d (.returned v) W) : FindVal o v := by
  cases o with
  | none =>
    have h : Ending.returned v = _ := h
    injection h
  | some u =>
    obtain ⟨y, h, hl⟩ := h
    injection h with h
    obtain ⟨_, A, c, rfl⟩ := hl.slice
    exact ⟨A, _, c, h⟩
theorem FindPost.below {o : Option Tr} {d : Nat} {e : Ending} {W W' : World} (h : FindPost o d e W) (hb : Below W.heap.size W W') : FindPost o d e W' := by
  cases o with
  | none => exact h
  | some u =>
    obtain ⟨y, h1, h2⟩ := h
    exact ⟨y, h1, (h2.below hb (Nat.le_refl _)).more hb.size⟩
theorem FindPost.val {o : Option Tr} {d : Nat} {e : Ending} {W : World} (h : FindPost o d e W) : ∃ v, e = .returned v := by
  cases o with
  | none => exact ⟨_, h⟩
  | some u =>
    obtain ⟨y, h, _⟩ := h
    exact ⟨_, h⟩
theorem FindPost.pair {o : Option Tr} {d : Nat} {v : Value} {W : World} (h : FindPost o d (.returned v) W) : ∃ x0 x1, v = .tuple #[x0, x1] := by
  cases o with
  | none =>
    have h : Ending.returned v = _ := h
    injection h with h
    exact ⟨_, _, h⟩
  | some u =>
    obtain ⟨y, h, _⟩ := h
    injection h with h
    exact ⟨_, _, h⟩
end Go.Proofs.YtgfeeakcpojicaaGreatDoor
