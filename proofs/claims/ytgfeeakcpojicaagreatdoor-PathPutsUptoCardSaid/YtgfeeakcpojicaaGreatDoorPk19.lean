/- The texts Seen, RangeK, put together. -/
import Derived.Test.YtgfeeakcpojicaaGreatDoorPk18
import Derived.MapKept
import Derived.Maps.OwnIn
import Derived.WideMake
import Derived.RangeFuncSeq
import Derived.Test.YtgfeeakcpojicaaGreatDoorPk01
/- A map that the call makes, of steps to truths: the steps that were seen. -/
namespace Go.Proofs.YtgfeeakcpojicaaGreatDoor
open Go.RowKit Go.Shelf

theorem toList_beq (a b : ByteArray) : (a.toList == b.toList) = decide (a = b) := by
  by_cases h : a = b
  · subst h
    simp
  · rw [decide_eq_false h, beq_eq_false_iff_ne, ByteArray.toList_eq, ByteArray.toList_eq]
    exact fun e => h (by apply ByteArray.ext; exact Array.toList_inj.1 e)
theorem stp_dec (a b : Stp) : decide (a = b) = (decide (a.1 = b.1) && decide (a.2 = b.2)) := by
  obtain ⟨a1, a2⟩ := a
  obtain ⟨b1, b2⟩ := b
  rw [Bool.eq_iff_iff, decide_eq_true_iff, Bool.and_eq_true, decide_eq_true_iff, decide_eq_true_iff, Prod.mk.injEq]

set_option maxRecDepth 100000 in
theorem step_equal (a b : Stp) (w : World) : (Op.equal 53 (stepV a) (stepV b)).run Tryz.prog w = .ok (decide (a = b)) w := by
  have hst : Tryz.prog.stoodInHeld 53 = false := by kernel_rfl
  have e1 : ∀ x y : Int, (x == y) = decide (x = y) := fun x y => rfl
  unfold Op.equal Op.maxDepth
  unfold Op.equalIn
  simp only [Sem.run_bind, run_underlying Tryz.underlying53, Result.andThen_ok, run_program, hst]
  rw [stp_dec]
  have h2 := toList_beq a.2 b.2
  by_cases h1 : a.1 = b.1
  · by_cases h3 : a.2 = b.2
    · rw [decide_eq_true h3] at h2 ⊢
      rw [decide_eq_true h1]
      simp [go_sem, h1, h2]
    · rw [decide_eq_false h3] at h2 ⊢
      rw [decide_eq_true h1]
      simp [go_sem, h1, h2]
  · rw [decide_eq_false h1]
    simp [go_sem, h1]

set_option maxRecDepth 100000 in
theorem step_check (em : Bool) (a : Stp) (w : World) : (Instr.checkKey em 10000 53 (stepV a)).run Tryz.prog w = .ok () w := by
  unfold Instr.checkKey
  simp only [Sem.run_bind, run_underlying Tryz.underlying53, Result.andThen_ok]
  have c0 : (Instr.checkKey em 9999 3 (.int .i64 a.1)).run Tryz.prog w = .ok () w := MapKept.run_checkKey (d := .int .i64) Tryz.underlying3 (by simp [MapKept.IsKey]) em 9998
  have c1 : (Instr.checkKey em 9999 9 (.string a.2)).run Tryz.prog w = .ok () w := MapKept.run_checkKey (d := .string) Tryz.underlying9 (by simp [MapKept.IsKey]) em 9998
  simp [go_sem, c0, c1]

def hasStp (ks : List Stp) (s : Stp) : Bool := ks.any fun k => decide (s = k)
theorem hasStp_iff {ks : List Stp} {s : Stp} : hasStp ks s = true ↔ s ∈ ks := by
  unfold hasStp
  rw [List.any_eq_true]
  constructor
  · rintro ⟨k, hk, h⟩
    rw [of_decide_eq_true h]
    exact hk
  · exact fun h => ⟨s, h, by simp⟩
/-- The map in block b has just these keys, each true. -/
def Seen (W : World) (b : Nat) (ks : List Stp) : Prop := ∃ es clock, W.heap[b]? = some (.map es clock) ∧ es.toList.map (fun e => (e.key, e.val)) = ks.map fun s => (stepV s, .bool true)
theorem Seen.made (w : World) : Seen (w.alloc (.map #[] 0)) w.heap.size [] := ⟨#[], 0, World.alloc_heap_new w _, rfl⟩
theorem Seen.keep {W W' : World} {b : Nat} {ks : List Stp} (h : Seen W b ks) (hk : W'.heap[b]? = W.heap[b]?) : Seen W' b ks := by
  obtain ⟨es, cl, h1, h2⟩ := h
  exact ⟨es, cl, hk.trans h1, h2⟩
theorem Seen.lt {W : World} {b : Nat} {ks : List Stp} (h : Seen W b ks) : b < W.heap.size := by
  obtain ⟨es, cl, h1, _⟩ := h
  exact (Array.getElem?_eq_some_iff.1 h1).1

theorem Seen.walk {W : World} {b : Nat} {ks : List Stp} (h : Seen W b ks) : ∃ o : Obj, W.heap[b]? = some o ∧ o.isWalk = true := by
  obtain ⟨es, cl, h1, _⟩ := h
  exact ⟨_, h1, rfl⟩

theorem Seen.walks {W W' : World} {b : Nat} {ks : List Stp} (h : Seen W b ks) (hk : KeepsWalks W W') : Seen W' b ks := by
  obtain ⟨es, cl, h1, h2⟩ := h
  exact ⟨es, cl, hk.same _ _ h1 rfl, h2⟩

theorem step_find (s : Stp) (w : World) : ∀ (l : List MapEntry) (ks : List Stp) (i : Nat), l.map (fun e => (e.key, e.val)) = ks.map (fun s => (stepV s, .bool true)) →
    ∃ j, (Instr.findAsking 53 (stepV s) l i).run Tryz.prog w = .ok (if hasStp ks s = true then some (j, .bool true) else none) w
  | [], ks, i, h => by
    obtain rfl : ks = [] := by simpa using h.symm
    exact ⟨0, by simp [Instr.findAsking, hasStp]⟩
  | e :: l, [], i, h => by simp at h
  | e :: l, k :: ks, i, h => by
    simp only [List.map_cons, List.cons.injEq, Prod.mk.injEq] at h
    obtain ⟨⟨hk, hv⟩, h⟩ := h
    obtain ⟨j, hj⟩ := step_find s w l ks (i + 1) h
    unfold Instr.findAsking
    simp only [Sem.run_bind, hk, step_equal s k w, Result.andThen_ok, hv]
    by_cases hs : s = k
    · subst hs
      exact ⟨i, by simp [hasStp]⟩
    · refine ⟨j, ?_⟩
      have e : hasStp (k :: ks) s = hasStp ks s := by
        unfold hasStp
        rw [List.any_cons, decide_eq_false hs, Bool.false_or]
      rw [e]
      simp only [hs, decide_false, Bool.false_eq_true, if_false, hj]
theorem step_findKey (s : Stp) (w : World) (l : List MapEntry) (ks : List Stp) (h : l.map (fun e => (e.key, e.val)) = ks.map (fun s => (stepV s, .bool true))) :
    ∃ j, (Instr.findKey 53 (stepV s) l).run Tryz.prog w = .ok (if hasStp ks s = true then some (j, .bool true) else none) w := by
  unfold Instr.findKey
  simp only [Sem.run_bind, run_underlying Tryz.underlying53, Result.andThen_ok]
  cases l with
  | nil =>
    obtain rfl : ks = [] := by simpa using h.symm
    exact ⟨0, by simp [Instr.findNow, hasStp]⟩
  | cons e l =>
    obtain ⟨j, hj⟩ := step_find s w (e :: l) ks 0 h
    refine ⟨j, ?_⟩
    have : Instr.findNow (.struct #[{ name := "Index", type := 3, offset := 0, embedded := false, tag := "", pkgPath := "", byteOffset := 0 }, { name := "Key", type := 9, offset := 1, embedded := false, tag := "", pkgPath := "", byteOffset := 8 }]) (stepV s) (e :: l) 0 = none := by
      unfold Instr.findNow
      simp [Instr.sameNow]
    rw [this]
    exact hj

theorem step_lookup {W : World} {b : Nat} {ks : List Stp} (h : Seen W b ks) (s : Stp) : (Instr.lookup 118 (.map (some b)) (stepV s) false).run Tryz.prog W = .ok (.bool (hasStp ks s)) W := by
  obtain ⟨es, cl, h1, h2⟩ := h
  obtain ⟨j, hj⟩ := step_findKey s W es.toList ks h2
  unfold Instr.lookup
  simp only [Sem.run_bind, run_underlying Tryz.underlying118, Result.andThen_ok, MapKept.run_getObj_map h1, Sem.run_pure, step_check, hj]
  by_cases hs : hasStp ks s = true
  · simp [hs]
  · rw [Bool.not_eq_true] at hs
    simp [hs]
theorem step_update {W : World} {b : Nat} {ks : List Stp} (h : Seen W b ks) (s : Stp) (hs : hasStp ks s = false) : ∃ W', (Instr.mapUpdate 118 (.map (some b)) (stepV s) (.bool true)).run Tryz.prog W = .ok () W' ∧ Seen W' b (ks ++ [s]) ∧ W.grownBy W' (some b) := by
  obtain ⟨es, cl, h1, h2⟩ := h
  obtain ⟨j, hj⟩ := step_findKey s W es.toList ks h2
  rw [hs, if_neg (by decide)] at hj
  refine ⟨{ W with heap := W.heap.setIfInBounds b (.map (es.push { key := stepV s, val := .bool true, born := cl }) (cl + 1)) }, ?_, ⟨es.push { key := stepV s, val := .bool true, born := cl }, cl + 1, (MapKept.heap_set h1).1, ?_⟩, ?_⟩
  · unfold Instr.mapUpdate
    simp only [Sem.run_bind, run_underlying Tryz.underlying118, Result.andThen_ok, MapKept.run_getObj_map h1, step_check, hj]
    exact MapKept.run_setObj_map _ h1
  · rw [Array.toList_push, List.map_append, List.map_append, h2]
    rfl
  · exact ⟨rfl, rfl, rfl, by simp, fun i _ hi => (MapKept.heap_set h1).2 i (fun e => hi (by rw [e]))⟩

/-- 'seen[s] = true' at the operation. -/
theorem wpList_seen (w : World) {ops : Array Oper} {rest : List Oper} {o : Oper} {a : Act} {Q : Exit → Act → World → Prop}
    (hg : o.guard = none) (m x v : Operand) (hop : o.op = Op.mapUpdate 118 m x v) (b : Nat) (ks : List Stp) (s : Stp)
    (hm : a.eval m = .map (some b)) (hown : Seen w b ks) (hx : a.eval x = stepV s) (hv : a.eval v = .bool true) (hs : hasStp ks s = false)
    (hK : ∀ w', Seen w' b (ks ++ [s]) → w.grownBy w' (some b) → wpList Tryz.prog ops Q rest (a.put o.dst undef) w') :
    wpList Tryz.prog ops Q (o :: rest) a w := by
  refine wpList_plain hg fun K' hK' => ?_
  obtain ⟨w', hrun, r1, r2⟩ := step_update hown s hs
  unfold Oper.wp
  simp [execOp, hop, hm, hx, hv, hrun, Result.andThen]
  exact hK' _ _ (hK w' r1 r2)

section
variable {F : Fence} {nF : Nat}
/-- 'seen[s]' at the operation, inside a fence. -/
theorem wpListIn_look (w : World) {ops : Array Oper} {rest : List Oper} {o : Oper} {a : Act} {Q : Exit → Act → World → Prop}
    (hg : o.guard = none) (m x : Operand) (hop : o.op = Op.lookup 118 m x false) (b : Nat) (ks : List Stp) (s : Stp)
    (hm : a.eval m = .map (some b)) (hown : Seen w b ks) (hx : a.eval x = stepV s) (bb : Bool) (hbb : hasStp ks s = bb)
    (hK : wpListIn F nF Tryz.prog ops Q rest (a.put o.dst (.bool bb)) w) :
    wpListIn F nF Tryz.prog ops Q (o :: rest) a w := by
  refine wpListIn_plain hg fun K' hK' => ?_
  have hrun := step_lookup hown s
  rw [hbb] at hrun
  unfold Oper.wpIn
  refine ⟨by simp [Oper.about, hop], ?_⟩
  rw [Oper.semAt_plain F _ _ (by rw [hop]; intro c hc'; cases hc')]
  simp [execOp, hop, hm, hx, hrun, Result.andThen]
  exact hK' _ _ hK
/-- 'seen[s] = true' at the operation, inside a fence. -/
theorem wpListIn_seen (w : World) {ops : Array Oper} {rest : List Oper} {o : Oper} {a : Act} {Q : Exit → Act → World → Prop}
    (hg : o.guard = none) (m x v : Operand) (hop : o.op = Op.mapUpdate 118 m x v) (b : Nat) (ks : List Stp) (s : Stp)
    (hm : a.eval m = .map (some b)) (hown : Seen w b ks) (hx : a.eval x = stepV s) (hv : a.eval v = .bool true) (hs : hasStp ks s = false)
    (hK : ∀ w', Seen w' b (ks ++ [s]) → w.grownBy w' (some b) → wpListIn F nF Tryz.prog ops Q rest (a.put o.dst undef) w') :
    wpListIn F nF Tryz.prog ops Q (o :: rest) a w := by
  refine wpListIn_plain hg fun K' hK' => ?_
  obtain ⟨w', hrun, r1, r2⟩ := step_update hown s hs
  unfold Oper.wpIn
  refine ⟨by simp [Oper.about, hop], ?_⟩
  rw [Oper.semAt_plain F _ _ (by rw [hop]; intro c hc'; cases hc')]
  simp [execOp, hop, hm, hx, hv, hrun, Result.andThen]
  exact hK' _ _ (hK w' r1 r2)
end
end Go.Proofs.YtgfeeakcpojicaaGreatDoor
/- A range over a function whose iterator keeps a map of its own: a round keeps all maps, and what lies below n₀. -/
namespace Go.Proofs.YtgfeeakcpojicaaGreatDoor
open Go.RowKit Go.Shelf

/-- What a round keeps: the blocks of K, and all maps. -/
def KpB (K : Nat → Prop) (A B : World) : Prop := (∀ q, K q → B.heap[q]? = A.heap[q]?) ∧ KeepsWalks A B
theorem KpB.trans {K : Nat → Prop} {A B C : World} (h : KpB K A B) (k : KpB K B C) : KpB K A C := ⟨fun q hq => (k.1 q hq).trans (h.1 q hq), h.2.trans k.2⟩
theorem KpB.refl (K : Nat → Prop) (A : World) : KpB K A A := ⟨fun _ _ => rfl, KeepsWalks.refl _⟩
theorem KpB.below {K : Nat → Prop} {A B : World} (h : Below A.heap.size A B) (hK : ∀ q, K q → q < A.heap.size) : KpB K A B := ⟨fun q hq => h.block q (hK q hq), h.size, fun k _ hk _ => (h.block k (Array.getElem?_eq_some_iff.1 hk).1).trans hk⟩
theorem KpB.putObj {K : Nat → Prop} {W : World} {l n : Nat} {o : Obj} (o' : Obj) (hK : ∀ q, K q → q < n) (hl : n ≤ l) (h : W.heap[l]? = some o) (hw : o.isWalk = false) : KpB K W (W.putObj l o') :=
  ⟨fun q hq => World.putObj_heap_other (by have := hK q hq; omega), KeepsWalks.putObj o' h hw⟩
theorem keeps_below {n : Nat} {A B : World} (h : Below A.heap.size A B) : KeepsFrom n A B := ⟨h.size, fun k _ _ hk _ => (h.block k (Array.getElem?_eq_some_iff.1 hk).1).trans hk⟩
/-- One block of cells is turned, others are made. -/
theorem keeps_row {n : Nat} {A B : World} {g : Nat} (h : A.grownBy B (some g)) (hg : ∀ o, A.heap[g]? = some o → o.isCells = true) : KeepsFrom n A B := ⟨h.size, fun k o _ hk ho => (h.block k (Array.getElem?_eq_some_iff.1 hk).1 (fun e => by
  cases e
  rw [hg o hk] at ho
  cases ho)).trans hk⟩
theorem isWalk_cells {o : Obj} (h : o.isCells = true) : o.isWalk = false := by
  cases o <;> first | rfl | cases h
theorem KpB.row {K : Nat → Prop} {A B : World} {g : Nat} (h : A.grownBy B (some g)) (hK : ∀ q, K q → q < A.heap.size ∧ q ≠ g) (hg : ∀ o, A.heap[g]? = some o → o.isCells = true) : KpB K A B :=
  ⟨fun q hq => h.block q (hK q hq).1 (fun e => (hK q hq).2 (by injection e)), h.size, fun k o hk ho => (h.block k (Array.getElem?_eq_some_iff.1 hk).1 (fun e => by
    cases e
    rw [isWalk_cells (hg o hk)] at ho
    cases ho)).trans hk⟩
/-- The blocks of K lie as they lay. -/
def KeptK (K : Nat → Prop) (A B : World) : Prop := ∀ q, K q → B.heap[q]? = A.heap[q]?
theorem KeptK.lt {K : Nat → Prop} {A B : World} (h : KeptK K A B) (hK : ∀ q, K q → q < A.heap.size) (q : Nat) (hq : K q) : q < B.heap.size := by
  have h1 := h q hq
  rw [Array.getElem?_eq_getElem (hK q hq)] at h1
  exact (Array.getElem?_eq_some_iff.1 h1).1
theorem KeptK.grown {K : Nat → Prop} {A B C : World} {r : Option Nat} (h : KeptK K A B) (hK : ∀ q, K q → q < A.heap.size) (hg : B.grownBy C r) (hr : ∀ g, r = some g → ¬ K g) : KeptK K A C :=
  fun q hq => (hg.block q (h.lt hK q hq) (fun e => hr q e.symm hq)).trans (h q hq)
end Go.Proofs.YtgfeeakcpojicaaGreatDoor
