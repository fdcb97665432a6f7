/- The texts Seen, RangeK, RangeV, put together. -/
import Derived.Test.YtgfeeakcpojicaaGreatDoorPk15
import Derived.MapKept
import Derived.Maps.OwnIn
import Derived.WideMake
import Derived.RangeFuncSeq
import Derived.Test.YtgfeeakcpojicaaGreatDoorPk01
import Derived.RangeFuncWrites
/- A map that the call makes, of steps to truths: the steps that were seen. -/
namespace Go.Proofs.YtgfeeakcpojicaaGreatDoor
open Go.RowKit Go.Shelf

theorem toList_beq (a b : ByteArray) : (a.toList == b.toList) = decide (a = b) := by
  by_cases h : a = b
  · subst h
    simp
  · rw [decide_eq_false h, beq_eq_false_iff_ne, ByteArray.toList_eq, ByteArray.toList_eq]
    exact fun e => h (by apply ByteArray.ext; exact Array.toList_inj.1 e)
theorem stp_dec (a b : Stp) : decide (a = b) = (decide (a.1 = b.1) && decide (a.2 = b.2)) := by
  obtain ⟨a1, a2⟩ := a
  obtain ⟨b1, b2⟩ := b
  rw [Bool.eq_iff_iff, decide_eq_true_iff, Bool.and_eq_true, decide_eq_true_iff, decide_eq_true_iff, Prod.mk.injEq]

set_option maxRecDepth 100000 in
theorem step_equal (a b : Stp) (w : World) : (Op.equal 53 (stepV a) (stepV b)).run Tryz.prog w = .ok (decide (a = b)) w := by
  have hst : Tryz.prog.stoodInHeld 53 = false := by kernel_rfl
  have e1 : ∀ x y : Int, (x == y) = decide (x = y) := fun x y => rfl
  unfold Op.equal Op.maxDepth
  unfold Op.equalIn
  simp only [Sem.run_bind, run_underlying Tryz.underlying53, Result.andThen_ok, run_program, hst]
  rw [stp_dec]
  have h2 := toList_beq a.2 b.2
  by_cases h1 : a.1 = b.1
  · by_cases h3 : a.2 = b.2
    · rw [decide_eq_true h3] at h2 ⊢
      rw [decide_eq_true h1]
      simp [go_sem, h1, h2]
    · rw [decide_eq_false h3] at h2 ⊢
      rw [decide_eq_true h1]
      simp [go_sem, h1, h2]
  · rw [decide_eq_false h1]
    simp [go_sem, h1]

set_option maxRecDepth 100000 in
theorem step_check (em : Bool) (a : Stp) (w : World) : (Instr.checkKey em 10000 53 (stepV a)).run Tryz.prog w = .ok () w := by
  unfold Instr.checkKey
  simp only [Sem.run_bind, run_underlying Tryz.underlying53, Result.andThen_ok]
  have c0 : (Instr.checkKey em 9999 3 (.int .i64 a.1)).run Tryz.prog w = .ok () w := MapKept.run_checkKey (d := .int .i64) Tryz.underlying3 (by simp [MapKept.IsKey]) em 9998
  have c1 : (Instr.checkKey em 9999 9 (.string a.2)).run Tryz.prog w = .ok () w := MapKept.run_checkKey (d := .string) Tryz.underlying9 (by simp [MapKept.IsKey]) em 9998
  simp [go_sem, c0, c1]

def hasStp (ks : List Stp) (s : Stp) : Bool := ks.any fun k => decide (s = k)
theorem hasStp_iff {ks : List Stp} {s : Stp} : hasStp ks s = true ↔ s ∈ ks := by
  unfold hasStp
  rw [List.any_eq_true]
  constructor
  · rintro ⟨k, hk, h⟩
    rw [of_decide_eq_true h]
    exact hk
  · exact fun h => ⟨s, h, by simp⟩
/-- The map in block b has just these keys, each true. -/
def Seen (W : World) (b : Nat) (ks : List Stp) : Prop := ∃ es clock, W.heap[b]? = some (.map es clock) ∧ es.toList.map (fun e => (e.key, e.val)) = ks.map fun s => (stepV s, .bool true)
theorem Seen.made (w : World) : Seen (w.alloc (.map #[] 0)) w.heap.size [] := ⟨#[], 0, World.alloc_heap_new w _, rfl⟩
theorem Seen.keep {W W' : World} {b : Nat} {ks : List Stp} (h : Seen W b ks) (hk : W'.heap[b]? = W.heap[b]?) : Seen W' b ks := by
  obtain ⟨es, cl, h1, h2⟩ := h
  exact ⟨es, cl, hk.trans h1, h2⟩
theorem Seen.lt {W : World} {b : Nat} {ks : List Stp} (h : Seen W b ks) : b < W.heap.size := by
  obtain ⟨es, cl, h1, _⟩ := h
  exact (Array.getElem?_eq_some_iff.1 h1).1

theorem Seen.walk {W : World} {b : Nat} {ks : List Stp} (h : Seen W b ks) : ∃ o : Obj, W.heap[b]? = some o ∧ o.isWalk = true := by
  obtain ⟨es, cl, h1, _⟩ := h
  exact ⟨_, h1, rfl⟩

theorem Seen.walks {W W' : World} {b : Nat} {ks : List Stp} (h : Seen W b ks) (hk : KeepsWalks W W') : Seen W' b ks := by
  obtain ⟨es, cl, h1, h2⟩ := h
  exact ⟨es, cl, hk.same _ _ h1 rfl, h2⟩

theorem step_find (s : Stp) (w : World) : ∀ (l : List MapEntry) (ks : List Stp) (i : Nat), l.map (fun e => (e.key, e.val)) = ks.map (fun s => (stepV s, .bool true)) →
    ∃ j, (Instr.findAsking 53 (stepV s) l i).run Tryz.prog w = .ok (if hasStp ks s = true then some (j, .bool true) else none) w
  | [], ks, i, h => by
    obtain rfl : ks = [] := by simpa using h.symm
    exact ⟨0, by simp [Instr.findAsking, hasStp]⟩
  | e :: l, [], i, h => by simp at h
  | e :: l, k :: ks, i, h => by
    simp only [List.map_cons, List.cons.injEq, Prod.mk.injEq] at h
    obtain ⟨⟨hk, hv⟩, h⟩ := h
    obtain ⟨j, hj⟩ := step_find s w l ks (i + 1) h
    unfold Instr.findAsking
    simp only [Sem.run_bind, hk, step_equal s k w, Result.andThen_ok, hv]
    by_cases hs : s = k
    · subst hs
      exact ⟨i, by simp [hasStp]⟩
    · refine ⟨j, ?_⟩
      have e : hasStp (k :: ks) s = hasStp ks s := by
        unfold hasStp
        rw [List.any_cons, decide_eq_false hs, Bool.false_or]
      rw [e]
      simp only [hs, decide_false, Bool.false_eq_true, if_false, hj]
theorem step_findKey (s : Stp) (w : World) (l : List MapEntry) (ks : List Stp) (h : l.map (fun e => (e.key, e.val)) = ks.map (fun s => (stepV s, .bool true))) :
    ∃ j, (Instr.findKey 53 (stepV s) l).run Tryz.prog w = .ok (if hasStp ks s = true then some (j, .bool true) else none) w := by
  unfold Instr.findKey
  simp only [Sem.run_bind, run_underlying Tryz.underlying53, Result.andThen_ok]
  cases l with
  | nil =>
    obtain rfl : ks = [] := by simpa using h.symm
    exact ⟨0, by simp [Instr.findNow, hasStp]⟩
  | cons e l =>
    obtain ⟨j, hj⟩ := step_find s w (e :: l) ks 0 h
    refine ⟨j, ?_⟩
    have : Instr.findNow (.struct #[{ name := "Index", type := 3, offset := 0, embedded := false, tag := "", pkgPath := "", byteOffset := 0 }, { name := "Key", type := 9, offset := 1, embedded := false, tag := "", pkgPath := "", byteOffset := 8 }]) (stepV s) (e :: l) 0 = none := by
      unfold Instr.findNow
      simp [Instr.sameNow]
    rw [this]
    exact hj

theorem step_lookup {W : World} {b : Nat} {ks : List Stp} (h : Seen W b ks) (s : Stp) : (Instr.lookup 118 (.map (some b)) (stepV s) false).run Tryz.prog W = .ok (.bool (hasStp ks s)) W := by
  obtain ⟨es, cl, h1, h2⟩ := h
  obtain ⟨j, hj⟩ := step_findKey s W es.toList ks h2
  unfold Instr.lookup
  simp only [Sem.run_bind, run_underlying Tryz.underlying118, Result.andThen_ok, MapKept.run_getObj_map h1, Sem.run_pure, step_check, hj]
  by_cases hs : hasStp ks s = true
  · simp [hs]
  · rw [Bool.not_eq_true] at hs
    simp [hs]
theorem step_update {W : World} {b : Nat} {ks : List Stp} (h : Seen W b ks) (s : Stp) (hs : hasStp ks s = false) : ∃ W', (Instr.mapUpdate 118 (.map (some b)) (stepV s) (.bool true)).run Tryz.prog W = .ok () W' ∧ Seen W' b (ks ++ [s]) ∧ W.grownBy W' (some b) := by
  obtain ⟨es, cl, h1, h2⟩ := h
  obtain ⟨j, hj⟩ := step_findKey s W es.toList ks h2
  rw [hs, if_neg (by decide)] at hj
  refine ⟨{ W with heap := W.heap.setIfInBounds b (.map (es.push { key := stepV s, val := .bool true, born := cl }) (cl + 1)) }, ?_, ⟨es.push { key := stepV s, val := .bool true, born := cl }, cl + 1, (MapKept.heap_set h1).1, ?_⟩, ?_⟩
  · unfold Instr.mapUpdate
    simp only [Sem.run_bind, run_underlying Tryz.underlying118, Result.andThen_ok, MapKept.run_getObj_map h1, step_check, hj]
    exact MapKept.run_setObj_map _ h1
  · rw [Array.toList_push, List.map_append, List.map_append, h2]
    rfl
  · exact ⟨rfl, rfl, rfl, by simp, fun i _ hi => (MapKept.heap_set h1).2 i (fun e => hi (by rw [e]))⟩

/-- 'seen[s] = true' at the operation. -/
theorem wpList_seen (w : World) {ops : Array Oper} {rest : List Oper} {o : Oper} {a : Act} {Q : Exit → Act → World → Prop}
    (hg : o.guard = none) (m x v : Operand) (hop : o.op = Op.mapUpdate 118 m x v) (b : Nat) (ks : List Stp) (s : Stp)
    (hm : a.eval m = .map (some b)) (hown : Seen w b ks) (hx : a.eval x = stepV s) (hv : a.eval v = .bool true) (hs : hasStp ks s = false)
    (hK : ∀ w', Seen w' b (ks ++ [s]) → w.grownBy w' (some b) → wpList Tryz.prog ops Q rest (a.put o.dst undef) w') :
    wpList Tryz.prog ops Q (o :: rest) a w := by
  refine wpList_plain hg fun K' hK' => ?_
  obtain ⟨w', hrun, r1, r2⟩ := step_update hown s hs
  unfold Oper.wp
  simp [execOp, hop, hm, hx, hv, hrun, Result.andThen]
  exact hK' _ _ (hK w' r1 r2)

section
variable {F : Fence} {nF : Nat}
/-- 'seen[s]' at the operation, inside a fence. -/
theorem wpListIn_look (w : World) {ops : Array Oper} {rest : List Oper} {o : Oper} {a : Act} {Q : Exit → Act → World → Prop}
    (hg : o.guard = none) (m x : Operand) (hop : o.op = Op.lookup 118 m x false) (b : Nat) (ks : List Stp) (s : Stp)
    (hm : a.eval m = .map (some b)) (hown : Seen w b ks) (hx : a.eval x = stepV s) (bb : Bool) (hbb : hasStp ks s = bb)
    (hK : wpListIn F nF Tryz.prog ops Q rest (a.put o.dst (.bool bb)) w) :
    wpListIn F nF Tryz.prog ops Q (o :: rest) a w := by
  refine wpListIn_plain hg fun K' hK' => ?_
  have hrun := step_lookup hown s
  rw [hbb] at hrun
  unfold Oper.wpIn
  refine ⟨by simp [Oper.about, hop], ?_⟩
  rw [Oper.semAt_plain F _ _ (by rw [hop]; intro c hc'; cases hc')]
  simp [execOp, hop, hm, hx, hrun, Result.andThen]
  exact hK' _ _ hK
/-- 'seen[s] = true' at the operation, inside a fence. -/
theorem wpListIn_seen (w : World) {ops : Array Oper} {rest : List Oper} {o : Oper} {a : Act} {Q : Exit → Act → World → Prop}
    (hg : o.guard = none) (m x v : Operand) (hop : o.op = Op.mapUpdate 118 m x v) (b : Nat) (ks : List Stp) (s : Stp)
    (hm : a.eval m = .map (some b)) (hown : Seen w b ks) (hx : a.eval x = stepV s) (hv : a.eval v = .bool true) (hs : hasStp ks s = false)
    (hK : ∀ w', Seen w' b (ks ++ [s]) → w.grownBy w' (some b) → wpListIn F nF Tryz.prog ops Q rest (a.put o.dst undef) w') :
    wpListIn F nF Tryz.prog ops Q (o :: rest) a w := by
  refine wpListIn_plain hg fun K' hK' => ?_
  obtain ⟨w', hrun, r1, r2⟩ := step_update hown s hs
  unfold Oper.wpIn
  refine ⟨by simp [Oper.about, hop], ?_⟩
  rw [Oper.semAt_plain F _ _ (by rw [hop]; intro c hc'; cases hc')]
  simp [execOp, hop, hm, hx, hv, hrun, Result.andThen]
  exact hK' _ _ (hK w' r1 r2)
end
end Go.Proofs.YtgfeeakcpojicaaGreatDoor
/- A range over a function whose iterator keeps a map of its own: a round keeps all maps, and what lies below n₀. -/
namespace Go.Proofs.YtgfeeakcpojicaaGreatDoor
open Go.RowKit Go.Shelf

/-- What a round keeps: the blocks of K, and all maps. -/
def KpB (K : Nat → Prop) (A B : World) : Prop := (∀ q, K q → B.heap[q]? = A.heap[q]?) ∧ KeepsWalks A B
theorem KpB.trans {K : Nat → Prop} {A B C : World} (h : KpB K A B) (k : KpB K B C) : KpB K A C := ⟨fun q hq => (k.1 q hq).trans (h.1 q hq), h.2.trans k.2⟩
theorem KpB.refl (K : Nat → Prop) (A : World) : KpB K A A := ⟨fun _ _ => rfl, KeepsWalks.refl _⟩
theorem KpB.below {K : Nat → Prop} {A B : World} (h : Below A.heap.size A B) (hK : ∀ q, K q → q < A.heap.size) : KpB K A B := ⟨fun q hq => h.block q (hK q hq), h.size, fun k _ hk _ => (h.block k (Array.getElem?_eq_some_iff.1 hk).1).trans hk⟩
theorem KpB.putObj {K : Nat → Prop} {W : World} {l n : Nat} {o : Obj} (o' : Obj) (hK : ∀ q, K q → q < n) (hl : n ≤ l) (h : W.heap[l]? = some o) (hw : o.isWalk = false) : KpB K W (W.putObj l o') :=
  ⟨fun q hq => World.putObj_heap_other (by have := hK q hq; omega), KeepsWalks.putObj o' h hw⟩
theorem keeps_below {n : Nat} {A B : World} (h : Below A.heap.size A B) : KeepsFrom n A B := ⟨h.size, fun k _ _ hk _ => (h.block k (Array.getElem?_eq_some_iff.1 hk).1).trans hk⟩
/-- One block of cells is turned, others are made. -/
theorem keeps_row {n : Nat} {A B : World} {g : Nat} (h : A.grownBy B (some g)) (hg : ∀ o, A.heap[g]? = some o → o.isCells = true) : KeepsFrom n A B := ⟨h.size, fun k o _ hk ho => (h.block k (Array.getElem?_eq_some_iff.1 hk).1 (fun e => by
  cases e
  rw [hg o hk] at ho
  cases ho)).trans hk⟩
theorem isWalk_cells {o : Obj} (h : o.isCells = true) : o.isWalk = false := by
  cases o <;> first | rfl | cases h
theorem KpB.row {K : Nat → Prop} {A B : World} {g : Nat} (h : A.grownBy B (some g)) (hK : ∀ q, K q → q < A.heap.size ∧ q ≠ g) (hg : ∀ o, A.heap[g]? = some o → o.isCells = true) : KpB K A B :=
  ⟨fun q hq => h.block q (hK q hq).1 (fun e => (hK q hq).2 (by injection e)), h.size, fun k o hk ho => (h.block k (Array.getElem?_eq_some_iff.1 hk).1 (fun e => by
    cases e
    rw [isWalk_cells (hg o hk)] at ho
    cases ho)).trans hk⟩
/-- The blocks of K lie as they lay. -/
def KeptK (K : Nat → Prop) (A B : World) : Prop := ∀ q, K q → B.heap[q]? = A.heap[q]?
theorem KeptK.lt {K : Nat → Prop} {A B : World} (h : KeptK K A B) (hK : ∀ q, K q → q < A.heap.size) (q : Nat) (hq : K q) : q < B.heap.size := by
  have h1 := h q hq
  rw [Array.getElem?_eq_getElem (hK q hq)] at h1
  exact (Array.getElem?_eq_some_iff.1 h1).1
theorem KeptK.grown {K : Nat → Prop} {A B C : World} {r : Option Nat} (h : KeptK K A B) (hK : ∀ q, K q → q < A.heap.size) (hg : B.grownBy C r) (hr : ∀ g, r = some g → ¬ K g) : KeptK K A C :=
  fun q hq => (hg.block q (h.lt hK q hq) (fun e => hr q e.symm hq)).trans (h q hq)
end Go.Proofs.YtgfeeakcpojicaaGreatDoor
/- A range over a function whose iterator tells, at each yield, how the sequence goes on (T). -/
namespace Go.Proofs.YtgfeeakcpojicaaGreatDoor
open Go.RowKit Go.Shelf

/-- The contract of an iterator that tells what it yields. -/
def SeqV {α : Type} (P : Program) (g : Nat) (lb : Array Value) (encs : α → Array Value) (Kp : World → World → Prop) (T : List α → Prop) (S Sp : List α → Prop) (w0 : World) : Prop :=
  ∀ (l : Nat) (J Jx : List α → World → Prop) (W : World), Below w0.heap.size w0 W → AbidesFrom W.heap.size J → AbidesFrom W.heap.size Jx →
    (∀ pre x W1, J pre W1 → T (pre ++ [x]) → YieldAt Fence.wide 7 P l (encs x) W1 fun e W' =>
      (e = .returned (.bool true) ∧ J (pre ++ [x]) W' ∧ Kp W1 W') ∨ (e = .returned (.bool false) ∧ Jx (pre ++ [x]) W')) →
    J [] W →
    CallsIn Fence.wide 8 P g (#[.func (.yield l) #[] #[]] ++ lb) W fun e W' => (∃ v, e = .returned v) ∧ ((∃ xs, S xs ∧ J xs W') ∨ (∃ pre, Sp pre ∧ Jx pre W'))

/-- The statement, outside every fence. -/
theorem wp_rangeFuncV {P : Program} {α : Type} {g : Operand} {ps : Array Tmp} {assign body : Code} {Q : Exit → Act → World → Prop} {a : Act} {w : World}
    {gf : Nat} {lb : Array Value} (hg : a.eval g = .func (.func gf) #[] lb) (eg : ∀ args w, (callFunc gf args).run P w = .ok (.enter gf args) w)
    {encs : α → Array Value} {K : Nat → Prop} {T S Sp : List α → Prop} {w0 : World} (hseq : SeqV P gf lb encs (KpB K) T S Sp w0)
    (hn₀ : ∀ q, K q → q < w.heap.size) (hb0 : Below w0.heap.size w0 w) (hps : ∀ x, (encs x).size = ps.size)
    (I : List α → World → Prop) (Ix : Code → List α → World → Prop) (hI : OwnFrom w.heap.size I) (hIx : ∀ c, OwnFrom w.heap.size (Ix c)) (h0 : I [] w)
    (Ax : Array Value → α → Act → World → Prop) (hAx : ∀ x a', OwnFrom w.heap.size (fun (_ : Unit) W => Ax a.tmps x a' W))
    (hassign : ∀ (l : Nat) (pre : List α) (x : α) (W : World) (Kx : Act → World → Prop), I pre W → T (pre ++ [x]) → (∀ a' W', KeepsFrom w.heap.size W W' → KpB K W W' → I pre W' → Ax a.tmps x a' W' → Kx a' W') →
      assign.wpIn (Fence.wide.inRound l) 7 P (Exit.then Kx (fun _ _ _ => False)) { tmps := (ps.zip (encs x)).foldl (fun t (p, v) => t.setIfInBounds p v) a.tmps, defers := [] } W)
    (hbody : ∀ (l : Nat) (pre : List α) (x : α) (a' : Act) (W : World), w.heap.size ≤ l → (∃ r, W.heap[l]? = some (.loop r)) → I pre W → Ax a.tmps x a' W → T (pre ++ [x]) → body.wpIn (Fence.wide.inRound l) 7 P (ownPostG w.heap.size (KpB K) I Ix (pre ++ [x]) W) a' W)
    (hdone : ∀ (D : Nat) (xs : List α) (W : World), w.heap.size ≤ D → S xs → I xs W → W.heap[D]? = some (.deferred (some [])) → Q .normal { a with defers := { target := .collected D, args := #[] } :: a.defers } W)
    (hstop : ∀ (D : Nat) (c : Code) (pre : List α) (W : World), w.heap.size ≤ D → Sp pre → Ix c pre W → W.heap[D]? = some (.deferred (some [])) → c.wp P Q { a with defers := { target := .collected D, args := #[] } :: a.defers } W) :
    (Code.rangeFunc g ps assign body).wp P Q a w := by
  refine (wpIn_wide (n := 9)).1 ?_
  refine wpIn_rangeFunc ?_
  intro fn hfn
  rw [show Fence.wide.round = none from rfl]
  obtain ⟨rec, hrec⟩ : ∃ rec : LoopState → Option Code → Loop, rec = fun st pe => { state := st, pending := pe, fn, tmps := a.tmps, params := ps, assign, body, defers := w.heap.size } := ⟨_, rfl⟩
  obtain ⟨W1, hW1⟩ : ∃ W1, (w.alloc (.deferred (some []))).alloc (.loop (rec .ready none)) = W1 := ⟨_, rfl⟩
  have hL1 : W1.heap[w.heap.size + 1]? = some (.loop (rec .ready none)) := by
    have h := World.alloc_heap_new (w.alloc (.deferred (some []))) (.loop (rec .ready none))
    rw [World.size_alloc] at h
    rw [← hW1]
    exact h
  have hK1 : W1.heap[w.heap.size]? = some (.deferred (some [])) := by
    rw [← hW1]
    exact (Below.heap_alloc _ _ _ (by simp)).trans (World.alloc_heap_new w _)
  have hI1 : I [] W1 := by rw [← hW1]; exact hI.alloc _ (hI.alloc _ h0)
  have hb1 : Below w0.heap.size w0 W1 := by
    rw [← hW1]; exact hb0.trans ((((Below.refl _ w).alloc (Nat.le_refl _) _).alloc (by simp) _).mono hb0.size)
  have hz1 : W1.heap.size = w.heap.size + 2 := by rw [← hW1]; simp
  have hnw : ∀ {A B : World} {row : Option Nat} {k : Nat} {o : Obj}, A.grownBy B row → (∀ r, row = some r → W1.heap.size ≤ r ∧ ∃ o : Obj, A.heap[r]? = some o ∧ o.isWalk = true) → A.heap[k]? = some o → o.isWalk = false → B.heap[k]? = some o := fun {A B row k o} hg hr hk hw => by
    refine (hg.block k (Array.getElem?_eq_some_iff.1 hk).1 ?_).trans hk
    intro e
    obtain ⟨_, o', ho', hw'⟩ := hr k e.symm
    rw [hk] at ho'; cases ho'; rw [hw] at hw'; cases hw'
  have hnc : ∀ {A : World} {row : Option Nat}, (∀ r, row = some r → W1.heap.size ≤ r ∧ ∃ o : Obj, A.heap[r]? = some o ∧ o.isWalk = true) → (∀ r, row = some r → w.heap.size ≤ r ∧ ∃ o : Obj, A.heap[r]? = some o ∧ o.isCells = false) := fun {A row} hr r e => by
    obtain ⟨h1, o, h2, h3⟩ := hr r e
    refine ⟨by omega, o, h2, ?_⟩
    cases o <;> first | rfl | cases h3
  refine ⟨w.heap.size + 1, [{ target := .collected w.heap.size, args := #[] }], W1, { target := .fn (.func gf) lb, args := #[.func (.yield (w.heap.size + 1)) #[] #[]] }, W1, gf,
    #[.func (.yield (w.heap.size + 1)) #[] #[]] ++ lb, W1, ?_, ?_, ?_, ?_, fun _ => by omega, ?_⟩
  · rw [← hW1, hrec]
    exact run_enterLoop_outer _ _ _ _ _
  · simp only [resolve, hg]
    simp [go_sem]
  · intro f' _
    exact trivial
  · simp [invoke, go_sem, eg]
  · refine (hseq (w.heap.size + 1)
      (fun pre W => I pre W ∧ W.heap[w.heap.size + 1]? = some (.loop (rec .ready none)) ∧ W.heap[w.heap.size]? = some (.deferred (some [])))
      (fun pre W => ∃ c, Ix c pre W ∧ W.heap[w.heap.size + 1]? = some (.loop (rec .done (some c))) ∧ W.heap[w.heap.size]? = some (.deferred (some [])))
      W1 hb1
      (fun s A B row hs hg hr => ⟨hI s A B row hs.1 hg (hnc hr), hnw hg hr hs.2.1 rfl, hnw hg hr hs.2.2 rfl⟩)
      (fun s A B row hs hg hr => by
        obtain ⟨c, hc, hl, hk⟩ := hs
        exact ⟨c, hIx c s A B row hc hg (hnc hr), hnw hg hr hl rfl, hnw hg hr hk rfl⟩)
      ?_ ⟨hI1, hL1, hK1⟩).mono ?_
    · rintro pre x W ⟨hi, hl, hk⟩ hT
      have hy := run_yield (P := P) (args := encs x) hl (by rw [hrec]; exact hps x)
      rw [hrec] at hy
      refine ⟨fn, _, assign, body, hy, roundIn_of_wpIn hfn (hassign _ pre x W _ hi hT ?_)⟩
      intro a' Wa hkfa hkpa hia hax
      have hla := hkfa.same _ _ (by omega) hl rfl
      have hka := hkfa.same _ _ (Nat.le_refl _) hk rfl
      have hlt : w.heap.size + 1 < Wa.heap.size := (Array.getElem?_eq_some_iff.1 hla).1
      refine ⟨_, run_beginRound hla (by rw [hrec]), ?_⟩
      have hl2 : (Wa.putObj (w.heap.size + 1) (.loop { rec .ready none with state := .busy })).heap[w.heap.size + 1]? = some (.loop { rec .ready none with state := .busy }) := World.putObj_heap_same hlt
      have hk2 : (Wa.putObj (w.heap.size + 1) (.loop { rec .ready none with state := .busy })).heap[w.heap.size]? = some (.deferred (some [])) := (World.putObj_heap_other (by omega)).trans hka
      have hw2 : KpB K Wa (Wa.putObj (w.heap.size + 1) (.loop { rec .ready none with state := .busy })) := KpB.putObj _ hn₀ (by omega) hla rfl
      refine wpIn_mono (hbody _ pre x a' _ (by omega) ⟨_, hl2⟩ (hI.putObj _ hia (by omega) hla rfl) ((hAx x a').putObj (s := ()) _ hax (by omega) hla rfl) hT) ?_
      have fin : ∀ (jump : Option Code) (W3 : World), KeepsFrom w.heap.size (Wa.putObj (w.heap.size + 1) (.loop { rec .ready none with state := .busy })) W3 →
          (Instr.endRound (w.heap.size + 1) jump).run P W3 = .ok (.bool jump.isNone) (W3.putObj (w.heap.size + 1) (.loop (rec (if jump.isNone then .ready else .done) jump))) ∧
          W3.heap[w.heap.size + 1]? = some (.loop { rec .ready none with state := .busy }) ∧
          (W3.putObj (w.heap.size + 1) (.loop (rec (if jump.isNone then .ready else .done) jump))).heap[w.heap.size + 1]? = some (.loop (rec (if jump.isNone then .ready else .done) jump)) ∧
          (W3.putObj (w.heap.size + 1) (.loop (rec (if jump.isNone then .ready else .done) jump))).heap[w.heap.size]? = some (.deferred (some [])) := fun jump W3 hk3 => by
        have hl3 := hk3.same _ _ (by omega) hl2 rfl
        have hr := run_endRound (P := P) jump hl3
        rw [hrec] at hr ⊢
        exact ⟨hr, by rw [hrec] at hl3; exact hl3, World.putObj_heap_same (Array.getElem?_eq_some_iff.1 hl3).1, (World.putObj_heap_other (by omega)).trans (hk3.same _ _ (Nat.le_refl _) hk2 rfl)⟩
      rintro e a3 W3 hp
      cases e with
      | normal =>
        obtain ⟨hk3, hkp3, hi3⟩ := hp
        obtain ⟨hr, hl3, hl4, hk4⟩ := fin none W3 hk3
        exact ⟨_, _, hr, .inl ⟨rfl, ⟨hI.putObj _ hi3 (by omega) hl3 rfl, hl4, hk4⟩, hkpa.trans ((hw2.trans hkp3).trans (KpB.putObj _ hn₀ (by omega) hl3 rfl))⟩⟩
      | ret =>
        obtain ⟨hk3, hi3⟩ := hp
        obtain ⟨hr, hl3, hl4, hk4⟩ := fin (some .ret) W3 hk3
        exact ⟨_, _, hr, .inr ⟨rfl, .ret, (hIx _).putObj _ hi3 (by omega) hl3 rfl, hl4, hk4⟩⟩
      | exit id =>
        obtain ⟨hk3, hi3⟩ := hp
        obtain ⟨hr, hl3, hl4, hk4⟩ := fin (some (.exit id)) W3 hk3
        exact ⟨_, _, hr, .inr ⟨rfl, .exit id, (hIx _).putObj _ hi3 (by omega) hl3 rfl, hl4, hk4⟩⟩
      | goto t =>
        obtain ⟨hk3, hi3⟩ := hp
        obtain ⟨hr, hl3, hl4, hk4⟩ := fin (some (.goto t)) W3 hk3
        exact ⟨_, _, hr, .inr ⟨rfl, .goto t, (hIx _).putObj _ hi3 (by omega) hl3 rfl, hl4, hk4⟩⟩
      | panic ch => exact hp.elim
      | outgrown => exact hp.elim
    · rintro e W2 ⟨⟨v, rfl⟩, (⟨xs, hs, hi, hl, hk⟩ | ⟨pre, hs, c, hi, hl, hk⟩)⟩
      · exact ⟨none, _, by have h := run_endLoop (P := P) hl (by rw [hrec]; simp); rw [hrec] at h; exact h, hdone _ xs _ (Nat.le_refl _) hs (hI.putObj _ hi (by omega) hl rfl) ((World.putObj_heap_other (by omega)).trans hk)⟩
      · exact ⟨some c, _, by have h := run_endLoop (P := P) hl (by rw [hrec]; simp); rw [hrec] at h; exact h, wpIn_wide.2 (hstop _ c pre _ (Nat.le_refl _) hs ((hIx c).putObj _ hi (by omega) hl rfl) ((World.putObj_heap_other (by omega)).trans hk))⟩
end Go.Proofs.YtgfeeakcpojicaaGreatDoor
