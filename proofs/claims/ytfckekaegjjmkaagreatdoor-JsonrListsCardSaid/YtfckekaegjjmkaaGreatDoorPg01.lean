/- The texts Lib, Mem, put together. -/
import Derived.Test.YtfckekaegjjmkaaGreatDoorRows
import Derived.WalkKit
import Derived.WalkSpells
import Derived.WalkLawsBesides
import Derived.RangeFuncNested
import Derived.RangeFuncBound
import Derived.RangeFuncCalls
import Derived.RangeFuncLeaves
import Derived.Shelf.Abstract
import Derived.Shelf.RegionOpen
import Derived.OwnWalkIn
import Derived.TacticsInMore
import Derived.LoopNIn
import Derived.LoopIn
import Derived.Laws.BytesArg
import Derived.ScopeJumps
import Derived.ProofKit
import Derived.OpenShut
import Derived.ShutString
import Derived.WalkMore
import Derived.Lib.Hide
import Derived.Laws.IdiomStrings
namespace Go.Proofs.YtfckekaegjjmkaaGreatDoor
open Go.RowKit Go.Shelf Go.ChangeShapes Go.WideShapes Go.ChangeAt

theorem wide_fn (k : Nat) : Fence.wide.fn k = True := rfl
theorem wide_depth : Fence.wide.depth = none := rfl

/-- A block of cells, known whole, none frozen. -/
def Blk (W : World) (b : Nat) (cs : Array Value) (t : TypeId) : Prop := W.heap[b]? = some (.cells cs t (0, 0))
theorem Blk.lt {W : World} {b : Nat} {cs : Array Value} {t : TypeId} (h : Blk W b cs t) : b < W.heap.size := (Array.getElem?_eq_some_iff.1 h).1
theorem Blk.cell {W : World} {b : Nat} {cs : Array Value} {t : TypeId} (h : Blk W b cs t) (i : Nat) : W.cell? ⟨b, i, none⟩ = cs[i]? := by simp [World.cell?, show W.heap[b]? = _ from h]
theorem Blk.frozen {W : World} {b : Nat} {cs : Array Value} {t : TypeId} (h : Blk W b cs t) (i : Nat) : W.frozen? ⟨b, i, none⟩ = false := by simp [World.frozen?, show W.heap[b]? = _ from h]
theorem Blk.new (W : World) (cs : Array Value) (t : TypeId) : Blk (W.alloc (.cells cs t)) W.heap.size cs t := World.alloc_heap_new W _
theorem Blk.kept {W W' : World} {row : Option Nat} {b : Nat} {cs : Array Value} {t : TypeId} (h : Blk W b cs t) (hg : W.grownBy W' row) (hne : some b ≠ row) : Blk W' b cs t := (hg.block b h.lt hne).trans h
theorem Blk.alloc {W : World} {b : Nat} {cs : Array Value} {t : TypeId} (h : Blk W b cs t) (o : Obj) : Blk (W.alloc o) b cs t := h.kept (World.grownBy_alloc W o none) (by simp)
theorem Blk.below {W W' : World} {b n : Nat} {cs : Array Value} {t : TypeId} (h : Blk W b cs t) (hb : Below n W W') (hn : b < n) : Blk W' b cs t := (hb.block b hn).trans h
theorem Blk.set {W : World} {b : Nat} {cs : Array Value} {t : TypeId} (h : Blk W b cs t) (i : Nat) (v : Value) : Blk (W.setCell ⟨b, i, none⟩ v) b (cs.setIfInBounds i v) t := by
  have hh : W.heap[b]? = some (.cells cs t (0, 0)) := h
  have hlt := h.lt
  unfold Blk
  simp only [World.setCell, Array.getElem?_modify, if_true, hh, Option.map_some]
  simp
theorem Blk.other {W : World} {b b' : Nat} {cs : Array Value} {t : TypeId} (h : Blk W b cs t) (hne : b ≠ b') (i : Nat) (v : Value) : Blk (W.setCell ⟨b', i, none⟩ v) b cs t :=
  (Below.heap_setCell W ⟨b', i, none⟩ v b hne).trans h
theorem Blk.drew {W : World} {b : Nat} {cs : Array Value} {t : TypeId} (h : Blk W b cs t) : Blk W.drew b cs t := h
theorem blk_own {β : Type} (b : Nat) (t : TypeId) (f : β → Array Value) : Own (fun s W => Blk W b (f s) t) := fun s X Y row hs hg hrow =>
  Blk.kept hs hg (fun e => by
    obtain ⟨o, ho, hc⟩ := hrow b e.symm
    rw [show X.heap[b]? = _ from hs] at ho
    cases ho
    cases hc)

theorem below_none {W W' : World} (h : Below W.heap.size W W') : W.grownBy W' none := ⟨h.os, h.tape, h.output, h.size, fun k hk _ => h.block k hk⟩

/-- What the body of a function that ranges over functions must achieve, outside every fence. -/
def BodyM (P : Program) (fn : Func) (R : Ending → World → Prop) (e : Exit) (a : Act) (w : World) : Prop := bodyPostM Fence.wide 9 P fn R e a w

/-- The end of a body in which no range over a function has been come to. -/
theorem leave0 {P : Program} {fn : Func} {R : Ending → World → Prop} {a : Act} {w : World} {v : Value}
    (hr : (results fn a.tmps).run P w = .ok v w) (hd : a.defers = []) (hR : R (.returned v) w) : BodyM P fn R .ret a w := by
  show LeavesInM Fence.wide 9 P fn a.tmps R a.defers .returning w
  rw [hd]
  exact ⟨v, hr, hR⟩

/-- The end of a body behind one range over a function. -/
theorem leave1 {P : Program} {fn : Func} {R : Ending → World → Prop} {a : Act} {w : World} {D : Nat} {v : Value}
    (hK : w.heap[D]? = some (.deferred (some [])))
    (hr : (results fn a.tmps).run P (w.putObj D (.deferred none)) = .ok v (w.putObj D (.deferred none))) (hd : a.defers = [{ target := .collected D, args := #[] }])
    (hR : R (.returned v) (w.putObj D (.deferred none))) : BodyM P fn R .ret a w := by
  show LeavesInM Fence.wide 9 P fn a.tmps R a.defers .returning w
  rw [hd]
  exact ⟨by simp, .inl ⟨_, _, rfl, run_takeDeferred hK, v, hr, hR⟩⟩

theorem Blk.shut {W : World} {b : Nat} {cs : Array Value} {t : TypeId} (h : Blk W b cs t) {D : Nat} {o : Obj} (hK : W.heap[D]? = some o) (ho : o.isCells = false) (o' : Obj) : Blk (W.putObj D o') b cs t :=
  h.kept (grownBy_putObj' W D o') (fun e => by cases e; rw [show W.heap[b]? = _ from h] at hK; cases hK; cases ho)
theorem below_shut {B : Nat} {w W : World} (h : Below B w W) {D : Nat} (hD : B ≤ D) (hB : B ≤ W.heap.size) (o' : Obj) : Below B w (W.putObj D o') :=
  h.grown (grownBy_putObj' W D o') hB (fun k e => by cases e; exact hD)

/-- A function that ranges over a function: its contract from its body, outside every fence. -/
theorem calls_of_marks {P : Program} {f : FuncId} {fn : Func} {c : Code} {args : Array Value} {w : World} {R : Ending → World → Prop}
    (hf : P.funcs[f]? = some fn) (hb : fn.body = some c)
    (h : c.wp P (BodyM P fn R) { tmps := args ++ Array.replicate (fn.ntmps - args.size) undef, defers := [] } w) : Calls P f args w R :=
  (callsIn_wide (n := 9)).1 (callsIn_of_wp_marks hf hb trivial (wpIn_wide.2 h) rfl)

/-- A range over a function, outside every fence. -/
theorem wp_rangeFunc {P : Program} {α : Type} {g : Operand} {ps : Array Tmp} {assign body : Code} {Q : Exit → Act → World → Prop} {a : Act} {w : World}
    {gf : Nat} {lb : Array Value} (hg : a.eval g = .func (.func gf) #[] lb) (eg : ∀ args w, (callFunc gf args).run P w = .ok (.enter gf args) w)
    {encs : α → Array Value} {n₀ : Nat} {S Sp : List α → Prop} {N : Nat} {w0 : World} (hseq : SeqStopsK Fence.wide 8 P gf lb encs (Below n₀) S Sp N w0)
    (hn₀ : n₀ ≤ w.heap.size) (hb0 : Below w0.heap.size w0 w) (hps : ∀ x, (encs x).size = ps.size)
    (I : List α → World → Prop) (Ix : Code → List α → World → Prop) (hI : OwnFrom w.heap.size I) (hIx : ∀ c, OwnFrom w.heap.size (Ix c)) (h0 : I [] w) (Ax : Array Value → α → Act → World → Prop) (hAx : ∀ x a', OwnFrom w.heap.size (fun (_ : Unit) W => Ax a.tmps x a' W))
    (hassign : ∀ (l : Nat) (pre : List α) (x : α) (W : World) (K : Act → World → Prop), I pre W → (∀ a' W', KeepsFrom w.heap.size W W' → Below n₀ W W' → I pre W' → Ax a.tmps x a' W' → K a' W') →
      assign.wpIn (Fence.wide.inRound l) 7 P (Exit.then K (fun _ _ _ => False)) { tmps := (ps.zip (encs x)).foldl (fun t (p, v) => t.setIfInBounds p v) a.tmps, defers := [] } W)
    (hbody : ∀ (l : Nat) (pre : List α) (x : α) (a' : Act) (W : World), w.heap.size ≤ l → (∃ r, W.heap[l]? = some (.loop r)) → I pre W → Ax a.tmps x a' W → pre.length < N → body.wpIn (Fence.wide.inRound l) 7 P (ownPostG w.heap.size (Below n₀) I Ix (pre ++ [x]) W) a' W)
    (hdone : ∀ (D : Nat) (xs : List α) (W : World), w.heap.size ≤ D → S xs → I xs W → W.heap[D]? = some (.deferred (some [])) → Q .normal { a with defers := { target := .collected D, args := #[] } :: a.defers } W)
    (hstop : ∀ (D : Nat) (c : Code) (pre : List α) (W : World), w.heap.size ≤ D → Sp pre → Ix c pre W → W.heap[D]? = some (.deferred (some [])) → c.wp P Q { a with defers := { target := .collected D, args := #[] } :: a.defers } W) :
    (Code.rangeFunc g ps assign body).wp P Q a w := by
  refine (wpIn_wide (n := 9)).1 ?_
  exact wpIn_rangeFunc_ownH (F := Fence.wide) (n := 9) rfl (by omega) hg trivial eg (encs := encs) (Kp := Below n₀) (S := S) (Sp := Sp) (N := N) (w0 := w0) hseq belowK_t (belowK_b hn₀) hb0 hps I Ix hI hIx h0 (Ax a.tmps) hAx hassign hbody hdone
    (fun D c pre W hD hS hx hK => wpIn_wide.2 (hstop D c pre W hD hS hx hK))



/-- A scope in which the run may jump forward to one label, once. -/
theorem wp_scope_forward {P : Program} {a : Act} {w : World} {Q : Exit → Act → World → Prop} {c rest : Code} (l : Nat) (hf : findLabel c l = some rest)
    (h : c.wp P (Exit.jump l (fun a w => rest.wp P (Exit.noGoto Q) a w) Q) a w) : (Code.scope c).wp P Q a w := by
  refine wp_scope_jumps l (fun a w => rest.wp P (Exit.noGoto Q) a w) (fun _ _ => 0) hf h (fun a w hJ => wp_mono hJ ?_)
  intro e a' w' hq
  cases e with
  | goto l' => exact hq.elim
  | _ => exact hq
theorem jump_ret {l : Nat} {J : Act → World → Prop} {Q : Exit → Act → World → Prop} {a : Act} {w : World} : Exit.jump l J Q .ret a w = Q .ret a w := rfl
theorem jump_goto {l : Nat} {J : Act → World → Prop} {Q : Exit → Act → World → Prop} {a : Act} {w : World} : Exit.jump l J Q (.goto l) a w = J a w := by simp [Exit.jump]

/-- 'string([]byte{x})': the row has just been laid. -/
theorem run_conv1 {P : Program} {src dst e : TypeId} (hs : P.underlying src = some (.slice e)) (he : P.underlying e = some (.int .u8)) (hd : P.underlying dst = some .string) (W : World) (x : Int) :
    (convert src dst (.slice (some ⟨W.heap.size, 0, none⟩) 1 1)).run P (W.alloc (.cells #[.int .u8 x] e)) = .ok (.string ⟨#[UInt8.ofNat x.toNat]⟩) (W.alloc (.cells #[.int .u8 x] e)) := by
  rw [run_convert_bytes_string _ src dst e _ 1 1 hs he hd]
  have hl := run_loadCells_list (P := P) (W.alloc (.cells #[.int .u8 x] e)) ⟨W.heap.size, 0, none⟩ ([x].map (Value.int .u8)) (fun j v hj => by
    cases j with
    | zero =>
      simp at hj
      subst hj
      simp [Addr.add]
    | succ j => simp at hj)
  rw [run_bytesToString _ ⟨W.heap.size, 0, none⟩ 1 1 [x] hl]
  simp
  rfl

theorem trodAll_later {H : Type} {enc : TypeId × Value → H} {P : Program} (hl : laidOutB P = true) {W W' : World} (hb : Below W.heap.size W W') :
    ∀ (ts : List TypeId) (vs : List Value) (ds : List (DataW H)) (ps : List MemPlace), (ts.all fun t => P.readableRec t && decide (t < P.types.size)) = true →
      DataW.TrodAll enc P W 0 (fun _ => true) true ts vs ds ps → (∀ x ∈ ps, x.block < W.heap.size) →
      DataW.TrodAll enc P W' 0 (fun b => decide (b < W.heap.size)) true ts vs ds ps
  | [], [], [], _, _, h, _ => h
  | t :: ts, v :: vs, d :: ds, ps, ht, ⟨p, q, h1, h2, e⟩, hlt => by
    subst e
    rw [List.all_cons, Bool.and_eq_true, Bool.and_eq_true, decide_eq_true_eq] at ht
    exact ⟨p, q, Below.trod hl ht.1.1 ht.1.2 h1 hb (fun x hx => hlt x (List.mem_append_left _ hx)),
      trodAll_later hl hb ts vs ds q ht.2 h2 (fun x hx => hlt x (List.mem_append_right _ hx)), rfl⟩

/-- A law: it returns true, its arguments read as they did: where nothing that lay has turned. -/
theorem law_post {H : Type} {enc : TypeId × Value → H} {P : Program} {f : Func} {s : ChangeSpec} {fresh handsOn : Bool} {W W' : World} {args : Array Value} {ds gs : List (DataW H)} {before : List MemPlace} {tb : TypeId}
    (hl : laidOutB P = true) (hr : (f.params.toList.all fun t => P.readableRec t && decide (t < P.types.size)) = true)
    (ht : f.resultTypes = #[tb]) (hu : P.underlying tb = some .bool) (hv : s.vars = [])
    (hfn : (s.fn H (ds ++ gs)).results = [.lit (.bool true)]) (hfa : (s.fn H (ds ++ gs)).args = ds) (hfv : (s.fn H (ds ++ gs)).vars = [])
    (hW : DataW.Whole enc P f.params.toList s.vars false W args.toList ds gs before) (hb : Below W.heap.size W W') :
    s.post enc P f false fresh handsOn false W args (.bool true) W' := by
  have hlt := hW.lt
  obtain ⟨p, q, hA, hV, he, hz, hn⟩ := id hW
  rw [hv] at hV
  obtain ⟨rfl, rfl⟩ := trodVars_none hV
  rw [List.append_nil] at he
  subst he
  refine ⟨ds, [], before, [], before, [], hW, ?_, ?_, ?_, ?_, fun h => by cases h⟩
  · rw [hfn, ht]
    exact trodAll_cons_mk (shut_bool hu true) trodAll_mk0
  · rw [hfa]
    exact trodAll_later hl hb _ _ _ _ hr hA hlt
  · rw [hfv, hv]
    rfl
  · exact World.keptBut_mono (fun x hx => ⟨hx, .inr (.inl hx)⟩) (hb.frame (· ∈ before))
end Go.Proofs.YtfckekaegjjmkaaGreatDoor
namespace Go.Proofs.YtfckekaegjjmkaaGreatDoor
open Go.RowKit Go.Shelf

theorem add_block (a : Addr) (n : Nat) : (a.add n).block = a.block := by
  unfold Addr.add
  split <;> rfl
theorem add_add' (a : Addr) (i j : Nat) : (a.add i).add j = a.add (i + j) := by
  unfold Addr.add
  by_cases hi : i = 0
  · subst hi
    simp
  · by_cases hj : j = 0
    · subst hj
      simp
    · rw [if_neg hi, if_neg hj, if_neg (by omega)]
      simp [Nat.add_assoc]

/-- The slice '.slice A n c' holds the cells xs, each element of so many cells, in blocks below B. -/
def Lies (W : World) (B size : Nat) (A : Option Addr) (n : Nat) (xs : List Value) : Prop :=
  xs.length = n * size ∧ (0 < n → ∃ ad, A = some ad ∧ ad.block < B ∧ ∀ j u, xs[j]? = some u → W.cell? (ad.add j) = some u)
theorem Lies.nil (W : World) (B size : Nat) (A : Option Addr) : Lies W B size A 0 [] := ⟨by simp, fun h => absurd h (by omega)⟩
theorem Lies.below {W W' : World} {B size n : Nat} {A : Option Addr} {xs : List Value} (h : Lies W B size A n xs) {m : Nat} (hb : Below m W W') (hm : B ≤ m) : Lies W' B size A n xs :=
  ⟨h.1, fun hn => by
    obtain ⟨ad, e, hlt, hc⟩ := h.2 hn
    refine ⟨ad, e, hlt, fun j u hu => ?_⟩
    rw [← hc j u hu]
    exact hb.cell (by rw [add_block]; omega)⟩
theorem Lies.more {W : World} {B B' size n : Nat} {A : Option Addr} {xs : List Value} (h : Lies W B size A n xs) (hB : B ≤ B') : Lies W B' size A n xs :=
  ⟨h.1, fun hn => by
    obtain ⟨ad, e, hlt, hc⟩ := h.2 hn
    exact ⟨ad, e, by omega, hc⟩⟩
/-- The address of element k, and its cells. -/
theorem Lies.at_ {W : World} {B size n : Nat} {A : Option Addr} {xs : List Value} (h : Lies W B size A n xs) {k : Nat} (hk : k < n) :
    ∃ ad, A = some ad ∧ ad.block < B ∧ ∀ i, i < size → W.cell? (ad.add (k * size + i)) = xs[k * size + i]? := by
  obtain ⟨ad, e, hlt, hc⟩ := h.2 (by omega)
  refine ⟨ad, e, hlt, fun i hi => ?_⟩
  have hl : k * size + i < xs.length := by
    rw [h.1]
    have : (k + 1) * size ≤ n * size := Nat.mul_le_mul_right _ hk
    rw [Nat.add_mul] at this
    omega
  rw [List.getElem?_eq_getElem hl]
  exact hc _ _ (List.getElem?_eq_getElem hl)
/-- A row that the call owns. -/
theorem Lies.own {W : World} {base size n c : Nat} {e : TypeId} {A : Option Addr} {xs : List Value} (h : W.ownsRow base e size (.slice A n c) n xs) : Lies W W.heap.size size A n xs := by
  refine ⟨h.1, fun hn => ?_⟩
  rcases h.2 with ⟨_, h0⟩ | ⟨g, cap, cur, hv, hg, hb, hnc, hcm, hz, ht⟩
  · omega
  · have hA : A = some ⟨g, 0, none⟩ := by injection hv
    subst hA
    refine ⟨_, rfl, (Array.getElem?_eq_some_iff.1 hb).1, fun j u hu => ?_⟩
    have ea : (⟨g, 0, none⟩ : Addr).add j = ⟨g, j, none⟩ := by
      unfold Addr.add
      split
      · rename_i h0
        rw [h0]
      · simp
    rw [ea]
    rw [← ht] at hu
    have hj : j < n * size := by
      have := (List.getElem?_eq_some_iff.1 hu).1
      rw [List.length_take] at this
      omega
    rw [List.getElem?_take_of_lt hj] at hu
    simp only [World.cell?, hb]
    simpa using hu
/-- Field i of what lies at element j: as the walk spells it. -/
theorem add_field (a : Addr) (j i : Nat) : a.add (j + (i + 1)) = ⟨(a.add j).block, (a.add j).off + (i + 1), none⟩ := by
  rw [← add_add']
  unfold Addr.add
  rw [if_neg (by omega : ¬ i + 1 = 0)]
end Go.Proofs.YtfckekaegjjmkaaGreatDoor
