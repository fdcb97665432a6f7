/- The texts Range, UtfJ, BuildF, UtfK, UtfL, Dig, RefB, put together. -/
import Derived.Test.YtfckekaegjjmkaaGreatDoorPd01
import Derived.Test.YtfckekaegjjmkaaGreatDoorPd08
import Derived.Test.YtfckekaegjjmkaaGreatDoorPd07
import Derived.Test.YtfckekaegjjmkaaGreatDoorPd05
import Derived.Outline
import Derived.Lib.SmallJoins
import Derived.Lib.Strings
import Derived.Lib.AtoiAll
import Derived.Lib.ItoaNum
namespace Go.Proofs.YtfckekaegjjmkaaGreatDoor
open Go.RowKit Go.Shelf

/-- The contract of an iterator that may write between two rounds. -/
def SeqW {α : Type} (P : Program) (g : Nat) (lb : Array Value) (encs : α → Array Value) (Mv Kp : World → World → Prop) (Ct : α → Prop) (T : List α → World → Prop) (S Sp : List α → World → Prop) (A0 : World → Prop) : Prop :=
  ∀ (l : Nat) (J Jx : List α → World → Prop) (W : World), A0 W → (∀ s A B, J s A → Mv A B → J s B) → (∀ s A B, Jx s A → Mv A B → Jx s B) →
    (∀ pre x W1, J pre W1 → T (pre ++ [x]) W1 → YieldAt Fence.wide 7 P l (encs x) W1 fun e W' =>
      (e = .returned (.bool true) ∧ Ct x ∧ J (pre ++ [x]) W' ∧ Kp W1 W') ∨ (e = .returned (.bool false) ∧ Jx (pre ++ [x]) W')) →
    J [] W →
    CallsIn Fence.wide 8 P g (#[.func (.yield l) #[] #[]] ++ lb) W fun e W' => (∃ v, e = .returned v) ∧ ((∃ xs, S xs W' ∧ J xs W') ∨ (∃ pre, Sp pre W' ∧ Jx pre W'))


/-- The statement, outside every fence. -/
theorem wp_rangeFuncW {P : Program} {α : Type} {g : Operand} {ps : Array Tmp} {assign body : Code} {Q : Exit → Act → World → Prop} {a : Act} {w : World}
    {gf : Nat} {lb : Array Value} (hg : a.eval g = .func (.func gf) #[] lb) (eg : ∀ args w, (callFunc gf args).run P w = .ok (.enter gf args) w)
    {encs : α → Array Value} {Mv Kp : World → World → Prop} {Ct : α → Prop} {T S Sp : List α → World → Prop} {A0 : World → Prop} (hseq : SeqW P gf lb encs Mv Kp Ct T S Sp A0)
    (hMv : ∀ (A B : World) (k : Nat) (o : Obj), Mv A B → w.heap.size ≤ k → A.heap[k]? = some o → o.isCells = false → B.heap[k]? = some o)
    (hA0 : ∀ o o', A0 ((w.alloc o).alloc o'))
    (hKt : ∀ {A B C : World}, Kp A B → Kp B C → Kp A C) (hKb : ∀ (W : World) (l : Nat) (o o' : Obj), w.heap.size ≤ l → W.heap[l]? = some o → o.isCells = false → Kp W (W.putObj l o')) (hps : ∀ x, (encs x).size = ps.size)
    (I : List α → World → Prop) (Ix : Code → List α → World → Prop) (hI : OwnFrom w.heap.size I) (hIx : ∀ c, OwnFrom w.heap.size (Ix c))
    (hIM : ∀ s A B, I s A → Mv A B → I s B) (hIxM : ∀ c s A B, Ix c s A → Mv A B → Ix c s B) (h0 : I [] w) (hCt : ∀ pre x W, I (pre ++ [x]) W → Ct x)
    (Ax : Array Value → List α → α → Act → World → Prop) (hAx : ∀ pre x a', OwnFrom w.heap.size (fun (_ : Unit) W => Ax a.tmps pre x a' W))
    (hassign : ∀ (l : Nat) (pre : List α) (x : α) (W : World) (K : Act → World → Prop), I pre W → T (pre ++ [x]) W → (∀ a' W', KeepsFrom w.heap.size W W' → Kp W W' → I pre W' → Ax a.tmps pre x a' W' → K a' W') →
      assign.wpIn (Fence.wide.inRound l) 7 P (Exit.then K (fun _ _ _ => False)) { tmps := (ps.zip (encs x)).foldl (fun t (p, v) => t.setIfInBounds p v) a.tmps, defers := [] } W)
    (hbody : ∀ (l : Nat) (pre : List α) (x : α) (a' : Act) (W : World), w.heap.size ≤ l → (∃ r, W.heap[l]? = some (.loop r)) → I pre W → Ax a.tmps pre x a' W → body.wpIn (Fence.wide.inRound l) 7 P (ownPostG w.heap.size Kp I Ix (pre ++ [x]) W) a' W)
    (hS : OwnFrom w.heap.size S) (hSp : OwnFrom w.heap.size Sp)
    (hdone : ∀ (D : Nat) (xs : List α) (W : World), w.heap.size ≤ D → S xs W → I xs W → W.heap[D]? = some (.deferred (some [])) → Q .normal { a with defers := { target := .collected D, args := #[] } :: a.defers } W)
    (hstop : ∀ (D : Nat) (c : Code) (pre : List α) (W : World), w.heap.size ≤ D → Sp pre W → Ix c pre W → W.heap[D]? = some (.deferred (some [])) → c.wp P Q { a with defers := { target := .collected D, args := #[] } :: a.defers } W) :
    (Code.rangeFunc g ps assign body).wp P Q a w := by
  refine (wpIn_wide (n := 9)).1 ?_
  refine wpIn_rangeFunc ?_
  intro fn hfn
  rw [show Fence.wide.round = none from rfl]
  obtain ⟨rec, hrec⟩ : ∃ rec : LoopState → Option Code → Loop, rec = fun st pe => { state := st, pending := pe, fn, tmps := a.tmps, params := ps, assign, body, defers := w.heap.size } := ⟨_, rfl⟩
  obtain ⟨W1, hW1⟩ : ∃ W1, (w.alloc (.deferred (some []))).alloc (.loop (rec .ready none)) = W1 := ⟨_, rfl⟩
  have hL1 : W1.heap[w.heap.size + 1]? = some (.loop (rec .ready none)) := by
    have h := World.alloc_heap_new (w.alloc (.deferred (some []))) (.loop (rec .ready none))
    rw [World.size_alloc] at h
    rw [← hW1]
    exact h
  have hK1 : W1.heap[w.heap.size]? = some (.deferred (some [])) := by
    rw [← hW1]
    exact (Below.heap_alloc _ _ _ (by simp)).trans (World.alloc_heap_new w _)
  have hI1 : I [] W1 := by rw [← hW1]; exact hI.alloc _ (hI.alloc _ h0)
  have hA1 : A0 W1 := by rw [← hW1]; exact hA0 _ _
  refine ⟨w.heap.size + 1, [{ target := .collected w.heap.size, args := #[] }], W1, { target := .fn (.func gf) lb, args := #[.func (.yield (w.heap.size + 1)) #[] #[]] }, W1, gf,
    #[.func (.yield (w.heap.size + 1)) #[] #[]] ++ lb, W1, ?_, ?_, ?_, ?_, fun _ => by omega, ?_⟩
  · rw [← hW1, hrec]
    exact run_enterLoop_outer _ _ _ _ _
  · simp only [resolve, hg]
    simp [go_sem]
  · intro f' _
    exact trivial
  · simp [invoke, go_sem, eg]
  · refine (hseq (w.heap.size + 1)
      (fun pre W => I pre W ∧ W.heap[w.heap.size + 1]? = some (.loop (rec .ready none)) ∧ W.heap[w.heap.size]? = some (.deferred (some [])))
      (fun pre W => ∃ c, Ix c pre W ∧ W.heap[w.heap.size + 1]? = some (.loop (rec .done (some c))) ∧ W.heap[w.heap.size]? = some (.deferred (some [])))
      W1 hA1
      (fun s A B hs hm => ⟨hIM s A B hs.1 hm, hMv A B _ _ hm (by omega) hs.2.1 rfl, hMv A B _ _ hm (by omega) hs.2.2 rfl⟩)
      (fun s A B hs hm => by
        obtain ⟨c, hc, hl, hk⟩ := hs
        exact ⟨c, hIxM c s A B hc hm, hMv A B _ _ hm (by omega) hl rfl, hMv A B _ _ hm (by omega) hk rfl⟩)
      ?_ ⟨hI1, hL1, hK1⟩).mono ?_
    · rintro pre x W ⟨hi, hl, hk⟩ hT
      have hy := run_yield (P := P) (args := encs x) hl (by rw [hrec]; exact hps x)
      rw [hrec] at hy
      refine ⟨fn, _, assign, body, hy, roundIn_of_wpIn hfn (hassign _ pre x W _ hi hT ?_)⟩
      intro a' Wa hkfa hkpa hia hax
      have hla := hkfa.same _ _ (by omega) hl rfl
      have hka := hkfa.same _ _ (Nat.le_refl _) hk rfl
      have hlt : w.heap.size + 1 < Wa.heap.size := (Array.getElem?_eq_some_iff.1 hla).1
      refine ⟨_, run_beginRound hla (by rw [hrec]), ?_⟩
      have hl2 : (Wa.putObj (w.heap.size + 1) (.loop { rec .ready none with state := .busy })).heap[w.heap.size + 1]? = some (.loop { rec .ready none with state := .busy }) := World.putObj_heap_same hlt
      have hk2 : (Wa.putObj (w.heap.size + 1) (.loop { rec .ready none with state := .busy })).heap[w.heap.size]? = some (.deferred (some [])) := (World.putObj_heap_other (by omega)).trans hka
      have hw2 : Kp Wa (Wa.putObj (w.heap.size + 1) (.loop { rec .ready none with state := .busy })) := hKb _ _ _ _ (by omega) hla rfl
      refine wpIn_mono (hbody _ pre x a' _ (by omega) ⟨_, hl2⟩ (hI.putObj _ hia (by omega) hla rfl) ((hAx pre x a').putObj (s := ()) _ hax (by omega) hla rfl)) ?_
      have fin : ∀ (jump : Option Code) (W3 : World), KeepsFrom w.heap.size (Wa.putObj (w.heap.size + 1) (.loop { rec .ready none with state := .busy })) W3 →
          (Instr.endRound (w.heap.size + 1) jump).run P W3 = .ok (.bool jump.isNone) (W3.putObj (w.heap.size + 1) (.loop (rec (if jump.isNone then .ready else .done) jump))) ∧
          W3.heap[w.heap.size + 1]? = some (.loop { rec .ready none with state := .busy }) ∧
          (W3.putObj (w.heap.size + 1) (.loop (rec (if jump.isNone then .ready else .done) jump))).heap[w.heap.size + 1]? = some (.loop (rec (if jump.isNone then .ready else .done) jump)) ∧
          (W3.putObj (w.heap.size + 1) (.loop (rec (if jump.isNone then .ready else .done) jump))).heap[w.heap.size]? = some (.deferred (some [])) := fun jump W3 hk3 => by
        have hl3 := hk3.same _ _ (by omega) hl2 rfl
        have hr := run_endRound (P := P) jump hl3
        rw [hrec] at hr ⊢
        exact ⟨hr, by rw [hrec] at hl3; exact hl3, World.putObj_heap_same (Array.getElem?_eq_some_iff.1 hl3).1, (World.putObj_heap_other (by omega)).trans (hk3.same _ _ (Nat.le_refl _) hk2 rfl)⟩
      rintro e a3 W3 hp
      cases e with
      | normal =>
        obtain ⟨hk3, hkp3, hi3⟩ := hp
        obtain ⟨hr, hl3, hl4, hk4⟩ := fin none W3 hk3
        exact ⟨_, _, hr, .inl ⟨rfl, hCt _ _ _ hi3, ⟨hI.putObj _ hi3 (by omega) hl3 rfl, hl4, hk4⟩, hKt hkpa (hKt (hKt hw2 hkp3) (hKb _ _ _ _ (by omega) hl3 rfl))⟩⟩
      | ret =>
        obtain ⟨hk3, hi3⟩ := hp
        obtain ⟨hr, hl3, hl4, hk4⟩ := fin (some .ret) W3 hk3
        exact ⟨_, _, hr, .inr ⟨rfl, .ret, (hIx _).putObj _ hi3 (by omega) hl3 rfl, hl4, hk4⟩⟩
      | exit id =>
        obtain ⟨hk3, hi3⟩ := hp
        obtain ⟨hr, hl3, hl4, hk4⟩ := fin (some (.exit id)) W3 hk3
        exact ⟨_, _, hr, .inr ⟨rfl, .exit id, (hIx _).putObj _ hi3 (by omega) hl3 rfl, hl4, hk4⟩⟩
      | goto t =>
        obtain ⟨hk3, hi3⟩ := hp
        obtain ⟨hr, hl3, hl4, hk4⟩ := fin (some (.goto t)) W3 hk3
        exact ⟨_, _, hr, .inr ⟨rfl, .goto t, (hIx _).putObj _ hi3 (by omega) hl3 rfl, hl4, hk4⟩⟩
      | panic ch => exact hp.elim
      | outgrown => exact hp.elim
    · rintro e W2 ⟨⟨v, rfl⟩, (⟨xs, hs, hi, hl, hk⟩ | ⟨pre, hs, c, hi, hl, hk⟩)⟩
      · exact ⟨none, _, by have h := run_endLoop (P := P) hl (by rw [hrec]; simp); rw [hrec] at h; exact h, hdone _ xs _ (Nat.le_refl _) (hS.putObj _ hs (by omega) hl rfl) (hI.putObj _ hi (by omega) hl rfl) ((World.putObj_heap_other (by omega)).trans hk)⟩
      · exact ⟨some c, _, by have h := run_endLoop (P := P) hl (by rw [hrec]; simp); rw [hrec] at h; exact h, wpIn_wide.2 (hstop _ c pre _ (Nat.le_refl _) (hSp.putObj _ hs (by omega) hl rfl) ((hIx c).putObj _ hi (by omega) hl rfl) ((World.putObj_heap_other (by omega)).trans hk))⟩
end Go.Proofs.YtfckekaegjjmkaaGreatDoor
namespace Go.Proofs.YtfckekaegjjmkaaGreatDoor
open Go.RowKit Go.Shelf
attribute [local go_sem] Oper.semAt_some wide_fn wide_depth

abbrev Part := Except Bool Nat
def Steps : List UInt8 → List Part → List UInt8 → Prop
  | l, [], l' => l = l'
  | l, .ok x :: xs, l' => ∃ r, nextL l = .ok (some x, r) ∧ Steps r xs l'
  | _, .error _ :: _, _ => False
theorem Steps.snoc : ∀ {xs : List Part} {l l' r : List UInt8} {x : Nat}, Steps l xs l' → nextL l' = .ok (some x, r) → Steps l (xs ++ [.ok x]) r
  | [], l, l', r, x, h, hn => by
    cases h
    exact ⟨r, hn, rfl⟩
  | .ok y :: xs, l, l', r, x, ⟨m, hm, h⟩, hn => ⟨m, hm, h.snoc hn⟩
  | .error b :: xs, l, l', r, x, h, hn => h.elim

theorem Steps.len : ∀ {xs : List Part} {l0 l : List UInt8}, Steps l0 xs l → xs.length + l.length ≤ l0.length
  | [], l0, l, h => by
    cases h
    simp
  | .ok x :: xs, l0, l, ⟨m, hm, h⟩ => by
    have hs := nextL_shorter hm
    have := h.len
    simp
    omega
  | .error _ :: _, _, _, h => h.elim
theorem Steps.chars : ∀ {xs : List Part} {l0 l : List UInt8}, Steps l0 xs l → ∀ v, .ok v ∈ xs → charOk v
  | [], _, _, _ => by simp
  | .ok x :: xs, l0, l, ⟨m, hm, h⟩ => by
    intro v hv
    rcases List.mem_cons.1 hv with h1 | h1
    · cases h1
      exact nextL_char hm
    · exact h.chars v h1
  | .error _ :: _, _, _, h => h.elim


end Go.Proofs.YtfckekaegjjmkaaGreatDoor
namespace Go.Proofs.YtfckekaegjjmkaaGreatDoor
open Go.RowKit Go.Shelf

/-- A builder abides what turns another block. -/
theorem isB_grown {B b : Nat} {bs : List Value} {W W' : World} (h : IsB B b bs W) {row : Option Nat} (hg : W.grownBy W' row) (hr : ∀ r, row = some r → r < B ∨ ∃ o : Obj, W.heap[r]? = some o ∧ o.isCells = false) : IsB B b bs W' := by
  have key : ∀ p, Lib.BuilderAtF 81 5 B b p bs W → Lib.BuilderAtF 81 5 B b p bs W' := by
    rintro p ⟨hB, v, hb, hown, hne⟩
    refine ⟨hB, v, (hg.block b (Array.getElem?_eq_some_iff.1 hb).1 ?_).trans hb, hown.kept hg ?_, hne⟩
    · intro e
      rcases hr b e.symm with h1 | ⟨o, ho, hc⟩
      · omega
      · rw [hb] at ho
        cases ho
        cases hc
    · by_cases hv : v.ownBlock = none
      · exact .inl hv
      · right
        intro e
        obtain ⟨g, hvg⟩ : ∃ g, v.ownBlock = some g := by
          cases hq : v.ownBlock with
          | none => exact absurd hq hv
          | some g => exact ⟨g, rfl⟩
        rcases hr g (by rw [← e, hvg]) with h1 | ⟨o, ho, hc⟩
        · have := (hown.lt g hvg).1
          omega
        · rcases hown.2 with ⟨rfl, _⟩ | ⟨g', cap, cur, fz, rfl, _, hgc, _⟩
          · simp [Value.ownBlock] at hvg
          · simp [Value.ownBlock] at hvg
            subst hvg
            rw [hgc] at ho
            cases ho
            cases hc
  rcases h with h | h
  · exact .inl (key _ h)
  · exact .inr (key _ h)
/-- A block that is neither the builder nor a row of bytes. -/
theorem others_blk {b : Nat} {W W' : World} (h : Lib.OthersKept 5 (some b) W W') {k : Nat} {cs : Array Value} {t : TypeId} (hk : Blk W k cs t) (hkb : k ≠ b) (ht : t ≠ 5) : Blk W' k cs t :=
  h k _ hk (fun e => hkb (by cases e; rfl)) (fun c fz e => by cases e; exact ht rfl)
end Go.Proofs.YtfckekaegjjmkaaGreatDoor
namespace Go.Proofs.YtfckekaegjjmkaaGreatDoor
open Go.RowKit Go.Shelf


theorem Steps.ok : ∀ {xs : List Part} {l0 l : List UInt8}, Steps l0 xs l → ∀ b, .error b ∉ xs
  | [], _, _, _ => by simp
  | .ok x :: xs, l0, l, ⟨m, hm, h⟩ => by
    intro b hb
    rcases List.mem_cons.1 hb with h1 | h1
    · cases h1
    · exact h.ok b h1
  | .error _ :: _, _, _, h => h.elim
theorem encodeRune_len (x : Int) : (Lib.encodeRune x).length ≤ 4 := by
  have := Lib.encodeRuneZ_length x
  simpa [Lib.encodeRune] using this.2

end Go.Proofs.YtfckekaegjjmkaaGreatDoor
namespace Go.Proofs.YtfckekaegjjmkaaGreatDoor
open Go.RowKit Go.Shelf
attribute [local go_sem] Oper.semAt_some wide_fn wide_depth




end Go.Proofs.YtfckekaegjjmkaaGreatDoor
namespace Go.Proofs.YtfckekaegjjmkaaGreatDoor
open Go.RowKit Go.Shelf

def isDig (b : UInt8) : Bool := decide (48 ≤ b.toNat) && decide (b.toNat ≤ 57)
def digN (l : List UInt8) : Nat := (l.takeWhile isDig).length
theorem digN_cons_no {b : UInt8} {l : List UInt8} (h : isDig b = false) : digN (b :: l) = 0 := by
  unfold digN
  rw [List.takeWhile_cons_of_neg (by rw [h]; decide)]
  rfl
def dval : Nat → List UInt8 → Nat
  | acc, [] => acc
  | acc, c :: r => dval (acc * 10 + (c.toNat - 48)) r
theorem dval_ge : ∀ (l : List UInt8) (acc : Nat), acc ≤ dval acc l
  | [], acc => Nat.le_refl _
  | c :: r, acc => by
    have := dval_ge r (acc * 10 + (c.toNat - 48))
    show acc ≤ dval (acc * 10 + (c.toNat - 48)) r
    omega
theorem parse_digits : ∀ (l : List UInt8) (acc : Nat), acc < 18446744073709551616 → (∀ c ∈ l, isDig c = true) → Lib.parseUint10 acc l = if dval acc l < 18446744073709551616 then .ok (dval acc l) else .range
  | [], acc, ha, _ => by
    show Lib.NumEnd.ok acc = _
    rw [if_pos (show dval acc [] < _ from ha)]
    rfl
  | c :: r, acc, ha, h => by
    have hc := h c List.mem_cons_self
    unfold isDig at hc
    rw [Bool.and_eq_true, decide_eq_true_iff, decide_eq_true_iff] at hc
    have hge := dval_ge r (acc * 10 + (c.toNat - 48))
    have hd : dval acc (c :: r) = dval (acc * 10 + (c.toNat - 48)) r := rfl
    rw [hd]
    unfold Lib.parseUint10
    rw [if_pos hc]
    by_cases h1 : 1844674407370955162 ≤ acc
    · rw [if_pos h1, if_neg (by omega)]
    · rw [if_neg h1]
      by_cases h2 : 18446744073709551616 ≤ acc * 10 + (c.toNat - 48)
      · rw [if_pos h2, if_neg (by omega)]
      · rw [if_neg h2]
        exact parse_digits r _ (by omega) (fun x hx => h x (List.mem_cons_of_mem _ hx))
theorem dval_append : ∀ (l : List UInt8) (acc : Nat) (c : UInt8), dval acc (l ++ [c]) = dval acc l * 10 + (c.toNat - 48)
  | [], _, _ => rfl
  | b :: l, acc, c => dval_append l (acc * 10 + (b.toNat - 48)) c
theorem digit_byte (d : Nat) (h : d < 10) : (UInt8.ofNat (48 + d)).toNat = 48 + d := by
  rw [UInt8.toNat_ofNat']
  omega
theorem dec_facts (u : Nat) : dval 0 (Lib.decDigits u) = u ∧ (∀ c ∈ Lib.decDigits u, isDig c = true) ∧ Lib.decDigits u ≠ [] := by
  induction u using Nat.strongRecOn with
  | _ u ih =>
    by_cases h : u < 10
    · rw [Lib.decDigits_one h]
      refine ⟨?_, ?_, by simp⟩
      · show 0 * 10 + ((UInt8.ofNat (48 + u)).toNat - 48) = u
        rw [digit_byte u h]
        omega
      · intro c hc
        rw [List.mem_singleton.1 hc]
        unfold isDig
        rw [digit_byte u h, Bool.and_eq_true, decide_eq_true_iff, decide_eq_true_iff]
        omega
    · obtain ⟨h1, h2, h3⟩ := ih (u / 10) (by omega)
      rw [Lib.decDigits, dif_neg h]
      refine ⟨?_, ?_, by simp⟩
      · rw [dval_append, h1, digit_byte _ (by omega)]
        omega
      · intro c hc
        rcases List.mem_append.1 hc with q | q
        · exact h2 c q
        · rw [List.mem_singleton.1 q]
          unfold isDig
          rw [digit_byte _ (by omega), Bool.and_eq_true, decide_eq_true_iff, decide_eq_true_iff]
          omega
theorem head_append {l t : List UInt8} (h : l ≠ []) : (l ++ t).head? = l.head? := by
  cases l with
  | nil => exact absurd rfl h
  | cons c l => rfl
theorem dec_head0 : ∀ (n u : Nat), u ≤ n → 0 < u → (Lib.decDigits u).head? ≠ some 48
  | 0, u, h0, h1 => by omega
  | n + 1, u, h0, h1 => by
    by_cases h : u < 10
    · rw [Lib.decDigits_one h, List.head?_cons]
      intro e
      have := congrArg UInt8.toNat (Option.some.inj e)
      rw [digit_byte u h] at this
      have h48 : (48 : UInt8).toNat = 48 := rfl
      omega
    · rw [Lib.decDigits, dif_neg h, head_append (dec_facts (u / 10)).2.2]
      exact dec_head0 n (u / 10) (by omega) (by omega)
end Go.Proofs.YtfckekaegjjmkaaGreatDoor
namespace Go.Proofs.YtfckekaegjjmkaaGreatDoor

/-- The order of two rows of bytes of one length: by the first place where they differ. -/
def cmpL : List UInt8 → List UInt8 → Int
  | x :: a, y :: b => if x.toNat < y.toNat then -1 else if y.toNat < x.toNat then 1 else cmpL a b
  | _, _ => 0
/-- targumref01.compare. -/
def cmpN (a b : List UInt8) : Int := if a.length < b.length then -1 else if b.length < a.length then 1 else cmpL a b

theorem isDig_iff {c : UInt8} (h : isDig c = true) : 48 ≤ c.toNat ∧ c.toNat ≤ 57 := by
  simpa [isDig] using h
theorem dval_lt : ∀ (l : List UInt8) (acc : Nat), (∀ c ∈ l, isDig c = true) → dval acc l < (acc + 1) * 10 ^ l.length
  | [], acc, _ => by
    rw [List.length_nil, Nat.pow_zero, Nat.mul_one]
    exact Nat.lt_succ_self acc
  | c :: l, acc, h => by
    have hc := isDig_iff (h c List.mem_cons_self)
    have := dval_lt l (acc * 10 + (c.toNat - 48)) (fun x hx => h x (List.mem_cons_of_mem _ hx))
    show dval (acc * 10 + (c.toNat - 48)) l < _
    rw [List.length_cons, Nat.pow_succ, Nat.mul_comm (10 ^ _) 10, ← Nat.mul_assoc]
    exact Nat.lt_of_lt_of_le this (Nat.mul_le_mul_right _ (by omega))
theorem dval_le : ∀ (l : List UInt8) (acc : Nat), acc * 10 ^ l.length ≤ dval acc l
  | [], acc => by
    rw [List.length_nil, Nat.pow_zero, Nat.mul_one]
    exact Nat.le_refl acc
  | c :: l, acc => by
    have := dval_le l (acc * 10 + (c.toNat - 48))
    show _ ≤ dval (acc * 10 + (c.toNat - 48)) l
    rw [List.length_cons, Nat.pow_succ, Nat.mul_comm (10 ^ _) 10, ← Nat.mul_assoc]
    exact Nat.le_trans (Nat.mul_le_mul_right _ (by omega)) this
theorem cmpL_gt : ∀ (a b : List UInt8) (acc : Nat), a.length = b.length → (∀ c ∈ a, isDig c = true) → (∀ c ∈ b, isDig c = true) → (0 < cmpL a b ↔ dval acc b < dval acc a)
  | [], [], acc, _, _, _ => by simp [cmpL]
  | x :: a, y :: b, acc, hl, ha, hb => by
    have hx := isDig_iff (ha x List.mem_cons_self)
    have hy := isDig_iff (hb y List.mem_cons_self)
    have ha' : ∀ c ∈ a, isDig c = true := fun c hc => ha c (List.mem_cons_of_mem _ hc)
    have hb' : ∀ c ∈ b, isDig c = true := fun c hc => hb c (List.mem_cons_of_mem _ hc)
    have hl' : a.length = b.length := by simpa using hl
    show 0 < (if x.toNat < y.toNat then (-1 : Int) else if y.toNat < x.toNat then 1 else cmpL a b) ↔ dval (acc * 10 + (y.toNat - 48)) b < dval (acc * 10 + (x.toNat - 48)) a
    by_cases h1 : x.toNat < y.toNat
    · rw [if_pos h1]
      have h2 := dval_lt a (acc * 10 + (x.toNat - 48)) ha'
      have h3 := dval_le b (acc * 10 + (y.toNat - 48))
      have h4 : (acc * 10 + (x.toNat - 48) + 1) * 10 ^ a.length ≤ (acc * 10 + (y.toNat - 48)) * 10 ^ b.length := by
        rw [hl']
        exact Nat.mul_le_mul_right _ (by omega)
      constructor
      · intro h; omega
      · intro h; omega
    rw [if_neg h1]
    by_cases h2 : y.toNat < x.toNat
    · rw [if_pos h2]
      have h3 := dval_lt b (acc * 10 + (y.toNat - 48)) hb'
      have h4 := dval_le a (acc * 10 + (x.toNat - 48))
      have h5 : (acc * 10 + (y.toNat - 48) + 1) * 10 ^ b.length ≤ (acc * 10 + (x.toNat - 48)) * 10 ^ a.length := by
        rw [hl']
        exact Nat.mul_le_mul_right _ (by omega)
      constructor
      · intro _; omega
      · intro _; omega
    rw [if_neg h2, show x.toNat = y.toNat by omega]
    exact cmpL_gt a b _ hl' ha' hb'

/-- 2 to the 64, less 1, in digits. -/
def maxDigits : List UInt8 := [49, 56, 52, 52, 54, 55, 52, 52, 48, 55, 51, 55, 48, 57, 53, 53, 49, 54, 49, 53]
theorem maxDigits_val : dval 0 maxDigits = 18446744073709551615 := by decide +kernel
theorem maxDigits_dig : ∀ c ∈ maxDigits, isDig c = true := by decide +kernel

/-- A natural in digits, without a 0 ahead, is greater than 2 to the 64, less 1, just if 'compare' tells so. -/
theorem cmpN_max (a : List UInt8) (ha : ∀ c ∈ a, isDig c = true) (hz : a.length ≤ 1 ∨ a.head? ≠ some 48) : 0 < cmpN a maxDigits ↔ 18446744073709551615 < dval 0 a := by
  unfold cmpN
  have hm : maxDigits.length = 20 := rfl
  have hlt := dval_lt a 0 ha
  by_cases h1 : a.length < 20
  · rw [hm, if_pos h1]
    have : 10 ^ a.length ≤ 10 ^ 19 := Nat.pow_le_pow_right (by omega) (by omega)
    constructor
    · intro h; omega
    · intro h; omega
  rw [hm, if_neg h1]
  by_cases h2 : 20 < a.length
  · rw [if_pos h2]
    refine ⟨fun _ => ?_, fun _ => by omega⟩
    cases a with
    | nil => simp at h2
    | cons c l =>
      have hc := isDig_iff (ha c List.mem_cons_self)
      have hne : c.toNat ≠ 48 := by
        intro e
        rcases hz with hz | hz
        · omega
        · exact hz (by rw [List.head?_cons, show c = 48 from UInt8.toNat_inj.1 e])
      have h3 := dval_le l (0 * 10 + (c.toNat - 48))
      have h4 : 10 ^ 20 ≤ 10 ^ l.length := Nat.pow_le_pow_right (by omega) (by simp at h2; omega)
      have h5 : 1 * 10 ^ l.length ≤ (0 * 10 + (c.toNat - 48)) * 10 ^ l.length := Nat.mul_le_mul_right _ (by omega)
      show _ < dval (0 * 10 + (c.toNat - 48)) l
      omega
  · rw [if_neg h2, ← maxDigits_val]
    exact cmpL_gt a maxDigits 0 (by omega) ha maxDigits_dig
end Go.Proofs.YtfckekaegjjmkaaGreatDoor
