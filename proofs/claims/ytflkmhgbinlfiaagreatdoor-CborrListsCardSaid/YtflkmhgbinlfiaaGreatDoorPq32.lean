/- The texts CrP, put together. -/
import Derived.Test.YtflkmhgbinlfiaaGreatDoorPq30
import Derived.Test.YtflkmhgbinlfiaaGreatDoorPq31
namespace Go.Proofs.YtflkmhgbinlfiaaGreatDoor
open Go.RowKit Go.Shelf

theorem grown_self (w : World) (r : Option Nat) : w.grownBy w r := ⟨rfl, rfl, rfl, Nat.le_refl _, fun _ _ _ => rfl⟩
theorem grown_setCells (g : Nat) : ∀ (vs : List Value) (o : Nat) (w : World), w.grownBy (w.setCells g o vs) (some g)
  | [], _, w => grown_self w _
  | v :: r, o, w => grown_trans (grown_set w g o v) (grown_setCells g r (o + 1) _)
/-- Between two steps of the append. -/
def ModL (n s0 : Nat) (v : Value) (A B : World) : Prop := Below n A B ∧ (∀ q, q < s0 → q ≠ n + 2 → v.ownBlock ≠ some q → B.heap[q]? = A.heap[q]?) ∧ KeepsFrom (n + 7) A B
theorem ModL.refl (n s0 : Nat) (v : Value) (A : World) : ModL n s0 v A A := ⟨Below.refl _ _, fun _ _ _ _ => rfl, KeepsFrom.refl _ _⟩
theorem ModL.trans {n s0 : Nat} {v : Value} {A B C : World} (h : ModL n s0 v A B) (k : ModL n s0 v B C) : ModL n s0 v A C :=
  ⟨h.1.trans k.1, fun q h1 h2 h3 => (k.2.1 q h1 h2 h3).trans (h.2.1 q h1 h2 h3), h.2.2.trans k.2.2⟩
theorem ModL.of {n s0 : Nat} {v : Value} {A B : World} {r : Option Nat} (hg : A.grownBy B r) (hs : s0 ≤ A.heap.size) (hn : n ≤ A.heap.size) (hr : ∀ g, r = some g → n ≤ g ∧ (g = n + 2 ∨ v.ownBlock = some g ∨ s0 ≤ g) ∧ (g < n + 7 ∨ ∀ o, A.heap[g]? = some o → o.isCells = true)) : ModL n s0 v A B := by
  refine ⟨(Below.refl _ A).grown hg hn (fun g e => (hr g e).1), fun q h1 h2 h3 => hg.block q (by omega) (fun e => ?_), ⟨hg.size, fun k o hk ho hc => ?_⟩⟩
  · rcases (hr q e.symm).2.1 with h | h | h
    · exact h2 h
    · exact h3 h
    · omega
  · refine (hg.block k (Array.getElem?_eq_some_iff.1 ho).1 (fun e => ?_)).trans ho
    rcases (hr k e.symm).2.2 with h | h
    · omega
    · rw [h o ho] at hc
      cases hc
/-- The joint fact. -/
def ChiL (n s0 gn : Nat) (v : Value) (O : Value → Array Value) (xs nx zl : List Value) (sel : Nat → Bool) (env : Nat → Value) (A : World) : Prop :=
  ((sel 9 = true → sel 1 = true) ∧ (sel 9 = true → sel 5 = true) ∧ (sel 7 = true → sel 5 = true)) ∧
  Blk A (n + 2) (O (if sel 9 = true then env 5 else v)) 28 ∧
  (sel 5 = false → A.ownsRow (n + 7) 28 9 v gn xs) ∧
  (sel 5 = true → A.ownsRow (n + 7) 28 9 (env 5) (gn + 1) (xs ++ (if sel 7 = true then nx else zl))) ∧
  (sel 4 = true → sel 5 = false → ∃ zb, env 4 = .slice (some ⟨zb, 0, none⟩) 1 1 ∧ s0 ≤ zb ∧ Blk A zb zl.toArray 28)
theorem chiL_pure {n s0 gn : Nat} {v : Value} {O : Value → Array Value} {xs nx zl : List Value} {sel : Nat → Bool} {env : Nat → Value} {A : World} (h : ChiL n s0 gn v O xs nx zl sel env A) (i : Nat) (u : Value) (h4 : i ≠ 4) (h5 : i ≠ 5) (h7 : i ≠ 7) (h9 : i ≠ 9) : ChiL n s0 gn v O xs nx zl (updB sel i) (updV env i u) A := by
  obtain ⟨⟨a1, a2, a3⟩, b, c, e, f⟩ := h
  unfold ChiL
  rw [updB_ne sel (Ne.symm h9), updB_ne sel (Ne.symm h5), updB_ne sel (Ne.symm h7), updB_ne sel (Ne.symm h4), updV_ne env u (Ne.symm h5), updV_ne env u (Ne.symm h4)]
  refine ⟨⟨fun q => ?_, a2, a3⟩, b, c, e, f⟩
  unfold updB
  rw [a1 q, Bool.or_true]
theorem lands_append {P : Program} {o : Oper} {ρ : Operand → Value} {w : World} {R : Value → World → Prop} (s x : Operand) (t : TypeId) (hop : o.op = .call { callee := .builtin .append, args := #[s, x], argTypes := #[t, t] }) (v vx r : Value) (w' : World)
    (hs : ρ s = v) (hx : ρ x = vx) (hrun : (Builtin.append_ #[t, t] o.type #[v, vx]).run P w = .ok r w') (hR : R r w') : opLands P o ρ w R := by
  refine lands_val r ?_ hR
  unfold execOp
  simp only [hop, resolve, invoke, builtin, Sem.run_bind, Sem.run_pure, Result.andThen_ok, List.map_toArray, List.map_cons, List.map_nil, hs, hx, hrun]
end Go.Proofs.YtflkmhgbinlfiaaGreatDoor
