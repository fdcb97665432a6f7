/- The texts RangeK, put together. -/
import Derived.Test.YtfckekaegjjmkaaGreatDoorPi01
namespace Go.Proofs.YtfckekaegjjmkaaGreatDoor
open Go.RowKit Go.Shelf

/-- What a round keeps: the blocks of K, and all maps. -/
def KpB (K : Nat → Prop) (A B : World) : Prop := (∀ q, K q → B.heap[q]? = A.heap[q]?) ∧ KeepsWalks A B
theorem KpB.trans {K : Nat → Prop} {A B C : World} (h : KpB K A B) (k : KpB K B C) : KpB K A C := ⟨fun q hq => (k.1 q hq).trans (h.1 q hq), h.2.trans k.2⟩
theorem KpB.refl (K : Nat → Prop) (A : World) : KpB K A A := ⟨fun _ _ => rfl, KeepsWalks.refl _⟩
theorem KpB.below {K : Nat → Prop} {A B : World} (h : Below A.heap.size A B) (hK : ∀ q, K q → q < A.heap.size) : KpB K A B := ⟨fun q hq => h.block q (hK q hq), h.size, fun k _ hk _ => (h.block k (Array.getElem?_eq_some_iff.1 hk).1).trans hk⟩
theorem KpB.putObj {K : Nat → Prop} {W : World} {l n : Nat} {o : Obj} (o' : Obj) (hK : ∀ q, K q → q < n) (hl : n ≤ l) (h : W.heap[l]? = some o) (hw : o.isWalk = false) : KpB K W (W.putObj l o') :=
  ⟨fun q hq => World.putObj_heap_other (by have := hK q hq; omega), KeepsWalks.putObj o' h hw⟩
theorem keeps_below {n : Nat} {A B : World} (h : Below A.heap.size A B) : KeepsFrom n A B := ⟨h.size, fun k _ _ hk _ => (h.block k (Array.getElem?_eq_some_iff.1 hk).1).trans hk⟩
theorem isWalk_cells {o : Obj} (h : o.isCells = true) : o.isWalk = false := by
  cases o <;> first | rfl | cases h
theorem KpB.row {K : Nat → Prop} {A B : World} {g : Nat} (h : A.grownBy B (some g)) (hK : ∀ q, K q → q < A.heap.size ∧ q ≠ g) (hg : ∀ o, A.heap[g]? = some o → o.isCells = true) : KpB K A B :=
  ⟨fun q hq => h.block q (hK q hq).1 (fun e => (hK q hq).2 (by injection e)), h.size, fun k o hk ho => (h.block k (Array.getElem?_eq_some_iff.1 hk).1 (fun e => by
    cases e
    rw [isWalk_cells (hg o hk)] at ho
    cases ho)).trans hk⟩
/-- The blocks of K lie as they lay. -/
def KeptK (K : Nat → Prop) (A B : World) : Prop := ∀ q, K q → B.heap[q]? = A.heap[q]?
theorem KeptK.lt {K : Nat → Prop} {A B : World} (h : KeptK K A B) (hK : ∀ q, K q → q < A.heap.size) (q : Nat) (hq : K q) : q < B.heap.size := by
  have h1 := h q hq
  rw [Array.getElem?_eq_getElem (hK q hq)] at h1
  exact (Array.getElem?_eq_some_iff.1 h1).1
theorem KeptK.grown {K : Nat → Prop} {A B C : World} {r : Option Nat} (h : KeptK K A B) (hK : ∀ q, K q → q < A.heap.size) (hg : B.grownBy C r) (hr : ∀ g, r = some g → ¬ K g) : KeptK K A C :=
  fun q hq => (hg.block q (h.lt hK q hq) (fun e => hr q e.symm hq)).trans (h q hq)
end Go.Proofs.YtfckekaegjjmkaaGreatDoor
