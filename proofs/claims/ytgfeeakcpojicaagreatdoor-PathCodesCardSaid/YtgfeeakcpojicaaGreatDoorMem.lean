/- Rows in memory: a slice whose elements lie below a block number. No function of the program. -/
import Derived.Test.YtgfeeakcpojicaaGreatDoorLib
namespace Go.Proofs.YtgfeeakcpojicaaGreatDoor
open Go.RowKit Go.Shelf

theorem add_block (a : Addr) (n : Nat) : (a.add n).block = a.block := by
  unfold Addr.add
  split <;> rfl
theorem add_add' (a : Addr) (i j : Nat) : (a.add i).add j = a.add (i + j) := by
  unfold Addr.add
  by_cases hi : i = 0
  · subst hi
    simp
  · by_cases hj : j = 0
    · subst hj
      simp
    · rw [if_neg hi, if_neg hj, if_neg (by omega)]
      simp [Nat.add_assoc]

/-- The slice '.slice A n c' holds the cells xs, each element of so many cells, in blocks below B. -/
def Lies (W : World) (B size : Nat) (A : Option Addr) (n : Nat) (xs : List Value) : Prop :=
  xs.length = n * size ∧ (0 < n → ∃ ad, A = some ad ∧ ad.block < B ∧ ∀ j u, xs[j]? = some u → W.cell? (ad.add j) = some u)
theorem Lies.nil (W : World) (B size : Nat) (A : Option Addr) : Lies W B size A 0 [] := ⟨by simp, fun h => absurd h (by omega)⟩
theorem Lies.below {W W' : World} {B size n : Nat} {A : Option Addr} {xs : List Value} (h : Lies W B size A n xs) {m : Nat} (hb : Below m W W') (hm : B ≤ m) : Lies W' B size A n xs :=
  ⟨h.1, fun hn => by
    obtain ⟨ad, e, hlt, hc⟩ := h.2 hn
    refine ⟨ad, e, hlt, fun j u hu => ?_⟩
    rw [← hc j u hu]
    exact hb.cell (by rw [add_block]; omega)⟩
theorem Lies.more {W : World} {B B' size n : Nat} {A : Option Addr} {xs : List Value} (h : Lies W B size A n xs) (hB : B ≤ B') : Lies W B' size A n xs :=
  ⟨h.1, fun hn => by
    obtain ⟨ad, e, hlt, hc⟩ := h.2 hn
    exact ⟨ad, e, by omega, hc⟩⟩
/-- The address of element k, and its cells. -/
theorem Lies.at_ {W : World} {B size n : Nat} {A : Option Addr} {xs : List Value} (h : Lies W B size A n xs) {k : Nat} (hk : k < n) :
    ∃ ad, A = some ad ∧ ad.block < B ∧ ∀ i, i < size → W.cell? (ad.add (k * size + i)) = xs[k * size + i]? := by
  obtain ⟨ad, e, hlt, hc⟩ := h.2 (by omega)
  refine ⟨ad, e, hlt, fun i hi => ?_⟩
  have hl : k * size + i < xs.length := by
    rw [h.1]
    have : (k + 1) * size ≤ n * size := Nat.mul_le_mul_right _ hk
    rw [Nat.add_mul] at this
    omega
  rw [List.getElem?_eq_getElem hl]
  exact hc _ _ (List.getElem?_eq_getElem hl)
/-- A row that the call owns. -/
theorem Lies.own {W : World} {base size n c : Nat} {e : TypeId} {A : Option Addr} {xs : List Value} (h : W.ownsRow base e size (.slice A n c) n xs) : Lies W W.heap.size size A n xs := by
  refine ⟨h.1, fun hn => ?_⟩
  rcases h.2 with ⟨_, h0⟩ | ⟨g, cap, cur, hv, hg, hb, hnc, hcm, hz, ht⟩
  · omega
  · have hA : A = some ⟨g, 0, none⟩ := by injection hv
    subst hA
    refine ⟨_, rfl, (Array.getElem?_eq_some_iff.1 hb).1, fun j u hu => ?_⟩
    have ea : (⟨g, 0, none⟩ : Addr).add j = ⟨g, j, none⟩ := by
      unfold Addr.add
      split
      · rename_i h0
        rw [h0]
      · simp
    rw [ea]
    rw [← ht] at hu
    have hj : j < n * size := by
      have := (List.getElem?_eq_some_iff.1 hu).1
      rw [List.length_take] at this
      omega
    rw [List.getElem?_take_of_lt hj] at hu
    simp only [World.cell?, hb]
    simpa using hu
/-- Field i of what lies at element j: as the walk spells it. -/
theorem add_field (a : Addr) (j i : Nat) : a.add (j + (i + 1)) = ⟨(a.add j).block, (a.add j).off + (i + 1), none⟩ := by
  rw [← add_add']
  unfold Addr.add
  rw [if_neg (by omega : ¬ i + 1 = 0)]
end Go.Proofs.YtgfeeakcpojicaaGreatDoor
