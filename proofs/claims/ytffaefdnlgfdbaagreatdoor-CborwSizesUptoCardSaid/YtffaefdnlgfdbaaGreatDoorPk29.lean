/- The texts FlowN, put together. -/
import Derived.Test.YtffaefdnlgfdbaaGreatDoorPk28
import Derived.Great.Walk
/- A guarded operation of a region that draws its order, whose guard is known not to hold. -/
namespace Go.Proofs.YtffaefdnlgfdbaaGreatDoor
open Go.RowKit
section
variable {P : Program} {R : World → World → Prop} {ops : Array Oper}

theorem flow_opN (g : Nat) (b : Bool) (t0 : Tmp) {a : Act} {E : World → Prop} {Φ : Nat → Value → World → Prop} {i : Nat} {o : Oper} (hg : o.guard = some (g, b)) (ht0 : (ops[g]?).bind (·.dst) = some t0)
    (hz : (o.looksAt ops).all (fun t => decide (t < a.tmps.size)) = true)
    (hy : ∀ (env : Nat → Value) (w : World), E w → (∀ j, waitsFor o j = true → Φ j (env j) w) → ∀ ρ, ρ = readOf ops a (waitsFor o) env → ρ (.tmp t0) ≠ .bool b)
    (h : ∀ w, E w → Φ i undef w) :
    FlowOp P R ops a E Φ i o := by
  intro env w hE hn a' ha'
  have hw : Region.wanted o (yielded ops a'.tmps) = false := by
    have h1 := hy env w hE hn _ rfl
    have hm : t0 ∈ o.looksAt ops := List.mem_append_right _ (by rw [hg]; simp [ht0])
    have ht : t0 < a.tmps.size := by simpa using List.all_eq_true.1 hz t0 hm
    obtain ⟨v, hv⟩ : ∃ v, readOf ops a (waitsFor o) env (.tmp t0) = v := ⟨_, rfl⟩
    rw [hv] at h1
    have h2 : a'.tmps.getD t0 undef = v := by
      rw [ha', frameOf_read ht]
      exact hv
    have ht' : t0 < a'.tmps.size := by rw [ha', frameOf_size]; exact ht
    have h3 : a'.tmps[t0]? = some v := by
      rw [Array.getElem?_eq_getElem ht']
      simpa [Array.getD, ht'] using h2
    have h4 : yielded ops a'.tmps g ≠ some b := by
      unfold yielded
      rw [ht0]
      show (match a'.tmps[t0]? with | some (.bool b) => some b | _ => none) ≠ some b
      rw [h3]
      intro e
      split at e
      · rename_i b' hb'
        apply h1
        rw [Option.some.inj hb', Option.some.inj e]
      · cases e
    unfold Region.wanted
    rw [hg]
    simpa using h4
  rw [if_neg (by rw [hw]; decide)]
  exact h w hE
end
end Go.Proofs.YtffaefdnlgfdbaaGreatDoor
