/- 'next' leaves the tape as it was. -/
import Derived.Test.YtgfeeakcpojicaaGreatDoorLib
import Derived.Laws.IdiomRangeMap
namespace Go.Proofs.YtgfeeakcpojicaaGreatDoor
open Go.RowKit Go.Shelf

/-- m leaves the tape as it was. -/
def KT {α : Type} (m : Sem α) : Prop := ∀ P w v w', m.run P w = .ok v w' → w'.tape = w.tape
theorem KT.pure {α : Type} (v : α) : KT (Pure.pure v : Sem α) := fun P w v' w' h => by
  simp at h
  rw [← h.2]
theorem KT.bind {α β : Type} {m : Sem α} {f : α → Sem β} (hm : KT m) (hf : ∀ v, KT (f v)) : KT (m >>= f) := fun P w v w' h => by
  rw [Sem.run_bind] at h
  cases hr : m.run P w with
  | halt x w1 => rw [hr] at h; cases h
  | ok a w1 =>
    rw [hr] at h
    exact (hf a P w1 v w' h).trans (hm P w a w1 hr)
theorem KT.stuck {α : Type} (s : String) : KT (Go.stuck s : Sem α) := fun P w v w' h => by simp [Go.stuck] at h
theorem KT.getObj (r : Nat) : KT (getObj r) := fun P w v w' h => by
  simp only [Go.getObj, Sem.run] at h
  split at h <;> first | (cases h; done) | (cases h; rfl)
theorem KT.setObj (r : Nat) (o : Obj) : KT (setObj r o) := fun P w v w' h => by
  simp only [Go.setObj, Sem.run] at h
  split at h <;> first | (cases h; done) | (cases h; rfl)
theorem KT.choose (q : Question) : KT (choose q) := fun P w v w' h => by
  simp only [Go.choose, Sem.run] at h
  split at h
  · cases h; rfl
  · cases h; rfl
theorem KT.unsupported {α : Type} (s : Unsupported) : KT (Go.unsupported s : Sem α) := fun P w v w' h => by simp [Go.unsupported] at h

theorem next_tape (it : Value) (b : Bool) (ty : TypeId) : KT (Instr.next it b ty) := by
  unfold Instr.next
  repeat' first
    | exact KT.pure _
    | exact KT.stuck _
    | exact KT.getObj _
    | exact KT.setObj _ _
    | exact KT.choose _
    | exact KT.unsupported _
    | refine KT.bind ?_ (fun _ => ?_)
    | split
    | dsimp only
end Go.Proofs.YtgfeeakcpojicaaGreatDoor
