/- The texts JsL, put together. -/
import Derived.Test.YtfckekaegjjmkaaGreatDoorPc12
namespace Go.Proofs.YtfckekaegjjmkaaGreatDoor
open Go.RowKit Go.Shelf

section
variable (Q : List UInt8 → List UInt8)
mutual
theorem plain_T : ∀ (t : Tr) (k k' : Nat), jsT Q false k t = jsT Q false k' t
  | .nd o l, k, k' => by
    rw [jsT, jsT, plain_A l (k + 1) (k' + 1) true, plain_M l (k + 1) (k' + 1) true]
    rfl
theorem plain_A : ∀ (l : List Tr) (k k' : Nat) (b : Bool), jsA Q false k b l = jsA Q false k' b l
  | [], _, _, _ => by rw [jsA, jsA]
  | t :: l, k, k', b => by
    rw [jsA, jsA, plain_T t k k', plain_A l k k' false]
    rfl
theorem plain_M : ∀ (l : List Tr) (k k' : Nat) (b : Bool), jsM Q false k b l = jsM Q false k' b l
  | [], _, _, _ => by rw [jsM, jsM]
  | [_], _, _, _ => by rw [jsM, jsM]
  | a :: t :: l, k, k', b => by
    rw [jsM, jsM, plain_T a k k', plain_T t k k', plain_M l k k' false]
    rfl
end
/-- One more node of an array. -/
theorem rowsA_snoc (p : Bool) (k : Nat) (t : Tr) : ∀ (l : List Tr) (b : Bool), jsA Q p k b (l ++ [t]) = jsA Q p k b l ++ ((if b = true ∧ l = [] then [] else [44]) ++ (lineL p k ++ jsT Q p k t))
  | [], b => by
    rw [List.nil_append, jsA, jsA, jsA]
    cases b <;> simp
  | s :: l, b => by
    rw [List.cons_append, jsA, jsA, rowsA_snoc p k t l false]
    simp
/-- One more member of a map. -/
theorem rowsM_snoc (p : Bool) (k : Nat) (a t : Tr) : ∀ (n : Nat) (l : List Tr) (b : Bool), l.length = 2 * n → jsM Q p k b (l ++ [a, t]) = jsM Q p k b l ++ ((if b = true ∧ l = [] then [] else [44]) ++ (lineL p k ++ (jsT Q p k a ++ (58 :: (gapL p ++ jsT Q p k t)))))
  | 0, l, b, h => by
    have : l = [] := len_nil (by omega)
    subst this
    rw [List.nil_append, jsM, jsM, jsM]
    cases b <;> simp
  | n + 1, l, b, h => by
    match l, h with
    | x :: y :: l, h =>
      rw [List.cons_append, List.cons_append, jsM, jsM, rowsM_snoc p k a t n l false (by simp at h; omega)]
      simp
    | [x], h => simp at h; omega
    | [], h => simp at h
end
end Go.Proofs.YtfckekaegjjmkaaGreatDoor
