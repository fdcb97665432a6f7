/- The texts JsD, JsE, JsF, JsN, JsL, put together. -/
import Derived.Test.YtfckekaegjjmkaaGreatDoorPi09
import Derived.Test.YtfckekaegjjmkaaGreatDoorPi07
import Derived.Test.YtfckekaegjjmkaaGreatDoorPi08
namespace Go.Proofs.YtfckekaegjjmkaaGreatDoor
open Go.RowKit Go.Shelf

/-- What is read is its own, if nothing of a number goes on behind. -/
def GoodS {α : Type} (p : Psr α) : Prop := ∀ l a r, p l = .good a r → ∃ own, own ≠ [] ∧ l = own ++ r ∧ ∀ m, Stops m → p (own ++ m) = .good a m
/-- What is read is its own, whatever stands behind. -/
def GoodA {α : Type} (p : Psr α) : Prop := ∀ l a r, p l = .good a r → ∃ own, own ≠ [] ∧ l = own ++ r ∧ ∀ m, p (own ++ m) = .good a m
theorem GoodA.s {α : Type} {p : Psr α} (h : GoodA p) : GoodS p := fun l a r hp => by
  obtain ⟨own, h1, h2, h3⟩ := h l a r hp
  exact ⟨own, h1, h2, fun m _ => h3 m⟩
theorem sp_parts (l : List UInt8) : ∃ s, l = s ++ spJ l ∧ (∀ c ∈ s, isSp c = true) ∧ ∀ c r, spJ l = c :: r → isSp c = false := by
  induction l with
  | nil => exact ⟨[], rfl, fun c h => (by cases h), fun c r h => (by cases h)⟩
  | cons a l ih =>
    cases ha : isSp a with
    | false =>
      have e : spJ (a :: l) = a :: l := sp_cons ha l
      refine ⟨[], e.symm, fun c h => (by cases h), fun c r h => ?_⟩
      rw [e] at h
      injection h with h _
      rw [← h]
      exact ha
    | true =>
      obtain ⟨s, h1, h2, h3⟩ := ih
      have e : spJ (a :: l) = spJ l := by
        unfold spJ
        rw [List.dropWhile_cons, ha]
        rfl
      rw [e]
      refine ⟨a :: s, ?_, fun c hc => ?_, h3⟩
      · rw [List.cons_append, ← h1]
      · rcases List.mem_cons.1 hc with rfl | hc
        · exact ha
        · exact h2 c hc
theorem sp_skip {s : List UInt8} (h : ∀ c ∈ s, isSp c = true) (l : List UInt8) : spJ (s ++ l) = spJ l := by
  induction s with
  | nil => rfl
  | cons a s ih =>
    have e : spJ (a :: (s ++ l)) = spJ (s ++ l) := by
      unfold spJ
      rw [List.dropWhile_cons, h a (by simp)]
      rfl
    rw [List.cons_append, e]
    exact ih (fun c hc => h c (by simp [hc]))
theorem sp_twice (l : List UInt8) : spJ (spJ l) = spJ l := by
  obtain ⟨s, h1, h2, h3⟩ := sp_parts l
  cases hq : spJ l with
  | nil => rfl
  | cons c r => exact sp_cons (h3 c r hq) r
theorem sp_stop {c : UInt8} (h : isSp c = true) : isDig c = false ∧ c ≠ 46 ∧ c ≠ 101 ∧ c ≠ 69 := by
  unfold isSp at h
  simp only [Bool.or_eq_true, beq_iff_eq] at h
  rcases h with ((rfl | rfl) | rfl) | rfl <;> decide
/-- Spaces, then a byte of no number. -/
theorem stops_sp {s : List UInt8} (h : ∀ c ∈ s, isSp c = true) {c : UInt8} (hc : isDig c = false ∧ c ≠ 46 ∧ c ≠ 101 ∧ c ≠ 69) (r : List UInt8) : Stops (s ++ c :: r) := by
  cases s with
  | nil => exact stops_cons hc r
  | cons a s => exact stops_cons (sp_stop (h a (by simp))) _
section
variable {U : List UInt8 → Option (List UInt8 × List UInt8)} (hU2 : ∀ l s r, U l = some (s, r) → ∃ own, own ≠ [] ∧ l = own ++ r ∧ ∀ m, U (own ++ m) = some (s, m))
include hU2
theorem text_ownJ : GoodA (textJ U) := fun l a r h => by
  unfold textJ at h
  split at h
  · rename_i s r' hu
    injection h with h1 h2
    subst h1 h2
    obtain ⟨own, g1, g2, g3⟩ := hU2 _ _ _ hu
    refine ⟨own, g1, g2, fun m => ?_⟩
    unfold textJ
    rw [g3 m]
  · cases h
theorem member_own {l r : List UInt8} {k : Tr} (h : memberJ U l = .good k r) : spJ r = r ∧ ∃ own, own ≠ [] ∧ l = own ++ r ∧ ∀ m, spJ m = m → memberJ U (own ++ m) = .good k m := by
  obtain ⟨t, s, h1, h2⟩ := bindP_good h
  obtain ⟨own, g1, g2, g3⟩ := text_ownJ hU2 _ _ _ h1
  unfold colonJ at h2
  obtain ⟨sa, a1, a2, a3⟩ := sp_parts s
  cases hq : spJ s with
  | nil => rw [hq] at h2; cases h2
  | cons c q =>
    rw [hq] at h2 a1
    simp only [] at h2
    split at h2
    · rename_i hc
      injection h2 with e1 e2
      obtain ⟨sb, b1, b2, b3⟩ := sp_parts q
      subst e1 e2 hc
      refine ⟨sp_twice q, own ++ (sa ++ 58 :: sb), fun e => g1 (List.append_eq_nil_iff.1 e).1, ?_, fun m hm => ?_⟩
      · rw [List.append_assoc, List.append_assoc, List.cons_append, ← b1, ← a1, ← g2]
      · have h3 := g3 (sa ++ 58 :: (sb ++ m))
        rw [List.append_assoc, List.append_assoc, List.cons_append]
        show bindP (textJ U) colonJ _ = _
        rw [bindP_of h3]
        unfold colonJ
        rw [sp_skip a2, sp_cons (by decide)]
        simp only [if_true]
        rw [sp_skip b2, hm]
    · cases h2
omit hU2 in
theorem next_own {en : UInt8} {a L : List Tr} {go : Psr (List Tr)} {s r : List UInt8} (hen : isSp en = false ∧ isDig en = false ∧ en ≠ 46 ∧ en ≠ 101 ∧ en ≠ 69) (h : nextJ en a go s = .good L r)
    (hg : ∀ l L r, spJ l = l → go l = .good L r → ∃ own, own ≠ [] ∧ l = own ++ r ∧ ∀ m, go (own ++ m) = .good L m) :
    ∃ own, own ≠ [] ∧ s = own ++ r ∧ (∀ m, Stops (own ++ m)) ∧ ∀ m, nextJ en a go (own ++ m) = .good L m := by
  unfold nextJ at h
  obtain ⟨sa, a1, a2, a3⟩ := sp_parts s
  cases hq : spJ s with
  | nil => rw [hq] at h; cases h
  | cons c q =>
    rw [hq] at h a1
    simp only [] at h
    split at h
    · rename_i hc
      injection h with e1 e2
      subst e1 e2 hc
      refine ⟨sa ++ [c], by simp, by rw [List.append_assoc]; exact a1, fun m => ?_, fun m => ?_⟩
      · rw [List.append_assoc]
        exact stops_sp a2 hen.2 m
      · unfold nextJ
        rw [List.append_assoc, sp_skip a2]
        show (match spJ (c :: m) with | [] => PR.bad 80 | x :: r => if x = c then PR.good a r else if x = 44 then go (spJ r) else .bad 80) = _
        rw [sp_cons hen.1]
        simp
    · rename_i hce
      split at h
      · rename_i hc
        subst hc
        obtain ⟨sb, b1, b2, b3⟩ := sp_parts q
        obtain ⟨own, g1, g2, g3⟩ := hg _ _ _ (sp_twice q) h
        have hsn : ∀ m, spJ (own ++ m) = own ++ m := fun m => by
          cases own with
          | nil => exact absurd rfl g1
          | cons x y => exact sp_cons (b3 x (y ++ r) g2) _
        refine ⟨sa ++ 44 :: (sb ++ own), by simp, ?_, fun m => ?_, fun m => ?_⟩
        · rw [List.append_assoc, List.cons_append, List.append_assoc, ← g2, ← b1]
          exact a1
        · rw [List.append_assoc, List.cons_append]
          exact stops_sp a2 (by decide) _
        · rw [List.append_assoc, List.cons_append, List.append_assoc]
          unfold nextJ
          rw [sp_skip a2, sp_cons (by decide)]
          simp only []
          rw [if_neg hce, if_pos trivial, sp_skip b2, hsn, g3 m]
      · cases h
theorem nodes_own {v : Psr Tr} (hv : GoodS v) (mem : Bool) {en : UInt8} (hen : isSp en = false ∧ isDig en = false ∧ en ≠ 46 ∧ en ≠ 101 ∧ en ≠ 69) : ∀ (f : Nat) (acc : List Tr), ∀ l L r, spJ l = l → nodesJ U v mem en f acc l = .good L r → ∃ own, own ≠ [] ∧ l = own ++ r ∧ ∀ m, nodesJ U v mem en f acc (own ++ m) = .good L m
  | 0, acc, l, L, r, _, h => by cases h
  | f + 1, acc, l, L, r, hsp, h => by
    rw [nodesJ] at h ⊢
    cases mem with
    | false =>
      rw [if_neg (by simp)] at h ⊢
      obtain ⟨t, s, h1, h2⟩ := bindP_good h
      obtain ⟨own, g1, g2, g3⟩ := hv _ _ _ h1
      obtain ⟨own2, k1, k2, k3, k4⟩ := next_own hen h2 (nodes_own hv false hen f (acc ++ [t]))
      refine ⟨own ++ own2, fun e => g1 (List.append_eq_nil_iff.1 e).1, by rw [List.append_assoc, ← k2, ← g2], fun m => ?_⟩
      rw [List.append_assoc, bindP_of (g3 _ (k3 m)), k4 m]
    | true =>
      rw [if_pos rfl] at h ⊢
      obtain ⟨k, s0, h0, h⟩ := bindP_good h
      obtain ⟨t, s, h1, h2⟩ := bindP_good h
      obtain ⟨n1, own0, n2, n3, n4⟩ := member_own hU2 h0
      obtain ⟨own, g1, g2, g3⟩ := hv _ _ _ h1
      obtain ⟨own2, k1, k2, k3, k4⟩ := next_own hen h2 (nodes_own hv true hen f (acc ++ [k, t]))
      have hns : ∀ m, spJ (own ++ m) = own ++ m := fun m => by
        cases own with
        | nil => exact absurd rfl g1
        | cons x y =>
          obtain ⟨_, _, _, b3⟩ := sp_parts s0
          rw [n1] at b3
          exact sp_cons (b3 x (y ++ s) g2) _
      refine ⟨own0 ++ (own ++ own2), fun e => n2 (List.append_eq_nil_iff.1 e).1, by rw [List.append_assoc, List.append_assoc, ← k2, ← g2, ← n3], fun m => ?_⟩
      rw [List.append_assoc, List.append_assoc, bindP_of (n4 _ (hns _)), bindP_of (g3 _ (k3 m)), k4 m]
theorem list_own {v : Psr Tr} (hv : GoodS v) (mem : Bool) {en : UInt8} (hen : isSp en = false ∧ isDig en = false ∧ en ≠ 46 ∧ en ≠ 101 ∧ en ≠ 69) (F : Nat) : GoodA (listJ U v mem en F) := fun l L r h => by
  unfold listJ at h
  obtain ⟨sa, a1, a2, a3⟩ := sp_parts l
  have key : ∀ q, spJ l = q → nodesJ U v mem en F [] q = .good L r → (∀ c x, q = c :: x → c ≠ en) → ∃ own, own ≠ [] ∧ l = own ++ r ∧ ∀ m, listJ U v mem en F (own ++ m) = .good L m := fun q hq hn hne => by
    have hqq : spJ q = q := by rw [← hq]; exact sp_twice l
    obtain ⟨own, g1, g2, g3⟩ := nodes_own hU2 hv mem hen F [] q L r hqq hn
    refine ⟨sa ++ own, fun e => g1 (List.append_eq_nil_iff.1 e).2, by rw [List.append_assoc, ← g2, ← hq]; exact a1, fun m => ?_⟩
    have hg := g3 m
    unfold listJ
    rw [List.append_assoc, sp_skip a2]
    cases own with
    | nil => exact absurd rfl g1
    | cons x y =>
      rw [List.cons_append] at hg g2 ⊢
      rw [sp_cons (a3 x (y ++ r) (hq.trans g2))]
      simp only []
      rw [if_neg (hne x _ g2), hg]
  cases hq : spJ l with
  | nil =>
    rw [hq] at h
    exact key [] hq h (fun c x e => by cases e)
  | cons c q =>
    rw [hq] at h
    simp only [] at h
    split at h
    · rename_i hc
      injection h with e1 e2
      subst e1 e2 hc
      rw [hq] at a1
      refine ⟨sa ++ [c], by simp, by rw [List.append_assoc]; exact a1, fun m => ?_⟩
      unfold listJ
      rw [List.append_assoc, sp_skip a2]
      show (match spJ (c :: m) with | [] => nodesJ U v mem c F [] [] | x :: r => if x = c then PR.good [] r else nodesJ U v mem c F [] (x :: r)) = _
      rw [sp_cons hen.1]
      simp
    · rename_i hne
      exact key (c :: q) hq h (fun c' x e => by injection e with e _; rw [← e]; exact hne)
omit hU2 in
theorem word_own (w : List UInt8) (hw : w ≠ []) (t : Tr) : GoodA (wordJ w t) := fun l a r h => by
  unfold wordJ at h
  split at h
  · rename_i e
    injection h with e1 e2
    subst e1 e2
    refine ⟨w, hw, by conv => { lhs; rw [← List.take_append_drop w.length l, e] }, fun m => ?_⟩
    unfold wordJ
    rw [List.take_left' rfl, if_pos rfl, List.drop_left' rfl]
  · cases h
omit hU2 in
theorem num_own : GoodS numJ := fun l a r h => by
  unfold numJ at h
  split at h
  · rename_i d r' hp
    injection h with e1 e2
    subst e1 e2
    obtain ⟨own, g1, g2, g3⟩ := parse_own hp
    refine ⟨own, g1, g2, fun m hm => ?_⟩
    unfold numJ
    rw [g3 m hm]
  · cases h
theorem body_own {sub : Option (Psr Tr)} (hs : ∀ v, sub = some v → GoodS v) (F : Nat) : GoodS (bodyJ U sub F) := fun l a r h => by
  cases l with
  | nil => cases h
  | cons c l =>
    have go : ∀ p : Psr Tr, GoodS p → (∀ x, bodyJ U sub F (c :: x) = p (c :: x)) → ∃ own, own ≠ [] ∧ c :: l = own ++ r ∧ ∀ m, Stops m → bodyJ U sub F (own ++ m) = .good a m := fun p hp hb => by
      rw [hb] at h
      obtain ⟨own, g1, g2, g3⟩ := hp _ _ _ h
      cases own with
      | nil => exact absurd rfl g1
      | cons x y =>
        have hx : x = c := by injection g2 with e _; exact e.symm
        subst hx
        exact ⟨x :: y, g1, g2, fun m hm => by rw [List.cons_append, hb]; exact g3 m hm⟩
    have lst : ∀ (mem : Bool) (en : UInt8) (k : Int) (v : Psr Tr), (isSp en = false ∧ isDig en = false ∧ en ≠ 46 ∧ en ≠ 101 ∧ en ≠ 69) → GoodS v → (∀ x, bodyJ U sub F (c :: x) = bindP (listJ U v mem en F) (fun L => pureP (listT k L)) x) → ∃ own, own ≠ [] ∧ c :: l = own ++ r ∧ ∀ m, Stops m → bodyJ U sub F (own ++ m) = .good a m := fun mem en k v hen hv hb => by
      rw [hb] at h
      obtain ⟨L, s, h1, h2⟩ := bindP_good h
      have h2 : PR.good (listT k L) s = .good a r := h2
      injection h2 with e1 e2
      subst e1 e2
      obtain ⟨own, g1, g2, g3⟩ := list_own hU2 hv mem hen F _ _ _ h1
      refine ⟨c :: own, by simp, by rw [List.cons_append, ← g2], fun m _ => ?_⟩
      rw [List.cons_append, hb, bindP_of (g3 m)]
      rfl
    by_cases c1 : c = 91
    · subst c1
      cases sub with
      | none => cases h
      | some v => exact lst false 93 7 v (by decide) (hs v rfl) (fun x => rfl)
    by_cases c2 : c = 123
    · subst c2
      cases sub with
      | none => cases h
      | some v => exact lst true 125 8 v (by decide) (hs v rfl) (fun x => rfl)
    by_cases c3 : c = 34
    · subst c3
      exact go (textJ U) (text_ownJ hU2).s (fun x => rfl)
    by_cases c4 : c = 110
    · subst c4
      exact go _ (word_own [110, 117, 108, 108] (by simp) nilT).s (fun x => rfl)
    by_cases c5 : c = 116
    · subst c5
      exact go _ (word_own [116, 114, 117, 101] (by simp) (boolT true)).s (fun x => rfl)
    by_cases c6 : c = 102
    · subst c6
      exact go _ (word_own [102, 97, 108, 115, 101] (by simp) (boolT false)).s (fun x => rfl)
    · exact go numJ num_own (fun x => by
        unfold bodyJ
        simp only []
        rw [if_neg c1, if_neg c2, if_neg c3, if_neg c4, if_neg c5, if_neg c6])
/-- A value is its own. -/
theorem value_own (F : Nat) : ∀ d, GoodS (valueJ U F d)
  | 0 => body_own hU2 (fun v h => by cases h) F
  | d + 1 => body_own hU2 (fun v h => by injection h with h; rw [← h]; exact value_own F d) F
end
end Go.Proofs.YtfckekaegjjmkaaGreatDoor
namespace Go.Proofs.YtfckekaegjjmkaaGreatDoor
open Go.RowKit Go.Shelf

theorem bindJ_agree {α β : Type} {p p' : Psr α} {f f' : α → Psr β} {l : List UInt8} (h : p l = p' l) (hf : ∀ a r, p' l = .good a r → f a r = f' a r) : bindP p f l = bindP p' f' l := by
  unfold bindP
  rw [h]
  cases hp : p' l with
  | bad e => rfl
  | good a r => exact hf a r hp
theorem sp_len (l : List UInt8) : (spJ l).length ≤ l.length := by
  obtain ⟨s, h, _, _⟩ := sp_parts l
  conv => rhs; rw [h, List.length_append]
  omega
theorem next_agree {en : UInt8} {a : List Tr} {go go' : Psr (List Tr)} {s : List UInt8} (h : ∀ r, r.length + 1 ≤ s.length → go (spJ r) = go' (spJ r)) : nextJ en a go s = nextJ en a go' s := by
  unfold nextJ
  have hl := sp_len s
  cases hq : spJ s with
  | nil => rfl
  | cons c r =>
    rw [hq, List.length_cons] at hl
    simp only []
    rw [h r (by omega)]
section
variable {U : List UInt8 → Option (List UInt8 × List UInt8)} (hU2 : ∀ l s r, U l = some (s, r) → ∃ own, own ≠ [] ∧ l = own ++ r ∧ ∀ m, U (own ++ m) = some (s, m))
include hU2
theorem value_less {F d : Nat} {l r : List UInt8} {t : Tr} (h : valueJ U F d l = .good t r) : r.length + 1 ≤ l.length := by
  obtain ⟨own, h1, h2, _⟩ := value_own hU2 F d _ _ _ h
  cases own with
  | nil => exact absurd rfl h1
  | cons c own => rw [h2, List.length_append, List.length_cons]; omega
theorem member_less {l r : List UInt8} {t : Tr} (h : memberJ U l = .good t r) : r.length + 1 ≤ l.length := by
  obtain ⟨_, own, h1, h2, _⟩ := member_own hU2 h
  cases own with
  | nil => exact absurd rfl h1
  | cons c own => rw [h2, List.length_append, List.length_cons]; omega
theorem nodes_agree {v v' : Psr Tr} {n : Nat} (hv : ∀ l, l.length ≤ n → v l = v' l) (hl : ∀ l t r, v' l = .good t r → r.length + 1 ≤ l.length) (mem : Bool) (en : UInt8) : ∀ (f f' : Nat) (acc : List Tr) (l : List UInt8), l.length ≤ n → l.length < f → l.length < f' → nodesJ U v mem en f acc l = nodesJ U v' mem en f' acc l
  | 0, _, _, _, _, h, _ => by omega
  | _ + 1, 0, _, _, _, _, h => by omega
  | f + 1, f' + 1, acc, l, hn, h, h' => by
    rw [nodesJ, nodesJ]
    cases mem with
    | false =>
      rw [if_neg (by simp), if_neg (by simp)]
      refine bindJ_agree (hv l hn) fun t s hs => ?_
      have h1 := hl _ _ _ hs
      exact next_agree fun r hr => nodes_agree hv hl false en f f' _ _ (by have := sp_len r; omega) (by have := sp_len r; omega) (by have := sp_len r; omega)
    | true =>
      rw [if_pos rfl, if_pos rfl]
      refine bindJ_agree rfl fun k s0 h0 => ?_
      have h2 := member_less hU2 h0
      refine bindJ_agree (hv s0 (by omega)) fun t s hs => ?_
      have h1 := hl _ _ _ hs
      exact next_agree fun r hr => nodes_agree hv hl true en f f' _ _ (by have := sp_len r; omega) (by have := sp_len r; omega) (by have := sp_len r; omega)
/-- How much is allowed makes no difference, if it is enough. -/
theorem value_fuel : ∀ (d F F' : Nat) (l : List UInt8), l.length < F → l.length < F' → valueJ U F d l = valueJ U F' d l
  | 0, F, F', l, _, _ => by
    show bodyJ U none F l = bodyJ U none F' l
    rfl
  | d + 1, F, F', l, hF, hF' => by
    show bodyJ U (some (valueJ U F d)) F l = bodyJ U (some (valueJ U F' d)) F' l
    cases l with
    | nil => rfl
    | cons c l =>
      rw [List.length_cons] at hF hF'
      have hlist : ∀ (mem : Bool) (en : UInt8), listJ U (valueJ U F d) mem en F l = listJ U (valueJ U F' d) mem en F' l := fun mem en => by
        have hz := sp_len l
        have key : ∀ q, q.length ≤ l.length → nodesJ U (valueJ U F d) mem en F [] q = nodesJ U (valueJ U F' d) mem en F' [] q := fun q hq =>
          nodes_agree hU2 (n := l.length) (fun x hx => value_fuel d F F' x (by omega) (by omega)) (fun _ _ _ h => value_less hU2 h) mem en F F' [] q hq (by omega) (by omega)
        unfold listJ
        cases hq : spJ l with
        | nil => exact key [] (Nat.zero_le _)
        | cons x y =>
          simp only []
          rw [key (x :: y) (by rw [← hq]; exact hz)]
      unfold bodyJ
      simp only []
      split
      · exact bindJ_agree (hlist false 93) fun _ _ _ => rfl
      · split
        · exact bindJ_agree (hlist true 125) fun _ _ _ => rfl
        · rfl
end
section
variable {U : List UInt8 → Option (List UInt8 × List UInt8)}
end
end Go.Proofs.YtfckekaegjjmkaaGreatDoor
namespace Go.Proofs.YtfckekaegjjmkaaGreatDoor
open Go.RowKit Go.Shelf

section
variable (U : List UInt8 → Option (List UInt8 × List UInt8))
/-- A document: space, a value, space, and no more; a right tree. -/
noncomputable def docJ (F : Nat) (l : List UInt8) : PR Tr := match valueJ U F 16 (spJ l) with
  | .bad e => .bad e
  | .good t r => if spJ r ≠ [] then .bad 80 else if rightT t = true then .good t [] else .bad 60
/-- What is read of a document: an error, or a tree. -/
noncomputable def readJ (l : List UInt8) : Int × Tr := if 4000 < l.length then (81, .nd zeroO []) else match docJ U (l.length + 1) l with
  | .bad e => (e, .nd zeroO [])
  | .good t _ => (0, t)
variable {U}
variable {Q : List UInt8 → List UInt8}
end
end Go.Proofs.YtfckekaegjjmkaaGreatDoor
namespace Go.Proofs.YtfckekaegjjmkaaGreatDoor
open Go.RowKit Go.Shelf

def numD (i : Nat) : Tr := decT (ofN false i).1 (ofN false i).2.1 (ofN false i).2.2
/-- The members: keys, and their numbers. -/
def pairsL : List (List UInt8) → Nat → List Tr
  | [], _ => []
  | k :: ks, i => strT 5 k :: numD i :: pairsL ks (i + 1)
theorem pairs_len : ∀ (ks : List (List UInt8)) (i : Nat), (pairsL ks i).length = 2 * ks.length
  | [], _ => rfl
  | k :: ks, i => by
    rw [pairsL, List.length_cons, List.length_cons, pairs_len ks (i + 1), List.length_cons]
    omega
theorem pairs_key : ∀ (ks : List (List UInt8)) (i j : Nat) (h : j < ks.length), (pairsL ks i)[2 * j]? = some (strT 5 ks[j]) ∧ (pairsL ks i)[2 * j + 1]? = some (numD (i + j))
  | [], _, _, h => by simp at h
  | k :: ks, i, 0, _ => ⟨rfl, rfl⟩
  | k :: ks, i, j + 1, h => by
    have h1 := pairs_key ks (i + 1) j (by simpa using h)
    rw [show 2 * (j + 1) = 2 * j + 1 + 1 by omega, pairsL]
    simp only [List.getElem?_cons_succ, List.getElem_cons_succ]
    exact ⟨h1.1, by rw [h1.2, show i + 1 + j = i + (j + 1) by omega]⟩
theorem str_inj {a b : List UInt8} (h : strT 5 a = strT 5 b) : a = b := by
  unfold strT at h
  injection h with h _
  have h := congrArg (fun o : Own => o.s.data.toList) h
  exact h
theorem keys_apart (ks : List (List UInt8)) (i : Nat) : KeysApart (pairsL ks i) ↔ ∀ (a b : Nat) (ha : a < ks.length) (hb : b < a), ks[a] ≠ ks[b]'(by omega) := by
  have hl := pairs_len ks i
  constructor
  · intro h a b ha hb e
    have h1 := h (2 * a) (2 * b) (by omega) (by omega) (by omega) (by omega)
    have ka := (pairs_key ks i a ha).1
    have kb := (pairs_key ks i b (by omega)).1
    rw [List.getElem?_eq_getElem (by omega)] at ka kb
    rw [Option.some.inj ka, Option.some.inj kb, e, sameT_refl] at h1
    cases h1
  · intro h x y hx hy ex ey
    obtain ⟨a, rfl⟩ : ∃ a, x = 2 * a := ⟨x / 2, by omega⟩
    obtain ⟨b, rfl⟩ : ∃ b, y = 2 * b := ⟨y / 2, by omega⟩
    have ka := (pairs_key ks i a (by omega)).1
    have kb := (pairs_key ks i b (by omega)).1
    rw [List.getElem?_eq_getElem (by omega)] at ka kb
    rw [Option.some.inj ka, Option.some.inj kb]
    cases hs : sameT (strT 5 ks[a]) (strT 5 ks[b]) with
    | false => rfl
    | true => exact absurd (str_inj (sameT_iff _ _ hs)) (h a b (by omega) (by omega))
theorem numD_ok (i : Nat) (hi : i ≤ 1000) : allB (numD i) = true ∧ okJ (numD i) := by
  have h := (ofN_ok false i (by omega)).2
  have hd : decOk (ofN false i).1 (ofN false i).2.1 (ofN false i).2.2 = true := by
    first | exact h.1 | exact h
  constructor
  · unfold numD decT
    rw [allB, allL, Bool.and_true]
    unfold ownB
    simp [onlyB, hd]
  · unfold numD decT
    rw [okJ, okJL]
    exact ⟨.num rfl hd rfl, trivial⟩
theorem strT_ok (k : List UInt8) (hz : k.length ≤ 400) (hv : Lib.validD k = true) : allB (strT 5 k) = true ∧ okJ (strT 5 k) := by
  constructor
  · unfold strT
    rw [allB, allL, Bool.and_true]
    unfold ownB
    have h1 : (⟨k.toArray⟩ : ByteArray).size = k.length := rfl
    simp [onlyB, h1, hz, hv]
  · unfold strT
    rw [okJ, okJL]
    exact ⟨.text rfl hv rfl, trivial⟩
theorem pairs_ok : ∀ (ks : List (List UInt8)) (i : Nat), ks.length + i ≤ 1000 → (∀ k ∈ ks, k.length ≤ 400 ∧ Lib.validD k = true) → allL (pairsL ks i) = true ∧ okJL (pairsL ks i) ∧ keysFit 1 (pairsL ks i) = true ∧ countL (pairsL ks i) = 2 * ks.length ∧ depthL (pairsL ks i) ≤ 1
  | [], _, _, _ => by
    refine ⟨?_, ?_, ?_, ?_, ?_⟩
    · rw [pairsL, allL]
    · rw [pairsL, okJL]; exact trivial
    · rw [pairsL, keysFit]
    · rw [pairsL, countL]; rfl
    · rw [pairsL, depthL]; exact Nat.zero_le _
  | k :: ks, i, hi, h => by
    rw [List.length_cons] at hi
    obtain ⟨h1, h2, h3, h4, h5⟩ := pairs_ok ks (i + 1) (by omega) (fun x hx => h x (by simp [hx]))
    have hk := h k (by simp)
    have k1 := strT_ok k hk.1 hk.2
    have k2 := numD_ok i (by omega)
    refine ⟨?_, ?_, ?_, ?_, ?_⟩
    · rw [pairsL, allL, allL, k1.1, k2.1, h1]; rfl
    · rw [pairsL, okJL, okJL]; exact ⟨k1.2, k2.2, h2⟩
    · rw [pairsL, keysFit, h3]
      rfl
    · rw [pairsL, countL, countL, h4, List.length_cons]
      have c1 : (strT 5 k).count = 1 := by unfold strT; rw [Tr.count, countL]
      have c2 : (numD i).count = 1 := by unfold numD decT; rw [Tr.count, countL]
      omega
    · rw [pairsL, depthL, depthL]
      have c1 : (strT 5 k).depth = 1 := by unfold strT; rw [Tr.depth, depthL]
      have c2 : (numD i).depth = 1 := by unfold numD decT; rw [Tr.depth, depthL]
      omega
theorem members_ok (ks : List (List UInt8)) (hn : ks.length ≤ 100) (h : ∀ k ∈ ks, k.length ≤ 400 ∧ Lib.validD k = true) : okJ (listT 8 (pairsL ks 0)) ∧ (listT 8 (pairsL ks 0)).count = 1 + 2 * ks.length ∧ (listT 8 (pairsL ks 0)).depth ≤ 2 ∧ (rightT (listT 8 (pairsL ks 0)) = true ↔ ∀ (a b : Nat) (ha : a < ks.length) (hb : b < a), ks[a] ≠ ks[b]'(by omega)) := by
  obtain ⟨h1, h2, h3, h4, h5⟩ := pairs_ok ks 0 (by omega) h
  have hl := pairs_len ks 0
  have hc : (listT 8 (pairsL ks 0)).count = 1 + 2 * ks.length := by unfold listT; rw [Tr.count, h4]
  have hd : (listT 8 (pairsL ks 0)).depth ≤ 2 := by unfold listT; rw [Tr.depth]; omega
  refine ⟨?_, hc, hd, ?_⟩
  · unfold listT
    rw [okJ]
    exact ⟨.map rfl (by omega) h3, h2⟩
  · rw [← keys_apart ks 0]
    unfold rightT
    rw [hc, decide_eq_true (by omega), decide_eq_true (by omega), Bool.true_and, Bool.true_and]
    unfold listT
    rw [allB, h1, Bool.and_true]
    unfold ownB keysB
    have he : (pairsL ks 0).length % 2 = 0 := by omega
    simp [onlyB, he]
/-- The document of keys and their numbers is read, if no two keys are the same. -/
theorem members_read {U : List UInt8 → Option (List UInt8 × List UInt8)} {Q : List UInt8 → List UInt8} (hq0 : ∀ l, ∃ r, Q l = 34 :: r) (hU : ∀ l m, Lib.validD l = true → U (Q l ++ m) = some (l, m)) (hU2 : ∀ l s r, U l = some (s, r) → ∃ own, own ≠ [] ∧ l = own ++ r ∧ ∀ m, U (own ++ m) = some (s, m)) (ks : List (List UInt8)) (hn : ks.length ≤ 100) (h : ∀ k ∈ ks, k.length ≤ 400 ∧ Lib.validD k = true) (F : Nat) (hF : (jsT Q false 0 (listT 8 (pairsL ks 0))).length < F) :
    docJ U F (jsT Q false 0 (listT 8 (pairsL ks 0))) = if rightT (listT 8 (pairsL ks 0)) = true then .good (listT 8 (pairsL ks 0)) [] else .bad 60 := by
  obtain ⟨h1, h2, h3, _⟩ := members_ok ks hn h
  have hb := js_back (U := U) hq0 hU false (max F 1000) _ 16 0 [] h1 (by omega) (by omega) (fun c r e => by cases e)
  rw [List.append_nil] at hb
  have hv : valueJ U F 16 (jsT Q false 0 (listT 8 (pairsL ks 0))) = .good (listT 8 (pairsL ks 0)) [] := by
    rw [value_fuel hU2 16 F (max F 1000) _ hF (by omega)]
    exact hb
  have hs : spJ (jsT Q false 0 (listT 8 (pairsL ks 0))) = jsT Q false 0 (listT 8 (pairsL ks 0)) := by
    have := begJ_sp (jsT_beg hq0 false 0 _ h1) []
    rwa [List.append_nil] at this
  unfold docJ
  rw [hs, hv]
  simp only []
  rw [if_neg (by simp [spJ])]
end Go.Proofs.YtfckekaegjjmkaaGreatDoor
namespace Go.Proofs.YtfckekaegjjmkaaGreatDoor
open Go.RowKit Go.Shelf

section
variable (Q : List UInt8 → List UInt8)
/-- One more member of a map. -/
theorem rowsM_snoc (p : Bool) (k : Nat) (a t : Tr) : ∀ (n : Nat) (l : List Tr) (b : Bool), l.length = 2 * n → jsM Q p k b (l ++ [a, t]) = jsM Q p k b l ++ ((if b = true ∧ l = [] then [] else [44]) ++ (lineL p k ++ (jsT Q p k a ++ (58 :: (gapL p ++ jsT Q p k t)))))
  | 0, l, b, h => by
    have : l = [] := len_nil (by omega)
    subst this
    rw [List.nil_append, jsM, jsM, jsM]
    cases b <;> simp
  | n + 1, l, b, h => by
    match l, h with
    | x :: y :: l, h =>
      rw [List.cons_append, List.cons_append, jsM, jsM, rowsM_snoc p k a t n l false (by simp at h; omega)]
      simp
    | [x], h => simp at h; omega
    | [], h => simp at h
end
end Go.Proofs.YtfckekaegjjmkaaGreatDoor
