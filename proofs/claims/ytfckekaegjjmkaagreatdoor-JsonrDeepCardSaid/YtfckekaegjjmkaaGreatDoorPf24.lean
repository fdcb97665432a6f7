/- The texts JsD, JsE, RangeA, put together. -/
import Derived.Test.YtfckekaegjjmkaaGreatDoorPf23
import Derived.Test.YtfckekaegjjmkaaGreatDoorPf07
namespace Go.Proofs.YtfckekaegjjmkaaGreatDoor
open Go.RowKit Go.Shelf

/-- What is read is its own, if nothing of a number goes on behind. -/
def GoodS {α : Type} (p : Psr α) : Prop := ∀ l a r, p l = .good a r → ∃ own, own ≠ [] ∧ l = own ++ r ∧ ∀ m, Stops m → p (own ++ m) = .good a m
/-- What is read is its own, whatever stands behind. -/
def GoodA {α : Type} (p : Psr α) : Prop := ∀ l a r, p l = .good a r → ∃ own, own ≠ [] ∧ l = own ++ r ∧ ∀ m, p (own ++ m) = .good a m
theorem GoodA.s {α : Type} {p : Psr α} (h : GoodA p) : GoodS p := fun l a r hp => by
  obtain ⟨own, h1, h2, h3⟩ := h l a r hp
  exact ⟨own, h1, h2, fun m _ => h3 m⟩
theorem sp_parts (l : List UInt8) : ∃ s, l = s ++ spJ l ∧ (∀ c ∈ s, isSp c = true) ∧ ∀ c r, spJ l = c :: r → isSp c = false := by
  induction l with
  | nil => exact ⟨[], rfl, fun c h => (by cases h), fun c r h => (by cases h)⟩
  | cons a l ih =>
    cases ha : isSp a with
    | false =>
      have e : spJ (a :: l) = a :: l := sp_cons ha l
      refine ⟨[], e.symm, fun c h => (by cases h), fun c r h => ?_⟩
      rw [e] at h
      injection h with h _
      rw [← h]
      exact ha
    | true =>
      obtain ⟨s, h1, h2, h3⟩ := ih
      have e : spJ (a :: l) = spJ l := by
        unfold spJ
        rw [List.dropWhile_cons, ha]
        rfl
      rw [e]
      refine ⟨a :: s, ?_, fun c hc => ?_, h3⟩
      · rw [List.cons_append, ← h1]
      · rcases List.mem_cons.1 hc with rfl | hc
        · exact ha
        · exact h2 c hc
theorem sp_skip {s : List UInt8} (h : ∀ c ∈ s, isSp c = true) (l : List UInt8) : spJ (s ++ l) = spJ l := by
  induction s with
  | nil => rfl
  | cons a s ih =>
    have e : spJ (a :: (s ++ l)) = spJ (s ++ l) := by
      unfold spJ
      rw [List.dropWhile_cons, h a (by simp)]
      rfl
    rw [List.cons_append, e]
    exact ih (fun c hc => h c (by simp [hc]))
theorem sp_twice (l : List UInt8) : spJ (spJ l) = spJ l := by
  obtain ⟨s, h1, h2, h3⟩ := sp_parts l
  cases hq : spJ l with
  | nil => rfl
  | cons c r => exact sp_cons (h3 c r hq) r
theorem sp_stop {c : UInt8} (h : isSp c = true) : isDig c = false ∧ c ≠ 46 ∧ c ≠ 101 ∧ c ≠ 69 := by
  unfold isSp at h
  simp only [Bool.or_eq_true, beq_iff_eq] at h
  rcases h with ((rfl | rfl) | rfl) | rfl <;> decide
/-- Spaces, then a byte of no number. -/
theorem stops_sp {s : List UInt8} (h : ∀ c ∈ s, isSp c = true) {c : UInt8} (hc : isDig c = false ∧ c ≠ 46 ∧ c ≠ 101 ∧ c ≠ 69) (r : List UInt8) : Stops (s ++ c :: r) := by
  cases s with
  | nil => exact stops_cons hc r
  | cons a s => exact stops_cons (sp_stop (h a (by simp))) _
section
variable {U : List UInt8 → Option (List UInt8 × List UInt8)} (hU2 : ∀ l s r, U l = some (s, r) → ∃ own, own ≠ [] ∧ l = own ++ r ∧ ∀ m, U (own ++ m) = some (s, m))
include hU2
theorem text_ownJ : GoodA (textJ U) := fun l a r h => by
  unfold textJ at h
  split at h
  · rename_i s r' hu
    injection h with h1 h2
    subst h1 h2
    obtain ⟨own, g1, g2, g3⟩ := hU2 _ _ _ hu
    refine ⟨own, g1, g2, fun m => ?_⟩
    unfold textJ
    rw [g3 m]
  · cases h
theorem member_own {l r : List UInt8} {k : Tr} (h : memberJ U l = .good k r) : spJ r = r ∧ ∃ own, own ≠ [] ∧ l = own ++ r ∧ ∀ m, spJ m = m → memberJ U (own ++ m) = .good k m := by
  obtain ⟨t, s, h1, h2⟩ := bindP_good h
  obtain ⟨own, g1, g2, g3⟩ := text_ownJ hU2 _ _ _ h1
  unfold colonJ at h2
  obtain ⟨sa, a1, a2, a3⟩ := sp_parts s
  cases hq : spJ s with
  | nil => rw [hq] at h2; cases h2
  | cons c q =>
    rw [hq] at h2 a1
    simp only [] at h2
    split at h2
    · rename_i hc
      injection h2 with e1 e2
      obtain ⟨sb, b1, b2, b3⟩ := sp_parts q
      subst e1 e2 hc
      refine ⟨sp_twice q, own ++ (sa ++ 58 :: sb), fun e => g1 (List.append_eq_nil_iff.1 e).1, ?_, fun m hm => ?_⟩
      · rw [List.append_assoc, List.append_assoc, List.cons_append, ← b1, ← a1, ← g2]
      · have h3 := g3 (sa ++ 58 :: (sb ++ m))
        rw [List.append_assoc, List.append_assoc, List.cons_append]
        show bindP (textJ U) colonJ _ = _
        rw [bindP_of h3]
        unfold colonJ
        rw [sp_skip a2, sp_cons (by decide)]
        simp only [if_true]
        rw [sp_skip b2, hm]
    · cases h2
omit hU2 in
theorem next_own {en : UInt8} {a L : List Tr} {go : Psr (List Tr)} {s r : List UInt8} (hen : isSp en = false ∧ isDig en = false ∧ en ≠ 46 ∧ en ≠ 101 ∧ en ≠ 69) (h : nextJ en a go s = .good L r)
    (hg : ∀ l L r, spJ l = l → go l = .good L r → ∃ own, own ≠ [] ∧ l = own ++ r ∧ ∀ m, go (own ++ m) = .good L m) :
    ∃ own, own ≠ [] ∧ s = own ++ r ∧ (∀ m, Stops (own ++ m)) ∧ ∀ m, nextJ en a go (own ++ m) = .good L m := by
  unfold nextJ at h
  obtain ⟨sa, a1, a2, a3⟩ := sp_parts s
  cases hq : spJ s with
  | nil => rw [hq] at h; cases h
  | cons c q =>
    rw [hq] at h a1
    simp only [] at h
    split at h
    · rename_i hc
      injection h with e1 e2
      subst e1 e2 hc
      refine ⟨sa ++ [c], by simp, by rw [List.append_assoc]; exact a1, fun m => ?_, fun m => ?_⟩
      · rw [List.append_assoc]
        exact stops_sp a2 hen.2 m
      · unfold nextJ
        rw [List.append_assoc, sp_skip a2]
        show (match spJ (c :: m) with | [] => PR.bad 80 | x :: r => if x = c then PR.good a r else if x = 44 then go (spJ r) else .bad 80) = _
        rw [sp_cons hen.1]
        simp
    · rename_i hce
      split at h
      · rename_i hc
        subst hc
        obtain ⟨sb, b1, b2, b3⟩ := sp_parts q
        obtain ⟨own, g1, g2, g3⟩ := hg _ _ _ (sp_twice q) h
        have hsn : ∀ m, spJ (own ++ m) = own ++ m := fun m => by
          cases own with
          | nil => exact absurd rfl g1
          | cons x y => exact sp_cons (b3 x (y ++ r) g2) _
        refine ⟨sa ++ 44 :: (sb ++ own), by simp, ?_, fun m => ?_, fun m => ?_⟩
        · rw [List.append_assoc, List.cons_append, List.append_assoc, ← g2, ← b1]
          exact a1
        · rw [List.append_assoc, List.cons_append]
          exact stops_sp a2 (by decide) _
        · rw [List.append_assoc, List.cons_append, List.append_assoc]
          unfold nextJ
          rw [sp_skip a2, sp_cons (by decide)]
          simp only []
          rw [if_neg hce, if_pos trivial, sp_skip b2, hsn, g3 m]
      · cases h
theorem nodes_own {v : Psr Tr} (hv : GoodS v) (mem : Bool) {en : UInt8} (hen : isSp en = false ∧ isDig en = false ∧ en ≠ 46 ∧ en ≠ 101 ∧ en ≠ 69) : ∀ (f : Nat) (acc : List Tr), ∀ l L r, spJ l = l → nodesJ U v mem en f acc l = .good L r → ∃ own, own ≠ [] ∧ l = own ++ r ∧ ∀ m, nodesJ U v mem en f acc (own ++ m) = .good L m
  | 0, acc, l, L, r, _, h => by cases h
  | f + 1, acc, l, L, r, hsp, h => by
    rw [nodesJ] at h ⊢
    cases mem with
    | false =>
      rw [if_neg (by simp)] at h ⊢
      obtain ⟨t, s, h1, h2⟩ := bindP_good h
      obtain ⟨own, g1, g2, g3⟩ := hv _ _ _ h1
      obtain ⟨own2, k1, k2, k3, k4⟩ := next_own hen h2 (nodes_own hv false hen f (acc ++ [t]))
      refine ⟨own ++ own2, fun e => g1 (List.append_eq_nil_iff.1 e).1, by rw [List.append_assoc, ← k2, ← g2], fun m => ?_⟩
      rw [List.append_assoc, bindP_of (g3 _ (k3 m)), k4 m]
    | true =>
      rw [if_pos rfl] at h ⊢
      obtain ⟨k, s0, h0, h⟩ := bindP_good h
      obtain ⟨t, s, h1, h2⟩ := bindP_good h
      obtain ⟨n1, own0, n2, n3, n4⟩ := member_own hU2 h0
      obtain ⟨own, g1, g2, g3⟩ := hv _ _ _ h1
      obtain ⟨own2, k1, k2, k3, k4⟩ := next_own hen h2 (nodes_own hv true hen f (acc ++ [k, t]))
      have hns : ∀ m, spJ (own ++ m) = own ++ m := fun m => by
        cases own with
        | nil => exact absurd rfl g1
        | cons x y =>
          obtain ⟨_, _, _, b3⟩ := sp_parts s0
          rw [n1] at b3
          exact sp_cons (b3 x (y ++ s) g2) _
      refine ⟨own0 ++ (own ++ own2), fun e => n2 (List.append_eq_nil_iff.1 e).1, by rw [List.append_assoc, List.append_assoc, ← k2, ← g2, ← n3], fun m => ?_⟩
      rw [List.append_assoc, List.append_assoc, bindP_of (n4 _ (hns _)), bindP_of (g3 _ (k3 m)), k4 m]
theorem list_own {v : Psr Tr} (hv : GoodS v) (mem : Bool) {en : UInt8} (hen : isSp en = false ∧ isDig en = false ∧ en ≠ 46 ∧ en ≠ 101 ∧ en ≠ 69) (F : Nat) : GoodA (listJ U v mem en F) := fun l L r h => by
  unfold listJ at h
  obtain ⟨sa, a1, a2, a3⟩ := sp_parts l
  have key : ∀ q, spJ l = q → nodesJ U v mem en F [] q = .good L r → (∀ c x, q = c :: x → c ≠ en) → ∃ own, own ≠ [] ∧ l = own ++ r ∧ ∀ m, listJ U v mem en F (own ++ m) = .good L m := fun q hq hn hne => by
    have hqq : spJ q = q := by rw [← hq]; exact sp_twice l
    obtain ⟨own, g1, g2, g3⟩ := nodes_own hU2 hv mem hen F [] q L r hqq hn
    refine ⟨sa ++ own, fun e => g1 (List.append_eq_nil_iff.1 e).2, by rw [List.append_assoc, ← g2, ← hq]; exact a1, fun m => ?_⟩
    have hg := g3 m
    unfold listJ
    rw [List.append_assoc, sp_skip a2]
    cases own with
    | nil => exact absurd rfl g1
    | cons x y =>
      rw [List.cons_append] at hg g2 ⊢
      rw [sp_cons (a3 x (y ++ r) (hq.trans g2))]
      simp only []
      rw [if_neg (hne x _ g2), hg]
  cases hq : spJ l with
  | nil =>
    rw [hq] at h
    exact key [] hq h (fun c x e => by cases e)
  | cons c q =>
    rw [hq] at h
    simp only [] at h
    split at h
    · rename_i hc
      injection h with e1 e2
      subst e1 e2 hc
      rw [hq] at a1
      refine ⟨sa ++ [c], by simp, by rw [List.append_assoc]; exact a1, fun m => ?_⟩
      unfold listJ
      rw [List.append_assoc, sp_skip a2]
      show (match spJ (c :: m) with | [] => nodesJ U v mem c F [] [] | x :: r => if x = c then PR.good [] r else nodesJ U v mem c F [] (x :: r)) = _
      rw [sp_cons hen.1]
      simp
    · rename_i hne
      exact key (c :: q) hq h (fun c' x e => by injection e with e _; rw [← e]; exact hne)
omit hU2 in
theorem word_own (w : List UInt8) (hw : w ≠ []) (t : Tr) : GoodA (wordJ w t) := fun l a r h => by
  unfold wordJ at h
  split at h
  · rename_i e
    injection h with e1 e2
    subst e1 e2
    refine ⟨w, hw, by conv => { lhs; rw [← List.take_append_drop w.length l, e] }, fun m => ?_⟩
    unfold wordJ
    rw [List.take_left' rfl, if_pos rfl, List.drop_left' rfl]
  · cases h
omit hU2 in
theorem num_own : GoodS numJ := fun l a r h => by
  unfold numJ at h
  split at h
  · rename_i d r' hp
    injection h with e1 e2
    subst e1 e2
    obtain ⟨own, g1, g2, g3⟩ := parse_own hp
    refine ⟨own, g1, g2, fun m hm => ?_⟩
    unfold numJ
    rw [g3 m hm]
  · cases h
theorem body_own {sub : Option (Psr Tr)} (hs : ∀ v, sub = some v → GoodS v) (F : Nat) : GoodS (bodyJ U sub F) := fun l a r h => by
  cases l with
  | nil => cases h
  | cons c l =>
    have go : ∀ p : Psr Tr, GoodS p → (∀ x, bodyJ U sub F (c :: x) = p (c :: x)) → ∃ own, own ≠ [] ∧ c :: l = own ++ r ∧ ∀ m, Stops m → bodyJ U sub F (own ++ m) = .good a m := fun p hp hb => by
      rw [hb] at h
      obtain ⟨own, g1, g2, g3⟩ := hp _ _ _ h
      cases own with
      | nil => exact absurd rfl g1
      | cons x y =>
        have hx : x = c := by injection g2 with e _; exact e.symm
        subst hx
        exact ⟨x :: y, g1, g2, fun m hm => by rw [List.cons_append, hb]; exact g3 m hm⟩
    have lst : ∀ (mem : Bool) (en : UInt8) (k : Int) (v : Psr Tr), (isSp en = false ∧ isDig en = false ∧ en ≠ 46 ∧ en ≠ 101 ∧ en ≠ 69) → GoodS v → (∀ x, bodyJ U sub F (c :: x) = bindP (listJ U v mem en F) (fun L => pureP (listT k L)) x) → ∃ own, own ≠ [] ∧ c :: l = own ++ r ∧ ∀ m, Stops m → bodyJ U sub F (own ++ m) = .good a m := fun mem en k v hen hv hb => by
      rw [hb] at h
      obtain ⟨L, s, h1, h2⟩ := bindP_good h
      have h2 : PR.good (listT k L) s = .good a r := h2
      injection h2 with e1 e2
      subst e1 e2
      obtain ⟨own, g1, g2, g3⟩ := list_own hU2 hv mem hen F _ _ _ h1
      refine ⟨c :: own, by simp, by rw [List.cons_append, ← g2], fun m _ => ?_⟩
      rw [List.cons_append, hb, bindP_of (g3 m)]
      rfl
    by_cases c1 : c = 91
    · subst c1
      cases sub with
      | none => cases h
      | some v => exact lst false 93 7 v (by decide) (hs v rfl) (fun x => rfl)
    by_cases c2 : c = 123
    · subst c2
      cases sub with
      | none => cases h
      | some v => exact lst true 125 8 v (by decide) (hs v rfl) (fun x => rfl)
    by_cases c3 : c = 34
    · subst c3
      exact go (textJ U) (text_ownJ hU2).s (fun x => rfl)
    by_cases c4 : c = 110
    · subst c4
      exact go _ (word_own [110, 117, 108, 108] (by simp) nilT).s (fun x => rfl)
    by_cases c5 : c = 116
    · subst c5
      exact go _ (word_own [116, 114, 117, 101] (by simp) (boolT true)).s (fun x => rfl)
    by_cases c6 : c = 102
    · subst c6
      exact go _ (word_own [102, 97, 108, 115, 101] (by simp) (boolT false)).s (fun x => rfl)
    · exact go numJ num_own (fun x => by
        unfold bodyJ
        simp only []
        rw [if_neg c1, if_neg c2, if_neg c3, if_neg c4, if_neg c5, if_neg c6])
/-- A value is its own. -/
theorem value_own (F : Nat) : ∀ d, GoodS (valueJ U F d)
  | 0 => body_own hU2 (fun v h => by cases h) F
  | d + 1 => body_own hU2 (fun v h => by injection h with h; rw [← h]; exact value_own F d) F
end
end Go.Proofs.YtfckekaegjjmkaaGreatDoor
namespace Go.Proofs.YtfckekaegjjmkaaGreatDoor
open Go.RowKit Go.Shelf

section
variable {U : List UInt8 → Option (List UInt8 × List UInt8)} (hU2 : ∀ l s r, U l = some (s, r) → ∃ own, own ≠ [] ∧ l = own ++ r ∧ ∀ m, U (own ++ m) = some (s, m))
include hU2
theorem value_less {F d : Nat} {l r : List UInt8} {t : Tr} (h : valueJ U F d l = .good t r) : r.length + 1 ≤ l.length := by
  obtain ⟨own, h1, h2, _⟩ := value_own hU2 F d _ _ _ h
  cases own with
  | nil => exact absurd rfl h1
  | cons c own => rw [h2, List.length_append, List.length_cons]; omega
theorem member_less {l r : List UInt8} {t : Tr} (h : memberJ U l = .good t r) : r.length + 1 ≤ l.length := by
  obtain ⟨_, own, h1, h2, _⟩ := member_own hU2 h
  cases own with
  | nil => exact absurd rfl h1
  | cons c own => rw [h2, List.length_append, List.length_cons]; omega
end
section
variable {U : List UInt8 → Option (List UInt8 × List UInt8)}
end
end Go.Proofs.YtfckekaegjjmkaaGreatDoor
namespace Go.Proofs.YtfckekaegjjmkaaGreatDoor
open Go.RowKit Go.Shelf

/-- The contract of an iterator that may write between two rounds. -/
def SeqA {α : Type} (P : Program) (g : Nat) (lb : Array Value) (encs : α → Array Value) (Mv Kp : World → World → Prop) (Ct : α → Prop) (T : List α → World → World → Prop) (S Sp : List α → World → Prop) (A0 : World → Prop) : Prop :=
  ∀ (l : Nat) (J Jx : List α → World → Prop) (W : World), A0 W → (∀ s A B, J s A → Mv A B → J s B) → (∀ s A B, Jx s A → Mv A B → Jx s B) →
    (∀ pre x A W1, J pre A → Mv A W1 → J pre W1 → T (pre ++ [x]) A W1 → YieldAt Fence.wide 7 P l (encs x) W1 fun e W' =>
      (e = .returned (.bool true) ∧ Ct x ∧ J (pre ++ [x]) W' ∧ Kp W1 W') ∨ (e = .returned (.bool false) ∧ Jx (pre ++ [x]) W')) →
    J [] W →
    CallsIn Fence.wide 8 P g (#[.func (.yield l) #[] #[]] ++ lb) W fun e W' => (∃ v, e = .returned v) ∧ ((∃ xs, S xs W' ∧ J xs W') ∨ (∃ pre, Sp pre W' ∧ Jx pre W'))

/-- The statement, outside every fence. -/
theorem wp_rangeFuncA {P : Program} {α : Type} {g : Operand} {ps : Array Tmp} {assign body : Code} {Q : Exit → Act → World → Prop} {a : Act} {w : World}
    {gf : Nat} {lb : Array Value} (hg : a.eval g = .func (.func gf) #[] lb) (eg : ∀ args w, (callFunc gf args).run P w = .ok (.enter gf args) w)
    {encs : α → Array Value} {Mv Kp : World → World → Prop} {Ct : α → Prop} {T : List α → World → World → Prop} {S Sp : List α → World → Prop} {A0 : World → Prop} (hseq : SeqA P gf lb encs Mv Kp Ct T S Sp A0)
    (hMv : ∀ (A B : World) (k : Nat) (o : Obj), Mv A B → w.heap.size ≤ k → A.heap[k]? = some o → o.isCells = false → B.heap[k]? = some o)
    (hA0 : ∀ o o', A0 ((w.alloc o).alloc o'))
    (hKt : ∀ {A B C : World}, Kp A B → Kp B C → Kp A C) (hKb : ∀ (W : World) (l : Nat) (o o' : Obj), w.heap.size ≤ l → W.heap[l]? = some o → o.isCells = false → Kp W (W.putObj l o')) (hps : ∀ x, (encs x).size = ps.size)
    (I : List α → World → Prop) (Ix : Code → List α → World → Prop) (hI : OwnFrom w.heap.size I) (hIx : ∀ c, OwnFrom w.heap.size (Ix c))
    (hIM : ∀ s A B, I s A → Mv A B → I s B) (hIxM : ∀ c s A B, Ix c s A → Mv A B → Ix c s B) (h0 : I [] w) (hCt : ∀ pre x W, I (pre ++ [x]) W → Ct x)
    (Ax : Array Value → List α → α → Act → World → Prop) (hAx : ∀ pre x a', OwnFrom w.heap.size (fun (_ : Unit) W => Ax a.tmps pre x a' W))
    (hassign : ∀ (l : Nat) (pre : List α) (x : α) (A W : World) (K : Act → World → Prop), I pre A → Mv A W → I pre W → T (pre ++ [x]) A W → (∀ a' W', KeepsFrom w.heap.size W W' → Kp W W' → I pre W' → Ax a.tmps pre x a' W' → K a' W') →
      assign.wpIn (Fence.wide.inRound l) 7 P (Exit.then K (fun _ _ _ => False)) { tmps := (ps.zip (encs x)).foldl (fun t (p, v) => t.setIfInBounds p v) a.tmps, defers := [] } W)
    (hbody : ∀ (l : Nat) (pre : List α) (x : α) (a' : Act) (W : World), w.heap.size ≤ l → (∃ r, W.heap[l]? = some (.loop r)) → I pre W → Ax a.tmps pre x a' W → body.wpIn (Fence.wide.inRound l) 7 P (ownPostG w.heap.size Kp I Ix (pre ++ [x]) W) a' W)
    (hS : OwnFrom w.heap.size S) (hSp : OwnFrom w.heap.size Sp)
    (hdone : ∀ (D : Nat) (xs : List α) (W : World), w.heap.size ≤ D → S xs W → I xs W → W.heap[D]? = some (.deferred (some [])) → Q .normal { a with defers := { target := .collected D, args := #[] } :: a.defers } W)
    (hstop : ∀ (D : Nat) (c : Code) (pre : List α) (W : World), w.heap.size ≤ D → Sp pre W → Ix c pre W → W.heap[D]? = some (.deferred (some [])) → c.wp P Q { a with defers := { target := .collected D, args := #[] } :: a.defers } W) :
    (Code.rangeFunc g ps assign body).wp P Q a w := by
  refine (wpIn_wide (n := 9)).1 ?_
  refine wpIn_rangeFunc ?_
  intro fn hfn
  rw [show Fence.wide.round = none from rfl]
  obtain ⟨rec, hrec⟩ : ∃ rec : LoopState → Option Code → Loop, rec = fun st pe => { state := st, pending := pe, fn, tmps := a.tmps, params := ps, assign, body, defers := w.heap.size } := ⟨_, rfl⟩
  obtain ⟨W1, hW1⟩ : ∃ W1, (w.alloc (.deferred (some []))).alloc (.loop (rec .ready none)) = W1 := ⟨_, rfl⟩
  have hL1 : W1.heap[w.heap.size + 1]? = some (.loop (rec .ready none)) := by
    have h := World.alloc_heap_new (w.alloc (.deferred (some []))) (.loop (rec .ready none))
    rw [World.size_alloc] at h
    rw [← hW1]
    exact h
  have hK1 : W1.heap[w.heap.size]? = some (.deferred (some [])) := by
    rw [← hW1]
    exact (Below.heap_alloc _ _ _ (by simp)).trans (World.alloc_heap_new w _)
  have hI1 : I [] W1 := by rw [← hW1]; exact hI.alloc _ (hI.alloc _ h0)
  have hA1 : A0 W1 := by rw [← hW1]; exact hA0 _ _
  refine ⟨w.heap.size + 1, [{ target := .collected w.heap.size, args := #[] }], W1, { target := .fn (.func gf) lb, args := #[.func (.yield (w.heap.size + 1)) #[] #[]] }, W1, gf,
    #[.func (.yield (w.heap.size + 1)) #[] #[]] ++ lb, W1, ?_, ?_, ?_, ?_, fun _ => by omega, ?_⟩
  · rw [← hW1, hrec]
    exact run_enterLoop_outer _ _ _ _ _
  · simp only [resolve, hg]
    simp [go_sem]
  · intro f' _
    exact trivial
  · simp [invoke, go_sem, eg]
  · refine (hseq (w.heap.size + 1)
      (fun pre W => I pre W ∧ W.heap[w.heap.size + 1]? = some (.loop (rec .ready none)) ∧ W.heap[w.heap.size]? = some (.deferred (some [])))
      (fun pre W => ∃ c, Ix c pre W ∧ W.heap[w.heap.size + 1]? = some (.loop (rec .done (some c))) ∧ W.heap[w.heap.size]? = some (.deferred (some [])))
      W1 hA1
      (fun s A B hs hm => ⟨hIM s A B hs.1 hm, hMv A B _ _ hm (by omega) hs.2.1 rfl, hMv A B _ _ hm (by omega) hs.2.2 rfl⟩)
      (fun s A B hs hm => by
        obtain ⟨c, hc, hl, hk⟩ := hs
        exact ⟨c, hIxM c s A B hc hm, hMv A B _ _ hm (by omega) hl rfl, hMv A B _ _ hm (by omega) hk rfl⟩)
      ?_ ⟨hI1, hL1, hK1⟩).mono ?_
    · rintro pre x A W ⟨hiA, _, _⟩ hmv ⟨hi, hl, hk⟩ hT
      have hy := run_yield (P := P) (args := encs x) hl (by rw [hrec]; exact hps x)
      rw [hrec] at hy
      refine ⟨fn, _, assign, body, hy, roundIn_of_wpIn hfn (hassign _ pre x A W _ hiA hmv hi hT ?_)⟩
      intro a' Wa hkfa hkpa hia hax
      have hla := hkfa.same _ _ (by omega) hl rfl
      have hka := hkfa.same _ _ (Nat.le_refl _) hk rfl
      have hlt : w.heap.size + 1 < Wa.heap.size := (Array.getElem?_eq_some_iff.1 hla).1
      refine ⟨_, run_beginRound hla (by rw [hrec]), ?_⟩
      have hl2 : (Wa.putObj (w.heap.size + 1) (.loop { rec .ready none with state := .busy })).heap[w.heap.size + 1]? = some (.loop { rec .ready none with state := .busy }) := World.putObj_heap_same hlt
      have hk2 : (Wa.putObj (w.heap.size + 1) (.loop { rec .ready none with state := .busy })).heap[w.heap.size]? = some (.deferred (some [])) := (World.putObj_heap_other (by omega)).trans hka
      have hw2 : Kp Wa (Wa.putObj (w.heap.size + 1) (.loop { rec .ready none with state := .busy })) := hKb _ _ _ _ (by omega) hla rfl
      refine wpIn_mono (hbody _ pre x a' _ (by omega) ⟨_, hl2⟩ (hI.putObj _ hia (by omega) hla rfl) ((hAx pre x a').putObj (s := ()) _ hax (by omega) hla rfl)) ?_
      have fin : ∀ (jump : Option Code) (W3 : World), KeepsFrom w.heap.size (Wa.putObj (w.heap.size + 1) (.loop { rec .ready none with state := .busy })) W3 →
          (Instr.endRound (w.heap.size + 1) jump).run P W3 = .ok (.bool jump.isNone) (W3.putObj (w.heap.size + 1) (.loop (rec (if jump.isNone then .ready else .done) jump))) ∧
          W3.heap[w.heap.size + 1]? = some (.loop { rec .ready none with state := .busy }) ∧
          (W3.putObj (w.heap.size + 1) (.loop (rec (if jump.isNone then .ready else .done) jump))).heap[w.heap.size + 1]? = some (.loop (rec (if jump.isNone then .ready else .done) jump)) ∧
          (W3.putObj (w.heap.size + 1) (.loop (rec (if jump.isNone then .ready else .done) jump))).heap[w.heap.size]? = some (.deferred (some [])) := fun jump W3 hk3 => by
        have hl3 := hk3.same _ _ (by omega) hl2 rfl
        have hr := run_endRound (P := P) jump hl3
        rw [hrec] at hr ⊢
        exact ⟨hr, by rw [hrec] at hl3; exact hl3, World.putObj_heap_same (Array.getElem?_eq_some_iff.1 hl3).1, (World.putObj_heap_other (by omega)).trans (hk3.same _ _ (Nat.le_refl _) hk2 rfl)⟩
      rintro e a3 W3 hp
      cases e with
      | normal =>
        obtain ⟨hk3, hkp3, hi3⟩ := hp
        obtain ⟨hr, hl3, hl4, hk4⟩ := fin none W3 hk3
        exact ⟨_, _, hr, .inl ⟨rfl, hCt _ _ _ hi3, ⟨hI.putObj _ hi3 (by omega) hl3 rfl, hl4, hk4⟩, hKt hkpa (hKt (hKt hw2 hkp3) (hKb _ _ _ _ (by omega) hl3 rfl))⟩⟩
      | ret =>
        obtain ⟨hk3, hi3⟩ := hp
        obtain ⟨hr, hl3, hl4, hk4⟩ := fin (some .ret) W3 hk3
        exact ⟨_, _, hr, .inr ⟨rfl, .ret, (hIx _).putObj _ hi3 (by omega) hl3 rfl, hl4, hk4⟩⟩
      | exit id =>
        obtain ⟨hk3, hi3⟩ := hp
        obtain ⟨hr, hl3, hl4, hk4⟩ := fin (some (.exit id)) W3 hk3
        exact ⟨_, _, hr, .inr ⟨rfl, .exit id, (hIx _).putObj _ hi3 (by omega) hl3 rfl, hl4, hk4⟩⟩
      | goto t =>
        obtain ⟨hk3, hi3⟩ := hp
        obtain ⟨hr, hl3, hl4, hk4⟩ := fin (some (.goto t)) W3 hk3
        exact ⟨_, _, hr, .inr ⟨rfl, .goto t, (hIx _).putObj _ hi3 (by omega) hl3 rfl, hl4, hk4⟩⟩
      | panic ch => exact hp.elim
      | outgrown => exact hp.elim
    · rintro e W2 ⟨⟨v, rfl⟩, (⟨xs, hs, hi, hl, hk⟩ | ⟨pre, hs, c, hi, hl, hk⟩)⟩
      · exact ⟨none, _, by have h := run_endLoop (P := P) hl (by rw [hrec]; simp); rw [hrec] at h; exact h, hdone _ xs _ (Nat.le_refl _) (hS.putObj _ hs (by omega) hl rfl) (hI.putObj _ hi (by omega) hl rfl) ((World.putObj_heap_other (by omega)).trans hk)⟩
      · exact ⟨some c, _, by have h := run_endLoop (P := P) hl (by rw [hrec]; simp); rw [hrec] at h; exact h, wpIn_wide.2 (hstop _ c pre _ (Nat.le_refl _) (hSp.putObj _ hs (by omega) hl rfl) ((hIx c).putObj _ hi (by omega) hl rfl) ((World.putObj_heap_other (by omega)).trans hk))⟩
end Go.Proofs.YtfckekaegjjmkaaGreatDoor
