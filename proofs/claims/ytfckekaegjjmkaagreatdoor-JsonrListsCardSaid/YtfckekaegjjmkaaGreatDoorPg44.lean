/- The texts JrR, JsG, JsH, JsI, JsK, JrS, JsO, put together. -/
import Derived.Test.YtfckekaegjjmkaaGreatDoorPg43
import Derived.Test.YtfckekaegjjmkaaGreatDoorPg41
namespace Go.Proofs.YtfckekaegjjmkaaGreatDoor
open Go.RowKit Go.Shelf
attribute [local go_sem] Oper.semAt_some

theorem check_count {f : Int} {fl : Own → Bool} {t : Tr} (h : checkT f fl t = 0) : t.count ≤ 300 := by
  unfold checkT at h
  split at h
  · rename_i hr
    unfold rightT at hr
    rw [Bool.and_eq_true, decide_eq_true_iff] at hr
    exact hr.1
  · cases h
theorem rj_cases (s : ByteArray) : (((RJ s).1 = 80 ∨ (RJ s).1 = 60 ∨ ((RJ s).1 = 81 ∧ 4000 < s.size)) ∧ (RJ s).2 = .nd zeroO []) ∨ ((RJ s).1 = 0 ∧ checkT 1 flJ (RJ s).2 = 0 ∧ (RJ s).2.count ≤ 300) := by
  have hlen : s.data.toList.length = s.size := by simp
  have hc := readJ_cases (U := uqJ) s.data.toList
  rw [hlen] at hc
  rcases hc with ⟨_, h2, h3⟩ | ⟨h1, h2, _⟩
  · exact .inl ⟨h3, h2⟩
  · exact .inr ⟨h1, h2, check_count h2⟩

end Go.Proofs.YtfckekaegjjmkaaGreatDoor
namespace Go.Proofs.YtfckekaegjjmkaaGreatDoor
open Go.RowKit Go.Shelf

theorem last_of {l : List UInt8} (h0 : l ≠ []) (hd : ∀ c ∈ l, isDig c = true) : ∃ o c, l = o ++ [c] ∧ isDig c = true := by
  refine ⟨l.dropLast, l.getLast h0, (List.dropLast_concat_getLast h0).symm, hd _ (List.getLast_mem h0)⟩
theorem power_last {l r : List UInt8} {e : Int} (h : powerP l = some (e, r)) : r = l ∨ ∃ o c, l = o ++ c :: r ∧ isDig c = true := by
  unfold powerP at h
  split at h
  · rename_i c t
    split at h
    · split at h
      · injection h with h
        injection h with _ h
        exact .inl h.symm
      · rename_i hd
        split at h
        · injection h with h
          injection h with _ h2
          obtain ⟨s0, hs, _⟩ := sign_own t
          obtain ⟨o, x, ho, hx⟩ := last_of hd (take_dig _)
          refine .inr ⟨c :: (s0 ++ o), x, ?_, hx⟩
          have h3 : (signP t).2 = (digits (signP t).2).1 ++ r := by rw [← h2]; exact (List.take_append_drop _ _).symm
          rw [List.cons_append, List.append_assoc]
          conv => lhs; rw [hs, h3, ho]
          simp
        · cases h
    · injection h with h
      injection h with _ h
      exact .inl h.symm
  · injection h with h
    injection h with _ h
    exact .inl h.symm
theorem part_last (l : List UInt8) : (partP l).2 = l ∨ ∃ o c, l = o ++ c :: (partP l).2 ∧ isDig c = true := by
  unfold partP
  split
  · rename_i r
    split
    · exact .inl rfl
    · rename_i hd
      obtain ⟨o, x, ho, hx⟩ := last_of hd (take_dig _)
      refine .inr ⟨46 :: o, x, ?_, hx⟩
      have h3 : r = (digits r).1 ++ (digits r).2 := (List.take_append_drop _ _).symm
      conv => lhs; rw [h3, ho]
      simp
  · exact .inl rfl
theorem whole_last (l : List UInt8) (h : (wholeP l).1 ≠ []) : ∃ o c, l = o ++ c :: (wholeP l).2 ∧ isDig c = true := by
  obtain ⟨h1, h2, _⟩ := whole_own l
  obtain ⟨o, x, ho, hx⟩ := last_of h h2
  refine ⟨o, x, ?_, hx⟩
  conv => lhs; rw [h1, ho]
  simp
theorem parse_last {l r : List UInt8} {d : Bool × ByteArray × Int} (h : parseD l = some (d, r)) : ∃ o c, l = o ++ c :: r ∧ isDig c = true := by
  unfold parseD at h
  obtain ⟨s0, a1, _⟩ := minus_own l
  split at h
  · cases h
  rename_i hw
  split at h
  · cases h
  · rename_i e r' hp
    split at h
    · cases h
    · injection h with h
      injection h with _ h2
      subst h2
      obtain ⟨o, c, h1, hc⟩ := whole_last _ hw
      rcases power_last hp with h3 | ⟨o3, c3, h3, hc3⟩
      · rw [h3]
        rcases part_last (wholeP (minusP l).2).2 with h4 | ⟨o4, c4, h4, hc4⟩
        · rw [h4]
          exact ⟨s0 ++ o, c, by rw [List.append_assoc, ← h1]; exact a1, hc⟩
        · refine ⟨s0 ++ (o ++ c :: o4), c4, ?_, hc4⟩
          rw [List.append_assoc, List.append_assoc, List.cons_append, ← h4, ← h1]
          exact a1
      · rcases part_last (wholeP (minusP l).2).2 with h4 | ⟨o4, c4, h4, hc4⟩
        · rw [h4] at h3
          refine ⟨s0 ++ (o ++ c :: o3), c3, ?_, hc3⟩
          rw [List.append_assoc, List.append_assoc, List.cons_append, ← h3, ← h1]
          exact a1
        · refine ⟨s0 ++ (o ++ c :: (o4 ++ c4 :: o3)), c3, ?_, hc3⟩
          rw [List.append_assoc, List.append_assoc, List.cons_append, List.append_assoc, List.cons_append, ← h3, ← h4, ← h1]
          exact a1
/-- What is read does not end in space. -/
def LastP {α : Type} (p : Psr α) : Prop := ∀ l a r, p l = .good a r → ∃ o c, l = o ++ c :: r ∧ isSp c = false
section
variable {U : List UInt8 → Option (List UInt8 × List UInt8)} (hU3 : ∀ l s r, U l = some (s, r) → ∃ o, l = o ++ 34 :: r)
include hU3
theorem last_text : LastP (textJ U) := fun l a r h => by
  unfold textJ at h
  split at h
  · rename_i s r' hu
    injection h with _ h2
    subst h2
    obtain ⟨o, ho⟩ := hU3 _ _ _ hu
    exact ⟨o, 34, ho, rfl⟩
  · cases h
theorem text_rest {l r : List UInt8} {t : Tr} (h : memberJ U l = .good t r) : ∃ o, l = o ++ r := by
  obtain ⟨k, s, h1, h2⟩ := bindP_good h
  obtain ⟨o, c, h3, _⟩ := last_text hU3 _ _ _ h1
  unfold colonJ at h2
  obtain ⟨sa, a1, _, _⟩ := sp_parts s
  split at h2
  · cases h2
  · rename_i x q hq
    split at h2
    · injection h2 with _ e2
      obtain ⟨sb, b1, _, _⟩ := sp_parts q
      rw [hq] at a1
      refine ⟨o ++ c :: (sa ++ x :: sb), ?_⟩
      rw [List.append_assoc, List.cons_append, List.append_assoc, List.cons_append, ← e2, ← b1, ← a1]
      exact h3
    · cases h2
theorem last_nodes {v : Psr Tr} (hv : LastP v) (mem : Bool) {en : UInt8} (hen : isSp en = false) : ∀ (f : Nat) (acc : List Tr), LastP (nodesJ U v mem en f acc)
  | 0, acc => fun l L r h => by cases h
  | f + 1, acc => fun l L r h => by
    have nxt : ∀ (a : List Tr) (s : List UInt8), nextJ en a (nodesJ U v mem en f a) s = .good L r → ∃ o c, s = o ++ c :: r ∧ isSp c = false := fun a s h => by
      unfold nextJ at h
      obtain ⟨sa, a1, _, _⟩ := sp_parts s
      split at h
      · cases h
      · rename_i x q hq
        rw [hq] at a1
        split at h
        · rename_i hx
          injection h with _ e
          rw [e] at a1
          exact ⟨sa, x, a1, by rw [hx]; exact hen⟩
        · split at h
          · obtain ⟨o, c, h1, h2⟩ := last_nodes hv mem hen f a _ _ _ h
            obtain ⟨sb, b1, _, _⟩ := sp_parts q
            refine ⟨sa ++ x :: (sb ++ o), c, ?_, h2⟩
            rw [List.append_assoc, List.cons_append, List.append_assoc, ← h1, ← b1]
            exact a1
          · cases h
    rw [nodesJ] at h
    split at h
    · obtain ⟨k, s0, h0, h⟩ := bindP_good h
      obtain ⟨t, s, h1, h2⟩ := bindP_good h
      obtain ⟨o0, e0⟩ := text_rest hU3 h0
      obtain ⟨o1, c1, e1, _⟩ := hv _ _ _ h1
      obtain ⟨o, c, e2, hc⟩ := nxt _ _ h2
      exact ⟨o0 ++ (o1 ++ c1 :: o), c, by rw [List.append_assoc, List.append_assoc, List.cons_append, ← e2, ← e1]; exact e0, hc⟩
    · obtain ⟨t, s, h1, h2⟩ := bindP_good h
      obtain ⟨o1, c1, e1, _⟩ := hv _ _ _ h1
      obtain ⟨o, c, e2, hc⟩ := nxt _ _ h2
      exact ⟨o1 ++ c1 :: o, c, by rw [List.append_assoc, List.cons_append, ← e2]; exact e1, hc⟩
theorem last_list {v : Psr Tr} (hv : LastP v) (mem : Bool) {en : UInt8} (hen : isSp en = false) (F : Nat) : LastP (listJ U v mem en F) := fun l L r h => by
  unfold listJ at h
  obtain ⟨sa, a1, _, _⟩ := sp_parts l
  split at h
  · rename_i hq
    obtain ⟨o, c, e, hc⟩ := last_nodes hU3 hv mem hen F _ _ _ _ h
    rw [hq, e] at a1
    exact ⟨sa ++ o, c, by rw [List.append_assoc]; exact a1, hc⟩
  · rename_i x q hq
    rw [hq] at a1
    split at h
    · rename_i hx
      injection h with _ e
      rw [e] at a1
      exact ⟨sa, x, a1, by rw [hx]; exact hen⟩
    · obtain ⟨o, c, e, hc⟩ := last_nodes hU3 hv mem hen F _ _ _ _ h
      rw [e] at a1
      exact ⟨sa ++ o, c, by rw [List.append_assoc]; exact a1, hc⟩
omit hU3 in
theorem last_word {w : List UInt8} {o' : List UInt8} {c' : UInt8} (hw : w = o' ++ [c']) (hc : isSp c' = false) (t : Tr) : LastP (wordJ w t) := fun l a r h => by
  unfold wordJ at h
  split at h
  · rename_i e
    injection h with _ e2
    refine ⟨o', c', ?_, hc⟩
    rw [← e2]
    conv => lhs; rw [← List.take_append_drop w.length l, e, hw]
    simp [hw]
  · cases h
theorem last_body {sub : Option (Psr Tr)} (hs : ∀ v, sub = some v → LastP v) (F : Nat) : LastP (bodyJ U sub F) := fun l a r h => by
  unfold bodyJ at h
  split at h
  · cases h
  · rename_i c l
    split at h
    · split at h
      · cases h
      · obtain ⟨L, s, h1, h2⟩ := bindP_good h
        have h2 : PR.good (listT 7 L) s = .good a r := h2
        injection h2 with _ e
        obtain ⟨o, x, h3, hx⟩ := last_list hU3 (hs _ rfl) false (en := 93) rfl F _ _ _ h1
        rw [← e]
        exact ⟨c :: o, x, by rw [h3]; rfl, hx⟩
    split at h
    · split at h
      · cases h
      · obtain ⟨L, s, h1, h2⟩ := bindP_good h
        have h2 : PR.good (listT 8 L) s = .good a r := h2
        injection h2 with _ e
        obtain ⟨o, x, h3, hx⟩ := last_list hU3 (hs _ rfl) true (en := 125) rfl F _ _ _ h1
        rw [← e]
        exact ⟨c :: o, x, by rw [h3]; rfl, hx⟩
    split at h
    · exact last_text hU3 _ _ _ h
    split at h
    · exact last_word (o' := [110, 117, 108]) (c' := 108) rfl rfl _ _ _ _ h
    split at h
    · exact last_word (o' := [116, 114, 117]) (c' := 101) rfl rfl _ _ _ _ h
    split at h
    · exact last_word (o' := [102, 97, 108, 115]) (c' := 101) rfl rfl _ _ _ _ h
    · unfold numJ at h
      split at h
      · rename_i d r' hp
        injection h with _ e
        obtain ⟨o, x, h3, hx⟩ := parse_last hp
        rw [← e]
        exact ⟨o, x, h3, (dig_beg hx).1⟩
      · cases h
theorem last_value (F : Nat) : ∀ d, LastP (valueJ U F d)
  | 0 => last_body hU3 (fun v h => by cases h) F
  | d + 1 => last_body hU3 (fun v h => by injection h with h; rw [← h]; exact last_value F d) F
end
end Go.Proofs.YtfckekaegjjmkaaGreatDoor
namespace Go.Proofs.YtfckekaegjjmkaaGreatDoor
open Go.RowKit Go.Shelf

def AllSp (s : List UInt8) : Prop := ∀ c ∈ s, isSp c = true
theorem allSp_stops {s : List UInt8} (h : AllSp s) : Stops s := fun c r e => sp_stop (h c (by rw [e]; simp))
theorem allSp_nil {s : List UInt8} : spJ s = [] ↔ AllSp s := by
  constructor
  · intro h
    obtain ⟨a, h1, h2, _⟩ := sp_parts s
    rw [h, List.append_nil] at h1
    rw [h1]
    exact h2
  · intro h
    have := sp_skip h []
    rw [List.append_nil] at this
    exact this
section
variable {U : List UInt8 → Option (List UInt8 × List UInt8)} (hU2 : ∀ l s r, U l = some (s, r) → ∃ own, own ≠ [] ∧ l = own ++ r ∧ ∀ m, U (own ++ m) = some (s, m)) (hU3 : ∀ l s r, U l = some (s, r) → ∃ o, l = o ++ 34 :: r)
include hU2
/-- A document's value: its own bytes, between spaces. -/
theorem doc_parts {F : Nat} {l s : List UInt8} {t : Tr} (hF : l.length < F) (h : docJ U F l = .good t s) : s = [] ∧ rightT t = true ∧ ∃ a own b, l = a ++ (own ++ b) ∧ AllSp a ∧ AllSp b ∧ own ≠ [] ∧ (∀ c r, own = c :: r → isSp c = false) ∧ ∀ F' m, (own ++ m).length < F' → Stops m → valueJ U F' 16 (own ++ m) = .good t m := by
  unfold docJ at h
  split at h
  · cases h
  · rename_i t' r hv
    split at h
    · cases h
    · rename_i hr
      split at h
      · rename_i hright
        injection h with e1 e2
        subst e1
        obtain ⟨a, a1, a2, a3⟩ := sp_parts l
        obtain ⟨own, g1, g2, _⟩ := value_own hU2 F 16 _ _ _ hv
        refine ⟨e2.symm, hright, a, own, r, by rw [← g2]; exact a1, a2, allSp_nil.1 (by simpa using hr), g1, fun c q e => a3 c (q ++ r) (by rw [g2, e]; rfl), fun F' m hm hs => ?_⟩
        have hz := sp_len l
        -- read again with enough
        have h1 : valueJ U (max F F') 16 (spJ l) = .good t' r := by
          rw [value_fuel hU2 16 (max F F') F _ (by omega) (by omega)]
          exact hv
        obtain ⟨own', k1, k2, k3⟩ := value_own hU2 (max F F') 16 _ _ _ h1
        have he : own' = own := by
          rw [g2] at k2
          exact (List.append_cancel_right k2).symm
        subst he
        rw [value_fuel hU2 16 F' (max F F') _ hm (by omega)]
        exact k3 m hs
      · cases h
omit hU2 in
/-- A document of those parts. -/
theorem doc_of {F : Nat} {l a own b : List UInt8} {t : Tr} (hl : l = a ++ (own ++ b)) (ha : AllSp a) (hb : AllSp b) (h0 : own ≠ []) (h1 : ∀ c r, own = c :: r → isSp c = false) (hv : valueJ U F 16 (own ++ b) = .good t b) (hr : rightT t = true) : docJ U F l = .good t [] := by
  have hs : spJ l = own ++ b := by
    rw [hl, sp_skip ha]
    cases own with
    | nil => exact absurd rfl h0
    | cons c r => exact sp_cons (h1 c r rfl) _
  unfold docJ
  rw [hs, hv]
  simp only []
  rw [if_neg (by simp [allSp_nil.2 hb]), if_pos hr]
/-- Space around a document makes no difference. -/
theorem doc_space {F F' : Nat} {l g g' : List UInt8} {t : Tr} (hF : l.length < F) (hF' : (g ++ (l ++ g')).length < F') (hg : AllSp g) (hg' : AllSp g') (h : docJ U F l = .good t []) : docJ U F' (g ++ (l ++ g')) = .good t [] := by
  obtain ⟨_, hr, a, own, b, rfl, ha, hb, h0, h1, hv⟩ := doc_parts hU2 hF h
  have hb' : AllSp (b ++ g') := fun c hc => (List.mem_append.1 hc).elim (hb c) (hg' c)
  refine doc_of (a := g ++ a) (own := own) (b := b ++ g') (by simp) (fun c hc => (List.mem_append.1 hc).elim (hg c) (ha c)) hb' h0 h1 (hv F' _ ?_ (allSp_stops hb')) hr
  simp only [List.length_append] at hF' ⊢
  omega
include hU3
theorem space_doc {F F' : Nat} {l g g' : List UInt8} {t : Tr} (hF : l.length < F) (hF' : (g ++ (l ++ g')).length < F') (hg : AllSp g) (hg' : AllSp g') (h : docJ U F' (g ++ (l ++ g')) = .good t []) : docJ U F l = .good t [] := by
  have hr : rightT t = true := (doc_parts hU2 hF' h).2.1
  unfold docJ at h
  rw [sp_skip hg] at h
  split at h
  · cases h
  rename_i t' r hv
  split at h
  · cases h
  rename_i hrs
  have hrsp : AllSp r := allSp_nil.1 (by simpa using hrs)
  have ht : t' = t := by
    split at h
    · injection h
    · cases h
  subst ht
  obtain ⟨a, a1, a2, a3⟩ := sp_parts l
  cases hq : spJ l with
  | nil =>
    have hall : AllSp (l ++ g') := fun c hc => (List.mem_append.1 hc).elim (allSp_nil.1 hq c) (hg' c)
    rw [allSp_nil.2 hall] at hv
    cases hv
  | cons x q =>
    have hsp : spJ (l ++ g') = spJ l ++ g' := by
      conv => lhs; rw [a1, List.append_assoc, sp_skip a2, hq]
      rw [hq]
      exact sp_cons (a3 x q hq) _
    rw [hsp] at hv
    obtain ⟨own, g1, g2, g3⟩ := value_own hU2 F' 16 _ _ _ hv
    obtain ⟨o, c, k1, k2⟩ := last_value hU3 F' 16 _ _ _ hv
    have hown : own = o ++ [c] := by
      have : own ++ r = (o ++ [c]) ++ r := by rw [← g2, k1]; simp
      exact List.append_cancel_right this
    -- own lies in l
    have hle : own.length ≤ (spJ l).length := by
      apply Decidable.byContradiction
      intro hlt
      have h1 : own[own.length - 1]? = (spJ l ++ g')[own.length - 1]? := by
        rw [g2, List.getElem?_append_left (by have := List.length_pos_iff.2 g1; omega)]
      rw [List.getElem?_append_right (by omega)] at h1
      have h2 : own[own.length - 1]? = some c := by
        rw [hown]
        simp
      rw [h2] at h1
      have h3 := hg' c (List.mem_of_getElem? h1.symm)
      rw [k2] at h3
      cases h3
    have hpre : spJ l = own ++ (spJ l).drop own.length := by
      have h1 := congrArg (List.take own.length) g2
      rw [List.take_append_of_le_length hle, List.take_left' rfl] at h1
      conv => lhs; rw [← List.take_append_drop own.length (spJ l), h1]
    have hrr : r = (spJ l).drop own.length ++ g' := by
      have h1 := congrArg (List.drop own.length) g2
      rw [List.drop_append_of_le_length hle, List.drop_left' rfl] at h1
      exact h1.symm
    have hb : AllSp ((spJ l).drop own.length) := fun y hy => hrsp y (by rw [hrr]; exact List.mem_append_left _ hy)
    have hz := sp_len l
    have hv2 := g3 _ (allSp_stops hb)
    rw [← hpre] at hv2
    have hv3 : valueJ U F 16 (spJ l) = .good t' ((spJ l).drop own.length) := by
      rw [value_fuel hU2 16 F (max F F') _ (by omega) (by omega), ← value_fuel hU2 16 F' (max F F') _ (by simp only [List.length_append] at hF'; omega) (by simp only [List.length_append] at hF'; omega)]
      exact hv2
    unfold docJ
    rw [hv3]
    simp only []
    rw [if_neg (by simp [allSp_nil.2 hb]), if_pos hr]
end
end Go.Proofs.YtfckekaegjjmkaaGreatDoor
namespace Go.Proofs.YtfckekaegjjmkaaGreatDoor
open Go.RowKit Go.Shelf

/-- A document's text and its tree, as a part of a longer one. -/
def IsDoc (U : List UInt8 → Option (List UInt8 × List UInt8)) (x : List UInt8 × Tr) : Prop := ∃ a own b, x.1 = a ++ (own ++ b) ∧ AllSp a ∧ AllSp b ∧ own ≠ [] ∧ (∀ c r, own = c :: r → isSp c = false ∧ c ≠ 93) ∧ ∀ F' m, (own ++ m).length < F' → Stops m → valueJ U F' 16 (own ++ m) = .good x.2 m
theorem isDoc_of {U : List UInt8 → Option (List UInt8 × List UInt8)} (hU2 : ∀ l s r, U l = some (s, r) → ∃ own, own ≠ [] ∧ l = own ++ r ∧ ∀ m, U (own ++ m) = some (s, m)) {F : Nat} {l s : List UInt8} {t : Tr} (hF : l.length < F) (h : docJ U F l = .good t s) : IsDoc U (l, t) := by
  obtain ⟨_, _, a, own, b, h1, h2, h3, h4, h5, h6⟩ := doc_parts hU2 hF h
  refine ⟨a, own, b, h1, h2, h3, h4, fun c r e => ⟨h5 c r e, fun hc => ?_⟩, h6⟩
  -- no value begins with a bracket that ends
  have h7 := h6 ((own ++ []).length + 1) [] (by omega) (fun c r e => by cases e)
  rw [e, hc] at h7
  have h8 : numJ (93 :: (r ++ [])) = .good t [] := h7
  unfold numJ at h8
  split at h8
  · rename_i d q hp
    obtain ⟨own', g1, g2, _⟩ := parse_own hp
    obtain ⟨s0, a1, _⟩ := minus_own (93 :: (r ++ []))
    have hw : wholeP (93 :: (r ++ [])) = ([], 93 :: (r ++ [])) := digits_none (digN_cons_no (by decide))
    unfold parseD at hp
    rw [show minusP (93 :: (r ++ [])) = (false, 93 :: (r ++ [])) from rfl, hw, if_pos rfl] at hp
    cases hp
  · cases h8
/-- The documents behind the first, the end, and what stands behind. -/
def tailD : List (List UInt8 × Tr) → List UInt8 → List UInt8
  | [], m => 93 :: m
  | x :: l, m => 44 :: (x.1 ++ tailD l m)
theorem tail_stop {b : List UInt8} (hb : AllSp b) (l : List (List UInt8 × Tr)) (m : List UInt8) : Stops (b ++ tailD l m) := by
  cases l with
  | nil => exact stops_sp hb (by decide) _
  | cons x l => exact stops_sp hb (by decide) _
theorem rows_docs {U : List UInt8 → Option (List UInt8 × List UInt8)} (F : Nat) (d : Nat) (m : List UInt8) : ∀ (l : List (List UInt8 × Tr)) (x : List UInt8 × Tr) (f : Nat) (acc : List Tr), l.length < f → (x.1 ++ tailD l m).length < F → (∀ y ∈ x :: l, IsDoc U y) →
    nodesJ U (valueJ U F d) false 93 f acc (spJ (x.1 ++ tailD l m)) = if nestL ((x :: l).map (·.2)) ≤ d then .good (acc ++ (x :: l).map (·.2)) m else .bad 60
  | _, _, 0, _, h, _, _ => by omega
  | l, x, f + 1, acc, hf, hF, hd => by
    obtain ⟨a, own, b, h1, h2, h3, h4, h5, h6⟩ := hd x (by simp)
    have hs : spJ (x.1 ++ tailD l m) = own ++ (b ++ tailD l m) := by
      rw [h1, List.append_assoc, sp_skip h2, List.append_assoc]
      cases own with
      | nil => exact absurd rfl h4
      | cons c r => exact sp_cons (h5 c r rfl).1 _
    have hlen : (own ++ (b ++ tailD l m)).length < F := by
      rw [h1] at hF
      simp only [List.length_append] at hF ⊢
      omega
    have hv := value_rel (U := U) F 16 d _ _ _ (h6 F _ hlen (tail_stop h3 l m))
    rw [hs, nodesJ, if_neg (by simp), List.map_cons, nestL]
    by_cases ht : nestT x.2 ≤ d
    · rw [if_pos ht] at hv
      rw [bindP_of hv]
      cases l with
      | nil =>
        unfold nextJ
        rw [tailD, sp_skip h3, sp_cons (by decide)]
        simp only [if_true]
        rw [List.map_nil, nestL, if_pos (by omega)]
      | cons y l =>
        have ih := rows_docs F d m l y f (acc ++ [x.2]) (by simpa using hf) (by
          rw [tailD] at hF
          simp only [List.length_append, List.length_cons] at hF ⊢
          omega) (fun z hz => hd z (List.mem_cons_of_mem _ hz))
        unfold nextJ
        rw [tailD, sp_skip h3, sp_cons (by decide)]
        simp only []
        rw [if_neg (by decide), if_pos trivial, ih]
        by_cases hn : nestL ((y :: l).map (·.2)) ≤ d
        · rw [if_pos hn, if_pos (by omega)]
          simp
        · rw [if_neg hn, if_neg (by omega)]
    · rw [if_neg ht] at hv
      rw [bindP_bad hv, if_neg (by omega)]
/-- An array of documents is read as one of their trees. -/
theorem array_docs {U : List UInt8 → Option (List UInt8 × List UInt8)} (F d : Nat) (m : List UInt8) (l : List (List UInt8 × Tr)) (x : List UInt8 × Tr) (hF : (x.1 ++ tailD l m).length < F) (hl : l.length < F) (hd : ∀ y ∈ x :: l, IsDoc U y) :
    valueJ U F (d + 1) (91 :: (x.1 ++ tailD l m)) = if nestL ((x :: l).map (·.2)) ≤ d then .good (listT 7 ((x :: l).map (·.2))) m else .bad 60 := by
  have hr := rows_docs F d m l x F [] hl hF hd
  rw [List.nil_append] at hr
  have hlist : listJ U (valueJ U F d) false 93 F (x.1 ++ tailD l m) = if nestL ((x :: l).map (·.2)) ≤ d then .good ((x :: l).map (·.2)) m else .bad 60 := by
    obtain ⟨a, own, b, h1, h2, h3, h4, h5, h6⟩ := hd x (by simp)
    obtain ⟨c, q, hs, hc⟩ : ∃ c q, spJ (x.1 ++ tailD l m) = c :: q ∧ c ≠ 93 := by
      cases own with
      | nil => exact absurd rfl h4
      | cons c r =>
        refine ⟨c, r ++ (b ++ tailD l m), ?_, (h5 c r rfl).2⟩
        rw [h1, List.append_assoc, sp_skip h2, List.append_assoc]
        exact sp_cons (h5 c r rfl).1 _
    unfold listJ
    rw [hs] at hr ⊢
    simp only []
    rw [if_neg hc, hr]
  show bindP (listJ U (valueJ U F d) false 93 F) (fun L => pureP (listT 7 L)) (x.1 ++ tailD l m) = _
  by_cases hn : nestL ((x :: l).map (·.2)) ≤ d
  · rw [if_pos hn] at hlist ⊢
    rw [bindP_of hlist]
    rfl
  · rw [if_neg hn] at hlist ⊢
    rw [bindP_bad hlist]
end Go.Proofs.YtfckekaegjjmkaaGreatDoor
namespace Go.Proofs.YtfckekaegjjmkaaGreatDoor
open Go.RowKit Go.Shelf

end Go.Proofs.YtfckekaegjjmkaaGreatDoor
namespace Go.Proofs.YtfckekaegjjmkaaGreatDoor
open Go.RowKit Go.Shelf
attribute [local go_sem] Oper.semAt_some


end Go.Proofs.YtfckekaegjjmkaaGreatDoor
namespace Go.Proofs.YtfckekaegjjmkaaGreatDoor
open Go.RowKit Go.Shelf

mutual
theorem nest_depth : ∀ t : Tr, nestT t ≤ t.depth
  | .nd o l => by
    have h := nest_depthL l
    rw [nestT, Tr.depth]
    split <;> omega
theorem nest_depthL : ∀ l : List Tr, nestL l ≤ depthL l
  | [] => by rw [nestL]; exact Nat.zero_le _
  | t :: l => by
    have h1 := nest_depth t
    have h2 := nest_depthL l
    rw [nestL, depthL]
    omega
end
theorem two_right {t : Tr} (h : rightT t = true) : (rightT (listT 7 [t, t]) = true ↔ t.count ≤ 149 ∧ t.depth ≤ 15) ∧ t.depth ≤ 16 := by
  unfold rightT at h
  rw [Bool.and_eq_true, Bool.and_eq_true, decide_eq_true_iff, decide_eq_true_iff] at h
  obtain ⟨h1, h2, h3⟩ := h
  have hc : (listT 7 [t, t]).count = 1 + (t.count + t.count) := by
    unfold listT
    rw [Tr.count, countL, countL, countL]
    omega
  have hd : (listT 7 [t, t]).depth = t.depth + 1 := by
    unfold listT
    rw [Tr.depth, depthL, depthL, depthL]
    omega
  have ha : allB (listT 7 [t, t]) = true := by
    unfold listT
    rw [allB, allL, allL, allL, h3]
    unfold ownB
    simp [onlyB]
  refine ⟨?_, h2⟩
  unfold rightT
  rw [hc, hd, ha, Bool.and_true, Bool.and_eq_true, decide_eq_true_iff, decide_eq_true_iff]
  omega
/-- A document twice in an array, with space. -/
theorem two_docs {U : List UInt8 → Option (List UInt8 × List UInt8)} (hU2 : ∀ l s r, U l = some (s, r) → ∃ own, own ≠ [] ∧ l = own ++ r ∧ ∀ m, U (own ++ m) = some (s, m)) {F F' : Nat} {l g g' : List UInt8} {t : Tr} (hF : l.length < F) (hg : AllSp g) (hg' : AllSp g') (h : docJ U F l = .good t [])
    (hF' : (91 :: ((g ++ (l ++ g')) ++ 44 :: ((g' ++ l) ++ [93]))).length < F') :
    docJ U F' (91 :: ((g ++ (l ++ g')) ++ 44 :: ((g' ++ l) ++ [93]))) = if t.count ≤ 149 ∧ t.depth ≤ 15 then .good (listT 7 [t, t]) [] else .bad 60 := by
  have hr : rightT t = true := (doc_parts hU2 hF h).2.1
  obtain ⟨hrr, hd16⟩ := two_right hr
  have d1 := doc_space hU2 (F' := (g ++ (l ++ g')).length + 1) hF (by omega) hg hg' h
  have d2 := doc_space hU2 (g := g') (g' := []) (F' := (g' ++ (l ++ [])).length + 1) hF (by omega) hg' (fun c hc => by cases hc) h
  rw [List.append_nil] at d2
  have i1 : IsDoc U (g ++ (l ++ g'), t) := isDoc_of hU2 (Nat.lt_succ_self _) d1
  have i2 : IsDoc U (g' ++ l, t) := isDoc_of hU2 (Nat.lt_succ_self _) d2
  have ha := array_docs (U := U) F' 15 [] [(g' ++ l, t)] (g ++ (l ++ g'), t) (by
    show ((g ++ (l ++ g')) ++ 44 :: ((g' ++ l) ++ [93])).length < F'
    simp only [List.length_cons, List.length_append] at hF' ⊢
    omega) (by simp only [List.length_cons, List.length_append, List.length_nil] at hF' ⊢; omega) (fun y hy => by
      rcases List.mem_cons.1 hy with rfl | hy
      · exact i1
      · rw [List.mem_singleton.1 hy]
        exact i2)
  have hn : nestL [t, t] = nestT t := by rw [nestL, nestL, nestL]; omega
  have ha : valueJ U F' 16 (91 :: ((g ++ (l ++ g')) ++ 44 :: ((g' ++ l) ++ [93]))) = if nestT t ≤ 15 then .good (listT 7 [t, t]) [] else .bad 60 := by
    rw [← hn]
    exact ha
  have hnd := nest_depth t
  unfold docJ
  rw [sp_cons (by decide), ha]
  by_cases hx : nestT t ≤ 15
  · rw [if_pos hx]
    simp only []
    rw [if_neg (by simp [spJ])]
    by_cases hy : t.count ≤ 149 ∧ t.depth ≤ 15
    · rw [if_pos (hrr.2 hy), if_pos hy]
    · rw [if_neg (fun q => hy (hrr.1 q)), if_neg hy]
  · rw [if_neg hx, if_neg (by omega)]
end Go.Proofs.YtfckekaegjjmkaaGreatDoor
