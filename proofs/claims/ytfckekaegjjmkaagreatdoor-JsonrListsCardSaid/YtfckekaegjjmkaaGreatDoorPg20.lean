/- The texts CrP, UtfRt, UtfO, UtfT, UtfQ, UtfY, JsP, put together. -/
import Derived.Test.YtfckekaegjjmkaaGreatDoorPg16
import Derived.Test.YtfckekaegjjmkaaGreatDoorPg19
import Derived.Test.YtfckekaegjjmkaaGreatDoorPg01
import Derived.Test.YtfckekaegjjmkaaGreatDoorPg04
import Derived.Shelf.Unicode.ValidAny
import Derived.Test.YtfckekaegjjmkaaGreatDoorPg09
import Derived.Lib.ValidLaws
namespace Go.Proofs.YtfckekaegjjmkaaGreatDoor
open Go.RowKit Go.Shelf

theorem grown_self (w : World) (r : Option Nat) : w.grownBy w r := ⟨rfl, rfl, rfl, Nat.le_refl _, fun _ _ _ => rfl⟩
theorem grown_setCells (g : Nat) : ∀ (vs : List Value) (o : Nat) (w : World), w.grownBy (w.setCells g o vs) (some g)
  | [], _, w => grown_self w _
  | v :: r, o, w => grown_trans (grown_set w g o v) (grown_setCells g r (o + 1) _)
/-- Between two steps of the append. -/
def ModL (n s0 : Nat) (v : Value) (A B : World) : Prop := Below n A B ∧ (∀ q, q < s0 → q ≠ n + 2 → v.ownBlock ≠ some q → B.heap[q]? = A.heap[q]?) ∧ KeepsFrom (n + 7) A B
theorem ModL.refl (n s0 : Nat) (v : Value) (A : World) : ModL n s0 v A A := ⟨Below.refl _ _, fun _ _ _ _ => rfl, KeepsFrom.refl _ _⟩
theorem ModL.trans {n s0 : Nat} {v : Value} {A B C : World} (h : ModL n s0 v A B) (k : ModL n s0 v B C) : ModL n s0 v A C :=
  ⟨h.1.trans k.1, fun q h1 h2 h3 => (k.2.1 q h1 h2 h3).trans (h.2.1 q h1 h2 h3), h.2.2.trans k.2.2⟩
theorem ModL.of {n s0 : Nat} {v : Value} {A B : World} {r : Option Nat} (hg : A.grownBy B r) (hs : s0 ≤ A.heap.size) (hn : n ≤ A.heap.size) (hr : ∀ g, r = some g → n ≤ g ∧ (g = n + 2 ∨ v.ownBlock = some g ∨ s0 ≤ g) ∧ (g < n + 7 ∨ ∀ o, A.heap[g]? = some o → o.isCells = true)) : ModL n s0 v A B := by
  refine ⟨(Below.refl _ A).grown hg hn (fun g e => (hr g e).1), fun q h1 h2 h3 => hg.block q (by omega) (fun e => ?_), ⟨hg.size, fun k o hk ho hc => ?_⟩⟩
  · rcases (hr q e.symm).2.1 with h | h | h
    · exact h2 h
    · exact h3 h
    · omega
  · refine (hg.block k (Array.getElem?_eq_some_iff.1 ho).1 (fun e => ?_)).trans ho
    rcases (hr k e.symm).2.2 with h | h
    · omega
    · rw [h o ho] at hc
      cases hc
theorem lands_append {P : Program} {o : Oper} {ρ : Operand → Value} {w : World} {R : Value → World → Prop} (s x : Operand) (t : TypeId) (hop : o.op = .call { callee := .builtin .append, args := #[s, x], argTypes := #[t, t] }) (v vx r : Value) (w' : World)
    (hs : ρ s = v) (hx : ρ x = vx) (hrun : (Builtin.append_ #[t, t] o.type #[v, vx]).run P w = .ok r w') (hR : R r w') : opLands P o ρ w R := by
  refine lands_val r ?_ hR
  unfold execOp
  simp only [hop, resolve, invoke, builtin, Sem.run_bind, Sem.run_pure, Result.andThen_ok, List.map_toArray, List.map_cons, List.map_nil, hs, hx, hrun]
end Go.Proofs.YtfckekaegjjmkaaGreatDoor
namespace Go.Proofs.YtfckekaegjjmkaaGreatDoor
open Go.RowKit Go.Shelf

set_option maxRecDepth 100000 in
theorem utf_RightT (s : ByteArray) (hs : s.size ≤ 9223372036854775807) (w : World) (h : Lib.Utf8Tabs 4 5 w) :
    Calls Tryz.prog 128 #[.string s] w fun e w' => e = .returned (.bool (Lib.validD s.data.toList)) ∧ Below w.heap.size w w' := by
  have HV := Lib.hid (show Calls Tryz.prog 164 #[.string s] w fun e w' => e = .returned (.bool (Lib.validD s.data.toList)) ∧ Below w.heap.size w w' from Any.utf8_ValidString Tryz.lays196 s w hs h)
  clear h
  go_enter Tryz.func128, Tryz.ntmps128
  go_wp2_with fail
  refine HV.out.mono ?_
  rintro e w1 ⟨rfl, hb⟩
  go_wp2_with fail
  go_ret
  exact ⟨rfl, hb⟩
end Go.Proofs.YtfckekaegjjmkaaGreatDoor
namespace Go.Proofs.YtfckekaegjjmkaaGreatDoor
open Go.RowKit Go.Shelf

/-- A character, quoted. -/
def quoteRune (c : Nat) : List UInt8 := if signOk c then [92, UInt8.ofNat (signC c).toNat] else if c < 32 then [92, 117] ++ hex4 c else Lib.encodeRune c




end Go.Proofs.YtfckekaegjjmkaaGreatDoor
namespace Go.Proofs.YtfckekaegjjmkaaGreatDoor
open Go.Lib

theorem enc_toNat {x : Int} (h0 : 0 ≤ x) (h1 : x < 256) : ((x.toNat.toUInt8).toNat : Nat) = x.toNat := by
  rw [UInt8.toNat_ofNat']
  omega

/-- A character's bytes are read as that character. -/
theorem decode_encode (c : Nat) (h : charOk c) (t : List UInt8) : decodeL (encodeRune c ++ t) = (c, (encodeRune c).length) := by
  unfold charOk at h
  rw [decodeL_N]
  by_cases h1 : c ≤ 127
  · have e : encodeRune c = [(c : Int).toNat.toUInt8] := by
      unfold encodeRune
      rw [encodeRuneZ_one (by omega) (by omega)]
      rfl
    rw [e]
    have e0 : (([(c : Int).toNat.toUInt8] ++ t).getD 0 0).toNat = c := by
      show ((c : Int).toNat.toUInt8).toNat = c
      rw [enc_toNat (by omega) (by omega)]
      omega
    rw [e0]
    exact decodeN_ascii _ _ _ _ _ (by omega)
  · by_cases h2 : c ≤ 2047
    · have e : encodeRune c = [(192 + (c : Int) / 64).toNat.toUInt8, (128 + (c : Int) % 64).toNat.toUInt8] := by
        unfold encodeRune
        rw [encodeRuneZ_two (by omega) (by omega)]
        rfl
      rw [e]
      have e0 : (([(192 + (c : Int) / 64).toNat.toUInt8, (128 + (c : Int) % 64).toNat.toUInt8] ++ t).getD 0 0).toNat = 192 + c / 64 := by
        show ((192 + (c : Int) / 64).toNat.toUInt8).toNat = _
        rw [enc_toNat (by omega) (by omega)]
        omega
      have e1 : (([(192 + (c : Int) / 64).toNat.toUInt8, (128 + (c : Int) % 64).toNat.toUInt8] ++ t).getD 1 0).toNat = 128 + c % 64 := by
        show ((128 + (c : Int) % 64).toNat.toUInt8).toNat = _
        rw [enc_toNat (by omega) (by omega)]
        omega
      have en : 2 ≤ ([(192 + (c : Int) / 64).toNat.toUInt8, (128 + (c : Int) % 64).toNat.toUInt8] ++ t).length := by simp
      rw [e0, e1]
      generalize ([(192 + (c : Int) / 64).toNat.toUInt8, (128 + (c : Int) % 64).toNat.toUInt8] ++ t).length = n at en
      generalize (UInt8.toNat _) = b2
      generalize (UInt8.toNat _) = b3
      unfold decodeN
      rw [if_neg (by omega), if_pos (by omega), if_pos (by omega)]
      simp
      omega
    · by_cases h3 : c ≤ 65535
      · have e : encodeRune c = [(224 + (c : Int) / 4096).toNat.toUInt8, (128 + (c : Int) / 64 % 64).toNat.toUInt8, (128 + (c : Int) % 64).toNat.toUInt8] := by
          unfold encodeRune
          rw [encodeRuneZ_three (by omega)]
          rfl
        rw [e]
        have e0 : (([(224 + (c : Int) / 4096).toNat.toUInt8, (128 + (c : Int) / 64 % 64).toNat.toUInt8, (128 + (c : Int) % 64).toNat.toUInt8] ++ t).getD 0 0).toNat = 224 + c / 4096 := by
          show ((224 + (c : Int) / 4096).toNat.toUInt8).toNat = _
          rw [enc_toNat (by omega) (by omega)]
          omega
        have e1 : (([(224 + (c : Int) / 4096).toNat.toUInt8, (128 + (c : Int) / 64 % 64).toNat.toUInt8, (128 + (c : Int) % 64).toNat.toUInt8] ++ t).getD 1 0).toNat = 128 + c / 64 % 64 := by
          show ((128 + (c : Int) / 64 % 64).toNat.toUInt8).toNat = _
          rw [enc_toNat (by omega) (by omega)]
          omega
        have e2 : (([(224 + (c : Int) / 4096).toNat.toUInt8, (128 + (c : Int) / 64 % 64).toNat.toUInt8, (128 + (c : Int) % 64).toNat.toUInt8] ++ t).getD 2 0).toNat = 128 + c % 64 := by
          show ((128 + (c : Int) % 64).toNat.toUInt8).toNat = _
          rw [enc_toNat (by omega) (by omega)]
          omega
        have en : 3 ≤ ([(224 + (c : Int) / 4096).toNat.toUInt8, (128 + (c : Int) / 64 % 64).toNat.toUInt8, (128 + (c : Int) % 64).toNat.toUInt8] ++ t).length := by simp
        rw [e0, e1, e2]
        generalize ([(224 + (c : Int) / 4096).toNat.toUInt8, (128 + (c : Int) / 64 % 64).toNat.toUInt8, (128 + (c : Int) % 64).toNat.toUInt8] ++ t).length = n at en
        generalize (UInt8.toNat _) = b3
        unfold decodeN
        rw [if_neg (by omega), if_neg (by omega), if_pos (by omega), if_pos (by omega)]
        simp
        omega
      · have e : encodeRune c = [(240 + (c : Int) / 262144).toNat.toUInt8, (128 + (c : Int) / 4096 % 64).toNat.toUInt8, (128 + (c : Int) / 64 % 64).toNat.toUInt8, (128 + (c : Int) % 64).toNat.toUInt8] := by
          unfold encodeRune
          rw [encodeRuneZ_four (by omega) (by omega)]
          rfl
        rw [e]
        have e0 : (([(240 + (c : Int) / 262144).toNat.toUInt8, (128 + (c : Int) / 4096 % 64).toNat.toUInt8, (128 + (c : Int) / 64 % 64).toNat.toUInt8, (128 + (c : Int) % 64).toNat.toUInt8] ++ t).getD 0 0).toNat = 240 + c / 262144 := by
          show ((240 + (c : Int) / 262144).toNat.toUInt8).toNat = _
          rw [enc_toNat (by omega) (by omega)]
          omega
        have e1 : (([(240 + (c : Int) / 262144).toNat.toUInt8, (128 + (c : Int) / 4096 % 64).toNat.toUInt8, (128 + (c : Int) / 64 % 64).toNat.toUInt8, (128 + (c : Int) % 64).toNat.toUInt8] ++ t).getD 1 0).toNat = 128 + c / 4096 % 64 := by
          show ((128 + (c : Int) / 4096 % 64).toNat.toUInt8).toNat = _
          rw [enc_toNat (by omega) (by omega)]
          omega
        have e2 : (([(240 + (c : Int) / 262144).toNat.toUInt8, (128 + (c : Int) / 4096 % 64).toNat.toUInt8, (128 + (c : Int) / 64 % 64).toNat.toUInt8, (128 + (c : Int) % 64).toNat.toUInt8] ++ t).getD 2 0).toNat = 128 + c / 64 % 64 := by
          show ((128 + (c : Int) / 64 % 64).toNat.toUInt8).toNat = _
          rw [enc_toNat (by omega) (by omega)]
          omega
        have e3 : (([(240 + (c : Int) / 262144).toNat.toUInt8, (128 + (c : Int) / 4096 % 64).toNat.toUInt8, (128 + (c : Int) / 64 % 64).toNat.toUInt8, (128 + (c : Int) % 64).toNat.toUInt8] ++ t).getD 3 0).toNat = 128 + c % 64 := by
          show ((128 + (c : Int) % 64).toNat.toUInt8).toNat = _
          rw [enc_toNat (by omega) (by omega)]
          omega
        have en : 4 ≤ ([(240 + (c : Int) / 262144).toNat.toUInt8, (128 + (c : Int) / 4096 % 64).toNat.toUInt8, (128 + (c : Int) / 64 % 64).toNat.toUInt8, (128 + (c : Int) % 64).toNat.toUInt8] ++ t).length := by simp
        rw [e0, e1, e2, e3]
        generalize ([(240 + (c : Int) / 262144).toNat.toUInt8, (128 + (c : Int) / 4096 % 64).toNat.toUInt8, (128 + (c : Int) / 64 % 64).toNat.toUInt8, (128 + (c : Int) % 64).toNat.toUInt8] ++ t).length = n at en
        unfold decodeN
        rw [if_neg (by omega), if_neg (by omega), if_neg (by omega), if_pos (by omega), if_pos (by omega)]
        simp
        omega

theorem encode_ne (c : Int) : encodeRune c ≠ [] := fun e => by
  have h := encodeRuneZ_length c
  have := congrArg List.length e
  simp [encodeRune] at this
  rw [this] at h
  simp at h
theorem not_bad {c : Nat} (h : charOk c) (t : List UInt8) : ¬ ((decodeL (encodeRune c ++ t)).1 = 65533 ∧ (decodeL (encodeRune c ++ t)).2 = 1) := by
  rw [decode_encode c h t]
  rintro ⟨h1, h2⟩
  simp only at h1 h2
  subst h1
  revert h2
  decide

theorem valid_char {c : Nat} (h : charOk c) (t : List UInt8) : validD (encodeRune c ++ t) = validD t := by
  have hne : encodeRune c ++ t ≠ [] := fun e => encode_ne c (List.append_eq_nil_iff.1 e).1
  rw [validD_step _ hne, if_neg (not_bad h t), decode_encode c h t, List.drop_left]

end Go.Proofs.YtfckekaegjjmkaaGreatDoor
namespace Go.Proofs.YtfckekaegjjmkaaGreatDoor
open Go.RowKit Go.Shelf

theorem unquoteL_in (t : List UInt8) : unquoteL (34 :: t) = unqL (t.length + 1) t := by
  unfold unquoteL
  rw [if_neg (by simp), Lib.decodeL_ascii 34 t (by decide)]
  rfl
end Go.Proofs.YtfckekaegjjmkaaGreatDoor
namespace Go.Proofs.YtfckekaegjjmkaaGreatDoor
open Go.Lib

def quotes : List Nat → List UInt8
  | [] => []
  | c :: cs => quoteRune c ++ quotes cs


/-- What is unquoted is a text, and less is left. -/
theorem unqL_text : ∀ (f : Nat) (l t r : List UInt8), unqL f l = .ok (t, r) → validD t = true ∧ r.length < l.length
  | 0, l, t, r, h => by cases h
  | f + 1, l, t, r, h => by
    cases hn : nextL l with
    | error b =>
      rw [unqL_error hn] at h
      cases h
    | ok q =>
      obtain ⟨x, r1⟩ := q
      have hs := nextL_shorter hn
      cases x with
      | none =>
        rw [unqL_end hn] at h
        cases h
        exact ⟨rfl, hs⟩
      | some x =>
        cases hq : unqL f r1 with
        | error b =>
          rw [unqL_parte hn hq] at h
          cases h
        | ok q2 =>
          obtain ⟨t2, r2⟩ := q2
          rw [unqL_part hn hq] at h
          cases h
          obtain ⟨h1, h2⟩ := unqL_text f r1 t2 r hq
          exact ⟨by rw [valid_char (nextL_char hn)]; exact h1, by omega⟩
theorem unquoteL_text {l t r : List UInt8} (h : unquoteL l = .ok (t, r)) : validD t = true ∧ r.length < l.length := by
  unfold unquoteL at h
  split at h
  · cases h
  · split at h
    · cases h
    · split at h
      · cases h
      · obtain ⟨h1, h2⟩ := unqL_text _ _ _ _ h
        rw [List.length_drop] at h2
        exact ⟨h1, by omega⟩
theorem unqL_len : ∀ (f : Nat) (l t r : List UInt8), unqL f l = .ok (t, r) → t.length ≤ 4 * l.length
  | 0, l, t, r, h => by cases h
  | f + 1, l, t, r, h => by
    cases hn : nextL l with
    | error b =>
      rw [unqL_error hn] at h
      cases h
    | ok q =>
      obtain ⟨x, r1⟩ := q
      have hs := nextL_shorter hn
      cases x with
      | none =>
        rw [unqL_end hn] at h
        cases h
        simp
      | some x =>
        cases hq : unqL f r1 with
        | error b =>
          rw [unqL_parte hn hq] at h
          cases h
        | ok q2 =>
          obtain ⟨t2, r2⟩ := q2
          rw [unqL_part hn hq] at h
          cases h
          have h1 := unqL_len f r1 t2 r hq
          have h2 := encodeRune_len x
          rw [List.length_append]
          omega
theorem unquoteL_len {l t r : List UInt8} (h : unquoteL l = .ok (t, r)) : t.length ≤ 4 * l.length := by
  unfold unquoteL at h
  split at h
  · cases h
  · split at h
    · cases h
    · split at h
      · cases h
      · have := unqL_len _ _ _ _ h
        rw [List.length_drop] at this
        omega
end Go.Proofs.YtfckekaegjjmkaaGreatDoor
namespace Go.Proofs.YtfckekaegjjmkaaGreatDoor
open Go.RowKit Go.Shelf Lib

/-- A quoted text, read. -/
def uqJ (l : List UInt8) : Option (List UInt8 × List UInt8) := match unquoteL l with
  | .ok q => some q
  | .error _ => none
theorem hexL_own {l : List UInt8} {n : Nat} (h : hexL l = some n) : l = l.take 4 ++ l.drop 4 ∧ (l.take 4).length = 4 ∧ ∀ m, hexL (l.take 4 ++ m) = some n := by
  have hl := hexL_len h
  have h4 : (l.take 4).length = 4 := by rw [List.length_take]; omega
  refine ⟨(List.take_append_drop 4 l).symm, h4, fun m => ?_⟩
  unfold hexL at h ⊢
  rw [if_neg (by omega)] at h
  rw [if_neg (by rw [List.length_append]; omega), List.take_left' h4]
  exact h
theorem lowL_own {hi : Nat} {l r : List UInt8} {x : Nat} (h : lowL hi l = some (x, r)) : ∃ own, l = own ++ r ∧ ∀ m, lowL hi (own ++ m) = some (x, m) := by
  unfold lowL at h
  split at h
  case isFalse => cases h
  rename_i h2
  cases hx : hexL (l.drop 2) with
  | none => rw [hx] at h; cases h
  | some lo =>
    rw [hx] at h
    simp only at h
    split at h
    case isFalse => cases h
    rename_i hp
    cases h
    obtain ⟨e1, e2, e3⟩ := hexL_own hx
    refine ⟨[92, 117] ++ (l.drop 2).take 4, ?_, fun m => ?_⟩
    · have e4 : (l.drop 2).drop 4 = l.drop 6 := by rw [List.drop_drop]
      rw [List.append_assoc, ← e4, ← e1, ← h2, List.take_append_drop]
    · unfold lowL
      have d2 : ([92, 117] ++ (l.drop 2).take 4 ++ m).drop 2 = (l.drop 2).take 4 ++ m := rfl
      have d6 : ([92, 117] ++ (l.drop 2).take 4 ++ m).drop 6 = m := List.drop_left' (by rw [List.length_append, e2]; rfl)
      rw [if_pos (show ((([92, 117] : List UInt8) ++ (l.drop 2).take 4 ++ m).take 2) = [92, 117] from rfl), d2, e3 m, d6]
      simp only
      rw [if_pos hp]
theorem numL_own {l r : List UInt8} {x : Nat} (h : numL l = some (x, r)) : ∃ own, l = own ++ r ∧ ∀ m, numL (own ++ m) = some (x, m) := by
  unfold numL at h
  cases hx : hexL l with
  | none => rw [hx] at h; cases h
  | some hi =>
    rw [hx] at h
    simp only at h
    obtain ⟨e1, e2, e3⟩ := hexL_own hx
    split at h
    · rename_i hc
      cases h
      refine ⟨l.take 4, e1, fun m => ?_⟩
      unfold numL
      rw [e3 m, List.drop_left' e2]
      simp only
      rw [if_pos hc]
    · rename_i hc
      obtain ⟨o, g1, g2⟩ := lowL_own h
      refine ⟨l.take 4 ++ o, ?_, fun m => ?_⟩
      · rw [List.append_assoc, ← g1]
        exact e1
      · unfold numL
        rw [List.append_assoc, e3, List.drop_left' e2]
        simp only
        rw [if_neg hc, g2]
theorem escL_own {l r : List UInt8} {x : Nat} (h : escL l = some (x, r)) : ∃ own, l = own ++ r ∧ ∀ m, escL (own ++ m) = some (x, m) := by
  cases l with
  | nil => cases h
  | cons c l =>
    cases hs : signX c.toNat with
    | some y =>
      rw [escL_some l hs] at h
      cases h
      exact ⟨[c], rfl, fun m => escL_some m hs⟩
    | none =>
      rw [escL_none l hs] at h
      split at h
      case isFalse => cases h
      rename_i hc
      obtain ⟨o, g1, g2⟩ := numL_own h
      refine ⟨c :: o, by rw [List.cons_append, ← g1], fun m => ?_⟩
      rw [List.cons_append, escL_none _ hs, if_pos hc, g2]
/-- A character that is read is its own. -/
theorem decodeL_own {l : List UInt8} (hne : l ≠ []) (hb : decodeL l ≠ (65533, 1)) : l = encodeRune (decodeL l).1 ++ l.drop (decodeL l).2 ∧ ∀ m, decodeL (encodeRune (decodeL l).1 ++ m) = ((decodeL l).1, (encodeRune (decodeL l).1).length) ∧ encodeRune (decodeL l).1 ++ m ≠ [] ∧ decodeL (encodeRune (decodeL l).1 ++ m) ≠ (65533, 1) := by
  have hb' : ¬ ((decodeL l).1 = 65533 ∧ (decodeL l).2 = 1) := fun h => hb (Prod.ext h.1 h.2)
  have hc := decodeL_char l
  refine ⟨by rw [encode_decode l hne hb', List.take_append_drop], fun m => ⟨decode_encode _ hc m, fun e => encode_ne _ (List.append_eq_nil_iff.1 e).1, fun e => not_bad hc m (by rw [e]; exact ⟨rfl, rfl⟩)⟩⟩
theorem nextL_own {l r : List UInt8} {x : Option Nat} (h : nextL l = .ok (x, r)) : ∃ own, own ≠ [] ∧ l = own ++ r ∧ (x = none → own = [34]) ∧ ∀ m, nextL (own ++ m) = .ok (x, m) := by
  by_cases hne : l = []
  · subst hne
    cases h
  rw [nextL_ne hne] at h
  split at h
  · cases h
  rename_i hb
  obtain ⟨e1, e2⟩ := decodeL_own hne hb
  have hc := decodeL_char l
  generalize (decodeL l).2 = k at *
  generalize (decodeL l).1 = c at *
  have hdrop : ∀ m, (encodeRune (c : Nat) ++ m).drop (encodeRune (c : Nat)).length = m := fun m => List.drop_left' rfl
  split at h
  · rename_i h34
    cases h
    subst h34
    refine ⟨encodeRune (34 : Nat), encode_ne _, e1, fun _ => rfl, fun m => ?_⟩
    rw [nextL_ne (e2 m).2.1, if_neg (e2 m).2.2, (e2 m).1, if_pos rfl, hdrop]
  · rename_i h34
    split at h
    · cases h
    rename_i h32
    split at h
    · rename_i h92
      subst h92
      cases he : escL (l.drop k) with
      | none => rw [he] at h; cases h
      | some q =>
        obtain ⟨y, q⟩ := q
        rw [he] at h
        cases h
        obtain ⟨o, g1, g2⟩ := escL_own he
        refine ⟨encodeRune (92 : Nat) ++ o, fun e => encode_ne _ (List.append_eq_nil_iff.1 e).1, by rw [List.append_assoc, ← g1]; exact e1, (fun e => by cases e), fun m => ?_⟩
        rw [List.append_assoc, nextL_ne (e2 _).2.1, if_neg (e2 _).2.2, (e2 _).1, if_neg h34, if_neg h32, if_pos rfl, hdrop, g2]
        rfl
    · rename_i h92
      cases h
      refine ⟨encodeRune (c : Nat), encode_ne _, e1, (fun e => by cases e), fun m => ?_⟩
      rw [nextL_ne (e2 _).2.1, if_neg (e2 _).2.2, (e2 _).1, if_neg h34, if_neg h32, if_neg h92, hdrop]
theorem unqL_own : ∀ (f : Nat) (l t r : List UInt8), unqL f l = .ok (t, r) → ∃ o, l = o ++ 34 :: r ∧ ∀ f' m, o.length < f' → unqL f' (o ++ 34 :: m) = .ok (t, m)
  | 0, l, t, r, h => by cases h
  | f + 1, l, t, r, h => by
    cases hn : nextL l with
    | error b =>
      rw [unqL_error hn] at h
      cases h
    | ok q =>
      obtain ⟨x, r1⟩ := q
      obtain ⟨own, g1, g2, g3, g4⟩ := nextL_own hn
      cases x with
      | none =>
        rw [unqL_end hn] at h
        cases h
        have := g3 rfl
        subst this
        refine ⟨[], g2, fun f' m hf => ?_⟩
        obtain ⟨f', rfl⟩ : ∃ g, f' = g + 1 := ⟨f' - 1, by simp at hf; omega⟩
        exact unqL_end (g4 m)
      | some x =>
        cases hq : unqL f r1 with
        | error b =>
          rw [unqL_parte hn hq] at h
          cases h
        | ok q2 =>
          obtain ⟨t2, r2⟩ := q2
          rw [unqL_part hn hq] at h
          cases h
          obtain ⟨o, k1, k2⟩ := unqL_own f r1 t2 r hq
          refine ⟨own ++ o, by rw [List.append_assoc, ← k1]; exact g2, fun f' m hf => ?_⟩
          have hown : 0 < own.length := List.length_pos_iff.2 g1
          rw [List.length_append] at hf
          obtain ⟨f', rfl⟩ : ∃ g, f' = g + 1 := ⟨f' - 1, by omega⟩
          rw [List.append_assoc]
          exact unqL_part (g4 _) (k2 f' m (by omega))
theorem uqJ_own {l s r : List UInt8} (h : uqJ l = some (s, r)) : ∃ o, l = 34 :: o ++ 34 :: r ∧ ∀ m, uqJ (34 :: o ++ 34 :: m) = some (s, m) := by
  unfold uqJ at h
  cases hu : unquoteL l with
  | error b => rw [hu] at h; cases h
  | ok q =>
    rw [hu] at h
    cases h
    unfold unquoteL at hu
    split at hu
    · cases hu
    rename_i hne
    split at hu
    · cases hu
    rename_i hb
    split at hu
    · cases hu
    rename_i h34
    have h34 : (decodeL l).1 = 34 := Decidable.byContradiction h34
    obtain ⟨e1, _⟩ := decodeL_own hne hb
    rw [h34] at e1
    have e1 : l = 34 :: l.drop (decodeL l).2 := e1
    obtain ⟨o, k1, k2⟩ := unqL_own _ _ _ _ hu
    refine ⟨o, by rw [List.cons_append, ← k1]; exact e1, fun m => ?_⟩
    unfold uqJ
    rw [List.cons_append, unquoteL_in, k2 _ m (by simp; omega)]
/-- What is read is its own, whatever stands behind. -/
theorem uqJ_own2 (l s r : List UInt8) (h : uqJ l = some (s, r)) : ∃ own, own ≠ [] ∧ l = own ++ r ∧ ∀ m, uqJ (own ++ m) = some (s, m) := by
  obtain ⟨o, h1, h2⟩ := uqJ_own h
  refine ⟨34 :: o ++ [34], by simp, by rw [h1]; simp, fun m => ?_⟩
  rw [List.append_assoc]
  exact h2 m
end Go.Proofs.YtfckekaegjjmkaaGreatDoor
