/- The texts CrP, UtfRt, UtfO, UtfT, UtfQ, UtfY, put together. -/
import Derived.Test.YtfckekaegjjmkaaGreatDoorPi17
import Derived.Test.YtfckekaegjjmkaaGreatDoorPi20
import Derived.Test.YtfckekaegjjmkaaGreatDoorPi01
import Derived.Test.YtfckekaegjjmkaaGreatDoorPi03
import Derived.Shelf.Unicode.ValidAny
import Derived.Test.YtfckekaegjjmkaaGreatDoorPi11
import Derived.Lib.ValidLaws
namespace Go.Proofs.YtfckekaegjjmkaaGreatDoor
open Go.RowKit Go.Shelf

theorem grown_self (w : World) (r : Option Nat) : w.grownBy w r := ⟨rfl, rfl, rfl, Nat.le_refl _, fun _ _ _ => rfl⟩
theorem grown_setCells (g : Nat) : ∀ (vs : List Value) (o : Nat) (w : World), w.grownBy (w.setCells g o vs) (some g)
  | [], _, w => grown_self w _
  | v :: r, o, w => grown_trans (grown_set w g o v) (grown_setCells g r (o + 1) _)
/-- Between two steps of the append. -/
def ModL (n s0 : Nat) (v : Value) (A B : World) : Prop := Below n A B ∧ (∀ q, q < s0 → q ≠ n + 2 → v.ownBlock ≠ some q → B.heap[q]? = A.heap[q]?) ∧ KeepsFrom (n + 7) A B
theorem ModL.refl (n s0 : Nat) (v : Value) (A : World) : ModL n s0 v A A := ⟨Below.refl _ _, fun _ _ _ _ => rfl, KeepsFrom.refl _ _⟩
theorem ModL.trans {n s0 : Nat} {v : Value} {A B C : World} (h : ModL n s0 v A B) (k : ModL n s0 v B C) : ModL n s0 v A C :=
  ⟨h.1.trans k.1, fun q h1 h2 h3 => (k.2.1 q h1 h2 h3).trans (h.2.1 q h1 h2 h3), h.2.2.trans k.2.2⟩
theorem ModL.of {n s0 : Nat} {v : Value} {A B : World} {r : Option Nat} (hg : A.grownBy B r) (hs : s0 ≤ A.heap.size) (hn : n ≤ A.heap.size) (hr : ∀ g, r = some g → n ≤ g ∧ (g = n + 2 ∨ v.ownBlock = some g ∨ s0 ≤ g) ∧ (g < n + 7 ∨ ∀ o, A.heap[g]? = some o → o.isCells = true)) : ModL n s0 v A B := by
  refine ⟨(Below.refl _ A).grown hg hn (fun g e => (hr g e).1), fun q h1 h2 h3 => hg.block q (by omega) (fun e => ?_), ⟨hg.size, fun k o hk ho hc => ?_⟩⟩
  · rcases (hr q e.symm).2.1 with h | h | h
    · exact h2 h
    · exact h3 h
    · omega
  · refine (hg.block k (Array.getElem?_eq_some_iff.1 ho).1 (fun e => ?_)).trans ho
    rcases (hr k e.symm).2.2 with h | h
    · omega
    · rw [h o ho] at hc
      cases hc
theorem lands_append {P : Program} {o : Oper} {ρ : Operand → Value} {w : World} {R : Value → World → Prop} (s x : Operand) (t : TypeId) (hop : o.op = .call { callee := .builtin .append, args := #[s, x], argTypes := #[t, t] }) (v vx r : Value) (w' : World)
    (hs : ρ s = v) (hx : ρ x = vx) (hrun : (Builtin.append_ #[t, t] o.type #[v, vx]).run P w = .ok r w') (hR : R r w') : opLands P o ρ w R := by
  refine lands_val r ?_ hR
  unfold execOp
  simp only [hop, resolve, invoke, builtin, Sem.run_bind, Sem.run_pure, Result.andThen_ok, List.map_toArray, List.map_cons, List.map_nil, hs, hx, hrun]
end Go.Proofs.YtfckekaegjjmkaaGreatDoor
namespace Go.Proofs.YtfckekaegjjmkaaGreatDoor
open Go.RowKit Go.Shelf

set_option maxRecDepth 100000 in
theorem utf_RightT (s : ByteArray) (hs : s.size ≤ 9223372036854775807) (w : World) (h : Lib.Utf8Tabs 4 5 w) :
    Calls Tryz.prog 128 #[.string s] w fun e w' => e = .returned (.bool (Lib.validD s.data.toList)) ∧ Below w.heap.size w w' := by
  have HV := Lib.hid (show Calls Tryz.prog 164 #[.string s] w fun e w' => e = .returned (.bool (Lib.validD s.data.toList)) ∧ Below w.heap.size w w' from Any.utf8_ValidString Tryz.lays196 s w hs h)
  clear h
  go_enter Tryz.func128, Tryz.ntmps128
  go_wp2_with fail
  refine HV.out.mono ?_
  rintro e w1 ⟨rfl, hb⟩
  go_wp2_with fail
  go_ret
  exact ⟨rfl, hb⟩
end Go.Proofs.YtfckekaegjjmkaaGreatDoor
namespace Go.Proofs.YtfckekaegjjmkaaGreatDoor
open Go.RowKit Go.Shelf

/-- A character, quoted. -/
def quoteRune (c : Nat) : List UInt8 := if signOk c then [92, UInt8.ofNat (signC c).toNat] else if c < 32 then [92, 117] ++ hex4 c else Lib.encodeRune c
def quoteGo : Nat → List UInt8 → List UInt8
  | 0, _ => []
  | f + 1, l => if l = [] then [] else quoteRune (Lib.decodeL l).1 ++ quoteGo f (l.drop (Lib.decodeL l).2)
def quoteL (l : List UInt8) : List UInt8 := [34] ++ quoteGo l.length l ++ [34]

theorem quoteGo_nil (f : Nat) : quoteGo f [] = [] := by
  cases f with
  | zero => rfl
  | succ f => rfl
theorem quoteGo_step (f : Nat) {l : List UInt8} (h : l ≠ []) : quoteGo (f + 1) l = quoteRune (Lib.decodeL l).1 ++ quoteGo f (l.drop (Lib.decodeL l).2) := by
  show (if l = [] then _ else _) = _
  rw [if_neg h]
theorem quoteRune_len (c : Nat) : (quoteRune c).length ≤ 6 := by
  unfold quoteRune
  split
  · simp
  · split
    · simp [hex4]
    · have := encodeRune_len c
      omega



end Go.Proofs.YtfckekaegjjmkaaGreatDoor
namespace Go.Proofs.YtfckekaegjjmkaaGreatDoor
open Go.Lib

theorem enc_toNat {x : Int} (h0 : 0 ≤ x) (h1 : x < 256) : ((x.toNat.toUInt8).toNat : Nat) = x.toNat := by
  rw [UInt8.toNat_ofNat']
  omega

/-- A character's bytes are read as that character. -/
theorem decode_encode (c : Nat) (h : charOk c) (t : List UInt8) : decodeL (encodeRune c ++ t) = (c, (encodeRune c).length) := by
  unfold charOk at h
  rw [decodeL_N]
  by_cases h1 : c ≤ 127
  · have e : encodeRune c = [(c : Int).toNat.toUInt8] := by
      unfold encodeRune
      rw [encodeRuneZ_one (by omega) (by omega)]
      rfl
    rw [e]
    have e0 : (([(c : Int).toNat.toUInt8] ++ t).getD 0 0).toNat = c := by
      show ((c : Int).toNat.toUInt8).toNat = c
      rw [enc_toNat (by omega) (by omega)]
      omega
    rw [e0]
    exact decodeN_ascii _ _ _ _ _ (by omega)
  · by_cases h2 : c ≤ 2047
    · have e : encodeRune c = [(192 + (c : Int) / 64).toNat.toUInt8, (128 + (c : Int) % 64).toNat.toUInt8] := by
        unfold encodeRune
        rw [encodeRuneZ_two (by omega) (by omega)]
        rfl
      rw [e]
      have e0 : (([(192 + (c : Int) / 64).toNat.toUInt8, (128 + (c : Int) % 64).toNat.toUInt8] ++ t).getD 0 0).toNat = 192 + c / 64 := by
        show ((192 + (c : Int) / 64).toNat.toUInt8).toNat = _
        rw [enc_toNat (by omega) (by omega)]
        omega
      have e1 : (([(192 + (c : Int) / 64).toNat.toUInt8, (128 + (c : Int) % 64).toNat.toUInt8] ++ t).getD 1 0).toNat = 128 + c % 64 := by
        show ((128 + (c : Int) % 64).toNat.toUInt8).toNat = _
        rw [enc_toNat (by omega) (by omega)]
        omega
      have en : 2 ≤ ([(192 + (c : Int) / 64).toNat.toUInt8, (128 + (c : Int) % 64).toNat.toUInt8] ++ t).length := by simp
      rw [e0, e1]
      generalize ([(192 + (c : Int) / 64).toNat.toUInt8, (128 + (c : Int) % 64).toNat.toUInt8] ++ t).length = n at en
      generalize (UInt8.toNat _) = b2
      generalize (UInt8.toNat _) = b3
      unfold decodeN
      rw [if_neg (by omega), if_pos (by omega), if_pos (by omega)]
      simp
      omega
    · by_cases h3 : c ≤ 65535
      · have e : encodeRune c = [(224 + (c : Int) / 4096).toNat.toUInt8, (128 + (c : Int) / 64 % 64).toNat.toUInt8, (128 + (c : Int) % 64).toNat.toUInt8] := by
          unfold encodeRune
          rw [encodeRuneZ_three (by omega)]
          rfl
        rw [e]
        have e0 : (([(224 + (c : Int) / 4096).toNat.toUInt8, (128 + (c : Int) / 64 % 64).toNat.toUInt8, (128 + (c : Int) % 64).toNat.toUInt8] ++ t).getD 0 0).toNat = 224 + c / 4096 := by
          show ((224 + (c : Int) / 4096).toNat.toUInt8).toNat = _
          rw [enc_toNat (by omega) (by omega)]
          omega
        have e1 : (([(224 + (c : Int) / 4096).toNat.toUInt8, (128 + (c : Int) / 64 % 64).toNat.toUInt8, (128 + (c : Int) % 64).toNat.toUInt8] ++ t).getD 1 0).toNat = 128 + c / 64 % 64 := by
          show ((128 + (c : Int) / 64 % 64).toNat.toUInt8).toNat = _
          rw [enc_toNat (by omega) (by omega)]
          omega
        have e2 : (([(224 + (c : Int) / 4096).toNat.toUInt8, (128 + (c : Int) / 64 % 64).toNat.toUInt8, (128 + (c : Int) % 64).toNat.toUInt8] ++ t).getD 2 0).toNat = 128 + c % 64 := by
          show ((128 + (c : Int) % 64).toNat.toUInt8).toNat = _
          rw [enc_toNat (by omega) (by omega)]
          omega
        have en : 3 ≤ ([(224 + (c : Int) / 4096).toNat.toUInt8, (128 + (c : Int) / 64 % 64).toNat.toUInt8, (128 + (c : Int) % 64).toNat.toUInt8] ++ t).length := by simp
        rw [e0, e1, e2]
        generalize ([(224 + (c : Int) / 4096).toNat.toUInt8, (128 + (c : Int) / 64 % 64).toNat.toUInt8, (128 + (c : Int) % 64).toNat.toUInt8] ++ t).length = n at en
        generalize (UInt8.toNat _) = b3
        unfold decodeN
        rw [if_neg (by omega), if_neg (by omega), if_pos (by omega), if_pos (by omega)]
        simp
        omega
      · have e : encodeRune c = [(240 + (c : Int) / 262144).toNat.toUInt8, (128 + (c : Int) / 4096 % 64).toNat.toUInt8, (128 + (c : Int) / 64 % 64).toNat.toUInt8, (128 + (c : Int) % 64).toNat.toUInt8] := by
          unfold encodeRune
          rw [encodeRuneZ_four (by omega) (by omega)]
          rfl
        rw [e]
        have e0 : (([(240 + (c : Int) / 262144).toNat.toUInt8, (128 + (c : Int) / 4096 % 64).toNat.toUInt8, (128 + (c : Int) / 64 % 64).toNat.toUInt8, (128 + (c : Int) % 64).toNat.toUInt8] ++ t).getD 0 0).toNat = 240 + c / 262144 := by
          show ((240 + (c : Int) / 262144).toNat.toUInt8).toNat = _
          rw [enc_toNat (by omega) (by omega)]
          omega
        have e1 : (([(240 + (c : Int) / 262144).toNat.toUInt8, (128 + (c : Int) / 4096 % 64).toNat.toUInt8, (128 + (c : Int) / 64 % 64).toNat.toUInt8, (128 + (c : Int) % 64).toNat.toUInt8] ++ t).getD 1 0).toNat = 128 + c / 4096 % 64 := by
          show ((128 + (c : Int) / 4096 % 64).toNat.toUInt8).toNat = _
          rw [enc_toNat (by omega) (by omega)]
          omega
        have e2 : (([(240 + (c : Int) / 262144).toNat.toUInt8, (128 + (c : Int) / 4096 % 64).toNat.toUInt8, (128 + (c : Int) / 64 % 64).toNat.toUInt8, (128 + (c : Int) % 64).toNat.toUInt8] ++ t).getD 2 0).toNat = 128 + c / 64 % 64 := by
          show ((128 + (c : Int) / 64 % 64).toNat.toUInt8).toNat = _
          rw [enc_toNat (by omega) (by omega)]
          omega
        have e3 : (([(240 + (c : Int) / 262144).toNat.toUInt8, (128 + (c : Int) / 4096 % 64).toNat.toUInt8, (128 + (c : Int) / 64 % 64).toNat.toUInt8, (128 + (c : Int) % 64).toNat.toUInt8] ++ t).getD 3 0).toNat = 128 + c % 64 := by
          show ((128 + (c : Int) % 64).toNat.toUInt8).toNat = _
          rw [enc_toNat (by omega) (by omega)]
          omega
        have en : 4 ≤ ([(240 + (c : Int) / 262144).toNat.toUInt8, (128 + (c : Int) / 4096 % 64).toNat.toUInt8, (128 + (c : Int) / 64 % 64).toNat.toUInt8, (128 + (c : Int) % 64).toNat.toUInt8] ++ t).length := by simp
        rw [e0, e1, e2, e3]
        generalize ([(240 + (c : Int) / 262144).toNat.toUInt8, (128 + (c : Int) / 4096 % 64).toNat.toUInt8, (128 + (c : Int) / 64 % 64).toNat.toUInt8, (128 + (c : Int) % 64).toNat.toUInt8] ++ t).length = n at en
        unfold decodeN
        rw [if_neg (by omega), if_neg (by omega), if_neg (by omega), if_pos (by omega), if_pos (by omega)]
        simp
        omega

theorem encode_ne (c : Int) : encodeRune c ≠ [] := fun e => by
  have h := encodeRuneZ_length c
  have := congrArg List.length e
  simp [encodeRune] at this
  rw [this] at h
  simp at h
theorem not_bad {c : Nat} (h : charOk c) (t : List UInt8) : ¬ ((decodeL (encodeRune c ++ t)).1 = 65533 ∧ (decodeL (encodeRune c ++ t)).2 = 1) := by
  rw [decode_encode c h t]
  rintro ⟨h1, h2⟩
  simp only at h1 h2
  subst h1
  revert h2
  decide

/-- A text of characters. -/
def textOf : List Nat → List UInt8
  | [] => []
  | c :: cs => encodeRune c ++ textOf cs
theorem valid_char {c : Nat} (h : charOk c) (t : List UInt8) : validD (encodeRune c ++ t) = validD t := by
  have hne : encodeRune c ++ t ≠ [] := fun e => encode_ne c (List.append_eq_nil_iff.1 e).1
  rw [validD_step _ hne, if_neg (not_bad h t), decode_encode c h t, List.drop_left]
theorem valid_text : ∀ (cs : List Nat), (∀ c ∈ cs, charOk c) → ∀ t, validD (textOf cs ++ t) = validD t
  | [], _, _ => rfl
  | c :: cs, h, t => by
    show validD (encodeRune c ++ textOf cs ++ t) = _
    rw [List.append_assoc, valid_char (h c List.mem_cons_self), valid_text cs (fun x hx => h x (List.mem_cons_of_mem _ hx)) t]
theorem valid_textOf (cs : List Nat) (h : ∀ c ∈ cs, charOk c) : validD (textOf cs) = true := by
  have := valid_text cs h []
  rw [List.append_nil] at this
  rw [this]
  rfl
theorem chars_of_valid : ∀ (n : Nat) (l : List UInt8), l.length ≤ n → validD l = true → ∃ cs, (∀ c ∈ cs, charOk c) ∧ l = textOf cs
  | 0, l, hl, _ => by
    have : l = [] := List.eq_nil_of_length_eq_zero (by omega)
    exact ⟨[], by simp, this⟩
  | n + 1, l, hl, hv => by
    by_cases hne : l = []
    · exact ⟨[], by simp, hne⟩
    · rw [validD_step l hne] at hv
      by_cases hb : (decodeL l).1 = 65533 ∧ (decodeL l).2 = 1
      · rw [if_pos hb] at hv
        cases hv
      · rw [if_neg hb] at hv
        have hw := decodeL_width l
        have hl0 : 0 < l.length := List.length_pos_iff.2 hne
        obtain ⟨cs, h1, h2⟩ := chars_of_valid n (l.drop (decodeL l).2) (by rw [List.length_drop]; omega) hv
        refine ⟨(decodeL l).1 :: cs, ?_, ?_⟩
        · intro c hc
          rcases List.mem_cons.1 hc with rfl | h
          · exact decodeL_char l
          · exact h1 c h
        · show l = encodeRune (decodeL l).1 ++ textOf cs
          rw [encode_decode l hne hb, ← h2, List.take_append_drop]
theorem valid_iff (l : List UInt8) : validD l = true ↔ ∃ cs, (∀ c ∈ cs, charOk c) ∧ l = textOf cs :=
  ⟨chars_of_valid l.length l (Nat.le_refl _), fun ⟨cs, h, e⟩ => by rw [e]; exact valid_textOf cs h⟩

end Go.Proofs.YtfckekaegjjmkaaGreatDoor
namespace Go.Proofs.YtfckekaegjjmkaaGreatDoor
open Go.RowKit Go.Shelf

theorem hexv_all (k : Nat) (h : k < hexAll.size) : hexv (hexAll[k]'h).toNat = some k := by
  have h' : k < 16 := h
  obtain rfl | rfl | rfl | rfl | rfl | rfl | rfl | rfl | rfl | rfl | rfl | rfl | rfl | rfl | rfl | rfl : k = 0 ∨ k = 1 ∨ k = 2 ∨ k = 3 ∨ k = 4 ∨ k = 5 ∨ k = 6 ∨ k = 7 ∨ k = 8 ∨ k = 9 ∨ k = 10 ∨ k = 11 ∨ k = 12 ∨ k = 13 ∨ k = 14 ∨ k = 15 := by omega
  all_goals rfl
theorem hexv_hx (d : Nat) : hexv (hx d).toNat = some (d % 16) := hexv_all _ (hexAll_lt d)
theorem hexAcc_cons {b : UInt8} {l : List UInt8} {n d : Nat} (h : hexv b.toNat = some d) : hexAcc (b :: l) n = hexAcc l (n * 16 + d) := by
  show (match hexv b.toNat with | some d => hexAcc l (n * 16 + d) | none => none) = _
  rw [h]
theorem hexL_hex4 (n : Nat) (hn : n < 65536) (t : List UInt8) : hexL (hex4 n ++ t) = some n := by
  unfold hexL
  rw [if_neg (by simp [hex4]), show (hex4 n ++ t).take 4 = hex4 n from rfl]
  unfold hex4
  rw [hexAcc_cons (hexv_hx _), hexAcc_cons (hexv_hx _), hexAcc_cons (hexv_hx _), hexAcc_cons (hexv_hx _)]
  show some _ = some n
  congr 1
  omega
theorem nextL_esc (t : List UInt8) : nextL (92 :: t) = partOf (escL t) := by
  rw [nextL_ne (by simp), Lib.decodeL_ascii 92 t (by decide)]
  rfl
theorem nextL_end (t : List UInt8) : nextL (34 :: t) = .ok (none, t) := by
  rw [nextL_ne (by simp), Lib.decodeL_ascii 34 t (by decide)]
  rfl
theorem escL_u (t : List UInt8) : escL (117 :: t) = numL t := by
  rw [escL_none t (by decide), if_pos (by decide)]
theorem numL_plain (n : Nat) (hn : n < 65536) (h : n < 55296 ∨ 57343 < n) (t : List UInt8) : numL (hex4 n ++ t) = some (n, t) := by
  unfold numL
  rw [hexL_hex4 n hn t]
  show (if _ then _ else _) = _
  rw [if_pos h]
  rfl
theorem unquoteL_in (t : List UInt8) : unquoteL (34 :: t) = unqL (t.length + 1) t := by
  unfold unquoteL
  rw [if_neg (by simp), Lib.decodeL_ascii 34 t (by decide)]
  rfl
end Go.Proofs.YtfckekaegjjmkaaGreatDoor
namespace Go.Proofs.YtfckekaegjjmkaaGreatDoor
open Go.Lib

def quotes : List Nat → List UInt8
  | [] => []
  | c :: cs => quoteRune c ++ quotes cs
theorem quoteGo_text : ∀ (cs : List Nat) (f : Nat), (∀ c ∈ cs, charOk c) → (textOf cs).length ≤ f → quoteGo f (textOf cs) = quotes cs
  | [], f, _, _ => quoteGo_nil f
  | c :: cs, f, h, hf => by
    have hc := h c List.mem_cons_self
    have hne : encodeRune (c : Int) ++ textOf cs ≠ [] := fun e => encode_ne c (List.append_eq_nil_iff.1 e).1
    have hl : 1 ≤ (encodeRune (c : Int)).length := List.length_pos_iff.2 (encode_ne c)
    have hf' : (encodeRune (c : Int) ++ textOf cs).length ≤ f := hf
    rw [List.length_append] at hf'
    obtain ⟨f, rfl⟩ : ∃ g, f = g + 1 := ⟨f - 1, by omega⟩
    show quoteGo (f + 1) (encodeRune (c : Int) ++ textOf cs) = quoteRune c ++ quotes cs
    rw [quoteGo_step f hne, decode_encode c hc, List.drop_left, quoteGo_text cs f (fun x hx => h x (List.mem_cons_of_mem _ hx)) (by omega)]

theorem signC_cases (c : Nat) (h : signOk c = true) : c = 34 ∨ c = 92 ∨ c = 8 ∨ c = 12 ∨ c = 10 ∨ c = 13 ∨ c = 9 := by
  unfold signOk signC at h
  by_cases h1 : (c : Int) = 34
  · omega
  · by_cases h2 : (c : Int) = 92
    · omega
    · by_cases h3 : (c : Int) = 8
      · omega
      · by_cases h4 : (c : Int) = 12
        · omega
        · by_cases h5 : (c : Int) = 10
          · omega
          · by_cases h6 : (c : Int) = 13
            · omega
            · by_cases h7 : (c : Int) = 9
              · omega
              · rw [if_neg h1, if_neg h2, if_neg h3, if_neg h4, if_neg h5, if_neg h6, if_neg h7] at h
                exact absurd h (by decide)
theorem signC_none (c : Nat) (h : signOk c = false) : c ≠ 34 ∧ c ≠ 92 := by
  constructor
  · rintro rfl
    exact absurd h (by decide)
  · rintro rfl
    exact absurd h (by decide)
/-- A character, quoted, is read as that character. -/
theorem next_quote (c : Nat) (hc : charOk c) (t : List UInt8) : nextL (quoteRune c ++ t) = .ok (some c, t) := by
  unfold quoteRune
  by_cases hs : signOk c = true
  · rw [if_pos hs]
    show nextL (92 :: UInt8.ofNat (signC c).toNat :: t) = _
    rw [nextL_esc]
    rcases signC_cases c hs with rfl | rfl | rfl | rfl | rfl | rfl | rfl
    · rw [escL_some (x := 34) t (by decide)]; rfl
    · rw [escL_some (x := 92) t (by decide)]; rfl
    · rw [escL_some (x := 8) t (by decide)]; rfl
    · rw [escL_some (x := 12) t (by decide)]; rfl
    · rw [escL_some (x := 10) t (by decide)]; rfl
    · rw [escL_some (x := 13) t (by decide)]; rfl
    · rw [escL_some (x := 9) t (by decide)]; rfl
  · rw [if_neg hs]
    have hs' : signOk c = false := by simpa using hs
    obtain ⟨n1, n2⟩ := signC_none c hs'
    by_cases h32 : c < 32
    · rw [if_pos h32, List.append_assoc]
      show nextL (92 :: 117 :: (hex4 c ++ t)) = _
      rw [nextL_esc, escL_u, numL_plain c (by omega) (.inl (by omega))]
      rfl
    · rw [if_neg h32]
      have hne : encodeRune (c : Int) ++ t ≠ [] := fun e => encode_ne c (List.append_eq_nil_iff.1 e).1
      have hnb := not_bad hc t
      rw [decode_encode c hc t] at hnb
      rw [nextL_ne hne, decode_encode c hc t, if_neg (fun e => hnb (by rw [e]; exact ⟨rfl, rfl⟩))]
      simp only []
      rw [if_neg n1, if_neg h32, if_neg n2, List.drop_left]
theorem unq_quotes (m : List UInt8) : ∀ (cs : List Nat) (f : Nat), (∀ c ∈ cs, charOk c) → cs.length < f → unqL f (quotes cs ++ 34 :: m) = .ok (textOf cs, m)
  | [], f, _, hf => by
    obtain ⟨f, rfl⟩ : ∃ g, f = g + 1 := ⟨f - 1, by omega⟩
    exact unqL_end (nextL_end m)
  | c :: cs, f, h, hf => by
    obtain ⟨f, rfl⟩ : ∃ g, f = g + 1 := ⟨f - 1, by omega⟩
    rw [List.length_cons] at hf
    show unqL (f + 1) (quoteRune c ++ quotes cs ++ 34 :: m) = .ok (encodeRune (c : Int) ++ textOf cs, m)
    rw [List.append_assoc]
    exact unqL_part (next_quote c (h c List.mem_cons_self) _) (unq_quotes m cs f (fun x hx => h x (List.mem_cons_of_mem _ hx)) (by omega))
theorem quoteRune_pos (c : Nat) : 1 ≤ (quoteRune c).length := by
  unfold quoteRune
  split
  · simp
  · split
    · simp
    · exact List.length_pos_iff.2 (encode_ne c)
theorem quotes_len : ∀ cs : List Nat, cs.length ≤ (quotes cs).length
  | [] => by simp [quotes]
  | c :: cs => by
    have h1 := quoteRune_pos c
    have h2 := quotes_len cs
    show _ ≤ (quoteRune c ++ quotes cs).length
    rw [List.length_append, List.length_cons]
    omega
/-- What is quoted is unquoted again. -/
theorem unquote_quote {l : List UInt8} (hv : validD l = true) (m : List UInt8) : unquoteL (quoteL l ++ m) = .ok (l, m) := by
  obtain ⟨cs, h, rfl⟩ := (valid_iff l).1 hv
  unfold quoteL
  rw [quoteGo_text cs _ h (Nat.le_refl _), show [34] ++ quotes cs ++ [34] ++ m = 34 :: (quotes cs ++ 34 :: m) by simp, unquoteL_in]
  refine unq_quotes m cs _ h ?_
  have := quotes_len cs
  rw [List.length_append]
  omega

/-- What is unquoted is a text, and less is left. -/
theorem unqL_text : ∀ (f : Nat) (l t r : List UInt8), unqL f l = .ok (t, r) → validD t = true ∧ r.length < l.length
  | 0, l, t, r, h => by cases h
  | f + 1, l, t, r, h => by
    cases hn : nextL l with
    | error b =>
      rw [unqL_error hn] at h
      cases h
    | ok q =>
      obtain ⟨x, r1⟩ := q
      have hs := nextL_shorter hn
      cases x with
      | none =>
        rw [unqL_end hn] at h
        cases h
        exact ⟨rfl, hs⟩
      | some x =>
        cases hq : unqL f r1 with
        | error b =>
          rw [unqL_parte hn hq] at h
          cases h
        | ok q2 =>
          obtain ⟨t2, r2⟩ := q2
          rw [unqL_part hn hq] at h
          cases h
          obtain ⟨h1, h2⟩ := unqL_text f r1 t2 r hq
          exact ⟨by rw [valid_char (nextL_char hn)]; exact h1, by omega⟩
theorem unquoteL_text {l t r : List UInt8} (h : unquoteL l = .ok (t, r)) : validD t = true ∧ r.length < l.length := by
  unfold unquoteL at h
  split at h
  · cases h
  · split at h
    · cases h
    · split at h
      · cases h
      · obtain ⟨h1, h2⟩ := unqL_text _ _ _ _ h
        rw [List.length_drop] at h2
        exact ⟨h1, by omega⟩
theorem unqL_len : ∀ (f : Nat) (l t r : List UInt8), unqL f l = .ok (t, r) → t.length ≤ 4 * l.length
  | 0, l, t, r, h => by cases h
  | f + 1, l, t, r, h => by
    cases hn : nextL l with
    | error b =>
      rw [unqL_error hn] at h
      cases h
    | ok q =>
      obtain ⟨x, r1⟩ := q
      have hs := nextL_shorter hn
      cases x with
      | none =>
        rw [unqL_end hn] at h
        cases h
        simp
      | some x =>
        cases hq : unqL f r1 with
        | error b =>
          rw [unqL_parte hn hq] at h
          cases h
        | ok q2 =>
          obtain ⟨t2, r2⟩ := q2
          rw [unqL_part hn hq] at h
          cases h
          have h1 := unqL_len f r1 t2 r hq
          have h2 := encodeRune_len x
          rw [List.length_append]
          omega
theorem unquoteL_len {l t r : List UInt8} (h : unquoteL l = .ok (t, r)) : t.length ≤ 4 * l.length := by
  unfold unquoteL at h
  split at h
  · cases h
  · split at h
    · cases h
    · split at h
      · cases h
      · have := unqL_len _ _ _ _ h
        rw [List.length_drop] at this
        omega
theorem quoteGo_len : ∀ (f : Nat) (l : List UInt8), l.length ≤ f → (quoteGo f l).length ≤ 6 * l.length
  | 0, l, h => by simp [quoteGo]
  | f + 1, l, h => by
    by_cases hne : l = []
    · rw [hne]
      simp [quoteGo]
    · rw [quoteGo_step f hne, List.length_append]
      have h1 := quoteRune_len (decodeL l).1
      have h2 := decodeL_width l
      have hl : 0 < l.length := List.length_pos_iff.2 hne
      have h3 := quoteGo_len f (l.drop (decodeL l).2) (by rw [List.length_drop]; omega)
      rw [List.length_drop] at h3
      omega
theorem quoteL_len (l : List UInt8) : (quoteL l).length ≤ 6 * l.length + 2 := by
  have := quoteGo_len l.length l (Nat.le_refl _)
  unfold quoteL
  simp
  omega
end Go.Proofs.YtfckekaegjjmkaaGreatDoor
