/- The texts BuildF, UtfK, UtfL, Dig, RefB, Spec, Num, put together. -/
import Derived.Test.YtfckekaegjjmkaaGreatDoorPi04
import Derived.Test.YtfckekaegjjmkaaGreatDoorPi02
import Derived.Test.YtfckekaegjjmkaaGreatDoorPi06
import Derived.Outline
import Derived.Test.YtfckekaegjjmkaaGreatDoorPi01
import Derived.Lib.SmallJoins
import Derived.Lib.Strings
import Derived.Lib.AtoiAll
import Derived.Lib.ItoaNum
import Derived.Lib.ValidU
namespace Go.Proofs.YtfckekaegjjmkaaGreatDoor
open Go.RowKit Go.Shelf

/-- A builder abides what turns another block. -/
theorem isB_grown {B b : Nat} {bs : List Value} {W W' : World} (h : IsB B b bs W) {row : Option Nat} (hg : W.grownBy W' row) (hr : ∀ r, row = some r → r < B ∨ ∃ o : Obj, W.heap[r]? = some o ∧ o.isCells = false) : IsB B b bs W' := by
  have key : ∀ p, Lib.BuilderAtF 81 5 B b p bs W → Lib.BuilderAtF 81 5 B b p bs W' := by
    rintro p ⟨hB, v, hb, hown, hne⟩
    refine ⟨hB, v, (hg.block b (Array.getElem?_eq_some_iff.1 hb).1 ?_).trans hb, hown.kept hg ?_, hne⟩
    · intro e
      rcases hr b e.symm with h1 | ⟨o, ho, hc⟩
      · omega
      · rw [hb] at ho
        cases ho
        cases hc
    · by_cases hv : v.ownBlock = none
      · exact .inl hv
      · right
        intro e
        obtain ⟨g, hvg⟩ : ∃ g, v.ownBlock = some g := by
          cases hq : v.ownBlock with
          | none => exact absurd hq hv
          | some g => exact ⟨g, rfl⟩
        rcases hr g (by rw [← e, hvg]) with h1 | ⟨o, ho, hc⟩
        · have := (hown.lt g hvg).1
          omega
        · rcases hown.2 with ⟨rfl, _⟩ | ⟨g', cap, cur, fz, rfl, _, hgc, _⟩
          · simp [Value.ownBlock] at hvg
          · simp [Value.ownBlock] at hvg
            subst hvg
            rw [hgc] at ho
            cases ho
            cases hc
  rcases h with h | h
  · exact .inl (key _ h)
  · exact .inr (key _ h)
theorem isB_set {B b : Nat} {bs : List Value} {W : World} (h : IsB B b bs W) {k : Nat} {cs : Array Value} {t : TypeId} (hk : Blk W k cs t) (hkb : k ≠ b) (ht : t ≠ 5) (i : Nat) (u : Value) : IsB B b bs (W.setCell ⟨k, i, none⟩ u) := by
  have hg := grown_set W k i u
  have key : ∀ p, Lib.BuilderAtF 81 5 B b p bs W → Lib.BuilderAtF 81 5 B b p bs (W.setCell ⟨k, i, none⟩ u) := by
    rintro p ⟨hB, v, hb, hown, hne⟩
    refine ⟨hB, v, (hg.block b (Array.getElem?_eq_some_iff.1 hb).1 (fun e => hkb (by cases e; rfl))).trans hb, hown.kept hg ?_, hne⟩
    by_cases hv : v.ownBlock = none
    · exact .inl hv
    · right
      intro e
      rcases hown.2 with ⟨rfl, _⟩ | ⟨g', cap, cur, fz, rfl, _, hgc, _⟩
      · exact hv rfl
      · simp [Value.ownBlock] at e
        subst e
        have hk' : W.heap[g']? = some (.cells cs t (0, 0)) := hk
        rw [hgc] at hk'
        cases hk'
        exact ht rfl
  rcases h with h | h
  · exact .inl (key _ h)
  · exact .inr (key _ h)
/-- A block that is neither the builder nor a row of bytes. -/
theorem others_blk {b : Nat} {W W' : World} (h : Lib.OthersKept 5 (some b) W W') {k : Nat} {cs : Array Value} {t : TypeId} (hk : Blk W k cs t) (hkb : k ≠ b) (ht : t ≠ 5) : Blk W' k cs t :=
  h k _ hk (fun e => hkb (by cases e; rfl)) (fun c fz e => by cases e; exact ht rfl)
theorem others_from {b B : Nat} {W W' : World} (h : Lib.OthersKept 5 (some b) W W') (hz : W.heap.size ≤ W'.heap.size) {B' : Nat} {bs : List Value} (hI : IsB B' b bs W) : KeepsFrom B W W' := by
  obtain ⟨c, t, z, hb⟩ : ∃ c t z, W.heap[b]? = some (.cells c t z) := by
    rcases hI with ⟨_, v, hb, _⟩ | ⟨_, v, hb, _⟩
    · exact ⟨_, _, _, hb⟩
    · exact ⟨_, _, _, hb⟩
  refine ⟨hz, fun k o _ hk ho => h k o hk (fun e => ?_) (fun c fz e => ?_)⟩
  · cases e
    rw [hb] at hk
    cases hk
    cases ho
  · subst e
    cases ho
end Go.Proofs.YtfckekaegjjmkaaGreatDoor
namespace Go.Proofs.YtfckekaegjjmkaaGreatDoor
open Go.RowKit Go.Shelf

/-- The parts of a quotation behind its first sign, and what is left. -/
def unqL : Nat → List UInt8 → Except Bool (List UInt8 × List UInt8)
  | 0, _ => .error false
  | f + 1, l => match nextL l with
    | .error b => .error b
    | .ok (none, r) => .ok ([], r)
    | .ok (some x, r) => match unqL f r with
      | .error b => .error b
      | .ok (t, r') => .ok (Lib.encodeRune x ++ t, r')
def unquoteL (l : List UInt8) : Except Bool (List UInt8 × List UInt8) :=
  if l = [] then .error false else if Lib.decodeL l = (65533, 1) then .error true else if (Lib.decodeL l).1 ≠ 34 then .error false else unqL l.length (l.drop (Lib.decodeL l).2)
def partBytes : List Part → List UInt8
  | [] => []
  | .ok x :: xs => Lib.encodeRune x ++ partBytes xs
  | .error _ :: xs => partBytes xs

theorem unqL_error {f : Nat} {l : List UInt8} {b : Bool} (h : nextL l = .error b) : unqL (f + 1) l = .error b := by
  show (match nextL l with | .error b => _ | .ok (none, r) => _ | .ok (some x, r) => _) = _
  rw [h]
theorem unqL_end {f : Nat} {l r : List UInt8} (h : nextL l = .ok (none, r)) : unqL (f + 1) l = .ok ([], r) := by
  show (match nextL l with | .error b => _ | .ok (none, r) => _ | .ok (some x, r) => _) = _
  rw [h]
theorem unqL_part {f : Nat} {l r t r' : List UInt8} {x : Nat} (h : nextL l = .ok (some x, r)) (hr : unqL f r = .ok (t, r')) : unqL (f + 1) l = .ok (Lib.encodeRune x ++ t, r') := by
  show (match nextL l with | .error b => _ | .ok (none, r) => _ | .ok (some x, r) => _) = _
  rw [h]
  show (match unqL f r with | .error b => _ | .ok (t, r') => _) = _
  rw [hr]
theorem unqL_parte {f : Nat} {l r : List UInt8} {x : Nat} {b : Bool} (h : nextL l = .ok (some x, r)) (hr : unqL f r = .error b) : unqL (f + 1) l = .error b := by
  show (match nextL l with | .error b => _ | .ok (none, r) => _ | .ok (some x, r) => _) = _
  rw [h]
  show (match unqL f r with | .error b => _ | .ok (t, r') => _) = _
  rw [hr]
theorem Steps.unq_end : ∀ {xs : List Part} {l0 l r : List UInt8} {f : Nat}, Steps l0 xs l → nextL l = .ok (none, r) → l0.length < f → unqL f l0 = .ok (partBytes xs, r)
  | [], l0, l, r, f, h, hn, hf => by
    cases h
    obtain ⟨f, rfl⟩ : ∃ g, f = g + 1 := ⟨f - 1, by omega⟩
    exact unqL_end hn
  | .ok x :: xs, l0, l, r, f, ⟨m, hm, h⟩, hn, hf => by
    obtain ⟨f, rfl⟩ : ∃ g, f = g + 1 := ⟨f - 1, by omega⟩
    have hs := nextL_shorter hm
    exact unqL_part hm (h.unq_end hn (by omega))
  | .error _ :: _, _, _, _, _, h, _, _ => h.elim
theorem Steps.unq_error : ∀ {xs : List Part} {l0 l : List UInt8} {b : Bool} {f : Nat}, Steps l0 xs l → nextL l = .error b → l0.length < f → unqL f l0 = .error b
  | [], l0, l, b, f, h, hn, hf => by
    cases h
    obtain ⟨f, rfl⟩ : ∃ g, f = g + 1 := ⟨f - 1, by omega⟩
    exact unqL_error hn
  | .ok x :: xs, l0, l, b, f, ⟨m, hm, h⟩, hn, hf => by
    obtain ⟨f, rfl⟩ : ∃ g, f = g + 1 := ⟨f - 1, by omega⟩
    have hs := nextL_shorter hm
    exact unqL_parte hm (h.unq_error hn (by omega))
  | .error _ :: _, _, _, _, _, h, _, _ => h.elim
theorem Steps.ok : ∀ {xs : List Part} {l0 l : List UInt8}, Steps l0 xs l → ∀ b, .error b ∉ xs
  | [], _, _, _ => by simp
  | .ok x :: xs, l0, l, ⟨m, hm, h⟩ => by
    intro b hb
    rcases List.mem_cons.1 hb with h1 | h1
    · cases h1
    · exact h.ok b h1
  | .error _ :: _, _, _, h => h.elim
theorem partBytes_snoc (x : Nat) : ∀ xs : List Part, partBytes (xs ++ [.ok x]) = partBytes xs ++ Lib.encodeRune x
  | [] => by simp [partBytes]
  | .ok y :: xs => by
    show Lib.encodeRune y ++ partBytes (xs ++ [.ok x]) = Lib.encodeRune y ++ partBytes xs ++ Lib.encodeRune x
    rw [partBytes_snoc x xs, List.append_assoc]
  | .error b :: xs => partBytes_snoc x xs
theorem encodeRune_len (x : Int) : (Lib.encodeRune x).length ≤ 4 := by
  have := Lib.encodeRuneZ_length x
  simpa [Lib.encodeRune] using this.2
theorem partBytes_len : ∀ xs : List Part, (partBytes xs).length ≤ 4 * xs.length
  | [] => by simp [partBytes]
  | .ok y :: xs => by
    have h1 := partBytes_len xs
    have h2 := encodeRune_len y
    show (Lib.encodeRune y ++ partBytes xs).length ≤ _
    simp
    omega
  | .error b :: xs => by
    have h1 := partBytes_len xs
    show (partBytes xs).length ≤ _
    simp
    omega

end Go.Proofs.YtfckekaegjjmkaaGreatDoor
namespace Go.Proofs.YtfckekaegjjmkaaGreatDoor
open Go.RowKit Go.Shelf
attribute [local go_sem] Oper.semAt_some wide_fn wide_depth

def UnqPost (s : ByteArray) (w : World) (e : Ending) (w' : World) : Prop :=
  Below w.heap.size w w' ∧ match unquoteL s.data.toList with
    | .error b => e = .returned (.tuple #[.string ⟨#[]⟩, .string s, .int .i64 (if b then 20 else 21)])
    | .ok (t, r) => e = .returned (.tuple #[.string ⟨t.toArray⟩, .string ⟨r.toArray⟩, .int .i64 0])

theorem built_left (s : ByteArray) (w : World) : (Instr.build 221 #[(0, .string s)]).run Tryz.prog w = .ok (.agg #[.string s]) w := run_build w _ _ _ (by kernel_rfl)
theorem built_reader (s : ByteArray) (w : World) : (Instr.build 223 #[(0, .agg #[.string s])]).run Tryz.prog w = .ok (.agg #[.string s]) w := run_build w _ _ _ (by kernel_rfl)

set_option maxHeartbeats 4000000 in
set_option maxRecDepth 100000 in
/-- What does not begin a quotation. -/
theorem utf_Unquote_no {aT aQ : Addr} (s : ByteArray) (w : World) (h : UW w aT aQ) (b : Bool)
    (hf : firstV aT aQ s = .tuple #[.int .i32 0, .int .i64 0, errV (if b then aT else aQ)]) :
    Calls Tryz.prog 150 #[.string s] w fun e w' => e = .returned (.tuple #[.string ⟨#[]⟩, .string s, .int .i64 (if b then 20 else 21)]) ∧ Below w.heap.size w w' := by
  have hU0 : UWB w.heap.size (w.alloc (.cells #[.string s] 223)) aT aQ := (UWB.of h).to ((Below.refl _ w).alloc (Nat.le_refl _) _)
  have hp0 : Rd (w.alloc (.cells #[.string s] 223)) w.heap.size s := Blk.new _ _ _
  have HF := Lib.hid (utf_first s w.heap.size _ hU0.uw hp0)
  rw [hf] at HF
  have hb0 : Below w.heap.size w (w.alloc (.cells #[.string s] 223)) := (Below.refl _ w).alloc (Nat.le_refl _) _
  have k1 := built_left s
  have k2 := built_reader s
  clear hf
  refine calls_of_marks Tryz.func150 rfl ?_
  simp only [Tryz.ntmps150, List.size_toArray, List.length_cons, List.length_nil, Nat.reduceAdd, Nat.reduceSub, Array.replicate_succ, Array.replicate_zero, List.push_toArray, List.append_toArray, List.nil_append, List.cons_append]
  go_wp2_with fail
  go_step3
  go_wp2_with fail
  refine HF.out.mono ?_
  rintro e w1 ⟨rfl, hb1⟩
  have hU1 : UWB w.heap.size w1 aT aQ := hU0.to (hb1.mono (by simp))
  have hb01 := hb0.trans (hb1.mono (by simp))
  clear hb0 hb1 hU0 hp0 HF h
  have hb2 : ∀ o, Below w.heap.size w (w1.alloc o) := fun o => hb01.alloc hU1.le _
  cases b with
  | true =>
    have HT := Lib.hid (fun o => told_text (w1.alloc o) (hU1.uw.below ((Below.refl _ w1).alloc (Nat.le_refl _) o)))
    simp only [if_true]
    go_wp2_with fail
    refine (HT.out _).mono ?_
    rintro e w2 ⟨rfl, rfl⟩
    go_wp2_with fail
    rw [Exit.noGoto_ret]
    exact leave0 (v := .tuple #[.string ⟨#[]⟩, .string s, .int .i64 20]) (by simp [results, Tryz.results150, go_sem]) rfl ⟨rfl, hb2 _⟩
  | false =>
    have HT := Lib.hid (fun o => told_quote (w1.alloc o) (hU1.uw.below ((Below.refl _ w1).alloc (Nat.le_refl _) o)))
    simp only [Bool.false_eq_true, if_false]
    go_wp2_with fail
    refine (HT.out _).mono ?_
    rintro e w2 ⟨rfl, rfl⟩
    go_wp2_with fail
    rw [Exit.noGoto_ret]
    exact leave0 (v := .tuple #[.string ⟨#[]⟩, .string s, .int .i64 21]) (by simp [results, Tryz.results150, go_sem]) rfl ⟨rfl, hb2 _⟩

set_option maxHeartbeats 4000000 in
set_option maxRecDepth 100000 in
/-- Another sign stands first. -/
theorem utf_Unquote_else {aT aQ : Addr} (s : ByteArray) (w : World) (h : UW w aT aQ) (c k : Nat) (hc : c ≠ 34)
    (hf : firstV aT aQ s = .tuple #[.int .i32 c, .int .i64 k, .nilIface]) :
    Calls Tryz.prog 150 #[.string s] w fun e w' => e = .returned (.tuple #[.string ⟨#[]⟩, .string s, .int .i64 21]) ∧ Below w.heap.size w w' := by
  have hU0 : UWB w.heap.size (w.alloc (.cells #[.string s] 223)) aT aQ := (UWB.of h).to ((Below.refl _ w).alloc (Nat.le_refl _) _)
  have hp0 : Rd (w.alloc (.cells #[.string s] 223)) w.heap.size s := Blk.new _ _ _
  have HF := Lib.hid (utf_first s w.heap.size _ hU0.uw hp0)
  rw [hf] at HF
  have hb0 : Below w.heap.size w (w.alloc (.cells #[.string s] 223)) := (Below.refl _ w).alloc (Nat.le_refl _) _
  have k1 := built_left s
  have k2 := built_reader s
  have hc2 : ((c : Int) != 34) = true := by rw [bne_iff_ne]; omega
  clear hf hc
  refine calls_of_marks Tryz.func150 rfl ?_
  simp only [Tryz.ntmps150, List.size_toArray, List.length_cons, List.length_nil, Nat.reduceAdd, Nat.reduceSub, Array.replicate_succ, Array.replicate_zero, List.push_toArray, List.append_toArray, List.nil_append, List.cons_append]
  go_wp2_with fail
  go_step3
  go_wp2_with fail
  refine HF.out.mono ?_
  rintro e w1 ⟨rfl, hb1⟩
  have hU1 : UWB w.heap.size w1 aT aQ := hU0.to (hb1.mono (by simp))
  have hb01 := hb0.trans (hb1.mono (by simp))
  clear hb0 hb1 hU0 hp0 HF h
  have hQ : ∀ o, (w1.alloc o).cell? ⟨3, 0, none⟩ = some (errV aQ) := fun o => (hU1.uw.below ((Below.refl _ w1).alloc (Nat.le_refl _) o)).hQ
  have hb2 : ∀ o, Below w.heap.size w (w1.alloc o) := fun o => hb01.alloc hU1.le _
  have HT := Lib.hid (fun o => told_quote (w1.alloc o) (hU1.uw.below ((Below.refl _ w1).alloc (Nat.le_refl _) o)))
  go_wp2_with fail
  refine (HT.out _).mono ?_
  rintro e w2 ⟨rfl, rfl⟩
  go_wp2_with fail
  rw [Exit.noGoto_ret]
  exact leave0 (v := .tuple #[.string ⟨#[]⟩, .string s, .int .i64 21]) (by simp [results, Tryz.results150, go_sem]) rfl ⟨rfl, hb2 _⟩
end Go.Proofs.YtfckekaegjjmkaaGreatDoor
namespace Go.Proofs.YtfckekaegjjmkaaGreatDoor
open Go.RowKit Go.Shelf

def isDig (b : UInt8) : Bool := decide (48 ≤ b.toNat) && decide (b.toNat ≤ 57)
def digN (l : List UInt8) : Nat := (l.takeWhile isDig).length
theorem digN_cons_yes {b : UInt8} {l : List UInt8} (h : isDig b = true) : digN (b :: l) = digN l + 1 := by
  unfold digN
  rw [List.takeWhile_cons_of_pos h]
  rfl
theorem digN_cons_no {b : UInt8} {l : List UInt8} (h : isDig b = false) : digN (b :: l) = 0 := by
  unfold digN
  rw [List.takeWhile_cons_of_neg (by rw [h]; decide)]
  rfl
def dval : Nat → List UInt8 → Nat
  | acc, [] => acc
  | acc, c :: r => dval (acc * 10 + (c.toNat - 48)) r
theorem dval_ge : ∀ (l : List UInt8) (acc : Nat), acc ≤ dval acc l
  | [], acc => Nat.le_refl _
  | c :: r, acc => by
    have := dval_ge r (acc * 10 + (c.toNat - 48))
    show acc ≤ dval (acc * 10 + (c.toNat - 48)) r
    omega
theorem parse_digits : ∀ (l : List UInt8) (acc : Nat), acc < 18446744073709551616 → (∀ c ∈ l, isDig c = true) → Lib.parseUint10 acc l = if dval acc l < 18446744073709551616 then .ok (dval acc l) else .range
  | [], acc, ha, _ => by
    show Lib.NumEnd.ok acc = _
    rw [if_pos (show dval acc [] < _ from ha)]
    rfl
  | c :: r, acc, ha, h => by
    have hc := h c List.mem_cons_self
    unfold isDig at hc
    rw [Bool.and_eq_true, decide_eq_true_iff, decide_eq_true_iff] at hc
    have hge := dval_ge r (acc * 10 + (c.toNat - 48))
    have hd : dval acc (c :: r) = dval (acc * 10 + (c.toNat - 48)) r := rfl
    rw [hd]
    unfold Lib.parseUint10
    rw [if_pos hc]
    by_cases h1 : 1844674407370955162 ≤ acc
    · rw [if_pos h1, if_neg (by omega)]
    · rw [if_neg h1]
      by_cases h2 : 18446744073709551616 ≤ acc * 10 + (c.toNat - 48)
      · rw [if_pos h2, if_neg (by omega)]
      · rw [if_neg h2]
        exact parse_digits r _ (by omega) (fun x hx => h x (List.mem_cons_of_mem _ hx))
theorem atoi_digits {l : List UInt8} (hne : l ≠ []) (h : ∀ c ∈ l, isDig c = true) : Lib.atoiAll l = if dval 0 l < 9223372036854775808 then .ok (dval 0 l : Int) else .range := by
  cases l with
  | nil => exact absurd rfl hne
  | cons c r =>
    have hc := h c List.mem_cons_self
    unfold isDig at hc
    rw [Bool.and_eq_true, decide_eq_true_iff, decide_eq_true_iff] at hc
    have hp := parse_digits (c :: r) 0 (by decide) h
    unfold Lib.atoiAll Lib.parseMag
    simp only []
    rw [if_neg (by omega : ¬ (c.toNat = 43 ∨ c.toNat = 45)), if_neg (by simp), hp]
    by_cases h1 : dval 0 (c :: r) < 18446744073709551616
    · rw [if_pos h1]
      simp only []
      by_cases h2 : dval 0 (c :: r) < 9223372036854775808
      · rw [if_neg (by omega), if_neg (by omega), if_neg (by omega), if_pos h2]
      · rw [if_pos ⟨by omega, by omega⟩, if_neg h2]
    · rw [if_neg h1, if_neg (by omega)]
theorem takeWhile_all (l : List UInt8) : ∀ c ∈ l.take (digN l), isDig c = true := by
  intro c hc
  have e : l.take (digN l) = l.takeWhile isDig := (List.prefix_iff_eq_take.1 (List.takeWhile_prefix isDig)).symm
  rw [e] at hc
  exact List.all_eq_true.1 (List.all_takeWhile) c hc
theorem dval_append : ∀ (l : List UInt8) (acc : Nat) (c : UInt8), dval acc (l ++ [c]) = dval acc l * 10 + (c.toNat - 48)
  | [], _, _ => rfl
  | b :: l, acc, c => dval_append l (acc * 10 + (b.toNat - 48)) c
theorem digit_byte (d : Nat) (h : d < 10) : (UInt8.ofNat (48 + d)).toNat = 48 + d := by
  rw [UInt8.toNat_ofNat']
  omega
theorem dec_facts (u : Nat) : dval 0 (Lib.decDigits u) = u ∧ (∀ c ∈ Lib.decDigits u, isDig c = true) ∧ Lib.decDigits u ≠ [] := by
  induction u using Nat.strongRecOn with
  | _ u ih =>
    by_cases h : u < 10
    · rw [Lib.decDigits_one h]
      refine ⟨?_, ?_, by simp⟩
      · show 0 * 10 + ((UInt8.ofNat (48 + u)).toNat - 48) = u
        rw [digit_byte u h]
        omega
      · intro c hc
        rw [List.mem_singleton.1 hc]
        unfold isDig
        rw [digit_byte u h, Bool.and_eq_true, decide_eq_true_iff, decide_eq_true_iff]
        omega
    · obtain ⟨h1, h2, h3⟩ := ih (u / 10) (by omega)
      rw [Lib.decDigits, dif_neg h]
      refine ⟨?_, ?_, by simp⟩
      · rw [dval_append, h1, digit_byte _ (by omega)]
        omega
      · intro c hc
        rcases List.mem_append.1 hc with q | q
        · exact h2 c q
        · rw [List.mem_singleton.1 q]
          unfold isDig
          rw [digit_byte _ (by omega), Bool.and_eq_true, decide_eq_true_iff, decide_eq_true_iff]
          omega
theorem digN_all : ∀ (l t : List UInt8), (∀ c ∈ l, isDig c = true) → digN t = 0 → digN (l ++ t) = l.length
  | [], t, _, ht => ht
  | c :: l, t, h, ht => by
    show digN (c :: (l ++ t)) = _
    rw [digN_cons_yes (h c List.mem_cons_self), digN_all l t (fun x hx => h x (List.mem_cons_of_mem _ hx)) ht, List.length_cons]
theorem head_append {l t : List UInt8} (h : l ≠ []) : (l ++ t).head? = l.head? := by
  cases l with
  | nil => exact absurd rfl h
  | cons c l => rfl
theorem dec_head0 : ∀ (n u : Nat), u ≤ n → 0 < u → (Lib.decDigits u).head? ≠ some 48
  | 0, u, h0, h1 => by omega
  | n + 1, u, h0, h1 => by
    by_cases h : u < 10
    · rw [Lib.decDigits_one h, List.head?_cons]
      intro e
      have := congrArg UInt8.toNat (Option.some.inj e)
      rw [digit_byte u h] at this
      have h48 : (48 : UInt8).toNat = 48 := rfl
      omega
    · rw [Lib.decDigits, dif_neg h, head_append (dec_facts (u / 10)).2.2]
      exact dec_head0 n (u / 10) (by omega) (by omega)
theorem dec_head (u : Nat) (h : 1 < (Lib.decDigits u).length) : (Lib.decDigits u).head? ≠ some 48 := by
  refine dec_head0 u u (Nat.le_refl _) ?_
  rcases Nat.eq_zero_or_pos u with h0 | h0
  · subst h0
    rw [Lib.decDigits_one (by omega)] at h
    simp at h
  · exact h0
end Go.Proofs.YtfckekaegjjmkaaGreatDoor
namespace Go.Proofs.YtfckekaegjjmkaaGreatDoor


theorem isDig_iff {c : UInt8} (h : isDig c = true) : 48 ≤ c.toNat ∧ c.toNat ≤ 57 := by
  simpa [isDig] using h
theorem dval_lt : ∀ (l : List UInt8) (acc : Nat), (∀ c ∈ l, isDig c = true) → dval acc l < (acc + 1) * 10 ^ l.length
  | [], acc, _ => by
    rw [List.length_nil, Nat.pow_zero, Nat.mul_one]
    exact Nat.lt_succ_self acc
  | c :: l, acc, h => by
    have hc := isDig_iff (h c List.mem_cons_self)
    have := dval_lt l (acc * 10 + (c.toNat - 48)) (fun x hx => h x (List.mem_cons_of_mem _ hx))
    show dval (acc * 10 + (c.toNat - 48)) l < _
    rw [List.length_cons, Nat.pow_succ, Nat.mul_comm (10 ^ _) 10, ← Nat.mul_assoc]
    exact Nat.lt_of_lt_of_le this (Nat.mul_le_mul_right _ (by omega))
theorem dval_le : ∀ (l : List UInt8) (acc : Nat), acc * 10 ^ l.length ≤ dval acc l
  | [], acc => by
    rw [List.length_nil, Nat.pow_zero, Nat.mul_one]
    exact Nat.le_refl acc
  | c :: l, acc => by
    have := dval_le l (acc * 10 + (c.toNat - 48))
    show _ ≤ dval (acc * 10 + (c.toNat - 48)) l
    rw [List.length_cons, Nat.pow_succ, Nat.mul_comm (10 ^ _) 10, ← Nat.mul_assoc]
    exact Nat.le_trans (Nat.mul_le_mul_right _ (by omega)) this


end Go.Proofs.YtfckekaegjjmkaaGreatDoor
namespace Go.Proofs.YtfckekaegjjmkaaGreatDoor
open Go.RowKit Go.Shelf

mutual
def Tr.depth : Tr → Nat
  | .nd _ l => depthL l + 1
def depthL : List Tr → Nat
  | [] => 0
  | t :: l => max t.depth (depthL l)
end
theorem Tr.depth_eq (t : Tr) : t.depth = depthL t.kids + 1 := by
  cases t
  rw [Tr.depth]
  rfl
theorem depthL_append : ∀ a b : List Tr, depthL (a ++ b) = max (depthL a) (depthL b)
  | [], b => by simp [depthL]
  | t :: a, b => by
    show max t.depth (depthL (a ++ b)) = max (max t.depth (depthL a)) (depthL b)
    rw [depthL_append a b]
    omega
theorem depthL_take (l : List Tr) (k : Nat) (hk : k < l.length) : depthL (l.take (k + 1)) = max (depthL (l.take k)) l[k].depth := by
  rw [List.take_succ_eq_append_getElem hk, depthL_append]
  simp [depthL]
mutual
theorem depth_count : ∀ t : Tr, t.depth ≤ t.count
  | .nd _ l => by
    rw [Tr.depth, Tr.count]
    have := depthL_count l
    omega
theorem depthL_count : ∀ l : List Tr, depthL l ≤ countL l
  | [] => by simp [depthL]
  | t :: l => by
    rw [depthL, countL]
    have := depth_count t
    have := depthL_count l
    omega
end

/-- Has a node nothing but what x has (and its kind and its list)? -/
def onlyB (o x : Own) : Bool := decide (o = { x with kind := o.kind })

def natOk (s : ByteArray) : Bool := decide (1 ≤ s.size) && (decide (s.size ≤ 400) && (!(decide (1 < s.size) && decide (s.data.toList.head? = some 48)) && s.data.toList.all isDig))
theorem all_dig {s : ByteArray} : s.data.toList.all isDig = true ↔ ∀ j (h : j < s.size), isDig s[j] = true := by
  rw [List.all_eq_true]
  constructor
  · intro h j hj
    refine h _ ?_
    rw [ByteArray.getElem_eq_getElem_data, Array.mem_toList_iff]
    exact Array.getElem_mem _
  · intro h c hc
    obtain ⟨j, hj, rfl⟩ := List.getElem_of_mem hc
    have hj' : j < s.size := by simpa using hj
    have := h j hj'
    rw [ByteArray.getElem_eq_getElem_data] at this
    simpa using this
theorem head_at0 (s : ByteArray) (h : 0 < s.size) : s.data.toList.head? = some s[0] := by
  rw [List.head?_eq_getElem?, List.getElem?_eq_getElem (by simpa using h)]
  simp [ByteArray.getElem_eq_getElem_data]

def decOk (neg : Bool) (dg : ByteArray) (ex : Int) : Bool :=
  natOk dg && (decide (dg.size ≤ 100) && (if dg.toList = [48] then decide (ex = 0) && !neg else decide (-100 ≤ ex) && (decide (ex ≤ 100) && !decide (dg.data.toList.getLast? = some 48))))


def wideOk (u : Int) (wd : Int) : Bool := if wd = 64 then true else if wd = 16 then decide (u < 65536) else if wd = 32 then decide (u < 4294967296) else false

/-- No two keys are the same. -/
def KeysApart (l : List Tr) : Prop := ∀ (i k : Nat) (hi : i < l.length) (hk : k < i), i % 2 = 0 → k % 2 = 0 → sameT l[i] (l[k]'(by omega)) = false
noncomputable def keysB (l : List Tr) : Bool := @decide (KeysApart l) (Classical.propDecidable _)
noncomputable def ownB (o : Own) (l : List Tr) : Bool :=
  if o.kind = 1 then decide (l.length = 0) && onlyB o zeroO
  else if o.kind = 2 then decide (l.length = 0) && onlyB o { zeroO with b := o.b }
  else if o.kind = 3 then decide (l.length = 0) && (onlyB o { zeroO with neg := o.neg, dg := o.dg, ex := o.ex } && decOk o.neg o.dg o.ex)
  else if o.kind = 4 then decide (l.length = 0) && (onlyB o { zeroO with u := o.u, wd := o.wd } && wideOk o.u o.wd)
  else if o.kind = 5 then decide (l.length = 0) && (onlyB o { zeroO with s := o.s } && (decide (o.s.size ≤ 400) && Lib.validD o.s.data.toList))
  else if o.kind = 6 then decide (l.length = 0) && (onlyB o { zeroO with s := o.s } && decide (o.s.size ≤ 400))
  else if o.kind = 7 then onlyB o zeroO
  else if o.kind = 8 then onlyB o zeroO && (decide (l.length % 2 = 0) && keysB l)
  else if o.kind = 9 then decide (l.length = 1) && onlyB o { zeroO with u := o.u }
  else if o.kind = 10 then decide (l.length = 0) && (onlyB o { zeroO with u := o.u } && (decide (o.u ≤ 19) || (decide (o.u = 23) || (decide (32 ≤ o.u) && decide (o.u ≤ 255)))))
  else if o.kind = 11 then decide (l.length = 0) && (onlyB o { zeroO with u := o.u, s := o.s } && (decide (o.u ≤ 255) && decide (o.s.size ≤ 400)))
  else false

mutual
noncomputable def allB : Tr → Bool
  | .nd o l => ownB o l && allL l
noncomputable def allL : List Tr → Bool
  | [] => true
  | t :: l => allB t && allL l
end

/-- The reference's Right. -/
noncomputable def rightT (t : Tr) : Bool := decide (t.count ≤ 300) && (decide (t.depth ≤ 16) && allB t)
end Go.Proofs.YtfckekaegjjmkaaGreatDoor
namespace Go.Proofs.YtfckekaegjjmkaaGreatDoor
open Go.RowKit Go.Shelf

/-- The number of a row of digits with zeros behind. -/
def wholeN (dg : ByteArray) (ex : Int) : Nat := dval 0 dg.data.toList * 10 ^ ex.toNat
/-- A decimal as a whole number: whether it is below 0, its size. -/
def toIntD (neg : Bool) (dg : ByteArray) (ex : Int) : Option (Bool × Nat) :=
  if decOk neg dg ex = true ∧ 0 ≤ ex ∧ ex ≤ 20 ∧ wholeN dg ex < 18446744073709551616 then some (neg, wholeN dg ex) else none

/-- A row of digits without a 0 ahead is at least a power of ten. -/
theorem dval_head {l : List UInt8} (hl : l ≠ []) (hd : ∀ c ∈ l, isDig c = true) (h0 : l.head? ≠ some 48) : 10 ^ (l.length - 1) ≤ dval 0 l := by
  cases l with
  | nil => exact absurd rfl hl
  | cons c r =>
    have hc := isDig_iff (hd c List.mem_cons_self)
    have hne : c.toNat ≠ 48 := fun e => h0 (by rw [List.head?_cons, show c = 48 from UInt8.toNat_inj.1 e])
    have h1 := dval_le r (0 * 10 + (c.toNat - 48))
    show 10 ^ r.length ≤ dval (0 * 10 + (c.toNat - 48)) r
    refine Nat.le_trans ?_ h1
    have : 1 ≤ 0 * 10 + (c.toNat - 48) := by omega
    exact Nat.le_mul_of_pos_left _ this
theorem dval_up {l : List UInt8} (hd : ∀ c ∈ l, isDig c = true) : dval 0 l < 10 ^ l.length := by
  have := dval_lt l 0 hd
  rwa [Nat.zero_add, Nat.one_mul] at this
/-- What is known of a decimal's digits. -/
theorem dec_parts {neg : Bool} {dg : ByteArray} {ex : Int} (h : decOk neg dg ex = true) :
    (dg.data.toList = [48] ∧ ex = 0 ∧ neg = false) ∨ (dg.data.toList ≠ [] ∧ (∀ c ∈ dg.data.toList, isDig c = true) ∧ dg.data.toList.head? ≠ some 48 ∧ dg.data.toList.getLast? ≠ some 48) := by
  unfold decOk at h
  rw [Bool.and_eq_true, Bool.and_eq_true] at h
  obtain ⟨h1, h2, h3⟩ := h
  have hsz : dg.data.toList.length = dg.size := by simp
  by_cases h0 : dg.toList = [48]
  · rw [if_pos h0, Bool.and_eq_true, decide_eq_true_iff] at h3
    refine .inl ⟨?_, h3.1, by simpa using h3.2⟩
    rw [← ByteArray.toList_eq]
    exact h0
  · rw [if_neg h0, Bool.and_eq_true, Bool.and_eq_true] at h3
    have hl := h3.2.2
    rw [Bool.not_eq_true', decide_eq_false_iff_not] at hl
    unfold natOk at h1
    rw [Bool.and_eq_true, Bool.and_eq_true, Bool.and_eq_true, decide_eq_true_iff] at h1
    obtain ⟨g1, g2, g3, g4⟩ := h1
    rw [Bool.not_eq_true', Bool.and_eq_false_iff, decide_eq_false_iff_not, decide_eq_false_iff_not] at g3
    refine .inr ⟨fun e => by rw [e] at hsz; simp at hsz; omega, fun c hc => List.all_eq_true.1 g4 c hc, ?_, hl⟩
    rcases g3 with g | g
    · intro e
      apply h0
      rw [ByteArray.toList_eq]
      cases hq : dg.data.toList with
      | nil => rw [hq] at e; cases e
      | cons c r =>
        rw [hq] at e hsz
        rw [List.length_cons] at hsz
        have : r = [] := List.eq_nil_of_length_eq_zero (by omega)
        rw [this]
        rw [List.head?_cons] at e
        rw [Option.some.inj e]
    · exact g
end Go.Proofs.YtfckekaegjjmkaaGreatDoor
