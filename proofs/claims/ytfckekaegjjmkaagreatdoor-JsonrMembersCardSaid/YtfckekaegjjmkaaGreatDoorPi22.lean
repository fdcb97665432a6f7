/- The texts JsP, JrB, put together. -/
import Derived.Test.YtfckekaegjjmkaaGreatDoorPi21
import Derived.Test.YtfckekaegjjmkaaGreatDoorPi17
namespace Go.Proofs.YtfckekaegjjmkaaGreatDoor
open Go.RowKit Go.Shelf Lib

/-- A quoted text, read. -/
def uqJ (l : List UInt8) : Option (List UInt8 × List UInt8) := match unquoteL l with
  | .ok q => some q
  | .error _ => none
theorem hexL_own {l : List UInt8} {n : Nat} (h : hexL l = some n) : l = l.take 4 ++ l.drop 4 ∧ (l.take 4).length = 4 ∧ ∀ m, hexL (l.take 4 ++ m) = some n := by
  have hl := hexL_len h
  have h4 : (l.take 4).length = 4 := by rw [List.length_take]; omega
  refine ⟨(List.take_append_drop 4 l).symm, h4, fun m => ?_⟩
  unfold hexL at h ⊢
  rw [if_neg (by omega)] at h
  rw [if_neg (by rw [List.length_append]; omega), List.take_left' h4]
  exact h
theorem lowL_own {hi : Nat} {l r : List UInt8} {x : Nat} (h : lowL hi l = some (x, r)) : ∃ own, l = own ++ r ∧ ∀ m, lowL hi (own ++ m) = some (x, m) := by
  unfold lowL at h
  split at h
  case isFalse => cases h
  rename_i h2
  cases hx : hexL (l.drop 2) with
  | none => rw [hx] at h; cases h
  | some lo =>
    rw [hx] at h
    simp only at h
    split at h
    case isFalse => cases h
    rename_i hp
    cases h
    obtain ⟨e1, e2, e3⟩ := hexL_own hx
    refine ⟨[92, 117] ++ (l.drop 2).take 4, ?_, fun m => ?_⟩
    · have e4 : (l.drop 2).drop 4 = l.drop 6 := by rw [List.drop_drop]
      rw [List.append_assoc, ← e4, ← e1, ← h2, List.take_append_drop]
    · unfold lowL
      have d2 : ([92, 117] ++ (l.drop 2).take 4 ++ m).drop 2 = (l.drop 2).take 4 ++ m := rfl
      have d6 : ([92, 117] ++ (l.drop 2).take 4 ++ m).drop 6 = m := List.drop_left' (by rw [List.length_append, e2]; rfl)
      rw [if_pos (show ((([92, 117] : List UInt8) ++ (l.drop 2).take 4 ++ m).take 2) = [92, 117] from rfl), d2, e3 m, d6]
      simp only
      rw [if_pos hp]
theorem numL_own {l r : List UInt8} {x : Nat} (h : numL l = some (x, r)) : ∃ own, l = own ++ r ∧ ∀ m, numL (own ++ m) = some (x, m) := by
  unfold numL at h
  cases hx : hexL l with
  | none => rw [hx] at h; cases h
  | some hi =>
    rw [hx] at h
    simp only at h
    obtain ⟨e1, e2, e3⟩ := hexL_own hx
    split at h
    · rename_i hc
      cases h
      refine ⟨l.take 4, e1, fun m => ?_⟩
      unfold numL
      rw [e3 m, List.drop_left' e2]
      simp only
      rw [if_pos hc]
    · rename_i hc
      obtain ⟨o, g1, g2⟩ := lowL_own h
      refine ⟨l.take 4 ++ o, ?_, fun m => ?_⟩
      · rw [List.append_assoc, ← g1]
        exact e1
      · unfold numL
        rw [List.append_assoc, e3, List.drop_left' e2]
        simp only
        rw [if_neg hc, g2]
theorem escL_own {l r : List UInt8} {x : Nat} (h : escL l = some (x, r)) : ∃ own, l = own ++ r ∧ ∀ m, escL (own ++ m) = some (x, m) := by
  cases l with
  | nil => cases h
  | cons c l =>
    cases hs : signX c.toNat with
    | some y =>
      rw [escL_some l hs] at h
      cases h
      exact ⟨[c], rfl, fun m => escL_some m hs⟩
    | none =>
      rw [escL_none l hs] at h
      split at h
      case isFalse => cases h
      rename_i hc
      obtain ⟨o, g1, g2⟩ := numL_own h
      refine ⟨c :: o, by rw [List.cons_append, ← g1], fun m => ?_⟩
      rw [List.cons_append, escL_none _ hs, if_pos hc, g2]
/-- A character that is read is its own. -/
theorem decodeL_own {l : List UInt8} (hne : l ≠ []) (hb : decodeL l ≠ (65533, 1)) : l = encodeRune (decodeL l).1 ++ l.drop (decodeL l).2 ∧ ∀ m, decodeL (encodeRune (decodeL l).1 ++ m) = ((decodeL l).1, (encodeRune (decodeL l).1).length) ∧ encodeRune (decodeL l).1 ++ m ≠ [] ∧ decodeL (encodeRune (decodeL l).1 ++ m) ≠ (65533, 1) := by
  have hb' : ¬ ((decodeL l).1 = 65533 ∧ (decodeL l).2 = 1) := fun h => hb (Prod.ext h.1 h.2)
  have hc := decodeL_char l
  refine ⟨by rw [encode_decode l hne hb', List.take_append_drop], fun m => ⟨decode_encode _ hc m, fun e => encode_ne _ (List.append_eq_nil_iff.1 e).1, fun e => not_bad hc m (by rw [e]; exact ⟨rfl, rfl⟩)⟩⟩
theorem nextL_own {l r : List UInt8} {x : Option Nat} (h : nextL l = .ok (x, r)) : ∃ own, own ≠ [] ∧ l = own ++ r ∧ (x = none → own = [34]) ∧ ∀ m, nextL (own ++ m) = .ok (x, m) := by
  by_cases hne : l = []
  · subst hne
    cases h
  rw [nextL_ne hne] at h
  split at h
  · cases h
  rename_i hb
  obtain ⟨e1, e2⟩ := decodeL_own hne hb
  have hc := decodeL_char l
  generalize (decodeL l).2 = k at *
  generalize (decodeL l).1 = c at *
  have hdrop : ∀ m, (encodeRune (c : Nat) ++ m).drop (encodeRune (c : Nat)).length = m := fun m => List.drop_left' rfl
  split at h
  · rename_i h34
    cases h
    subst h34
    refine ⟨encodeRune (34 : Nat), encode_ne _, e1, fun _ => rfl, fun m => ?_⟩
    rw [nextL_ne (e2 m).2.1, if_neg (e2 m).2.2, (e2 m).1, if_pos rfl, hdrop]
  · rename_i h34
    split at h
    · cases h
    rename_i h32
    split at h
    · rename_i h92
      subst h92
      cases he : escL (l.drop k) with
      | none => rw [he] at h; cases h
      | some q =>
        obtain ⟨y, q⟩ := q
        rw [he] at h
        cases h
        obtain ⟨o, g1, g2⟩ := escL_own he
        refine ⟨encodeRune (92 : Nat) ++ o, fun e => encode_ne _ (List.append_eq_nil_iff.1 e).1, by rw [List.append_assoc, ← g1]; exact e1, (fun e => by cases e), fun m => ?_⟩
        rw [List.append_assoc, nextL_ne (e2 _).2.1, if_neg (e2 _).2.2, (e2 _).1, if_neg h34, if_neg h32, if_pos rfl, hdrop, g2]
        rfl
    · rename_i h92
      cases h
      refine ⟨encodeRune (c : Nat), encode_ne _, e1, (fun e => by cases e), fun m => ?_⟩
      rw [nextL_ne (e2 _).2.1, if_neg (e2 _).2.2, (e2 _).1, if_neg h34, if_neg h32, if_neg h92, hdrop]
theorem unqL_own : ∀ (f : Nat) (l t r : List UInt8), unqL f l = .ok (t, r) → ∃ o, l = o ++ 34 :: r ∧ ∀ f' m, o.length < f' → unqL f' (o ++ 34 :: m) = .ok (t, m)
  | 0, l, t, r, h => by cases h
  | f + 1, l, t, r, h => by
    cases hn : nextL l with
    | error b =>
      rw [unqL_error hn] at h
      cases h
    | ok q =>
      obtain ⟨x, r1⟩ := q
      obtain ⟨own, g1, g2, g3, g4⟩ := nextL_own hn
      cases x with
      | none =>
        rw [unqL_end hn] at h
        cases h
        have := g3 rfl
        subst this
        refine ⟨[], g2, fun f' m hf => ?_⟩
        obtain ⟨f', rfl⟩ : ∃ g, f' = g + 1 := ⟨f' - 1, by simp at hf; omega⟩
        exact unqL_end (g4 m)
      | some x =>
        cases hq : unqL f r1 with
        | error b =>
          rw [unqL_parte hn hq] at h
          cases h
        | ok q2 =>
          obtain ⟨t2, r2⟩ := q2
          rw [unqL_part hn hq] at h
          cases h
          obtain ⟨o, k1, k2⟩ := unqL_own f r1 t2 r hq
          refine ⟨own ++ o, by rw [List.append_assoc, ← k1]; exact g2, fun f' m hf => ?_⟩
          have hown : 0 < own.length := List.length_pos_iff.2 g1
          rw [List.length_append] at hf
          obtain ⟨f', rfl⟩ : ∃ g, f' = g + 1 := ⟨f' - 1, by omega⟩
          rw [List.append_assoc]
          exact unqL_part (g4 _) (k2 f' m (by omega))
theorem uqJ_own {l s r : List UInt8} (h : uqJ l = some (s, r)) : ∃ o, l = 34 :: o ++ 34 :: r ∧ ∀ m, uqJ (34 :: o ++ 34 :: m) = some (s, m) := by
  unfold uqJ at h
  cases hu : unquoteL l with
  | error b => rw [hu] at h; cases h
  | ok q =>
    rw [hu] at h
    cases h
    unfold unquoteL at hu
    split at hu
    · cases hu
    rename_i hne
    split at hu
    · cases hu
    rename_i hb
    split at hu
    · cases hu
    rename_i h34
    have h34 : (decodeL l).1 = 34 := Decidable.byContradiction h34
    obtain ⟨e1, _⟩ := decodeL_own hne hb
    rw [h34] at e1
    have e1 : l = 34 :: l.drop (decodeL l).2 := e1
    obtain ⟨o, k1, k2⟩ := unqL_own _ _ _ _ hu
    refine ⟨o, by rw [List.cons_append, ← k1]; exact e1, fun m => ?_⟩
    unfold uqJ
    rw [List.cons_append, unquoteL_in, k2 _ m (by simp; omega)]
/-- What is read is its own, whatever stands behind. -/
theorem uqJ_own2 (l s r : List UInt8) (h : uqJ l = some (s, r)) : ∃ own, own ≠ [] ∧ l = own ++ r ∧ ∀ m, uqJ (own ++ m) = some (s, m) := by
  obtain ⟨o, h1, h2⟩ := uqJ_own h
  refine ⟨34 :: o ++ [34], by simp, by rw [h1]; simp, fun m => ?_⟩
  rw [List.append_assoc]
  exact h2 m
/-- A quoted text begins with a quote. -/
theorem quoteL_beg (l : List UInt8) : ∃ r, quoteL l = 34 :: r := ⟨_, rfl⟩
/-- What is quoted is read. -/
theorem uqJ_quote (l m : List UInt8) (hv : validD l = true) : uqJ (quoteL l ++ m) = some (l, m) := by
  unfold uqJ
  rw [unquote_quote hv m]
end Go.Proofs.YtfckekaegjjmkaaGreatDoor
namespace Go.Proofs.YtfckekaegjjmkaaGreatDoor
open Go.RowKit Go.Shelf
attribute [local go_sem] Oper.semAt_some

abbrev zeroJ : Value := nodeV zeroO (.slice none 0 0)
/-- What a reader of a value tells, so deep at most. -/
def ReadJ (p d D : Nat) (w : World) (s : ByteArray) (r : PR Tr) (x : Ending) (w' : World) : Prop := w.grownBy w' (some p) ∧ match r with
  | .good t r => (∃ A n c, x = .returned (.tuple #[nodeV t.own (.slice A n c), .nilIface]) ∧ LAt w' (fun q => w.heap.size ≤ q ∧ q < w'.heap.size) D t.kids (.slice A n c)) ∧ OwnOk t.own ∧ RdJ w' p (bsD r) d ∧ r.length ≤ s.size
  | .bad e => (x = .returned (.tuple #[zeroJ, errJ e]) ∧ (e = 60 ∨ e = 80)) ∧ ∃ s' d', RdJ w' p s' d' ∧ s'.size ≤ s.size
theorem ReadJ.deeper {p d D D' : Nat} {w : World} {s : ByteArray} {r : PR Tr} {x : Ending} {w' : World} (hD : D ≤ D') (h : ReadJ p d D w s r x w') : ReadJ p d D' w s r x w' := by
  unfold ReadJ at h ⊢
  cases r with
  | bad e => exact h
  | good t r =>
    obtain ⟨h1, ⟨A, n, c, h2, h3⟩, h4⟩ := h
    exact ⟨h1, ⟨A, n, c, h2, h3.deeper hD⟩, h4⟩
theorem takeJ_len (v l : List UInt8) : (takeJ v l).2.length ≤ l.length := by
  unfold takeJ
  split
  · rw [List.length_drop]
    omega
  · exact Nat.le_refl _
theorem word_take (v : List UInt8) (t : Tr) (l : List UInt8) : wordJ v t l = if (takeJ v l).1 = true then .good t (takeJ v l).2 else .bad 80 := by
  unfold wordJ takeJ
  split
  · simp
  · simp
abbrev zeroC : Array Value := #[.int .i64 0, .bool false, .bool false, .string ⟨#[]⟩, .int .i64 0, .int .u64 0, .int .i64 0, .string ⟨#[]⟩, .slice none 0 0]

set_option maxHeartbeats 4000000 in
set_option maxRecDepth 100000 in
theorem jr_word (p d D : Nat) (v : ByteArray) (kind : Int) (bb ng : Bool) (dg : ByteArray) (ex u wd : Int) (sx : ByteArray) (s : ByteArray) (w : World) (hR : RdJ w p s d) (ho : OwnOk ⟨kind, bb, ng, dg, ex, u, wd, sx⟩) :
    Calls Tryz.prog 151 #[.pointer (some ⟨p, 0, none⟩), .string v, nodeV ⟨kind, bb, ng, dg, ex, u, wd, sx⟩ (.slice none 0 0)] w (ReadJ p d D w s (wordJ v.data.toList (.nd ⟨kind, bb, ng, dg, ex, u, wd, sx⟩ []) s.data.toList)) := by
  rw [word_take]
  have HT := Lib.hid (fun W h => jr_take p d s v W h)
  have hlen := takeJ_len v.data.toList s.data.toList
  have hsl : s.data.toList.length = s.size := by simp
  obtain ⟨⟨b, r⟩, hx⟩ : ∃ x, takeJ v.data.toList s.data.toList = x := ⟨_, rfl⟩
  rw [hx] at HT hlen ⊢
  simp only [] at HT hlen ⊢
  rw [hsl] at hlen
  have HO := Lib.hid ho
  have HL := Lib.hid hlen
  have hplt := hR.lt
  unfold nodeV
  simp only []
  have hk1 := (Blk.new w #[.int .i64 kind, .bool bb, .bool ng, .string dg, .int .i64 ex, .int .u64 u, .int .i64 wd, .string sx, .slice none 0 0] 27).alloc (.cells zeroC 27)
  have hk2 := Blk.new (w.alloc (.cells #[.int .i64 kind, .bool bb, .bool ng, .string dg, .int .i64 ex, .int .u64 u, .int .i64 wd, .string sx, .slice none 0 0] 27)) zeroC 27
  rw [World.size_alloc] at hk2
  have hr2 := (hR.alloc (.cells #[.int .i64 kind, .bool bb, .bool ng, .string dg, .int .i64 ex, .int .u64 u, .int .i64 wd, .string sx, .slice none 0 0] 27)).alloc (.cells zeroC 27)
  have hb2 : Below w.heap.size w ((w.alloc (.cells #[.int .i64 kind, .bool bb, .bool ng, .string dg, .int .i64 ex, .int .u64 u, .int .i64 wd, .string sx, .slice none 0 0] 27)).alloc (.cells zeroC 27)) := ((Below.refl _ w).alloc (Nat.le_refl _) _).alloc (by simp) _
  have hz2 : ((w.alloc (.cells #[.int .i64 kind, .bool bb, .bool ng, .string dg, .int .i64 ex, .int .u64 u, .int .i64 wd, .string sx, .slice none 0 0] 27)).alloc (.cells zeroC 27)).heap.size = w.heap.size + 2 := by simp
  clear hx hlen ho hR hsl
  cases b with
  | false =>
    simp only [Bool.false_eq_true, if_false]
    go_enter Tryz.func151, Tryz.ntmps151
    go_wp2_with fail
    refine (HT.out _ hr2).mono ?_
    rintro e w3 ⟨rfl, hg3, hr3⟩
    have hk3 := (hg3.block (w.heap.size + 1) hk2.lt (fun e => by injection e with e; omega)).trans hk2
    have hg : w.grownBy w3 (some p) := grown_trans (below_grown hb2 _) hg3
    go_wp2_with fail
    refine (jr_bad _).mono ?_
    rintro e w4 ⟨rfl, rfl⟩
    go_wp2_with (refine wpList_store_row rfl 27 (.tmp 6) (.tmp 12) rfl (w.heap.size + 1) zeroC rfl rfl 27 _ hk3 (by kernel_rfl) rfl (by simp [Value.oneCell']) ?_)
    refine bodyPost_ret (results_cell (T := 27) rfl rfl rfl (blk_row hk3 zeroC) Tryz.underlying27 rfl (by kernel_rfl)) rfl ?_
    exact ⟨grown_at hg (grown_row _ _ _) (by omega), ⟨rfl, .inr rfl⟩, _, d, blk_row_other hr3 (by omega) _, HL.out⟩
  | true =>
    simp only [if_true]
    go_enter Tryz.func151, Tryz.ntmps151
    go_wp2_with fail
    refine (HT.out _ hr2).mono ?_
    rintro e w3 ⟨rfl, hg3, hr3⟩
    have hk3 := (hg3.block (w.heap.size + 1) hk2.lt (fun e => by injection e with e; omega)).trans hk2
    have hk4 := (hg3.block w.heap.size hk1.lt (fun e => by injection e with e; omega)).trans hk1
    have hg : w.grownBy w3 (some p) := grown_trans (below_grown hb2 _) hg3
    go_wp2_with (first | (refine wpList_load_row rfl 27 (.tmp 5) rfl (w.heap.size) rfl 27 _ (0, 0) _ hk4 Tryz.underlying27 rfl (by kernel_rfl) ?_) | (refine wpList_store_row rfl 27 (.tmp 6) (.tmp 14) rfl (w.heap.size + 1) #[.int .i64 kind, .bool bb, .bool ng, .string dg, .int .i64 ex, .int .u64 u, .int .i64 wd, .string sx, .slice none 0 0] rfl rfl 27 _ hk3 (by kernel_rfl) rfl (by simp [Value.oneCell']) ?_))
    refine bodyPost_ret (results_cell (T := 27) rfl rfl rfl (blk_row hk3 _) Tryz.underlying27 rfl (by kernel_rfl)) rfl ?_
    exact ⟨grown_at hg (grown_row _ _ _) (by omega), ⟨none, 0, 0, rfl, LAt.nil _ _ _ _ _⟩, HO.out, blk_row_other hr3 (by omega) _, HL.out⟩
end Go.Proofs.YtfckekaegjjmkaaGreatDoor
