/- The texts UtfS, UtfG, UtfH, put together. -/
import Derived.Test.YtfckekaegjjmkaaGreatDoorPi04
import Derived.Test.YtfckekaegjjmkaaGreatDoorPi02
import Derived.Lib.MapLaws
import Derived.Lib.QuoteLoop
namespace Go.Proofs.YtfckekaegjjmkaaGreatDoor
open Go.RowKit Go.Shelf

/-- The sign of a character behind a backslash. -/
def signX (c : Nat) : Option Nat :=
  if c = 34 then some 34 else if c = 92 then some 92 else if c = 47 then some 47 else if c = 98 then some 8 else if c = 102 then some 12 else if c = 110 then some 10 else if c = 114 then some 13 else if c = 116 then some 9 else none
def hexL (l : List UInt8) : Option Nat := if l.length < 4 then none else hexAcc (l.take 4) 0
/-- Behind two halves' first: the second. -/
def lowL (hi : Nat) (l : List UInt8) : Option (Nat × List UInt8) :=
  if l.take 2 = [92, 117] then
    match hexL (l.drop 2) with
    | none => none
    | some lo => if pairOk hi lo then some ((pairOf hi lo).toNat, l.drop 6) else none
  else none
def numL (l : List UInt8) : Option (Nat × List UInt8) :=
  match hexL l with
  | none => none
  | some hi => if hi < 55296 ∨ 57343 < hi then some (hi, l.drop 4) else lowL hi (l.drop 4)
/-- What stands behind a backslash. -/
def escL : List UInt8 → Option (Nat × List UInt8)
  | [] => none
  | c :: r => match signX c.toNat with
    | some x => some (x, r)
    | none => if c.toNat = 117 then numL r else none
theorem escL_some {c : UInt8} {x : Nat} (r : List UInt8) (h : signX c.toNat = some x) : escL (c :: r) = some (x, r) := by
  show (match signX c.toNat with | some x => some (x, r) | none => if c.toNat = 117 then numL r else none) = _
  rw [h]
theorem escL_none {c : UInt8} (r : List UInt8) (h : signX c.toNat = none) : escL (c :: r) = if c.toNat = 117 then numL r else none := by
  show (match signX c.toNat with | some x => some (x, r) | none => if c.toNat = 117 then numL r else none) = _
  rw [h]
def partOf : Option (Nat × List UInt8) → Except Bool (Option Nat × List UInt8)
  | none => .error false
  | some (x, r) => .ok (some x, r)
/-- A part of a quotation: its character (none: the end) and what is left; an error: true: no text. -/
def nextL (l : List UInt8) : Except Bool (Option Nat × List UInt8) :=
  if l = [] then .error false
  else if Lib.decodeL l = (65533, 1) then .error true
  else if (Lib.decodeL l).1 = 34 then .ok (none, l.drop (Lib.decodeL l).2)
  else if (Lib.decodeL l).1 < 32 then .error false
  else if (Lib.decodeL l).1 = 92 then partOf (escL (l.drop (Lib.decodeL l).2))
  else .ok (some (Lib.decodeL l).1, l.drop (Lib.decodeL l).2)

theorem nextL_ne {l : List UInt8} (h : l ≠ []) : nextL l = if Lib.decodeL l = (65533, 1) then .error true
  else if (Lib.decodeL l).1 = 34 then .ok (none, l.drop (Lib.decodeL l).2)
  else if (Lib.decodeL l).1 < 32 then .error false
  else if (Lib.decodeL l).1 = 92 then partOf (escL (l.drop (Lib.decodeL l).2))
  else .ok (some (Lib.decodeL l).1, l.drop (Lib.decodeL l).2) := by
  unfold nextL
  rw [if_neg h]
theorem hexOf_eq (s : ByteArray) : hexOf s = hexL s.data.toList := by
  unfold hexOf hexL
  simp
theorem hexAcc_lt : ∀ (l : List UInt8) (n m : Nat), hexAcc l n = some m → m < (n + 1) * 16 ^ l.length
  | [], n, m, h => by
    cases h
    simp
  | b :: l, n, m, h => by
    unfold hexAcc at h
    cases hv : hexv b.toNat with
    | none => rw [hv] at h; cases h
    | some d =>
      rw [hv] at h
      have h1 := hexAcc_lt l (n * 16 + d) m h
      have h2 := hexv_lt hv
      have h3 : (n * 16 + d + 1) * 16 ^ l.length ≤ ((n + 1) * 16) * 16 ^ l.length := Nat.mul_le_mul_right _ (by omega)
      rw [List.length_cons, Nat.pow_succ, Nat.mul_comm (16 ^ l.length) 16, ← Nat.mul_assoc]
      omega
theorem hexL_lt {l : List UInt8} {n : Nat} (h : hexL l = some n) : n < 65536 := by
  unfold hexL at h
  split at h
  · cases h
  · have h1 := hexAcc_lt _ _ _ h
    rw [List.length_take_of_le (by omega)] at h1
    simpa using h1
theorem hexL_len {l : List UInt8} {n : Nat} (h : hexL l = some n) : 4 ≤ l.length := by
  unfold hexL at h
  split at h
  · cases h
  · omega
theorem pair_range {hi lo : Int} (h : pairOk hi lo = true) : 65536 ≤ pairOf hi lo ∧ pairOf hi lo ≤ 1114111 := by
  unfold pairOf
  rw [if_pos h]
  simp [pairOk] at h
  omega
theorem lowL_facts {hi : Nat} {l r : List UInt8} {x : Nat} (h : lowL hi l = some (x, r)) : r.length < l.length ∧ 65536 ≤ x ∧ x ≤ 1114111 := by
  unfold lowL at h
  split at h
  · split at h
    · cases h
    · rename_i lo hlo
      have hl := hexL_len hlo
      rw [List.length_drop] at hl
      split at h
      · rename_i hp
        cases h
        have hr := pair_range hp
        refine ⟨by rw [List.length_drop]; omega, by omega, by omega⟩
      · cases h
  · cases h
/-- A character that may be told. -/
def charOk (x : Nat) : Prop := x < 55296 ∨ (57343 < x ∧ x ≤ 1114111)
theorem numL_facts {l r : List UInt8} {x : Nat} (h : numL l = some (x, r)) : r.length < l.length ∧ charOk x := by
  unfold numL at h
  split at h
  · cases h
  · rename_i hi hhi
    have hl := hexL_len hhi
    have hx := hexL_lt hhi
    split at h
    · rename_i hc
      cases h
      exact ⟨by rw [List.length_drop]; omega, hc.elim .inl fun h => .inr (by omega)⟩
    · have hf := lowL_facts h
      rw [List.length_drop] at hf
      refine ⟨by omega, ?_⟩
      unfold charOk
      omega
theorem signX_le {c x : Nat} (h : signX c = some x) : x < 128 := by
  unfold signX at h
  repeat' split at h
  all_goals first | (cases h; omega) | cases h
theorem escL_facts {l r : List UInt8} {x : Nat} (h : escL l = some (x, r)) : r.length < l.length ∧ charOk x := by
  cases l with
  | nil => cases h
  | cons c t =>
    cases hx : signX c.toNat with
    | some x' =>
      rw [escL_some t hx] at h
      cases h
      have := signX_le hx
      refine ⟨by simp, ?_⟩
      unfold charOk
      omega
    | none =>
      rw [escL_none t hx] at h
      by_cases hu : c.toNat = 117
      · rw [if_pos hu] at h
        have hf := numL_facts h
        exact ⟨by simp; omega, hf.2⟩
      · rw [if_neg hu] at h
        cases h
theorem nextL_shorter {l r : List UInt8} {x : Option Nat} (h : nextL l = .ok (x, r)) : r.length < l.length := by
  unfold nextL at h
  split at h
  · cases h
  · rename_i hne
    have hw := Lib.decodeL_width l
    have hl : 0 < l.length := List.length_pos_iff.2 hne
    have hd : (l.drop (Lib.decodeL l).2).length < l.length := by rw [List.length_drop]; omega
    split at h
    · cases h
    · split at h
      · cases h; exact hd
      · split at h
        · cases h
        · split at h
          · cases he : escL (l.drop (Lib.decodeL l).2) with
            | none => rw [he] at h; cases h
            | some q =>
              obtain ⟨x', r'⟩ := q
              rw [he] at h
              cases h
              exact Nat.lt_trans (escL_facts he).1 hd
          · cases h; exact hd

theorem decodeL_char (l : List UInt8) : charOk (Lib.decodeL l).1 := by
  rw [Lib.decodeL_N]
  exact Lib.decodeN_valid _ _ _ _ _ (UInt8.toNat_lt _)
theorem nextL_char {l r : List UInt8} {x : Nat} (h : nextL l = .ok (some x, r)) : charOk x := by
  unfold nextL at h
  split at h
  · cases h
  · split at h
    · cases h
    · split at h
      · cases h
      · split at h
        · cases h
        · split at h
          · cases he : escL (l.drop (Lib.decodeL l).2) with
            | none => rw [he] at h; cases h
            | some q =>
              obtain ⟨x', r'⟩ := q
              rw [he] at h
              cases h
              exact (escL_facts he).2
          · cases h
            exact decodeL_char l
theorem charOk_le {x : Nat} (h : charOk x) : x ≤ 1114111 := by
  unfold charOk at h
  omega

/-- The world that the reader's functions ask for: what lay below n at the beginning lies as it lay. -/
def UWB (n : Nat) (w : World) (aT aQ : Addr) : Prop := ∃ W0 : World, W0.heap.size = n ∧ UW W0 aT aQ ∧ Below n W0 w
theorem UWB.of {w : World} {aT aQ : Addr} (h : UW w aT aQ) : UWB w.heap.size w aT aQ := ⟨w, rfl, h, Below.refl _ _⟩
theorem UWB.uw {n : Nat} {w : World} {aT aQ : Addr} (h : UWB n w aT aQ) : UW w aT aQ := by
  obtain ⟨W0, rfl, h, hb⟩ := h
  exact h.below hb
theorem UWB.to {n : Nat} {w w' : World} {aT aQ : Addr} (h : UWB n w aT aQ) (hb : Below n w w') : UWB n w' aT aQ := by
  obtain ⟨W0, hz, h, hb0⟩ := h
  exact ⟨W0, hz, h, hb0.trans hb⟩
theorem UWB.le {n : Nat} {w : World} {aT aQ : Addr} (h : UWB n w aT aQ) : n ≤ w.heap.size := by
  obtain ⟨W0, rfl, _, hb⟩ := h
  exact hb.size
/-- The reader: what is left. -/
abbrev Rd (w : World) (p : Nat) (s : ByteArray) : Prop := Blk w p #[.string s] 223
theorem Rd.put {w : World} {p : Nat} {s : ByteArray} (h : Rd w p s) (s' : ByteArray) : Rd (w.setCell ⟨p, 0, none⟩ (.string s')) p s' := h.set 0 _
end Go.Proofs.YtfckekaegjjmkaaGreatDoor
namespace Go.Proofs.YtfckekaegjjmkaaGreatDoor
open Go.RowKit Go.Shelf

theorem signs_find (k : Nat) (x : Nat) (h : signX k = some x) : ∃ i, Instr.findNow (.int .u8) (.int .u8 (k : Int)) signsE.toList 0 = some (some (i, .int .i32 (x : Int))) := by
  unfold signX at h
  repeat' split at h
  all_goals first | (cases h; subst k; exact ⟨_, rfl⟩) | cases h
theorem signs_miss (k : Nat) (h : signX k = none) : Instr.findNow (.int .u8) (.int .u8 (k : Int)) signsE.toList 0 = some none := by
  unfold signX at h
  repeat' split at h
  all_goals first | cases h | skip
  have e : ∀ m : Nat, k ≠ m → ((m : Int) == (k : Int)) = false ∧ ((k : Int) == (m : Int)) = false := fun m hm => by
    constructor <;> (rw [beq_eq_false_iff_ne]; omega)
  have e34 := e 34 (by assumption)
  have e92 := e 92 (by assumption)
  have e47 := e 47 (by assumption)
  have e98 := e 98 (by assumption)
  have e102 := e 102 (by assumption)
  have e110 := e 110 (by assumption)
  have e114 := e 114 (by assumption)
  have e116 := e 116 (by assumption)
  simp only [Int.cast_ofNat_Int] at e34 e92 e47 e98 e102 e110 e114 e116
  simp [signsE, Instr.findNow, Instr.sameNow, e34, e92, e47, e98, e102, e110, e114, e116]

theorem signs_look (w : World) (b : Nat) (hm : w.heap[b]? = some (.map signsE 8)) (k x : Nat) (h : signX k = some x) :
    (Instr.lookup 252 (.map (some b)) (.int .u8 (k : Int)) true).run Tryz.prog w = .ok (.tuple #[.int .i32 (x : Int), .bool true]) w := by
  obtain ⟨i, hf⟩ := signs_find k x h
  have h1 : (Instr.findKey 5 (.int .u8 (k : Int)) signsE.toList).run Tryz.prog w = .ok (some (i, .int .i32 (x : Int))) w := MapKept.run_findKey Tryz.underlying5 hf
  have h2 : (Instr.checkKey signsE.isEmpty 10000 5 (.int .u8 (k : Int))).run Tryz.prog w = .ok () w := by
    unfold Instr.checkKey
    simp [run_underlying Tryz.underlying5]
  simp only [Instr.lookup, Sem.run_bind, run_underlying Tryz.underlying252, Result.andThen, MapKept.run_getObj_map hm, h2, h1, Sem.run_pure]
  rfl
theorem signs_lookno (w : World) (b : Nat) (hm : w.heap[b]? = some (.map signsE 8)) (k : Nat) (h : signX k = none) :
    (Instr.lookup 252 (.map (some b)) (.int .u8 (k : Int)) true).run Tryz.prog w = .ok (.tuple #[.int .i32 0, .bool false]) w := by
  have hf := signs_miss k h
  have h1 : (Instr.findKey 5 (.int .u8 (k : Int)) signsE.toList).run Tryz.prog w = .ok none w := MapKept.run_findKey Tryz.underlying5 hf
  have h2 : (Instr.checkKey signsE.isEmpty 10000 5 (.int .u8 (k : Int))).run Tryz.prog w = .ok () w := by
    unfold Instr.checkKey
    simp [run_underlying Tryz.underlying5]
  have h3 : (zeroValue 21).run Tryz.prog w = .ok (.int .i32 0) w := by kernel_rfl
  simp only [Instr.lookup, Sem.run_bind, run_underlying Tryz.underlying252, Result.andThen, MapKept.run_getObj_map hm, h2, h1, h3, Sem.run_pure]
  rfl

abbrev errV (a : Addr) : Value := .iface 289 (.pointer (some a))

/-- hex, as one contract. -/
def HexPost (aQ : Addr) (p : Nat) (s : ByteArray) (w : World) (e : Ending) (w' : World) : Prop :=
  w.grownBy w' (some p) ∧ match hexL s.data.toList with
    | some n => e = .returned (.tuple #[.int .i32 (n : Int), .nilIface]) ∧ Rd w' p (s.extract 4 s.size)
    | none => e = .returned (.tuple #[.int .i32 0, errV aQ])
theorem utf_hexA {n : Nat} {aT aQ : Addr} (s : ByteArray) (p : Nat) (w : World) (h : UWB n w aT aQ) (hp : Rd w p s) :
    Calls Tryz.prog 245 #[.pointer (some ⟨p, 0, none⟩)] w (HexPost aQ p s w) := by
  by_cases hs : s.size < 4
  · refine (utf_hex_short s p w h.uw hp hs).mono ?_
    rintro e w' ⟨rfl, hb⟩
    refine ⟨below_grown hb _, ?_⟩
    have e0 : hexL s.data.toList = none := by
      unfold hexL
      rw [if_pos (by simpa using hs)]
    rw [e0]
  · refine (utf_hex s p w h.uw hp (by omega)).mono ?_
    rintro e w' (⟨n, hx, _, rfl, rfl⟩ | ⟨hx, rfl, hb⟩)
    · refine ⟨grown_set _ _ _ _, ?_⟩
      rw [hexOf_eq] at hx
      rw [hx]
      exact ⟨rfl, hp.put _⟩
    · refine ⟨below_grown hb _, ?_⟩
      rw [hexOf_eq] at hx
      rw [hx]
end Go.Proofs.YtfckekaegjjmkaaGreatDoor
namespace Go.Proofs.YtfckekaegjjmkaaGreatDoor
open Go.RowKit Go.Shelf

def EscPost (aQ : Addr) (p : Nat) (s : ByteArray) (w : World) (e : Ending) (w' : World) : Prop :=
  w.grownBy w' (some p) ∧ match escL s.data.toList with
    | some (x, r) => e = .returned (.tuple #[.int .i32 (x : Int), .nilIface]) ∧ Rd w' p ⟨r.toArray⟩
    | none => e = .returned (.tuple #[.int .i32 0, errV aQ])

theorem str_nonempty {s : ByteArray} (h0 : s.size ≠ 0) : s.toList.isEmpty = false := by
  rw [ByteArray.toList_eq]
  cases hl : s.data.toList with
  | nil => exact absurd (show s.data.toList.length = 0 by rw [hl]; rfl) (by simpa using h0)
  | cons a l => rfl
theorem str_cons {s : ByteArray} (h0 : 0 < s.size) : s.data.toList = s[0] :: s.data.toList.drop 1 := by
  have hl : 0 < s.data.toList.length := by simpa using h0
  have := List.drop_eq_getElem_cons hl
  rw [List.drop_zero] at this
  exact this

theorem cut_u (l : List UInt8) : Lib.hasPrefix l [92, 117] = decide (l.take 2 = [92, 117]) ∧ Lib.trimPrefix l [92, 117] = if l.take 2 = [92, 117] then l.drop 2 else l := by
  have h : Lib.hasPrefix l [92, 117] = decide (l.take 2 = [92, 117]) := by
    unfold Lib.hasPrefix
    rw [Bool.eq_iff_iff, decide_eq_true_iff, List.isPrefixOf_iff_prefix, List.prefix_iff_eq_take]
    exact eq_comm
  refine ⟨h, ?_⟩
  unfold Lib.trimPrefix
  rw [h]
  simp

theorem cut_u_call (s : ByteArray) (w : World) : Calls Tryz.prog 212 #[.string s, .string ⟨#[92, 117]⟩] w fun e w' => e = .returned (.tuple #[.string ⟨(if s.data.toList.take 2 = [92, 117] then s.data.toList.drop 2 else s.data.toList).toArray⟩, .bool (decide (s.data.toList.take 2 = [92, 117]))]) ∧ w' = w := by
  have h := Tryz.strings_CutPrefix s ⟨#[92, 117]⟩ w
  rw [show (⟨#[92, 117]⟩ : ByteArray).data.toList = [92, 117] from rfl, (cut_u _).1, (cut_u _).2] at h
  exact h

set_option maxHeartbeats 4000000 in
set_option maxRecDepth 100000 in
theorem utf_escaped {n : Nat} {aT aQ : Addr} (s : ByteArray) (p : Nat) (w : World) (h : UWB n w aT aQ) (hn : n ≤ p) (hp : Rd w p s) :
    Calls Tryz.prog 236 #[.pointer (some ⟨p, 0, none⟩)] w (EscPost aQ p s w) := by
  have hc : w.cell? ⟨p, 0, none⟩ = some (.string s) := hp.cell 0
  have hfz := hp.frozen 0
  have hQ := h.uw.hQ
  by_cases h0 : s.size = 0
  · have e0 := str_empty h0
    subst e0
    have hfin : ∀ e w', e = .returned (.tuple #[.int .i32 0, errV aQ]) → w.grownBy w' (some p) → EscPost aQ p ⟨#[]⟩ w e w' := fun e w' he hg => ⟨hg, he⟩
    have hfin := Lib.hid hfin
    clear h0 h
    go_enter Tryz.func236, Tryz.ntmps236
    go_wp2_with fail
    go_quiet (fail)
    go_wp2_with fail
    go_ret2
    exact hfin.out _ _ rfl (below_grown (below_drewN (Below.refl _ _) _) _)
  · have hne := str_nonempty h0
    have hpos : 0 < s.size := by omega
    have hl := str_cons hpos
    have hz1 : (1 : Int) ≤ s.size := by omega
    have hex1 := extract_list s 1
    obtain ⟨r, hr⟩ : ∃ r, s.extract 1 s.size = r := ⟨_, rfl⟩
    rw [hr] at hex1
    rw [← hex1] at hl
    obtain ⟨c, hcc⟩ : ∃ c, s[0] = c := ⟨_, rfl⟩
    rw [hcc] at hl
    have HR := Lib.hid hr
    have HL := Lib.hid hl
    have hg0 := grown_set w p 0 (.string r)
    have hp1 := hp.put r
    clear hex1 hr hl h0
    go_enter Tryz.func236, Tryz.ntmps236
    go_wp2_with fail
    rw [HR.out]
    clear hcc hpos hz1 hne hc hfz hQ
    have h1 : UWB n (w.setCell ⟨p, 0, none⟩ (.string r)) aT aQ := h.to (grown_below hg0 hn hp.lt)
    clear h hp
    generalize w.setCell ⟨p, 0, none⟩ (.string r) = w1 at hg0 hp1 h1 ⊢
    refine (utf_signs _).mono ?_
    rintro e w2 ⟨rfl, rfl⟩
    have hm : (w1.alloc (.map signsE 8)).heap[w1.heap.size]? = some (.map signsE 8) := heap_alloc_new w1 _
    have hg2 := grown_trans hg0 (World.grownBy_alloc w1 (.map signsE 8) (some p))
    have hp2 := hp1.alloc (.map signsE 8)
    have h2 : UWB n (w1.alloc (.map signsE 8)) aT aQ := h1.to ((Below.refl n w1).alloc h1.le _)
    clear hg0 hp1 h1
    generalize w1.alloc (.map signsE 8) = w2 at hm hg2 hp2 h2 ⊢
    generalize w1.heap.size = bm at hm ⊢
    have hQ := h2.uw.hQ
    cases hs : signX c.toNat with
    | some x =>
      have hlk := signs_look w2 bm hm c.toNat x hs
      have hfin : ∀ e w', e = .returned (.tuple #[.int .i32 x, .nilIface]) → w.grownBy w' (some p) → Rd w' p r → EscPost aQ p s w e w' := fun e w' he hg hr => ⟨hg, by
        rw [HL.out, escL_some _ hs]
        exact ⟨he, hr⟩⟩
      have hfin := Lib.hid hfin
      clear hs
      generalize c.toNat = k at hlk ⊢
      go_wp2_with fail
      go_ret2
      exact hfin.out _ _ rfl hg2 hp2
    | none =>
      have hlk := signs_lookno w2 bm hm c.toNat hs
      by_cases hu : c.toNat = 117
      · have he : escL s.data.toList = numL r.data.toList := by rw [HL.out, escL_none _ hs, if_pos hu]
        clear HL
        have HE := Lib.hid he
        clear he hs
        have hu2 : ((c.toNat : Int) != 117) = false := by rw [hu]; rfl
        clear hu
        generalize c.toNat = k at hlk hu2 ⊢
        go_wp2_with fail
        have HX := Lib.hid (utf_hexA r p w2 h2 hp2)
        clear hQ hlk
        refine HX.out.mono ?_
        clear HX
        rintro e w3 ⟨hg3, hm3⟩
        have hg03 := grown_trans hg2 hg3
        have h3 : UWB n w3 aT aQ := h2.to (grown_below hg3 hn hp2.lt)
        clear hg3 hg2 hp2 h2 hm
        cases hh : hexL r.data.toList with
        | none =>
          rw [hh] at hm3
          subst hm3
          have hfin : ∀ e w', e = .returned (.tuple #[.int .i32 0, errV aQ]) → w.grownBy w' (some p) → EscPost aQ p s w e w' := fun e w' he hg => ⟨hg, by
            rw [HE.out]
            unfold numL
            rw [hh]
            exact he⟩
          have hfin := Lib.hid hfin
          clear hh
          go_wp2_with fail
          go_ret2
          exact hfin.out _ _ rfl hg03
        | some hi =>
          rw [hh] at hm3
          obtain ⟨rfl, hp3⟩ := hm3
          have hx3 := extract_list r 4
          generalize r.extract 4 r.size = r3 at hp3 hx3
          have hlt := hexL_lt hh
          have hnum : numL r.data.toList = if hi < 55296 ∨ 57343 < hi then some (hi, r3.data.toList) else lowL hi r3.data.toList := by
            unfold numL
            rw [hh, hx3]
          rw [← HE.out] at hnum
          clear HE hh hx3
          have hout : (hi < 55296 ∨ 57343 < hi) → ∀ e w', e = .returned (.tuple #[.int .i32 hi, .nilIface]) → w.grownBy w' (some p) → Rd w' p r3 → EscPost aQ p s w e w' := fun hc e w' he hg hr => ⟨hg, by
            rw [hnum, if_pos hc]
            exact ⟨he, hr⟩⟩
          by_cases c1 : hi < 55296
          · have hfin := Lib.hid (hout (.inl c1))
            have c1z : (hi : Int) < 55296 := by omega
            clear hout hnum
            go_wp2_with fail
            go_ret2
            exact hfin.out _ _ rfl hg03 hp3
          · by_cases c2 : 57343 < hi
            · have hfin := Lib.hid (hout (.inr c2))
              have c1z : (55296 : Int) ≤ hi := by omega
              have c2z : (57343 : Int) < hi := by omega
              clear hout hnum
              go_wp2_with fail
              go_ret2
              exact hfin.out _ _ rfl hg03 hp3
            · rw [if_neg (by omega)] at hnum
              have HN := Lib.hid hnum
              have c1z : (55296 : Int) ≤ hi := by omega
              have c2z : (hi : Int) ≤ 57343 := by omega
              have hc3 : w3.cell? ⟨p, 0, none⟩ = some (.string r3) := hp3.cell 0
              have hf3 := hp3.frozen 0
              clear hout hnum c1 c2
              go_wp2_with fail
              refine (cut_u_call r3 w3).mono ?_
              rintro e w3' ⟨rfl, hw3⟩
              obtain rfl : w3 = w3' := hw3.symm
              by_cases hu : r3.data.toList.take 2 = [92, 117]
              · rw [if_pos hu, decide_eq_true hu]
                obtain ⟨r4, hr4⟩ : ∃ r4 : ByteArray, r4 = ⟨(r3.data.toList.drop 2).toArray⟩ := ⟨_, rfl⟩
                have hl4 : r4.data.toList = r3.data.toList.drop 2 := by rw [hr4]
                rw [← hr4]
                have hlow : lowL hi r3.data.toList = (match hexL r4.data.toList with
                    | none => none
                    | some lo => if pairOk hi lo then some ((pairOf hi lo).toNat, r4.data.toList.drop 4) else none) := by
                  unfold lowL
                  rw [if_pos hu, hl4, List.drop_drop]
                  all_goals (cases hexL (r3.data.toList.drop 2) <;> rfl)
                rw [hlow] at HN
                have hg4 := grown_trans hg03 (grown_set w3 p 0 (.string r4))
                have h4 : UWB n (w3.setCell ⟨p, 0, none⟩ (.string r4)) aT aQ := h3.to (grown_below (grown_set w3 p 0 (.string r4)) hn hp3.lt)
                have hp4 := hp3.put r4
                clear hr4 hl4 hlow hu
                go_wp2_with fail
                clear hc3 hf3 h3 hp3 hg03
                generalize w3.setCell ⟨p, 0, none⟩ (.string r4) = w4 at hg4 h4 hp4 ⊢
                refine (utf_hexA r4 p w4 h4 hp4).mono ?_
                rintro e w5 ⟨hg5, hm5⟩
                have hg05 := grown_trans hg4 hg5
                have h5 : UWB n w5 aT aQ := h4.to (grown_below hg5 hn hp4.lt)
                have hQ := h5.uw.hQ
                clear hg5 hg4 h4 hp4
                cases hh : hexL r4.data.toList with
                | none =>
                  rw [hh] at hm5
                  subst hm5
                  have hfin : ∀ e w', e = .returned (.tuple #[.int .i32 0, errV aQ]) → w.grownBy w' (some p) → EscPost aQ p s w e w' := fun e w' he hg => ⟨hg, by
                    rw [HN.out, hh]
                    exact he⟩
                  have hfin := Lib.hid hfin
                  clear hh
                  go_wp2_with fail
                  go_ret2
                  exact hfin.out _ _ rfl hg05
                | some lo =>
                  rw [hh] at hm5
                  obtain ⟨rfl, hp5⟩ := hm5
                  have hx5 := extract_list r4 4
                  generalize r4.extract 4 r4.size = r5 at hp5 hx5
                  have hlo := hexL_lt hh
                  have hnum : escL s.data.toList = if pairOk hi lo then some ((pairOf hi lo).toNat, r5.data.toList) else none := by rw [HN.out, hh, hx5]
                  have HP := Lib.hid (fun w => utf_Pair hi lo (by omega) (by omega) w)
                  have z1 : (0 : Int) ≤ hi ∧ (hi : Int) < 65536 := by omega
                  have z2 : (0 : Int) ≤ lo ∧ (lo : Int) < 65536 := by omega
                  obtain ⟨z1a, z1b⟩ := z1
                  obtain ⟨z2a, z2b⟩ := z2
                  clear HN hh hx5 hlt hlo
                  go_wp2_with fail
                  refine (HP.out _).mono ?_
                  rintro e w6 ⟨rfl, rfl⟩
                  by_cases hp : pairOk hi lo = true
                  · rw [if_pos hp] at hnum
                    have hr := pair_range hp
                    have hfin : ∀ e w', e = .returned (.tuple #[.int .i32 (pairOf hi lo), .nilIface]) → w.grownBy w' (some p) → Rd w' p r5 → EscPost aQ p s w e w' := fun e w' he hg hr' => ⟨hg, by
                      rw [hnum]
                      refine ⟨?_, hr'⟩
                      rw [he, Int.toNat_of_nonneg (by omega)]⟩
                    have hfin := Lib.hid hfin
                    rw [hp]
                    generalize pairOf hi lo = v at hfin ⊢
                    clear hnum HP z1a z1b z2a z2b hr hp
                    go_wp2_with fail
                    go_ret2
                    exact hfin.out _ _ rfl hg05 hp5
                  · have hpf : pairOk hi lo = false := by simpa using hp
                    rw [if_neg hp] at hnum
                    have hfin : ∀ e w', e = .returned (.tuple #[.int .i32 0, errV aQ]) → w.grownBy w' (some p) → EscPost aQ p s w e w' := fun e w' he hg => ⟨hg, by
                      rw [hnum]
                      exact he⟩
                    have hfin := Lib.hid hfin
                    rw [hpf]
                    generalize pairOf hi lo = v
                    clear hnum HP z1a z1b z2a z2b hp hpf
                    go_wp2_with fail
                    go_quiet (fail)
                    go_wp2_with fail
                    go_ret2
                    exact hfin.out _ _ rfl (grown_trans hg05 (below_grown (below_drewN (Below.refl _ _) _) _))
              · rw [if_neg hu, decide_eq_false hu]
                have hlow : lowL hi r3.data.toList = none := by
                  unfold lowL
                  rw [if_neg hu]
                rw [hlow] at HN
                have hfin : ∀ e w', e = .returned (.tuple #[.int .i32 0, errV aQ]) → w.grownBy w' (some p) → EscPost aQ p s w e w' := fun e w' he hg => ⟨hg, by
                  rw [HN.out]
                  exact he⟩
                have hfin := Lib.hid hfin
                have hQ := h3.uw.hQ
                clear hlow hu
                go_wp2_with fail
                go_quiet (fail)
                go_wp2_with fail
                go_ret2
                exact hfin.out _ _ rfl (grown_trans hg03 (below_grown (below_drewN (Below.refl _ _) _) _))
      · have hfin : ∀ e w', e = .returned (.tuple #[.int .i32 0, errV aQ]) → w.grownBy w' (some p) → EscPost aQ p s w e w' := fun e w' he hg => ⟨hg, by
          rw [HL.out, escL_none _ hs, if_neg hu]
          exact he⟩
        have hfin := Lib.hid hfin
        have hu2 : ((c.toNat : Int) != 117) = true := by rw [bne_iff_ne]; omega
        clear hs hu
        generalize c.toNat = k at hlk hu2 ⊢
        go_wp2_with fail
        go_quiet (fail)
        go_wp2_with fail
        go_ret2
        exact hfin.out _ _ rfl (grown_trans hg2 (below_grown (below_drewN (Below.refl _ _) _) _))
end Go.Proofs.YtfckekaegjjmkaaGreatDoor
