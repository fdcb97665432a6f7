/- The texts JsB, JsC, put together. -/
import Derived.Test.YtfckekaegjjmkaaGreatDoorPi08
namespace Go.Proofs.YtfckekaegjjmkaaGreatDoor
open Go.RowKit Go.Shelf

section
variable (U : List UInt8 → Option (List UInt8 × List UInt8)) (Q : List UInt8 → List UInt8)

def isSp (c : UInt8) : Bool := c == 32 || c == 9 || c == 10 || c == 13
def spJ (l : List UInt8) : List UInt8 := l.dropWhile isSp
def wordJ (w : List UInt8) (t : Tr) : Psr Tr := fun l => if l.take w.length = w then .good t (l.drop w.length) else .bad 80
def textJ : Psr Tr := fun l => match U l with
  | some (s, r) => .good (strT 5 s) r
  | none => .bad 80
def colonJ (t : Tr) : Psr Tr := fun l => match spJ l with
  | [] => .bad 80
  | c :: r => if c = 58 then .good t (spJ r) else .bad 80
def memberJ : Psr Tr := bindP (textJ U) colonJ
def decT (neg : Bool) (dg : ByteArray) (ex : Int) : Tr := .nd { zeroO with kind := 3, neg := neg, dg := dg, ex := ex } []
def numJ : Psr Tr := fun l => match parseD l with
  | some (d, r) => .good (decT d.1 d.2.1 d.2.2) r
  | none => .bad 80
/-- What may stand behind a value of a list. -/
def nextJ (en : UInt8) (a : List Tr) (go : Psr (List Tr)) : Psr (List Tr) := fun l => match spJ l with
  | [] => .bad 80
  | c :: r => if c = en then .good a r else if c = 44 then go (spJ r) else .bad 80
def nodesJ (v : Psr Tr) (mem : Bool) (en : UInt8) : Nat → List Tr → Psr (List Tr)
  | 0, _ => fun _ => .bad 80
  | f + 1, acc => if mem = true then bindP (memberJ U) fun k => bindP v fun t => nextJ en (acc ++ [k, t]) (nodesJ v mem en f (acc ++ [k, t]))
    else bindP v fun t => nextJ en (acc ++ [t]) (nodesJ v mem en f (acc ++ [t]))
def listJ (v : Psr Tr) (mem : Bool) (en : UInt8) (F : Nat) : Psr (List Tr) := fun l => match spJ l with
  | [] => nodesJ U v mem en F [] []
  | c :: r => if c = en then .good [] r else nodesJ U v mem en F [] (c :: r)
def bodyJ (sub : Option (Psr Tr)) (F : Nat) : Psr Tr := fun l => match l with
  | [] => .bad 80
  | c :: r =>
    if c = 91 then (match sub with
      | none => .bad 60
      | some v => bindP (listJ U v false 93 F) (fun L => pureP (listT 7 L)) r)
    else if c = 123 then (match sub with
      | none => .bad 60
      | some v => bindP (listJ U v true 125 F) (fun L => pureP (listT 8 L)) r)
    else if c = 34 then textJ U (c :: r)
    else if c = 110 then wordJ [110, 117, 108, 108] nilT (c :: r)
    else if c = 116 then wordJ [116, 114, 117, 101] (boolT true) (c :: r)
    else if c = 102 then wordJ [102, 97, 108, 115, 101] (boolT false) (c :: r)
    else numJ (c :: r)
/-- A value, lists of it so deep at most. -/
def valueJ (F : Nat) : Nat → Psr Tr
  | 0 => bodyJ U none F
  | d + 1 => bodyJ U (some (valueJ F d)) F

def lineL (p : Bool) (k : Nat) : List UInt8 := if p = true then 10 :: List.replicate (2 * k) 32 else []
def gapL (p : Bool) : List UInt8 := if p = true then [32] else []
mutual
def jsT (p : Bool) : Nat → Tr → List UInt8
  | k, .nd o l =>
    if o.kind = 1 then [110, 117, 108, 108]
    else if o.kind = 2 then (if o.b = true then [116, 114, 117, 101] else [102, 97, 108, 115, 101])
    else if o.kind = 3 then fmtD o.neg o.dg.data.toList o.ex
    else if o.kind = 5 then Q o.s.data.toList
    else if o.kind = 7 then 91 :: ((if l.length = 0 then [] else jsA p (k + 1) true l ++ lineL p k) ++ [93])
    else if o.kind = 8 then 123 :: ((if l.length = 0 then [] else jsM p (k + 1) true l ++ lineL p k) ++ [125])
    else []
def jsA (p : Bool) : Nat → Bool → List Tr → List UInt8
  | _, _, [] => []
  | k, first, t :: l => (if first = true then [] else [44]) ++ (lineL p k ++ (jsT p k t ++ jsA p k false l))
def jsM (p : Bool) : Nat → Bool → List Tr → List UInt8
  | _, _, [] => []
  | _, _, [_] => []
  | k, first, a :: b :: l => (if first = true then [] else [44]) ++ (lineL p k ++ (jsT p k a ++ (58 :: (gapL p ++ (jsT p k b ++ jsM p k false l)))))
end
/-- The shape of a node that fits. -/
inductive ShapeJ (o : Own) (l : List Tr) : Prop
  | null (h : o = { zeroO with kind := 1 }) (hl : l = [])
  | bool (h : o = { zeroO with kind := 2, b := o.b }) (hl : l = [])
  | num (h : o = { zeroO with kind := 3, neg := o.neg, dg := o.dg, ex := o.ex }) (hd : decOk o.neg o.dg o.ex = true) (hl : l = [])
  | text (h : o = { zeroO with kind := 5, s := o.s }) (hv : Lib.validD o.s.data.toList = true) (hl : l = [])
  | array (h : o = { zeroO with kind := 7 })
  | map (h : o = { zeroO with kind := 8 }) (he : l.length % 2 = 0) (hk : keysFit 1 l = true)
mutual
def okJ : Tr → Prop
  | .nd o l => ShapeJ o l ∧ okJL l
def okJL : List Tr → Prop
  | [] => True
  | t :: l => okJ t ∧ okJL l
end
theorem okJL_mem : ∀ {l : List Tr}, okJL l → ∀ t ∈ l, okJ t
  | [], _, t, h => by cases h
  | s :: l, h, t, ht => by
    rw [okJL] at h
    rcases List.mem_cons.1 ht with rfl | ht
    · exact h.1
    · exact okJL_mem h.2 t ht
theorem countL_len : ∀ l : List Tr, l.length ≤ countL l
  | [] => Nat.zero_le _
  | t :: l => by
    have := countL_len l
    have h := Tr.count_eq t
    rw [countL, List.length_cons]
    omega
theorem len_nil {l : List Tr} (h : l.length = 0) : l = [] := List.length_eq_zero_iff.1 h

theorem sp_line (p : Bool) (k : Nat) (l : List UInt8) : spJ (lineL p k ++ l) = spJ l := by
  have h : ∀ n : Nat, spJ (List.replicate n 32 ++ l) = spJ l := fun n => by
    induction n with
    | zero => rfl
    | succ n ih => exact ih
  unfold lineL
  cases p
  · rfl
  · exact h _
theorem sp_gap (p : Bool) (l : List UInt8) : spJ (gapL p ++ l) = spJ l := by
  cases p <;> rfl
theorem sp_cons {c : UInt8} (h : isSp c = false) (r : List UInt8) : spJ (c :: r) = c :: r := by
  unfold spJ
  rw [List.dropWhile_cons, h]
  rfl
theorem stops_cons {c : UInt8} (h : isDig c = false ∧ c ≠ 46 ∧ c ≠ 101 ∧ c ≠ 69) (r : List UInt8) : Stops (c :: r) := fun a b e => by
  injection e with e _
  rw [← e]
  exact h
/-- What a document begins with. -/
def BegJ (l : List UInt8) : Prop := ∃ c r, l = c :: r ∧ isSp c = false ∧ c ≠ 93 ∧ c ≠ 125
theorem dig_beg {c : UInt8} (h : isDig c = true) : isSp c = false ∧ c ≠ 93 ∧ c ≠ 125 ∧ c ≠ 91 ∧ c ≠ 123 ∧ c ≠ 34 ∧ c ≠ 110 ∧ c ≠ 116 ∧ c ≠ 102 := by
  refine ⟨?_, ?_, ?_, ?_, ?_, ?_, ?_, ?_, ?_⟩
  · cases hs : isSp c with
    | false => rfl
    | true =>
      unfold isSp at hs
      simp only [Bool.or_eq_true, beq_iff_eq] at hs
      rcases hs with ((rfl | rfl) | rfl) | rfl <;> (revert h; decide)
  all_goals (rintro rfl; revert h; decide)
theorem fmt_beg {neg : Bool} {dg : ByteArray} {ex : Int} (h : decOk neg dg ex = true) : ∃ c r, fmtD neg dg.data.toList ex = c :: r ∧ (c = 45 ∨ isDig c = true) := by
  have hd : ∃ c r, dg.data.toList = c :: r ∧ isDig c = true := by
    rcases dec_parts h with ⟨e, _, _⟩ | ⟨h1, h2, _, _⟩
    · exact ⟨48, [], e, rfl⟩
    · cases hq : dg.data.toList with
      | nil => exact absurd hq h1
      | cons c r => exact ⟨c, r, rfl, h2 c (by rw [hq]; simp)⟩
  obtain ⟨c, r, e, hc⟩ := hd
  unfold fmtD
  cases neg
  · simp only [Bool.false_eq_true, if_false, List.nil_append]
    rw [e]
    split
    · exact ⟨c, _, rfl, .inr hc⟩
    · split
      · exact ⟨c, _, rfl, .inr hc⟩
      · split
        · rename_i hp
          obtain ⟨k, hk⟩ : ∃ k : Nat, (((c :: r).length : Int) + ex).toNat = k + 1 := ⟨(((c :: r).length : Int) + ex).toNat - 1, by omega⟩
          rw [hk, List.take_succ_cons]
          exact ⟨c, _, rfl, .inr hc⟩
        · exact ⟨48, _, rfl, .inr rfl⟩
  · exact ⟨45, _, rfl, .inl rfl⟩
variable {U Q}
theorem jsT_beg (hq0 : ∀ l, ∃ r, Q l = 34 :: r) (p : Bool) (k : Nat) : ∀ t, okJ t → BegJ (jsT Q p k t)
  | .nd o l, h => by
    rw [okJ] at h
    rcases h.1 with ⟨h, _⟩ | ⟨h, _⟩ | ⟨h, hd, _⟩ | ⟨h, hv, _⟩ | ⟨h⟩ | ⟨h, _, _⟩
    all_goals (have hk := congrArg Own.kind h; simp only [] at hk; rw [jsT, hk])
    · exact ⟨110, _, rfl, rfl, by decide, by decide⟩
    · cases hb : o.b
      · exact ⟨102, _, rfl, rfl, by decide, by decide⟩
      · exact ⟨116, _, rfl, rfl, by decide, by decide⟩
    · obtain ⟨c, r, e, hc⟩ := fmt_beg hd
      refine ⟨c, r, e, ?_⟩
      rcases hc with rfl | hc
      · exact ⟨rfl, by decide, by decide⟩
      · exact ⟨(dig_beg hc).1, (dig_beg hc).2.1, (dig_beg hc).2.2.1⟩
    · obtain ⟨r, e⟩ := hq0 o.s.data.toList
      exact ⟨34, r, e, rfl, by decide, by decide⟩
    · exact ⟨91, _, rfl, rfl, by decide, by decide⟩
    · exact ⟨123, _, rfl, rfl, by decide, by decide⟩
theorem begJ_sp {l : List UInt8} (h : BegJ l) (m : List UInt8) : spJ (l ++ m) = l ++ m := by
  obtain ⟨c, r, rfl, hc, _⟩ := h
  exact sp_cons hc _
/-- The rows of an array behind the first. -/
theorem rows_back (hq0 : ∀ l, ∃ r, Q l = 34 :: r) (p : Bool) (k : Nat) (v : Psr Tr) (m : List UInt8) : ∀ (l : List Tr) (t : Tr) (f : Nat) (acc : List Tr), l.length < f → okJL (t :: l) →
    (∀ x ∈ t :: l, ∀ m, Stops m → v (jsT Q p (k + 1) x ++ m) = .good x m) →
    nodesJ U v false 93 f acc (jsT Q p (k + 1) t ++ (jsA Q p (k + 1) false l ++ (lineL p k ++ 93 :: m))) = .good (acc ++ t :: l) m
  | [], t, 0, _, h, _, _ => by simp at h
  | _ :: _, t, 0, _, h, _, _ => by simp at h
  | [], t, f + 1, acc, _, hok, hv => by
    have hst : Stops (lineL p k ++ 93 :: m) := by
      unfold lineL
      cases p
      · exact stops_cons (by decide) m
      · exact stops_cons (by decide) _
    have h1 := hv t (by simp) _ hst
    rw [jsA, List.nil_append, nodesJ, if_neg (by simp), bindP_of h1]
    unfold nextJ
    rw [sp_line, sp_cons (by decide)]
    simp
  | t' :: l, t, f + 1, acc, hf, hok, hv => by
    have hst : Stops (jsA Q p (k + 1) false (t' :: l) ++ (lineL p k ++ 93 :: m)) := by
      rw [jsA]
      exact stops_cons (by decide) _
    have h1 := hv t (by simp) _ hst
    rw [okJL] at hok
    have hok2 := hok.2
    rw [okJL] at hok2
    have hb := jsT_beg hq0 p (k + 1) t' hok2.1
    rw [nodesJ, if_neg (by simp), bindP_of h1, jsA]
    have ih := rows_back hq0 p k v m l t' f (acc ++ [t]) (by simpa using hf) hok.2 (fun x hx => hv x (List.mem_cons_of_mem _ hx))
    unfold nextJ
    simp only [Bool.false_eq_true, if_false, List.cons_append, List.nil_append]
    rw [sp_cons (by decide)]
    simp only []
    rw [if_neg (by decide), if_pos trivial, List.append_assoc, sp_line, List.append_assoc, begJ_sp hb, ih]
    simp
/-- The members of a map behind the first. -/
theorem members_back (hq0 : ∀ l, ∃ r, Q l = 34 :: r) (hU : ∀ l m, Lib.validD l = true → U (Q l ++ m) = some (l, m)) (p : Bool) (k : Nat) (v : Psr Tr) (m : List UInt8) : ∀ (n : Nat) (l : List Tr) (a t : Tr) (f : Nat) (acc : List Tr), l.length = 2 * n → n < f → okJL (a :: t :: l) → keysFit 1 (a :: t :: l) = true →
    (∀ x ∈ a :: t :: l, ∀ m, Stops m → v (jsT Q p (k + 1) x ++ m) = .good x m) →
    nodesJ U v true 125 f acc (jsT Q p (k + 1) a ++ (58 :: (gapL p ++ (jsT Q p (k + 1) t ++ (jsM Q p (k + 1) false l ++ (lineL p k ++ 125 :: m)))))) = .good (acc ++ a :: t :: l) m
  | _, _, _, _, 0, _, _, h, _, _, _ => by omega
  | n, l, a, t, f + 1, acc, hl, hf, hok, hk, hv => by
    rw [okJL, okJL] at hok
    obtain ⟨ha, ht, hol⟩ := hok
    rw [keysFit, Bool.and_eq_true] at hk
    -- the key is a text
    have hkey : ∃ s, a = strT 5 s ∧ Lib.validD s = true ∧ jsT Q p (k + 1) a = Q s := by
      obtain ⟨o, la⟩ := a
      have h5 : o.kind = 5 := by
        have h := hk.1
        unfold keyO at h
        by_cases e : o.kind = 5
        · exact e
        · rw [if_neg (by exact e), if_pos rfl] at h
          cases h
      rw [okJ] at ha
      rcases ha.1 with ⟨h, _⟩ | ⟨h, _⟩ | ⟨h, hd, _⟩ | ⟨h, hval, hl⟩ | ⟨h⟩ | ⟨h, _, _⟩
      all_goals (have hkk := congrArg Own.kind h; simp only [] at hkk)
      · omega
      · omega
      · omega
      · refine ⟨o.s.data.toList, ?_, hval, ?_⟩
        · rw [hl]
          unfold strT
          rw [str_back, ← h]
        · rw [jsT, hkk]
          rfl
      · omega
      · omega
    obtain ⟨s, rfl, hval, hjs⟩ := hkey
    have hb := jsT_beg hq0 p (k + 1) t ht
    rw [hjs, nodesJ, if_pos rfl]
    have hm : memberJ U (Q s ++ (58 :: (gapL p ++ (jsT Q p (k + 1) t ++ (jsM Q p (k + 1) false l ++ (lineL p k ++ 125 :: m)))))) = .good (strT 5 s) (jsT Q p (k + 1) t ++ (jsM Q p (k + 1) false l ++ (lineL p k ++ 125 :: m))) := by
      unfold memberJ
      have h1 : textJ U (Q s ++ (58 :: (gapL p ++ (jsT Q p (k + 1) t ++ (jsM Q p (k + 1) false l ++ (lineL p k ++ 125 :: m)))))) = .good (strT 5 s) (58 :: (gapL p ++ (jsT Q p (k + 1) t ++ (jsM Q p (k + 1) false l ++ (lineL p k ++ 125 :: m))))) := by
        unfold textJ
        rw [hU _ _ hval]
      rw [bindP_of h1]
      unfold colonJ
      rw [sp_cons (by decide)]
      simp only [if_true]
      rw [sp_gap, begJ_sp hb]
    rw [bindP_of hm]
    cases n with
    | zero =>
      have hl0 : l = [] := len_nil (by omega)
      subst hl0
      have hst : Stops (lineL p k ++ 125 :: m) := by
        unfold lineL
        cases p
        · exact stops_cons (by decide) m
        · exact stops_cons (by decide) _
      have h1 := hv t (by simp) _ hst
      rw [jsM, List.nil_append, bindP_of h1]
      unfold nextJ
      rw [sp_line, sp_cons (by decide)]
      simp
    | succ n =>
      match l, hl with
      | a' :: t' :: l', hl' =>
        have hst : Stops (jsM Q p (k + 1) false (a' :: t' :: l') ++ (lineL p k ++ 125 :: m)) := by
          rw [jsM]
          exact stops_cons (by decide) _
        have h1 := hv t (by simp) _ hst
        rw [okJL] at hol
        have hb' := jsT_beg hq0 p (k + 1) a' hol.1
        have ih := members_back hq0 hU p k v m n l' a' t' f (acc ++ [strT 5 s, t]) (by simp at hl'; omega) (by omega) (by rw [okJL]; exact hol) hk.2 (fun x hx => hv x (List.mem_cons_of_mem _ (List.mem_cons_of_mem _ hx)))
        rw [bindP_of h1, jsM]
        unfold nextJ
        simp only [Bool.false_eq_true, if_false, List.cons_append, List.nil_append]
        rw [sp_cons (by decide)]
        simp only []
        rw [if_neg (by decide), if_pos trivial, List.append_assoc, sp_line]
        simp only [List.append_assoc, List.cons_append]
        rw [begJ_sp hb', ih]
        simp
      | [x], hl' => simp at hl'; omega
      | [], hl' => simp at hl'
mutual
theorem js_back (hq0 : ∀ l, ∃ r, Q l = 34 :: r) (hU : ∀ l m, Lib.validD l = true → U (Q l ++ m) = some (l, m)) (p : Bool) (F : Nat) : ∀ (t : Tr) (d k : Nat) (m : List UInt8), okJ t → t.depth ≤ d → t.count ≤ F → Stops m → valueJ U F d (jsT Q p k t ++ m) = .good t m
  | .nd o l, 0, _, _, _, hd, _, _ => by
    rw [Tr.depth] at hd
    omega
  | .nd o l, d + 1, k, m, hok, hd, hc, hm => by
    have hcn := Tr.count_eq (.nd o l)
    have hcn : (Tr.nd o l).count = 1 + countL l := hcn
    have hln := countL_len l
    rw [okJ] at hok
    rw [Tr.depth] at hd
    have hL := js_backL hq0 hU p F l d (k + 1) hok.2 (by omega) (by omega)
    show bodyJ U (some (valueJ U F d)) F _ = _
    rcases hok.1 with ⟨h, hl⟩ | ⟨h, hl⟩ | ⟨h, hdk, hl⟩ | ⟨h, hv, hl⟩ | ⟨h⟩ | ⟨h, he, hk⟩
    all_goals (have hkk := congrArg Own.kind h; simp only [] at hkk; rw [jsT, hkk])
    · subst hl
      show PR.good nilT m = _
      rw [h]
      rfl
    · subst hl
      cases hb : o.b
      · show PR.good (boolT false) m = _
        rw [h, hb]
        rfl
      · show PR.good (boolT true) m = _
        rw [h, hb]
        rfl
    · subst hl
      have hp := parse_fmt hdk m hm
      obtain ⟨c, r, e, hcc⟩ := fmt_beg hdk
      show bodyJ U _ F (fmtD o.neg o.dg.data.toList o.ex ++ m) = _
      have hnum : numJ (fmtD o.neg o.dg.data.toList o.ex ++ m) = .good (.nd o []) m := by
        unfold numJ
        rw [hp]
        show PR.good (decT o.neg o.dg o.ex) m = _
        unfold decT
        rw [← h]
      rw [e] at hnum ⊢
      rw [List.cons_append] at hnum ⊢
      have hne : c ≠ 91 ∧ c ≠ 123 ∧ c ≠ 34 ∧ c ≠ 110 ∧ c ≠ 116 ∧ c ≠ 102 := by
        rcases hcc with rfl | hcc
        · decide
        · exact (dig_beg hcc).2.2.2
      obtain ⟨n1, n2, n3, n4, n5, n6⟩ := hne
      unfold bodyJ
      simp only []
      rw [if_neg n1, if_neg n2, if_neg n3, if_neg n4, if_neg n5, if_neg n6, hnum]
    · subst hl
      obtain ⟨r, e⟩ := hq0 o.s.data.toList
      have hu := hU _ m hv
      show bodyJ U _ F (Q o.s.data.toList ++ m) = _
      rw [e] at hu ⊢
      show textJ U (34 :: (r ++ m)) = _
      unfold textJ
      rw [List.cons_append] at hu
      rw [hu]
      show PR.good (strT 5 o.s.data.toList) m = _
      unfold strT
      rw [str_back, ← h]
    · have hfin : PR.good (listT 7 l) m = PR.good (.nd o l) m := by
        unfold listT
        rw [← h]
      have hlist : listJ U (valueJ U F d) false 93 F ((if l.length = 0 then [] else jsA Q p (k + 1) true l ++ lineL p k) ++ [93] ++ m) = .good l m := by
        cases l with
        | nil => rfl
        | cons t l =>
          have hr := rows_back (U := U) hq0 p k (valueJ U F d) m l t F [] (by rw [countL] at hcn; rw [List.length_cons] at hln; rw [countL] at hln; omega) hok.2 (fun x hx m hm => hL x hx m hm)
          have hb := jsT_beg hq0 p (k + 1) t (okJL_mem hok.2 t (by simp))
          rw [if_neg (by simp), jsA]
          unfold listJ
          simp only [if_true, List.nil_append, List.append_assoc, List.cons_append]
          rw [sp_line, begJ_sp hb]
          obtain ⟨c, r, e, _, h93, _⟩ := hb
          rw [List.nil_append] at hr
          rw [e] at hr ⊢
          simp only [List.cons_append] at hr ⊢
          rw [if_neg h93, hr]
      show bindP (listJ U (valueJ U F d) false 93 F) (fun L => pureP (listT 7 L)) ((if l.length = 0 then [] else jsA Q p (k + 1) true l ++ lineL p k) ++ [93] ++ m) = _
      rw [bindP_of hlist]
      exact hfin
    · have hfin : PR.good (listT 8 l) m = PR.good (.nd o l) m := by
        unfold listT
        rw [← h]
      have hlist : listJ U (valueJ U F d) true 125 F ((if l.length = 0 then [] else jsM Q p (k + 1) true l ++ lineL p k) ++ [125] ++ m) = .good l m := by
        match l, he, hk, hok, hL, hcn, hln with
        | [], _, _, _, _, _, _ => rfl
        | [x], he, _, _, _, _, _ => simp at he
        | a :: t :: l, he, hk, hok, hL, hcn, hln =>
          have hr := members_back (U := U) hq0 hU p k (valueJ U F d) m (l.length / 2) l a t F [] (by simp at he; omega) (by simp only [List.length_cons] at hln; omega) hok.2 hk (fun x hx m hm => hL x hx m hm)
          have hb := jsT_beg hq0 p (k + 1) a (okJL_mem hok.2 a (by simp))
          rw [if_neg (by simp), jsM]
          unfold listJ
          simp only [if_true, List.nil_append, List.append_assoc, List.cons_append]
          rw [sp_line, begJ_sp hb]
          obtain ⟨c, r, e, _, _, h125⟩ := hb
          rw [List.nil_append] at hr
          rw [e] at hr ⊢
          simp only [List.cons_append] at hr ⊢
          rw [if_neg h125, hr]
      show bindP (listJ U (valueJ U F d) true 125 F) (fun L => pureP (listT 8 L)) ((if l.length = 0 then [] else jsM Q p (k + 1) true l ++ lineL p k) ++ [125] ++ m) = _
      rw [bindP_of hlist]
      exact hfin
theorem js_backL (hq0 : ∀ l, ∃ r, Q l = 34 :: r) (hU : ∀ l m, Lib.validD l = true → U (Q l ++ m) = some (l, m)) (p : Bool) (F : Nat) : ∀ (l : List Tr) (d k : Nat), okJL l → depthL l ≤ d → countL l ≤ F → ∀ t ∈ l, ∀ m, Stops m → valueJ U F d (jsT Q p k t ++ m) = .good t m
  | [], _, _, _, _, _, t, h => by cases h
  | s :: l, d, k, hok, hd, hc, t, ht => by
    rw [okJL] at hok
    rw [depthL] at hd
    rw [countL] at hc
    intro m hm
    rcases List.mem_cons.1 ht with e | ht
    · rw [e]
      exact js_back hq0 hU p F s d k m hok.1 (by omega) (by omega) hm
    · exact js_backL hq0 hU p F l d k hok.2 (by omega) (by omega) t ht m hm
end
end
end Go.Proofs.YtfckekaegjjmkaaGreatDoor
namespace Go.Proofs.YtfckekaegjjmkaaGreatDoor
open Go.RowKit Go.Shelf

theorem minus_own (l : List UInt8) : ∃ s0, l = s0 ++ (minusP l).2 ∧ ∀ c x, c ≠ 45 → minusP (s0 ++ c :: x) = ((minusP l).1, c :: x) := by
  unfold minusP
  split
  · exact ⟨[45], rfl, fun c x _ => rfl⟩
  · refine ⟨[], rfl, fun c x hc => ?_⟩
    rw [List.nil_append]
    split
    · rename_i r e
      injection e with e _
      exact absurd e hc
    · rfl
theorem take_dig (l : List UInt8) : ∀ c ∈ l.take (digN l), isDig c = true := takeWhile_all l
theorem whole_own (l : List UInt8) : l = (wholeP l).1 ++ (wholeP l).2 ∧ (∀ c ∈ (wholeP l).1, isDig c = true) ∧ ∀ x, (wholeP l).1 ≠ [] → digN x = 0 → wholeP ((wholeP l).1 ++ x) = ((wholeP l).1, x) := by
  have key : ∀ l : List UInt8, (∀ r, l ≠ 48 :: r) → wholeP l = digits l := fun l h => by
    unfold wholeP
    split
    · rename_i r
      exact absurd rfl (h r)
    · rfl
  by_cases h : ∃ r, l = 48 :: r
  · obtain ⟨r, rfl⟩ := h
    refine ⟨rfl, fun c hc => ?_, fun x _ _ => rfl⟩
    rw [List.mem_singleton.1 hc]
    rfl
  · rw [key l (fun r e => h ⟨r, e⟩)]
    refine ⟨(List.take_append_drop _ _).symm, take_dig l, fun x hx h0 => ?_⟩
    show wholeP (l.take (digN l) ++ x) = (l.take (digN l), x)
    rw [key]
    · exact digits_all _ _ (take_dig l) h0
    · intro r e
      cases hq : l.take (digN l) with
      | nil => exact hx hq
      | cons c q =>
        rw [hq] at e
        injection e with e _
        subst e
        have h2 : l = 48 :: (q ++ l.drop (digN l)) := by
          conv => lhs; rw [← List.take_append_drop (digN l) l, hq]
          rfl
        exact h ⟨_, h2⟩
theorem part_own (l : List UInt8) : ∃ q, l = q ++ (partP l).2 ∧ (∀ x, digN x = 0 → (∀ r, x ≠ 46 :: r) → partP (q ++ x) = ((partP l).1, x)) ∧ (q = [] ∨ ∃ q', q = 46 :: q') := by
  unfold partP
  split
  · rename_i r
    split
    · refine ⟨[], rfl, fun x h0 h => ?_, .inl rfl⟩
      exact part_none h
    · rename_i hn
      refine ⟨46 :: (digits r).1, ?_, fun x h0 h => ?_, .inr ⟨_, rfl⟩⟩
      · exact congrArg (46 :: ·) (List.take_append_drop _ _).symm
      · have h1 := digits_all (digits r).1 x (take_dig r) h0
        show (if (digits ((digits r).1 ++ x)).1 = [] then _ else digits ((digits r).1 ++ x)) = _
        rw [h1, if_neg hn]
  · refine ⟨[], rfl, fun x h0 h => ?_, .inl rfl⟩
    exact part_none h
theorem sign_own (l : List UInt8) : ∃ s0, l = s0 ++ (signP l).2 ∧ ∀ c x, isDig c = true → signP (s0 ++ c :: x) = ((signP l).1, c :: x) := by
  unfold signP
  split
  · exact ⟨[45], rfl, fun c x _ => rfl⟩
  · exact ⟨[43], rfl, fun c x _ => rfl⟩
  · refine ⟨[], rfl, fun c x hc => ?_⟩
    rw [List.nil_append]
    split
    · rename_i r e
      injection e with e _
      rw [e] at hc
      exact absurd hc (by decide)
    · rename_i r e
      injection e with e _
      rw [e] at hc
      exact absurd hc (by decide)
    · rfl
theorem power_own {l r : List UInt8} {e : Int} (h : powerP l = some (e, r)) : ∃ q, l = q ++ r ∧ (∀ m, Stops m → powerP (q ++ m) = some (e, m)) ∧ (q = [] ∨ ∃ c q', q = c :: q' ∧ (c = 101 ∨ c = 69)) := by
  have none : ∀ {e r}, some ((0 : Int), l) = some (e, r) → ∃ q, l = q ++ r ∧ (∀ m, Stops m → powerP (q ++ m) = some (e, m)) ∧ (q = [] ∨ ∃ c q', q = c :: q' ∧ (c = 101 ∨ c = 69)) := fun {e r} h => by
    injection h with h
    injection h with h1 h2
    subst h1 h2
    exact ⟨[], rfl, fun m hm => power_none (fun c r e => ⟨(hm c r e).2.2.1, (hm c r e).2.2.2⟩), .inl rfl⟩
  unfold powerP at h
  split at h
  · rename_i c t
    split at h
    · rename_i hc
      split at h
      · exact none h
      · rename_i hd
        split at h
        · rename_i h4
          injection h with h
          injection h with h1 h2
          obtain ⟨s0, hs, hs2⟩ := sign_own t
          have hds := List.take_append_drop (digN (signP t).2) (signP t).2
          obtain ⟨ds, hdsE⟩ : ∃ ds, (digits (signP t).2).1 = ds := ⟨_, rfl⟩
          have hdig : ∀ c ∈ ds, isDig c = true := by rw [← hdsE]; exact take_dig _
          have hsp : (signP t).2 = ds ++ r := by rw [← hdsE, ← h2]; exact hds.symm
          rw [hdsE] at h1 hd h4
          obtain ⟨d0, dr, rfl⟩ : ∃ d0 dr, ds = d0 :: dr := by
            cases ds with
            | nil => exact absurd rfl hd
            | cons a b => exact ⟨a, b, rfl⟩
          refine ⟨c :: (s0 ++ (d0 :: dr)), ?_, fun m hm => ?_, .inr ⟨c, _, rfl, hc⟩⟩
          · rw [List.cons_append, List.append_assoc, ← hsp, ← hs]
          · have h5 := hs2 d0 (dr ++ m) (hdig d0 (by simp))
            have h6 := digits_all (d0 :: dr) m hdig hm.digN
            rw [List.cons_append] at h6
            rw [List.cons_append, List.append_assoc, List.cons_append]
            unfold powerP
            simp only []
            rw [if_pos hc, h5]
            simp only []
            rw [h6, if_neg hd, if_pos h4, h1]
        · cases h
    · exact none h
  · exact none h
/-- A number is its own. -/
theorem parse_own {l r : List UInt8} {d : Bool × ByteArray × Int} (h : parseD l = some (d, r)) : ∃ own, own ≠ [] ∧ l = own ++ r ∧ ∀ m, Stops m → parseD (own ++ m) = some (d, m) := by
  unfold parseD at h
  obtain ⟨s0, a1, a2⟩ := minus_own l
  obtain ⟨b1, b2, b3⟩ := whole_own (minusP l).2
  obtain ⟨q, c1, c2, c3⟩ := part_own (wholeP (minusP l).2).2
  split at h
  · cases h
  rename_i hw
  split at h
  · cases h
  · rename_i e r' hp
    split at h
    · cases h
    · rename_i dd hmk
      injection h with h
      injection h with h1 h2
      subst h1 h2
      obtain ⟨q2, d1, d2, d3⟩ := power_own hp
      obtain ⟨w, hwE⟩ : ∃ w, (wholeP (minusP l).2).1 = w := ⟨_, rfl⟩
      rw [hwE] at b1 b2 b3 hw hmk
      refine ⟨s0 ++ (w ++ (q ++ q2)), fun e0 => hw (List.append_eq_nil_iff.1 (List.append_eq_nil_iff.1 e0).2).1, ?_, fun m hm => ?_⟩
      · rw [List.append_assoc, List.append_assoc, List.append_assoc, ← d1, ← c1, ← b1, ← a1]
      · have hx2 : digN (q2 ++ m) = 0 ∧ ∀ r, q2 ++ m ≠ 46 :: r := by
          rcases d3 with rfl | ⟨c, q', rfl, hc⟩
          · exact ⟨hm.digN, fun r e => (hm _ _ e).2.1 rfl⟩
          · refine ⟨digN_cons_no ?_, fun r e => ?_⟩
            · rcases hc with rfl | rfl <;> decide
            · injection e with e _
              rcases hc with rfl | rfl <;> revert e <;> decide
        have hx1 : digN (q ++ (q2 ++ m)) = 0 := by
          rcases c3 with rfl | ⟨q', rfl⟩
          · exact hx2.1
          · exact digN_cons_no (by decide)
        obtain ⟨w0, wr, hw0⟩ : ∃ w0 wr, w = w0 :: wr := by
          cases w with
          | nil => exact absurd rfl hw
          | cons a b => exact ⟨a, b, rfl⟩
        have e1 : minusP (s0 ++ (w ++ (q ++ q2)) ++ m) = ((minusP l).1, w ++ (q ++ (q2 ++ m))) := by
          have h5 := a2 w0 (wr ++ (q ++ (q2 ++ m))) (fun e => by
            have h6 := b2 w0 (by rw [hw0]; simp)
            rw [e] at h6
            exact absurd h6 (by decide))
          rw [hw0, List.append_assoc, List.append_assoc, List.append_assoc]
          exact h5
        exact parse_of e1 (b3 _ hw hx1) (c2 _ hx2.1 hx2.2) (d2 m hm) hw hmk
end Go.Proofs.YtfckekaegjjmkaaGreatDoor
