/- The texts CbP, put together. -/
import Derived.Test.YtffaefdnlgfdbaaGreatDoorPk11
import Derived.Test.YtffaefdnlgfdbaaGreatDoorPk35
/- CBOR items of trees, plainly: an item tells its tree, and none is the beginning of another. No function of the program. -/
namespace Go.Proofs.YtffaefdnlgfdbaaGreatDoor
open Go.RowKit Go.Shelf

/-- How many bytes stand behind the first one of a head. -/
def extraN (info : Nat) : Nat := if info < 24 then 0 else 2 ^ (info - 24)
/-- A head of major, info, argument. -/
def itemL (x : Nat × Nat × Nat) : List UInt8 := firstByte x.1 x.2.1 :: beBytes x.2.2 (extraN x.2.1)
structure HdOk (x : Nat × Nat × Nat) : Prop where
  maj : x.1 ≤ 7
  info : x.2.1 ≤ 27
  small : x.2.1 < 24 → x.2.2 = x.2.1
  big : 24 ≤ x.2.1 → x.2.2 < 2 ^ (8 * 2 ^ (x.2.1 - 24))
theorem readL_item (x : Nat × Nat × Nat) (h : HdOk x) (t : List UInt8) : readL (itemL x ++ t) = ⟨x.1, x.2.1, x.2.2, t, 0⟩ := by
  obtain ⟨maj, info, n⟩ := x
  obtain ⟨h1, h2, h3, h4⟩ := h
  simp only [] at h1 h2 h3 h4
  unfold itemL extraN
  simp only []
  rw [List.cons_append, readL_first maj info _ h1 (by omega)]
  by_cases hs : info < 24
  · rw [if_pos hs, if_pos hs, h3 hs]
    rfl
  · rw [if_neg hs, if_neg hs, if_neg (by omega), if_neg (by omega)]
    rw [if_neg (by simp [beBytes_length])]
    rw [List.take_left' (beBytes_length _ _), List.drop_left' (beBytes_length _ _), beVal_beBytes _ n (h4 (by omega))]
theorem item_inj {x x' : Nat × Nat × Nat} (h : HdOk x) (h' : HdOk x') {r r' : List UInt8} (e : itemL x ++ r = itemL x' ++ r') : x = x' ∧ r = r' := by
  have h1 := readL_item x h r
  rw [e, readL_item x' h' r'] at h1
  injection h1 with a b c d
  exact ⟨Prod.ext a.symm (Prod.ext b.symm c.symm), d.symm⟩
theorem makeL_item (maj n : Nat) (hn : n < 18446744073709551616) : makeL maj n = itemL (maj, (leastN n).1, n) := by
  unfold makeL itemL extraN
  rcases leastN_is n hn with ⟨h1, h2, h3⟩ | ⟨h1, h2, h3, h4, _⟩
  · simp only [h2, h3, h1, if_true]
  · simp only []
    rw [if_neg (by omega), h4]
theorem least_ok (maj n : Nat) (hm : maj ≤ 7) (hn : n < 18446744073709551616) : HdOk (maj, (leastN n).1, n) := by
  rcases leastN_is n hn with ⟨h1, h2, h3⟩ | ⟨h1, h2, h3, h4, h5, _⟩
  · exact ⟨hm, by simp only []; omega, fun _ => h2.symm, fun h => by simp only [] at h; omega⟩
  · refine ⟨hm, h3, fun h => by simp only [] at h; omega, fun _ => ?_⟩
    simp only []
    rw [← h4]
    exact h5

theorem hd_mk (maj info n : Nat) (h1 : maj ≤ 7) (h2 : info ≤ 27) (h3 : info < 24 → n = info) (h4 : 24 ≤ info → n < 2 ^ (8 * 2 ^ (info - 24))) : HdOk (maj, info, n) := ⟨h1, h2, h3, h4⟩
def infoW (wd : Int) : Nat := if wd = 16 then 25 else if wd = 32 then 26 else 27
/-- The head of a node's item: major, info, argument. -/
def hdO (o : Own) (k : Nat) : Nat × Nat × Nat :=
  if o.kind = 1 then (7, 22, 22)
  else if o.kind = 2 then (if o.b = true then (7, 21, 21) else (7, 20, 20))
  else if o.kind = 3 then (match toIntD o.neg o.dg o.ex with
    | some (true, n) => (1, (leastN (n - 1)).1, n - 1)
    | some (false, n) => (0, (leastN n).1, n)
    | none => (0, 0, 0))
  else if o.kind = 4 then (7, infoW o.wd, o.u.toNat)
  else if o.kind = 5 then (3, (leastN o.s.size).1, o.s.size)
  else if o.kind = 6 then (2, (leastN o.s.size).1, o.s.size)
  else if o.kind = 7 then (4, (leastN k).1, k)
  else if o.kind = 8 then (5, (leastN (k / 2)).1, k / 2)
  else if o.kind = 9 then (6, (leastN o.u.toNat).1, o.u.toNat)
  else (7, (leastN o.u.toNat).1, o.u.toNat)
theorem hdO_1 {o : Own} (k : Nat) (h : o.kind = 1) : hdO o k = ((7, 22, 22)) := by
  unfold hdO
  rw [if_pos h]
theorem hdO_2 {o : Own} (k : Nat) (h : o.kind = 2) : hdO o k = (if o.b = true then (7, 21, 21) else (7, 20, 20)) := by
  unfold hdO
  rw [if_neg (by omega), if_pos h]
theorem hdO_3 {o : Own} (k : Nat) (h : o.kind = 3) : hdO o k = (match toIntD o.neg o.dg o.ex with
    | some (true, n) => (1, (leastN (n - 1)).1, n - 1)
    | some (false, n) => (0, (leastN n).1, n)
    | none => (0, 0, 0)) := by
  unfold hdO
  rw [if_neg (by omega), if_neg (by omega), if_pos h]
theorem hdO_4 {o : Own} (k : Nat) (h : o.kind = 4) : hdO o k = ((7, infoW o.wd, o.u.toNat)) := by
  unfold hdO
  rw [if_neg (by omega), if_neg (by omega), if_neg (by omega), if_pos h]
theorem hdO_5 {o : Own} (k : Nat) (h : o.kind = 5) : hdO o k = ((3, (leastN o.s.size).1, o.s.size)) := by
  unfold hdO
  rw [if_neg (by omega), if_neg (by omega), if_neg (by omega), if_neg (by omega), if_pos h]
theorem hdO_6 {o : Own} (k : Nat) (h : o.kind = 6) : hdO o k = ((2, (leastN o.s.size).1, o.s.size)) := by
  unfold hdO
  rw [if_neg (by omega), if_neg (by omega), if_neg (by omega), if_neg (by omega), if_neg (by omega), if_pos h]
theorem hdO_7 {o : Own} (k : Nat) (h : o.kind = 7) : hdO o k = ((4, (leastN k).1, k)) := by
  unfold hdO
  rw [if_neg (by omega), if_neg (by omega), if_neg (by omega), if_neg (by omega), if_neg (by omega), if_neg (by omega), if_pos h]
theorem hdO_8 {o : Own} (k : Nat) (h : o.kind = 8) : hdO o k = ((5, (leastN (k / 2)).1, k / 2)) := by
  unfold hdO
  rw [if_neg (by omega), if_neg (by omega), if_neg (by omega), if_neg (by omega), if_neg (by omega), if_neg (by omega), if_neg (by omega), if_pos h]
theorem hdO_9 {o : Own} (k : Nat) (h : o.kind = 9) : hdO o k = ((6, (leastN o.u.toNat).1, o.u.toNat)) := by
  unfold hdO
  rw [if_neg (by omega), if_neg (by omega), if_neg (by omega), if_neg (by omega), if_neg (by omega), if_neg (by omega), if_neg (by omega), if_neg (by omega), if_pos h]
theorem hdO_10 {o : Own} (k : Nat) (h : o.kind = 10) : hdO o k = ((7, (leastN o.u.toNat).1, o.u.toNat)) := by
  unfold hdO
  rw [if_neg (by omega), if_neg (by omega), if_neg (by omega), if_neg (by omega), if_neg (by omega), if_neg (by omega), if_neg (by omega), if_neg (by omega), if_neg (by omega)]
/-- What stands behind it. -/
def txO (o : Own) : List UInt8 := if o.kind = 5 ∨ o.kind = 6 then o.s.data.toList else []
mutual
/-- A tree's item. -/
def cbT : Tr → List UInt8
  | .nd o l => itemL (hdO o l.length) ++ (txO o ++ cbL l)
def cbL : List Tr → List UInt8
  | [] => []
  | t :: l => cbT t ++ cbL l
end
theorem cbT_eq (t : Tr) : cbT t = itemL (hdO t.own t.kids.length) ++ (txO t.own ++ cbL t.kids) := by
  cases t
  rw [cbT]
  rfl
theorem cbL_append : ∀ a b : List Tr, cbL (a ++ b) = cbL a ++ cbL b
  | [], _ => rfl
  | t :: a, b => by
    show cbT t ++ cbL (a ++ b) = (cbT t ++ cbL a) ++ cbL b
    rw [cbL_append a b, List.append_assoc]
theorem cbL_take (l : List Tr) (k : Nat) (hk : k < l.length) : cbL (l.take (k + 1)) = cbL (l.take k) ++ cbT l[k] := by
  rw [List.take_succ_eq_append_getElem hk, cbL_append]
  show cbL (l.take k) ++ (cbT l[k] ++ []) = _
  rw [List.append_nil]

/-- A node that is right, and fits CBOR. -/
structure NodeC (o : Own) (l : List Tr) : Prop where
  own : ownB o l = true
  fit : fitO 2 flC o l = true
  ok : OwnOk o
  len : l.length < 18446744073709551616
/-- Its shape: nothing but what its kind has. -/
inductive ShapeC (o : Own) (l : List Tr) : Prop
  | null (h : o = { zeroO with kind := 1 }) (hl : l.length = 0)
  | bool (h : o = { zeroO with kind := 2, b := o.b }) (hl : l.length = 0)
  | num (neg : Bool) (n : Nat) (h : o = { zeroO with kind := 3, neg := o.neg, dg := o.dg, ex := o.ex }) (hn : toIntD o.neg o.dg o.ex = some (neg, n)) (hl : l.length = 0)
  | float (h : o = { zeroO with kind := 4, u := o.u, wd := o.wd }) (hw : (o.wd = 16 ∧ o.u < 65536) ∨ (o.wd = 32 ∧ o.u < 4294967296) ∨ o.wd = 64) (hl : l.length = 0)
  | text (h : o = { zeroO with kind := 5, s := o.s }) (hs : o.s.size ≤ 400) (hv : Lib.validD o.s.data.toList = true) (hl : l.length = 0)
  | bytes (h : o = { zeroO with kind := 6, s := o.s }) (hs : o.s.size ≤ 400) (hl : l.length = 0)
  | array (h : o = { zeroO with kind := 7 })
  | map (h : o = { zeroO with kind := 8 }) (hl : l.length % 2 = 0) (hk : keysB l = true) (hf : keysFit 2 l = true)
  | tag (h : o = { zeroO with kind := 9, u := o.u }) (hl : l.length = 1)
  | simple (h : o = { zeroO with kind := 10, u := o.u }) (hu : o.u ≤ 19 ∨ o.u = 23 ∨ (32 ≤ o.u ∧ o.u ≤ 255)) (hl : l.length = 0)
theorem only_eq {o x : Own} {k : Int} (h : onlyB o x = true) (hk : o.kind = k) : o = { x with kind := k } := by
  unfold onlyB at h
  rw [decide_eq_true_iff] at h
  rw [← hk]
  exact h
theorem NodeC.shape {o : Own} {l : List Tr} (h : NodeC o l) : ShapeC o l := by
  obtain ⟨ho, hf, _, _⟩ := h
  unfold ownB at ho
  unfold fitO at hf
  by_cases h1 : o.kind = 1
  · rw [if_pos h1] at ho
    simp only [Bool.and_eq_true, decide_eq_true_iff] at ho
    exact .null (only_eq ho.2 h1) ho.1
  rw [if_neg h1] at ho
  by_cases h2 : o.kind = 2
  · rw [if_pos h2] at ho
    simp only [Bool.and_eq_true, decide_eq_true_iff] at ho
    exact .bool (only_eq ho.2 h2) ho.1
  rw [if_neg h2] at ho
  by_cases h3 : o.kind = 3
  · rw [if_pos h3] at ho
    simp only [Bool.and_eq_true, decide_eq_true_iff] at ho
    rw [if_neg (by omega), if_pos h3] at hf
    simp only [Bool.or_eq_true, Bool.and_eq_true, decide_eq_true_iff] at hf
    have hs : (toIntD o.neg o.dg o.ex).isSome = true := by
      rcases hf with hf | hf | hf
      · omega
      · exact hf.2
      · omega
    obtain ⟨⟨neg, n⟩, hn⟩ := Option.isSome_iff_exists.1 hs
    exact .num neg n (only_eq ho.2.1 h3) hn ho.1
  rw [if_neg h3] at ho
  by_cases h4 : o.kind = 4
  · rw [if_pos h4] at ho
    simp only [Bool.and_eq_true, decide_eq_true_iff] at ho
    refine .float (only_eq ho.2.1 h4) ?_ ho.1
    have hw := ho.2.2
    unfold wideOk at hw
    split at hw
    · rename_i e
      exact .inr (.inr e)
    · split at hw
      · rename_i e
        exact .inl ⟨e, by simpa using hw⟩
      · split at hw
        · rename_i e
          exact .inr (.inl ⟨e, by simpa using hw⟩)
        · cases hw
  rw [if_neg h4] at ho hf
  rw [if_neg h3] at hf
  by_cases h5 : o.kind = 5
  · rw [if_pos h5] at ho
    simp only [Bool.and_eq_true, decide_eq_true_iff] at ho
    exact .text (only_eq ho.2.1 h5) ho.2.2.1 ho.2.2.2 ho.1
  rw [if_neg h5] at ho
  by_cases h6 : o.kind = 6
  · rw [if_pos h6] at ho
    simp only [Bool.and_eq_true, decide_eq_true_iff] at ho
    exact .bytes (only_eq ho.2.1 h6) ho.2.2 ho.1
  rw [if_neg h6] at ho hf
  by_cases h7 : o.kind = 7
  · rw [if_pos h7] at ho
    exact .array (only_eq ho h7)
  rw [if_neg h7] at ho
  by_cases h8 : o.kind = 8
  · rw [if_pos h8] at ho
    simp only [Bool.and_eq_true, decide_eq_true_iff] at ho
    rw [if_neg (by omega), if_neg (by omega), if_pos h8, Bool.and_eq_true] at hf
    exact .map (only_eq ho.1 h8) ho.2.1 ho.2.2 hf.2
  rw [if_neg h8] at ho
  by_cases h9 : o.kind = 9
  · rw [if_pos h9] at ho
    simp only [Bool.and_eq_true, decide_eq_true_iff] at ho
    exact .tag (only_eq ho.2 h9) ho.1
  rw [if_neg h9] at ho
  by_cases h10 : o.kind = 10
  · rw [if_pos h10] at ho
    simp only [Bool.and_eq_true, Bool.or_eq_true, decide_eq_true_iff] at ho
    exact .simple (only_eq ho.2.1 h10) ho.2.2 ho.1
  rw [if_neg h10] at ho
  by_cases h11 : o.kind = 11
  · rw [if_neg (by omega), if_pos h11] at hf
    simp at hf
  · rw [if_neg h11] at ho
    cases ho

/-- The kind of a head. -/
def kindH (x : Nat × Nat × Nat) : Int :=
  if x.1 = 0 ∨ x.1 = 1 then 3 else if x.1 = 2 then 6 else if x.1 = 3 then 5 else if x.1 = 4 then 7 else if x.1 = 5 then 8 else if x.1 = 6 then 9
  else if x.2.1 = 20 ∨ x.2.1 = 21 then 2 else if x.2.1 = 22 then 1 else if 25 ≤ x.2.1 then 4 else 10
theorem least_small {n : Nat} (h : n < 24) : (leastN n).1 = n := by rw [leastN_small n h]
theorem least_one {n : Nat} (h : ¬ n < 24) (h1 : n < 256) : (leastN n).1 = 24 := by rw [leastN_1 n h h1]
theorem hd_facts {o : Own} {l : List Tr} (h : NodeC o l) : HdOk (hdO o l.length) ∧ kindH (hdO o l.length) = o.kind := by
  have hk := h.ok
  have hl := h.len
  have hu := hk.u
  rcases h.shape with ⟨h, _⟩ | ⟨h, _⟩ | ⟨neg, n, h, hn, _⟩ | ⟨h, hw, _⟩ | ⟨h, hs, _, _⟩ | ⟨h, hs, _⟩ | ⟨h⟩ | ⟨h, he, _, _⟩ | ⟨h, _⟩ | ⟨h, hu', _⟩
  · have e : o.kind = 1 := by rw [h]
    unfold hdO
    rw [if_pos e, e]
    exact ⟨⟨by decide, by decide, fun _ => rfl, fun h => absurd h (by decide)⟩, by decide⟩
  · have e : o.kind = 2 := by rw [h]
    unfold hdO
    rw [if_neg (by omega), if_pos e, e]
    split
    · exact ⟨⟨by decide, by decide, fun _ => rfl, fun h => absurd h (by decide)⟩, by decide⟩
    · exact ⟨⟨by decide, by decide, fun _ => rfl, fun h => absurd h (by decide)⟩, by decide⟩
  · have e : o.kind = 3 := by rw [h]
    have hb := (toInt_lt hn).1
    unfold hdO
    rw [if_neg (by omega), if_neg (by omega), if_pos e, e, hn]
    cases neg with
    | true => exact ⟨least_ok 1 (n - 1) (by decide) (by omega), rfl⟩
    | false => exact ⟨least_ok 0 n (by decide) hb, rfl⟩
  · have e : o.kind = 4 := by rw [h]
    unfold hdO infoW
    rw [if_neg (by omega), if_neg (by omega), if_neg (by omega), if_pos e, e]
    rcases hw with ⟨hw, hu2⟩ | ⟨hw, hu2⟩ | hw
    · rw [if_pos hw]
      refine ⟨hd_mk 7 25 _ (by decide) (by decide) (fun h => absurd h (by decide)) (fun _ => ?_), by simp [kindH]⟩
      show o.u.toNat < 65536
      omega
    · rw [if_neg (by omega), if_pos hw]
      refine ⟨hd_mk 7 26 _ (by decide) (by decide) (fun h => absurd h (by decide)) (fun _ => ?_), by simp [kindH]⟩
      show o.u.toNat < 4294967296
      omega
    · rw [if_neg (by omega), if_neg (by omega)]
      refine ⟨hd_mk 7 27 _ (by decide) (by decide) (fun h => absurd h (by decide)) (fun _ => ?_), by simp [kindH]⟩
      show o.u.toNat < 18446744073709551616
      omega
  · have e : o.kind = 5 := by rw [h]
    unfold hdO
    rw [if_neg (by omega), if_neg (by omega), if_neg (by omega), if_neg (by omega), if_pos e, e]
    exact ⟨least_ok 3 _ (by decide) (by omega), rfl⟩
  · have e : o.kind = 6 := by rw [h]
    unfold hdO
    rw [if_neg (by omega), if_neg (by omega), if_neg (by omega), if_neg (by omega), if_neg (by omega), if_pos e, e]
    exact ⟨least_ok 2 _ (by decide) (by omega), rfl⟩
  · have e : o.kind = 7 := by rw [h]
    unfold hdO
    rw [if_neg (by omega), if_neg (by omega), if_neg (by omega), if_neg (by omega), if_neg (by omega), if_neg (by omega), if_pos e, e]
    exact ⟨least_ok 4 _ (by decide) hl, rfl⟩
  · have e : o.kind = 8 := by rw [h]
    unfold hdO
    rw [if_neg (by omega), if_neg (by omega), if_neg (by omega), if_neg (by omega), if_neg (by omega), if_neg (by omega), if_neg (by omega), if_pos e, e]
    exact ⟨least_ok 5 _ (by decide) (by omega), rfl⟩
  · have e : o.kind = 9 := by rw [h]
    unfold hdO
    rw [if_neg (by omega), if_neg (by omega), if_neg (by omega), if_neg (by omega), if_neg (by omega), if_neg (by omega), if_neg (by omega), if_neg (by omega), if_pos e, e]
    exact ⟨least_ok 6 _ (by decide) (by omega), rfl⟩
  · have e : o.kind = 10 := by rw [h]
    unfold hdO
    rw [if_neg (by omega), if_neg (by omega), if_neg (by omega), if_neg (by omega), if_neg (by omega), if_neg (by omega), if_neg (by omega), if_neg (by omega), if_neg (by omega), e]
    refine ⟨least_ok 7 _ (by decide) (by omega), ?_⟩
    obtain ⟨m, hm⟩ : ∃ m, o.u.toNat = m := ⟨_, rfl⟩
    rw [hm]
    rcases Nat.lt_or_ge m 24 with hlt | hge
    · unfold kindH
      simp only [least_small hlt]
      rw [if_neg (by omega), if_neg (by omega), if_neg (by omega), if_neg (by omega), if_neg (by omega), if_neg (by omega), if_neg (by omega), if_neg (by omega), if_neg (by omega)]
    · unfold kindH
      simp only [least_one (n := m) (by omega) (by omega)]
      decide
theorem len0 {l : List Tr} (h : l.length = 0) : l = [] := List.eq_nil_of_length_eq_zero h
/-- The first part of an item tells the node, and how many it has. -/
theorem cbH_inj {o o' : Own} {l l' : List Tr} {r r' : List UInt8} (h : NodeC o l) (h' : NodeC o' l') (e : itemL (hdO o l.length) ++ (txO o ++ r) = itemL (hdO o' l'.length) ++ (txO o' ++ r')) : o = o' ∧ l.length = l'.length ∧ r = r' := by
  obtain ⟨a1, a2⟩ := hd_facts h
  obtain ⟨b1, b2⟩ := hd_facts h'
  obtain ⟨hx, hr⟩ := item_inj a1 b1 e
  have hkk : o.kind = o'.kind := by rw [← a2, ← b2, hx]
  have hu := h.ok.u
  have hu' := h'.ok.u
  have nt : ∀ {p : Own}, p.kind ≠ 5 → p.kind ≠ 6 → txO p = [] := fun h5 h6 => by
    unfold txO
    rw [if_neg (fun q => q.elim h5 h6)]
  have tx : ∀ {p : Own}, (p.kind = 5 ∨ p.kind = 6) → txO p = p.s.data.toList := fun hp => by
    unfold txO
    rw [if_pos hp]
  have key : ∀ {s s' : ByteArray}, s.size = s'.size → s.data.toList ++ r = s'.data.toList ++ r' → s = s' ∧ r = r' := fun hs he => by
    obtain ⟨q1, q2⟩ := List.append_inj he (by simpa using hs)
    exact ⟨str_ext q1, q2⟩
  rcases h.shape with ⟨q, hl⟩ | ⟨q, hl⟩ | ⟨neg, n, q, hn, hl⟩ | ⟨q, hw, hl⟩ | ⟨q, hs, _, hl⟩ | ⟨q, hs, hl⟩ | ⟨q⟩ | ⟨q, he, _, _⟩ | ⟨q, hl⟩ | ⟨q, hu2, hl⟩ <;>
  rcases h'.shape with ⟨q', hl'⟩ | ⟨q', hl'⟩ | ⟨neg', n', q', hn', hl'⟩ | ⟨q', hw', hl'⟩ | ⟨q', hs', _, hl'⟩ | ⟨q', hs', hl'⟩ | ⟨q'⟩ | ⟨q', he', _, _⟩ | ⟨q', hl'⟩ | ⟨q', hu2', hl'⟩ <;>
  have e := congrArg Own.kind q <;> have e' := congrArg Own.kind q' <;> simp only [] at e e' <;> try (exfalso; omega)
  · rw [nt (by omega) (by omega), nt (by omega) (by omega)] at hr
    exact ⟨q.trans q'.symm, hl.trans hl'.symm, hr⟩
  · rw [nt (by omega) (by omega), nt (by omega) (by omega)] at hr
    refine ⟨?_, hl.trans hl'.symm, hr⟩
    rw [hdO_2 _ e, hdO_2 _ e'] at hx
    have : o.b = o'.b := by
      cases hb : o.b <;> cases hb' : o'.b <;> rw [hb, hb'] at hx <;> first | rfl | (exact absurd hx (by decide))
    rw [q, q', this]
  · rw [nt (by omega) (by omega), nt (by omega) (by omega)] at hr
    refine ⟨?_, hl.trans hl'.symm, hr⟩
    rw [hdO_3 _ e, hdO_3 _ e', hn, hn'] at hx
    have p1 := (toInt_lt hn).2
    have p2 := (toInt_lt hn').2
    have hh : neg = neg' ∧ n = n' := by
      cases neg <;> cases neg' <;> simp only [Prod.mk.injEq] at hx
      · exact ⟨rfl, hx.2.2⟩
      · exact absurd hx.1 (by decide)
      · exact absurd hx.1 (by decide)
      · have := p1 rfl
        have := p2 rfl
        exact ⟨rfl, by omega⟩
    rw [hh.1, hh.2] at hn
    obtain ⟨w1, w2, w3⟩ := toInt_inj hn hn'
    rw [q, q', w1, w2, w3]
  · rw [nt (by omega) (by omega), nt (by omega) (by omega)] at hr
    refine ⟨?_, hl.trans hl'.symm, hr⟩
    rw [hdO_4 _ e, hdO_4 _ e'] at hx
    unfold infoW at hx
    simp only [Prod.mk.injEq] at hx
    have w1 : o.u = o'.u := by omega
    have w2 : o.wd = o'.wd := by
      have := hx.2.1
      split at this <;> split at this <;> (try split at this) <;> (try split at this) <;> omega
    rw [q, q', w1, w2]
  · rw [tx (.inl e), tx (.inl e')] at hr
    rw [hdO_5 _ e, hdO_5 _ e'] at hx
    simp only [Prod.mk.injEq] at hx
    obtain ⟨w1, w2⟩ := key hx.2.2 hr
    exact ⟨by rw [q, q', w1], hl.trans hl'.symm, w2⟩
  · rw [tx (.inr e), tx (.inr e')] at hr
    rw [hdO_6 _ e, hdO_6 _ e'] at hx
    simp only [Prod.mk.injEq] at hx
    obtain ⟨w1, w2⟩ := key hx.2.2 hr
    exact ⟨by rw [q, q', w1], hl.trans hl'.symm, w2⟩
  · rw [nt (by omega) (by omega), nt (by omega) (by omega)] at hr
    rw [hdO_7 _ e, hdO_7 _ e'] at hx
    simp only [Prod.mk.injEq] at hx
    exact ⟨q.trans q'.symm, hx.2.2, hr⟩
  · rw [nt (by omega) (by omega), nt (by omega) (by omega)] at hr
    rw [hdO_8 _ e, hdO_8 _ e'] at hx
    simp only [Prod.mk.injEq] at hx
    exact ⟨q.trans q'.symm, by omega, hr⟩
  · rw [nt (by omega) (by omega), nt (by omega) (by omega)] at hr
    rw [hdO_9 _ e, hdO_9 _ e'] at hx
    simp only [Prod.mk.injEq] at hx
    have w1 : o.u = o'.u := by omega
    exact ⟨by rw [q, q', w1], hl.trans hl'.symm, hr⟩
  · rw [nt (by omega) (by omega), nt (by omega) (by omega)] at hr
    rw [hdO_10 _ e, hdO_10 _ e'] at hx
    simp only [Prod.mk.injEq] at hx
    have w1 : o.u = o'.u := by omega
    exact ⟨by rw [q, q', w1], hl.trans hl'.symm, hr⟩

mutual
/-- All nodes are right, and fit. -/
def okC : Tr → Prop
  | .nd o l => NodeC o l ∧ okCL l
def okCL : List Tr → Prop
  | [] => True
  | t :: l => okC t ∧ okCL l
end
mutual
theorem cbT_inj : ∀ (t t' : Tr) (r r' : List UInt8), okC t → okC t' → cbT t ++ r = cbT t' ++ r' → t = t' ∧ r = r'
  | .nd o l, .nd o' l', r, r', h, h', e => by
    rw [okC] at h h'
    rw [cbT, cbT, List.append_assoc, List.append_assoc, List.append_assoc, List.append_assoc] at e
    obtain ⟨h1, h2, h3⟩ := cbH_inj h.1 h'.1 e
    obtain ⟨h4, h5⟩ := cbL_inj l l' r r' h2 h.2 h'.2 h3
    exact ⟨by rw [h1, h4], h5⟩
theorem cbL_inj : ∀ (l l' : List Tr) (r r' : List UInt8), l.length = l'.length → okCL l → okCL l' → cbL l ++ r = cbL l' ++ r' → l = l' ∧ r = r'
  | [], [], _, _, _, _, _, e => ⟨rfl, by simpa [cbL] using e⟩
  | [], _ :: _, _, _, hl, _, _, _ => by simp at hl
  | _ :: _, [], _, _, hl, _, _, _ => by simp at hl
  | t :: l, t' :: l', r, r', hl, h, h', e => by
    rw [okCL] at h h'
    rw [cbL, cbL, List.append_assoc, List.append_assoc] at e
    obtain ⟨h1, h2⟩ := cbT_inj t t' _ _ h.1 h'.1 e
    obtain ⟨h3, h4⟩ := cbL_inj l l' r r' (by simpa using hl) h.2 h'.2 h2
    exact ⟨by rw [h1, h3], h4⟩
end
mutual
theorem sameT_iff : ∀ (t t' : Tr), sameT t t' = true → t = t'
  | .nd o l, .nd o' l', h => by
    rw [sameT, Bool.and_eq_true, Bool.and_eq_true, decide_eq_true_iff, decide_eq_true_iff] at h
    rw [h.1.1, sameL_iff l l' h.1.2 h.2]
theorem sameL_iff : ∀ (l l' : List Tr), l.length = l'.length → sameL l l' = true → l = l'
  | [], [], _, _ => rfl
  | [], _ :: _, hl, _ => by simp at hl
  | _ :: _, [], hl, _ => by simp at hl
  | t :: l, t' :: l', hl, h => by
    rw [sameL, Bool.and_eq_true] at h
    rw [sameT_iff t t' h.1, sameL_iff l l' (by simpa using hl) h.2]
end
end Go.Proofs.YtffaefdnlgfdbaaGreatDoor
