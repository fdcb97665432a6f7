/- The texts DelP, DelQ, put together. -/
import Derived.Test.YtgfeeakcpojicaaGreatDoorPk31
import Derived.Test.YtgfeeakcpojicaaGreatDoorPk39
/- path: what is deleted is gone, and nothing else is: count, depth and shape of what is left. No function of the program. -/
namespace Go.Proofs.YtgfeeakcpojicaaGreatDoor
open Go.RowKit Go.Shelf

theorem del_get (l : List Tr) (f k a : Nat) (hf : f + k ≤ l.length) (h : a < (l.take f ++ l.drop (f + k)).length) (b : Nat) (hb : b = if a < f then a else a + k) :
    ∃ hb' : b < l.length, (l.take f ++ l.drop (f + k))[a] = l[b] := by
  rw [List.length_append, List.length_take, List.length_drop] at h
  have hfl : min f l.length = f := by omega
  split at hb
  · rename_i haf
    subst hb
    refine ⟨by omega, ?_⟩
    rw [List.getElem_append_left (by rw [List.length_take]; omega), List.getElem_take]
  · rename_i haf
    subst hb
    refine ⟨by omega, ?_⟩
    rw [List.getElem_append_right (by rw [List.length_take]; omega), List.getElem_drop]
    congr 1
    rw [List.length_take]
    omega
theorem keys_del {l : List Tr} {f : Nat} (hf : f + 2 ≤ l.length) (h2 : f % 2 = 0) (h : KeysApart l) : KeysApart (l.take f ++ l.drop (f + 2)) := by
  intro i k hi hk hi2 hk2
  obtain ⟨_, e1⟩ := del_get l f 2 i hf hi _ rfl
  obtain ⟨_, e2⟩ := del_get l f 2 k hf (by omega) _ rfl
  rw [e1, e2]
  refine h _ _ _ ?_ ?_ ?_ <;> (try split) <;> (try split) <;> omega
theorem keys_set {l : List Tr} {j : Nat} (hj : j % 2 = 1) (v : Tr) (h : KeysApart l) : KeysApart (l.set j v) := by
  intro i k hi hk hi2 hk2
  have hl : i < l.length := by rwa [List.length_set] at hi
  have e1 : (l.set j v)[i] = l[i] := List.getElem_set_ne (by omega) _
  have e2 : (l.set j v)[k]'(by omega) = l[k]'(by omega) := List.getElem_set_ne (by omega) _
  rw [e1, e2]
  exact h i k hl hk hi2 hk2
theorem keysB_iff {l : List Tr} : keysB l = true ↔ KeysApart l := by
  unfold keysB
  exact @decide_eq_true_iff _ (Classical.propDecidable _)
theorem ownB_7 {o : Own} {l : List Tr} (h : o.kind = 7) : ownB o l = onlyB o zeroO := by
  unfold ownB
  rw [h]
  rfl
theorem ownB_8 {o : Own} {l : List Tr} (h : o.kind = 8) : ownB o l = (onlyB o zeroO && (decide (l.length % 2 = 0) && keysB l)) := by
  unfold ownB
  rw [h]
  rfl
theorem ownB_5 {o : Own} {l : List Tr} (h : o.kind = 5) (hb : ownB o l = true) : l = [] := by
  unfold ownB at hb
  rw [h] at hb
  have hb : (decide (l.length = 0) && (onlyB o { zeroO with s := o.s } && (decide (o.s.size ≤ 400) && Lib.validD o.s.data.toList))) = true := hb
  rw [Bool.and_eq_true, decide_eq_true_iff] at hb
  exact List.length_eq_zero_iff.1 hb.1
/-- What a step leads to: of an array an element, of a map what stands behind a text. -/
theorem stepAt_kind {kind : Int} {l : List Tr} {k : Nat} {x : Stp × Nat} (h : stepAt kind l k = some x) :
    (kind = 7 ∧ x.2 = k ∧ 0 ≤ x.1.1) ∨ (kind = 8 ∧ k % 2 = 0 ∧ x.2 = k + 1 ∧ x.1.1 = -1 ∧ ∃ hk : k < l.length, l[k].own.kind = 5) := by
  unfold stepAt at h
  split at h
  · rename_i hk
    split at h
    · rename_i hc
      cases h
      exact .inr ⟨hc.1, hc.2.1, rfl, rfl, hk, hc.2.2.2⟩
    · split at h
      · rename_i h7
        cases h
        exact .inl ⟨h7, rfl, Int.natCast_nonneg k⟩
      · cases h
  · cases h
theorem atO_kind {t : Tr} {s : Stp} {i : Nat} (h : atO t s = some i) :
    (t.own.kind = 7 ∧ 0 ≤ s.1) ∨ (t.own.kind = 8 ∧ i % 2 = 1 ∧ s.1 = -1 ∧ ∃ hk : i - 1 < t.kids.length, t.kids[i - 1].own.kind = 5) := by
  obtain ⟨j, _, hj⟩ := stepsTo_mem _ _ (atO_mem h)
  rcases stepAt_kind hj with ⟨h7, _, h0⟩ | ⟨h8, h2, e, h1, hk, h5⟩
  · exact .inl ⟨h7, h0⟩
  · have e : i = j + 1 := e
    subst e
    exact .inr ⟨h8, by omega, h1, hk, h5⟩
theorem allL_append : ∀ a b : List Tr, allL (a ++ b) = (allL a && allL b)
  | [], b => by simp [allL]
  | t :: a, b => by
    show (allB t && allL (a ++ b)) = (allB t && allL a && allL b)
    rw [allL_append a b, Bool.and_assoc]
theorem allL_get : ∀ {l : List Tr} (_ : allL l = true) (i : Nat) (h : i < l.length), allB l[i] = true
  | t :: l, h, 0, _ => by
    rw [allL, Bool.and_eq_true] at h
    exact h.1
  | t :: l, h, i + 1, hi => by
    rw [allL, Bool.and_eq_true] at h
    exact allL_get h.2 i (by simpa using hi)
theorem allL_set : ∀ {l : List Tr} (_ : allL l = true) (i : Nat) {v : Tr} (_ : allB v = true), allL (l.set i v) = true
  | [], _, _, _, _ => rfl
  | t :: l, h, 0, v, hv => by
    rw [allL, Bool.and_eq_true] at h
    show allL (v :: l) = true
    rw [allL, hv, h.2]
    rfl
  | t :: l, h, i + 1, v, hv => by
    rw [allL, Bool.and_eq_true] at h
    show allL (t :: l.set i v) = true
    rw [allL, h.1, allL_set h.2 i hv]
    rfl
theorem allL_part {l : List Tr} (h : allL l = true) (f k : Nat) : allL (l.take f ++ l.drop k) = true := by
  have h1 := allL_append (l.take f) (l.drop f)
  rw [List.take_append_drop, h] at h1
  have h2 := allL_append (l.take k) (l.drop k)
  rw [List.take_append_drop, h] at h2
  rw [allL_append, Bool.and_eq_true]
  exact ⟨(Bool.and_eq_true _ _ ▸ h1.symm).1, (Bool.and_eq_true _ _ ▸ h2.symm).2⟩
theorem depthL_part (l : List Tr) (f k : Nat) : depthL (l.take f ++ l.drop k) ≤ depthL l := by
  have h1 := depthL_append (l.take f) (l.drop f)
  rw [List.take_append_drop] at h1
  have h2 := depthL_append (l.take k) (l.drop k)
  rw [List.take_append_drop] at h2
  rw [depthL_append]
  omega
theorem depthL_get : ∀ (l : List Tr) (i : Nat) (h : i < l.length), l[i].depth ≤ depthL l
  | t :: l, 0, _ => by
    show t.depth ≤ max t.depth (depthL l)
    omega
  | t :: l, i + 1, h => by
    have hi : i < l.length := by simpa using h
    have := depthL_get l i hi
    show l[i].depth ≤ max t.depth (depthL l)
    omega
theorem depthL_set : ∀ (l : List Tr) (i : Nat) (h : i < l.length) (v : Tr), v.depth ≤ l[i].depth → depthL (l.set i v) ≤ depthL l
  | t :: l, 0, _, v, hv => by
    have hv : v.depth ≤ t.depth := hv
    show max v.depth (depthL l) ≤ max t.depth (depthL l)
    omega
  | t :: l, i + 1, h, v, hv => by
    have := depthL_set l i (by simpa using h) v hv
    show max t.depth (depthL (l.set i v)) ≤ max t.depth (depthL l)
    omega
theorem countL_part (l : List Tr) (i : Nat) (h : i < l.length) : countL (l.take i ++ l.drop (i + 1)) + l[i].count = countL l := by
  have h1 := countL_append (l.take (i + 1)) (l.drop (i + 1))
  rw [List.take_append_drop] at h1
  have h2 := countL_take l i h
  rw [countL_append]
  omega

/-- At the node itself. -/
theorem del_here {s : Stp} {u : Tr} {i : Nat} (hs : atO u s = some i) (ha : allB u = true) :
    (delT s u).count + ((u.kids[i]'(atO_lt hs)).count + if s.1 < 0 then 1 else 0) = u.count ∧ (delT s u).depth ≤ u.depth ∧ allB (delT s u) = true ∧ (delT s u).own = u.own := by
  have hil := atO_lt hs
  have hd : delT s u = delAt u i := by
    unfold delT
    rw [hs]
  rw [hd, Tr.count_eq, Tr.count_eq u, Tr.depth_eq, Tr.depth_eq u]
  rw [allB_eq, Bool.and_eq_true] at ha
  obtain ⟨ho, hall⟩ := ha
  unfold delAt
  show 1 + countL (u.kids.take (delFrom u i) ++ u.kids.drop (i + 1)) + _ = _ ∧ depthL (u.kids.take (delFrom u i) ++ u.kids.drop (i + 1)) + 1 ≤ _ ∧ allB _ = true ∧ u.own = u.own
  have hdl := depthL_part u.kids (delFrom u i) (i + 1)
  refine ⟨?_, by omega, ?_, rfl⟩
  · rcases atO_kind hs with ⟨h7, h0⟩ | ⟨h8, h2, h1, hk, h5⟩
    · have hf : delFrom u i = i := if_neg (by omega)
      have := countL_part u.kids i hil
      rw [hf, if_neg (by omega)]
      omega
    · have hf : delFrom u i = i - 1 := if_pos h8
      rw [hf, if_pos (by omega)]
      have hb := allL_get hall (i - 1) hk
      rw [allB_eq, Bool.and_eq_true] at hb
      have hnil := ownB_5 h5 hb.1
      have hc : (u.kids[i - 1]).count = 1 := by
        rw [Tr.count_eq, hnil]
        rfl
      have h3 := countL_append (u.kids.take (i + 1)) (u.kids.drop (i + 1))
      rw [List.take_append_drop] at h3
      have h4 := countL_take u.kids i hil
      have h5 := countL_take u.kids (i - 1) hk
      rw [show i - 1 + 1 = i from by omega] at h5
      rw [countL_append]
      omega
  · rw [allB_eq]
    show (ownB u.own (u.kids.take (delFrom u i) ++ u.kids.drop (i + 1)) && allL (u.kids.take (delFrom u i) ++ u.kids.drop (i + 1))) = true
    rw [allL_part hall, Bool.and_true]
    rcases atO_kind hs with ⟨h7, h0⟩ | ⟨h8, h2, h1, hk, h5⟩
    · rw [ownB_7 h7] at ho ⊢
      exact ho
    · rw [ownB_8 h8, Bool.and_eq_true, Bool.and_eq_true, decide_eq_true_iff, keysB_iff] at ho
      obtain ⟨o1, o2, o3⟩ := ho
      have hf : delFrom u i = i - 1 := if_pos h8
      rw [ownB_8 h8, Bool.and_eq_true, Bool.and_eq_true, decide_eq_true_iff, keysB_iff, hf]
      refine ⟨o1, ?_, ?_⟩
      · rw [List.length_append, List.length_take, List.length_drop]
        omega
      · have := keys_del (f := i - 1) (by omega) (by omega) o3
        rw [show i - 1 + 2 = i + 1 from by omega] at this
        exact this
/-- Below a node: what the path's last step but one leads to is changed alone. -/
theorem del_there (s : Stp) : ∀ (p : List Stp) (t u v : Tr), findT t p = some u → findT u [s] = some v → allB t = true →
    (changedT (delT s) p t).count + (v.count + if s.1 < 0 then 1 else 0) = t.count ∧ (changedT (delT s) p t).depth ≤ t.depth ∧ allB (changedT (delT s) p t) = true
  | [], t, u, v, h, hv, ha => by
    obtain rfl : t = u := Option.some.inj h
    obtain ⟨i, hs⟩ := findT_head hv
    have hv2 := (findT_cons (p := []) hs).symm.trans hv
    have hv2 : t.kids[i]'(atO_lt hs) = v := Option.some.inj hv2
    have := del_here hs ha
    rw [hv2] at this
    exact ⟨this.1, this.2.1, this.2.2.1⟩
  | s' :: p, t, u, v, h, hv, ha => by
    obtain ⟨j, hj⟩ := findT_head h
    have h2 := (findT_cons (p := p) hj).symm.trans h
    have hjl := atO_lt hj
    rw [changed_cons hj]
    rw [allB_eq, Bool.and_eq_true] at ha
    obtain ⟨ho, hall⟩ := ha
    obtain ⟨i1, i2, i3⟩ := del_there s p _ u v h2 hv (allL_get hall j hjl)
    obtain ⟨w, hw⟩ : ∃ w, changedT (delT s) p (t.kids[j]'hjl) = w := ⟨_, rfl⟩
    rw [hw] at i1 i2 i3 ⊢
    have hc := countL_set t.kids j hjl w
    have hd := depthL_set t.kids j hjl w i2
    rw [Tr.count_eq, Tr.count_eq t, Tr.depth_eq, Tr.depth_eq t, allB_eq]
    show 1 + countL (t.kids.set j w) + _ = _ ∧ depthL (t.kids.set j w) + 1 ≤ _ ∧ (ownB t.own (t.kids.set j w) && allL (t.kids.set j w)) = true
    refine ⟨by omega, by omega, ?_⟩
    rw [allL_set hall j i3, Bool.and_true]
    rcases atO_kind hj with ⟨h7, h0⟩ | ⟨h8, h2, h1, hk, h5⟩
    · rw [ownB_7 h7] at ho ⊢
      exact ho
    · rw [ownB_8 h8, Bool.and_eq_true, Bool.and_eq_true, decide_eq_true_iff, keysB_iff] at ho
      obtain ⟨o1, o2, o3⟩ := ho
      rw [ownB_8 h8, Bool.and_eq_true, Bool.and_eq_true, decide_eq_true_iff, keysB_iff]
      refine ⟨o1, ?_, keys_set h2 w o3⟩
      rw [List.length_set]
      exact o2
theorem del_right {s : Stp} {p : List Stp} {t u v : Tr} (h : findT t p = some u) (hv : findT u [s] = some v) (hr : rightT t = true) :
    (changedT (delT s) p t).count + (v.count + if s.1 < 0 then 1 else 0) = t.count ∧ rightT (changedT (delT s) p t) = true := by
  unfold rightT at hr ⊢
  rw [Bool.and_eq_true, Bool.and_eq_true, decide_eq_true_iff, decide_eq_true_iff] at hr ⊢
  obtain ⟨h1, h2, h3⟩ := del_there s p t u v h hv hr.2.2
  exact ⟨h1, by omega, by omega, h3⟩
end Go.Proofs.YtgfeeakcpojicaaGreatDoor
/- path: all paths but the first have a last step. No function of the program. -/
namespace Go.Proofs.YtgfeeakcpojicaaGreatDoor
open Go.RowKit Go.Shelf

theorem path_split {t : Tr} {p : List Stp} {v : Tr} (hp : p ≠ []) (h : findT t p = some v) : ∃ p0 s u, p = p0 ++ [s] ∧ findT t p0 = some u ∧ findT u [s] = some v := by
  have e := List.dropLast_concat_getLast hp
  rw [← e, findT_snoc] at h
  cases hu : findT t p.dropLast with
  | none =>
    rw [hu] at h
    cases h
  | some u =>
    rw [hu] at h
    exact ⟨p.dropLast, p.getLast hp, u, e.symm, hu, h⟩
theorem all_long {t : Tr} {i : Nat} (h : i + 1 < (allT 16 t []).length) : (allT 16 t [])[i + 1] ≠ [] := by
  have e : allT 16 t [] = [] :: (stepsOf t).flatMap (goT 15 t []) := allT_succ 15 t []
  have hm : (allT 16 t [])[i + 1] ∈ (stepsOf t).flatMap (goT 15 t []) := by
    simp only [e, List.getElem_cons_succ]
    exact List.getElem_mem _
  obtain ⟨x, _, hq⟩ := List.mem_flatMap.1 hm
  unfold goT at hq
  split at hq
  · cases hk : t.kids[x.2]? with
    | none => rw [hk] at hq; cases hq
    | some u =>
      rw [hk] at hq
      obtain ⟨r, h1, _⟩ := all_found 15 _ _ _ hq
      rw [h1]
      simp
  · cases hq
theorem few_ok {t : Tr} (h : OwnOk t.own) : OwnOk (fewT t).own := by
  rw [fewT_own]
  exact cut_ok h
theorem which_wrap (which : Int) (n : Nat) (hn : 0 < n) (hn2 : n ≤ 1000) : ∃ j : Nat, j < n ∧ IntKind.i64.wrap ((IntKind.u64.wrap which).tmod (n : Int)) = (j : Int) := by
  have h0 : 0 ≤ IntKind.u64.wrap which := by
    rw [IntKind.wrap_u64]
    omega
  obtain ⟨m, hm⟩ := Int.eq_ofNat_of_zero_le h0
  refine ⟨m % n, Nat.mod_lt _ hn, ?_⟩
  rw [hm]
  have e : ((m : Int)).tmod (n : Int) = ((m % n : Nat) : Int) := rfl
  rw [e]
  have := Nat.mod_lt m hn
  exact IntWalk.i64_in _ (by omega)
end Go.Proofs.YtgfeeakcpojicaaGreatDoor
