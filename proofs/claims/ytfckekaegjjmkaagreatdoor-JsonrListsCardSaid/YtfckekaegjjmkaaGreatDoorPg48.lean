/- The texts JrSpA, JrSpB, JrY, ArgV, RefD, put together. -/
import Derived.Test.YtfckekaegjjmkaaGreatDoorPg46
import Derived.Test.YtfckekaegjjmkaaGreatDoorPg47
import Derived.Test.YtfckekaegjjmkaaGreatDoorPg45
import Derived.Test.YtfckekaegjjmkaaGreatDoorPg01
import Derived.Deep.Slices
import Derived.ChangeArms
import Derived.WideShapes
import Derived.Test.YtfckekaegjjmkaaGreatDoorPg03
import Derived.Test.YtfckekaegjjmkaaGreatDoorPg09
namespace Go.Proofs.YtfckekaegjjmkaaGreatDoor.jsonrSpace
open Go.ChangeShapes Go.WideShapes Go.ChangeAt Go.RowKit Go.Lib
open Go.ChangeMaps (open_string shut_string)

theorem own : ownKnob Tryz.prog.godebug = none := by kernel_rfl
theorem laidOut : laidOutB Tryz.prog = true := by kernel_rfl
theorem listed : Rows.jsonrSpaceRow.laid = allJ := rfl

set_option maxRecDepth 100000 in
theorem lifted (os : Os) (started : os.Started) (H : Type) (enc : TypeId × Value → H) :
    ReturnsInHanded {} Tryz.checked os 8 .any (fun w args => (Rows.jsonrSpaceSpec.pre enc Tryz.prog Tryz.f8 Rows.jsonrSpaceRow.domain false w args ∧ laidMetH Tryz.prog Rows.jsonrSpaceRow.laid w) ∧ sizedMet enc Tryz.prog Tryz.f8 (OpenSpec.ofChange Rows.jsonrSpaceSpec) false w args)
      (Rows.jsonrSpaceSpec.post enc Tryz.prog Tryz.f8 false true false false) := by
  refine returnsInHanded_of_change_and (C := Tryz.checked) (X := fun w _ => laidMetH Tryz.prog Rows.jsonrSpaceRow.laid w) (fun _ _ _ hh h => h.of_heap hh) own started (by kernel_rfl) Tryz.func8
    (ChangeSpec.witness_shaped (enc := enc) (C := Tryz.checked) (os := os) (X := fun w _ => laidMetH Tryz.prog Rows.jsonrSpaceRow.laid w) false (laidHJ os) #[.string ByteArray.empty, .int .i64 0, .int .i64 0] 8 (laidH_osJ os)
      (laidH_shapedJ os _) (by kernel_rfl) (by kernel_rfl) (by kernel_rfl)
      (by rw [listed]; exact laidH_metJ os _)) ?_
  intro W base args ds gs before hval0 hW _ _ hL _
  have hval : ∀ (j : Nat) t v, Tryz.f8.params[j]? = some t → args[j]? = some v → Value.okWide Tryz.prog W .any base t v := hval0
  have hW' := hW
  obtain ⟨p, q, hA0, hV, rfl, _, _⟩ := hW
  have hA : DataW.TrodAll enc Tryz.prog W 0 (fun _ => true) true Tryz.f8.params.toList args.toList ds p := hA0
  rw [Tryz.params8] at hA hval
  obtain ⟨v0, vs0, d0, ds0, p0, q0, hargs, rfl, rfl, h0, r0⟩ := trodAll_cons hA
  obtain ⟨v1, vs1, d1, ds1, p1, q1, rfl, rfl, rfl, h1, r1⟩ := trodAll_cons r0
  obtain ⟨v2, vs2, d2, ds2, p2, q2, rfl, rfl, rfl, h2, r2⟩ := trodAll_cons r1
  obtain ⟨rfl, rfl, rfl⟩ := trodAll_nil r2
  obtain rfl : args = #[v0, v1, v2] := by cases args; simp_all
  obtain ⟨rfl, rfl⟩ := trodVars_none hV
  obtain ⟨a0, rfl, rfl, rfl, w0⟩ := open_string Tryz.underlying9 (hval 0 9 v0 rfl rfl) h0
  obtain ⟨a1, rfl, rfl, rfl, w1⟩ := open_int Tryz.underlying3 (hval 1 3 v1 rfl rfl) h1
  obtain ⟨a2, rfl, rfl, rfl, w2⟩ := open_int Tryz.underlying3 (hval 2 3 v2 rfl rfl) h2
  rw [listed] at hL
  obtain ⟨uT, uQ, aT, aF, hU⟩ := jrw_of_laid hL
  refine (space_walk a0 a1 a2 w0 (wf_i64 w1) (wf_i64 w2) W hU).mono fun e W' ⟨he, hb⟩ => ?_
  subst he
  exact ⟨_, rfl, law_post laidOut (by kernel_rfl) rfl Tryz.underlying4 rfl rfl rfl rfl hW' hb⟩

end Go.Proofs.YtfckekaegjjmkaaGreatDoor.jsonrSpace
namespace Go.Proofs.YtfckekaegjjmkaaGreatDoor.jsonrSpace
open Go.ChangeShapes Go.WideShapes Go.ChangeAt Go.RowKit Go.Lib
open Go.ChangeMaps (open_string shut_string)

theorem k_place : (Rows.jsonrSpaceRow.inPlace == Tryz.pinned.checked.prog.inPlace 8) = true := by kernel_rfl
theorem k_unf : (Rows.jsonrSpaceRow.unfollowed == Tryz.pinned.checked.prog.unfollowed 8) = true := by kernel_rfl
theorem k_rec : (Rows.jsonrSpaceRow.recurses == Tryz.pinned.checked.prog.recurses 8) = true := by kernel_rfl
theorem k_named : (Rows.jsonrSpaceRow.named == Tryz.pinned.checked.prog.varsNamed 8) = true := by kernel_rfl
theorem named_f : Tryz.pinned.checked.prog.funcNamed Rows.jsonrSpaceRow.func = some 8 := by kernel_rfl
theorem closed_f : joinedFacts Tryz.pinned.checked.prog 8 Tryz.f8 Rows.jsonrSpaceSpec Rows.jsonrSpaceRow = true := by
  unfold joinedFacts
  rw [k_place, k_unf, k_rec, k_named]
  kernel_rfl

theorem over : Rows.jsonrSpaceRow.holds Tryz.pinned (OpenSpec.ofChange Rows.jsonrSpaceSpec) :=
  OpenClaim.holds_of_wide 8 Tryz.f8 rfl rfl rfl rfl rfl rfl rfl ⟨rfl, rfl, rfl, rfl, rfl⟩ rfl rfl rfl rfl rfl named_f Tryz.func8 closed_f
    (of_decide_eq_true (by kernel_rfl)) (by unfold Func.isWrapper; first | (rw [if_pos (by decide +kernel)]; kernel_rfl) | (rw [if_neg (by decide +kernel)]; exact ⟨rfl, rfl⟩))
    (fun os started H enc _ => lifted os started H enc)

end Go.Proofs.YtfckekaegjjmkaaGreatDoor.jsonrSpace
namespace Go.Proofs.YtfckekaegjjmkaaGreatDoor
open Go.RowKit Go.Shelf

/-- The documents, a comma between each two. -/
def joinD : List (List UInt8 × Tr) → List UInt8
  | [] => []
  | [x] => x.1
  | x :: y :: l => x.1 ++ 44 :: joinD (y :: l)
theorem join_tail : ∀ (l : List (List UInt8 × Tr)) (x : List UInt8 × Tr), joinD (x :: l) ++ [93] = x.1 ++ tailD l []
  | [], x => rfl
  | y :: l, x => by
    rw [joinD, List.append_assoc, List.cons_append, join_tail l y]
    rfl
theorem join_snoc (y : List UInt8 × Tr) : ∀ (l : List (List UInt8 × Tr)), joinD (l ++ [y]) = if l = [] then y.1 else joinD l ++ 44 :: y.1
  | [] => rfl
  | [x] => rfl
  | x :: z :: l => by
    rw [if_neg (by simp), List.cons_append, List.cons_append, joinD, ← List.cons_append, join_snoc y (z :: l), if_neg (by simp), joinD, List.append_assoc, List.cons_append]
theorem join_len (n : Nat) : ∀ (l : List (List UInt8 × Tr)), (∀ y ∈ l, y.1.length ≤ n) → (joinD l).length ≤ l.length * (n + 1)
  | [], _ => Nat.zero_le _
  | [x], h => by
    have := h x (by simp)
    show x.1.length ≤ _
    simp only [List.length_cons, List.length_nil]
    omega
  | x :: y :: l, h => by
    have h1 := h x (by simp)
    have h2 := join_len n (y :: l) (fun z hz => h z (by simp [List.mem_cons.1 hz]))
    rw [joinD, List.length_append, List.length_cons]
    simp only [List.length_cons, Nat.add_mul, Nat.one_mul] at h2 ⊢
    omega
theorem join_ge : ∀ (l : List (List UInt8 × Tr)), l.length ≤ (joinD l).length + 1
  | [] => Nat.zero_le _
  | [x] => by simp
  | x :: y :: l => by
    have h := join_ge (y :: l)
    rw [joinD, List.length_append, List.length_cons (a := (44 : UInt8))]
    simp only [List.length_cons] at h ⊢
    omega
def treesD (l : List (List UInt8 × Tr)) : Tr := listT 7 (l.map (·.2))
theorem all_trees : ∀ (l : List Tr), (∀ t ∈ l, rightT t = true) → allL l = true
  | [], _ => rfl
  | t :: l, h => by
    have h1 := h t (by simp)
    unfold rightT at h1
    rw [Bool.and_eq_true, Bool.and_eq_true] at h1
    rw [allL, h1.2.2, all_trees l (fun u hu => h u (by simp [hu]))]
    rfl
theorem trees_right (l : List Tr) (h : ∀ t ∈ l, rightT t = true) : rightT (listT 7 l) = true ↔ (listT 7 l).count ≤ 300 ∧ (listT 7 l).depth ≤ 16 := by
  have ha : allB (listT 7 l) = true := by
    unfold listT
    rw [allB, all_trees l h]
    unfold ownB
    simp [onlyB]
  unfold rightT
  rw [ha, Bool.and_true, Bool.and_eq_true, decide_eq_true_iff, decide_eq_true_iff]
theorem lists_read (l : List (List UInt8 × Tr)) (hl : l.length ≤ 6) (hx : ∀ y ∈ l, y.1.length ≤ 100 ∧ readJ uqJ y.1 = (0, y.2)) :
    readJ uqJ (91 :: (joinD l ++ [93])) = if (treesD l).count ≤ 300 ∧ (treesD l).depth ≤ 16 then (0, treesD l) else (60, .nd zeroO []) := by
  have hr : ∀ t ∈ l.map (·.2), rightT t = true := fun t ht => by
    obtain ⟨y, hy, rfl⟩ := List.mem_map.1 ht
    obtain ⟨h1, h2⟩ := hx y hy
    exact (doc_parts uqJ_own2 (Nat.lt_succ_self _) (read_good h2 (by omega))).2.1
  have hlen := join_len 100 l (fun y hy => (hx y hy).1)
  have hlen2 : (91 :: (joinD l ++ [93])).length ≤ 700 := by
    simp only [List.length_cons, List.length_append, List.length_nil]
    omega
  have hrr : rightT (treesD l) = true ↔ (treesD l).count ≤ 300 ∧ (treesD l).depth ≤ 16 := trees_right _ hr
  have hv : valueJ uqJ ((91 :: (joinD l ++ [93])).length + 1) 16 (91 :: (joinD l ++ [93])) = if nestL (l.map (·.2)) ≤ 15 then .good (treesD l) [] else .bad 60 := by
    cases l with
    | nil => kernel_rfl
    | cons x l =>
      rw [join_tail l x]
      refine array_docs _ 15 [] l x ?_ ?_ (fun y hy => ?_)
      · simp only [List.length_cons]
        omega
      · have h7 : (x.1 ++ tailD l []).length = (joinD (x :: l) ++ [93]).length := by rw [join_tail]
        simp only [List.length_cons] at hl ⊢
        rw [h7]
        have h8 := join_ge (x :: l)
        simp only [List.length_cons] at h8
        rw [List.length_append]
        simp only [List.length_cons, List.length_nil]
        omega
      · obtain ⟨h1, h2⟩ := hx y hy
        exact isDoc_of uqJ_own2 (Nat.lt_succ_self _) (read_good h2 (by omega))
  have hn := nest_depthL (l.map (·.2))
  have hd : (treesD l).depth = depthL (l.map (·.2)) + 1 := by
    unfold treesD listT
    rw [Tr.depth, Nat.add_comm]
  have hdoc : docJ uqJ ((91 :: (joinD l ++ [93])).length + 1) (91 :: (joinD l ++ [93])) = if (treesD l).count ≤ 300 ∧ (treesD l).depth ≤ 16 then .good (treesD l) [] else .bad 60 := by
    unfold docJ
    rw [sp_cons (by decide), hv]
    by_cases h1 : nestL (l.map (·.2)) ≤ 15
    · rw [if_pos h1]
      simp only []
      rw [if_neg (by simp [spJ])]
      by_cases h2 : (treesD l).count ≤ 300 ∧ (treesD l).depth ≤ 16
      · rw [if_pos (hrr.2 h2), if_pos h2]
      · rw [if_neg (fun q => h2 (hrr.1 q)), if_neg h2]
    · rw [if_neg h1, if_neg (by omega)]
  split at hdoc
  · rename_i h
    rw [if_pos h]
    exact good_read (by omega) hdoc
  · rename_i h
    rw [if_neg h]
    exact bad_read (by omega) hdoc
end Go.Proofs.YtfckekaegjjmkaaGreatDoor
namespace Go.Proofs.YtfckekaegjjmkaaGreatDoor
open Go.RowKit Go.Shelf Go.Lib

theorem choose_list {α : Type} {p : Nat → α → Prop} : ∀ (n : Nat), (∀ i, i < n → ∃ s, p i s) → ∃ l : List α, l.length = n ∧ ∀ i (h : i < l.length), p i l[i]
  | 0, _ => ⟨[], rfl, fun i h => by simp at h⟩
  | n + 1, h => by
    obtain ⟨l, hl, hp⟩ := choose_list n (fun i hi => h i (by omega))
    obtain ⟨s, hs⟩ := h n (by omega)
    refine ⟨l ++ [s], by simp [hl], fun i hi => ?_⟩
    rw [List.getElem_append]
    split
    · exact hp i _
    · have : i = n := by simp at hi; omega
      subst this
      simpa [hl] using hs
/-- The slice .slice A n c holds ints. -/
structure IntsAt (W : World) (B : Nat) (A : Option Addr) (n : Nat) (l : List Int) : Prop where
  len : n = l.length
  at_ : ∀ k (h : k < l.length), ∃ ad, A = some ad ∧ ad.block < B ∧ W.cell? (ad.add k) = some (Value.int .i64 l[k]) ∧ (-9223372036854775808 ≤ l[k] ∧ l[k] < 9223372036854775808)
theorem IntsAt.below {W W' : World} {B n : Nat} {A : Option Addr} {l : List Int} (h : IntsAt W B A n l) {m : Nat} (hb : Below m W W') (hm : B ≤ m) : IntsAt W' B A n l :=
  ⟨h.len, fun k hk => by
    obtain ⟨ad, e, hlt, hc, ho⟩ := h.at_ k hk
    exact ⟨ad, e, hlt, (hb.cell (by rw [add_block]; omega)).trans hc, ho⟩⟩
section
variable {H : Type} {enc : TypeId × Value → H} {w : World} {base : Nat} {sp : Nat → Bool} {held : Bool}
end
/-- The slice .slice A n c holds strings. -/
structure StrsAt (W : World) (B : Nat) (A : Option Addr) (n : Nat) (l : List ByteArray) : Prop where
  len : n = l.length
  at_ : ∀ k (h : k < l.length), ∃ ad, A = some ad ∧ ad.block < B ∧ W.cell? (ad.add k) = some (Value.string l[k]) ∧ l[k].size ≤ 9223372036854775807
theorem StrsAt.below {W W' : World} {B n : Nat} {A : Option Addr} {l : List ByteArray} (h : StrsAt W B A n l) {m : Nat} (hb : Below m W W') (hm : B ≤ m) : StrsAt W' B A n l :=
  ⟨h.len, fun k hk => by
    obtain ⟨ad, e, hlt, hc, ho⟩ := h.at_ k hk
    exact ⟨ad, e, hlt, (hb.cell (by rw [add_block]; omega)).trans hc, ho⟩⟩
section
variable {H : Type} {enc : TypeId × Value → H} {w : World} {base : Nat} {sp : Nat → Bool} {held : Bool}
set_option maxRecDepth 100000 in
theorem celStrs : Tryz.prog.cellsOf 9 = 1 := by kernel_rfl
set_option maxRecDepth 100000 in
theorem open_strings {W : World} {r : Reach} {b0 : Nat} {v : Value} {d : DataW H} {ps : List MemPlace} (hval : Value.okWide Tryz.prog W r b0 36 v) (hd : DataW.Trod enc Tryz.prog w base sp held 36 v d ps) :
    ∃ A n c l, v = .slice A n c ∧ n ≤ 9223372036854775807 ∧ StrsAt w w.heap.size A n l := by
  obtain ⟨a, len, cap, rfl⟩ := Go.WideShapes.okWide_slice Tryz.underlying36 hval
  obtain ⟨fuel, hf⟩ := hd
  rcases Go.Deep.open_slice1 Tryz.underlying36 celStrs hf with ⟨e, _⟩ | ⟨a', len', cap', m, n, V, D, Pl, e, hb, hl, hm, hmm, _, hx⟩
  · simp [Value.cells] at e
    obtain ⟨rfl, rfl, rfl⟩ := e
    exact ⟨none, 0, 0, [], rfl, by omega, rfl, fun k h => by simp at h⟩
  · simp [Value.cells] at e
    obtain ⟨rfl, rfl, rfl⟩ := e
    have hlm : len ≤ m := by rw [hmm]; split <;> omega
    obtain ⟨l, hl1, hl2⟩ := choose_list (p := fun i (x : ByteArray) => w.cell? (a'.add i) = some (Value.string x) ∧ x.size ≤ 9223372036854775807) len (fun i hi => by
      obtain ⟨h1, h2⟩ := hx i (by omega)
      obtain ⟨x, e0, _, w0⟩ := DataW.trod_string Tryz.underlying9 h2
      rw [List.cons.injEq] at e0
      exact ⟨x, by rw [h1, e0.1], by simpa [maxLen] using w0⟩)
    refine ⟨some a', len, cap, l, rfl, by simp [maxLen] at hm; omega, hl1.symm, fun k hk => ?_⟩
    obtain ⟨h1, h2⟩ := hl2 k hk
    exact ⟨a', rfl, cell_block_lt (a := a'.add k) h1 |> fun h => by rwa [add_block] at h, h1, h2⟩
end
end Go.Proofs.YtfckekaegjjmkaaGreatDoor
namespace Go.Proofs.YtfckekaegjjmkaaGreatDoor
open Go.RowKit Go.Shelf

set_option maxHeartbeats 2000000 in
set_option maxRecDepth 100000 in
theorem ref_Depth (d : Nat) : ∀ (t : Tr) (x : Value) (w : World) (B : Nat), ListAt w B d t.kids x → B ≤ w.heap.size → t.count ≤ 1000000000000 →
    Calls Tryz.prog 19 #[nodeV t.own x] w fun e w' => e = .returned (.int .i64 (t.depth : Nat)) ∧ Below w.heap.size w w' := by
  induction d using Nat.strongRecOn with
  | _ d ih =>
  intro t x w B hl hB hc
  obtain ⟨hlen, A, c, rfl⟩ := hl.slice
  have hdc := depth_count t
  rw [Tr.depth_eq] at hdc ⊢
  have hkc : ∀ l, t.kids = l → ∀ k (h : k < l.length), l[k].count ≤ 1000000000000 := by
    rintro _ rfl k h
    have := Tr.count_eq t
    have h1 := countL_take t.kids k h
    have h2 := countL_mono t.kids (k + 1)
    omega
  obtain ⟨l, hkl⟩ : ∃ l, t.kids = l := ⟨_, rfl⟩
  have hkc := hkc l hkl
  rw [hkl] at hl hlen hdc ⊢
  obtain ⟨n, hn⟩ : ∃ n, l.length = n := ⟨_, rfl⟩
  rw [hn] at hl hlen ⊢
  obtain ⟨⟨kind, b, neg, dg, ex, u, wd, s⟩, ho⟩ : ∃ o, t.own = o := ⟨_, rfl⟩
  rw [ho]
  unfold nodeV
  have HL := Lib.hid hl
  have IH := Lib.hid ih
  have HKC := Lib.hid hkc
  have hbx := (Below.refl w.heap.size w).alloc (Nat.le_refl _) (.cells #[.int .i64 kind, .bool b, .bool neg, .string dg, .int .i64 ex, .int .u64 u, .int .i64 wd, .string s, .slice A n c] 27)
  have hBx : Blk (w.alloc (.cells #[.int .i64 kind, .bool b, .bool neg, .string dg, .int .i64 ex, .int .u64 u, .int .i64 wd, .string s, .slice A n c] 27)) w.heap.size #[.int .i64 kind, .bool b, .bool neg, .string dg, .int .i64 ex, .int .u64 u, .int .i64 wd, .string s, .slice A n c] 27 := Blk.new _ _ _
  have hd2 : depthL l + 1 ≤ 1000000000000 := by omega
  clear hl ih ho hkl hkc hdc hc
  simp only []
  go_enter Tryz.func19, Tryz.ntmps19
  go_wp2_with fail
  go_loopw [3, 4] (fun m i wr => ∃ k : Nat, k ≤ n ∧ i = .int .i64 k ∧ m = .int .i64 ((depthL (l.take k) : Nat) : Int) ∧ Below w.heap.size w wr ∧ Blk wr w.heap.size #[.int .i64 kind, .bool b, .bool neg, .string dg, .int .i64 ex, .int .u64 u, .int .i64 wd, .string s, .slice A n c] 27) (fun _ i _ => n - (intOf i).toNat)
  case atStart => exact ⟨0, by omega, rfl, rfl, hbx, hBx⟩
  case round =>
    obtain ⟨k, hk, rfl, rfl, hbw, hbk⟩ := hrel
    have hfl : wr.cell? ⟨w.heap.size, 8, none⟩ = some (.slice A n c) := hbk.cell 8
    by_cases hlt : k < n
    · have hkl : k < l.length := by omega
      obtain ⟨d', ad, x', hdd, rfl, hab, hok, hna, hkk⟩ := (HL.out.below hbw hB).at_ hkl
      have htk := depthL_take l k hkl
      have HC := IH.out d' (by omega) l[k] x' wr B hkk (Nat.le_trans hB hbw.size) (HKC.out k hkl)
      obtain ⟨m0, hm0⟩ : ∃ m0, depthL (l.take k) = m0 := ⟨_, rfl⟩
      obtain ⟨m1, hm1⟩ : ∃ m1, l[k].depth = m1 := ⟨_, rfl⟩
      rw [hm0, hm1] at htk
      rw [hm1] at HC
      obtain ⟨⟨kind', b', neg', dg', ex', u', wd', s'⟩, ho'⟩ : ∃ o, l[k].own = o := ⟨_, rfl⟩
      rw [ho'] at HC hna
      unfold nodeV at HC
      obtain ⟨k0, k1, k2, k3, k4, k5, k6, k7, k8⟩ := hna
      simp only [] at k0 k1 k2 k3 k4 k5 k6 k7 k8 HC
      have HC := Lib.hid HC
      have HT := Lib.hid htk
      rw [hm0]
      have y1 : (k : Int) < n := by omega
      have y2 : max (m0 : Int) (m1 : Int) = ((max m0 m1 : Nat) : Int) := by omega
      clear htk hm0 hm1 ho' hkk hok hdd
      go_wp2_with fail
      refine HC.out.mono ?_
      rintro e w2 ⟨rfl, hb2⟩
      have hb3 := hbw.trans (hb2.mono hbw.size)
      have hbk2 := hbk.below hb2 hbk.lt
      clear hb2 HC hbk k0 k1 k2 k3 k4 k5 k6 k7 k8 hfl
      go_wp2_with fail
      go_roundw
      case rel => exact ⟨k + 1, by omega, by go_num, by first | (rw [HT.out]; done) | (rw [HT.out]; exact congrArg (Value.int .i64) (by omega)), hb3, hbk2⟩
      case measure => simp [intOf]; omega
    · obtain rfl : k = n := by omega
      have y1 : ¬ (k : Int) < k := by omega
      have hf : l.take k = l := by rw [← hn, List.take_length]
      rw [hf]
      clear hn hf
      go_wp2_with fail
      go_ret
      exact ⟨by go_num, hbw⟩

end Go.Proofs.YtfckekaegjjmkaaGreatDoor
