/- The texts NatD, put together. -/
import Derived.Test.YtflkmhgbinlfiaaGreatDoorPq37
import Derived.Test.YtflkmhgbinlfiaaGreatDoorPq16
namespace Go.Proofs.YtflkmhgbinlfiaaGreatDoor
open Go.RowKit Go.Shelf
attribute [local go_sem] Oper.semAt_some wide_fn wide_depth

theorem infoU32 : (Tryz.prog.info? 226).map (fun i => (i.zero, i.size, i.bytes)) = some (some (.int .u32 0), 1, 4) := by kernel_rfl
theorem infoLimbs : (Tryz.prog.info? 208).map (fun i => (i.zero, i.size, i.bytes)) = some (some (.slice none 0 0), 1, 24) := by kernel_rfl
/-- The end of a body behind two ranges over functions. -/
theorem leave2 {P : Program} {fn : Func} {R : Ending → World → Prop} {a : Act} {w : World} {D E : Nat} {v : Value} (hDE : E ≠ D)
    (hE : w.heap[E]? = some (.deferred (some []))) (hD : w.heap[D]? = some (.deferred (some [])))
    (hr : (results fn a.tmps).run P ((w.putObj E (.deferred none)).putObj D (.deferred none)) = .ok v ((w.putObj E (.deferred none)).putObj D (.deferred none))) (hd : a.defers = [{ target := .collected E, args := #[] }, { target := .collected D, args := #[] }])
    (hR : R (.returned v) ((w.putObj E (.deferred none)).putObj D (.deferred none))) : BodyM P fn R .ret a w := by
  show LeavesInM Fence.wide 9 P fn a.tmps R a.defers .returning w
  rw [hd]
  exact ⟨by simp, .inl ⟨_, _, rfl, run_takeDeferred hE, ⟨by simp, .inl ⟨_, _, rfl, run_takeDeferred ((World.putObj_heap_other (by omega)).trans hD), v, hr, hR⟩⟩⟩⟩
theorem trim_zero (g c : Nat) (w : World) (hcell : w.cell? ⟨g, 0, none⟩ = some (.int .u32 0)) :
    Calls Tryz.prog 160 #[.slice (some ⟨g, 0, none⟩) 1 c] w fun e w' => e = .returned (.slice (some ⟨g, 0, none⟩) 0 0) ∧ w' = w := by
  go_enter Tryz.func160, Tryz.ntmps160
  go_wp2_with fail
  refine wp_loop_rounds 2 ?_
  rw [rounds_succ]
  go_wp2_with fail
  rw [rounds_succ]
  go_wp2_with fail
  go_ret
  exact ⟨rfl, rfl⟩
/-- How many limbs a natural has. -/
def lenN (n : Nat) : Nat := if n = 0 then 0 else grps (Lib.decDigits n)
theorem len_end (n : Nat) : n / 10 ^ (9 * lenN n) = 0 := by
  unfold lenN
  split
  · rename_i h
    subst h
    simp
  · obtain ⟨f1, f2, f3⟩ := dec_facts n
    have := grps_end f2
    rw [f1] at this
    exact this
theorem len_top {n : Nat} (h : 0 < n) : 0 < lenN n ∧ n / 10 ^ (9 * (lenN n - 1)) ≠ 0 := by
  obtain ⟨f1, f2, f3⟩ := dec_facts n
  have ht := grps_top f2 f3 (dec_head0 n n (Nat.le_refl _) h)
  rw [f1] at ht
  have hl : 0 < (Lib.decDigits n).length := by
    rcases Nat.eq_zero_or_pos (Lib.decDigits n).length with e | e
    · exact absurd (List.eq_nil_of_length_eq_zero e) f3
    · exact e
  unfold lenN
  rw [if_neg (by omega)]
  exact ⟨by unfold grps; omega, ht⟩
theorem dec_len20 {n : Nat} (hn : n < 18446744073709551616) : (Lib.decDigits n).length ≤ 20 := by
  obtain ⟨f1, f2, f3⟩ := dec_facts n
  rcases Nat.eq_zero_or_pos n with e | e
  · subst e
    rw [Lib.decDigits_one (by decide)]
    decide
  · have h1 := dval_head f3 f2 (dec_head0 n n (Nat.le_refl _) e)
    rw [f1] at h1
    apply Decidable.byContradiction
    intro hc
    have h2 : 10 ^ 20 ≤ 10 ^ ((Lib.decDigits n).length - 1) := Nat.pow_le_pow_right (by decide) (by omega)
    have h3 : (10 : Nat) ^ 20 = 100000000000000000000 := by decide
    omega
theorem dec_natOk {n : Nat} (hn : n < 18446744073709551616) : natOk (bs (Lib.decDigits n)) = true := by
  obtain ⟨f1, f2, f3⟩ := dec_facts n
  have hl := dec_len20 hn
  have hl0 : 0 < (Lib.decDigits n).length := by
    rcases Nat.eq_zero_or_pos (Lib.decDigits n).length with e | e
    · exact absurd (List.eq_nil_of_length_eq_zero e) f3
    · exact e
  have hh : decide (1 < (Lib.decDigits n).length) = true → (Lib.decDigits n).head? ≠ some 48 := fun h => dec_head n (of_decide_eq_true h)
  unfold natOk
  rw [bs_size, bs_list, List.all_eq_true.2 f2, decide_eq_true (by omega : 1 ≤ (Lib.decDigits n).length), decide_eq_true (by omega : (Lib.decDigits n).length ≤ 400)]
  cases hq : decide (1 < (Lib.decDigits n).length) with
  | false => simp
  | true => simp [hh hq]
abbrev limVals (n j : Nat) : List Value := (List.range j).map fun i => Value.int .u32 (lim n i)
theorem limVals_succ (n j : Nat) : limVals n j ++ [.int .u32 (lim n j)] = limVals n (j + 1) := by
  unfold limVals
  rw [List.range_succ, List.map_append]
  rfl
theorem row_limbs {W : World} {base n k : Nat} {v : Value} (h : W.ownsRow base 226 1 v k (limVals n k)) (hk : 0 < k) :
    ∃ g c cur, v = .slice (some ⟨g, 0, none⟩) k c ∧ k ≤ c ∧ base ≤ g ∧ W.heap[g]? = some (.cells cur 226 (0, 0)) ∧ LimbsAt W g n k := by
  rcases h.2 with ⟨_, h0⟩ | ⟨g, cap, cur, hv, hb, hh, hn, hc, hs, ht⟩
  · omega
  · refine ⟨g, cap, cur, hv, hn, hb, hh, fun i hi => ?_⟩
    have hB : Blk W g cur 226 := hh
    rw [hB.cell i]
    have h1 : (cur.toList.take (k * 1))[i]? = some (Value.int .u32 (lim n i)) := by
      rw [ht, List.getElem?_map, List.getElem?_range hi]
      rfl
    rw [List.getElem?_take_of_lt (by omega)] at h1
    simpa using h1
/-- A natural's limbs, in blocks of S. -/
def OfAt (W : World) (S : Nat → Prop) (n : Nat) (v : Value) : Prop := ∃ g c cur, v = .slice (some ⟨g, 0, none⟩) (lenN n) c ∧ S g ∧ W.heap[g]? = some (.cells cur 226 (0, 0)) ∧ LimbsAt W g n (lenN n)
theorem OfAt.keep {W W' : World} {S S' : Nat → Prop} {n : Nat} {v : Value} (h : OfAt W S n v) (hk : ∀ g cur, S g → W.heap[g]? = some (.cells cur 226 (0, 0)) → W'.heap[g]? = W.heap[g]? ∧ S' g) : OfAt W' S' n v := by
  obtain ⟨g, c, cur, rfl, hS, hh, hl⟩ := h
  obtain ⟨h1, h2⟩ := hk g cur hS hh
  exact ⟨g, c, cur, rfl, h2, h1.trans hh, fun i hi => (World.cell?_of_block (a := ⟨g, i, none⟩) h1).trans (hl i hi)⟩
def OfI (s n : Nat) (w : World) (pre : List Nat) (W : World) : Prop :=
  (∃ v, Blk W s #[v] 208 ∧ W.ownsRow (s + 2) 226 1 v pre.length (limVals n pre.length)) ∧ Below s w W ∧ s + 2 ≤ W.heap.size
def OfX (_ : Code) (_ : List Nat) (_ : World) : Prop := False
def OfA (D : List UInt8) (T : Array Value) (pre : List Nat) (x : Nat) (a' : Act) (_ : World) : Prop :=
  (x = pre.length ∧ pre.length < grps D) ∧ a' = { tmps := (T.setIfInBounds 22 (.string (bs (grp D x)))).setIfInBounds 8 (.string (bs (grp D x))), defers := [] }
theorem ofI_own (s n : Nat) (w : World) {m : Nat} (hm : s ≤ m) (hw : s ≤ w.heap.size) : OwnFrom m (OfI s n w) := by
  rintro s' X Y row ⟨⟨v, h1, h2⟩, h3, h4⟩ hg hr
  exact ⟨⟨v, blk_own _ _ (fun _ : Unit => _) () X Y row h1 hg (fun r e => (hr r e).2), row_keptC h2 hg (fun r e => (hr r e).2)⟩, ownFrom_below (β := Unit) hw hm () X Y row h3 hg hr, Nat.le_trans h4 hg.size⟩
/-- trim of a natural's limbs. -/
theorem trim_of {n base : Nat} {W : World} {v : Value} (hn : n < 18446744073709551616) (h : W.ownsRow base 226 1 v (grps (Lib.decDigits n)) (limVals n (grps (Lib.decDigits n)))) :
    ∃ g c cur, v = .slice (some ⟨g, 0, none⟩) (grps (Lib.decDigits n)) c ∧ base ≤ g ∧ W.heap[g]? = some (.cells cur 226 (0, 0)) ∧ LimbsAt W g n (lenN n) ∧
      Calls Tryz.prog 160 #[.slice (some ⟨g, 0, none⟩) (grps (Lib.decDigits n)) c] W fun e w' => e = .returned (.slice (some ⟨g, 0, none⟩) (lenN n) (lenN n)) ∧ w' = W := by
  obtain ⟨f1, f2, f3⟩ := dec_facts n
  have hl0 : 0 < (Lib.decDigits n).length := by
    rcases Nat.eq_zero_or_pos (Lib.decDigits n).length with e | e
    · exact absurd (List.eq_nil_of_length_eq_zero e) f3
    · exact e
  have hl := dec_len20 hn
  have hg0 : 0 < grps (Lib.decDigits n) := by unfold grps; omega
  have hg1 : grps (Lib.decDigits n) ≤ 1000000 := by unfold grps; omega
  obtain ⟨g, c, cur, rfl, hc, hb, hh, hL⟩ := row_limbs h hg0
  refine ⟨g, c, cur, rfl, hb, hh, ?_, ?_⟩
  · by_cases h0 : n = 0
    · subst h0
      intro i hi
      exact absurd hi (by unfold lenN; rw [if_pos rfl]; omega)
    · unfold lenN
      rw [if_neg h0]
      exact hL
  · by_cases h0 : n = 0
    · subst h0
      have hc0 := hL 0 hg0
      have e1 : grps (Lib.decDigits 0) = 1 := by rw [Lib.decDigits_one (by decide)]; rfl
      rw [show lim 0 0 = 0 from rfl] at hc0
      rw [e1] at hc ⊢
      rw [show lenN 0 = 0 from rfl]
      exact trim_zero g c W hc0
    · obtain ⟨ht0, ht1⟩ := len_top (Nat.pos_of_ne_zero h0)
      have e1 : lenN n = grps (Lib.decDigits n) := by unfold lenN; rw [if_neg h0]
      rw [e1] at ht0 ht1 ⊢
      have hx : lim n (grps (Lib.decDigits n) - 1) ≠ 0 := by
        rw [lim_top (by rw [show grps (Lib.decDigits n) - 1 + 1 = grps (Lib.decDigits n) from by omega, ← e1]; exact len_end n)]
        exact ht1
      exact trim_same g _ c _ hg0 hg1 hc hx W (hL _ (by omega))
theorem own_none (v : Value) : v.ownBlock = none ∨ v.ownBlock ≠ none := Decidable.em _
theorem row_type {w : World} {base size n g : Nat} {e : TypeId} {v : Value} {xs : List Value} (h : w.ownsRow base e size v n xs) (hg : v.ownBlock = some g) : ∃ cur, w.heap[g]? = some (.cells cur e (0, 0)) := by
  rcases h.2 with ⟨rfl, _⟩ | ⟨g', cap, cur, rfl, _, hh, _⟩
  · cases hg
  · have : g' = g := by simpa [Value.ownBlock] using hg
    subst this
    exact ⟨cur, hh⟩
theorem row_slice {w : World} {base size n : Nat} {e : TypeId} {v : Value} {xs : List Value} (h : w.ownsRow base e size v n xs) : ∃ A m c, v = .slice A m c := by
  rcases h.2 with ⟨rfl, _⟩ | ⟨g, cap, cur, rfl, _⟩
  · exact ⟨_, _, _, rfl⟩
  · exact ⟨_, _, _, rfl⟩
theorem row_setFar {w : World} {base size n k : Nat} {e : TypeId} {v : Value} {xs : List Value} (h : w.ownsRow base e size v n xs) (hk : k < base) (u : Value) : (w.setCell ⟨k, 0, none⟩ u).ownsRow base e size v n xs :=
  h.kept (grown_set w k 0 u) (by
    cases hv : v.ownBlock with
    | none => exact .inl rfl
    | some q => exact .inr (fun e => by have := (h.lt q hv).1; simp only [Option.some.injEq] at e; omega))
theorem fn_ne {W : World} {k D : Nat} {cs : Array Value} {t : TypeId} {z : Nat × Nat} {l : Option (List Deferred)} (h : W.heap[k]? = some (.cells cs t z)) (hD : W.heap[D]? = some (.deferred l)) : k ≠ D := fun e => by
  subst e
  rw [h] at hD
  cases hD

set_option maxHeartbeats 8000000 in
set_option maxRecDepth 100000 in
theorem nat_of2 (n m : Nat) (hn : n < 18446744073709551616) (hm : m < 18446744073709551616) (B : Nat) (w : World) (hA0 : w.cell? ⟨B, 0, none⟩ = some (.string (bs (Lib.decDigits n)))) (hA1 : w.cell? ⟨B, 1, none⟩ = some (.string (bs (Lib.decDigits m)))) :
    Calls Tryz.prog 133 #[.slice (some ⟨B, 0, none⟩) 2 2] w fun e w' => Below w.heap.size w w' ∧ ∃ A c v0 v1, e = .returned (.tuple #[.slice (some ⟨A, 0, none⟩) 2 c, .int .i64 0]) ∧ A < w'.heap.size ∧ w'.cell? ⟨A, 0, none⟩ = some v0 ∧ w'.cell? ⟨A, 1, none⟩ = some v1 ∧
      OfAt w' (fun q => w.heap.size ≤ q ∧ q < w'.heap.size) n v0 ∧ OfAt w' (fun q => w.heap.size ≤ q ∧ q < w'.heap.size) m v1 := by
  obtain ⟨i0, hi, hz0, hz1, hz2⟩ := info_parts infoU32
  obtain ⟨i1, hj, hy0, hy1, hy2⟩ := info_parts infoLimbs
  have HI := Lib.hid hi
  have HZ0 := Lib.hid hz0
  have HZ1 := Lib.hid hz1
  have HZ2 := Lib.hid hz2
  have HJ := Lib.hid hj
  have HY0 := Lib.hid hy0
  have HY1 := Lib.hid hy1
  have HY2 := Lib.hid hy2
  clear hi hz0 hz1 hz2 hj hy0 hy1 hy2
  have HR := Lib.hid (fun (x : Nat) (hx : x < 18446744073709551616) W => (show Calls _ _ _ _ _ from nat_Right (bs (Lib.decDigits x)) (by rw [bs_size]; have := dec_len20 hx; omega) W))
  have hBlt := World.block_lt_of_cell? w ⟨B, 0, none⟩ hA0
  have HNn := Lib.hid hn
  have HNm := Lib.hid hm
  have HRm := Lib.hid (HR.out m hm)
  have HRn := Lib.hid (HR.out n hn)
  rw [dec_natOk hn] at HRn
  rw [dec_natOk hm] at HRm
  clear hn hm HR
  refine calls_of_marks Tryz.func133 rfl ?_
  simp only [Tryz.ntmps133, List.size_toArray, List.length_cons, List.length_nil, Nat.reduceAdd, Nat.reduceSub, Array.replicate_succ, Array.replicate_zero, List.push_toArray, List.append_toArray, List.nil_append, List.cons_append]
  go_wp2_with fail
  refine wp_loop_rounds 3 ?_
  rw [rounds_succ]
  go_wp2_with fail
  refine (HRn.out w).mono ?_
  rintro e w1 ⟨rfl, hb1⟩
  go_wp2_with fail
  refine (nat_groups _ _).mono ?_
  rintro e w3a ⟨rfl, hw3a⟩
  have hz3a : w3a.heap.size = w1.heap.size + 2 := by rw [← hw3a]; simp
  have hX3a : Blk w3a w1.heap.size #[.slice none 0 0] 208 := by rw [← hw3a]; exact (Blk.new _ _ _).alloc _
  have hC3a : Blk w3a (w1.heap.size + 1) #[.string (bs (Lib.decDigits n))] 9 := by
    have := Blk.new (w1.alloc (.cells #[.slice none 0 0] 208)) #[.string (bs (Lib.decDigits n))] 9
    rw [World.size_alloc] at this
    rw [← hw3a]
    exact this
  have hB3a : Below w1.heap.size w1 w3a := by rw [← hw3a]; exact ((Below.refl _ w1).alloc (Nat.le_refl _) _).alloc (by simp) _
  clear hw3a
  rw [World.size_alloc]
  go_wp2_with fail
  refine wp_rangeFuncW (gf := 181) (lb := #[.pointer (some ⟨w1.heap.size + 1, 0, none⟩)]) rfl (enters_of Tryz.func181 (by kernel_rfl) rfl)
    (groups_seq w1.heap.size (w1.heap.size + 1) (Lib.decDigits n) (by have := dec_len20 HNn.out; omega)) ?hMv ?hA0 ?hKt ?hKb ?hps (OfI w1.heap.size n w1) OfX ?hI ?hIx ?hIM ?hIxM ?h0 ?hCt
    (OfA (Lib.decDigits n)) ?hAx ?assign ?body ?hS ?hSp ?done ?stop
  case hMv =>
    intro A B' k o hM hk ho _
    exact (hM.block k (Array.getElem?_eq_some_iff.1 ho).1 (fun e => by cases e; omega)).trans ho
  case hA0 =>
    intro o o'
    exact (hC3a.alloc o).alloc o'
  case hKt =>
    intro A B' C h1 h2
    exact kpN_trans h1 h2
  case hKb =>
    intro W l o o' hl ho hc
    exact kpN_put W l o o' (by omega : w1.heap.size ≤ w3a.heap.size) (by omega) hl ho
  case hps => intro x; rfl
  case hI => exact ofI_own _ _ _ (by omega) (Nat.le_refl _)
  case hIx =>
    intro c' s' X Y row hs _ _
    exact hs
  case hIM =>
    rintro s' X Y ⟨⟨v, h1, h2⟩, h3, h4⟩ hg
    exact ⟨⟨v, h1.kept hg (fun e => by simp only [Option.some.injEq] at e; omega), h2.kept hg (by
      cases hv : v.ownBlock with
      | none => exact .inl rfl
      | some q => exact .inr (fun e => by have := (h2.lt q hv).1; simp only [Option.some.injEq] at e; omega))⟩, h3.grown hg h3.size (fun k e => by cases e; omega), Nat.le_trans h4 hg.size⟩
  case hIxM =>
    rintro c' s' X Y hs _
    exact hs
  case h0 => exact ⟨⟨_, hX3a, World.ownsRow_nil _ _ _ _⟩, hB3a, by omega⟩
  case hCt => intros; trivial
  case hAx =>
    intro pre x a' _ X Y row hs _ _
    exact hs
  case hS =>
    intro s' X Y row hs _ _
    exact hs
  case hSp =>
    intro s' X Y row hs _ _
    exact hs
  case assign =>
    rintro l pre x W K hI hT hK
    have HK := Lib.hid hK
    have HI2 := Lib.hid hI
    rw [List.length_append, List.length_singleton, List.range_succ] at hT
    obtain ⟨hT1, hT2⟩ := hT
    obtain ⟨hT1, hT3⟩ := List.append_inj' hT1 rfl
    have hT3 : x = pre.length := by injection hT3
    have HT2 := Lib.hid (show pre.length < grps (Lib.decDigits n) by omega)
    have HT3 := Lib.hid hT3
    clear hK hI hT1 hT2 hT3
    simp only [gEnc]
    gi_wp2
    exact HK.out _ _ (KeepsFrom.refl _ _) ⟨Below.refl _ _, fun _ => rfl⟩ HI2.out ⟨⟨HT3.out, HT2.out⟩, rfl⟩
  case body =>
    rintro l pre x a' W hl _ ⟨⟨v, h1, h2⟩, h3, h4⟩ ⟨⟨hx, hlt⟩, rfl⟩
    obtain ⟨f1, f2, f3⟩ := dec_facts n
    have hpne : grp (Lib.decDigits n) x ≠ [] := grp_ne (by unfold grps at hlt; omega)
    have hpar := parse_32 hpne (grp_dig f2 x) (grp_len _ x)
    rw [grp_val f2, f1] at hpar
    have hl20 := dec_len20 HNn.out
    have hr9 := lim_lt n x
    have hcap : pre.length ≤ 100 := by unfold grps at hlt; omega
    have HP := Lib.hid (fun W => Tryz.strconv_ParseUint_10_at32_ok (bs (grp (Lib.decDigits n) x)) (by rw [bs_size]; have := grp_len (Lib.decDigits n) x; omega) _ hpar W)
    have HLV := Lib.hid (show limVals n pre.length ++ [.int .u32 (lim n x)] = limVals n (pre.length + 1) by rw [hx]; exact limVals_succ _ _)
    obtain ⟨r, hr⟩ : ∃ r, lim n x = r := ⟨_, rfl⟩
    rw [hr] at HP HLV hr9
    obtain ⟨gs, hgs⟩ : ∃ gs, bs (grp (Lib.decDigits n) x) = gs := ⟨_, rfl⟩
    rw [hgs] at HP ⊢
    have y1 : IntKind.u32.wrap (r : Int) = r := by rw [IntKind.wrap_u32]; omega
    obtain ⟨j, hj⟩ : ∃ j, pre.length = j := ⟨_, rfl⟩
    rw [hj] at h2 hcap HLV
    have HJ2 := Lib.hid hj
    clear hr9 hr hgs hpar hpne hx hlt hl20 f1 f2 f3 hj
    simp only [List.setIfInBounds_toArray, List.set_cons_zero, List.set_cons_succ]
    gi_wp2_with fail
    refine (callsIn_wide.2 (HP.out _)).mono ?_
    rintro e w2 ⟨rfl, hw2⟩
    have hb2 : Below W.heap.size W w2 := by
      rcases hw2 with rfl | rfl
      · exact Below.refl _ _
      · exact Lib.bytesWorld_below _ _ _
    have hz2 := hb2.size
    have h12 := h1.below hb2 h1.lt
    have h22 := row_keptC h2 (below_grown hb2 none) (fun r e => nomatch e)
    have z1 := h12.cell 0
    have q1 := h12.frozen 0
    clear hw2 HP h2
    gi_wp2_with (gi_at_builtin; refine wpListIn_append_own _ rfl _ _ 208 rfl (w1.heap.size + 2) 226 i0 (.int .u32 0) 1 4 Tryz.underlying208 HI.out HZ0.out HZ1.out HZ2.out rfl (by decide) _ _ _ rfl (h22.alloc _) ⟨w2.heap.size, 0, none⟩ 1 1 [.int .u32 r] rfl rfl (cell_one_new _ _ _) (by simp [Value.oneCell']) (by unfold maxLen; omega) (by omega) (by simp; omega) ?_; intro v' w4 hown4 hgrow4 _; obtain ⟨A4, n4, c4, rfl⟩ := row_slice hown4; have hX4 : Blk w4 w1.heap.size #[v] 208 := (h12.alloc (.cells #[.int .u32 r] 226)).kept hgrow4 (fun e => by have := (h22.lt w1.heap.size e.symm).1; omega); have z4 := hX4.cell 0; have q4 := hX4.frozen 0)
    have hz4 := hgrow4.size
    have hz4' : w2.heap.size + 1 ≤ w4.heap.size := by simpa using hz4
    have hXN := hX4.set 0 (.slice A4 n4 c4)
    have hcellsB : ∀ q, v.ownBlock = some q → ∃ o : Obj, (w2.alloc (.cells #[.int .u32 r] 226)).heap[q]? = some o ∧ o.isCells = true := fun q hq => row_cells (h22.alloc _) hq
    have hmv : Below w1.heap.size W (w4.setCell ⟨w1.heap.size, 0, none⟩ (.slice A4 n4 c4)) := by
      refine Below.setCell (p := ⟨w1.heap.size, 0, none⟩) ?_ (Nat.le_refl _) _
      exact ((hb2.mono (show w1.heap.size ≤ W.heap.size by omega)).alloc (show w1.heap.size ≤ w2.heap.size by omega) _).grown hgrow4 (by simp; omega) (fun q e => by have := (h22.lt q (by first | exact e.symm | exact e)).1; omega)
    have hkr : KeepsFrom w3a.heap.size W (w4.setCell ⟨w1.heap.size, 0, none⟩ (.slice A4 n4 c4)) := by
      refine ((KeepsFrom.of_grownBy (below_grown hb2 none) (fun j e => nomatch e)).trans ((KeepsOthers.alloc w2 (.cells #[.int .u32 r] 226)).from _)).trans ?_
      refine KeepsFrom.trans ?_ ((KeepsOthers.setCell w4 _ _).from _)
      exact ⟨hgrow4.size, fun q o hq hk ho => (hgrow4.block q (Array.getElem?_eq_some_iff.1 hk).1 (fun e => by
        obtain ⟨o', ho', hc'⟩ := hcellsB q e.symm
        rw [hk] at ho'
        cases ho'
        rw [ho] at hc'
        cases hc')).trans hk⟩
    refine ⟨hkr, ⟨hmv, ?_⟩, ⟨⟨_, hXN, ?_⟩, (h3.trans hmv), by have := hmv.size; omega⟩⟩
    · intro hb
      refine (Below.heap_setCell w4 ⟨w1.heap.size, 0, none⟩ (.slice A4 n4 c4) _ (by show w1.heap.size + 1 ≠ w1.heap.size; omega)).trans ?_
      refine (hgrow4.block _ (by simp; omega) (fun e => by have := (h22.lt _ e.symm).1; omega)).trans ?_
      exact (Below.heap_alloc w2 _ _ (by omega)).trans (hb2.block _ hb)
    · rw [List.length_append, List.length_singleton, HJ2.out, ← HLV.out]
      exact row_setFar hown4 (by omega) _
  case stop =>
    rintro D c' pre W hD _ hx hK
    exact hx.elim
  case done =>
    rintro D xs W hD rfl ⟨⟨va, h1a, h2a⟩, hB4a, hz4a⟩ hKa
    rw [List.length_range] at h2a
    obtain ⟨ga, ca, cura, rfl, hga, hha, hLa, hTa⟩ := trim_of HNn.out h2a
    clear h2a hX3a hC3a hB3a
    have z1 := h1a.cell 0
    have HTa := Lib.hid hTa
    clear hTa
    go_wp2_with fail
    refine HTa.out.mono ?_
    rintro e w5 ⟨rfl, rfl⟩
    have hz1 := hb1.size
    go_wp2_with (at_builtin; refine wpList_append_own _ rfl _ _ 203 rfl w.heap.size 208 i1 (.slice none 0 0) 1 24 Tryz.underlying203 HJ.out HY0.out HY1.out HY2.out rfl (by decide) _ _ _ rfl (World.ownsRow_nil _ _ _ _) ⟨w5.heap.size, 0, none⟩ 1 1 [.slice (some ⟨ga, 0, none⟩) (lenN n) (lenN n)] rfl rfl (cell_one_new _ _ _) (by simp [Value.oneCell']) (by unfold maxLen; omega) (by omega) (by simp; omega) ?_; intro v0 w6 hown6 hgrow6 _)
    have hz6 := hgrow6.size
    have hz6' : w5.heap.size + 1 ≤ w6.heap.size := by simpa using hz6
    have hB56 : Below w5.heap.size w5 w6 := ((Below.refl _ w5).alloc (Nat.le_refl _) _).grown hgrow6 (by simp) (fun k e => by cases e)
    have hB6 : Below w.heap.size w w6 := hb1.trans ((hB4a.mono hz1).trans (hB56.mono (by omega)))
    have hgalt := (Array.getElem?_eq_some_iff.1 hha).1
    have hof6 : OfAt w6 (fun q => w.heap.size ≤ q ∧ q < w6.heap.size) n (.slice (some ⟨ga, 0, none⟩) (lenN n) (lenN n)) := ⟨ga, _, cura, rfl, ⟨by omega, by omega⟩, (hB56.block _ hgalt).trans hha, hLa.below hB56 hgalt⟩
    have hK6 : w6.heap[D]? = some (.deferred (some [])) := (hB56.block _ (Array.getElem?_eq_some_iff.1 hKa).1).trans hKa
    have hA6 : w6.cell? ⟨B, 1, none⟩ = some (.string (bs (Lib.decDigits m))) := (hB6.cell (p := ⟨B, 1, none⟩) hBlt).trans hA1
    have hDlt := (Array.getElem?_eq_some_iff.1 hK6).1
    clear hgrow6 hz6 hLa hKa hha h1a z1 hB4a hz4a HTa
    rw [rounds_succ]
    go_wp2_with fail
    refine (HRm.out w6).mono ?_
    rintro e w7 ⟨rfl, hb7⟩
    have hB7 := hB6.trans (hb7.mono hB6.size)
    have hz7 := hb7.size
    clear hA6
    go_wp2_with fail
    refine (nat_groups _ _).mono ?_
    rintro e w3b ⟨rfl, hw3b⟩
    have hz3b : w3b.heap.size = w7.heap.size + 2 := by rw [← hw3b]; simp
    have hX3b : Blk w3b w7.heap.size #[.slice none 0 0] 208 := by rw [← hw3b]; exact (Blk.new _ _ _).alloc _
    have hC3b : Blk w3b (w7.heap.size + 1) #[.string (bs (Lib.decDigits m))] 9 := by
      have := Blk.new (w7.alloc (.cells #[.slice none 0 0] 208)) #[.string (bs (Lib.decDigits m))] 9
      rw [World.size_alloc] at this
      rw [← hw3b]
      exact this
    have hB3b : Below w7.heap.size w7 w3b := by rw [← hw3b]; exact ((Below.refl _ w7).alloc (Nat.le_refl _) _).alloc (by simp) _
    clear hw3b
    rw [World.size_alloc]
    go_wp2_with fail
    refine wp_rangeFuncW (gf := 181) (lb := #[.pointer (some ⟨w7.heap.size + 1, 0, none⟩)]) rfl (enters_of Tryz.func181 (by kernel_rfl) rfl)
      (groups_seq w7.heap.size (w7.heap.size + 1) (Lib.decDigits m) (by have := dec_len20 HNm.out; omega)) ?hMv ?hA0 ?hKt ?hKb ?hps (OfI w7.heap.size m w7) OfX ?hI ?hIx ?hIM ?hIxM ?h0 ?hCt
      (OfA (Lib.decDigits m)) ?hAx ?assign ?body ?hS ?hSp ?done ?stop
    case hMv =>
      intro A B' k o hM hk ho _
      exact (hM.block k (Array.getElem?_eq_some_iff.1 ho).1 (fun e => by cases e; omega)).trans ho
    case hA0 =>
      intro o o'
      exact (hC3b.alloc o).alloc o'
    case hKt =>
      intro A B' C h1 h2
      exact kpN_trans h1 h2
    case hKb =>
      intro W l o o' hl ho hc
      exact kpN_put W l o o' (by omega : w7.heap.size ≤ w3b.heap.size) (by omega) hl ho
    case hps => intro x; rfl
    case hI => exact ofI_own _ _ _ (by omega) (Nat.le_refl _)
    case hIx =>
      intro c' s' X Y row hs _ _
      exact hs
    case hIM =>
      rintro s' X Y ⟨⟨v, h1, h2⟩, h3, h4⟩ hg
      exact ⟨⟨v, h1.kept hg (fun e => by simp only [Option.some.injEq] at e; omega), h2.kept hg (by
        cases hv : v.ownBlock with
        | none => exact .inl rfl
        | some q => exact .inr (fun e => by have := (h2.lt q hv).1; simp only [Option.some.injEq] at e; omega))⟩, h3.grown hg h3.size (fun k e => by cases e; omega), Nat.le_trans h4 hg.size⟩
    case hIxM =>
      rintro c' s' X Y hs _
      exact hs
    case h0 => exact ⟨⟨_, hX3b, World.ownsRow_nil _ _ _ _⟩, hB3b, by omega⟩
    case hCt => intros; trivial
    case hAx =>
      intro pre x a' _ X Y row hs _ _
      exact hs
    case hS =>
      intro s' X Y row hs _ _
      exact hs
    case hSp =>
      intro s' X Y row hs _ _
      exact hs
    case assign =>
      rintro l pre x W K hI hT hK
      have HK := Lib.hid hK
      have HI2 := Lib.hid hI
      rw [List.length_append, List.length_singleton, List.range_succ] at hT
      obtain ⟨hT1, hT2⟩ := hT
      obtain ⟨hT1, hT3⟩ := List.append_inj' hT1 rfl
      have hT3 : x = pre.length := by injection hT3
      have HT2 := Lib.hid (show pre.length < grps (Lib.decDigits m) by omega)
      have HT3 := Lib.hid hT3
      clear hK hI hT1 hT2 hT3
      simp only [gEnc]
      gi_wp2
      exact HK.out _ _ (KeepsFrom.refl _ _) ⟨Below.refl _ _, fun _ => rfl⟩ HI2.out ⟨⟨HT3.out, HT2.out⟩, rfl⟩
    case body =>
      rintro l pre x a' W hl _ ⟨⟨v, h1, h2⟩, h3, h4⟩ ⟨⟨hx, hlt⟩, rfl⟩
      obtain ⟨f1, f2, f3⟩ := dec_facts m
      have hpne : grp (Lib.decDigits m) x ≠ [] := grp_ne (by unfold grps at hlt; omega)
      have hpar := parse_32 hpne (grp_dig f2 x) (grp_len _ x)
      rw [grp_val f2, f1] at hpar
      have hl20 := dec_len20 HNm.out
      have hr9 := lim_lt m x
      have hcap : pre.length ≤ 100 := by unfold grps at hlt; omega
      have HP := Lib.hid (fun W => Tryz.strconv_ParseUint_10_at32_ok (bs (grp (Lib.decDigits m) x)) (by rw [bs_size]; have := grp_len (Lib.decDigits m) x; omega) _ hpar W)
      have HLV := Lib.hid (show limVals m pre.length ++ [.int .u32 (lim m x)] = limVals m (pre.length + 1) by rw [hx]; exact limVals_succ _ _)
      obtain ⟨r, hr⟩ : ∃ r, lim m x = r := ⟨_, rfl⟩
      rw [hr] at HP HLV hr9
      obtain ⟨gs, hgs⟩ : ∃ gs, bs (grp (Lib.decDigits m) x) = gs := ⟨_, rfl⟩
      rw [hgs] at HP ⊢
      have y1 : IntKind.u32.wrap (r : Int) = r := by rw [IntKind.wrap_u32]; omega
      obtain ⟨j, hj⟩ : ∃ j, pre.length = j := ⟨_, rfl⟩
      rw [hj] at h2 hcap HLV
      have HJ2 := Lib.hid hj
      clear hr9 hr hgs hpar hpne hx hlt hl20 f1 f2 f3 hj
      simp only [List.setIfInBounds_toArray, List.set_cons_zero, List.set_cons_succ]
      gi_wp2_with fail
      refine (callsIn_wide.2 (HP.out _)).mono ?_
      rintro e w2 ⟨rfl, hw2⟩
      have hb2 : Below W.heap.size W w2 := by
        rcases hw2 with rfl | rfl
        · exact Below.refl _ _
        · exact Lib.bytesWorld_below _ _ _
      have hz2 := hb2.size
      have h12 := h1.below hb2 h1.lt
      have h22 := row_keptC h2 (below_grown hb2 none) (fun r e => nomatch e)
      have z1 := h12.cell 0
      have q1 := h12.frozen 0
      clear hw2 HP h2
      gi_wp2_with (gi_at_builtin; refine wpListIn_append_own _ rfl _ _ 208 rfl (w7.heap.size + 2) 226 i0 (.int .u32 0) 1 4 Tryz.underlying208 HI.out HZ0.out HZ1.out HZ2.out rfl (by decide) _ _ _ rfl (h22.alloc _) ⟨w2.heap.size, 0, none⟩ 1 1 [.int .u32 r] rfl rfl (cell_one_new _ _ _) (by simp [Value.oneCell']) (by unfold maxLen; omega) (by omega) (by simp; omega) ?_; intro v' w4 hown4 hgrow4 _; obtain ⟨A4, n4, c4, rfl⟩ := row_slice hown4; have hX4 : Blk w4 w7.heap.size #[v] 208 := (h12.alloc (.cells #[.int .u32 r] 226)).kept hgrow4 (fun e => by have := (h22.lt w7.heap.size e.symm).1; omega); have z4 := hX4.cell 0; have q4 := hX4.frozen 0)
      have hz4 := hgrow4.size
      have hz4' : w2.heap.size + 1 ≤ w4.heap.size := by simpa using hz4
      have hXN := hX4.set 0 (.slice A4 n4 c4)
      have hcellsB : ∀ q, v.ownBlock = some q → ∃ o : Obj, (w2.alloc (.cells #[.int .u32 r] 226)).heap[q]? = some o ∧ o.isCells = true := fun q hq => row_cells (h22.alloc _) hq
      have hmv : Below w7.heap.size W (w4.setCell ⟨w7.heap.size, 0, none⟩ (.slice A4 n4 c4)) := by
        refine Below.setCell (p := ⟨w7.heap.size, 0, none⟩) ?_ (Nat.le_refl _) _
        exact ((hb2.mono (show w7.heap.size ≤ W.heap.size by omega)).alloc (show w7.heap.size ≤ w2.heap.size by omega) _).grown hgrow4 (by simp; omega) (fun q e => by have := (h22.lt q (by first | exact e.symm | exact e)).1; omega)
      have hkr : KeepsFrom w3b.heap.size W (w4.setCell ⟨w7.heap.size, 0, none⟩ (.slice A4 n4 c4)) := by
        refine ((KeepsFrom.of_grownBy (below_grown hb2 none) (fun j e => nomatch e)).trans ((KeepsOthers.alloc w2 (.cells #[.int .u32 r] 226)).from _)).trans ?_
        refine KeepsFrom.trans ?_ ((KeepsOthers.setCell w4 _ _).from _)
        exact ⟨hgrow4.size, fun q o hq hk ho => (hgrow4.block q (Array.getElem?_eq_some_iff.1 hk).1 (fun e => by
          obtain ⟨o', ho', hc'⟩ := hcellsB q e.symm
          rw [hk] at ho'
          cases ho'
          rw [ho] at hc'
          cases hc')).trans hk⟩
      refine ⟨hkr, ⟨hmv, ?_⟩, ⟨⟨_, hXN, ?_⟩, (h3.trans hmv), by have := hmv.size; omega⟩⟩
      · intro hb
        refine (Below.heap_setCell w4 ⟨w7.heap.size, 0, none⟩ (.slice A4 n4 c4) _ (by show w7.heap.size + 1 ≠ w7.heap.size; omega)).trans ?_
        refine (hgrow4.block _ (by simp; omega) (fun e => by have := (h22.lt _ e.symm).1; omega)).trans ?_
        exact (Below.heap_alloc w2 _ _ (by omega)).trans (hb2.block _ hb)
      · rw [List.length_append, List.length_singleton, HJ2.out, ← HLV.out]
        exact row_setFar hown4 (by omega) _
    case stop =>
      rintro D c' pre W hD _ hx hK
      exact hx.elim
    case done =>
      rintro D2 xs W2 hD2 rfl ⟨⟨vb, h1b, h2b⟩, hB4b, hz4b⟩ hKb
      rw [List.length_range] at h2b
      obtain ⟨gb, cb, curb, rfl, hgb, hhb, hLb, hTb⟩ := trim_of HNm.out h2b
      clear h2b hX3b hC3b hB3b
      have z2 := h1b.cell 0
      have HTb := Lib.hid hTb
      clear hTb
      have hB10 := hB7.trans (hB4b.mono hB7.size)
      have hown10 := hown6.kept (below_grown hb7 none) (own_none _)
      have hown10 := hown10.kept (below_grown hB4b none) (own_none _)
      have hz10 := hB10.size
      have hof10 := (hof6.keep (W' := w7) (S' := fun q => w.heap.size ≤ q ∧ q < w7.heap.size) (fun q cur hq _ => ⟨hb7.block q hq.2, hq.1, Nat.lt_of_lt_of_le hq.2 hb7.size⟩))
      have hof10 := (hof10.keep (W' := W2) (S' := fun q => w.heap.size ≤ q ∧ q < W2.heap.size) (fun q cur hq _ => ⟨hB4b.block q hq.2, hq.1, Nat.lt_of_lt_of_le hq.2 hB4b.size⟩))
      have hK10 : W2.heap[D]? = some (.deferred (some [])) := (hB4b.block D (by have := (Array.getElem?_eq_some_iff.1 hK6).1; omega)).trans ((hb7.block D (Array.getElem?_eq_some_iff.1 hK6).1).trans hK6)
      have HOF := Lib.hid hof10
      have HK10 := Lib.hid hK10
      clear hK6 hK10 hof6 hof10 hown6
      go_wp2_with fail
      refine HTb.out.mono ?_
      rintro e w10 ⟨rfl, rfl⟩
      go_wp2_with (at_builtin; refine wpList_append_own _ rfl _ _ 203 rfl w.heap.size 208 i1 (.slice none 0 0) 1 24 Tryz.underlying203 HJ.out HY0.out HY1.out HY2.out rfl (by decide) _ _ _ rfl (hown10.alloc _) ⟨w10.heap.size, 0, none⟩ 1 1 [.slice (some ⟨gb, 0, none⟩) (lenN m) (lenN m)] rfl rfl (cell_one_new _ _ _) (by simp [Value.oneCell']) (by unfold maxLen; omega) (by omega) (by simp; omega) ?_; intro v1 w11 hown11 hgrow11 _)
      have hgrow11 : (w10.alloc (.cells #[.slice (some ⟨gb, 0, none⟩) (lenN m) (lenN m)] 208)).grownBy w11 v0.ownBlock := hgrow11
      have hz11 := hgrow11.size
      have hz11' : w10.heap.size + 1 ≤ w11.heap.size := by simpa using hz11
      have hB11 : Below w.heap.size w w11 := (hB10.alloc hz10 _).grown hgrow11 (by simp; omega) (fun q e => by have := (hown10.lt q (by first | exact e.symm | exact e)).1; omega)
      have hkeep : ∀ q o, w10.heap[q]? = some o → some q ≠ v0.ownBlock → w11.heap[q]? = some o := fun q o hq hne => (hgrow11.block q (by have := (Array.getElem?_eq_some_iff.1 hq).1; simp; omega) hne).trans ((Below.heap_alloc w10 _ _ (Array.getElem?_eq_some_iff.1 hq).1).trans hq)
      have hneU : ∀ q cur, w10.heap[q]? = some (.cells cur 226 (0, 0)) → some q ≠ v0.ownBlock := fun q cur hq e => by
        obtain ⟨c', hc'⟩ := row_type hown10 e.symm
        rw [hq] at hc'
        injection hc' with hc'
        injection hc' with _ hc'
        exact absurd hc' (by decide)
      have hneD : ∀ q l, w10.heap[q]? = some (.deferred l) → some q ≠ v0.ownBlock := fun q l hq e => by
        obtain ⟨c', hc'⟩ := row_type hown10 e.symm
        rw [hq] at hc'
        cases hc'
      have hK11 := hkeep D _ HK10.out (hneD D _ HK10.out)
      have hK12 := hkeep D2 _ hKb (hneD D2 _ hKb)
      have hof11 := HOF.out.keep (W' := w11) (S' := fun q => w.heap.size ≤ q ∧ q < w11.heap.size) (fun q cur hq hc => ⟨(hkeep q _ hc (hneU q _ hc)).trans hc.symm, hq.1, by have := hq.2; omega⟩)
      have hgblt := (Array.getElem?_eq_some_iff.1 hhb).1
      have hg11 := hkeep gb _ hhb (hneU gb _ hhb)
      have hom11 : OfAt w11 (fun q => w.heap.size ≤ q ∧ q < w11.heap.size) m (.slice (some ⟨gb, 0, none⟩) (lenN m) (lenN m)) := ⟨gb, _, curb, rfl, ⟨by omega, by omega⟩, hg11, fun i hi => (World.cell?_of_block (a := ⟨gb, i, none⟩) (hg11.trans hhb.symm)).trans (hLb i hi)⟩
      rcases hown11.2 with ⟨_, h0⟩ | ⟨A, cap, cur, rfl, hAb, hAh, hAn, hAc, hAs, hAt⟩
      · exact absurd h0 (by decide)
      have hD2 : D2 ≠ D := by omega
      have HOM := Lib.hid (show OfAt ((w11.putObj D2 (.deferred none)).putObj D (.deferred none)) (fun q => w.heap.size ≤ q ∧ q < ((w11.putObj D2 (.deferred none)).putObj D (.deferred none)).heap.size) m _ from hom11.keep (fun q cur hq hc => ⟨(World.putObj_heap_other (fn_ne hc hK11)).trans (World.putObj_heap_other (fn_ne hc hK12)), hq.1, by simpa [World.putObj] using hq.2⟩))
      have HON := Lib.hid (show OfAt ((w11.putObj D2 (.deferred none)).putObj D (.deferred none)) (fun q => w.heap.size ≤ q ∧ q < ((w11.putObj D2 (.deferred none)).putObj D (.deferred none)).heap.size) n _ from hof11.keep (fun q cur hq hc => ⟨(World.putObj_heap_other (fn_ne hc hK11)).trans (World.putObj_heap_other (fn_ne hc hK12)), hq.1, by simpa [World.putObj] using hq.2⟩))
      have hAl := (Array.getElem?_eq_some_iff.1 hAh).1
      have hAN : Blk ((w11.putObj D2 (.deferred none)).putObj D (.deferred none)) A cur 208 := (World.putObj_heap_other (fn_ne hAh hK11)).trans ((World.putObj_heap_other (fn_ne hAh hK12)).trans hAh)
      have hAz : cur.size = cap := by simpa using hAs
      have ha0 : cur[0]? = some (.slice (some ⟨ga, 0, none⟩) (lenN n) (lenN n)) := by
        have h1 : (cur.toList.take ((0 + 1 + 1) * 1))[0]? = _ := congrArg (fun l => l[0]?) hAt
        rw [List.getElem?_take_of_lt (by decide)] at h1
        simpa using h1
      have ha1 : cur[1]? = some (.slice (some ⟨gb, 0, none⟩) (lenN m) (lenN m)) := by
        have h1 : (cur.toList.take ((0 + 1 + 1) * 1))[1]? = _ := congrArg (fun l => l[1]?) hAt
        rw [List.getElem?_take_of_lt (by decide)] at h1
        simpa using h1
      have HAN := Lib.hid hAN
      have HA0 := Lib.hid ha0
      have HA1 := Lib.hid ha1
      have HK11 := Lib.hid hK11
      have HK12 := Lib.hid hK12
      clear hgrow11 hown11 hkeep hneU hneD hK11 hK12 hof11 hom11 hAt hAh hAN ha0 ha1 hown10 hg11 hhb hLb h1b hKb z2 HTb HOF HK10
      rw [rounds_succ]
      go_wp2_with fail
      refine leave2 (v := .tuple #[.slice (some ⟨A, 0, none⟩) 2 cap, .int .i64 0]) hD2 HK12.out HK11.out (by simp [results, Tryz.results133, go_sem]) rfl ⟨below_shut (below_shut hB11 (by omega) (by omega) _) (by omega) (by simp [World.putObj]; omega) _, A, cap, _, _, rfl, by simpa [World.putObj] using hAl, (HAN.out.cell 0).trans HA0.out, (HAN.out.cell 1).trans HA1.out, HON.out, HOM.out⟩
end Go.Proofs.YtflkmhgbinlfiaaGreatDoor
