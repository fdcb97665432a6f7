/- The texts BuildF, NatC, put together. -/
import Derived.Test.YtflkmhgbinlfiaaGreatDoorPq36
import Derived.Test.YtflkmhgbinlfiaaGreatDoorPq05
namespace Go.Proofs.YtflkmhgbinlfiaaGreatDoor
open Go.RowKit Go.Shelf

/-- A builder abides what turns another block. -/
theorem isB_grown {B b : Nat} {bs : List Value} {W W' : World} (h : IsB B b bs W) {row : Option Nat} (hg : W.grownBy W' row) (hr : ∀ r, row = some r → r < B ∨ ∃ o : Obj, W.heap[r]? = some o ∧ o.isCells = false) : IsB B b bs W' := by
  have key : ∀ p, Lib.BuilderAtF 104 5 B b p bs W → Lib.BuilderAtF 104 5 B b p bs W' := by
    rintro p ⟨hB, v, hb, hown, hne⟩
    refine ⟨hB, v, (hg.block b (Array.getElem?_eq_some_iff.1 hb).1 ?_).trans hb, hown.kept hg ?_, hne⟩
    · intro e
      rcases hr b e.symm with h1 | ⟨o, ho, hc⟩
      · omega
      · rw [hb] at ho
        cases ho
        cases hc
    · by_cases hv : v.ownBlock = none
      · exact .inl hv
      · right
        intro e
        obtain ⟨g, hvg⟩ : ∃ g, v.ownBlock = some g := by
          cases hq : v.ownBlock with
          | none => exact absurd hq hv
          | some g => exact ⟨g, rfl⟩
        rcases hr g (by rw [← e, hvg]) with h1 | ⟨o, ho, hc⟩
        · have := (hown.lt g hvg).1
          omega
        · rcases hown.2 with ⟨rfl, _⟩ | ⟨g', cap, cur, fz, rfl, _, hgc, _⟩
          · simp [Value.ownBlock] at hvg
          · simp [Value.ownBlock] at hvg
            subst hvg
            rw [hgc] at ho
            cases ho
            cases hc
  rcases h with h | h
  · exact .inl (key _ h)
  · exact .inr (key _ h)
/-- A block that is neither the builder nor a row of bytes. -/
theorem others_blk {b : Nat} {W W' : World} (h : Lib.OthersKept 5 (some b) W W') {k : Nat} {cs : Array Value} {t : TypeId} (hk : Blk W k cs t) (hkb : k ≠ b) (ht : t ≠ 5) : Blk W' k cs t :=
  h k _ hk (fun e => hkb (by cases e; rfl)) (fun c fz e => by cases e; exact ht rfl)
theorem others_from {b B : Nat} {W W' : World} (h : Lib.OthersKept 5 (some b) W W') (hz : W.heap.size ≤ W'.heap.size) {B' : Nat} {bs : List Value} (hI : IsB B' b bs W) : KeepsFrom B W W' := by
  obtain ⟨c, t, z, hb⟩ : ∃ c t z, W.heap[b]? = some (.cells c t z) := by
    rcases hI with ⟨_, v, hb, _⟩ | ⟨_, v, hb, _⟩
    · exact ⟨_, _, _, hb⟩
    · exact ⟨_, _, _, hb⟩
  refine ⟨hz, fun k o _ hk ho => h k o hk (fun e => ?_) (fun c fz e => ?_)⟩
  · cases e
    rw [hb] at hk
    cases hk
    cases ho
  · subst e
    cases ho
end Go.Proofs.YtflkmhgbinlfiaaGreatDoor
namespace Go.Proofs.YtflkmhgbinlfiaaGreatDoor
open Go.RowKit Go.Shelf
attribute [local go_sem] Oper.semAt_some wide_fn wide_depth

/-- strconv.FormatUint at base 10. -/
theorem fmtU_out (u : Nat) (hu64 : u < 18446744073709551616) (w : World) (htab : Lib.TabIs Tryz.prog w "internal/strconv.uint64pow10" .u64 Lib.pow10Tab) :
    Calls Tryz.prog 136 #[.int .u64 u, .int .i64 10] w fun e w' => e = .returned (.string (bs (Lib.decDigits u))) ∧ Below w.heap.size w w' := by
  go_enter Tryz.func136, Tryz.ntmps136
  go_wp2_with fail
  refine (fmtU_in u hu64 _ htab).mono ?_
  rintro e w' ⟨rfl, k, os, rfl⟩
  go_wp2_with fail
  go_ret
  exact ⟨rfl, (show Below w.heap.size w (w.drewN k) from ⟨rfl, rfl, rfl, Nat.le_refl _, fun _ _ => rfl⟩).trans (below_behind (w.drewN k) os)⟩
/-- What is written behind so many limbs. -/
def txtN (N k j : Nat) : List UInt8 := if j = 0 then [] else Lib.decDigits (N / 10 ^ (9 * (k - j)))
theorem txt_first {N k : Nat} (hk : 0 < k) (h0 : N / 10 ^ (9 * k) = 0) : txtN N k 1 = Lib.decDigits (lim N (k - 1)) := by
  unfold txtN
  rw [if_neg (by decide), lim_top (by rw [show k - 1 + 1 = k from by omega]; exact h0)]
theorem txt_step {N k j : Nat} (hj : 0 < j) (hjk : j < k) (ht : N / 10 ^ (9 * (k - 1)) ≠ 0) : txtN N k (j + 1) = txtN N k j ++ padL (lim N (k - (j + 1))) := by
  unfold txtN
  rw [if_neg (by omega), if_neg (by omega), text_step (i := k - (j + 1)), show k - (j + 1) + 1 = k - j from by omega]
  intro e
  apply ht
  rw [show k - (j + 1) + 1 = k - j from by omega] at e
  have h1 : N < 10 ^ (9 * (k - j)) := (Nat.div_eq_zero_iff_lt (Nat.pow_pos (by decide))).1 e
  have h2 : 10 ^ (9 * (k - j)) ≤ 10 ^ (9 * (k - 1)) := Nat.pow_le_pow_right (by decide) (by omega)
  exact Nat.div_eq_of_lt (by omega)
theorem rep_zeros : ∀ n : Nat, Lib.repeatL [48] n = List.replicate n 48
  | 0 => rfl
  | n + 1 => by
    rw [List.replicate_succ, ← rep_zeros n]
    rfl
theorem rep_size (n : Nat) : (⟨(Lib.repeatL [48] n).toArray⟩ : ByteArray).size = n := by
  rw [rep_zeros]
  simp [ByteArray.size]
theorem dec_len9 {r : Nat} (hr : r < 1000000000) : (Lib.decDigits r).length ≤ 9 := by
  obtain ⟨c1, c2, c3⟩ := dec_facts r
  rcases Nat.eq_zero_or_pos r with e | e
  · subst e
    rw [Lib.decDigits_one (by decide)]
    decide
  · have h1 := dval_head c3 c2 (dec_head0 r r (Nat.le_refl _) e)
    rw [c1] at h1
    apply Decidable.byContradiction
    intro hc
    have h2 : 10 ^ 9 ≤ 10 ^ ((Lib.decDigits r).length - 1) := Nat.pow_le_pow_right (by decide) (by omega)
    have h3 : (10 : Nat) ^ 9 = 1000000000 := by decide
    omega
theorem txt_len {N k : Nat} (ht : N / 10 ^ (9 * (k - 1)) ≠ 0) : ∀ {j : Nat}, j ≤ k → (h0 : N / 10 ^ (9 * k) = 0) → (txtN N k j).length ≤ 9 * j
  | 0, _, _ => by simp [txtN]
  | 1, hj, h0 => by
    rw [txt_first (by omega) h0]
    exact dec_len9 (lim_lt _ _)
  | j + 2, hj, h0 => by
    rw [txt_step (by omega) (by omega) ht]
    have := txt_len ht (j := j + 1) (by omega) h0
    have h9 := dec_len9 (lim_lt N (k - (j + 1 + 1)))
    unfold padL
    simp only [List.length_append, List.length_replicate]
    omega

def TxtI (n N k c g : Nat) (w : World) (pre : List Nat) (W : World) : Prop :=
  (IsB (n + 1) (n + 1) (Lib.byteCells (txtN N k pre.length)) W ∧ Blk W n #[.slice (some ⟨g, 0, none⟩) k c] 208 ∧ Blk W (n + 2) #[.slice (some ⟨g, 0, none⟩) k c] 208) ∧ Below n w W
def TxtX (_ : Code) (_ : List Nat) (_ : World) : Prop := False
def TxtA (N k : Nat) (T : Array Value) (pre : List Nat) (x : Nat) (a' : Act) (_ : World) : Prop :=
  (pre = List.range pre.length ∧ x = pre.length ∧ pre.length < k) ∧ a' = { tmps := (((T.setIfInBounds 12 (.int .i64 ((k - 1 - x : Nat) : Int))).setIfInBounds 13 (.int .u32 (lim N (k - 1 - x)))).setIfInBounds 4 (.int .i64 ((k - 1 - x : Nat) : Int))).setIfInBounds 5 (.int .u32 (lim N (k - 1 - x))), defers := [] }
theorem txtI_own (n N k c g : Nat) (w : World) {m : Nat} (hm : n ≤ m) (hm2 : n ≤ w.heap.size) : OwnFrom m (TxtI n N k c g w) := by
  refine fun s X Y row hs hg hr => ⟨⟨?_, ?_, ?_⟩, ?_⟩
  · exact isB_grown hs.1.1 hg (fun r e => .inr (hr r e).2)
  · exact blk_own _ _ (fun _ : Unit => _) () X Y row hs.1.2.1 hg (fun r e => (hr r e).2)
  · exact blk_own _ _ (fun _ : Unit => _) () X Y row hs.1.2.2 hg (fun r e => (hr r e).2)
  · exact ownFrom_below (β := Unit) hm2 hm () X Y row hs.2 hg hr

set_option maxHeartbeats 4000000 in
set_option maxRecDepth 100000 in
theorem nat_text (g k c N : Nat) (hk0 : 0 < k) (hk1 : k ≤ 1000) (w : World) (hg : g < w.heap.size) (hL : LimbsAt w g N k) (h0 : N / 10 ^ (9 * k) = 0) (ht : N / 10 ^ (9 * (k - 1)) ≠ 0) (htab : Lib.TabIs Tryz.prog w "internal/strconv.uint64pow10" .u64 Lib.pow10Tab) :
    Calls Tryz.prog 161 #[.slice (some ⟨g, 0, none⟩) k c] w fun e w' => e = .returned (.string (bs (Lib.decDigits N))) ∧ Below w.heap.size w w' := by
  have HTB := Lib.hid (Lib.tabBelow_of_tabIs htab)
  have hb0 : Below w.heap.size w (w.alloc (.cells #[.slice (some ⟨g, 0, none⟩) k c] 208)) := (Below.refl _ w).alloc (Nat.le_refl _) _
  have hk0' := Blk.new w #[.slice (some ⟨g, 0, none⟩) k c] 208
  have hb1 := hb0.alloc hb0.size (.cells #[.pointer none, .slice none 0 0] 104)
  have hk1' := hk0'.alloc (.cells #[.pointer none, .slice none 0 0] 104)
  have z0 := hk0'.cell 0
  have z1 := hk1'.cell 0
  have y0 : ((k : Int) == 0) = false := by rw [beq_eq_false_iff_ne]; omega
  have HL := Lib.hid hL
  have HT := Lib.hid ht
  have H0 := Lib.hid h0
  have HK0 := Lib.hid hk0
  clear htab hL ht h0
  refine calls_of_marks Tryz.func161 rfl ?_
  simp only [Tryz.ntmps161, List.size_toArray, List.length_cons, List.length_nil, Nat.reduceAdd, Nat.reduceSub, Array.replicate_succ, Array.replicate_zero, List.push_toArray, List.append_toArray, List.nil_append, List.cons_append]
  go_wp2_with fail
  refine (backward _ _ _ _).mono ?_
  rintro e w3 ⟨rfl, hw3⟩
  have hz3 : w3.heap.size = w.heap.size + 3 := by rw [← hw3]; simp
  have hn3 : Blk w3 w.heap.size #[.slice (some ⟨g, 0, none⟩) k c] 208 := by rw [← hw3]; exact hk1'.alloc _
  have hI3 : IsB (w.heap.size + 1) (w.heap.size + 1) [] w3 := by
    refine .inl ⟨by omega, .slice none 0 0, ?_, World.ownsRowF_nil _ _ _ _, by simp [Value.ownBlock]⟩
    have := (Blk.new (w.alloc (.cells #[.slice (some ⟨g, 0, none⟩) k c] 208)) #[.pointer none, .slice none 0 0] 104).alloc (.cells #[.slice (some ⟨g, 0, none⟩) k c] 208)
    rw [World.size_alloc] at this
    rw [← hw3]
    exact this
  have hC3 : Blk w3 (w.heap.size + 2) #[.slice (some ⟨g, 0, none⟩) k c] 208 := by
    have := Blk.new ((w.alloc (.cells #[.slice (some ⟨g, 0, none⟩) k c] 208)).alloc (.cells #[.pointer none, .slice none 0 0] 104)) #[.slice (some ⟨g, 0, none⟩) k c] 208
    rw [World.size_alloc, World.size_alloc] at this
    rw [← hw3]
    exact this
  have hB3 : Below w.heap.size w w3 := by rw [← hw3]; exact hb1.alloc hb1.size _
  clear hb0 hb1 hk0' hk1' z0 z1 hw3
  rw [World.size_alloc, World.size_alloc]
  go_wp2_with fail
  refine wp_rangeFuncW (gf := 194) (lb := #[.pointer (some ⟨w.heap.size + 1 + 1, 0, none⟩)]) rfl (enters_of Tryz.func194 (by kernel_rfl) rfl)
    (backward_seq (w.heap.size + 1) (w.heap.size + 2) g k c N (by omega) (by omega)) ?hMv ?hA0 ?hKt ?hKb ?hps (TxtI w.heap.size N k c g w) TxtX ?hI ?hIx ?hIM ?hIxM ?h0 ?hCt
    (TxtA N k) ?hAx ?assign ?body ?hS ?hSp ?done ?stop
  case hMv =>
    rintro A B k o rfl hk ho _
    exact ho
  case hA0 =>
    intro o o'
    exact ⟨(hC3.alloc o).alloc o', (HL.out.below hB3 hg).below (((Below.refl w3.heap.size w3).alloc (Nat.le_refl _) o).alloc (by simp) o') (by omega)⟩
  case hKt =>
    intro A B C h1 h2
    exact kpN_trans h1 h2
  case hKb =>
    intro W l o o' hl ho hc
    exact kpN_put W l o o' (by omega : w.heap.size + 1 ≤ w3.heap.size) (by omega) hl ho
  case hps => intro x; rfl
  case hI => exact txtI_own _ _ _ _ _ _ (by omega) (Nat.le_refl _)
  case hIx =>
    intro c' s' X Y row hs _ _
    exact hs
  case hIM =>
    rintro s' X Y hs rfl
    exact hs
  case hIxM =>
    rintro c' s' X Y hs rfl
    exact hs
  case h0 => exact ⟨⟨hI3, hn3, hC3⟩, hB3⟩
  case hCt => intros; trivial
  case hAx =>
    intro pre x a' _ X Y row hs _ _
    exact hs
  case hS =>
    intro s' X Y row hs _ _
    exact hs
  case hSp =>
    intro s' X Y row hs _ _
    exact hs
  case assign =>
    rintro l pre x W K hI hT hK
    have HK := Lib.hid hK
    have HI := Lib.hid hI
    rw [List.length_append, List.length_singleton, List.range_succ] at hT
    obtain ⟨hT1, hT2⟩ := hT
    obtain ⟨hT1, hT3⟩ := List.append_inj' hT1 rfl
    have hT3 : x = pre.length := by injection hT3
    have HT1 := Lib.hid hT1
    have HT2 := Lib.hid (show pre.length < k by omega)
    have HT3 := Lib.hid hT3
    clear hK hI hT1 hT2 hT3
    simp only [bEnc]
    gi_wp2
    exact HK.out _ _ (KeepsFrom.refl _ _) ⟨Below.refl _ _, fun _ => rfl⟩ HI.out ⟨⟨HT1.out, HT3.out, HT2.out⟩, rfl⟩
  case body =>
    rintro l pre x a' W hl _ ⟨⟨h1, h2, h3⟩, h4⟩ ⟨⟨hp, hx, hlt⟩, rfl⟩
    have hz := h4.size
    have z0 := h2.cell 0
    obtain ⟨j, hj⟩ : ∃ j, pre.length = j := ⟨_, rfl⟩
    rw [hj] at hx h1 hlt
    subst hx
    obtain ⟨i, hi⟩ : ∃ i, k - 1 - x = i := ⟨_, rfl⟩
    rw [hi]
    obtain ⟨r, hr⟩ : ∃ r, lim N i = r := ⟨_, rfl⟩
    have hr9 := lim_lt N i
    rw [hr] at hr9 ⊢
    have hd9 := dec_len9 hr9
    have htl := txt_len HT.out (j := x) (by omega) H0.out
    have HF := Lib.hid (fmtU_out r (by omega) W (HTB.out W h4))
    have HR := Lib.hid hr
    have y1 : IntKind.u64.wrap (r : Int) = r := by rw [IntKind.wrap_u64]; omega
    have y2 : (r : Int) < 1000000000 := by omega
    clear hr hp
    simp only [List.setIfInBounds_toArray, List.set_cons_zero, List.set_cons_succ]
    obtain ⟨ds, hds⟩ : ∃ ds, bs (Lib.decDigits r) = ds := ⟨_, rfl⟩
    have hdsz : ds.size = (Lib.decDigits r).length := by rw [← hds]; rfl
    rw [hds] at HF
    have HDS := Lib.hid hds
    have y3 : ds.size ≤ 9 := by omega
    obtain ⟨cz, hcz⟩ : ∃ cz, 9 - ds.size = cz := ⟨_, rfl⟩
    have y5 : (9 : Int) - (ds.size : Int) = (cz : Int) := by omega
    have y6 : cz ≤ 9 := by omega
    have hZ := Lib.hid (fun (W : World) => Tryz.strings_Repeat ⟨#[48]⟩ cz W (by omega) (by show 1 * cz ≤ 140737488355328; omega))
    have HCZ := Lib.hid hcz
    have HDZ := Lib.hid hdsz
    clear hds hdsz hd9 hr9 hcz
    gi_wp2_with fail
    refine (callsIn_wide.2 HF.out).mono ?_
    rintro e w4 ⟨rfl, hb4⟩
    have hz4 := hb4.size
    have hI4 := isB_grown h1 (below_grown hb4 none) (fun r e => nomatch e)
    have h24 := h2.below hb4 h2.lt
    have h34 := h3.below hb4 h3.lt
    have hB4 := h4.trans (hb4.mono (by omega))
    have z4 := h24.cell 0
    have h2lt := h2.lt
    have h3lt := h3.lt
    clear h1 HF z0
    obtain ⟨tx, htx⟩ : ∃ tx, txtN N k x = tx := ⟨_, rfl⟩
    rw [htx] at hI4 htl
    have HTX := Lib.hid htx
    have HI := Lib.hid hi
    have hcase : (x = 0 ∧ (k : Int) - 1 = i) ∨ (x ≠ 0 ∧ (i : Int) < (k : Int) - 1) := by omega
    have HTL := Lib.hid htl
    have HLT := Lib.hid hlt
    have HJ := Lib.hid hj
    clear htx hi htl hlt hj
    rcases hcase with ⟨hx0, y4⟩ | ⟨hx0, y4⟩
    · have HX0 := Lib.hid hx0
      have hW := Lib.hid (b_WriteString (w.heap.size + 1) (w.heap.size + 1) _ ds w4 hI4 (by rw [Lib.byteCells_length]; have := HTL.out; have := HLT.out; omega) (by omega))
      clear hx0 hZ
      gi_wp2_with fail
      refine (callsIn_wide.2 hW.out).mono ?_
      rintro e w5 ⟨rfl, hAN, hbN, hkN⟩
      have HFIN := Lib.hid (show Lib.byteCells (txtN N k (x + 1)) = Lib.byteCells tx ++ Lib.strCells ds from by
        have e1 := HX0.out
        have e2 := HI.out
        have e3 := HTX.out
        subst e1
        rw [txt_first HK0.out H0.out, show k - 1 = i from e2, HR.out, ← HDS.out, ← e3]
        rfl)
      gi_wp2_with fail
      have hB6 := hB4.trans (hbN.mono (by omega))
      refine ⟨(KeepsFrom.of_grownBy (below_grown hb4 none) (fun j e => nomatch e)).trans (others_from hkN hbN.size hI4), ⟨?_, ?_⟩, ⟨⟨?_, ?_, ?_⟩, hB6⟩⟩
      · exact (hb4.mono (by omega)).trans hbN
      · intro _
        exact (others_blk hkN h34 (by omega) (by decide)).trans h3.symm
      · rw [List.length_append, List.length_singleton, HJ.out, HFIN.out]
        exact hAN.is
      · exact others_blk hkN h24 (by omega) (by decide)
      · exact others_blk hkN h34 (by omega) (by decide)
    · have HX0 := Lib.hid hx0
      clear hx0
      gi_wp2_with fail
      refine (callsIn_wide.2 (hZ.out _)).mono ?_
      rintro e w5 ⟨rfl, hb5⟩
      have hz5 := hb5.size
      have hI5 := isB_grown hI4 (below_grown hb5 none) (fun r e => nomatch e)
      have h25 := h24.below hb5 h24.lt
      have h35 := h34.below hb5 h34.lt
      have hB5 := hB4.trans (hb5.mono (by omega))
      have hb45 := hb4.trans (hb5.mono hb4.size)
      obtain ⟨zs, hzs⟩ : ∃ zs : ByteArray, ⟨(Lib.repeatL [48] cz).toArray⟩ = zs := ⟨_, rfl⟩
      have hzl := rep_size cz
      rw [hzs] at hzl
      have HZL := Lib.hid hzl
      rw [hzs]
      have HZS := Lib.hid hzs
      have hW := Lib.hid (b_WriteString (w.heap.size + 1) (w.heap.size + 1) _ zs w5 hI5 (by rw [Lib.byteCells_length]; have := HTL.out; have := HLT.out; omega) (by omega))
      clear hzs hzl hZ hI4 z4 hb5 y5
      gi_wp2_with fail
      refine (callsIn_wide.2 hW.out).mono ?_
      rintro e w6 ⟨rfl, hA6, hb6, hk6⟩
      have hz6 := hb6.size
      have h26 := others_blk hk6 h25 (by omega) (by decide)
      have h36 := others_blk hk6 h35 (by omega) (by decide)
      have hW2 := Lib.hid (b_WriteString (w.heap.size + 1) (w.heap.size + 1) _ ds w6 hA6.is (by rw [List.length_append, Lib.byteCells_length, Lib.strCells_length]; have := HTL.out; have := HLT.out; have := HZL.out; omega) (by omega))
      have hAN0 := hA6.is
      clear hW hA6
      gi_wp2_with fail
      refine (callsIn_wide.2 hW2.out).mono ?_
      rintro e w7 ⟨rfl, hAN, hbN, hkN⟩
      have HFIN := Lib.hid (show Lib.byteCells (txtN N k (x + 1)) = Lib.byteCells tx ++ Lib.strCells zs ++ Lib.strCells ds from by
        have e1 := HX0.out
        have e2 := HI.out
        have e3 := HTX.out
        have e4 := HLT.out
        rw [txt_step (by omega) e4 HT.out, e3, show k - (x + 1) = i from by omega, HR.out, ← HDS.out, ← HZS.out, rep_zeros, Lib.byteCells_append, ← HCZ.out, HDZ.out]
        unfold padL
        rw [Lib.byteCells_append, List.append_assoc]
        rfl)
      gi_wp2_with fail
      have hB7 := hB5.trans ((hb6.trans hbN).mono (by omega))
      refine ⟨((KeepsFrom.of_grownBy (below_grown hb45 none) (fun j e => nomatch e)).trans (others_from hk6 hb6.size hI5)).trans (others_from hkN hbN.size hAN0), ⟨?_, ?_⟩, ⟨⟨?_, ?_, ?_⟩, hB7⟩⟩
      · exact (hb45.mono (by omega)).trans (hb6.trans hbN)
      · intro _
        exact (others_blk hkN h36 (by omega) (by decide)).trans h3.symm
      · rw [List.length_append, List.length_singleton, HJ.out, HFIN.out]
        exact hAN.is
      · exact others_blk hkN h26 (by omega) (by decide)
      · exact others_blk hkN h36 (by omega) (by decide)
  case done =>
    rintro D xs W hD rfl ⟨⟨h1, h2, h3⟩, h4⟩ hK
    rw [List.length_range] at h1
    have hq : txtN N k k = Lib.decDigits N := by
      unfold txtN
      rw [if_neg (by omega), Nat.sub_self, Nat.mul_zero, Nat.pow_zero, Nat.div_one]
    rw [hq] at h1
    have HS := Lib.hid (fun (W : World) h2 hz => Tryz.Builder_String_any_k (w.heap.size + 1) (w.heap.size + 1) (Lib.decDigits N) W h2 hz)
    have H1 := Lib.hid h1
    have HK := Lib.hid hK
    have hz4 := h4.size
    have h3lt := h3.lt
    obtain ⟨ans, hans⟩ : ∃ ans, bs (Lib.decDigits N) = ans := ⟨_, rfl⟩
    have HANS := Lib.hid hans
    clear hq h1 hK hans h2 h3 y0 hk0 hk1 hn3 hI3 hC3
    go_wp2_with fail
    refine (HS.out W H1.out (by omega)).mono ?_
    rintro e w4 ⟨rfl, hA4, hb4, hk4⟩
    have hK4 : w4.heap[D]? = some (.deferred (some [])) := hk4 D _ HK.out (fun e => by simp only [Option.some.injEq] at e; omega) (fun c fz e => by cases e)
    have HK4 := Lib.hid hK4
    have hz5 := hb4.size
    have hw4 : Below w.heap.size w w4 := h4.trans (hb4.mono (by omega))
    clear HK HS H1 hb4 hk4 hK4 h4
    go_wp2_with fail
    refine leave1n (v := .string (bs (Lib.decDigits N))) HK4.out (by simp [results, Tryz.results161, go_sem]; rfl) rfl ⟨rfl, below_shut hw4 (by omega) (by omega) _⟩
  case stop =>
    rintro D c' pre W hD _ hx hK
    exact hx.elim
end Go.Proofs.YtflkmhgbinlfiaaGreatDoor
