/- The texts JrE, JsC, put together. -/
import Derived.Test.YtfckekaegjjmkaaGreatDoorPg21
import Derived.Test.YtfckekaegjjmkaaGreatDoorPg16
namespace Go.Proofs.YtfckekaegjjmkaaGreatDoor
open Go.RowKit Go.Shelf
attribute [local go_sem] Oper.semAt_some

theorem colon_take (t : Tr) (l : List UInt8) : colonJ t l = if (takeJ [58] (spJ l)).1 = true then .good t (spJ (takeJ [58] (spJ l)).2) else .bad 80 := by
  unfold colonJ takeJ
  cases h : spJ l with
  | nil => rfl
  | cons c r =>
    by_cases hc : c = 58
    · subst hc
      simp
    · simp [hc]
theorem spJ_len (l : List UInt8) : (spJ l).length ≤ l.length := by
  unfold spJ
  exact (List.dropWhile_suffix _).length_le
theorem textJ_bad {l : List UInt8} {e : Int} (h : textJ uqJ l = .bad e) : e = 80 := by
  unfold textJ at h
  split at h
  · cases h
  · injection h with h
    exact h.symm
theorem textJ_good {l r : List UInt8} {t : Tr} (h : textJ uqJ l = .good t r) : ∃ s, t = .nd { zeroO with kind := 5, s := s } [] := by
  unfold textJ at h
  split at h
  · injection h with h _
    exact ⟨_, h.symm⟩
  · cases h
set_option maxHeartbeats 4000000 in
set_option maxRecDepth 100000 in
theorem jr_member {w0 : World} {uT uQ : Addr} (hU : UW w0 uT uQ) (p d D : Nat) (s : ByteArray) (w : World) (hb0 : Below w0.heap.size w0 w) (hR : RdJ w p s d) (hs : s.size ≤ 1000000000) :
    Calls Tryz.prog 214 #[.pointer (some ⟨p, 0, none⟩)] w (ReadJ p d D w s (memberJ uqJ s.data.toList)) := by
  have hk1 := Blk.new w zeroC 27
  have hr1 := hR.alloc (.cells zeroC 27)
  have hb1 : Below w.heap.size w (w.alloc (.cells zeroC 27)) := (Below.refl _ w).alloc (Nat.le_refl _) _
  have hplt := hR.lt
  have hz1 : (w.alloc (.cells zeroC 27)).heap.size = w.heap.size + 1 := by simp
  have HT := jr_text hU p d D s (w.alloc (.cells zeroC 27)) (hb0.trans (hb1.mono hb0.size)) hr1 hs
  have HS := Lib.hid (fun d s W (h : RdJ W p s d) (hz : s.size ≤ 1000000000) => jr_space p d s W h hz)
  have HK := Lib.hid (fun s W (h : RdJ W p s d) => jr_take p d s ⟨#[58]⟩ W h)
  unfold memberJ bindP
  clear hU hb0
  cases hx : textJ uqJ s.data.toList with
  | bad e =>
    have he := textJ_bad hx
    subst he
    rw [hx] at HT
    simp only []
    have HT : Hid (Calls Tryz.prog 115 #[.pointer (some ⟨p, 0, none⟩)] (w.alloc (.cells zeroC 27)) fun x w' => (w.alloc (.cells zeroC 27)).grownBy w' (some p) ∧ (x = .returned (.tuple #[.agg zeroC, errJ 80]) ∧ ((80 : Int) = 60 ∨ (80 : Int) = 80)) ∧ ∃ s' d', RdJ w' p s' d' ∧ s'.size ≤ s.size) := Lib.hid HT
    clear hx
    go_enter Tryz.func214, Tryz.ntmps214
    go_wp2_with fail
    refine HT.out.mono ?_
    rintro x w3 ⟨hg3, ⟨rfl, _⟩, s', d', hr3, hs3⟩
    have hk3 := (blk_gb hk1 hg3 (by omega)).alloc (.cells zeroC 27)
    have hr4 := hr3.alloc (.cells zeroC 27)
    have hg4 : w.grownBy (w3.alloc (.cells zeroC 27)) (some p) := grown_of (grown_trans (below_grown hb1 _) hg3) ((Below.refl _ _).alloc (Nat.le_refl _) _)
    go_wp2_with fail
    refine (HS.out d' s' _ hr4 (by omega)).mono ?_
    rintro x w5 ⟨⟨v5, rfl⟩, hg5, hr5⟩
    have hk5 := blk_gb hk3 hg5 (by omega)
    have hg6 := grown_trans hg4 hg5
    unfold errJ
    go_wp2_with fail
    refine (jr_bad _).mono ?_
    rintro e w6 ⟨rfl, rfl⟩
    go_wp2_with (refine wpList_store_row rfl 27 (.tmp 2) (.tmp 20) rfl (w.heap.size) zeroC rfl rfl 27 _ hk5 (by kernel_rfl) rfl (by simp [Value.oneCell']) ?_)
    refine bodyPost_ret (results_cell (T := 27) rfl rfl rfl (blk_row hk5 zeroC) Tryz.underlying27 rfl (by kernel_rfl)) rfl ?_
    have hl := spJ_len s'.data.toList
    have hsl : s'.data.toList.length = s'.size := by simp
    exact ⟨grown_at hg6 (grown_row _ _ _) (by omega), ⟨rfl, .inr rfl⟩, _, d', blk_row_other hr5 (by omega) _, by rw [bsD_size]; omega⟩
  | good t r =>
    obtain ⟨sx, rfl⟩ := textJ_good hx
    rw [hx] at HT
    simp only []
    have HT : Hid (Calls Tryz.prog 115 #[.pointer (some ⟨p, 0, none⟩)] (w.alloc (.cells zeroC 27)) fun x w' => (w.alloc (.cells zeroC 27)).grownBy w' (some p) ∧ (∃ A n c, x = .returned (.tuple #[.agg #[.int .i64 5, .bool false, .bool false, .string ⟨#[]⟩, .int .i64 0, .int .u64 0, .int .i64 0, .string sx, .slice A n c], .nilIface]) ∧ LAt w' (fun q => (w.alloc (.cells zeroC 27)).heap.size ≤ q ∧ q < w'.heap.size) D [] (.slice A n c)) ∧ OwnOk { zeroO with kind := 5, s := sx } ∧ RdJ w' p (bsD r) d ∧ r.length ≤ s.size) := Lib.hid HT
    rw [colon_take]
    have hl1 := spJ_len r
    have hl2 := takeJ_len [58] (spJ r)
    have HK2 := Lib.hid (fun W (h : RdJ W p (bsD (spJ r)) d) => HK.out (bsD (spJ r)) W h)
    obtain ⟨⟨b, r2⟩, hx2⟩ : ∃ x, takeJ [58] (spJ r) = x := ⟨_, rfl⟩
    have HK2 : Hid (∀ W, RdJ W p (bsD (spJ r)) d → Calls Tryz.prog 182 #[.pointer (some ⟨p, 0, none⟩), .string ⟨#[58]⟩] W fun e w' => e = .returned (.bool b) ∧ W.grownBy w' (some p) ∧ RdJ w' p (bsD r2) d) := Lib.hid (fun W h => by
      have := HK2.out W h
      rw [bsD_list, show (⟨#[58]⟩ : ByteArray).data.toList = [58] from rfl, hx2] at this
      exact this)
    rw [hx2] at hl2 ⊢
    simp only [] at hl2 ⊢
    clear hx hx2 HK
    cases b with
    | false =>
      simp only [Bool.false_eq_true, if_false]
      go_enter Tryz.func214, Tryz.ntmps214
      go_wp2_with fail
      refine HT.out.mono ?_
      rintro x w3 ⟨hg3, ⟨A, n, c, rfl, hly⟩, hot, hr3, hs3⟩
      have hk3 := (blk_gb hk1 hg3 (by omega)).alloc (.cells #[.int .i64 5, .bool false, .bool false, .string ⟨#[]⟩, .int .i64 0, .int .u64 0, .int .i64 0, .string sx, .slice A n c] 27)
      have hr4 := hr3.alloc (.cells #[.int .i64 5, .bool false, .bool false, .string ⟨#[]⟩, .int .i64 0, .int .u64 0, .int .i64 0, .string sx, .slice A n c] 27)
      have hx4 := Blk.new w3 #[.int .i64 5, .bool false, .bool false, .string ⟨#[]⟩, .int .i64 0, .int .u64 0, .int .i64 0, .string sx, .slice A n c] 27
      have hg4 : w.grownBy (w3.alloc (.cells #[.int .i64 5, .bool false, .bool false, .string ⟨#[]⟩, .int .i64 0, .int .u64 0, .int .i64 0, .string sx, .slice A n c] 27)) (some p) := grown_of (grown_trans (below_grown hb1 _) hg3) ((Below.refl _ _).alloc (Nat.le_refl _) _)
      have HLY := Lib.hid hly
      clear hly
      go_wp2_with fail
      refine (HS.out d (bsD r) _ hr4 (by rw [bsD_size]; omega)).mono ?_
      rintro x w5 ⟨⟨v5, rfl⟩, hg5, hr5⟩
      rw [bsD_list] at hr5
      have hk5 := blk_gb hk3 hg5 (by omega)
      have hx5 := blk_gb hx4 hg5 (by have := hr3.lt; omega)
      have hg6 := grown_trans hg4 hg5
      have hz5 := hg5.size
      go_wp2_with fail
      refine (HK2.out _ hr5).mono ?_
      rintro x w7 ⟨rfl, hgx, hr7⟩
      have hk7 := blk_gb hk5 hgx (by omega)
      have hx7 := blk_gb hx5 hgx (by have := hr3.lt; omega)
      have hg7 := grown_trans hg6 hgx
      go_wp2_with fail
      refine (jr_bad _).mono ?_
      rintro e w8 ⟨rfl, rfl⟩
      go_wp2_with (refine wpList_store_row rfl 27 (.tmp 2) (.tmp 20) rfl (w.heap.size) zeroC rfl rfl 27 _ hk7 (by kernel_rfl) rfl (by simp [Value.oneCell']) ?_)
      refine bodyPost_ret (results_cell (T := 27) rfl rfl rfl (blk_row hk7 zeroC) Tryz.underlying27 rfl (by kernel_rfl)) rfl ?_
      exact ⟨grown_at hg7 (grown_row _ _ _) (by omega), ⟨rfl, .inr rfl⟩, _, d, blk_row_other hr7 (by omega) _, by rw [bsD_size]; omega⟩
    | true =>
      simp only [if_true]
      have hl3 := spJ_len r2
      go_enter Tryz.func214, Tryz.ntmps214
      go_wp2_with fail
      refine HT.out.mono ?_
      rintro x w3 ⟨hg3, ⟨A, n, c, rfl, hly⟩, hot, hr3, hs3⟩
      have hk3 := (blk_gb hk1 hg3 (by omega)).alloc (.cells #[.int .i64 5, .bool false, .bool false, .string ⟨#[]⟩, .int .i64 0, .int .u64 0, .int .i64 0, .string sx, .slice A n c] 27)
      have hr4 := hr3.alloc (.cells #[.int .i64 5, .bool false, .bool false, .string ⟨#[]⟩, .int .i64 0, .int .u64 0, .int .i64 0, .string sx, .slice A n c] 27)
      have hx4 := Blk.new w3 #[.int .i64 5, .bool false, .bool false, .string ⟨#[]⟩, .int .i64 0, .int .u64 0, .int .i64 0, .string sx, .slice A n c] 27
      have hg4 : w.grownBy (w3.alloc (.cells #[.int .i64 5, .bool false, .bool false, .string ⟨#[]⟩, .int .i64 0, .int .u64 0, .int .i64 0, .string sx, .slice A n c] 27)) (some p) := grown_of (grown_trans (below_grown hb1 _) hg3) ((Below.refl _ _).alloc (Nat.le_refl _) _)
      have HLY := Lib.hid hly
      clear hly
      go_wp2_with fail
      refine (HS.out d (bsD r) _ hr4 (by rw [bsD_size]; omega)).mono ?_
      rintro x w5 ⟨⟨v5, rfl⟩, hg5, hr5⟩
      rw [bsD_list] at hr5
      have hk5 := blk_gb hk3 hg5 (by omega)
      have hx5 := blk_gb hx4 hg5 (by have := hr3.lt; omega)
      have hg6 := grown_trans hg4 hg5
      have hz5 := hg5.size
      go_wp2_with fail
      refine (HK2.out _ hr5).mono ?_
      rintro x w7 ⟨rfl, hgx, hr7⟩
      have hk7 := blk_gb hk5 hgx (by omega)
      have hx7 := blk_gb hx5 hgx (by have := hr3.lt; omega)
      have hg7 := grown_trans hg6 hgx
      go_wp2_with fail
      refine (HS.out d (bsD r2) _ hr7 (by rw [bsD_size]; omega)).mono ?_
      rintro x w8 ⟨⟨v8, rfl⟩, hg8, hr8⟩
      have hk8 := blk_gb hk7 hg8 (by omega)
      have hx8 := blk_gb hx7 hg8 (by have := hr3.lt; omega)
      have hgA := grown_trans hg7 hg8
      have hz8 := hg8.size
      go_wp2_with (first | (refine wpList_load_row rfl 27 (.tmp 4) rfl (w3.heap.size) rfl 27 _ (0, 0) _ hx8 Tryz.underlying27 rfl (by kernel_rfl) ?_) | (refine wpList_store_row rfl 27 (.tmp 2) (.tmp 24) rfl (w.heap.size) #[.int .i64 5, .bool false, .bool false, .string ⟨#[]⟩, .int .i64 0, .int .u64 0, .int .i64 0, .string sx, .slice A n c] rfl rfl 27 _ hk8 (by kernel_rfl) rfl (by simp [Value.oneCell']) ?_))
      refine bodyPost_ret (results_cell (T := 27) rfl rfl rfl (blk_row hk8 _) Tryz.underlying27 rfl (by kernel_rfl)) rfl ?_
      refine ⟨grown_at hgA (grown_row _ _ _) (by omega), ⟨A, n, c, rfl, ?_⟩, hot, blk_row_other hr8 (by omega) _, by omega⟩
      obtain ⟨hn0, hn1⟩ := HLY.out.slice
      obtain ⟨A', c', hn1⟩ := hn1
      injection hn1 with _ hn1 _
      subst hn1
      exact LAt.nil _ _ _ _ _
end Go.Proofs.YtfckekaegjjmkaaGreatDoor
namespace Go.Proofs.YtfckekaegjjmkaaGreatDoor
open Go.RowKit Go.Shelf

theorem minus_own (l : List UInt8) : ∃ s0, l = s0 ++ (minusP l).2 ∧ ∀ c x, c ≠ 45 → minusP (s0 ++ c :: x) = ((minusP l).1, c :: x) := by
  unfold minusP
  split
  · exact ⟨[45], rfl, fun c x _ => rfl⟩
  · refine ⟨[], rfl, fun c x hc => ?_⟩
    rw [List.nil_append]
    split
    · rename_i r e
      injection e with e _
      exact absurd e hc
    · rfl
theorem take_dig (l : List UInt8) : ∀ c ∈ l.take (digN l), isDig c = true := takeWhile_all l
theorem whole_own (l : List UInt8) : l = (wholeP l).1 ++ (wholeP l).2 ∧ (∀ c ∈ (wholeP l).1, isDig c = true) ∧ ∀ x, (wholeP l).1 ≠ [] → digN x = 0 → wholeP ((wholeP l).1 ++ x) = ((wholeP l).1, x) := by
  have key : ∀ l : List UInt8, (∀ r, l ≠ 48 :: r) → wholeP l = digits l := fun l h => by
    unfold wholeP
    split
    · rename_i r
      exact absurd rfl (h r)
    · rfl
  by_cases h : ∃ r, l = 48 :: r
  · obtain ⟨r, rfl⟩ := h
    refine ⟨rfl, fun c hc => ?_, fun x _ _ => rfl⟩
    rw [List.mem_singleton.1 hc]
    rfl
  · rw [key l (fun r e => h ⟨r, e⟩)]
    refine ⟨(List.take_append_drop _ _).symm, take_dig l, fun x hx h0 => ?_⟩
    show wholeP (l.take (digN l) ++ x) = (l.take (digN l), x)
    rw [key]
    · exact digits_all _ _ (take_dig l) h0
    · intro r e
      cases hq : l.take (digN l) with
      | nil => exact hx hq
      | cons c q =>
        rw [hq] at e
        injection e with e _
        subst e
        have h2 : l = 48 :: (q ++ l.drop (digN l)) := by
          conv => lhs; rw [← List.take_append_drop (digN l) l, hq]
          rfl
        exact h ⟨_, h2⟩
theorem part_own (l : List UInt8) : ∃ q, l = q ++ (partP l).2 ∧ (∀ x, digN x = 0 → (∀ r, x ≠ 46 :: r) → partP (q ++ x) = ((partP l).1, x)) ∧ (q = [] ∨ ∃ q', q = 46 :: q') := by
  unfold partP
  split
  · rename_i r
    split
    · refine ⟨[], rfl, fun x h0 h => ?_, .inl rfl⟩
      exact part_none h
    · rename_i hn
      refine ⟨46 :: (digits r).1, ?_, fun x h0 h => ?_, .inr ⟨_, rfl⟩⟩
      · exact congrArg (46 :: ·) (List.take_append_drop _ _).symm
      · have h1 := digits_all (digits r).1 x (take_dig r) h0
        show (if (digits ((digits r).1 ++ x)).1 = [] then _ else digits ((digits r).1 ++ x)) = _
        rw [h1, if_neg hn]
  · refine ⟨[], rfl, fun x h0 h => ?_, .inl rfl⟩
    exact part_none h
theorem sign_own (l : List UInt8) : ∃ s0, l = s0 ++ (signP l).2 ∧ ∀ c x, isDig c = true → signP (s0 ++ c :: x) = ((signP l).1, c :: x) := by
  unfold signP
  split
  · exact ⟨[45], rfl, fun c x _ => rfl⟩
  · exact ⟨[43], rfl, fun c x _ => rfl⟩
  · refine ⟨[], rfl, fun c x hc => ?_⟩
    rw [List.nil_append]
    split
    · rename_i r e
      injection e with e _
      rw [e] at hc
      exact absurd hc (by decide)
    · rename_i r e
      injection e with e _
      rw [e] at hc
      exact absurd hc (by decide)
    · rfl
theorem power_own {l r : List UInt8} {e : Int} (h : powerP l = some (e, r)) : ∃ q, l = q ++ r ∧ (∀ m, Stops m → powerP (q ++ m) = some (e, m)) ∧ (q = [] ∨ ∃ c q', q = c :: q' ∧ (c = 101 ∨ c = 69)) := by
  have none : ∀ {e r}, some ((0 : Int), l) = some (e, r) → ∃ q, l = q ++ r ∧ (∀ m, Stops m → powerP (q ++ m) = some (e, m)) ∧ (q = [] ∨ ∃ c q', q = c :: q' ∧ (c = 101 ∨ c = 69)) := fun {e r} h => by
    injection h with h
    injection h with h1 h2
    subst h1 h2
    exact ⟨[], rfl, fun m hm => power_none (fun c r e => ⟨(hm c r e).2.2.1, (hm c r e).2.2.2⟩), .inl rfl⟩
  unfold powerP at h
  split at h
  · rename_i c t
    split at h
    · rename_i hc
      split at h
      · exact none h
      · rename_i hd
        split at h
        · rename_i h4
          injection h with h
          injection h with h1 h2
          obtain ⟨s0, hs, hs2⟩ := sign_own t
          have hds := List.take_append_drop (digN (signP t).2) (signP t).2
          obtain ⟨ds, hdsE⟩ : ∃ ds, (digits (signP t).2).1 = ds := ⟨_, rfl⟩
          have hdig : ∀ c ∈ ds, isDig c = true := by rw [← hdsE]; exact take_dig _
          have hsp : (signP t).2 = ds ++ r := by rw [← hdsE, ← h2]; exact hds.symm
          rw [hdsE] at h1 hd h4
          obtain ⟨d0, dr, rfl⟩ : ∃ d0 dr, ds = d0 :: dr := by
            cases ds with
            | nil => exact absurd rfl hd
            | cons a b => exact ⟨a, b, rfl⟩
          refine ⟨c :: (s0 ++ (d0 :: dr)), ?_, fun m hm => ?_, .inr ⟨c, _, rfl, hc⟩⟩
          · rw [List.cons_append, List.append_assoc, ← hsp, ← hs]
          · have h5 := hs2 d0 (dr ++ m) (hdig d0 (by simp))
            have h6 := digits_all (d0 :: dr) m hdig hm.digN
            rw [List.cons_append] at h6
            rw [List.cons_append, List.append_assoc, List.cons_append]
            unfold powerP
            simp only []
            rw [if_pos hc, h5]
            simp only []
            rw [h6, if_neg hd, if_pos h4, h1]
        · cases h
    · exact none h
  · exact none h
/-- A number is its own. -/
theorem parse_own {l r : List UInt8} {d : Bool × ByteArray × Int} (h : parseD l = some (d, r)) : ∃ own, own ≠ [] ∧ l = own ++ r ∧ ∀ m, Stops m → parseD (own ++ m) = some (d, m) := by
  unfold parseD at h
  obtain ⟨s0, a1, a2⟩ := minus_own l
  obtain ⟨b1, b2, b3⟩ := whole_own (minusP l).2
  obtain ⟨q, c1, c2, c3⟩ := part_own (wholeP (minusP l).2).2
  split at h
  · cases h
  rename_i hw
  split at h
  · cases h
  · rename_i e r' hp
    split at h
    · cases h
    · rename_i dd hmk
      injection h with h
      injection h with h1 h2
      subst h1 h2
      obtain ⟨q2, d1, d2, d3⟩ := power_own hp
      obtain ⟨w, hwE⟩ : ∃ w, (wholeP (minusP l).2).1 = w := ⟨_, rfl⟩
      rw [hwE] at b1 b2 b3 hw hmk
      refine ⟨s0 ++ (w ++ (q ++ q2)), fun e0 => hw (List.append_eq_nil_iff.1 (List.append_eq_nil_iff.1 e0).2).1, ?_, fun m hm => ?_⟩
      · rw [List.append_assoc, List.append_assoc, List.append_assoc, ← d1, ← c1, ← b1, ← a1]
      · have hx2 : digN (q2 ++ m) = 0 ∧ ∀ r, q2 ++ m ≠ 46 :: r := by
          rcases d3 with rfl | ⟨c, q', rfl, hc⟩
          · exact ⟨hm.digN, fun r e => (hm _ _ e).2.1 rfl⟩
          · refine ⟨digN_cons_no ?_, fun r e => ?_⟩
            · rcases hc with rfl | rfl <;> decide
            · injection e with e _
              rcases hc with rfl | rfl <;> revert e <;> decide
        have hx1 : digN (q ++ (q2 ++ m)) = 0 := by
          rcases c3 with rfl | ⟨q', rfl⟩
          · exact hx2.1
          · exact digN_cons_no (by decide)
        obtain ⟨w0, wr, hw0⟩ : ∃ w0 wr, w = w0 :: wr := by
          cases w with
          | nil => exact absurd rfl hw
          | cons a b => exact ⟨a, b, rfl⟩
        have e1 : minusP (s0 ++ (w ++ (q ++ q2)) ++ m) = ((minusP l).1, w ++ (q ++ (q2 ++ m))) := by
          have h5 := a2 w0 (wr ++ (q ++ (q2 ++ m))) (fun e => by
            have h6 := b2 w0 (by rw [hw0]; simp)
            rw [e] at h6
            exact absurd h6 (by decide))
          rw [hw0, List.append_assoc, List.append_assoc, List.append_assoc]
          exact h5
        exact parse_of e1 (b3 _ hw hx1) (c2 _ hx2.1 hx2.2) (d2 m hm) hw hmk
end Go.Proofs.YtfckekaegjjmkaaGreatDoor
