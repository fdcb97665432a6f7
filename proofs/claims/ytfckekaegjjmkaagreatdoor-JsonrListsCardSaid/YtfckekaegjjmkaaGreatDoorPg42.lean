/- The texts JrO, put together. -/
import Derived.Test.YtfckekaegjjmkaaGreatDoorPg41
namespace Go.Proofs.YtfckekaegjjmkaaGreatDoor
open Go.RowKit Go.Shelf
attribute [local go_sem] Oper.semAt_some

/-- errors.errorType lies where it was laid. -/
abbrev ErrTyJ (w : World) : Prop := w.cell? ⟨2, 0, none⟩ = some (.iface 134 (.agg #[.pointer (some ⟨13, 62, none⟩)]))
/-- What the reader asks of the world. -/
structure JRW (w : World) (uT uQ aT aF : Addr) : Prop where
  u : UW w uT uQ
  g : GW w aT aF
  a : AtW w
  ty : ErrTyJ w
theorem JRW.below {w w' : World} {uT uQ aT aF : Addr} (h : JRW w uT uQ aT aF) (hb : Below w.heap.size w w') : JRW w' uT uQ aT aF where
  u := h.u.below hb
  g := h.g.below hb
  a := h.a.below hb (Nat.le_refl _)
  ty := cell_below hb h.ty
theorem str_isB {l : List UInt8} (h : ¬ l = []) : (bsD l).toList.isEmpty = false := str_isE h

set_option maxHeartbeats 8000000 in
set_option maxRecDepth 100000 in
theorem jr_document {w0 : World} {uT uQ aT aF : Addr} (h : JRW w0 uT uQ aT aF) (F p : Nat) (s : ByteArray) (w : World) (hb0 : Below w0.heap.size w0 w) (hp : w0.heap.size ≤ p) (hr : RdJ w p s 0) (hs : s.size ≤ 100000000) (hF : s.size < F) :
    Calls Tryz.prog 39 #[.pointer (some ⟨p, 0, none⟩)] w (ReadJ p 0 16 w s (docJ uqJ F s.data.toList)) := by
  have hk1 := Blk.new w zeroC 27
  have hr1 := hr.alloc (.cells zeroC 27)
  have hb1 : Below w.heap.size w (w.alloc (.cells zeroC 27)) := (Below.refl _ w).alloc (Nat.le_refl _) _
  have hplt := hr.lt
  have hz1 : (w.alloc (.cells zeroC 27)).heap.size = w.heap.size + 1 := by simp
  have hsl : s.data.toList.length = s.size := by simp
  have hl1 := spJ_len s.data.toList
  have HS := Lib.hid (fun s W (h : RdJ W p s 0) (hz : s.size ≤ 1000000000) => jr_space p 0 s W h hz)
  have hV := jr_value h.u h.a F 16 (Nat.le_refl _)
  have HV := Lib.hid (fun W (hg : w.grownBy W (some p)) (hR : RdJ W p (bsD (spJ s.data.toList)) 0) => hV p (bsD (spJ s.data.toList)) W (below_of_grown hb0 hp hplt hg) hp hR (by rw [bsD_size]; omega) (by rw [bsD_size]; omega))
  have HG := Lib.hid (fun W (hg : w.grownBy W (some p)) => h.g.below (below_of_grown hb0 hp hplt hg))
  clear hV h hb0 hr
  unfold docJ
  cases hx : valueJ uqJ F 16 (spJ s.data.toList) with
  | bad e =>
    have HV : Hid (∀ W, w.grownBy W (some p) → RdJ W p (bsD (spJ s.data.toList)) 0 → Calls Tryz.prog 53 #[.pointer (some ⟨p, 0, none⟩)] W fun x w' => W.grownBy w' (some p) ∧ (x = .returned (.tuple #[.agg zeroC, errJ e]) ∧ (e = 60 ∨ e = 80)) ∧ ∃ s' d', RdJ w' p s' d' ∧ s'.size ≤ (bsD (spJ s.data.toList)).size) := Lib.hid (fun W hg hR => by
      have := HV.out W hg hR
      rw [bsD_list, hx] at this
      exact this)
    simp only []
    clear hx HG
    go_enter Tryz.func39, Tryz.ntmps39
    go_wp2_with fail
    refine (HS.out s _ hr1 (by omega)).mono ?_
    rintro x w2 ⟨⟨v2, rfl⟩, hg2, hr2⟩
    have hk2 := blk_gb hk1 hg2 (by omega)
    have hgA := grown_trans (below_grown hb1 (some p)) hg2
    have HVV := HV.out w2 hgA hr2
    go_wp2_with fail
    refine HVV.mono ?_
    rintro x w3 ⟨hg3, ⟨rfl, he⟩, s', d', hr3, hs3⟩
    have hk3 := (blk_gb hk2 hg3 (by omega)).alloc (.cells zeroC 27)
    have hr4 := hr3.alloc (.cells zeroC 27)
    have hgB := grown_of (grown_trans hgA hg3) ((Below.refl _ _).alloc (Nat.le_refl _) (.cells zeroC 27))
    rw [bsD_size] at hs3
    unfold errJ
    go_wp2_with (refine wpList_store_row rfl 27 (.tmp 2) (.tmp 15) rfl (w.heap.size) zeroC rfl rfl 27 _ hk3 (by kernel_rfl) rfl (by simp [Value.oneCell']) ?_)
    refine bodyPost_ret (results_cell (T := 27) rfl rfl rfl (blk_row hk3 zeroC) Tryz.underlying27 rfl (by kernel_rfl)) rfl ?_
    exact ⟨grown_at hgB (grown_row _ _ _) (by omega), ⟨rfl, he⟩, s', d', blk_row_other hr4 (by omega) _, by omega⟩
  | good t r =>
    have hct := value_count F 16 _ _ _ hx
    obtain ⟨⟨kind3, b3, neg3, dg3, ex3, u3, wd3, s3⟩, ho3⟩ : ∃ o, t.own = o := ⟨_, rfl⟩
    have HV : Hid (∀ W, w.grownBy W (some p) → RdJ W p (bsD (spJ s.data.toList)) 0 → Calls Tryz.prog 53 #[.pointer (some ⟨p, 0, none⟩)] W fun x w' => W.grownBy w' (some p) ∧ (∃ A n c, x = .returned (.tuple #[.agg #[.int .i64 kind3, .bool b3, .bool neg3, .string dg3, .int .i64 ex3, .int .u64 u3, .int .i64 wd3, .string s3, .slice A n c], .nilIface]) ∧ LAt w' (fun q => W.heap.size ≤ q ∧ q < w'.heap.size) 16 t.kids (.slice A n c)) ∧ OwnOk t.own ∧ RdJ w' p (bsD r) 0 ∧ r.length ≤ (bsD (spJ s.data.toList)).size) := Lib.hid (fun W hg hR => by
      have := HV.out W hg hR
      rw [bsD_list, hx] at this
      unfold ReadJ at this
      simp only [nodeV, ho3] at this
      rw [ho3]
      exact this)
    have HO3 := Lib.hid ho3
    simp only []
    have hl2 := spJ_len r
    clear hx ho3
    by_cases hsp : spJ r = []
    · rw [if_neg (fun h => h hsp)]
      have HRG := Lib.hid (fun (W : World) (B : Nat) (x : Value) (hl : ListAt W B 16 t.kids x) (ho : OwnOk t.own) (hB : B ≤ W.heap.size) (hg : w.grownBy W (some p)) => tree_RightP t x W B 16 hl ho hB (by omega) (HG.out W hg))
      by_cases hrt : rightT t = true
      · rw [if_pos hrt]
        rw [hrt] at HRG
        go_enter Tryz.func39, Tryz.ntmps39
        go_wp2_with fail
        refine (HS.out s _ hr1 (by omega)).mono ?_
        rintro x w2 ⟨⟨v2, rfl⟩, hg2, hr2⟩
        have hk2 := blk_gb hk1 hg2 (by omega)
        have hgA := grown_trans (below_grown hb1 (some p)) hg2
        have HVV := HV.out w2 hgA hr2
        go_wp2_with fail
        refine HVV.mono ?_
        rintro x w3 ⟨hg3, ⟨A, n, c, rfl, hly⟩, hot, hr3, hs3⟩
        have hk3 := blk_gb hk2 hg3 (by omega)
        have hk4 := hk3.alloc (.cells #[.int .i64 kind3, .bool b3, .bool neg3, .string dg3, .int .i64 ex3, .int .u64 u3, .int .i64 wd3, .string s3, .slice A n c] 27)
        have hx4 := Blk.new w3 #[.int .i64 kind3, .bool b3, .bool neg3, .string dg3, .int .i64 ex3, .int .u64 u3, .int .i64 wd3, .string s3, .slice A n c] 27
        have hr4 := hr3.alloc (.cells #[.int .i64 kind3, .bool b3, .bool neg3, .string dg3, .int .i64 ex3, .int .u64 u3, .int .i64 wd3, .string s3, .slice A n c] 27)
        have hgB := grown_trans hgA hg3
        have hg4 : w.grownBy (w3.alloc (.cells #[.int .i64 kind3, .bool b3, .bool neg3, .string dg3, .int .i64 ex3, .int .u64 u3, .int .i64 wd3, .string s3, .slice A n c] 27)) (some p) := grown_of hgB ((Below.refl _ _).alloc (Nat.le_refl _) _)
        have hz2 := hg2.size
        have hz3 := hg3.size
        have HLY := Lib.hid hly
        clear hly
        go_wp2_with fail
        refine (HS.out (bsD r) _ hr4 (by rw [bsD_size]; omega)).mono ?_
        rintro x w5 ⟨⟨v5, rfl⟩, hg5, hr5⟩
        rw [bsD_list] at hr5
        have hk5 := blk_gb hk4 hg5 (by omega)
        have hx5 := blk_gb hx4 hg5 (by have := hr3.lt; omega)
        have hg6 := grown_trans hg4 hg5
        have hz5 := hg5.size
        have q5 := hr5.cell 0
        rw [hsp] at q5
        have q5' : w5.cell? ⟨p, 0, none⟩ = some (.string ⟨#[]⟩) := q5
        have hl5 : LAt w5 (fun q => w2.heap.size ≤ q ∧ q < w5.heap.size) 16 t.kids (.slice A n c) := (HLY.out.keep (fun q hq => (hg5.block q (by rw [World.size_alloc]; have := hq.2; omega) (fun e => by injection e with e; have := hq.1; have := hr2.lt; omega)).trans (Below.heap_alloc _ _ _ hq.2))).mono (fun q hq => ⟨hq.1, by rw [World.size_alloc] at hz5; have := hq.2; omega⟩)
        have hRC := HRG.out w5 w5.heap.size (.slice A n c) (hl5.mono (fun q hq => hq.2)) hot (Nat.le_refl _) hg6
        have HL5 := Lib.hid hl5
        have HOT := Lib.hid hot
        rw [HO3.out] at hRC
        unfold nodeV at hRC
        simp only [] at hRC
        have HRC := Lib.hid hRC
        clear hl5 hRC q5 hot
        go_wp2_with (refine wpList_load_row rfl 27 (.tmp 4) rfl (w3.heap.size) rfl 27 _ (0, 0) _ hx5 Tryz.underlying27 rfl (by kernel_rfl) ?_)
        refine HRC.out.mono ?_
        rintro x w7 ⟨rfl, hb7⟩
        have hk7 := hk5.below hb7 hk5.lt
        have hx7 := hx5.below hb7 hx5.lt
        have hr7 := hr5.below hb7 hr5.lt
        have hg7 := grown_of hg6 hb7
        go_wp2_with (first | (refine wpList_load_row rfl 27 (.tmp 4) rfl (w3.heap.size) rfl 27 _ (0, 0) _ hx7 Tryz.underlying27 rfl (by kernel_rfl) ?_) | (refine wpList_store_row rfl 27 (.tmp 2) (.tmp 33) rfl (w.heap.size) #[.int .i64 kind3, .bool b3, .bool neg3, .string dg3, .int .i64 ex3, .int .u64 u3, .int .i64 wd3, .string s3, .slice A n c] rfl rfl 27 _ hk7 (by kernel_rfl) rfl (by simp [Value.oneCell']) ?_))
        refine bodyPost_ret (results_cell (T := 27) rfl rfl rfl (blk_row hk7 _) Tryz.underlying27 rfl (by kernel_rfl)) rfl ?_
        refine ⟨grown_at hg7 (grown_row _ _ _) (by omega), ⟨A, n, c, by rw [HO3.out]; rfl, ?_⟩, HOT.out, blk_row_other (by rw [← hsp]; exact hr7) (by omega) _, by simp⟩
        refine (((HL5.out.keep (W' := w7) (fun q hq => hb7.block q hq.2)).keep (W' := w7.setRow w.heap.size #[.int .i64 kind3, .bool b3, .bool neg3, .string dg3, .int .i64 ex3, .int .u64 u3, .int .i64 wd3, .string s3, .slice A n c]) (fun q hq => setRow_other _ _ _ _ (by have := hq.1; omega))).mono (fun q hq => ?_))
        rw [setRow_size]
        exact ⟨by have := hq.1; omega, by have := hq.2; have := hb7.size; omega⟩
      · rw [if_neg hrt]
        rw [Bool.not_eq_true] at hrt
        rw [hrt] at HRG
        go_enter Tryz.func39, Tryz.ntmps39
        go_wp2_with fail
        refine (HS.out s _ hr1 (by omega)).mono ?_
        rintro x w2 ⟨⟨v2, rfl⟩, hg2, hr2⟩
        have hk2 := blk_gb hk1 hg2 (by omega)
        have hgA := grown_trans (below_grown hb1 (some p)) hg2
        have HVV := HV.out w2 hgA hr2
        go_wp2_with fail
        refine HVV.mono ?_
        rintro x w3 ⟨hg3, ⟨A, n, c, rfl, hly⟩, hot, hr3, hs3⟩
        have hk3 := blk_gb hk2 hg3 (by omega)
        have hk4 := hk3.alloc (.cells #[.int .i64 kind3, .bool b3, .bool neg3, .string dg3, .int .i64 ex3, .int .u64 u3, .int .i64 wd3, .string s3, .slice A n c] 27)
        have hx4 := Blk.new w3 #[.int .i64 kind3, .bool b3, .bool neg3, .string dg3, .int .i64 ex3, .int .u64 u3, .int .i64 wd3, .string s3, .slice A n c] 27
        have hr4 := hr3.alloc (.cells #[.int .i64 kind3, .bool b3, .bool neg3, .string dg3, .int .i64 ex3, .int .u64 u3, .int .i64 wd3, .string s3, .slice A n c] 27)
        have hgB := grown_trans hgA hg3
        have hg4 : w.grownBy (w3.alloc (.cells #[.int .i64 kind3, .bool b3, .bool neg3, .string dg3, .int .i64 ex3, .int .u64 u3, .int .i64 wd3, .string s3, .slice A n c] 27)) (some p) := grown_of hgB ((Below.refl _ _).alloc (Nat.le_refl _) _)
        have hz2 := hg2.size
        have hz3 := hg3.size
        have HLY := Lib.hid hly
        clear hly
        go_wp2_with fail
        refine (HS.out (bsD r) _ hr4 (by rw [bsD_size]; omega)).mono ?_
        rintro x w5 ⟨⟨v5, rfl⟩, hg5, hr5⟩
        rw [bsD_list] at hr5
        have hk5 := blk_gb hk4 hg5 (by omega)
        have hx5 := blk_gb hx4 hg5 (by have := hr3.lt; omega)
        have hg6 := grown_trans hg4 hg5
        have hz5 := hg5.size
        have q5 := hr5.cell 0
        rw [hsp] at q5
        have q5' : w5.cell? ⟨p, 0, none⟩ = some (.string ⟨#[]⟩) := q5
        have hl5 : LAt w5 (fun q => w2.heap.size ≤ q ∧ q < w5.heap.size) 16 t.kids (.slice A n c) := (HLY.out.keep (fun q hq => (hg5.block q (by rw [World.size_alloc]; have := hq.2; omega) (fun e => by injection e with e; have := hq.1; have := hr2.lt; omega)).trans (Below.heap_alloc _ _ _ hq.2))).mono (fun q hq => ⟨hq.1, by rw [World.size_alloc] at hz5; have := hq.2; omega⟩)
        have hRC := HRG.out w5 w5.heap.size (.slice A n c) (hl5.mono (fun q hq => hq.2)) hot (Nat.le_refl _) hg6
        have HL5 := Lib.hid hl5
        have HOT := Lib.hid hot
        rw [HO3.out] at hRC
        unfold nodeV at hRC
        simp only [] at hRC
        have HRC := Lib.hid hRC
        clear hl5 hRC q5 hot
        go_wp2_with (refine wpList_load_row rfl 27 (.tmp 4) rfl (w3.heap.size) rfl 27 _ (0, 0) _ hx5 Tryz.underlying27 rfl (by kernel_rfl) ?_)
        refine HRC.out.mono ?_
        rintro x w7 ⟨rfl, hb7⟩
        have hk7 := hk5.below hb7 hk5.lt
        have hx7 := hx5.below hb7 hx5.lt
        have hr7 := hr5.below hb7 hr5.lt
        have hg7 := grown_of hg6 hb7
        go_wp2_with (refine wpList_store_row rfl 27 (.tmp 2) (.tmp 30) rfl (w.heap.size) zeroC rfl rfl 27 _ hk7 (by kernel_rfl) rfl (by simp [Value.oneCell']) ?_)
        refine bodyPost_ret (results_cell (T := 27) rfl rfl rfl (blk_row hk7 zeroC) Tryz.underlying27 rfl (by kernel_rfl)) rfl ?_
        exact ⟨grown_at hg7 (grown_row _ _ _) (by omega), ⟨rfl, .inl rfl⟩, _, 0, blk_row_other hr7 (by omega) _, by rw [bsD_size]; omega⟩
    · rw [if_pos hsp]
      have z := str_isB hsp
      obtain ⟨sb, hsb⟩ : ∃ x, bsD (spJ r) = x := ⟨_, rfl⟩
      have hsz : sb.size ≤ s.size := by rw [← hsb, bsD_size]; omega
      rw [hsb] at z
      have HSZ := Lib.hid hsz
      have HSB := Lib.hid hsb
      clear HG hsp hsb hsz
      go_enter Tryz.func39, Tryz.ntmps39
      go_wp2_with fail
      refine (HS.out s _ hr1 (by omega)).mono ?_
      rintro x w2 ⟨⟨v2, rfl⟩, hg2, hr2⟩
      have hk2 := blk_gb hk1 hg2 (by omega)
      have hgA := grown_trans (below_grown hb1 (some p)) hg2
      have HVV := HV.out w2 hgA hr2
      go_wp2_with fail
      refine HVV.mono ?_
      rintro x w3 ⟨hg3, ⟨A, n, c, rfl, hly⟩, hot, hr3, hs3⟩
      have hk3 := blk_gb hk2 hg3 (by omega)
      have hk4 := hk3.alloc (.cells #[.int .i64 kind3, .bool b3, .bool neg3, .string dg3, .int .i64 ex3, .int .u64 u3, .int .i64 wd3, .string s3, .slice A n c] 27)
      have hx4 := Blk.new w3 #[.int .i64 kind3, .bool b3, .bool neg3, .string dg3, .int .i64 ex3, .int .u64 u3, .int .i64 wd3, .string s3, .slice A n c] 27
      have hr4 := hr3.alloc (.cells #[.int .i64 kind3, .bool b3, .bool neg3, .string dg3, .int .i64 ex3, .int .u64 u3, .int .i64 wd3, .string s3, .slice A n c] 27)
      have hgB := grown_trans hgA hg3
      have hg4 : w.grownBy (w3.alloc (.cells #[.int .i64 kind3, .bool b3, .bool neg3, .string dg3, .int .i64 ex3, .int .u64 u3, .int .i64 wd3, .string s3, .slice A n c] 27)) (some p) := grown_of hgB ((Below.refl _ _).alloc (Nat.le_refl _) _)
      have hz2 := hg2.size
      have hz3 := hg3.size
      have HLY := Lib.hid hly
      clear hly
      go_wp2_with fail
      refine (HS.out (bsD r) _ hr4 (by rw [bsD_size]; omega)).mono ?_
      rintro x w5 ⟨⟨v5, rfl⟩, hg5, hr5⟩
      rw [bsD_list] at hr5
      have hk5 := blk_gb hk4 hg5 (by omega)
      have hx5 := blk_gb hx4 hg5 (by have := hr3.lt; omega)
      have hg6 := grown_trans hg4 hg5
      have hz5 := hg5.size
      have q5 := hr5.cell 0
      rw [HSB.out] at hr5 q5
      go_wp2_with fail
      refine (jr_bad _).mono ?_
      rintro x w8 ⟨rfl, rfl⟩
      go_wp2_with (refine wpList_store_row rfl 27 (.tmp 2) (.tmp 25) rfl (w.heap.size) zeroC rfl rfl 27 _ hk5 (by kernel_rfl) rfl (by simp [Value.oneCell']) ?_)
      refine bodyPost_ret (results_cell (T := 27) rfl rfl rfl (blk_row hk5 zeroC) Tryz.underlying27 rfl (by kernel_rfl)) rfl ?_
      exact ⟨grown_at hg6 (grown_row _ _ _) (by omega), ⟨rfl, .inr rfl⟩, sb, 0, blk_row_other hr5 (by omega) _, HSZ.out⟩
end Go.Proofs.YtfckekaegjjmkaaGreatDoor
