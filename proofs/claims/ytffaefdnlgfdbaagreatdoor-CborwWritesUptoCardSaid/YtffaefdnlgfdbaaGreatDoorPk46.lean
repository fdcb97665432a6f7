/- The texts WrF, LaidV, put together. -/
import Derived.Test.YtffaefdnlgfdbaaGreatDoorPk43
import Derived.Test.YtffaefdnlgfdbaaGreatDoorPk45
import Derived.Test.YtffaefdnlgfdbaaGreatDoorPk01
import Derived.Test.YtffaefdnlgfdbaaGreatDoorRows
import Derived.Test.YtffaefdnlgfdbaaGreatDoorPk06
import Derived.Lib.LaidU8T
import Derived.PinnedBridge
import Derived.Stop.LaidErr
import Derived.Stop.Joined
import Derived.LaidMore
import Derived.LaidLaws
import Derived.Lay
import Derived.SevenTiedAt
import Derived.ProofKit
import Derived.OpenShut
import Derived.Lib.LaidTab
/- The reference of layer 12: Write, Key; the walk of the law CborwWrites. Printed by gen_wrf.py. -/
namespace Go.Proofs.YtffaefdnlgfdbaaGreatDoor
open Go.RowKit Go.Shelf

/-- A key: a tree that is right, and fits, of a key's kind; so is a map of it. -/
theorem key_iff (t : Tr) : checkT 2 flC (keyOf t) = 0 ↔ checkT 2 flC t = 0 ∧ keyO 2 t.own = true := by
  constructor
  · intro h
    obtain ⟨h1, h2, h3, h4⟩ := check_ok h
    obtain ⟨g1, g2, g3⟩ := keyOf_parts h
    refine ⟨?_, ?_⟩
    · have hd : t.depth ≤ 16 := by
        rw [Tr.depth, depthL] at h2
        omega
      unfold checkT rightT
      rw [decide_eq_true g3, decide_eq_true hd, g1, g2]
      rfl
    · rw [fitT_eq, Bool.and_eq_true] at h4
      have := h4.1
      unfold fitO at this
      simp only [Tr.own, Tr.kids] at this
      have h5 : keysFit 2 [t, nullT] = true := by
        have e : ((decide ((2 : Int) = 1) || (decide ((2 : Int) = 2) || (decide ((2 : Int) = 3) || decide ((2 : Int) = 4)))) && keysFit 2 [t, nullT]) = true := this
        rw [Bool.and_eq_true] at e
        exact e.2
      rw [keysFit, keysFit, Bool.and_true] at h5
      exact h5
  · rintro ⟨h, hk⟩
    obtain ⟨h1, h2, h3, h4⟩ := check_ok h
    have hl : t.kids = [] := by
      rw [allB_eq, Bool.and_eq_true] at h3
      have ho := h3.1
      unfold ownB at ho
      unfold keyO at hk
      refine len0 ?_
      by_cases k1 : t.own.kind = 1
      · rw [if_pos k1, Bool.and_eq_true, decide_eq_true_iff] at ho
        exact ho.1
      by_cases k2 : t.own.kind = 2
      · rw [if_neg k1, if_pos k2, Bool.and_eq_true, decide_eq_true_iff] at ho
        exact ho.1
      by_cases k3 : t.own.kind = 3
      · rw [if_neg k1, if_neg k2, if_pos k3, Bool.and_eq_true, decide_eq_true_iff] at ho
        exact ho.1
      by_cases k5 : t.own.kind = 5
      · rw [if_neg k1, if_neg k2, if_neg k3, if_neg (by omega), if_pos k5, Bool.and_eq_true, decide_eq_true_iff] at ho
        exact ho.1
      by_cases k6 : t.own.kind = 6
      · rw [if_neg k1, if_neg k2, if_neg k3, if_neg (by omega), if_neg k5, if_pos k6, Bool.and_eq_true, decide_eq_true_iff] at ho
        exact ho.1
      · rw [if_neg k5, if_neg (by decide), if_neg k3, decide_eq_false k6, decide_eq_false k2, decide_eq_false k1] at hk
        cases hk
    obtain ⟨o, l⟩ := t
    have hl : l = [] := hl
    subst hl
    have hc : (keyOf (.nd o [])).count ≤ 300 := by simp [Tr.count, countL]
    have hd : (keyOf (.nd o [])).depth ≤ 16 := by simp [Tr.depth, depthL]
    have ho8 : ownB { zeroO with kind := 8 } [.nd o [], nullT] = true := by
      have hkb : keysB [.nd o [], nullT] = true := by
        unfold keysB
        refine @decide_eq_true _ (Classical.propDecidable _) ?_
        intro i k hi hk h1 h2
        simp only [List.length_cons, List.length_nil] at hi
        omega
      simp [ownB, onlyB, hkb]
    have hnl : allB nullT = true := by
      rw [allB, allL]
      have : ownB { zeroO with kind := 1 } [] = true := by simp [ownB, onlyB]
      rw [this]
      rfl
    have ha : allB (keyOf (.nd o [])) = true := by
      rw [allB, ho8, allL, allL, allL, h3, hnl]
      rfl
    have hf : fitT 2 flC (keyOf (.nd o [])) = true := by
      have hfo : fitO 2 flC { zeroO with kind := 8 } [.nd o [], nullT] = true := by
        unfold fitO
        simp only []
        have h5 : keysFit 2 [.nd o [], nullT] = true := by
          rw [keysFit, keysFit, Bool.and_true]
          exact hk
        show ((decide ((2 : Int) = 1) || (decide ((2 : Int) = 2) || (decide ((2 : Int) = 3) || decide ((2 : Int) = 4)))) && keysFit 2 [.nd o [], nullT]) = true
        rw [h5]
        rfl
      have hfn : fitT 2 flC nullT = true := by decide +kernel
      rw [fitT, hfo, fitL, fitL, fitL, h4, hfn]
      rfl
    unfold checkT rightT
    rw [decide_eq_true hc, decide_eq_true hd, ha, hf]
    rfl

set_option maxHeartbeats 4000000 in
set_option maxRecDepth 100000 in
theorem ref_Write12 (t : Tr) (x : Value) (w : World) (B d : Nat) (hl : ListAt w B d t.kids x) (hB : B ≤ w.heap.size) (ho : OwnOk t.own) (hc : t.count ≤ 1000000) :
    Calls Tryz.prog 15 #[nodeV t.own x] w fun e w' => e = .returned (.tuple #[.string (wroteC t (checkT 2 flC t)), .int .i64 (checkT 2 flC t)]) ∧ Below w.heap.size w w' := by
  have HR := Lib.hid (fun (W : World) (hW : Below w.heap.size w W) => ref_Check2 t x W B d (hl.below hW hB) (Nat.le_trans hB hW.size) ho (by omega))
  have HF := Lib.hid (fun (h0 : checkT 2 flC t = 0) (W : World) (hW : Below w.heap.size w W) => ref_write d t x W B (hl.below hW hB) (Nat.le_trans hB hW.size) (check_okC hl ho h0) hc)
  unfold wroteC
  obtain ⟨ck, hck⟩ : ∃ ck, checkT 2 flC t = ck := ⟨_, rfl⟩
  simp only [hck] at HR HF
  rw [hck]
  obtain ⟨st, hst⟩ : ∃ st : ByteArray, ⟨(cbT t).toArray⟩ = st := ⟨_, rfl⟩
  simp only [hst] at HF
  rw [hst]
  obtain ⟨⟨kind, b, neg, dg, ex, u, wd, s⟩, ho'⟩ : ∃ o, t.own = o := ⟨_, rfl⟩
  simp only [ho'] at HR HF
  rw [ho']
  unfold nodeV at HR HF ⊢
  simp only [] at HR HF ⊢
  clear hl ho hc hck hst ho'
  have hbx := (Below.refl w.heap.size w).alloc (Nat.le_refl _) (.cells #[.int .i64 kind, .bool b, .bool neg, .string dg, .int .i64 ex, .int .u64 u, .int .i64 wd, .string s, x] 27)
  have hkx := Blk.new w #[.int .i64 kind, .bool b, .bool neg, .string dg, .int .i64 ex, .int .u64 u, .int .i64 wd, .string s, x] 27
  have c0 := hkx.cell 0
  have c1 := hkx.cell 1
  have c2 := hkx.cell 2
  have c3 := hkx.cell 3
  have c4 := hkx.cell 4
  have c5 := hkx.cell 5
  have c6 := hkx.cell 6
  have c7 := hkx.cell 7
  have c8 := hkx.cell 8
  by_cases h0 : ck = 0
  · subst h0
    rw [if_pos rfl]
    replace HF := Lib.hid (HF.out rfl)
    go_enter Tryz.func15, Tryz.ntmps15
    go_wp2_with fail
    refine (HR.out _ hbx).mono ?_
    rintro e w2 ⟨rfl, hb0⟩
    have hb := hbx.trans (hb0.mono hbx.size)
    have hk2 := hkx.below hb0 hkx.lt
    clear hb0 hkx c0 c1 c2 c3 c4 c5 c6 c7 c8
    have c0 := hk2.cell 0
    have c1 := hk2.cell 1
    have c2 := hk2.cell 2
    have c3 := hk2.cell 3
    have c4 := hk2.cell 4
    have c5 := hk2.cell 5
    have c6 := hk2.cell 6
    have c7 := hk2.cell 7
    have c8 := hk2.cell 8
    go_wp2_with fail
    refine (HF.out _ hb).mono ?_
    rintro e w3 ⟨rfl, hb'⟩
    have hb3 := hb.trans (hb'.mono hb.size)
    go_wp2_with fail
    refine bodyPost_ret (v := .tuple #[.string st, .int .i64 0]) (by simp [results, Tryz.results15, go_sem]) rfl ⟨rfl, hb3⟩
  · rw [if_neg h0]
    have y0 : (ck != 0) = true := by simpa using h0
    go_enter Tryz.func15, Tryz.ntmps15
    go_wp2_with fail
    refine (HR.out _ hbx).mono ?_
    rintro e w2 ⟨rfl, hb0⟩
    have hb := hbx.trans (hb0.mono hbx.size)
    clear hb0 hkx c0 c1 c2 c3 c4 c5 c6 c7 c8
    go_wp2_with fail
    refine bodyPost_ret (v := .tuple #[.string ⟨#[]⟩, .int .i64 ck]) (by simp [results, Tryz.results15, go_sem]) rfl ⟨rfl, hb⟩

set_option maxHeartbeats 4000000 in
set_option maxRecDepth 100000 in
theorem ref_Key12 (t : Tr) (x : Value) (w : World) (B d : Nat) (hl : ListAt w B d t.kids x) (hB : B ≤ w.heap.size) (ho : OwnOk t.own) (hc : t.count ≤ 1000000) :
    Calls Tryz.prog 16 #[nodeV t.own x] w fun e w' => e = .returned (.tuple #[.string (wroteC t (checkT 2 flC (keyOf t))), .int .i64 (if checkT 2 flC (keyOf t) = 0 then 0 else 61)]) ∧ Below w.heap.size w w' := by
  have HR := Lib.hid (fun (W : World) (hW : Below w.heap.size w W) => ref_Check2 t x W B d (hl.below hW hB) (Nat.le_trans hB hW.size) ho (by omega))
  have HY := Lib.hid (fun (W : World) => ref_Key 2 t.own x W ho.dg)
  have HF := Lib.hid (fun (h0 : checkT 2 flC t = 0) (W : World) (hW : Below w.heap.size w W) => ref_write d t x W B (hl.below hW hB) (Nat.le_trans hB hW.size) (check_okC hl ho h0) hc)
  have hki := key_iff t
  unfold wroteC
  obtain ⟨ck, hck⟩ : ∃ ck, checkT 2 flC t = ck := ⟨_, rfl⟩
  obtain ⟨cm, hcm⟩ : ∃ cm, checkT 2 flC (keyOf t) = cm := ⟨_, rfl⟩
  obtain ⟨ky, hky⟩ : ∃ ky, keyO 2 t.own = ky := ⟨_, rfl⟩
  simp only [hck] at HR HF
  simp only [hky] at HY
  rw [hck, hcm, hky] at hki
  rw [hcm]
  obtain ⟨st, hst⟩ : ∃ st : ByteArray, ⟨(cbT t).toArray⟩ = st := ⟨_, rfl⟩
  simp only [hst] at HF
  rw [hst]
  obtain ⟨⟨kind, b, neg, dg, ex, u, wd, s⟩, ho'⟩ : ∃ o, t.own = o := ⟨_, rfl⟩
  simp only [ho'] at HR HF HY
  rw [ho']
  unfold nodeV at HR HF HY ⊢
  simp only [] at HR HF HY ⊢
  clear hl ho hc hck hst ho' hcm hky
  have hbx := (Below.refl w.heap.size w).alloc (Nat.le_refl _) (.cells #[.int .i64 kind, .bool b, .bool neg, .string dg, .int .i64 ex, .int .u64 u, .int .i64 wd, .string s, x] 27)
  have hkx := Blk.new w #[.int .i64 kind, .bool b, .bool neg, .string dg, .int .i64 ex, .int .u64 u, .int .i64 wd, .string s, x] 27
  have c0 := hkx.cell 0
  have c1 := hkx.cell 1
  have c2 := hkx.cell 2
  have c3 := hkx.cell 3
  have c4 := hkx.cell 4
  have c5 := hkx.cell 5
  have c6 := hkx.cell 6
  have c7 := hkx.cell 7
  have c8 := hkx.cell 8
  by_cases h0 : ck = 0
  · subst h0
    replace HF := Lib.hid (HF.out rfl)
    cases ky with
    | true =>
      have hcm0 : cm = 0 := hki.2 ⟨rfl, rfl⟩
      subst hcm0
      rw [if_pos rfl, if_pos rfl]
      clear hki
      go_enter Tryz.func16, Tryz.ntmps16
      go_wp2_with fail
      refine (HR.out _ hbx).mono ?_
      rintro e w2 ⟨rfl, hb0⟩
      have hb := hbx.trans (hb0.mono hbx.size)
      have hk2 := hkx.below hb0 hkx.lt
      clear hb0 hkx c0 c1 c2 c3 c4 c5 c6 c7 c8
      have c0 := hk2.cell 0
      have c1 := hk2.cell 1
      have c2 := hk2.cell 2
      have c3 := hk2.cell 3
      have c4 := hk2.cell 4
      have c5 := hk2.cell 5
      have c6 := hk2.cell 6
      have c7 := hk2.cell 7
      have c8 := hk2.cell 8
      go_wp2_with fail
      refine (HY.out _).mono ?_
      rintro e w3 ⟨rfl, hb'⟩
      have hb3 := hb.trans (hb'.mono hb.size)
      have hk3 := hk2.below hb' hk2.lt
      clear hb' hk2 c0 c1 c2 c3 c4 c5 c6 c7 c8
      have c0 := hk3.cell 0
      have c1 := hk3.cell 1
      have c2 := hk3.cell 2
      have c3 := hk3.cell 3
      have c4 := hk3.cell 4
      have c5 := hk3.cell 5
      have c6 := hk3.cell 6
      have c7 := hk3.cell 7
      have c8 := hk3.cell 8
      go_wp2_with fail
      refine (HF.out _ hb3).mono ?_
      rintro e w4 ⟨rfl, hb'⟩
      have hb4 := hb3.trans (hb'.mono hb3.size)
      go_wp2_with fail
      refine bodyPost_ret (v := .tuple #[.string st, .int .i64 0]) (by simp [results, Tryz.results16, go_sem]) rfl ⟨rfl, hb4⟩
    | false =>
      have hcm0 : ¬ cm = 0 := fun h => by cases (hki.1 h).2
      rw [if_neg hcm0, if_neg hcm0]
      clear hki
      go_enter Tryz.func16, Tryz.ntmps16
      go_wp2_with fail
      refine (HR.out _ hbx).mono ?_
      rintro e w2 ⟨rfl, hb0⟩
      have hb := hbx.trans (hb0.mono hbx.size)
      have hk2 := hkx.below hb0 hkx.lt
      clear hb0 hkx c0 c1 c2 c3 c4 c5 c6 c7 c8
      have c0 := hk2.cell 0
      have c1 := hk2.cell 1
      have c2 := hk2.cell 2
      have c3 := hk2.cell 3
      have c4 := hk2.cell 4
      have c5 := hk2.cell 5
      have c6 := hk2.cell 6
      have c7 := hk2.cell 7
      have c8 := hk2.cell 8
      go_wp2_with fail
      refine (HY.out _).mono ?_
      rintro e w3 ⟨rfl, hb'⟩
      have hb3 := hb.trans (hb'.mono hb.size)
      clear hb' hk2 c0 c1 c2 c3 c4 c5 c6 c7 c8
      go_wp2_with fail
      refine bodyPost_ret (v := .tuple #[.string ⟨#[]⟩, .int .i64 61]) (by simp [results, Tryz.results16, go_sem]) rfl ⟨rfl, hb3⟩
  · have hcm0 : ¬ cm = 0 := fun h => h0 (hki.1 h).1
    rw [if_neg hcm0, if_neg hcm0]
    have y0 : (ck != 0) = true := by simpa using h0
    clear hki
    go_enter Tryz.func16, Tryz.ntmps16
    go_wp2_with fail
    refine (HR.out _ hbx).mono ?_
    rintro e w2 ⟨rfl, hb0⟩
    have hb := hbx.trans (hb0.mono hbx.size)
    clear hb0 hkx c0 c1 c2 c3 c4 c5 c6 c7 c8
    go_wp2_with fail
    refine bodyPost_ret (v := .tuple #[.string ⟨#[]⟩, .int .i64 61]) (by simp [results, Tryz.results16, go_sem]) rfl ⟨rfl, hb⟩

set_option maxHeartbeats 8000000 in
set_option maxRecDepth 100000 in
theorem writes_walk {aT aF : Addr} (t0 : Tr) (vt : Value) (w : World) (h : GW w aT aF) (D : Nat) (hl : ListAt w w.heap.size D t0.kids vt) (ho : OwnOk t0.own) (hc : t0.count ≤ 1048576) :
    Calls Tryz.prog 6 #[nodeV t0.own vt] w fun e w' => e = .returned (.bool true) ∧ Below w.heap.size w w' := by
  have H0 := Lib.hid (fun w h => cb_shown (aT := aT) (aF := aF) w h)
  have HU := Lib.hid (fun (w' : World) (hw : Below w.heap.size w w') => h.below hw)
  have HF := Lib.hid (fun (w' : World) (hw : Below w.heap.size w w') => law_FewT t0 vt w' w.heap.size D (hl.below hw (Nat.le_refl _)) ho hw.size (by omega))
  have hto := few_okC ho
  have htc := few_count t0
  obtain ⟨o0, ho0⟩ : ∃ o, t0.own = o := ⟨_, rfl⟩
  rw [ho0] at HF ⊢
  generalize fewT t0 = t at HF hto htc
  have hb2 : Below w.heap.size w (w.alloc (.cells (cellsV o0 vt) 27)) := (Below.refl _ _).alloc (Nat.le_refl _) _
  have hk1 := Blk.new w (cellsV o0 vt) 27
  obtain ⟨ot, hot⟩ : ∃ o, t.own = o := ⟨_, rfl⟩
  rw [hot] at HF
  have HK1 := Lib.hid hk1
  have HH := Lib.hid (h.below hb2)
  unfold nodeV cellsV at *
  clear hl ho hc h hk1
  go_enter Tryz.func6, Tryz.ntmps6
  go_wp2_with fail
  refine (H0.out _ HH.out).mono ?_
  rintro e w1 ⟨rfl, hb1⟩
  have hb3 := hb2.trans (hb1.mono hb2.size)
  have hk1 := HK1.out.below hb1 HK1.out.lt
  have HK3 := Lib.hid hk1
  clear hb1 HK1 hk1 HH hb2
  go_wp2_with (refine wpList_load_row rfl 27 (.tmp 1) rfl (w.heap.size) rfl 27 _ (0, 0) _ HK3.out Tryz.underlying27 rfl (by kernel_rfl) ?_)
  refine (HF.out _ hb3).mono ?_
  rintro e w2 ⟨⟨y, rfl, hly⟩, hb⟩
  obtain ⟨_, A1, c1, rfl⟩ := hly.slice
  obtain ⟨n1, hn1⟩ : ∃ n1, t.kids.length = n1 := ⟨_, rfl⟩
  rw [hn1] at hly ⊢
  have hb4 := hb3.trans (hb.mono hb3.size)
  have hk1 := HK3.out.below hb HK3.out.lt
  have hz := hb3.size
  have hb5 := hb4.grown (grown_row w2 w.heap.size #[.int .i64 ot.kind, .bool ot.b, .bool ot.neg, .string ot.dg, .int .i64 ot.ex, .int .u64 ot.u, .int .i64 ot.wd, .string ot.s, .slice A1 n1 c1]) hb4.size (fun q e => by cases e; exact Nat.le_refl _)
  have hk3 := blk_row hk1 #[.int .i64 ot.kind, .bool ot.b, .bool ot.neg, .string ot.dg, .int .i64 ot.ex, .int .u64 ot.u, .int .i64 ot.wd, .string ot.s, .slice A1 n1 c1]
  have hw1 := HK3.out.lt
  have hly2 : ListAt (w2.setRow w.heap.size #[.int .i64 ot.kind, .bool ot.b, .bool ot.neg, .string ot.dg, .int .i64 ot.ex, .int .u64 ot.u, .int .i64 ot.wd, .string ot.s, .slice A1 n1 c1]) (w2.setRow w.heap.size #[.int .i64 ot.kind, .bool ot.b, .bool ot.neg, .string ot.dg, .int .i64 ot.ex, .int .u64 ot.u, .int .i64 ot.wd, .string ot.s, .slice A1 n1 c1]).heap.size 17 t.kids (.slice A1 n1 c1) := (hly.keep (fun q hq => setRow_other _ _ _ _ (by omega))).mono (fun q hq => by rw [setRow_size]; exact hq.2)
  have HK1 := Lib.hid hk1
  have HKT := Lib.hid hk3
  have HL1 := Lib.hid hly2
  clear hb hb3 hb4 hk1 hk3 HK3 hly hly2 HF
  go_wp2_with (first | (refine wpList_store_row rfl 27 (.tmp 1) (.tmp 16) rfl (w.heap.size) #[.int .i64 ot.kind, .bool ot.b, .bool ot.neg, .string ot.dg, .int .i64 ot.ex, .int .u64 ot.u, .int .i64 ot.wd, .string ot.s, .slice A1 n1 c1] rfl rfl 27 _ HK1.out (by kernel_rfl) rfl (by simp [Value.oneCell']) ?_) | (refine wpList_load_row rfl 27 (.tmp 1) rfl (w.heap.size) rfl 27 _ (0, 0) _ HKT.out Tryz.underlying27 rfl (by kernel_rfl) ?_))
  obtain ⟨w5, hw5⟩ : ∃ w5, w2.setRow w.heap.size #[.int .i64 ot.kind, .bool ot.b, .bool ot.neg, .string ot.dg, .int .i64 ot.ex, .int .u64 ot.u, .int .i64 ot.wd, .string ot.s, .slice A1 n1 c1] = w5 := ⟨_, rfl⟩
  rw [hw5] at HKT HL1 hb5 ⊢
  clear HK1 hw5 hz hw1
  have hUU := fun W (hW : Below w5.heap.size w5 W) => (HU.out _ hb5).below hW
  have HWT := fun W (hW : Below w5.heap.size w5 W) => cb_Write t (.slice A1 n1 c1) W w5.heap.size 17 aT aF (HL1.out.below hW (Nat.le_refl _)) hto hW.size (by omega) (hUU W hW)
  have HRW := fun W (hW : Below w5.heap.size w5 W) => ref_Write12 t (.slice A1 n1 c1) W w5.heap.size 17 (HL1.out.below hW (Nat.le_refl _)) hW.size hto (by omega)
  have HKT1 := fun W (hW : Below w5.heap.size w5 W) => cb_Key t (.slice A1 n1 c1) W w5.heap.size 17 aT aF (HL1.out.below hW (Nat.le_refl _)) hto hW.size (by omega) (hUU W hW)
  have HRK := fun W (hW : Below w5.heap.size w5 W) => ref_Key12 t (.slice A1 n1 c1) W w5.heap.size 17 (HL1.out.below hW (Nat.le_refl _)) hW.size hto (by omega)
  have HSZ := fun W (hW : Below w5.heap.size w5 W) => cb_Size t (.slice A1 n1 c1) W w5.heap.size 17 aT aF (HL1.out.below hW (Nat.le_refl _)) hto hW.size (by omega) (hUU W hW)
  obtain ⟨ct, hct⟩ : ∃ ct, wroteC t (checkT 2 flC t) = ct := ⟨_, rfl⟩
  obtain ⟨cm, hcm⟩ : ∃ cm, wroteC t (checkT 2 flC (keyOf t)) = cm := ⟨_, rfl⟩
  obtain ⟨km, hkm⟩ : ∃ km : Int, (if checkT 2 flC (keyOf t) = 0 then 0 else 61) = km := ⟨_, rfl⟩
  obtain ⟨ck, hck⟩ : ∃ ck, checkT 2 flC t = ck := ⟨_, rfl⟩
  simp only [hct, hcm, hkm] at HWT HRW HKT1 HRK HSZ
  simp only [hck] at HWT HRW HSZ
  unfold nodeV at HWT HRW HKT1 HRK HSZ
  simp only [hot] at HWT HRW HKT1 HRK HSZ
  replace HWT := Lib.hid HWT
  replace HRW := Lib.hid HRW
  replace HKT1 := Lib.hid HKT1
  replace HRK := Lib.hid HRK
  replace HSZ := Lib.hid HSZ
  have HB5 := Lib.hid hb5
  clear hUU hct hcm hkm hck HL1 hb5
  have hr := Below.refl w5.heap.size w5
  refine (HWT.out _ hr).mono ?_
  rintro e w6 ⟨rfl, hb⟩
  have hb6 := hr.trans (hb.mono hr.size)
  have HK6 := Lib.hid (HKT.out.below hb HKT.out.lt)
  clear hb hr HKT HWT
  go_wp2_with (first | (refine wpList_load_row rfl 27 (.tmp 1) rfl (w.heap.size) rfl 27 _ (0, 0) _ HK6.out Tryz.underlying27 rfl (by kernel_rfl) ?_))
  refine (HRW.out _ hb6).mono ?_
  rintro e w7 ⟨rfl, hb⟩
  have hb7 := hb6.trans (hb.mono hb6.size)
  have HK7 := Lib.hid (HK6.out.below hb HK6.out.lt)
  clear hb hb6 HK6 HRW
  go_wp2_with (first | (refine wpList_load_row rfl 27 (.tmp 1) rfl (w.heap.size) rfl 27 _ (0, 0) _ HK7.out Tryz.underlying27 rfl (by kernel_rfl) ?_))
  refine (HKT1.out _ hb7).mono ?_
  rintro e w8 ⟨rfl, hb⟩
  have hb8 := hb7.trans (hb.mono hb7.size)
  have HK8 := Lib.hid (HK7.out.below hb HK7.out.lt)
  clear hb hb7 HK7 HKT1
  go_wp2_with (first | (refine wpList_load_row rfl 27 (.tmp 1) rfl (w.heap.size) rfl 27 _ (0, 0) _ HK8.out Tryz.underlying27 rfl (by kernel_rfl) ?_))
  refine (HRK.out _ hb8).mono ?_
  rintro e w9 ⟨rfl, hb⟩
  have hb9 := hb8.trans (hb.mono hb8.size)
  have HK9 := Lib.hid (HK8.out.below hb HK8.out.lt)
  clear hb hb8 HK8 HRK
  go_wp2_with (first | (refine wpList_load_row rfl 27 (.tmp 1) rfl (w.heap.size) rfl 27 _ (0, 0) _ HK9.out Tryz.underlying27 rfl (by kernel_rfl) ?_))
  refine (HSZ.out _ hb9).mono ?_
  rintro e w10 ⟨rfl, hb⟩
  have hb10 := hb9.trans (hb.mono hb9.size)
  have HBE := Lib.hid (HB5.out.trans (hb10.mono HB5.out.size))
  clear hb hb9 hb10 HK9 HSZ
  go_wp2_with fail
  go_ret
  exact ⟨rfl, HBE.out⟩
end Go.Proofs.YtffaefdnlgfdbaaGreatDoor
/- What a row lists, opened: sentinels and Go's tables, whatever the chapter. -/
namespace Go.Proofs.YtffaefdnlgfdbaaGreatDoor
open Go.RowKit Go.Shelf Go.Lib

theorem laidMet_drop {P : Program} {W : World} : ∀ (k : Nat) {l : List (String × DataW Unit)}, laidMet P l W → laidMet P (l.drop k) W
  | 0, _, h => h
  | _ + 1, [], h => h
  | k + 1, _ :: _, h => laidMet_drop k h.tail

set_option maxRecDepth 100000 in
/-- A sentinel on the list: its cell, the block behind it, its text. -/
theorem sentinel_of {n : String} {g : Nat} {text : List UInt8} {r : List (String × DataW Unit)} {W : World} (h : laidMet Tryz.prog ((n, .iface "*errors.errorString" (.ptr (.agg [.lit (.string text)]))) :: r) W)
    (hg : Tryz.prog.globalNamed n = some g) (ht : (Tryz.prog.globals[g]?).map (·.type) = some 45)
    (hi : ∃ ms, Tryz.prog.underlying 45 = some (.interface ms)) (hrow : ∀ u, Tryz.prog.typeName? 3 u = some "*errors.errorString" → u = 197)
    (he : ∃ f : Field, Tryz.prog.underlying 199 = some (.struct #[f]) ∧ f.type = 9 ∧ f.offset = 0) (hc : Tryz.prog.cellsOf 199 = 1) (hcs : Tryz.prog.cellsOf 9 = 1) :
    ∃ a : Addr, W.cell? ⟨g, 0, none⟩ = some (.iface 197 (.pointer (some a))) ∧ (∃ c t, W.heap[a.block]? = some (.cells c t (0, 0))) ∧ ∃ s : ByteArray, W.cell? a = some (.string s) ∧ s.data.toList = text := by
  obtain ⟨ms, hi⟩ := hi
  obtain ⟨f, he, hft, hfo⟩ := he
  obtain ⟨ps, ⟨g0, t0, cs0, f0, p0, q0, hg0, ht0, hv0, hd0, _, e0⟩, _, hrows⟩ := h
  obtain rfl := Option.some.inj (hg.symm.trans hg0)
  obtain rfl := Option.some.inj (ht.symm.trans ht0)
  subst e0
  obtain ⟨l0⟩ := cs0
  have ok0 : ∀ u v, l0 = [.iface u v] → Value.okWide Tryz.prog W .any 0 u v := fun u v e => by
    subst e
    exact (hrows g 0 (by simp [MemPlace.row])).2 u v (by simpa using World.var?_cell hg0 hv0 0)
  obtain ⟨a0, s0, rfl, hc0, hs0, hz0, rfl⟩ := errorString_of_trod hi hrow Tryz.underlying197 he hft hfo Tryz.underlying9 hc hcs hd0 ok0
  obtain ⟨c0, t0, hb0⟩ := (hrows a0.block a0.off (by simp [MemPlace.row])).1
  refine ⟨a0, ?_, ⟨c0, t0, hb0⟩, s0, hc0, hs0⟩
  simpa using World.var?_cell hg0 hv0 0

set_option maxRecDepth 100000 in
theorem u8extra : U8Extra Tryz.prog Tryz.lays196_ren := { n3 := by kernel_rfl, n4 := by kernel_rfl, y3 := by kernel_rfl, y4 := by kernel_rfl, c5 := by kernel_rfl, c119 := by kernel_rfl, c138 := by kernel_rfl }
theorem es_star : "*" ++ "errors.errorString" = "*errors.errorString" := by decide
set_option maxRecDepth 100000 in
theorem es_row (u : TypeId) (h : Tryz.prog.typeName? 3 u = some "*errors.errorString") : u = 197 :=
  typeName_ptr_named (nm := "errors.errorString") (by rw [es_star]; kernel_rfl) (by kernel_rfl) (by decide) u (by rw [es_star]; exact h)
theorem es_iface : ∃ ms, Tryz.prog.underlying 45 = some (.interface ms) := ⟨_, Tryz.underlying45⟩
theorem es_struct : ∃ f : Field, Tryz.prog.underlying 199 = some (.struct #[f]) ∧ f.type = 9 ∧ f.offset = 0 := ⟨_, Tryz.underlying199, rfl, rfl⟩
set_option maxRecDepth 100000 in
theorem es_cells : Tryz.prog.cellsOf 199 = 1 := by kernel_rfl
set_option maxRecDepth 100000 in
theorem es_string : Tryz.prog.cellsOf 9 = 1 := by kernel_rfl
theorem wf_u16 {a : Int} (h : (Lit.int .u16 a).wf = true) : 0 ≤ a ∧ a < 65536 := by
  simp [Lit.wf, IntKind.min, IntKind.max, IntKind.signed, IntKind.bits] at h
  omega
theorem wf_u8 {a : Int} (h : (Lit.int .u8 a).wf = true) : 0 ≤ a ∧ a < 256 := by
  simp [Lit.wf, IntKind.min, IntKind.max, IntKind.signed, IntKind.bits] at h
  omega
theorem wf_i32 {a : Int} (h : (Lit.int .i32 a).wf = true) : -2147483648 ≤ a ∧ a < 2147483648 := by
  simp [Lit.wf, IntKind.min, IntKind.max, IntKind.signed, IntKind.bits] at h
  omega
theorem wf_i64 {a : Int} (h : (Lit.int .i64 a).wf = true) : -9223372036854775808 ≤ a ∧ a < 9223372036854775808 := by
  simp [Lit.wf, IntKind.min, IntKind.max, IntKind.signed, IntKind.bits] at h
  omega
theorem cell_block_lt {w : World} {a : Addr} {v : Value} (h : w.cell? a = some v) : a.block < w.heap.size := by
  unfold World.cell? at h
  cases hh : w.heap[a.block]? with
  | none => rw [hh] at h; cases h
  | some o => exact (Array.getElem?_eq_some_iff.1 hh).1
theorem add_zero' (a : Addr) : a.add 0 = a := by
  unfold Addr.add
  rw [if_pos rfl]
set_option maxRecDepth 100000 in
/-- A sentinel on the list: its variable holds an interface value. -/
theorem sentinel_var {n : String} {g : Nat} {text : List UInt8} {r : List (String × DataW Unit)} {W : World} (h : laidMet Tryz.prog ((n, .iface "*errors.errorString" (.ptr (.agg [.lit (.string text)]))) :: r) W)
    (hg : Tryz.prog.globalNamed n = some g) (ht : (Tryz.prog.globals[g]?).map (·.type) = some 45) : ∃ tp p, W.var? Tryz.prog n = some #[.iface tp p] := by
  obtain ⟨ms, hi⟩ := es_iface
  obtain ⟨f, he, hft, hfo⟩ := es_struct
  obtain ⟨ps, ⟨g0, t0, cs0, f0, p0, q0, hg0, ht0, hv0, hd0, _, e0⟩, _, hrows⟩ := h
  obtain rfl := Option.some.inj (hg.symm.trans hg0)
  obtain rfl := Option.some.inj (ht.symm.trans ht0)
  subst e0
  obtain ⟨l0⟩ := cs0
  have ok0 : ∀ u v, l0 = [.iface u v] → Value.okWide Tryz.prog W .any 0 u v := fun u v e => by
    subst e
    exact (hrows g 0 (by simp [MemPlace.row])).2 u v (by simpa using World.var?_cell hg0 hv0 0)
  obtain ⟨a0, s0, rfl, hc0, hs0, hz0, rfl⟩ := errorString_of_trod hi es_row Tryz.underlying197 he hft hfo Tryz.underlying9 es_cells es_string hd0 ok0
  exact ⟨_, _, hv0⟩
set_option maxRecDepth 100000 in
theorem gR : Tryz.prog.globalNamed "strconv.ErrRange" = some 5 := by kernel_rfl
set_option maxRecDepth 100000 in
theorem tR : (Tryz.prog.globals[5]?).map (·.type) = some 45 := by kernel_rfl
end Go.Proofs.YtffaefdnlgfdbaaGreatDoor
