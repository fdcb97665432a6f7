/- The texts CbH, put together. -/
import Derived.Test.YtffaefdnlgfdbaaGreatDoorPk39
import Derived.Test.YtffaefdnlgfdbaaGreatDoorPk31
/- cborw: written; Write. -/
namespace Go.Proofs.YtffaefdnlgfdbaaGreatDoor
open Go.RowKit Go.Shelf

theorem okCL_of : ∀ {l : List Tr}, (∀ t ∈ l, okC t) → okCL l
  | [], _ => by
    rw [okCL]
    trivial
  | t :: l, h => by
    rw [okCL]
    exact ⟨h t (by simp), okCL_of (fun s hs => h s (by simp [hs]))⟩
theorem allL_mem : ∀ {l : List Tr} {t : Tr}, allL l = true → t ∈ l → allB t = true
  | [], _, _, h => absurd h (by simp)
  | s :: l, t, h, hm => by
    rw [allL, Bool.and_eq_true] at h
    rcases List.mem_cons.1 hm with rfl | hm
    · exact h.1
    · exact allL_mem h.2 hm
theorem fitL_mem {f : Int} {fl : Own → Bool} : ∀ {l : List Tr} {t : Tr}, fitL f fl l = true → t ∈ l → fitT f fl t = true
  | [], _, _, h => absurd h (by simp)
  | s :: l, t, h, hm => by
    rw [fitL, Bool.and_eq_true] at h
    rcases List.mem_cons.1 hm with rfl | hm
    · exact h.1
    · exact fitL_mem h.2 hm
/-- A tree that lies in memory, and is right, and fits. -/
theorem okC_of_at {W : World} {S : Nat → Prop} (t : Tr) : ∀ (d : Nat) (x : Value), LAt W S d t.kids x → OwnOk t.own → allB t = true → fitT 2 flC t = true → okC t :=
  Tr.rec (motive_1 := fun t => ∀ (d : Nat) (x : Value), LAt W S d t.kids x → OwnOk t.own → allB t = true → fitT 2 flC t = true → okC t)
    (motive_2 := fun l => ∀ t ∈ l, ∀ (d : Nat) (x : Value), LAt W S d t.kids x → OwnOk t.own → allB t = true → fitT 2 flC t = true → okC t)
    (fun o l ih d x hl ho ha hf => by
      rw [allB, Bool.and_eq_true] at ha
      rw [fitT, Bool.and_eq_true] at hf
      rw [okC]
      refine ⟨⟨ha.1, hf.1, ho, by have := hl.slice.1; exact Nat.lt_of_le_of_lt this (by decide)⟩, okCL_of (fun s hs => ?_)⟩
      obtain ⟨i, hi, rfl⟩ := List.mem_iff_getElem.1 hs
      obtain ⟨_, A, c, rfl⟩ := hl.slice
      obtain ⟨d', a, x', _, _, _, hoi, _, hli⟩ := hl.at_ hi
      exact ih _ hs d' x' hli hoi (allL_mem ha.2 hs) (fitL_mem hf.2 hs))
    (fun _ h => absurd h (by simp))
    (fun _ _ h1 h2 s hs => (List.mem_cons.1 hs).elim (fun e => by rw [e]; exact h1) (h2 s)) t
theorem item_len {x : Nat × Nat × Nat} (h : HdOk x) : (itemL x).length ≤ 9 := by
  unfold itemL extraN
  rw [List.length_cons, beBytes_length]
  have := h.info
  split
  · omega
  · have : ∀ m, m ≤ 3 → 2 ^ m ≤ 8 := fun m hm => Nat.pow_le_pow_right (show 0 < 2 by decide) hm
    have := this (x.2.1 - 24) (by omega)
    omega
theorem tx_len {o : Own} {l : List Tr} (h : NodeC o l) : (txO o).length ≤ 400 := by
  unfold txO
  split
  · rename_i hk
    rcases h.shape with ⟨h, _⟩ | ⟨h, _⟩ | ⟨neg, m, h, hm, _⟩ | ⟨h, hw, _⟩ | ⟨h, hs, _, _⟩ | ⟨h, hs, _⟩ | ⟨h⟩ | ⟨h, _, _, _⟩ | ⟨h, _⟩ | ⟨h, _, _⟩
    all_goals first | exact hs | (rw [h] at hk; simp at hk)
  · exact Nat.zero_le _
mutual
theorem cbT_bound : ∀ t : Tr, okC t → (cbT t).length ≤ 409 * t.count
  | .nd o l, h => by
    rw [okC] at h
    have h1 := item_len (hd_facts h.1).1
    have h2 := tx_len h.1
    have h3 := cbL_bound l h.2
    rw [cbT, List.length_append, List.length_append, Tr.count]
    omega
theorem cbL_bound : ∀ l : List Tr, okCL l → (cbL l).length ≤ 409 * countL l
  | [], _ => by simp [cbL]
  | t :: l, h => by
    rw [okCL] at h
    have h1 := cbT_bound t h.1
    have h2 := cbL_bound l h.2
    rw [cbL, List.length_append, countL]
    omega
end
theorem listAt_one {W : World} {B d : Nat} {t : Tr} {x : Value} (hl : ListAt W B d t.kids x) (ho : OwnOk t.own) {k : Nat} (hk : Blk W k (cellsV t.own x) 27) (hB : B ≤ k + 1) : ListAt W (k + 1) (d + 1) [t] (.slice (some ⟨k, 0, none⟩) 1 1) := by
  refine ⟨_, _, rfl, ⟨by simp, by simp⟩, fun i hi => ?_⟩
  have : i = 0 := by simpa using hi
  subst this
  refine ⟨_, x, rfl, Nat.lt_succ_self k, ho, fun j u hu => ?_, hl.mono (fun q hq => Nat.lt_of_lt_of_le hq hB)⟩
  have hc := hk.cell j
  have he : (cellsV t.own x)[j]? = some u := by
    rw [← hu]
    unfold cellsV nodeCells
    simp
  rw [← he, ← hc]
  have ha : (⟨k, 0, none⟩ : Addr).add (0 * 9 + j) = ⟨k, j, none⟩ := by
    unfold Addr.add
    split
    · have : j = 0 := by omega
      rw [this]
    · simp
  rw [ha]

set_option maxHeartbeats 4000000 in
set_option maxRecDepth 100000 in
theorem cb_written (l : List Tr) (A : Option Addr) (n c : Nat) (w : World) (B d : Nat) (aT aF : Addr) (hl : ListAt w B d l (.slice A n c)) (hB : B ≤ w.heap.size) (hG : GW w aT aF) (hok : okCL l) (hlen : (cbL l).length ≤ 900000000) (hn : l.length = n) (hne : l ≠ []) :
    Calls Tryz.prog 19 #[.slice A n c] w fun e w' => e = .returned (.string ⟨(cbL l).toArray⟩) ∧ Below w.heap.size w w' := by
  have hb1 : Below w.heap.size w (w.alloc (.cells #[.pointer none, .slice none 0 0] 58)) := (Below.refl _ _).alloc (Nat.le_refl _) _
  have hI0 : IsW w.heap.size w.heap.size (Lib.byteCells []) (w.alloc (.cells #[.pointer none, .slice none 0 0] 58)) := Lib.IsBuilderF.of (Lib.fresh_isBuilder 58 5 w)
  have hll := cbL_len l
  have hne' : cbL l ≠ [] := fun e => by
    rw [e] at hll
    exact hne (List.length_eq_zero_iff.1 (Nat.le_zero.1 hll))
  have HA := Lib.hid (all_C l B w.heap.size w.heap.size d [] A n c w _ aT aF hl hB (Nat.le_refl _) hb1 hI0 hG hok (by simpa using hlen) hn (by omega))
  have HS := Lib.hid (fun W (h : WP w.heap.size w.heap.size ([] ++ cbL l) (w.alloc (.cells #[.pointer none, .slice none 0 0] 58)) W) => wb_String w.heap.size w.heap.size (cbL l) W h.is hne')
  obtain ⟨out, hout⟩ : ∃ out, cbL l = out := ⟨_, rfl⟩
  rw [hout] at HA ⊢
  simp only [hout] at HS
  clear hI0 hne' hl hG hok hlen hll hne hout
  go_enter Tryz.func19, Tryz.ntmps19
  go_wp2_with fail
  refine HA.out.mono ?_
  rintro e W1 ⟨rfl, h1⟩
  go_wp2_with fail
  refine (HS.out W1 h1).mono ?_
  rintro e W2 ⟨rfl, h2⟩
  have hb3 := (hb1.trans h1.below).trans h2
  go_wp2_with fail
  go_ret
  exact ⟨rfl, hb3⟩

theorem check_ok {f : Int} {fl : Own → Bool} {t : Tr} (h : checkT f fl t = 0) : t.count ≤ 300 ∧ t.depth ≤ 16 ∧ allB t = true ∧ fitT f fl t = true := by
  unfold checkT at h
  split at h
  · rename_i hr
    split at h
    · rename_i hf
      unfold rightT at hr
      simp only [Bool.and_eq_true, decide_eq_true_iff] at hr
      exact ⟨hr.1, hr.2.1, hr.2.2, hf⟩
    · cases h
  · cases h
/-- What Write tells. -/
def wroteC (t : Tr) (e : Int) : ByteArray := if e = 0 then ⟨(cbT t).toArray⟩ else ⟨#[]⟩

set_option maxHeartbeats 4000000 in
set_option maxRecDepth 100000 in
theorem cb_Write (t : Tr) (x : Value) (w : World) (B d : Nat) (aT aF : Addr) (hl : ListAt w B d t.kids x) (ho : OwnOk t.own) (hB : B ≤ w.heap.size) (hc : t.count ≤ 1000000000) (h : GW w aT aF) :
    Calls Tryz.prog 9 #[nodeV t.own x] w fun e w' => e = .returned (.tuple #[.string (wroteC t (checkT 2 flC t)), .int .i64 (checkT 2 flC t)]) ∧ Below w.heap.size w w' := by
  have hb1 : Below w.heap.size w (w.alloc (.cells (cellsV t.own x) 27)) := (Below.refl _ _).alloc (Nat.le_refl _) _
  have hk1 := Blk.new w (cellsV t.own x) 27
  have HC := Lib.hid (tree_Check 2 flC (fits_at_C aT aF) t x _ B d (hl.below hb1 hB) ho (Nat.le_trans hB hb1.size) hc (h.below hb1))
  have HW := Lib.hid (fun W (hW : Below w.heap.size w W) (h0 : checkT 2 flC t = 0) => cb_written [t] (some ⟨W.heap.size, 0, none⟩) 1 1 (W.alloc (.cells (cellsV t.own x) 27)) (W.heap.size + 1) (d + 1) aT aF
    (listAt_one ((hl.below hW hB).below ((Below.refl _ W).alloc (Nat.le_refl _) _) (Nat.le_trans hB hW.size)) ho (Blk.new _ _ _) (by have := hW.size; omega)) (by simp) ((h.below hW).below ((Below.refl _ W).alloc (Nat.le_refl _) _))
    (okCL_of (fun s hs => by
      rw [List.mem_singleton.1 hs]
      obtain ⟨_, _, h3, h4⟩ := check_ok h0
      exact okC_of_at t d x hl ho h3 h4)) (by
      obtain ⟨h2, _, h3, h4⟩ := check_ok h0
      have := cbT_bound t (okC_of_at t d x hl ho h3 h4)
      show (cbT t ++ []).length ≤ _
      rw [List.append_nil]
      omega) rfl (by simp))
  have hcc : ∀ s, cbL [s] = cbT s := fun s => by
    show cbT s ++ [] = _
    rw [List.append_nil]
  simp only [hcc] at HW
  have HCC := Lib.hid (check_cases 2 flC t)
  unfold wroteC
  obtain ⟨ct, hct⟩ : ∃ ct, cbT t = ct := ⟨_, rfl⟩
  obtain ⟨ck, hck⟩ : ∃ ck, checkT 2 flC t = ck := ⟨_, rfl⟩
  rw [hck] at HC HCC ⊢
  simp only [hct, hck] at HW
  rw [hct]
  clear hl ho hB hc h hct hck hcc
  obtain ⟨⟨kind, b, neg, dg, ex, u, wd, s⟩, ho'⟩ : ∃ o, t.own = o := ⟨_, rfl⟩
  simp only [ho'] at HC HW hk1 hb1
  rw [ho']
  unfold nodeV at HC ⊢
  unfold cellsV at HC HW hk1 hb1
  simp only [] at HC HW hk1 hb1 ⊢
  have z0 := hk1.cell 0
  have z1 := hk1.cell 1
  have z2 := hk1.cell 2
  have z3 := hk1.cell 3
  have z4 := hk1.cell 4
  have z5 := hk1.cell 5
  have z6 := hk1.cell 6
  have z7 := hk1.cell 7
  have z8 := hk1.cell 8
  clear ho'
  go_enter Tryz.func9, Tryz.ntmps9
  go_wp2_with fail
  refine HC.out.mono ?_
  rintro e w2 ⟨rfl, hb⟩
  have hb2 := hb1.trans (hb.mono hb1.size)
  have hk2 := hk1.below hb hk1.lt
  clear z0 z1 z2 z3 z4 z5 z6 z7 z8 hb hk1 hb1 HC
  have z0 := hk2.cell 0
  have z1 := hk2.cell 1
  have z2 := hk2.cell 2
  have z3 := hk2.cell 3
  have z4 := hk2.cell 4
  have z5 := hk2.cell 5
  have z6 := hk2.cell 6
  have z7 := hk2.cell 7
  have z8 := hk2.cell 8
  by_cases h0 : ck = 0
  · have HW2 := Lib.hid (HW.out w2 hb2 h0)
    have HB2 := Lib.hid (hb2.trans (((Below.refl _ w2).alloc (o := .cells #[.int .i64 kind, .bool b, .bool neg, .string dg, .int .i64 ex, .int .u64 u, .int .i64 wd, .string s, x] 27) (Nat.le_refl _)).mono hb2.size))
    subst h0
    clear HW hb2 hk2
    go_wp2_with fail
    refine HW2.out.mono ?_
    rintro e w3 ⟨rfl, hb⟩
    have hb3 := HB2.out.trans (hb.mono HB2.out.size)
    clear z0 z1 z2 z3 z4 z5 z6 z7 z8 hb HW2 HB2
    go_wp2_with fail
    refine bodyPost_ret (v := .tuple #[.string ⟨ct.toArray⟩, .int .i64 0]) (by simp [results, Tryz.results9, go_sem]) rfl ⟨by simp, hb3⟩
  · have y1 : ¬ ck = 0 := h0
    clear HW
    go_wp2_with fail
    refine bodyPost_ret (v := .tuple #[.string ⟨#[]⟩, .int .i64 ck]) (by simp [results, Tryz.results9, go_sem]) rfl ⟨rfl, hb2⟩
end Go.Proofs.YtffaefdnlgfdbaaGreatDoor
