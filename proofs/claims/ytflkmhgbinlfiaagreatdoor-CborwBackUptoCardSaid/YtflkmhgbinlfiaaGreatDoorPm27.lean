/- The texts CbH, CrL, RangeA, put together. -/
import Derived.Test.YtflkmhgbinlfiaaGreatDoorPm26
import Derived.Test.YtflkmhgbinlfiaaGreatDoorPm24
import Derived.Test.YtflkmhgbinlfiaaGreatDoorPm11
import Derived.Test.YtflkmhgbinlfiaaGreatDoorPm20
namespace Go.Proofs.YtflkmhgbinlfiaaGreatDoor
open Go.RowKit Go.Shelf

theorem okCL_of : ∀ {l : List Tr}, (∀ t ∈ l, okC t) → okCL l
  | [], _ => by
    rw [okCL]
    trivial
  | t :: l, h => by
    rw [okCL]
    exact ⟨h t (by simp), okCL_of (fun s hs => h s (by simp [hs]))⟩
theorem allL_mem : ∀ {l : List Tr} {t : Tr}, allL l = true → t ∈ l → allB t = true
  | [], _, _, h => absurd h (by simp)
  | s :: l, t, h, hm => by
    rw [allL, Bool.and_eq_true] at h
    rcases List.mem_cons.1 hm with rfl | hm
    · exact h.1
    · exact allL_mem h.2 hm
theorem fitL_mem {f : Int} {fl : Own → Bool} : ∀ {l : List Tr} {t : Tr}, fitL f fl l = true → t ∈ l → fitT f fl t = true
  | [], _, _, h => absurd h (by simp)
  | s :: l, t, h, hm => by
    rw [fitL, Bool.and_eq_true] at h
    rcases List.mem_cons.1 hm with rfl | hm
    · exact h.1
    · exact fitL_mem h.2 hm
/-- A tree that lies in memory, and is right, and fits. -/
theorem okC_of_at {W : World} {S : Nat → Prop} (t : Tr) : ∀ (d : Nat) (x : Value), LAt W S d t.kids x → OwnOk t.own → allB t = true → fitT 2 flC t = true → okC t :=
  Tr.rec (motive_1 := fun t => ∀ (d : Nat) (x : Value), LAt W S d t.kids x → OwnOk t.own → allB t = true → fitT 2 flC t = true → okC t)
    (motive_2 := fun l => ∀ t ∈ l, ∀ (d : Nat) (x : Value), LAt W S d t.kids x → OwnOk t.own → allB t = true → fitT 2 flC t = true → okC t)
    (fun o l ih d x hl ho ha hf => by
      rw [allB, Bool.and_eq_true] at ha
      rw [fitT, Bool.and_eq_true] at hf
      rw [okC]
      refine ⟨⟨ha.1, hf.1, ho, by have := hl.slice.1; exact Nat.lt_of_le_of_lt this (by decide)⟩, okCL_of (fun s hs => ?_)⟩
      obtain ⟨i, hi, rfl⟩ := List.mem_iff_getElem.1 hs
      obtain ⟨_, A, c, rfl⟩ := hl.slice
      obtain ⟨d', a, x', _, _, _, hoi, _, hli⟩ := hl.at_ hi
      exact ih _ hs d' x' hli hoi (allL_mem ha.2 hs) (fitL_mem hf.2 hs))
    (fun _ h => absurd h (by simp))
    (fun _ _ h1 h2 s hs => (List.mem_cons.1 hs).elim (fun e => by rw [e]; exact h1) (h2 s)) t
theorem item_len {x : Nat × Nat × Nat} (h : HdOk x) : (itemL x).length ≤ 9 := by
  unfold itemL extraN
  rw [List.length_cons, beBytes_length]
  have := h.info
  split
  · omega
  · have : ∀ m, m ≤ 3 → 2 ^ m ≤ 8 := fun m hm => Nat.pow_le_pow_right (show 0 < 2 by decide) hm
    have := this (x.2.1 - 24) (by omega)
    omega
theorem tx_len {o : Own} {l : List Tr} (h : NodeC o l) : (txO o).length ≤ 400 := by
  unfold txO
  split
  · rename_i hk
    rcases h.shape with ⟨h, _⟩ | ⟨h, _⟩ | ⟨neg, m, h, hm, _⟩ | ⟨h, hw, _⟩ | ⟨h, hs, _, _⟩ | ⟨h, hs, _⟩ | ⟨h⟩ | ⟨h, _, _, _⟩ | ⟨h, _⟩ | ⟨h, _, _⟩
    all_goals first | exact hs | (rw [h] at hk; simp at hk)
  · exact Nat.zero_le _
mutual
theorem cbT_bound : ∀ t : Tr, okC t → (cbT t).length ≤ 409 * t.count
  | .nd o l, h => by
    rw [okC] at h
    have h1 := item_len (hd_facts h.1).1
    have h2 := tx_len h.1
    have h3 := cbL_bound l h.2
    rw [cbT, List.length_append, List.length_append, Tr.count]
    omega
theorem cbL_bound : ∀ l : List Tr, okCL l → (cbL l).length ≤ 409 * countL l
  | [], _ => by simp [cbL]
  | t :: l, h => by
    rw [okCL] at h
    have h1 := cbT_bound t h.1
    have h2 := cbL_bound l h.2
    rw [cbL, List.length_append, countL]
    omega
end
theorem listAt_one {W : World} {B d : Nat} {t : Tr} {x : Value} (hl : ListAt W B d t.kids x) (ho : OwnOk t.own) {k : Nat} (hk : Blk W k (cellsV t.own x) 28) (hB : B ≤ k + 1) : ListAt W (k + 1) (d + 1) [t] (.slice (some ⟨k, 0, none⟩) 1 1) := by
  refine ⟨_, _, rfl, ⟨by simp, by simp⟩, fun i hi => ?_⟩
  have : i = 0 := by simpa using hi
  subst this
  refine ⟨_, x, rfl, Nat.lt_succ_self k, ho, fun j u hu => ?_, hl.mono (fun q hq => Nat.lt_of_lt_of_le hq hB)⟩
  have hc := hk.cell j
  have he : (cellsV t.own x)[j]? = some u := by
    rw [← hu]
    unfold cellsV nodeCells
    simp
  rw [← he, ← hc]
  have ha : (⟨k, 0, none⟩ : Addr).add (0 * 9 + j) = ⟨k, j, none⟩ := by
    unfold Addr.add
    split
    · have : j = 0 := by omega
      rw [this]
    · simp
  rw [ha]

set_option maxHeartbeats 4000000 in
set_option maxRecDepth 100000 in
theorem cb_written (l : List Tr) (A : Option Addr) (n c : Nat) (w : World) (B d : Nat) (aT aF : Addr) (hl : ListAt w B d l (.slice A n c)) (hB : B ≤ w.heap.size) (hG : GW w aT aF) (hok : okCL l) (hlen : (cbL l).length ≤ 900000000) (hn : l.length = n) (hne : l ≠ []) :
    Calls Tryz.prog 29 #[.slice A n c] w fun e w' => e = .returned (.string ⟨(cbL l).toArray⟩) ∧ Below w.heap.size w w' := by
  have hb1 : Below w.heap.size w (w.alloc (.cells #[.pointer none, .slice none 0 0] 106)) := (Below.refl _ _).alloc (Nat.le_refl _) _
  have hI0 : IsW w.heap.size w.heap.size (Lib.byteCells []) (w.alloc (.cells #[.pointer none, .slice none 0 0] 106)) := Lib.IsBuilderF.of (Lib.fresh_isBuilder 106 5 w)
  have hll := cbL_len l
  have hne' : cbL l ≠ [] := fun e => by
    rw [e] at hll
    exact hne (List.length_eq_zero_iff.1 (Nat.le_zero.1 hll))
  have HA := Lib.hid (all_C l B w.heap.size w.heap.size d [] A n c w _ aT aF hl hB (Nat.le_refl _) hb1 hI0 hG hok (by simpa using hlen) hn (by omega))
  have HS := Lib.hid (fun W (h : WP w.heap.size w.heap.size ([] ++ cbL l) (w.alloc (.cells #[.pointer none, .slice none 0 0] 106)) W) => wb_String w.heap.size w.heap.size (cbL l) W h.is hne')
  obtain ⟨out, hout⟩ : ∃ out, cbL l = out := ⟨_, rfl⟩
  rw [hout] at HA ⊢
  simp only [hout] at HS
  clear hI0 hne' hl hG hok hlen hll hne hout
  go_enter Tryz.func29, Tryz.ntmps29
  go_wp2_with fail
  refine HA.out.mono ?_
  rintro e W1 ⟨rfl, h1⟩
  go_wp2_with fail
  refine (HS.out W1 h1).mono ?_
  rintro e W2 ⟨rfl, h2⟩
  have hb3 := (hb1.trans h1.below).trans h2
  go_wp2_with fail
  go_ret
  exact ⟨rfl, hb3⟩

theorem check_ok {f : Int} {fl : Own → Bool} {t : Tr} (h : checkT f fl t = 0) : t.count ≤ 300 ∧ t.depth ≤ 16 ∧ allB t = true ∧ fitT f fl t = true := by
  unfold checkT at h
  split at h
  · rename_i hr
    split at h
    · rename_i hf
      unfold rightT at hr
      simp only [Bool.and_eq_true, decide_eq_true_iff] at hr
      exact ⟨hr.1, hr.2.1, hr.2.2, hf⟩
    · cases h
  · cases h
/-- What Write tells. -/
def wroteC (t : Tr) (e : Int) : ByteArray := if e = 0 then ⟨(cbT t).toArray⟩ else ⟨#[]⟩

set_option maxHeartbeats 4000000 in
set_option maxRecDepth 100000 in
theorem cb_Write (t : Tr) (x : Value) (w : World) (B d : Nat) (aT aF : Addr) (hl : ListAt w B d t.kids x) (ho : OwnOk t.own) (hB : B ≤ w.heap.size) (hc : t.count ≤ 1000000000) (h : GW w aT aF) :
    Calls Tryz.prog 20 #[nodeV t.own x] w fun e w' => e = .returned (.tuple #[.string (wroteC t (checkT 2 flC t)), .int .i64 (checkT 2 flC t)]) ∧ Below w.heap.size w w' := by
  have hb1 : Below w.heap.size w (w.alloc (.cells (cellsV t.own x) 28)) := (Below.refl _ _).alloc (Nat.le_refl _) _
  have hk1 := Blk.new w (cellsV t.own x) 28
  have HC := Lib.hid (tree_Check 2 flC (fits_at_C aT aF) t x _ B d (hl.below hb1 hB) ho (Nat.le_trans hB hb1.size) hc (h.below hb1))
  have HW := Lib.hid (fun W (hW : Below w.heap.size w W) (h0 : checkT 2 flC t = 0) => cb_written [t] (some ⟨W.heap.size, 0, none⟩) 1 1 (W.alloc (.cells (cellsV t.own x) 28)) (W.heap.size + 1) (d + 1) aT aF
    (listAt_one ((hl.below hW hB).below ((Below.refl _ W).alloc (Nat.le_refl _) _) (Nat.le_trans hB hW.size)) ho (Blk.new _ _ _) (by have := hW.size; omega)) (by simp) ((h.below hW).below ((Below.refl _ W).alloc (Nat.le_refl _) _))
    (okCL_of (fun s hs => by
      rw [List.mem_singleton.1 hs]
      obtain ⟨_, _, h3, h4⟩ := check_ok h0
      exact okC_of_at t d x hl ho h3 h4)) (by
      obtain ⟨h2, _, h3, h4⟩ := check_ok h0
      have := cbT_bound t (okC_of_at t d x hl ho h3 h4)
      show (cbT t ++ []).length ≤ _
      rw [List.append_nil]
      omega) rfl (by simp))
  have hcc : ∀ s, cbL [s] = cbT s := fun s => by
    show cbT s ++ [] = _
    rw [List.append_nil]
  simp only [hcc] at HW
  have HCC := Lib.hid (check_cases 2 flC t)
  unfold wroteC
  obtain ⟨ct, hct⟩ : ∃ ct, cbT t = ct := ⟨_, rfl⟩
  obtain ⟨ck, hck⟩ : ∃ ck, checkT 2 flC t = ck := ⟨_, rfl⟩
  rw [hck] at HC HCC ⊢
  simp only [hct, hck] at HW
  rw [hct]
  clear hl ho hB hc h hct hck hcc
  obtain ⟨⟨kind, b, neg, dg, ex, u, wd, s⟩, ho'⟩ : ∃ o, t.own = o := ⟨_, rfl⟩
  simp only [ho'] at HC HW hk1 hb1
  rw [ho']
  unfold nodeV at HC ⊢
  unfold cellsV at HC HW hk1 hb1
  simp only [] at HC HW hk1 hb1 ⊢
  have z0 := hk1.cell 0
  have z1 := hk1.cell 1
  have z2 := hk1.cell 2
  have z3 := hk1.cell 3
  have z4 := hk1.cell 4
  have z5 := hk1.cell 5
  have z6 := hk1.cell 6
  have z7 := hk1.cell 7
  have z8 := hk1.cell 8
  clear ho'
  go_enter Tryz.func20, Tryz.ntmps20
  go_wp2_with fail
  refine HC.out.mono ?_
  rintro e w2 ⟨rfl, hb⟩
  have hb2 := hb1.trans (hb.mono hb1.size)
  have hk2 := hk1.below hb hk1.lt
  clear z0 z1 z2 z3 z4 z5 z6 z7 z8 hb hk1 hb1 HC
  have z0 := hk2.cell 0
  have z1 := hk2.cell 1
  have z2 := hk2.cell 2
  have z3 := hk2.cell 3
  have z4 := hk2.cell 4
  have z5 := hk2.cell 5
  have z6 := hk2.cell 6
  have z7 := hk2.cell 7
  have z8 := hk2.cell 8
  by_cases h0 : ck = 0
  · have HW2 := Lib.hid (HW.out w2 hb2 h0)
    have HB2 := Lib.hid (hb2.trans (((Below.refl _ w2).alloc (o := .cells #[.int .i64 kind, .bool b, .bool neg, .string dg, .int .i64 ex, .int .u64 u, .int .i64 wd, .string s, x] 28) (Nat.le_refl _)).mono hb2.size))
    subst h0
    clear HW hb2 hk2
    go_wp2_with fail
    refine HW2.out.mono ?_
    rintro e w3 ⟨rfl, hb⟩
    have hb3 := HB2.out.trans (hb.mono HB2.out.size)
    clear z0 z1 z2 z3 z4 z5 z6 z7 z8 hb HW2 HB2
    go_wp2_with fail
    refine bodyPost_ret (v := .tuple #[.string ⟨ct.toArray⟩, .int .i64 0]) (by simp [results, Tryz.results20, go_sem]) rfl ⟨by simp, hb3⟩
  · have y1 : ¬ ck = 0 := h0
    clear HW
    go_wp2_with fail
    refine bodyPost_ret (v := .tuple #[.string ⟨#[]⟩, .int .i64 ck]) (by simp [results, Tryz.results20, go_sem]) rfl ⟨rfl, hb2⟩
end Go.Proofs.YtflkmhgbinlfiaaGreatDoor
namespace Go.Proofs.YtflkmhgbinlfiaaGreatDoor
open Go.RowKit Go.Shelf

/-- The contract of item, so deep at most, in worlds that have grown from w0. -/
def ItemC (w0 : World) (F d : Nat) : Prop := ∀ (p : Nat) (s : ByteArray) (w : World), Below w0.heap.size w0 w → w0.heap.size ≤ p → RdB w p s (16 - d) → s.size ≤ 1000000000 → s.size < F →
  Calls Tryz.prog 24 #[.pointer (some ⟨p, 0, none⟩)] w (ReadN p (16 - d) d w s (itemP F d s.data.toList))
theorem LAt_one {W : World} {S : Nat → Prop} {d k : Nat} {t : Tr} {x : Value} (hl : LAt W S d t.kids x) (ho : OwnOk t.own) (hk : Blk W k (cellsV t.own x) 28) (hS : S k) : LAt W S (d + 1) [t] (.slice (some ⟨k, 0, none⟩) 1 1) := by
  refine ⟨_, _, rfl, ⟨by simp, by simp⟩, fun i hi => ?_⟩
  have : i = 0 := by simpa using hi
  subst this
  refine ⟨_, x, rfl, hS, ho, fun j u hu => ?_, hl⟩
  have ha : ∀ m, (⟨k, 0, none⟩ : Addr).add m = ⟨k, m, none⟩ := fun m => by
    unfold Addr.add
    split
    · rename_i e
      rw [e]
    · simp
  rw [ha, hk.cell, Nat.zero_mul, Nat.zero_add, ← hu]
  unfold cellsV nodeCells
  simp
theorem below_of_grown {w0 w w' : World} {p : Nat} (hb : Below w0.heap.size w0 w) (hp : w0.heap.size ≤ p) (hlt : p < w.heap.size) (hg : w.grownBy w' (some p)) : Below w0.heap.size w0 w' := hb.trans (grown_below hg hp hlt)

set_option maxHeartbeats 4000000 in
set_option maxRecDepth 100000 in
theorem cr_tag {w0 : World} (F d p : Nat) (h : Nat × Nat × Nat) (hI : ItemC w0 F d) (s : ByteArray) (w : World) (hb0 : Below w0.heap.size w0 w) (hp : w0.heap.size ≤ p) (hr : RdB w p s (16 - d)) (hs : s.size ≤ 1000000000) (hF : s.size < F) (hu : h.2.2 < 18446744073709551616) :
    Calls Tryz.prog 71 #[.pointer (some ⟨p, 0, none⟩), startV h] w (ReadN p (16 - d) (d + 1) w s (bindP (itemP F d) (fun t => pureP (tagT h.2.2 t)) s.data.toList)) := by
  obtain ⟨hm, hi, ha⟩ := h
  simp only [] at hu
  obtain ⟨dp, hdp⟩ : ∃ dp, 16 - d = dp := ⟨_, rfl⟩
  have HIT := Lib.hid (fun W (hb : Below w0.heap.size w0 W) (hR : RdB W p s (16 - d)) => hI p s W hb hp hR hs hF)
  rw [hdp] at HIT hr ⊢
  have hb1 := (Below.refl w.heap.size w).alloc (Nat.le_refl _) (.cells #[.int .i64 hm, .int .i64 hi, .int .u64 ha] 88)
  have hb2 := hb1.alloc hb1.size (.cells #[.int .i64 0, .bool false, .bool false, .string ⟨#[]⟩, .int .i64 0, .int .u64 0, .int .i64 0, .string ⟨#[]⟩, .slice none 0 0] 28)
  have hk1 := (Blk.new w #[.int .i64 hm, .int .i64 hi, .int .u64 ha] 88).alloc (.cells #[.int .i64 0, .bool false, .bool false, .string ⟨#[]⟩, .int .i64 0, .int .u64 0, .int .i64 0, .string ⟨#[]⟩, .slice none 0 0] 28)
  have hk2 := Blk.new (w.alloc (.cells #[.int .i64 hm, .int .i64 hi, .int .u64 ha] 88)) #[.int .i64 0, .bool false, .bool false, .string ⟨#[]⟩, .int .i64 0, .int .u64 0, .int .i64 0, .string ⟨#[]⟩, .slice none 0 0] 28
  have hr2 := (hr.alloc (.cells #[.int .i64 hm, .int .i64 hi, .int .u64 ha] 88)).alloc (.cells #[.int .i64 0, .bool false, .bool false, .string ⟨#[]⟩, .int .i64 0, .int .u64 0, .int .i64 0, .string ⟨#[]⟩, .slice none 0 0] 28)
  rw [World.size_alloc] at hk2
  have hplt := hr.lt
  have hbb := (hb0.alloc hb0.size (.cells #[.int .i64 hm, .int .i64 hi, .int .u64 ha] 88)).alloc (by have := hb0.size; simp; omega) (.cells #[.int .i64 0, .bool false, .bool false, .string ⟨#[]⟩, .int .i64 0, .int .u64 0, .int .i64 0, .string ⟨#[]⟩, .slice none 0 0] 28)
  obtain ⟨res, hres⟩ : ∃ res, itemP F d s.data.toList = res := ⟨_, rfl⟩
  have hbp := bind_pure (itemP F d) (tagT ha) s.data.toList
  rw [hres] at hbp HIT
  show Calls _ _ _ _ (ReadN p dp (d + 1) w s (bindP (itemP F d) (fun t => pureP (tagT ha t)) s.data.toList))
  rw [hbp]
  have y3 : (ha : Int) < 18446744073709551616 := by omega
  clear hres hbp hb1 hI hdp
  cases res with
  | bad e =>
    have HIT : Hid (∀ W : World, Below w0.heap.size w0 W → RdB W p s dp → Calls Tryz.prog 24 #[.pointer (some ⟨p, 0, none⟩)] W fun x w' => W.grownBy w' (some p) ∧ (∃ o A n c, x = .returned (.tuple #[nodeV o (.slice A n c), errW e])) ∧ e ≠ 0 ∧ ∃ s', RdB w' p s' dp ∧ s'.size ≤ s.size) := HIT
    show Calls _ _ _ _ (ReadN p dp (d + 1) w s (.bad e))
    go_enter Tryz.func71, Tryz.ntmps71
    go_wp2_with fail
    refine (HIT.out _ hbb hr2).mono ?_
    rintro e1 w3 ⟨hg3, ⟨⟨kind3, b3, neg3, dg3, ex3, u3, wd3, s3⟩, A, n, c, rfl⟩, he, s', hr3, hs3⟩
    unfold nodeV
    simp only []
    have hk3 := (RdB.grown hk2 hg3 (by omega)).alloc (.cells #[.int .i64 kind3, .bool b3, .bool neg3, .string dg3, .int .i64 ex3, .int .u64 u3, .int .i64 wd3, .string s3, .slice A n c] 28)
    have hk13 := (RdB.grown hk1 hg3 (by omega)).alloc (.cells #[.int .i64 kind3, .bool b3, .bool neg3, .string dg3, .int .i64 ex3, .int .u64 u3, .int .i64 wd3, .string s3, .slice A n c] 28)
    have hx3 := Blk.new w3 #[.int .i64 kind3, .bool b3, .bool neg3, .string dg3, .int .i64 ex3, .int .u64 u3, .int .i64 wd3, .string s3, .slice A n c] 28
    have hk4 := hk3.alloc (.cells #[.int .i64 kind3, .bool b3, .bool neg3, .string dg3, .int .i64 ex3, .int .u64 u3, .int .i64 wd3, .string s3, .slice A n c] 28)
    have hr4 := (hr3.alloc (.cells #[.int .i64 kind3, .bool b3, .bool neg3, .string dg3, .int .i64 ex3, .int .u64 u3, .int .i64 wd3, .string s3, .slice A n c] 28)).alloc (.cells #[.int .i64 kind3, .bool b3, .bool neg3, .string dg3, .int .i64 ex3, .int .u64 u3, .int .i64 wd3, .string s3, .slice A n c] 28)
    have z2 := hk13.cell 2
    have q0 := hx3.cell 0
    have q1 := hx3.cell 1
    have q2 := hx3.cell 2
    have q3 := hx3.cell 3
    have q4 := hx3.cell 4
    have q5 := hx3.cell 5
    have q6 := hx3.cell 6
    have q7 := hx3.cell 7
    have q8 := hx3.cell 8
    go_wp2_with (refine wpList_store_row rfl 28 (.tmp 4) (.tmp 17) rfl (w.heap.size + 1) #[.int .i64 9, .bool false, .bool false, .string ⟨#[]⟩, .int .i64 0, .int .u64 ha, .int .i64 0, .string ⟨#[]⟩, .slice (some ⟨w3.heap.size + 1, 0, none⟩) 1 1] rfl rfl 28 _ hk4 (by kernel_rfl) rfl (by simp [Value.oneCell']) ?_)
    have hgA : w.grownBy ((w3.alloc (.cells #[.int .i64 kind3, .bool b3, .bool neg3, .string dg3, .int .i64 ex3, .int .u64 u3, .int .i64 wd3, .string s3, .slice A n c] 28)).alloc (.cells #[.int .i64 kind3, .bool b3, .bool neg3, .string dg3, .int .i64 ex3, .int .u64 u3, .int .i64 wd3, .string s3, .slice A n c] 28)) (some p) := grown_of (grown_trans (below_grown hb2 (some p)) hg3) (((Below.refl w3.heap.size w3).alloc (Nat.le_refl _) _).alloc (by simp) _)
    have hg := grown_at hgA (grown_row _ (w.heap.size + 1) #[.int .i64 9, .bool false, .bool false, .string ⟨#[]⟩, .int .i64 0, .int .u64 ha, .int .i64 0, .string ⟨#[]⟩, .slice (some ⟨w3.heap.size + 1, 0, none⟩) 1 1]) (Nat.le_succ w.heap.size)
    refine bodyPost_ret (results_cell (T := 28) rfl rfl rfl (blk_row hk4 #[.int .i64 9, .bool false, .bool false, .string ⟨#[]⟩, .int .i64 0, .int .u64 ha, .int .i64 0, .string ⟨#[]⟩, .slice (some ⟨w3.heap.size + 1, 0, none⟩) 1 1]) Tryz.underlying28 rfl (by kernel_rfl)) rfl ?_
    exact ⟨hg, ⟨{ zeroO with kind := 9, u := ha }, _, _, _, rfl⟩, he, s', blk_row_other hr4 (by omega) _, hs3⟩
  | good t r =>
    have HIT : Hid (∀ W : World, Below w0.heap.size w0 W → RdB W p s dp → Calls Tryz.prog 24 #[.pointer (some ⟨p, 0, none⟩)] W fun x w' => W.grownBy w' (some p) ∧ (∃ A n c, x = .returned (.tuple #[nodeV t.own (.slice A n c), .nilIface]) ∧ LAt w' (fun q => W.heap.size ≤ q ∧ q < w'.heap.size) d t.kids (.slice A n c)) ∧ OwnOk t.own ∧ RdB w' p (bs r) dp ∧ (bs r).size ≤ s.size) := HIT
    show Calls _ _ _ _ (ReadN p dp (d + 1) w s (.good (tagT ha t) r))
    go_enter Tryz.func71, Tryz.ntmps71
    go_wp2_with fail
    refine (HIT.out _ hbb hr2).mono ?_
    rintro e1 w3 ⟨hg3, ⟨A, n, c, rfl, hly⟩, hot, hr3, hs3⟩
    obtain ⟨⟨kind3, b3, neg3, dg3, ex3, u3, wd3, s3⟩, ho3⟩ : ∃ o, t.own = o := ⟨_, rfl⟩
    have HO3 := Lib.hid ho3
    rw [ho3]
    unfold nodeV
    simp only []
    have hk3 := (RdB.grown hk2 hg3 (by omega)).alloc (.cells #[.int .i64 kind3, .bool b3, .bool neg3, .string dg3, .int .i64 ex3, .int .u64 u3, .int .i64 wd3, .string s3, .slice A n c] 28)
    have hk13 := (RdB.grown hk1 hg3 (by omega)).alloc (.cells #[.int .i64 kind3, .bool b3, .bool neg3, .string dg3, .int .i64 ex3, .int .u64 u3, .int .i64 wd3, .string s3, .slice A n c] 28)
    have hx3 := Blk.new w3 #[.int .i64 kind3, .bool b3, .bool neg3, .string dg3, .int .i64 ex3, .int .u64 u3, .int .i64 wd3, .string s3, .slice A n c] 28
    have hx4 := Blk.new (w3.alloc (.cells #[.int .i64 kind3, .bool b3, .bool neg3, .string dg3, .int .i64 ex3, .int .u64 u3, .int .i64 wd3, .string s3, .slice A n c] 28)) #[.int .i64 kind3, .bool b3, .bool neg3, .string dg3, .int .i64 ex3, .int .u64 u3, .int .i64 wd3, .string s3, .slice A n c] 28
    rw [World.size_alloc] at hx4
    have hk4 := hk3.alloc (.cells #[.int .i64 kind3, .bool b3, .bool neg3, .string dg3, .int .i64 ex3, .int .u64 u3, .int .i64 wd3, .string s3, .slice A n c] 28)
    have hr4 := (hr3.alloc (.cells #[.int .i64 kind3, .bool b3, .bool neg3, .string dg3, .int .i64 ex3, .int .u64 u3, .int .i64 wd3, .string s3, .slice A n c] 28)).alloc (.cells #[.int .i64 kind3, .bool b3, .bool neg3, .string dg3, .int .i64 ex3, .int .u64 u3, .int .i64 wd3, .string s3, .slice A n c] 28)
    have z2 := hk13.cell 2
    have HLY := Lib.hid hly
    clear hly ho3
    have q0 := hx3.cell 0
    have q1 := hx3.cell 1
    have q2 := hx3.cell 2
    have q3 := hx3.cell 3
    have q4 := hx3.cell 4
    have q5 := hx3.cell 5
    have q6 := hx3.cell 6
    have q7 := hx3.cell 7
    have q8 := hx3.cell 8
    go_wp2_with (refine wpList_store_row rfl 28 (.tmp 4) (.tmp 17) rfl (w.heap.size + 1) #[.int .i64 9, .bool false, .bool false, .string ⟨#[]⟩, .int .i64 0, .int .u64 ha, .int .i64 0, .string ⟨#[]⟩, .slice (some ⟨w3.heap.size + 1, 0, none⟩) 1 1] rfl rfl 28 _ hk4 (by kernel_rfl) rfl (by simp [Value.oneCell']) ?_)
    have hz3 : w.heap.size + 1 + 1 ≤ w3.heap.size := by
      have := hg3.size
      simpa using this
    have hgA : w.grownBy ((w3.alloc (.cells #[.int .i64 kind3, .bool b3, .bool neg3, .string dg3, .int .i64 ex3, .int .u64 u3, .int .i64 wd3, .string s3, .slice A n c] 28)).alloc (.cells #[.int .i64 kind3, .bool b3, .bool neg3, .string dg3, .int .i64 ex3, .int .u64 u3, .int .i64 wd3, .string s3, .slice A n c] 28)) (some p) := grown_of (grown_trans (below_grown hb2 (some p)) hg3) (((Below.refl w3.heap.size w3).alloc (Nat.le_refl _) _).alloc (by simp) _)
    have hg := grown_at hgA (grown_row _ (w.heap.size + 1) #[.int .i64 9, .bool false, .bool false, .string ⟨#[]⟩, .int .i64 0, .int .u64 ha, .int .i64 0, .string ⟨#[]⟩, .slice (some ⟨w3.heap.size + 1, 0, none⟩) 1 1]) (Nat.le_succ w.heap.size)
    refine bodyPost_ret (results_cell (T := 28) rfl rfl rfl (blk_row hk4 #[.int .i64 9, .bool false, .bool false, .string ⟨#[]⟩, .int .i64 0, .int .u64 ha, .int .i64 0, .string ⟨#[]⟩, .slice (some ⟨w3.heap.size + 1, 0, none⟩) 1 1]) Tryz.underlying28 rfl (by kernel_rfl)) rfl ?_
    refine ⟨hg, ⟨_, _, _, rfl, ?_⟩, own_u 9 ha 0 (by decide) hu (by decide), blk_row_other hr4 (by omega) _, hs3⟩
    have hbA : Below w3.heap.size w3 ((w3.alloc (.cells #[.int .i64 kind3, .bool b3, .bool neg3, .string dg3, .int .i64 ex3, .int .u64 u3, .int .i64 wd3, .string s3, .slice A n c] 28)).alloc (.cells #[.int .i64 kind3, .bool b3, .bool neg3, .string dg3, .int .i64 ex3, .int .u64 u3, .int .i64 wd3, .string s3, .slice A n c] 28)) := ((Below.refl w3.heap.size w3).alloc (Nat.le_refl _) _).alloc (by simp) _
    have hl2 := (HLY.out.keep (fun q hq => hbA.block q hq.2)).keep (W' := ((w3.alloc (.cells #[.int .i64 kind3, .bool b3, .bool neg3, .string dg3, .int .i64 ex3, .int .u64 u3, .int .i64 wd3, .string s3, .slice A n c] 28)).alloc (.cells #[.int .i64 kind3, .bool b3, .bool neg3, .string dg3, .int .i64 ex3, .int .u64 u3, .int .i64 wd3, .string s3, .slice A n c] 28)).setRow (w.heap.size + 1) #[.int .i64 9, .bool false, .bool false, .string ⟨#[]⟩, .int .i64 0, .int .u64 ha, .int .i64 0, .string ⟨#[]⟩, .slice (some ⟨w3.heap.size + 1, 0, none⟩) 1 1]) (fun q hq => setRow_other _ _ _ _ (by have := hq.1; simp only [World.size_alloc] at this; omega))
    refine LAt_one (t := t) (hl2.mono (fun q hq => ?_)) hot ?_ ?_
    · have h1 := hq.1
      have h2 := hq.2
      simp only [World.size_alloc] at h1
      refine ⟨by omega, ?_⟩
      rw [setRow_size]
      simp only [World.size_alloc]
      omega
    · rw [HO3.out]
      exact blk_row_other hx4 (by omega) _
    · refine ⟨by omega, ?_⟩
      rw [setRow_size]
      simp only [World.size_alloc]
      omega
end Go.Proofs.YtflkmhgbinlfiaaGreatDoor
namespace Go.Proofs.YtflkmhgbinlfiaaGreatDoor
open Go.RowKit Go.Shelf

/-- The contract of an iterator that may write between two rounds. -/
def SeqA {α : Type} (P : Program) (g : Nat) (lb : Array Value) (encs : α → Array Value) (Mv Kp : World → World → Prop) (Ct : α → Prop) (T : List α → World → World → Prop) (S Sp : List α → World → Prop) (A0 : World → Prop) : Prop :=
  ∀ (l : Nat) (J Jx : List α → World → Prop) (W : World), A0 W → (∀ s A B, J s A → Mv A B → J s B) → (∀ s A B, Jx s A → Mv A B → Jx s B) →
    (∀ pre x A W1, J pre A → Mv A W1 → J pre W1 → T (pre ++ [x]) A W1 → YieldAt Fence.wide 7 P l (encs x) W1 fun e W' =>
      (e = .returned (.bool true) ∧ Ct x ∧ J (pre ++ [x]) W' ∧ Kp W1 W') ∨ (e = .returned (.bool false) ∧ Jx (pre ++ [x]) W')) →
    J [] W →
    CallsIn Fence.wide 8 P g (#[.func (.yield l) #[] #[]] ++ lb) W fun e W' => (∃ v, e = .returned v) ∧ ((∃ xs, S xs W' ∧ J xs W') ∨ (∃ pre, Sp pre W' ∧ Jx pre W'))

/-- The statement, outside every fence. -/
theorem wp_rangeFuncA {P : Program} {α : Type} {g : Operand} {ps : Array Tmp} {assign body : Code} {Q : Exit → Act → World → Prop} {a : Act} {w : World}
    {gf : Nat} {lb : Array Value} (hg : a.eval g = .func (.func gf) #[] lb) (eg : ∀ args w, (callFunc gf args).run P w = .ok (.enter gf args) w)
    {encs : α → Array Value} {Mv Kp : World → World → Prop} {Ct : α → Prop} {T : List α → World → World → Prop} {S Sp : List α → World → Prop} {A0 : World → Prop} (hseq : SeqA P gf lb encs Mv Kp Ct T S Sp A0)
    (hMv : ∀ (A B : World) (k : Nat) (o : Obj), Mv A B → w.heap.size ≤ k → A.heap[k]? = some o → o.isCells = false → B.heap[k]? = some o)
    (hA0 : ∀ o o', A0 ((w.alloc o).alloc o'))
    (hKt : ∀ {A B C : World}, Kp A B → Kp B C → Kp A C) (hKb : ∀ (W : World) (l : Nat) (o o' : Obj), w.heap.size ≤ l → W.heap[l]? = some o → o.isCells = false → Kp W (W.putObj l o')) (hps : ∀ x, (encs x).size = ps.size)
    (I : List α → World → Prop) (Ix : Code → List α → World → Prop) (hI : OwnFrom w.heap.size I) (hIx : ∀ c, OwnFrom w.heap.size (Ix c))
    (hIM : ∀ s A B, I s A → Mv A B → I s B) (hIxM : ∀ c s A B, Ix c s A → Mv A B → Ix c s B) (h0 : I [] w) (hCt : ∀ pre x W, I (pre ++ [x]) W → Ct x)
    (Ax : Array Value → List α → α → Act → World → Prop) (hAx : ∀ pre x a', OwnFrom w.heap.size (fun (_ : Unit) W => Ax a.tmps pre x a' W))
    (hassign : ∀ (l : Nat) (pre : List α) (x : α) (A W : World) (K : Act → World → Prop), I pre A → Mv A W → I pre W → T (pre ++ [x]) A W → (∀ a' W', KeepsFrom w.heap.size W W' → Kp W W' → I pre W' → Ax a.tmps pre x a' W' → K a' W') →
      assign.wpIn (Fence.wide.inRound l) 7 P (Exit.then K (fun _ _ _ => False)) { tmps := (ps.zip (encs x)).foldl (fun t (p, v) => t.setIfInBounds p v) a.tmps, defers := [] } W)
    (hbody : ∀ (l : Nat) (pre : List α) (x : α) (a' : Act) (W : World), w.heap.size ≤ l → (∃ r, W.heap[l]? = some (.loop r)) → I pre W → Ax a.tmps pre x a' W → body.wpIn (Fence.wide.inRound l) 7 P (ownPostG w.heap.size Kp I Ix (pre ++ [x]) W) a' W)
    (hS : OwnFrom w.heap.size S) (hSp : OwnFrom w.heap.size Sp)
    (hdone : ∀ (D : Nat) (xs : List α) (W : World), w.heap.size ≤ D → S xs W → I xs W → W.heap[D]? = some (.deferred (some [])) → Q .normal { a with defers := { target := .collected D, args := #[] } :: a.defers } W)
    (hstop : ∀ (D : Nat) (c : Code) (pre : List α) (W : World), w.heap.size ≤ D → Sp pre W → Ix c pre W → W.heap[D]? = some (.deferred (some [])) → c.wp P Q { a with defers := { target := .collected D, args := #[] } :: a.defers } W) :
    (Code.rangeFunc g ps assign body).wp P Q a w := by
  refine (wpIn_wide (n := 9)).1 ?_
  refine wpIn_rangeFunc ?_
  intro fn hfn
  rw [show Fence.wide.round = none from rfl]
  obtain ⟨rec, hrec⟩ : ∃ rec : LoopState → Option Code → Loop, rec = fun st pe => { state := st, pending := pe, fn, tmps := a.tmps, params := ps, assign, body, defers := w.heap.size } := ⟨_, rfl⟩
  obtain ⟨W1, hW1⟩ : ∃ W1, (w.alloc (.deferred (some []))).alloc (.loop (rec .ready none)) = W1 := ⟨_, rfl⟩
  have hL1 : W1.heap[w.heap.size + 1]? = some (.loop (rec .ready none)) := by
    have h := World.alloc_heap_new (w.alloc (.deferred (some []))) (.loop (rec .ready none))
    rw [World.size_alloc] at h
    rw [← hW1]
    exact h
  have hK1 : W1.heap[w.heap.size]? = some (.deferred (some [])) := by
    rw [← hW1]
    exact (Below.heap_alloc _ _ _ (by simp)).trans (World.alloc_heap_new w _)
  have hI1 : I [] W1 := by rw [← hW1]; exact hI.alloc _ (hI.alloc _ h0)
  have hA1 : A0 W1 := by rw [← hW1]; exact hA0 _ _
  refine ⟨w.heap.size + 1, [{ target := .collected w.heap.size, args := #[] }], W1, { target := .fn (.func gf) lb, args := #[.func (.yield (w.heap.size + 1)) #[] #[]] }, W1, gf,
    #[.func (.yield (w.heap.size + 1)) #[] #[]] ++ lb, W1, ?_, ?_, ?_, ?_, fun _ => by omega, ?_⟩
  · rw [← hW1, hrec]
    exact run_enterLoop_outer _ _ _ _ _
  · simp only [resolve, hg]
    simp [go_sem]
  · intro f' _
    exact trivial
  · simp [invoke, go_sem, eg]
  · refine (hseq (w.heap.size + 1)
      (fun pre W => I pre W ∧ W.heap[w.heap.size + 1]? = some (.loop (rec .ready none)) ∧ W.heap[w.heap.size]? = some (.deferred (some [])))
      (fun pre W => ∃ c, Ix c pre W ∧ W.heap[w.heap.size + 1]? = some (.loop (rec .done (some c))) ∧ W.heap[w.heap.size]? = some (.deferred (some [])))
      W1 hA1
      (fun s A B hs hm => ⟨hIM s A B hs.1 hm, hMv A B _ _ hm (by omega) hs.2.1 rfl, hMv A B _ _ hm (by omega) hs.2.2 rfl⟩)
      (fun s A B hs hm => by
        obtain ⟨c, hc, hl, hk⟩ := hs
        exact ⟨c, hIxM c s A B hc hm, hMv A B _ _ hm (by omega) hl rfl, hMv A B _ _ hm (by omega) hk rfl⟩)
      ?_ ⟨hI1, hL1, hK1⟩).mono ?_
    · rintro pre x A W ⟨hiA, _, _⟩ hmv ⟨hi, hl, hk⟩ hT
      have hy := run_yield (P := P) (args := encs x) hl (by rw [hrec]; exact hps x)
      rw [hrec] at hy
      refine ⟨fn, _, assign, body, hy, roundIn_of_wpIn hfn (hassign _ pre x A W _ hiA hmv hi hT ?_)⟩
      intro a' Wa hkfa hkpa hia hax
      have hla := hkfa.same _ _ (by omega) hl rfl
      have hka := hkfa.same _ _ (Nat.le_refl _) hk rfl
      have hlt : w.heap.size + 1 < Wa.heap.size := (Array.getElem?_eq_some_iff.1 hla).1
      refine ⟨_, run_beginRound hla (by rw [hrec]), ?_⟩
      have hl2 : (Wa.putObj (w.heap.size + 1) (.loop { rec .ready none with state := .busy })).heap[w.heap.size + 1]? = some (.loop { rec .ready none with state := .busy }) := World.putObj_heap_same hlt
      have hk2 : (Wa.putObj (w.heap.size + 1) (.loop { rec .ready none with state := .busy })).heap[w.heap.size]? = some (.deferred (some [])) := (World.putObj_heap_other (by omega)).trans hka
      have hw2 : Kp Wa (Wa.putObj (w.heap.size + 1) (.loop { rec .ready none with state := .busy })) := hKb _ _ _ _ (by omega) hla rfl
      refine wpIn_mono (hbody _ pre x a' _ (by omega) ⟨_, hl2⟩ (hI.putObj _ hia (by omega) hla rfl) ((hAx pre x a').putObj (s := ()) _ hax (by omega) hla rfl)) ?_
      have fin : ∀ (jump : Option Code) (W3 : World), KeepsFrom w.heap.size (Wa.putObj (w.heap.size + 1) (.loop { rec .ready none with state := .busy })) W3 →
          (Instr.endRound (w.heap.size + 1) jump).run P W3 = .ok (.bool jump.isNone) (W3.putObj (w.heap.size + 1) (.loop (rec (if jump.isNone then .ready else .done) jump))) ∧
          W3.heap[w.heap.size + 1]? = some (.loop { rec .ready none with state := .busy }) ∧
          (W3.putObj (w.heap.size + 1) (.loop (rec (if jump.isNone then .ready else .done) jump))).heap[w.heap.size + 1]? = some (.loop (rec (if jump.isNone then .ready else .done) jump)) ∧
          (W3.putObj (w.heap.size + 1) (.loop (rec (if jump.isNone then .ready else .done) jump))).heap[w.heap.size]? = some (.deferred (some [])) := fun jump W3 hk3 => by
        have hl3 := hk3.same _ _ (by omega) hl2 rfl
        have hr := run_endRound (P := P) jump hl3
        rw [hrec] at hr ⊢
        exact ⟨hr, by rw [hrec] at hl3; exact hl3, World.putObj_heap_same (Array.getElem?_eq_some_iff.1 hl3).1, (World.putObj_heap_other (by omega)).trans (hk3.same _ _ (Nat.le_refl _) hk2 rfl)⟩
      rintro e a3 W3 hp
      cases e with
      | normal =>
        obtain ⟨hk3, hkp3, hi3⟩ := hp
        obtain ⟨hr, hl3, hl4, hk4⟩ := fin none W3 hk3
        exact ⟨_, _, hr, .inl ⟨rfl, hCt _ _ _ hi3, ⟨hI.putObj _ hi3 (by omega) hl3 rfl, hl4, hk4⟩, hKt hkpa (hKt (hKt hw2 hkp3) (hKb _ _ _ _ (by omega) hl3 rfl))⟩⟩
      | ret =>
        obtain ⟨hk3, hi3⟩ := hp
        obtain ⟨hr, hl3, hl4, hk4⟩ := fin (some .ret) W3 hk3
        exact ⟨_, _, hr, .inr ⟨rfl, .ret, (hIx _).putObj _ hi3 (by omega) hl3 rfl, hl4, hk4⟩⟩
      | exit id =>
        obtain ⟨hk3, hi3⟩ := hp
        obtain ⟨hr, hl3, hl4, hk4⟩ := fin (some (.exit id)) W3 hk3
        exact ⟨_, _, hr, .inr ⟨rfl, .exit id, (hIx _).putObj _ hi3 (by omega) hl3 rfl, hl4, hk4⟩⟩
      | goto t =>
        obtain ⟨hk3, hi3⟩ := hp
        obtain ⟨hr, hl3, hl4, hk4⟩ := fin (some (.goto t)) W3 hk3
        exact ⟨_, _, hr, .inr ⟨rfl, .goto t, (hIx _).putObj _ hi3 (by omega) hl3 rfl, hl4, hk4⟩⟩
      | panic ch => exact hp.elim
      | outgrown => exact hp.elim
    · rintro e W2 ⟨⟨v, rfl⟩, (⟨xs, hs, hi, hl, hk⟩ | ⟨pre, hs, c, hi, hl, hk⟩)⟩
      · exact ⟨none, _, by have h := run_endLoop (P := P) hl (by rw [hrec]; simp); rw [hrec] at h; exact h, hdone _ xs _ (Nat.le_refl _) (hS.putObj _ hs (by omega) hl rfl) (hI.putObj _ hi (by omega) hl rfl) ((World.putObj_heap_other (by omega)).trans hk)⟩
      · exact ⟨some c, _, by have h := run_endLoop (P := P) hl (by rw [hrec]; simp); rw [hrec] at h; exact h, wpIn_wide.2 (hstop _ c pre _ (Nat.le_refl _) (hSp.putObj _ hs (by omega) hl rfl) ((hIx c).putObj _ hi (by omega) hl rfl) ((World.putObj_heap_other (by omega)).trans hk))⟩
end Go.Proofs.YtflkmhgbinlfiaaGreatDoor
