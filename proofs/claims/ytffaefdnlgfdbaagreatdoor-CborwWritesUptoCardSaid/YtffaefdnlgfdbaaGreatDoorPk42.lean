/- The texts CbH, HeadF, HeadG, WrD, put together. -/
import Derived.Test.YtffaefdnlgfdbaaGreatDoorPk41
import Derived.Test.YtffaefdnlgfdbaaGreatDoorPk34
import Derived.Test.YtffaefdnlgfdbaaGreatDoorPk35
import Derived.Outline
import Derived.Test.YtffaefdnlgfdbaaGreatDoorPk18
/- cborw: written; Write. -/
namespace Go.Proofs.YtffaefdnlgfdbaaGreatDoor
open Go.RowKit Go.Shelf

theorem okCL_of : ∀ {l : List Tr}, (∀ t ∈ l, okC t) → okCL l
  | [], _ => by
    rw [okCL]
    trivial
  | t :: l, h => by
    rw [okCL]
    exact ⟨h t (by simp), okCL_of (fun s hs => h s (by simp [hs]))⟩
theorem allL_mem : ∀ {l : List Tr} {t : Tr}, allL l = true → t ∈ l → allB t = true
  | [], _, _, h => absurd h (by simp)
  | s :: l, t, h, hm => by
    rw [allL, Bool.and_eq_true] at h
    rcases List.mem_cons.1 hm with rfl | hm
    · exact h.1
    · exact allL_mem h.2 hm
theorem fitL_mem {f : Int} {fl : Own → Bool} : ∀ {l : List Tr} {t : Tr}, fitL f fl l = true → t ∈ l → fitT f fl t = true
  | [], _, _, h => absurd h (by simp)
  | s :: l, t, h, hm => by
    rw [fitL, Bool.and_eq_true] at h
    rcases List.mem_cons.1 hm with rfl | hm
    · exact h.1
    · exact fitL_mem h.2 hm
/-- A tree that lies in memory, and is right, and fits. -/
theorem okC_of_at {W : World} {S : Nat → Prop} (t : Tr) : ∀ (d : Nat) (x : Value), LAt W S d t.kids x → OwnOk t.own → allB t = true → fitT 2 flC t = true → okC t :=
  Tr.rec (motive_1 := fun t => ∀ (d : Nat) (x : Value), LAt W S d t.kids x → OwnOk t.own → allB t = true → fitT 2 flC t = true → okC t)
    (motive_2 := fun l => ∀ t ∈ l, ∀ (d : Nat) (x : Value), LAt W S d t.kids x → OwnOk t.own → allB t = true → fitT 2 flC t = true → okC t)
    (fun o l ih d x hl ho ha hf => by
      rw [allB, Bool.and_eq_true] at ha
      rw [fitT, Bool.and_eq_true] at hf
      rw [okC]
      refine ⟨⟨ha.1, hf.1, ho, by have := hl.slice.1; exact Nat.lt_of_le_of_lt this (by decide)⟩, okCL_of (fun s hs => ?_)⟩
      obtain ⟨i, hi, rfl⟩ := List.mem_iff_getElem.1 hs
      obtain ⟨_, A, c, rfl⟩ := hl.slice
      obtain ⟨d', a, x', _, _, _, hoi, _, hli⟩ := hl.at_ hi
      exact ih _ hs d' x' hli hoi (allL_mem ha.2 hs) (fitL_mem hf.2 hs))
    (fun _ h => absurd h (by simp))
    (fun _ _ h1 h2 s hs => (List.mem_cons.1 hs).elim (fun e => by rw [e]; exact h1) (h2 s)) t
theorem item_len {x : Nat × Nat × Nat} (h : HdOk x) : (itemL x).length ≤ 9 := by
  unfold itemL extraN
  rw [List.length_cons, beBytes_length]
  have := h.info
  split
  · omega
  · have : ∀ m, m ≤ 3 → 2 ^ m ≤ 8 := fun m hm => Nat.pow_le_pow_right (show 0 < 2 by decide) hm
    have := this (x.2.1 - 24) (by omega)
    omega
theorem tx_len {o : Own} {l : List Tr} (h : NodeC o l) : (txO o).length ≤ 400 := by
  unfold txO
  split
  · rename_i hk
    rcases h.shape with ⟨h, _⟩ | ⟨h, _⟩ | ⟨neg, m, h, hm, _⟩ | ⟨h, hw, _⟩ | ⟨h, hs, _, _⟩ | ⟨h, hs, _⟩ | ⟨h⟩ | ⟨h, _, _, _⟩ | ⟨h, _⟩ | ⟨h, _, _⟩
    all_goals first | exact hs | (rw [h] at hk; simp at hk)
  · exact Nat.zero_le _
mutual
theorem cbT_bound : ∀ t : Tr, okC t → (cbT t).length ≤ 409 * t.count
  | .nd o l, h => by
    rw [okC] at h
    have h1 := item_len (hd_facts h.1).1
    have h2 := tx_len h.1
    have h3 := cbL_bound l h.2
    rw [cbT, List.length_append, List.length_append, Tr.count]
    omega
theorem cbL_bound : ∀ l : List Tr, okCL l → (cbL l).length ≤ 409 * countL l
  | [], _ => by simp [cbL]
  | t :: l, h => by
    rw [okCL] at h
    have h1 := cbT_bound t h.1
    have h2 := cbL_bound l h.2
    rw [cbL, List.length_append, countL]
    omega
end
theorem listAt_one {W : World} {B d : Nat} {t : Tr} {x : Value} (hl : ListAt W B d t.kids x) (ho : OwnOk t.own) {k : Nat} (hk : Blk W k (cellsV t.own x) 27) (hB : B ≤ k + 1) : ListAt W (k + 1) (d + 1) [t] (.slice (some ⟨k, 0, none⟩) 1 1) := by
  refine ⟨_, _, rfl, ⟨by simp, by simp⟩, fun i hi => ?_⟩
  have : i = 0 := by simpa using hi
  subst this
  refine ⟨_, x, rfl, Nat.lt_succ_self k, ho, fun j u hu => ?_, hl.mono (fun q hq => Nat.lt_of_lt_of_le hq hB)⟩
  have hc := hk.cell j
  have he : (cellsV t.own x)[j]? = some u := by
    rw [← hu]
    unfold cellsV nodeCells
    simp
  rw [← he, ← hc]
  have ha : (⟨k, 0, none⟩ : Addr).add (0 * 9 + j) = ⟨k, j, none⟩ := by
    unfold Addr.add
    split
    · have : j = 0 := by omega
      rw [this]
    · simp
  rw [ha]

set_option maxHeartbeats 4000000 in
set_option maxRecDepth 100000 in
theorem cb_written (l : List Tr) (A : Option Addr) (n c : Nat) (w : World) (B d : Nat) (aT aF : Addr) (hl : ListAt w B d l (.slice A n c)) (hB : B ≤ w.heap.size) (hG : GW w aT aF) (hok : okCL l) (hlen : (cbL l).length ≤ 900000000) (hn : l.length = n) (hne : l ≠ []) :
    Calls Tryz.prog 19 #[.slice A n c] w fun e w' => e = .returned (.string ⟨(cbL l).toArray⟩) ∧ Below w.heap.size w w' := by
  have hb1 : Below w.heap.size w (w.alloc (.cells #[.pointer none, .slice none 0 0] 58)) := (Below.refl _ _).alloc (Nat.le_refl _) _
  have hI0 : IsW w.heap.size w.heap.size (Lib.byteCells []) (w.alloc (.cells #[.pointer none, .slice none 0 0] 58)) := Lib.IsBuilderF.of (Lib.fresh_isBuilder 58 5 w)
  have hll := cbL_len l
  have hne' : cbL l ≠ [] := fun e => by
    rw [e] at hll
    exact hne (List.length_eq_zero_iff.1 (Nat.le_zero.1 hll))
  have HA := Lib.hid (all_C l B w.heap.size w.heap.size d [] A n c w _ aT aF hl hB (Nat.le_refl _) hb1 hI0 hG hok (by simpa using hlen) hn (by omega))
  have HS := Lib.hid (fun W (h : WP w.heap.size w.heap.size ([] ++ cbL l) (w.alloc (.cells #[.pointer none, .slice none 0 0] 58)) W) => wb_String w.heap.size w.heap.size (cbL l) W h.is hne')
  obtain ⟨out, hout⟩ : ∃ out, cbL l = out := ⟨_, rfl⟩
  rw [hout] at HA ⊢
  simp only [hout] at HS
  clear hI0 hne' hl hG hok hlen hll hne hout
  go_enter Tryz.func19, Tryz.ntmps19
  go_wp2_with fail
  refine HA.out.mono ?_
  rintro e W1 ⟨rfl, h1⟩
  go_wp2_with fail
  refine (HS.out W1 h1).mono ?_
  rintro e W2 ⟨rfl, h2⟩
  have hb3 := (hb1.trans h1.below).trans h2
  go_wp2_with fail
  go_ret
  exact ⟨rfl, hb3⟩

theorem check_ok {f : Int} {fl : Own → Bool} {t : Tr} (h : checkT f fl t = 0) : t.count ≤ 300 ∧ t.depth ≤ 16 ∧ allB t = true ∧ fitT f fl t = true := by
  unfold checkT at h
  split at h
  · rename_i hr
    split at h
    · rename_i hf
      unfold rightT at hr
      simp only [Bool.and_eq_true, decide_eq_true_iff] at hr
      exact ⟨hr.1, hr.2.1, hr.2.2, hf⟩
    · cases h
  · cases h
/-- What Write tells. -/
def wroteC (t : Tr) (e : Int) : ByteArray := if e = 0 then ⟨(cbT t).toArray⟩ else ⟨#[]⟩

set_option maxHeartbeats 4000000 in
set_option maxRecDepth 100000 in
theorem cb_Write (t : Tr) (x : Value) (w : World) (B d : Nat) (aT aF : Addr) (hl : ListAt w B d t.kids x) (ho : OwnOk t.own) (hB : B ≤ w.heap.size) (hc : t.count ≤ 1000000000) (h : GW w aT aF) :
    Calls Tryz.prog 9 #[nodeV t.own x] w fun e w' => e = .returned (.tuple #[.string (wroteC t (checkT 2 flC t)), .int .i64 (checkT 2 flC t)]) ∧ Below w.heap.size w w' := by
  have hb1 : Below w.heap.size w (w.alloc (.cells (cellsV t.own x) 27)) := (Below.refl _ _).alloc (Nat.le_refl _) _
  have hk1 := Blk.new w (cellsV t.own x) 27
  have HC := Lib.hid (tree_Check 2 flC (fits_at_C aT aF) t x _ B d (hl.below hb1 hB) ho (Nat.le_trans hB hb1.size) hc (h.below hb1))
  have HW := Lib.hid (fun W (hW : Below w.heap.size w W) (h0 : checkT 2 flC t = 0) => cb_written [t] (some ⟨W.heap.size, 0, none⟩) 1 1 (W.alloc (.cells (cellsV t.own x) 27)) (W.heap.size + 1) (d + 1) aT aF
    (listAt_one ((hl.below hW hB).below ((Below.refl _ W).alloc (Nat.le_refl _) _) (Nat.le_trans hB hW.size)) ho (Blk.new _ _ _) (by have := hW.size; omega)) (by simp) ((h.below hW).below ((Below.refl _ W).alloc (Nat.le_refl _) _))
    (okCL_of (fun s hs => by
      rw [List.mem_singleton.1 hs]
      obtain ⟨_, _, h3, h4⟩ := check_ok h0
      exact okC_of_at t d x hl ho h3 h4)) (by
      obtain ⟨h2, _, h3, h4⟩ := check_ok h0
      have := cbT_bound t (okC_of_at t d x hl ho h3 h4)
      show (cbT t ++ []).length ≤ _
      rw [List.append_nil]
      omega) rfl (by simp))
  have hcc : ∀ s, cbL [s] = cbT s := fun s => by
    show cbT s ++ [] = _
    rw [List.append_nil]
  simp only [hcc] at HW
  have HCC := Lib.hid (check_cases 2 flC t)
  unfold wroteC
  obtain ⟨ct, hct⟩ : ∃ ct, cbT t = ct := ⟨_, rfl⟩
  obtain ⟨ck, hck⟩ : ∃ ck, checkT 2 flC t = ck := ⟨_, rfl⟩
  rw [hck] at HC HCC ⊢
  simp only [hct, hck] at HW
  rw [hct]
  clear hl ho hB hc h hct hck hcc
  obtain ⟨⟨kind, b, neg, dg, ex, u, wd, s⟩, ho'⟩ : ∃ o, t.own = o := ⟨_, rfl⟩
  simp only [ho'] at HC HW hk1 hb1
  rw [ho']
  unfold nodeV at HC ⊢
  unfold cellsV at HC HW hk1 hb1
  simp only [] at HC HW hk1 hb1 ⊢
  have z0 := hk1.cell 0
  have z1 := hk1.cell 1
  have z2 := hk1.cell 2
  have z3 := hk1.cell 3
  have z4 := hk1.cell 4
  have z5 := hk1.cell 5
  have z6 := hk1.cell 6
  have z7 := hk1.cell 7
  have z8 := hk1.cell 8
  clear ho'
  go_enter Tryz.func9, Tryz.ntmps9
  go_wp2_with fail
  refine HC.out.mono ?_
  rintro e w2 ⟨rfl, hb⟩
  have hb2 := hb1.trans (hb.mono hb1.size)
  have hk2 := hk1.below hb hk1.lt
  clear z0 z1 z2 z3 z4 z5 z6 z7 z8 hb hk1 hb1 HC
  have z0 := hk2.cell 0
  have z1 := hk2.cell 1
  have z2 := hk2.cell 2
  have z3 := hk2.cell 3
  have z4 := hk2.cell 4
  have z5 := hk2.cell 5
  have z6 := hk2.cell 6
  have z7 := hk2.cell 7
  have z8 := hk2.cell 8
  by_cases h0 : ck = 0
  · have HW2 := Lib.hid (HW.out w2 hb2 h0)
    have HB2 := Lib.hid (hb2.trans (((Below.refl _ w2).alloc (o := .cells #[.int .i64 kind, .bool b, .bool neg, .string dg, .int .i64 ex, .int .u64 u, .int .i64 wd, .string s, x] 27) (Nat.le_refl _)).mono hb2.size))
    subst h0
    clear HW hb2 hk2
    go_wp2_with fail
    refine HW2.out.mono ?_
    rintro e w3 ⟨rfl, hb⟩
    have hb3 := HB2.out.trans (hb.mono HB2.out.size)
    clear z0 z1 z2 z3 z4 z5 z6 z7 z8 hb HW2 HB2
    go_wp2_with fail
    refine bodyPost_ret (v := .tuple #[.string ⟨ct.toArray⟩, .int .i64 0]) (by simp [results, Tryz.results9, go_sem]) rfl ⟨by simp, hb3⟩
  · have y1 : ¬ ck = 0 := h0
    clear HW
    go_wp2_with fail
    refine bodyPost_ret (v := .tuple #[.string ⟨#[]⟩, .int .i64 ck]) (by simp [results, Tryz.results9, go_sem]) rfl ⟨rfl, hb2⟩
end Go.Proofs.YtffaefdnlgfdbaaGreatDoor
/- The walks of targumref10: extra, info, Size, IsShort, Make. -/
namespace Go.Proofs.YtffaefdnlgfdbaaGreatDoor
open Go.RowKit Go.Shelf

theorem ref_extra' (m : Int) (k : Nat) (hk : (m < 24 ∧ k = 0) ∨ (24 ≤ m ∧ m < 256 ∧ k = 1) ∨ (256 ≤ m ∧ m < 65536 ∧ k = 2) ∨ (65536 ≤ m ∧ m < 4294967296 ∧ k = 4) ∨ (4294967296 ≤ m ∧ k = 8)) (w : World) :
    Calls Tryz.prog 86 #[.int .u64 m] w fun e w' => e = .returned (.int .i64 (k : Nat)) ∧ w = w' := by
  rcases hk with ⟨h1, rfl⟩ | ⟨h1, h2, rfl⟩ | ⟨h1, h2, rfl⟩ | ⟨h1, h2, rfl⟩ | ⟨h1, rfl⟩
  · go_enter Tryz.func86, Tryz.ntmps86
    go_wp2
    go_ret
    exact ⟨rfl, rfl⟩
  · go_enter Tryz.func86, Tryz.ntmps86
    go_wp2
    go_ret
    exact ⟨rfl, rfl⟩
  · go_enter Tryz.func86, Tryz.ntmps86
    go_wp2
    go_ret
    exact ⟨rfl, rfl⟩
  · go_enter Tryz.func86, Tryz.ntmps86
    go_wp2
    go_ret
    exact ⟨rfl, rfl⟩
  · go_enter Tryz.func86, Tryz.ntmps86
    go_wp2
    go_ret
    exact ⟨rfl, rfl⟩
theorem ref_extra (n : Nat) (w : World) : Calls Tryz.prog 86 #[.int .u64 n] w fun e w' => e = .returned (.int .i64 ((leastN n).2 : Nat)) ∧ w = w' := by
  refine ref_extra' n (leastN n).2 ?_ w
  by_cases h0 : n < 24
  · rw [leastN_small n h0]; exact .inl ⟨by omega, rfl⟩
  · by_cases h1 : n < 256
    · rw [leastN_1 n h0 h1]; exact .inr (.inl ⟨by omega, by omega, rfl⟩)
    · by_cases h2 : n < 65536
      · rw [leastN_2 n h1 h2]; exact .inr (.inr (.inl ⟨by omega, by omega, rfl⟩))
      · by_cases h3 : n < 4294967296
        · rw [leastN_4 n h2 h3]; exact .inr (.inr (.inr (.inl ⟨by omega, by omega, rfl⟩)))
        · rw [leastN_8 n h3]; exact .inr (.inr (.inr (.inr ⟨by omega, rfl⟩)))

def infoOf (k : Nat) : Nat := if k = 1 then 24 else if k = 2 then 25 else if k = 4 then 26 else 27
theorem ref_info (k : Nat) (hk : k = 1 ∨ k = 2 ∨ k = 4 ∨ k = 8) (w : World) : Calls Tryz.prog 87 #[.int .i64 k] w fun e w' => e = .returned (.int .i64 (infoOf k : Nat)) ∧ w = w' := by
  rcases hk with rfl | rfl | rfl | rfl <;>
  · go_enter Tryz.func87, Tryz.ntmps87
    go_wp2
    go_ret
    exact ⟨rfl, rfl⟩

theorem least_info (n : Nat) (h : ¬ n < 24) : ((leastN n).2 = 1 ∨ (leastN n).2 = 2 ∨ (leastN n).2 = 4 ∨ (leastN n).2 = 8) ∧ infoOf (leastN n).2 = (leastN n).1 := by
  by_cases h1 : n < 256
  · rw [leastN_1 n h h1]; exact ⟨.inl rfl, rfl⟩
  · by_cases h2 : n < 65536
    · rw [leastN_2 n h1 h2]; exact ⟨.inr (.inl rfl), rfl⟩
    · by_cases h3 : n < 4294967296
      · rw [leastN_4 n h2 h3]; exact ⟨.inr (.inr (.inl rfl)), rfl⟩
      · rw [leastN_8 n h3]; exact ⟨.inr (.inr (.inr rfl)), rfl⟩
end Go.Proofs.YtffaefdnlgfdbaaGreatDoor
/- The walk of targumref10.Make. -/
namespace Go.Proofs.YtffaefdnlgfdbaaGreatDoor
open Go.RowKit Go.Shelf

def loBytes (n : Nat) : Nat → List UInt8
  | 0 => []
  | i + 1 => UInt8.ofNat (n / 2 ^ (8 * i)) :: loBytes n i
theorem loBytes_length (n : Nat) : ∀ i, (loBytes n i).length = i
  | 0 => rfl
  | i + 1 => by simp [loBytes, loBytes_length n i]
theorem loBytes_be (n : Nat) : ∀ k, loBytes n k = beBytes n k
  | 0 => rfl
  | k + 1 => by
    rw [loBytes, loBytes_be n k]
    unfold beBytes
    rw [List.range_succ_eq_map, List.map_cons, List.map_map]
    congr 1
    apply List.map_congr_left
    intro i hi
    have : i < k := List.mem_range.1 hi
    simp only [Function.comp, beByte]
    rw [show k + 1 - 1 - (i + 1) = k - 1 - i by omega]

theorem str_cons (a : UInt8) (l : List UInt8) : (⟨#[a]⟩ : ByteArray) ++ ⟨l.toArray⟩ = ⟨(a :: l).toArray⟩ := by
  apply ByteArray.ext
  simp
theorem first_mul (maj i : Nat) : 32 * UInt8.ofNat maj + UInt8.ofNat i = firstByte maj i := by
  unfold firstByte
  simp
theorem lo_byte (n j : Nat) : UInt8.ofNat ((n : Int) / 2 ^ (8 * j) % 256).toNat = UInt8.ofNat (n / 2 ^ (8 * j)) := by
  apply UInt8.toNat_inj.1
  have e : ((n : Int) / 2 ^ (8 * j) % 256) = ((n / 2 ^ (8 * j) % 256 : Nat) : Int) := by
    rw [Int.natCast_emod, Int.natCast_ediv, Int.natCast_pow]; rfl
  rw [e, Int.toNat_natCast, UInt8.toNat_ofNat', UInt8.toNat_ofNat']
  omega

set_option maxRecDepth 100000 in
set_option maxHeartbeats 1000000 in
theorem ref_Make (maj n : Nat) (hmaj : maj ≤ 7) (hn : n < 18446744073709551616) (w : World) :
    Calls Tryz.prog 47 #[.int .i64 maj, .int .u64 n] w fun e w' => e = .returned (.tuple #[.string ⟨(makeL maj n).toArray⟩, .int .i64 0]) ∧ Below w.heap.size w w' := by
  have HE := ref_extra n
  have hcv := run_conv1 (P := Tryz.prog) (src := 54) (dst := 9) Tryz.underlying54 Tryz.underlying5 Tryz.underlying9
  by_cases h : n < 24
  · have hml : makeL maj n = [firstByte maj n] := by unfold makeL; rw [leastN_small n h]; rfl
    rw [hml]
    rw [leastN_small n h] at HE
    have HE := Lib.hid HE
    clear hml
    go_enter Tryz.func47, Tryz.ntmps47
    go_wp2_with fail
    refine (HE.out _).mono ?_
    rintro e w1 ⟨rfl, rfl⟩
    go_wp2_with fail
    go_ret2
    exact ⟨congrArg (fun x => Ending.returned (.tuple #[.string x, .int .i64 0])) rfl, (Below.refl _ _).alloc (Nat.le_refl _) _⟩
  · have hk := least_info n h
    have HI := ref_info _ hk.1
    rw [hk.2] at HI
    have hml : makeL maj n = firstByte maj (leastN n).1 :: loBytes n (leastN n).2 := by rw [loBytes_be]; rfl
    rw [hml]
    have hi27 : (leastN n).1 ≤ 27 := by have := leastOf_cases n (by omega); unfold leastN; simp only []; omega
    generalize (leastN n).2 = k at *
    generalize (leastN n).1 = i at *
    have hk0 : ((k : Int) == 0) = false := by rw [beq_eq_false_iff_ne]; omega
    have hk8 : k ≤ 8 := by omega
    have HE := Lib.hid HE
    have HI := Lib.hid HI
    clear hk hml
    go_enter Tryz.func47, Tryz.ntmps47
    go_wp2_with fail
    refine (HE.out _).mono ?_
    rintro e w1 ⟨rfl, rfl⟩
    go_wp2_with fail
    go_loopw [7, 8] (fun s7 s8 wr => ∃ j : Nat, j ≤ k ∧ s8 = .int .i64 j ∧ s7 = .string ⟨(loBytes n j).toArray⟩ ∧ Below w.heap.size w wr) (fun _ i _ => (k - intOf i).toNat)
    case atStart => exact ⟨0, by omega, rfl, rfl, Below.refl _ _⟩
    case round =>
      obtain ⟨j, hj, rfl, rfl, hb⟩ := hrel
      by_cases hlt : j < k
      · have hll := loBytes_length n j
        have hl9 : 1 + (loBytes n j).length ≤ 9223372036854775807 := by omega
        clear hll
        go_wp2_with fail
        go_roundw
        case rel => exact ⟨j + 1, by omega, by go_num, by rw [str_cons, lo_byte]; rfl, hb.alloc hb.size _⟩
        case measure => simp [intOf]; omega
      · obtain rfl : j = k := by omega
        have hll := loBytes_length n j
        have hl9 : 1 + (loBytes n j).length ≤ 9223372036854775807 := by omega
        clear hll
        go_wp2_with fail
        refine (HI.out _).mono ?_
        rintro e w1 ⟨rfl, rfl⟩
        go_wp2_with fail
        go_ret2
        exact ⟨congrArg (fun x => Ending.returned (.tuple #[.string x, .int .i64 0])) (by rw [str_cons, first_mul]), hb.alloc hb.size _⟩

theorem ref_Make_no (maj n : Int) (hmaj : maj < 0 ∨ 7 < maj) (w : World) :
    Calls Tryz.prog 47 #[.int .i64 maj, .int .u64 n] w fun e w' => e = .returned (.tuple #[.string ⟨#[]⟩, .int .i64 2]) ∧ w = w' := by
  rcases hmaj with h | h
  · go_enter Tryz.func47, Tryz.ntmps47
    go_wp2
    go_ret2
    exact ⟨rfl, rfl⟩
  · have h0 : ¬ maj < 0 := by omega
    go_enter Tryz.func47, Tryz.ntmps47
    go_wp2
    go_ret2
    exact ⟨rfl, rfl⟩
end Go.Proofs.YtffaefdnlgfdbaaGreatDoor
/- The reference of layer 12: made, bits, write. Printed by gen_wrd.py. -/
namespace Go.Proofs.YtffaefdnlgfdbaaGreatDoor
open Go.RowKit Go.Shelf

set_option maxHeartbeats 2000000 in
set_option maxRecDepth 100000 in
theorem ref_made (maj n : Nat) (hmaj : maj ≤ 7) (hn : n < 18446744073709551616) (w : World) :
    Calls Tryz.prog 30 #[.int .i64 maj, .int .u64 n] w fun e w' => e = .returned (.string ⟨(makeL maj n).toArray⟩) ∧ Below w.heap.size w w' := by
  have HM := Lib.hid (ref_Make maj n hmaj hn)
  obtain ⟨s, hs⟩ : ∃ s : ByteArray, ⟨(makeL maj n).toArray⟩ = s := ⟨_, rfl⟩
  rw [hs] at HM ⊢
  clear hs
  go_enter Tryz.func30, Tryz.ntmps30
  go_wp2_with fail
  refine (HM.out _).mono ?_
  rintro e w1 ⟨rfl, hb⟩
  go_wp2_with fail
  go_ret
  exact ⟨rfl, hb⟩

set_option maxHeartbeats 4000000 in
set_option maxRecDepth 100000 in
/-- A float's bits: so many bytes, the greatest first. -/
theorem ref_bits (k n : Nat) (hk : k = 2 ∨ k = 4 ∨ k = 8) (kind : Int) (b neg : Bool) (dg : ByteArray) (ex : Int) (s : ByteArray) (x : Value) (w : World) :
    Calls Tryz.prog 31 #[.agg #[.int .i64 kind, .bool b, .bool neg, .string dg, .int .i64 ex, .int .u64 n, .int .i64 ((8 * k : Nat) : Int), .string s, x]] w fun e w' => e = .returned (.string ⟨(beBytes n k).toArray⟩) ∧ Below w.heap.size w w' := by
  obtain ⟨wd, hwd⟩ : ∃ wd : Int, ((8 * k : Nat) : Int) = wd := ⟨_, rfl⟩
  have HW := Lib.hid hwd
  rw [hwd]
  have hk8 : k ≤ 8 := by omega
  have hbx := (Below.refl w.heap.size w).alloc (Nat.le_refl _) (.cells #[.int .i64 kind, .bool b, .bool neg, .string dg, .int .i64 ex, .int .u64 n, .int .i64 wd, .string s, x] 27)
  have hkx := Blk.new w #[.int .i64 kind, .bool b, .bool neg, .string dg, .int .i64 ex, .int .u64 n, .int .i64 wd, .string s, x] 27
  have hcv := run_conv1 (P := Tryz.prog) (src := 54) (dst := 9) Tryz.underlying54 Tryz.underlying5 Tryz.underlying9
  clear hwd hk
  go_enter Tryz.func31, Tryz.ntmps31
  go_wp2_with fail
  go_loopw [3, 4] (fun z i wr => ∃ j : Nat, j ≤ k ∧ i = .int .i64 ((8 * j : Nat) : Int) ∧ z = .string ⟨(loBytes n j).toArray⟩ ∧ Below w.heap.size w wr ∧ Blk wr w.heap.size #[.int .i64 kind, .bool b, .bool neg, .string dg, .int .i64 ex, .int .u64 n, .int .i64 wd, .string s, x] 27) (fun _ i _ => (100 - intOf i).toNat)
  case atStart => exact ⟨0, by omega, rfl, rfl, hbx, hkx⟩
  case round =>
    obtain ⟨j, hj, rfl, rfl, hb, hkk⟩ := hrel
    clear hbx hkx
    have z3 := hkk.cell 5
    have z4 := hkk.cell 6
    by_cases hlt : j < k
    · have hll := loBytes_length n j
      have hl9 : 1 + (loBytes n j).length ≤ 9223372036854775807 := by omega
      have y1 : ((8 * j : Nat) : Int) < wd := by have := HW.out; omega
      have y2 : (0 : Int) ≤ ((8 * j : Nat) : Int) := by omega
      have hxl : (⟨(loBytes n (j + 1)).toArray⟩ : ByteArray) = ⟨#[UInt8.ofNat ((n : Int) / 2 ^ (8 * j) % 256).toNat]⟩ ++ ⟨(loBytes n j).toArray⟩ := by rw [str_cons, lo_byte]; rfl
      obtain ⟨i, hi⟩ : ∃ i : Int, ((8 * j : Nat) : Int) = i := ⟨_, rfl⟩
      have hi2 : i.toNat = 8 * j := by omega
      rw [← hi2] at hxl
      have HI := Lib.hid hi
      have HX := Lib.hid hxl
      rw [hi] at y1 y2 ⊢
      have y3 : i ≤ 56 := by omega
      clear hll hi hi2 hxl
      go_wp2_with fail
      go_roundw
      case rel => exact ⟨j + 1, by omega, by have := HI.out; go_num, by rw [HX.out], hb.alloc hb.size _, hkk.alloc _⟩
      case measure => simp [intOf]; omega
    · obtain rfl : j = k := by omega
      have y1 : ¬ ((8 * j : Nat) : Int) < wd := by have := HW.out; omega
      rw [loBytes_be]
      go_wp2_with fail
      go_ret
      exact ⟨rfl, hb⟩
end Go.Proofs.YtffaefdnlgfdbaaGreatDoor
