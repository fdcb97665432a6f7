/- The texts CbI, CbS, put together. -/
import Derived.Test.YtffaefdnlgfdbaaGreatDoorPk42
/- cborw: Size; Key. -/
namespace Go.Proofs.YtffaefdnlgfdbaaGreatDoor
open Go.RowKit Go.Shelf

set_option maxHeartbeats 4000000 in
set_option maxRecDepth 100000 in
theorem cb_Size (t : Tr) (x : Value) (w : World) (B d : Nat) (aT aF : Addr) (hl : ListAt w B d t.kids x) (ho : OwnOk t.own) (hB : B ≤ w.heap.size) (hc : t.count ≤ 1000000000) (h : GW w aT aF) :
    Calls Tryz.prog 11 #[nodeV t.own x] w fun e w' => e = .returned (.tuple #[.int .i64 (wroteC t (checkT 2 flC t)).size, .int .i64 (checkT 2 flC t)]) ∧ Below w.heap.size w w' := by
  have hb1 : Below w.heap.size w (w.alloc (.cells (cellsV t.own x) 27)) := (Below.refl _ _).alloc (Nat.le_refl _) _
  have hk1 := Blk.new w (cellsV t.own x) 27
  have HC := Lib.hid (cb_Write t x _ B d aT aF (hl.below hb1 hB) ho (Nat.le_trans hB hb1.size) hc (h.below hb1))
  obtain ⟨ck, hck⟩ : ∃ ck, checkT 2 flC t = ck := ⟨_, rfl⟩
  rw [hck] at HC ⊢
  obtain ⟨ct, hct⟩ : ∃ ct, wroteC t ck = ct := ⟨_, rfl⟩
  rw [hct] at HC ⊢
  clear hl ho hB hc h hck hct
  obtain ⟨⟨kind, b, neg, dg, ex, u, wd, s⟩, ho'⟩ : ∃ o, t.own = o := ⟨_, rfl⟩
  simp only [ho'] at HC hk1 hb1
  rw [ho']
  unfold nodeV at HC ⊢
  unfold cellsV at HC hk1 hb1
  simp only [] at HC hk1 hb1 ⊢
  have z0 := hk1.cell 0
  have z1 := hk1.cell 1
  have z2 := hk1.cell 2
  have z3 := hk1.cell 3
  have z4 := hk1.cell 4
  have z5 := hk1.cell 5
  have z6 := hk1.cell 6
  have z7 := hk1.cell 7
  have z8 := hk1.cell 8
  clear ho'
  go_enter Tryz.func11, Tryz.ntmps11
  go_wp2_with fail
  refine HC.out.mono ?_
  rintro e w2 ⟨rfl, hb⟩
  have hb2 := hb1.trans (hb.mono hb1.size)
  clear z0 z1 z2 z3 z4 z5 z6 z7 z8 hb hk1 hb1 HC
  go_wp2_with fail
  refine bodyPost_ret (v := .tuple #[.int .i64 ct.size, .int .i64 ck]) (by simp [results, Tryz.results11, go_sem]) rfl ⟨rfl, hb2⟩

theorem listAt_two {W : World} {B d : Nat} {t t2 : Tr} {x x2 : Value} (hl : ListAt W B d t.kids x) (ho : OwnOk t.own) (hl2 : ListAt W B d t2.kids x2) (ho2 : OwnOk t2.own) {k : Nat} (hk : Blk W k (cellsV t.own x ++ cellsV t2.own x2) 27) (hB : B ≤ k + 1) : ListAt W (k + 1) (d + 1) [t, t2] (.slice (some ⟨k, 0, none⟩) 2 2) := by
  have ha : ∀ m, (⟨k, 0, none⟩ : Addr).add m = ⟨k, m, none⟩ := fun m => by
    unfold Addr.add
    split
    · rename_i e
      rw [e]
    · simp
  refine ⟨_, _, rfl, ⟨by simp, by simp⟩, fun i hi => ?_⟩
  have : i = 0 ∨ i = 1 := by
    simp only [List.length_cons, List.length_nil] at hi
    omega
  rcases this with rfl | rfl
  · refine ⟨_, x, rfl, Nat.lt_succ_self k, ho, fun j u hu => ?_, hl.mono (fun q hq => Nat.lt_of_lt_of_le hq hB)⟩
    rw [ha, hk.cell]
    have hj : j < 9 := by
      have := (List.getElem?_eq_some_iff.1 hu).1
      simpa [nodeCells] using this
    have he : (cellsV t.own x)[j]? = some u := by
      rw [← hu]
      unfold cellsV nodeCells
      simp
    rw [Array.getElem?_append_left (by simpa [cellsV] using hj), Nat.zero_mul, Nat.zero_add, he]
  · refine ⟨_, x2, rfl, Nat.lt_succ_self k, ho2, fun j u hu => ?_, hl2.mono (fun q hq => Nat.lt_of_lt_of_le hq hB)⟩
    rw [ha, hk.cell]
    have hs : (cellsV t.own x).size = 9 := rfl
    rw [Array.getElem?_append_right (by omega), hs, show 1 * 9 + j - 9 = j by omega]
    rw [← hu]
    unfold cellsV nodeCells
    simp

abbrev nullT : Tr := .nd { zeroO with kind := 1 } []
/-- A map of one key. -/
abbrev keyOf (t : Tr) : Tr := .nd { zeroO with kind := 8 } [t, nullT]
theorem keyOf_parts {t : Tr} (h : checkT 2 flC (keyOf t) = 0) : allB t = true ∧ fitT 2 flC t = true ∧ t.count ≤ 300 := by
  obtain ⟨h1, _, h3, h4⟩ := check_ok h
  rw [allB_eq, Bool.and_eq_true] at h3
  rw [fitT_eq, Bool.and_eq_true] at h4
  refine ⟨allL_mem h3.2 (by simp [Tr.kids]), fitL_mem h4.2 (by simp [Tr.kids]), ?_⟩
  rw [Tr.count, countL] at h1
  omega

set_option maxHeartbeats 4000000 in
set_option maxRecDepth 100000 in
theorem cb_Key (t : Tr) (x : Value) (w : World) (B d : Nat) (aT aF : Addr) (hl : ListAt w B d t.kids x) (ho : OwnOk t.own) (hB : B ≤ w.heap.size) (hc : t.count ≤ 1000000) (h : GW w aT aF) :
    Calls Tryz.prog 14 #[nodeV t.own x] w fun e w' => e = .returned (.tuple #[.string (wroteC t (checkT 2 flC (keyOf t))), .int .i64 (if checkT 2 flC (keyOf t) = 0 then 0 else 61)]) ∧ Below w.heap.size w w' := by
  have hb1 : Below w.heap.size w (w.alloc (.cells (cellsV t.own x) 27)) := (Below.refl _ _).alloc (Nat.le_refl _) _
  have hk1 := Blk.new w (cellsV t.own x) 27
  have hoN : OwnOk { zeroO with kind := 1 } := ⟨by decide, by decide, by decide, by decide, by decide, by decide⟩
  have hoM : OwnOk { zeroO with kind := 8 } := ⟨by decide, by decide, by decide, by decide, by decide, by decide⟩
  have HC := Lib.hid (fun W k (hW : Below w.heap.size w W) (hk : Blk W k (cellsV t.own x ++ cellsV { zeroO with kind := 1 } (.slice none 0 0)) 27) (hBk : B ≤ k + 1) =>
    tree_Check 2 flC (fits_at_C aT aF) (keyOf t) (.slice (some ⟨k, 0, none⟩) 2 2) W (k + 1) (d + 1) (listAt_two (t2 := nullT) (hl.below hW hB) ho (LAt.nil _ _ _ _ _) hoN hk hBk) hoM hk.lt (by rw [keyOf, Tr.count, countL, countL, countL, Tr.count, countL]; omega) (h.below hW))
  have HW := Lib.hid (fun W (hW : Below w.heap.size w W) (h0 : checkT 2 flC (keyOf t) = 0) => cb_written [t] (some ⟨W.heap.size, 0, none⟩) 1 1 (W.alloc (.cells (cellsV t.own x) 27)) (W.heap.size + 1) (d + 1) aT aF
    (listAt_one ((hl.below hW hB).below ((Below.refl _ W).alloc (Nat.le_refl _) _) (Nat.le_trans hB hW.size)) ho (Blk.new _ _ _) (by have := hW.size; omega)) (by simp) ((h.below hW).below ((Below.refl _ W).alloc (Nat.le_refl _) _))
    (okCL_of (fun s hs => by
      rw [List.mem_singleton.1 hs]
      obtain ⟨h3, h4, _⟩ := keyOf_parts h0
      exact okC_of_at t d x hl ho h3 h4)) (by
      obtain ⟨h3, h4, h2⟩ := keyOf_parts h0
      have := cbT_bound t (okC_of_at t d x hl ho h3 h4)
      show (cbT t ++ []).length ≤ _
      rw [List.append_nil]
      omega) rfl (by simp))
  have hcc : ∀ s, cbL [s] = cbT s := fun s => by
    show cbT s ++ [] = _
    rw [List.append_nil]
  simp only [hcc] at HW
  have HB := Lib.hid hB
  have HCC := Lib.hid (check_cases 2 flC (keyOf t))
  unfold wroteC
  obtain ⟨ct, hct⟩ : ∃ ct, cbT t = ct := ⟨_, rfl⟩
  obtain ⟨ck, hck⟩ : ∃ ck, checkT 2 flC (keyOf t) = ck := ⟨_, rfl⟩
  simp only [hck] at HC
  rw [hck] at HCC ⊢
  simp only [hct, hck] at HW
  rw [hct]
  have HCT : Hid (∀ (W : World) (k : Nat), Below w.heap.size w W → Blk W k (cellsV t.own x ++ cellsV { zeroO with kind := 1 } (.slice none 0 0)) 27 → B ≤ k + 1 →
      Calls Tryz.prog 18 #[nodeV { zeroO with kind := 8 } (.slice (some ⟨k, 0, none⟩) 2 2), .int .i64 2] W fun e w' => e = .returned (.int .i64 ck) ∧ Below W.heap.size W w') := HC
  clear HC hl ho hB hc h hct hck hcc hoN hoM
  obtain ⟨⟨kind, b, neg, dg, ex, u, wd, s⟩, ho'⟩ : ∃ o, t.own = o := ⟨_, rfl⟩
  simp only [ho'] at HCT HW hk1 hb1
  rw [ho']
  unfold nodeV at HCT ⊢
  unfold cellsV at HCT HW hk1 hb1
  simp only [List.append_toArray, List.cons_append, List.nil_append] at HCT HW hk1 hb1 ⊢
  have z0 := hk1.cell 0
  have z1 := hk1.cell 1
  have z2 := hk1.cell 2
  have z3 := hk1.cell 3
  have z4 := hk1.cell 4
  have z5 := hk1.cell 5
  have z6 := hk1.cell 6
  have z7 := hk1.cell 7
  have z8 := hk1.cell 8
  clear ho'
  go_enter Tryz.func14, Tryz.ntmps14
  go_wp2_with fail
  apply wp_scope_forward 0 rfl
  go_wp2_with fail
  have hb3 : Below w.heap.size w (((w.alloc (.cells #[.int .i64 kind, .bool b, .bool neg, .string dg, .int .i64 ex, .int .u64 u, .int .i64 wd, .string s, x] 27)).alloc (.cells #[.int .i64 kind, .bool b, .bool neg, .string dg, .int .i64 ex, .int .u64 u, .int .i64 wd, .string s, x, .int .i64 1, .bool false, .bool false, .string ⟨#[]⟩, .int .i64 0, .int .u64 0, .int .i64 0, .string ⟨#[]⟩, .slice none 0 0] 27)).alloc (.cells #[.int .i64 8, .bool false, .bool false, .string ⟨#[]⟩, .int .i64 0, .int .u64 0, .int .i64 0, .string ⟨#[]⟩, .slice (some ⟨w.heap.size + 1, 0, none⟩) 2 2] 27)) := (hb1.alloc hb1.size _).alloc (by simp; omega) _
  have hk2 : Blk (((w.alloc (.cells #[.int .i64 kind, .bool b, .bool neg, .string dg, .int .i64 ex, .int .u64 u, .int .i64 wd, .string s, x] 27)).alloc (.cells #[.int .i64 kind, .bool b, .bool neg, .string dg, .int .i64 ex, .int .u64 u, .int .i64 wd, .string s, x, .int .i64 1, .bool false, .bool false, .string ⟨#[]⟩, .int .i64 0, .int .u64 0, .int .i64 0, .string ⟨#[]⟩, .slice none 0 0] 27)).alloc (.cells #[.int .i64 8, .bool false, .bool false, .string ⟨#[]⟩, .int .i64 0, .int .u64 0, .int .i64 0, .string ⟨#[]⟩, .slice (some ⟨w.heap.size + 1, 0, none⟩) 2 2] 27)) (w.heap.size + 1) #[.int .i64 kind, .bool b, .bool neg, .string dg, .int .i64 ex, .int .u64 u, .int .i64 wd, .string s, x, .int .i64 1, .bool false, .bool false, .string ⟨#[]⟩, .int .i64 0, .int .u64 0, .int .i64 0, .string ⟨#[]⟩, .slice none 0 0] 27 := by
    have := Blk.new (w.alloc (.cells #[.int .i64 kind, .bool b, .bool neg, .string dg, .int .i64 ex, .int .u64 u, .int .i64 wd, .string s, x] 27)) #[.int .i64 kind, .bool b, .bool neg, .string dg, .int .i64 ex, .int .u64 u, .int .i64 wd, .string s, x, .int .i64 1, .bool false, .bool false, .string ⟨#[]⟩, .int .i64 0, .int .u64 0, .int .i64 0, .string ⟨#[]⟩, .slice none 0 0] 27
    rw [World.size_alloc] at this
    exact this.alloc _
  have hk3 : Blk (((w.alloc (.cells #[.int .i64 kind, .bool b, .bool neg, .string dg, .int .i64 ex, .int .u64 u, .int .i64 wd, .string s, x] 27)).alloc (.cells #[.int .i64 kind, .bool b, .bool neg, .string dg, .int .i64 ex, .int .u64 u, .int .i64 wd, .string s, x, .int .i64 1, .bool false, .bool false, .string ⟨#[]⟩, .int .i64 0, .int .u64 0, .int .i64 0, .string ⟨#[]⟩, .slice none 0 0] 27)).alloc (.cells #[.int .i64 8, .bool false, .bool false, .string ⟨#[]⟩, .int .i64 0, .int .u64 0, .int .i64 0, .string ⟨#[]⟩, .slice (some ⟨w.heap.size + 1, 0, none⟩) 2 2] 27)) w.heap.size #[.int .i64 kind, .bool b, .bool neg, .string dg, .int .i64 ex, .int .u64 u, .int .i64 wd, .string s, x] 27 := (hk1.alloc _).alloc _
  refine (HCT.out _ (w.heap.size + 1) hb3 hk2 (by have := HB.out; omega)).mono ?_
  rintro e w4 ⟨rfl, hb⟩
  have hb4 := hb3.trans (hb.mono hb3.size)
  have hk4 := hk3.below hb hk3.lt
  clear z0 z1 z2 z3 z4 z5 z6 z7 z8 hb hk1 hb1 hk2 hk3 hb3 HCT
  have z0 := hk4.cell 0
  have z1 := hk4.cell 1
  have z2 := hk4.cell 2
  have z3 := hk4.cell 3
  have z4 := hk4.cell 4
  have z5 := hk4.cell 5
  have z6 := hk4.cell 6
  have z7 := hk4.cell 7
  have z8 := hk4.cell 8
  by_cases h0 : ck = 0
  · have HW2 := Lib.hid (HW.out w4 hb4 h0)
    have HB2 := Lib.hid (hb4.trans (((Below.refl _ w4).alloc (o := .cells #[.int .i64 kind, .bool b, .bool neg, .string dg, .int .i64 ex, .int .u64 u, .int .i64 wd, .string s, x] 27) (Nat.le_refl _)).mono hb4.size))
    subst h0
    clear HW hb4 hk4
    go_wp2_with fail
    refine HW2.out.mono ?_
    rintro e w5 ⟨rfl, hb⟩
    have hb5 := HB2.out.trans (hb.mono HB2.out.size)
    clear z0 z1 z2 z3 z4 z5 z6 z7 z8 hb HW2 HB2
    go_wp2_with fail
    rw [jump_ret]
    refine bodyPost_ret (v := .tuple #[.string ⟨ct.toArray⟩, .int .i64 0]) (by simp [results, Tryz.results14, go_sem]) rfl ⟨by simp, hb5⟩
  · have y1 : ¬ ck = 0 := h0
    clear HW
    go_wp2_with fail
    go_step3
    simp +zetaDelta only [Exit.then, jump_goto]
    go_wp2_with fail
    refine bodyPost_ret (v := .tuple #[.string ⟨#[]⟩, .int .i64 61]) (by simp [results, Tryz.results14, go_sem]) rfl ⟨rfl, hb4⟩
end Go.Proofs.YtffaefdnlgfdbaaGreatDoor
/- cborw: what the laws' shown asks: a map's item; what is no tree of CBOR. -/
namespace Go.Proofs.YtffaefdnlgfdbaaGreatDoor
open Go.RowKit Go.Shelf

theorem RowT.blk {W : World} {S : Nat → Prop} {d k n : Nat} {l : List Tr} {xs : List Value} {cs : Array Value} (h : RowT W S d l xs) (hk : Blk W k cs 27) (hc : cs = xs.toArray) (hn : l.length = n) (hl : n ≤ 9223372036854775807) (hS : ∀ q, S q → q < k + 1) : ListAt W (k + 1) (d + 1) l (.slice (some ⟨k, 0, none⟩) n n) := by
  subst hn hc
  refine ⟨_, _, rfl, ⟨hl, Nat.le_refl _⟩, fun i hi => ?_⟩
  obtain ⟨y, ho, hg, hkk⟩ := h.get i hi
  refine ⟨_, y, rfl, Nat.lt_succ_self k, ho, fun j u hu => ?_, hkk.mono hS⟩
  have ha : (⟨k, 0, none⟩ : Addr).add (i * 9 + j) = ⟨k, i * 9 + j, none⟩ := by
    unfold Addr.add
    split
    · rename_i e
      rw [e]
    · simp
  rw [ha, hk.cell, List.getElem?_toArray]
  exact hg j u hu

abbrev shL : List Tr := [.nd { zeroO with kind := 5, s := ⟨#[97]⟩ } [], .nd { zeroO with kind := 3, neg := true, dg := ⟨#[53]⟩, ex := 2 } [], .nd { zeroO with kind := 3, dg := ⟨#[49]⟩ } [], .nd { zeroO with kind := 6 } []]
abbrev shT : Tr := .nd { zeroO with kind := 8 } shL
abbrev extT : Tr := .nd { zeroO with kind := 11 } []

theorem sh_cb : cbT shT = [162, 97, 97, 57, 1, 243, 1, 64] := by decide +kernel
theorem sh_fit : fitT 2 flC shT = true := by decide +kernel
theorem sh_keys : keysB shL = true := by
  unfold keysB
  refine @decide_eq_true _ (Classical.propDecidable _) ?_
  intro i k hi hk h1 h2
  have : i = 2 ∧ k = 0 := by
    simp only [List.length_cons, List.length_nil] at hi
    omega
  obtain ⟨rfl, rfl⟩ := this
  have h : sameT (.nd { zeroO with kind := 3, dg := ⟨#[49]⟩ } []) (.nd { zeroO with kind := 5, s := ⟨#[97]⟩ } []) = false := by decide +kernel
  exact h
theorem sh_right : rightT shT = true := by
  unfold rightT
  have h1 : shT.count ≤ 300 := by decide +kernel
  have h2 : shT.depth ≤ 16 := by decide +kernel
  rw [decide_eq_true h1, decide_eq_true h2, allB]
  have hd1 : decOk true ⟨#[53]⟩ 2 = true := by decide +kernel
  have hd2 : decOk false ⟨#[49]⟩ 0 = true := by decide +kernel
  have hv : Lib.validD (⟨#[97]⟩ : ByteArray).data.toList = true := by decide +kernel
  have ho : ownB { zeroO with kind := 8 } shL = true := by
    simp [ownB, sh_keys, onlyB]
  have e1 : ownB { zeroO with kind := 5, s := ⟨#[97]⟩ } [] = true := by
    simp [ownB, onlyB, hv]
    decide
  have e2 : ownB { zeroO with kind := 3, neg := true, dg := ⟨#[53]⟩, ex := 2 } [] = true := by
    simp [ownB, onlyB, hd1]
  have e3 : ownB { zeroO with kind := 3, dg := ⟨#[49]⟩ } [] = true := by
    simp [ownB, onlyB, hd2]
  have e4 : ownB { zeroO with kind := 6 } [] = true := by
    simp [ownB, onlyB]
    decide
  rw [ho, allL, allL, allL, allL, allL, allB, allB, allB, allB, e1, e2, e3, e4, allL]
  rfl
theorem sh_check : checkT 2 flC shT = 0 := by
  unfold checkT
  rw [if_pos sh_right, if_pos sh_fit]
theorem ext_check : checkT 2 flC extT = 61 := by
  unfold checkT
  have hr : rightT extT = true := by
    unfold rightT
    have h1 : extT.count ≤ 300 := by decide +kernel
    have h2 : extT.depth ≤ 16 := by decide +kernel
    have ho : ownB { zeroO with kind := 11 } [] = true := by
      simp [ownB, onlyB]
      decide
    rw [decide_eq_true h1, decide_eq_true h2, allB, ho, allL]
    rfl
  rw [if_pos hr, if_neg (by decide +kernel)]

theorem okO (o : Own) (h1 : o.dg.size ≤ 100) (h2 : o.s.size ≤ 100) (h3 : 0 ≤ o.kind ∧ o.kind ≤ 100) (h4 : 0 ≤ o.ex ∧ o.ex ≤ 100) (h5 : o.u = 0) (h6 : o.wd = 0) : OwnOk o := ⟨by omega, by omega, by omega, by omega, by omega, by omega⟩
set_option maxHeartbeats 4000000 in
set_option maxRecDepth 100000 in
theorem cb_shown {aT aF : Addr} (w : World) (h : GW w aT aF) :
    Calls Tryz.prog 7 #[] w fun e w' => e = .returned (.bool true) ∧ Below w.heap.size w w' := by
  have hb1 : Below w.heap.size w (w.alloc (.cells #[.int .i64 5, .bool false, .bool false, .string ⟨#[]⟩, .int .i64 0, .int .u64 0, .int .i64 0, .string ⟨#[97]⟩, .slice none 0 0, .int .i64 3, .bool false, .bool true, .string ⟨#[53]⟩, .int .i64 2, .int .u64 0, .int .i64 0, .string ⟨#[]⟩, .slice none 0 0, .int .i64 3, .bool false, .bool false, .string ⟨#[49]⟩, .int .i64 0, .int .u64 0, .int .i64 0, .string ⟨#[]⟩, .slice none 0 0, .int .i64 6, .bool false, .bool false, .string ⟨#[]⟩, .int .i64 0, .int .u64 0, .int .i64 0, .string ⟨#[]⟩, .slice none 0 0] 27)) := (Below.refl _ _).alloc (Nat.le_refl _) _
  have hb2 : Below w.heap.size w ((w.alloc (.cells #[.int .i64 5, .bool false, .bool false, .string ⟨#[]⟩, .int .i64 0, .int .u64 0, .int .i64 0, .string ⟨#[97]⟩, .slice none 0 0, .int .i64 3, .bool false, .bool true, .string ⟨#[53]⟩, .int .i64 2, .int .u64 0, .int .i64 0, .string ⟨#[]⟩, .slice none 0 0, .int .i64 3, .bool false, .bool false, .string ⟨#[49]⟩, .int .i64 0, .int .u64 0, .int .i64 0, .string ⟨#[]⟩, .slice none 0 0, .int .i64 6, .bool false, .bool false, .string ⟨#[]⟩, .int .i64 0, .int .u64 0, .int .i64 0, .string ⟨#[]⟩, .slice none 0 0] 27)).alloc (.cells #[.int .i64 8, .bool false, .bool false, .string ⟨#[]⟩, .int .i64 0, .int .u64 0, .int .i64 0, .string ⟨#[]⟩, .slice (some ⟨w.heap.size, 0, none⟩) 4 4] 27)) := hb1.alloc hb1.size _
  have hk1 := Blk.new w #[.int .i64 5, .bool false, .bool false, .string ⟨#[]⟩, .int .i64 0, .int .u64 0, .int .i64 0, .string ⟨#[97]⟩, .slice none 0 0, .int .i64 3, .bool false, .bool true, .string ⟨#[53]⟩, .int .i64 2, .int .u64 0, .int .i64 0, .string ⟨#[]⟩, .slice none 0 0, .int .i64 3, .bool false, .bool false, .string ⟨#[49]⟩, .int .i64 0, .int .u64 0, .int .i64 0, .string ⟨#[]⟩, .slice none 0 0, .int .i64 6, .bool false, .bool false, .string ⟨#[]⟩, .int .i64 0, .int .u64 0, .int .i64 0, .string ⟨#[]⟩, .slice none 0 0] 27
  have hk2 : Blk ((w.alloc (.cells #[.int .i64 5, .bool false, .bool false, .string ⟨#[]⟩, .int .i64 0, .int .u64 0, .int .i64 0, .string ⟨#[97]⟩, .slice none 0 0, .int .i64 3, .bool false, .bool true, .string ⟨#[53]⟩, .int .i64 2, .int .u64 0, .int .i64 0, .string ⟨#[]⟩, .slice none 0 0, .int .i64 3, .bool false, .bool false, .string ⟨#[49]⟩, .int .i64 0, .int .u64 0, .int .i64 0, .string ⟨#[]⟩, .slice none 0 0, .int .i64 6, .bool false, .bool false, .string ⟨#[]⟩, .int .i64 0, .int .u64 0, .int .i64 0, .string ⟨#[]⟩, .slice none 0 0] 27)).alloc (.cells #[.int .i64 8, .bool false, .bool false, .string ⟨#[]⟩, .int .i64 0, .int .u64 0, .int .i64 0, .string ⟨#[]⟩, .slice (some ⟨w.heap.size, 0, none⟩) 4 4] 27)) w.heap.size #[.int .i64 5, .bool false, .bool false, .string ⟨#[]⟩, .int .i64 0, .int .u64 0, .int .i64 0, .string ⟨#[97]⟩, .slice none 0 0, .int .i64 3, .bool false, .bool true, .string ⟨#[53]⟩, .int .i64 2, .int .u64 0, .int .i64 0, .string ⟨#[]⟩, .slice none 0 0, .int .i64 3, .bool false, .bool false, .string ⟨#[49]⟩, .int .i64 0, .int .u64 0, .int .i64 0, .string ⟨#[]⟩, .slice none 0 0, .int .i64 6, .bool false, .bool false, .string ⟨#[]⟩, .int .i64 0, .int .u64 0, .int .i64 0, .string ⟨#[]⟩, .slice none 0 0] 27 := hk1.alloc _
  have hk3 := Blk.new (w.alloc (.cells #[.int .i64 5, .bool false, .bool false, .string ⟨#[]⟩, .int .i64 0, .int .u64 0, .int .i64 0, .string ⟨#[97]⟩, .slice none 0 0, .int .i64 3, .bool false, .bool true, .string ⟨#[53]⟩, .int .i64 2, .int .u64 0, .int .i64 0, .string ⟨#[]⟩, .slice none 0 0, .int .i64 3, .bool false, .bool false, .string ⟨#[49]⟩, .int .i64 0, .int .u64 0, .int .i64 0, .string ⟨#[]⟩, .slice none 0 0, .int .i64 6, .bool false, .bool false, .string ⟨#[]⟩, .int .i64 0, .int .u64 0, .int .i64 0, .string ⟨#[]⟩, .slice none 0 0] 27)) #[.int .i64 8, .bool false, .bool false, .string ⟨#[]⟩, .int .i64 0, .int .u64 0, .int .i64 0, .string ⟨#[]⟩, .slice (some ⟨w.heap.size, 0, none⟩) 4 4] 27
  have hrow : RowT ((w.alloc (.cells #[.int .i64 5, .bool false, .bool false, .string ⟨#[]⟩, .int .i64 0, .int .u64 0, .int .i64 0, .string ⟨#[97]⟩, .slice none 0 0, .int .i64 3, .bool false, .bool true, .string ⟨#[53]⟩, .int .i64 2, .int .u64 0, .int .i64 0, .string ⟨#[]⟩, .slice none 0 0, .int .i64 3, .bool false, .bool false, .string ⟨#[49]⟩, .int .i64 0, .int .u64 0, .int .i64 0, .string ⟨#[]⟩, .slice none 0 0, .int .i64 6, .bool false, .bool false, .string ⟨#[]⟩, .int .i64 0, .int .u64 0, .int .i64 0, .string ⟨#[]⟩, .slice none 0 0] 27)).alloc (.cells #[.int .i64 8, .bool false, .bool false, .string ⟨#[]⟩, .int .i64 0, .int .u64 0, .int .i64 0, .string ⟨#[]⟩, .slice (some ⟨w.heap.size, 0, none⟩) 4 4] 27)) (fun q => q < w.heap.size + 1) 0 shL ((nodeCells { zeroO with kind := 5, s := ⟨#[97]⟩ } (.slice none 0 0)) ++ ((nodeCells { zeroO with kind := 3, neg := true, dg := ⟨#[53]⟩, ex := 2 } (.slice none 0 0)) ++ ((nodeCells { zeroO with kind := 3, dg := ⟨#[49]⟩ } (.slice none 0 0)) ++ ((nodeCells { zeroO with kind := 6 } (.slice none 0 0)) ++ [])))) :=
    ⟨_, _, rfl, okO _ (by decide) (by decide) (by decide) (by decide) rfl rfl, LAt.nil _ _ _ _ _, _, _, rfl, okO _ (by decide) (by decide) (by decide) (by decide) rfl rfl, LAt.nil _ _ _ _ _, _, _, rfl, okO _ (by decide) (by decide) (by decide) (by decide) rfl rfl, LAt.nil _ _ _ _ _, _, _, rfl, okO _ (by decide) (by decide) (by decide) (by decide) rfl rfl, LAt.nil _ _ _ _ _, rfl⟩
  have hl := hrow.blk (n := 4) hk2 rfl rfl (by decide) (fun q hq => hq)
  have HW := cb_Write shT (.slice (some ⟨w.heap.size, 0, none⟩) 4 4) ((w.alloc (.cells #[.int .i64 5, .bool false, .bool false, .string ⟨#[]⟩, .int .i64 0, .int .u64 0, .int .i64 0, .string ⟨#[97]⟩, .slice none 0 0, .int .i64 3, .bool false, .bool true, .string ⟨#[53]⟩, .int .i64 2, .int .u64 0, .int .i64 0, .string ⟨#[]⟩, .slice none 0 0, .int .i64 3, .bool false, .bool false, .string ⟨#[49]⟩, .int .i64 0, .int .u64 0, .int .i64 0, .string ⟨#[]⟩, .slice none 0 0, .int .i64 6, .bool false, .bool false, .string ⟨#[]⟩, .int .i64 0, .int .u64 0, .int .i64 0, .string ⟨#[]⟩, .slice none 0 0] 27)).alloc (.cells #[.int .i64 8, .bool false, .bool false, .string ⟨#[]⟩, .int .i64 0, .int .u64 0, .int .i64 0, .string ⟨#[]⟩, .slice (some ⟨w.heap.size, 0, none⟩) 4 4] 27)) (w.heap.size + 1) 1 aT aF hl (okO _ (by decide) (by decide) (by decide) (by decide) rfl rfl) (by simp) (by decide +kernel) (h.below hb2)
  have HX := Lib.hid (fun W (hW : Below w.heap.size w W) => cb_Write extT (.slice none 0 0) W 0 0 aT aF (LAt.nil _ _ _ _ _) (okO _ (by decide) (by decide) (by decide) (by decide) rfl rfl) (Nat.zero_le _) (by decide +kernel) (h.below hW))
  simp only [sh_check, wroteC, if_true, sh_cb] at HW
  simp only [ext_check, wroteC, if_neg (show ¬ (61 : Int) = 0 by decide)] at HX
  replace HW : Calls Tryz.prog 9 #[.agg #[.int .i64 8, .bool false, .bool false, .string ⟨#[]⟩, .int .i64 0, .int .u64 0, .int .i64 0, .string ⟨#[]⟩, .slice (some ⟨w.heap.size, 0, none⟩) 4 4]] ((w.alloc (.cells #[.int .i64 5, .bool false, .bool false, .string ⟨#[]⟩, .int .i64 0, .int .u64 0, .int .i64 0, .string ⟨#[97]⟩, .slice none 0 0, .int .i64 3, .bool false, .bool true, .string ⟨#[53]⟩, .int .i64 2, .int .u64 0, .int .i64 0, .string ⟨#[]⟩, .slice none 0 0, .int .i64 3, .bool false, .bool false, .string ⟨#[49]⟩, .int .i64 0, .int .u64 0, .int .i64 0, .string ⟨#[]⟩, .slice none 0 0, .int .i64 6, .bool false, .bool false, .string ⟨#[]⟩, .int .i64 0, .int .u64 0, .int .i64 0, .string ⟨#[]⟩, .slice none 0 0] 27)).alloc (.cells #[.int .i64 8, .bool false, .bool false, .string ⟨#[]⟩, .int .i64 0, .int .u64 0, .int .i64 0, .string ⟨#[]⟩, .slice (some ⟨w.heap.size, 0, none⟩) 4 4] 27)) fun e w' => e = .returned (.tuple #[.string ⟨#[162, 97, 97, 57, 1, 243, 1, 64]⟩, .int .i64 0]) ∧ Below ((w.alloc (.cells #[.int .i64 5, .bool false, .bool false, .string ⟨#[]⟩, .int .i64 0, .int .u64 0, .int .i64 0, .string ⟨#[97]⟩, .slice none 0 0, .int .i64 3, .bool false, .bool true, .string ⟨#[53]⟩, .int .i64 2, .int .u64 0, .int .i64 0, .string ⟨#[]⟩, .slice none 0 0, .int .i64 3, .bool false, .bool false, .string ⟨#[49]⟩, .int .i64 0, .int .u64 0, .int .i64 0, .string ⟨#[]⟩, .slice none 0 0, .int .i64 6, .bool false, .bool false, .string ⟨#[]⟩, .int .i64 0, .int .u64 0, .int .i64 0, .string ⟨#[]⟩, .slice none 0 0] 27)).alloc (.cells #[.int .i64 8, .bool false, .bool false, .string ⟨#[]⟩, .int .i64 0, .int .u64 0, .int .i64 0, .string ⟨#[]⟩, .slice (some ⟨w.heap.size, 0, none⟩) 4 4] 27)).heap.size ((w.alloc (.cells #[.int .i64 5, .bool false, .bool false, .string ⟨#[]⟩, .int .i64 0, .int .u64 0, .int .i64 0, .string ⟨#[97]⟩, .slice none 0 0, .int .i64 3, .bool false, .bool true, .string ⟨#[53]⟩, .int .i64 2, .int .u64 0, .int .i64 0, .string ⟨#[]⟩, .slice none 0 0, .int .i64 3, .bool false, .bool false, .string ⟨#[49]⟩, .int .i64 0, .int .u64 0, .int .i64 0, .string ⟨#[]⟩, .slice none 0 0, .int .i64 6, .bool false, .bool false, .string ⟨#[]⟩, .int .i64 0, .int .u64 0, .int .i64 0, .string ⟨#[]⟩, .slice none 0 0] 27)).alloc (.cells #[.int .i64 8, .bool false, .bool false, .string ⟨#[]⟩, .int .i64 0, .int .u64 0, .int .i64 0, .string ⟨#[]⟩, .slice (some ⟨w.heap.size, 0, none⟩) 4 4] 27)) w' := HW
  replace HX : Hid (∀ W, Below w.heap.size w W → Calls Tryz.prog 9 #[.agg #[.int .i64 11, .bool false, .bool false, .string ⟨#[]⟩, .int .i64 0, .int .u64 0, .int .i64 0, .string ⟨#[]⟩, .slice none 0 0]] W fun e w' => e = .returned (.tuple #[.string ⟨#[]⟩, .int .i64 61]) ∧ Below W.heap.size W w') := HX
  replace HW := Lib.hid HW
  rw [World.size_alloc] at hk3
  have z0 := hk3.cell 0
  have z1 := hk3.cell 1
  have z2 := hk3.cell 2
  have z3 := hk3.cell 3
  have z4 := hk3.cell 4
  have z5 := hk3.cell 5
  have z6 := hk3.cell 6
  have z7 := hk3.cell 7
  have z8 := hk3.cell 8
  clear hl hrow hk1 hk2 hk3 h
  go_enter Tryz.func7, Tryz.ntmps7
  go_wp2_with fail
  refine HW.out.mono ?_
  rintro e w1 ⟨rfl, hb⟩
  have hb3 := hb2.trans (hb.mono hb2.size)
  clear hb hb1 hb2 HW z0 z1 z2 z3 z4 z5 z6 z7 z8
  go_wp2_with fail
  refine (HX.out _ hb3).mono ?_
  rintro e w2 ⟨rfl, hb⟩
  have hb4 := hb3.trans (hb.mono hb3.size)
  clear hb hb3 HX
  go_wp2_with fail
  go_ret
  exact ⟨rfl, hb4⟩
end Go.Proofs.YtffaefdnlgfdbaaGreatDoor
