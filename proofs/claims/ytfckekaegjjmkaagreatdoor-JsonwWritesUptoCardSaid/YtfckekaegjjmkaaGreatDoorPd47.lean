/- The texts JwG, JwS, JwApW, put together. -/
import Derived.Test.YtfckekaegjjmkaaGreatDoorPd38
import Derived.Test.YtfckekaegjjmkaaGreatDoorPd05
import Derived.Test.YtfckekaegjjmkaaGreatDoorPd16
namespace Go.Proofs.YtfckekaegjjmkaaGreatDoor
open Go.RowKit Go.Shelf

set_option maxHeartbeats 4000000 in
set_option maxRecDepth 100000 in
theorem jw_Write (t : Tr) (x : Value) (w : World) (B d : Nat) (aT aF : Addr) (hl : ListAt w B d t.kids x) (ho : OwnOk t.own) (hB : B ≤ w.heap.size) (hc : t.count ≤ 1000000000) (h : SW w aT aF) :
    Calls Tryz.prog 16 #[nodeV t.own x] w fun e w' => e = .returned (.tuple #[.string (wroteJ false t (checkT 1 flJ t)), .int .i64 (checkT 1 flJ t)]) ∧ Below w.heap.size w w' := by
  have hb1 : Below w.heap.size w (w.alloc (.cells (cellsV t.own x) 27)) := (Below.refl _ _).alloc (Nat.le_refl _) _
  have hk1 := Blk.new w (cellsV t.own x) 27
  have HC := Lib.hid (j_written false t x _ B d aT aF (hl.below hb1 hB) ho (Nat.le_trans hB hb1.size) hc (h.below hb1))
  obtain ⟨r, hr⟩ : ∃ r, wroteJ false t (checkT 1 flJ t) = r := ⟨_, rfl⟩
  obtain ⟨ck, hck⟩ : ∃ ck, checkT 1 flJ t = ck := ⟨_, rfl⟩
  rw [hr, hck] at HC ⊢
  clear hl ho hB hc h hr hck
  obtain ⟨⟨kind, b, neg, dg, ex, u, wd, s⟩, ho'⟩ : ∃ o, t.own = o := ⟨_, rfl⟩
  simp only [ho'] at HC hk1 hb1
  rw [ho']
  unfold nodeV at HC ⊢
  unfold cellsV at HC hk1 hb1
  simp only [] at HC hk1 hb1 ⊢
  have z0 := hk1.cell 0
  have z1 := hk1.cell 1
  have z2 := hk1.cell 2
  have z3 := hk1.cell 3
  have z4 := hk1.cell 4
  have z5 := hk1.cell 5
  have z6 := hk1.cell 6
  have z7 := hk1.cell 7
  have z8 := hk1.cell 8
  clear ho' hk1
  go_enter Tryz.func16, Tryz.ntmps16
  go_wp2_with fail
  refine HC.out.mono ?_
  rintro e w2 ⟨rfl, hb⟩
  have hb2 := hb1.trans (hb.mono hb1.size)
  clear z0 z1 z2 z3 z4 z5 z6 z7 z8 hb hb1 HC
  go_wp2_with fail
  refine bodyPost_ret (v := .tuple #[.string r, .int .i64 ck]) (by simp [results, Tryz.results16, go_sem]) rfl ⟨rfl, hb2⟩

set_option maxHeartbeats 4000000 in
set_option maxRecDepth 100000 in
theorem jw_Pretty (t : Tr) (x : Value) (w : World) (B d : Nat) (aT aF : Addr) (hl : ListAt w B d t.kids x) (ho : OwnOk t.own) (hB : B ≤ w.heap.size) (hc : t.count ≤ 1000000000) (h : SW w aT aF) :
    Calls Tryz.prog 21 #[nodeV t.own x] w fun e w' => e = .returned (.tuple #[.string (wroteJ true t (checkT 1 flJ t)), .int .i64 (checkT 1 flJ t)]) ∧ Below w.heap.size w w' := by
  have hb1 : Below w.heap.size w (w.alloc (.cells (cellsV t.own x) 27)) := (Below.refl _ _).alloc (Nat.le_refl _) _
  have hk1 := Blk.new w (cellsV t.own x) 27
  have HC := Lib.hid (j_written true t x _ B d aT aF (hl.below hb1 hB) ho (Nat.le_trans hB hb1.size) hc (h.below hb1))
  obtain ⟨r, hr⟩ : ∃ r, wroteJ true t (checkT 1 flJ t) = r := ⟨_, rfl⟩
  obtain ⟨ck, hck⟩ : ∃ ck, checkT 1 flJ t = ck := ⟨_, rfl⟩
  rw [hr, hck] at HC ⊢
  clear hl ho hB hc h hr hck
  obtain ⟨⟨kind, b, neg, dg, ex, u, wd, s⟩, ho'⟩ : ∃ o, t.own = o := ⟨_, rfl⟩
  simp only [ho'] at HC hk1 hb1
  rw [ho']
  unfold nodeV at HC ⊢
  unfold cellsV at HC hk1 hb1
  simp only [] at HC hk1 hb1 ⊢
  have z0 := hk1.cell 0
  have z1 := hk1.cell 1
  have z2 := hk1.cell 2
  have z3 := hk1.cell 3
  have z4 := hk1.cell 4
  have z5 := hk1.cell 5
  have z6 := hk1.cell 6
  have z7 := hk1.cell 7
  have z8 := hk1.cell 8
  clear ho' hk1
  go_enter Tryz.func21, Tryz.ntmps21
  go_wp2_with fail
  refine HC.out.mono ?_
  rintro e w2 ⟨rfl, hb⟩
  have hb2 := hb1.trans (hb.mono hb1.size)
  clear z0 z1 z2 z3 z4 z5 z6 z7 z8 hb hb1 HC
  go_wp2_with fail
  refine bodyPost_ret (v := .tuple #[.string r, .int .i64 ck]) (by simp [results, Tryz.results21, go_sem]) rfl ⟨rfl, hb2⟩

set_option maxHeartbeats 4000000 in
set_option maxRecDepth 100000 in
theorem jw_Size (t : Tr) (x : Value) (w : World) (B d : Nat) (aT aF : Addr) (hl : ListAt w B d t.kids x) (ho : OwnOk t.own) (hB : B ≤ w.heap.size) (hc : t.count ≤ 1000000000) (h : SW w aT aF) :
    Calls Tryz.prog 23 #[nodeV t.own x] w fun e w' => e = .returned (.tuple #[.int .i64 (wroteJ false t (checkT 1 flJ t)).size, .int .i64 (checkT 1 flJ t)]) ∧ Below w.heap.size w w' := by
  have hb1 : Below w.heap.size w (w.alloc (.cells (cellsV t.own x) 27)) := (Below.refl _ _).alloc (Nat.le_refl _) _
  have hk1 := Blk.new w (cellsV t.own x) 27
  have HC := Lib.hid (jw_Write t x _ B d aT aF (hl.below hb1 hB) ho (Nat.le_trans hB hb1.size) hc (h.below hb1))
  obtain ⟨r, hr⟩ : ∃ r, wroteJ false t (checkT 1 flJ t) = r := ⟨_, rfl⟩
  obtain ⟨ck, hck⟩ : ∃ ck, checkT 1 flJ t = ck := ⟨_, rfl⟩
  rw [hr, hck] at HC ⊢
  clear hl ho hB hc h hr hck
  obtain ⟨⟨kind, b, neg, dg, ex, u, wd, s⟩, ho'⟩ : ∃ o, t.own = o := ⟨_, rfl⟩
  simp only [ho'] at HC hk1 hb1
  rw [ho']
  unfold nodeV at HC ⊢
  unfold cellsV at HC hk1 hb1
  simp only [] at HC hk1 hb1 ⊢
  have z0 := hk1.cell 0
  have z1 := hk1.cell 1
  have z2 := hk1.cell 2
  have z3 := hk1.cell 3
  have z4 := hk1.cell 4
  have z5 := hk1.cell 5
  have z6 := hk1.cell 6
  have z7 := hk1.cell 7
  have z8 := hk1.cell 8
  clear ho' hk1
  go_enter Tryz.func23, Tryz.ntmps23
  go_wp2_with fail
  refine HC.out.mono ?_
  rintro e w2 ⟨rfl, hb⟩
  have hb2 := hb1.trans (hb.mono hb1.size)
  clear z0 z1 z2 z3 z4 z5 z6 z7 z8 hb hb1 HC
  go_wp2_with fail
  refine bodyPost_ret (v := .tuple #[.int .i64 r.size, .int .i64 ck]) (by simp [results, Tryz.results23, go_sem]) rfl ⟨rfl, hb2⟩
end Go.Proofs.YtfckekaegjjmkaaGreatDoor
namespace Go.Proofs.YtfckekaegjjmkaaGreatDoor
open Go.RowKit Go.Shelf

theorem RowT.blkJ {W : World} {S : Nat → Prop} {d k n : Nat} {l : List Tr} {xs : List Value} {cs : Array Value} (h : RowT W S d l xs) (hk : Blk W k cs 27) (hc : cs = xs.toArray) (hn : l.length = n) (hl : n ≤ 9223372036854775807) (hS : ∀ q, S q → q < k + 1) : ListAt W (k + 1) (d + 1) l (.slice (some ⟨k, 0, none⟩) n n) := by
  subst hn hc
  refine ⟨_, _, rfl, ⟨hl, Nat.le_refl _⟩, fun i hi => ?_⟩
  obtain ⟨y, ho, hg, hkk⟩ := h.get i hi
  refine ⟨_, y, rfl, Nat.lt_succ_self k, ho, fun j u hu => ?_, hkk.mono hS⟩
  have ha : (⟨k, 0, none⟩ : Addr).add (i * 9 + j) = ⟨k, i * 9 + j, none⟩ := by
    unfold Addr.add
    split
    · rename_i e
      rw [e]
    · simp
  rw [ha, hk.cell, List.getElem?_toArray]
  exact hg j u hu

abbrev jhL : List Tr := [.nd { zeroO with kind := 5, s := ⟨#[97]⟩ } [], .nd { zeroO with kind := 3, dg := ⟨#[49, 53]⟩, ex := -1 } [], .nd { zeroO with kind := 5, s := ⟨#[98]⟩ } [], .nd { zeroO with kind := 7 } []]
abbrev jhT : Tr := .nd { zeroO with kind := 8 } jhL
abbrev rawT : Tr := .nd { zeroO with kind := 6 } []
theorem jh_fit : fitT 1 flJ jhT = true := by decide +kernel
theorem jh_keys : keysB jhL = true := by
  unfold keysB
  refine @decide_eq_true _ (Classical.propDecidable _) ?_
  intro i k hi hk h1 h2
  have : i = 2 ∧ k = 0 := by
    simp only [List.length_cons, List.length_nil] at hi
    omega
  obtain ⟨rfl, rfl⟩ := this
  have h : sameT (.nd { zeroO with kind := 5, s := ⟨#[98]⟩ } []) (.nd { zeroO with kind := 5, s := ⟨#[97]⟩ } []) = false := by decide +kernel
  exact h
theorem jh_dec : decOk false ⟨#[49, 53]⟩ (-1) = true := by decide +kernel
theorem jh_right : rightT jhT = true := by
  unfold rightT
  have h1 : jhT.count ≤ 300 := by decide +kernel
  have h2 : jhT.depth ≤ 16 := by decide +kernel
  rw [decide_eq_true h1, decide_eq_true h2, allB]
  have hv : Lib.validD (⟨#[97]⟩ : ByteArray).data.toList = true := by decide +kernel
  have hv2 : Lib.validD (⟨#[98]⟩ : ByteArray).data.toList = true := by decide +kernel
  have ho : ownB { zeroO with kind := 8 } jhL = true := by
    simp [ownB, jh_keys, onlyB]
  have e1 : ownB { zeroO with kind := 5, s := ⟨#[97]⟩ } [] = true := by
    simp [ownB, onlyB, hv]
    decide
  have e2 : ownB { zeroO with kind := 3, dg := ⟨#[49, 53]⟩, ex := -1 } [] = true := by
    simp [ownB, onlyB, jh_dec]
  have e3 : ownB { zeroO with kind := 5, s := ⟨#[98]⟩ } [] = true := by
    simp [ownB, onlyB, hv2]
    decide
  have e4 : ownB { zeroO with kind := 7 } [] = true := by
    simp [ownB, onlyB]
  rw [ho, allL, allL, allL, allL, allL, allB, allB, allB, allB, e1, e2, e3, e4, allL]
  rfl
theorem jh_check : checkT 1 flJ jhT = 0 := by
  unfold checkT
  rw [if_pos jh_right, if_pos jh_fit]
theorem raw_check : checkT 1 flJ rawT = 61 := by
  unfold checkT
  have hr : rightT rawT = true := by
    unfold rightT
    have h1 : rawT.count ≤ 300 := by decide +kernel
    have h2 : rawT.depth ≤ 16 := by decide +kernel
    have ho : ownB { zeroO with kind := 6 } [] = true := by
      simp [ownB, onlyB]
      decide
    rw [decide_eq_true h1, decide_eq_true h2, allB, ho, allL]
    rfl
  rw [if_pos hr, if_neg (by decide +kernel)]
theorem jh_js : jsT quoteL false 0 jhT = [123, 34, 97, 34, 58, 49, 46, 53, 44, 34, 98, 34, 58, 91, 93, 125] := by decide +kernel
theorem okOJ (o : Own) (h1 : o.dg.size ≤ 100) (h2 : o.s.size ≤ 100) (h3 : 0 ≤ o.kind ∧ o.kind ≤ 100) (h4 : -100 ≤ o.ex ∧ o.ex ≤ 100) (h5 : o.u = 0) (h6 : o.wd = 0) : OwnOk o := ⟨by omega, by omega, by omega, by omega, by omega, by omega⟩
set_option maxHeartbeats 4000000 in
set_option maxRecDepth 100000 in
theorem j_shown {aT aF : Addr} (w : World) (h : SW w aT aF) :
    Calls Tryz.prog 14 #[] w fun e w' => e = .returned (.bool true) ∧ Below w.heap.size w w' := by
  have hb1 : Below w.heap.size w (w.alloc (.cells #[.int .i64 5, .bool false, .bool false, .string ⟨#[]⟩, .int .i64 0, .int .u64 0, .int .i64 0, .string ⟨#[97]⟩, .slice none 0 0, .int .i64 3, .bool false, .bool false, .string ⟨#[49, 53]⟩, .int .i64 (-1), .int .u64 0, .int .i64 0, .string ⟨#[]⟩, .slice none 0 0, .int .i64 5, .bool false, .bool false, .string ⟨#[]⟩, .int .i64 0, .int .u64 0, .int .i64 0, .string ⟨#[98]⟩, .slice none 0 0, .int .i64 7, .bool false, .bool false, .string ⟨#[]⟩, .int .i64 0, .int .u64 0, .int .i64 0, .string ⟨#[]⟩, .slice none 0 0] 27)) := (Below.refl _ _).alloc (Nat.le_refl _) _
  have hb2 : Below w.heap.size w ((w.alloc (.cells #[.int .i64 5, .bool false, .bool false, .string ⟨#[]⟩, .int .i64 0, .int .u64 0, .int .i64 0, .string ⟨#[97]⟩, .slice none 0 0, .int .i64 3, .bool false, .bool false, .string ⟨#[49, 53]⟩, .int .i64 (-1), .int .u64 0, .int .i64 0, .string ⟨#[]⟩, .slice none 0 0, .int .i64 5, .bool false, .bool false, .string ⟨#[]⟩, .int .i64 0, .int .u64 0, .int .i64 0, .string ⟨#[98]⟩, .slice none 0 0, .int .i64 7, .bool false, .bool false, .string ⟨#[]⟩, .int .i64 0, .int .u64 0, .int .i64 0, .string ⟨#[]⟩, .slice none 0 0] 27)).alloc (.cells #[.int .i64 8, .bool false, .bool false, .string ⟨#[]⟩, .int .i64 0, .int .u64 0, .int .i64 0, .string ⟨#[]⟩, .slice (some ⟨w.heap.size, 0, none⟩) 4 4] 27)) := hb1.alloc hb1.size _
  have hk2 : Blk ((w.alloc (.cells #[.int .i64 5, .bool false, .bool false, .string ⟨#[]⟩, .int .i64 0, .int .u64 0, .int .i64 0, .string ⟨#[97]⟩, .slice none 0 0, .int .i64 3, .bool false, .bool false, .string ⟨#[49, 53]⟩, .int .i64 (-1), .int .u64 0, .int .i64 0, .string ⟨#[]⟩, .slice none 0 0, .int .i64 5, .bool false, .bool false, .string ⟨#[]⟩, .int .i64 0, .int .u64 0, .int .i64 0, .string ⟨#[98]⟩, .slice none 0 0, .int .i64 7, .bool false, .bool false, .string ⟨#[]⟩, .int .i64 0, .int .u64 0, .int .i64 0, .string ⟨#[]⟩, .slice none 0 0] 27)).alloc (.cells #[.int .i64 8, .bool false, .bool false, .string ⟨#[]⟩, .int .i64 0, .int .u64 0, .int .i64 0, .string ⟨#[]⟩, .slice (some ⟨w.heap.size, 0, none⟩) 4 4] 27)) w.heap.size #[.int .i64 5, .bool false, .bool false, .string ⟨#[]⟩, .int .i64 0, .int .u64 0, .int .i64 0, .string ⟨#[97]⟩, .slice none 0 0, .int .i64 3, .bool false, .bool false, .string ⟨#[49, 53]⟩, .int .i64 (-1), .int .u64 0, .int .i64 0, .string ⟨#[]⟩, .slice none 0 0, .int .i64 5, .bool false, .bool false, .string ⟨#[]⟩, .int .i64 0, .int .u64 0, .int .i64 0, .string ⟨#[98]⟩, .slice none 0 0, .int .i64 7, .bool false, .bool false, .string ⟨#[]⟩, .int .i64 0, .int .u64 0, .int .i64 0, .string ⟨#[]⟩, .slice none 0 0] 27 := (Blk.new w #[.int .i64 5, .bool false, .bool false, .string ⟨#[]⟩, .int .i64 0, .int .u64 0, .int .i64 0, .string ⟨#[97]⟩, .slice none 0 0, .int .i64 3, .bool false, .bool false, .string ⟨#[49, 53]⟩, .int .i64 (-1), .int .u64 0, .int .i64 0, .string ⟨#[]⟩, .slice none 0 0, .int .i64 5, .bool false, .bool false, .string ⟨#[]⟩, .int .i64 0, .int .u64 0, .int .i64 0, .string ⟨#[98]⟩, .slice none 0 0, .int .i64 7, .bool false, .bool false, .string ⟨#[]⟩, .int .i64 0, .int .u64 0, .int .i64 0, .string ⟨#[]⟩, .slice none 0 0] 27).alloc _
  have hk3 := Blk.new (w.alloc (.cells #[.int .i64 5, .bool false, .bool false, .string ⟨#[]⟩, .int .i64 0, .int .u64 0, .int .i64 0, .string ⟨#[97]⟩, .slice none 0 0, .int .i64 3, .bool false, .bool false, .string ⟨#[49, 53]⟩, .int .i64 (-1), .int .u64 0, .int .i64 0, .string ⟨#[]⟩, .slice none 0 0, .int .i64 5, .bool false, .bool false, .string ⟨#[]⟩, .int .i64 0, .int .u64 0, .int .i64 0, .string ⟨#[98]⟩, .slice none 0 0, .int .i64 7, .bool false, .bool false, .string ⟨#[]⟩, .int .i64 0, .int .u64 0, .int .i64 0, .string ⟨#[]⟩, .slice none 0 0] 27)) #[.int .i64 8, .bool false, .bool false, .string ⟨#[]⟩, .int .i64 0, .int .u64 0, .int .i64 0, .string ⟨#[]⟩, .slice (some ⟨w.heap.size, 0, none⟩) 4 4] 27
  have hrow : RowT ((w.alloc (.cells #[.int .i64 5, .bool false, .bool false, .string ⟨#[]⟩, .int .i64 0, .int .u64 0, .int .i64 0, .string ⟨#[97]⟩, .slice none 0 0, .int .i64 3, .bool false, .bool false, .string ⟨#[49, 53]⟩, .int .i64 (-1), .int .u64 0, .int .i64 0, .string ⟨#[]⟩, .slice none 0 0, .int .i64 5, .bool false, .bool false, .string ⟨#[]⟩, .int .i64 0, .int .u64 0, .int .i64 0, .string ⟨#[98]⟩, .slice none 0 0, .int .i64 7, .bool false, .bool false, .string ⟨#[]⟩, .int .i64 0, .int .u64 0, .int .i64 0, .string ⟨#[]⟩, .slice none 0 0] 27)).alloc (.cells #[.int .i64 8, .bool false, .bool false, .string ⟨#[]⟩, .int .i64 0, .int .u64 0, .int .i64 0, .string ⟨#[]⟩, .slice (some ⟨w.heap.size, 0, none⟩) 4 4] 27)) (fun q => q < w.heap.size + 1) 0 jhL ((nodeCells { zeroO with kind := 5, s := ⟨#[97]⟩ } (.slice none 0 0)) ++ ((nodeCells { zeroO with kind := 3, dg := ⟨#[49, 53]⟩, ex := -1 } (.slice none 0 0)) ++ ((nodeCells { zeroO with kind := 5, s := ⟨#[98]⟩ } (.slice none 0 0)) ++ ((nodeCells { zeroO with kind := 7 } (.slice none 0 0)) ++ [])))) :=
    ⟨_, _, rfl, (okOJ _ (by decide) (by decide) (by decide) (by decide) rfl rfl), LAt.nil _ _ _ _ _, _, _, rfl, (okOJ _ (by decide) (by decide) (by decide) (by decide) rfl rfl), LAt.nil _ _ _ _ _, _, _, rfl, (okOJ _ (by decide) (by decide) (by decide) (by decide) rfl rfl), LAt.nil _ _ _ _ _, _, _, rfl, (okOJ _ (by decide) (by decide) (by decide) (by decide) rfl rfl), LAt.nil _ _ _ _ _, rfl⟩
  have hl := hrow.blkJ (n := 4) hk2 rfl rfl (by decide) (fun q hq => hq)
  have HW := jw_Write jhT (.slice (some ⟨w.heap.size, 0, none⟩) 4 4) ((w.alloc (.cells #[.int .i64 5, .bool false, .bool false, .string ⟨#[]⟩, .int .i64 0, .int .u64 0, .int .i64 0, .string ⟨#[97]⟩, .slice none 0 0, .int .i64 3, .bool false, .bool false, .string ⟨#[49, 53]⟩, .int .i64 (-1), .int .u64 0, .int .i64 0, .string ⟨#[]⟩, .slice none 0 0, .int .i64 5, .bool false, .bool false, .string ⟨#[]⟩, .int .i64 0, .int .u64 0, .int .i64 0, .string ⟨#[98]⟩, .slice none 0 0, .int .i64 7, .bool false, .bool false, .string ⟨#[]⟩, .int .i64 0, .int .u64 0, .int .i64 0, .string ⟨#[]⟩, .slice none 0 0] 27)).alloc (.cells #[.int .i64 8, .bool false, .bool false, .string ⟨#[]⟩, .int .i64 0, .int .u64 0, .int .i64 0, .string ⟨#[]⟩, .slice (some ⟨w.heap.size, 0, none⟩) 4 4] 27)) (w.heap.size + 1) 1 aT aF hl (okOJ _ (by decide) (by decide) (by decide) (by decide) rfl rfl) (by simp) (by decide +kernel) (h.below hb2)
  have HX := Lib.hid (fun W (hW : Below w.heap.size w W) => jw_Write rawT (.slice none 0 0) W 0 0 aT aF (LAt.nil _ _ _ _ _) (okOJ _ (by decide) (by decide) (by decide) (by decide) rfl rfl) (Nat.zero_le _) (by decide +kernel) (h.below hW))
  simp only [jh_check, wroteJ, if_true, jh_js] at HW
  simp only [raw_check, wroteJ, if_neg (show ¬ (61 : Int) = 0 by decide)] at HX
  replace HW : Calls Tryz.prog 16 #[.agg #[.int .i64 8, .bool false, .bool false, .string ⟨#[]⟩, .int .i64 0, .int .u64 0, .int .i64 0, .string ⟨#[]⟩, .slice (some ⟨w.heap.size, 0, none⟩) 4 4]] ((w.alloc (.cells #[.int .i64 5, .bool false, .bool false, .string ⟨#[]⟩, .int .i64 0, .int .u64 0, .int .i64 0, .string ⟨#[97]⟩, .slice none 0 0, .int .i64 3, .bool false, .bool false, .string ⟨#[49, 53]⟩, .int .i64 (-1), .int .u64 0, .int .i64 0, .string ⟨#[]⟩, .slice none 0 0, .int .i64 5, .bool false, .bool false, .string ⟨#[]⟩, .int .i64 0, .int .u64 0, .int .i64 0, .string ⟨#[98]⟩, .slice none 0 0, .int .i64 7, .bool false, .bool false, .string ⟨#[]⟩, .int .i64 0, .int .u64 0, .int .i64 0, .string ⟨#[]⟩, .slice none 0 0] 27)).alloc (.cells #[.int .i64 8, .bool false, .bool false, .string ⟨#[]⟩, .int .i64 0, .int .u64 0, .int .i64 0, .string ⟨#[]⟩, .slice (some ⟨w.heap.size, 0, none⟩) 4 4] 27)) fun e w' => e = .returned (.tuple #[.string ⟨#[123, 34, 97, 34, 58, 49, 46, 53, 44, 34, 98, 34, 58, 91, 93, 125]⟩, .int .i64 0]) ∧ Below ((w.alloc (.cells #[.int .i64 5, .bool false, .bool false, .string ⟨#[]⟩, .int .i64 0, .int .u64 0, .int .i64 0, .string ⟨#[97]⟩, .slice none 0 0, .int .i64 3, .bool false, .bool false, .string ⟨#[49, 53]⟩, .int .i64 (-1), .int .u64 0, .int .i64 0, .string ⟨#[]⟩, .slice none 0 0, .int .i64 5, .bool false, .bool false, .string ⟨#[]⟩, .int .i64 0, .int .u64 0, .int .i64 0, .string ⟨#[98]⟩, .slice none 0 0, .int .i64 7, .bool false, .bool false, .string ⟨#[]⟩, .int .i64 0, .int .u64 0, .int .i64 0, .string ⟨#[]⟩, .slice none 0 0] 27)).alloc (.cells #[.int .i64 8, .bool false, .bool false, .string ⟨#[]⟩, .int .i64 0, .int .u64 0, .int .i64 0, .string ⟨#[]⟩, .slice (some ⟨w.heap.size, 0, none⟩) 4 4] 27)).heap.size ((w.alloc (.cells #[.int .i64 5, .bool false, .bool false, .string ⟨#[]⟩, .int .i64 0, .int .u64 0, .int .i64 0, .string ⟨#[97]⟩, .slice none 0 0, .int .i64 3, .bool false, .bool false, .string ⟨#[49, 53]⟩, .int .i64 (-1), .int .u64 0, .int .i64 0, .string ⟨#[]⟩, .slice none 0 0, .int .i64 5, .bool false, .bool false, .string ⟨#[]⟩, .int .i64 0, .int .u64 0, .int .i64 0, .string ⟨#[98]⟩, .slice none 0 0, .int .i64 7, .bool false, .bool false, .string ⟨#[]⟩, .int .i64 0, .int .u64 0, .int .i64 0, .string ⟨#[]⟩, .slice none 0 0] 27)).alloc (.cells #[.int .i64 8, .bool false, .bool false, .string ⟨#[]⟩, .int .i64 0, .int .u64 0, .int .i64 0, .string ⟨#[]⟩, .slice (some ⟨w.heap.size, 0, none⟩) 4 4] 27)) w' := HW
  replace HX : Hid (∀ W, Below w.heap.size w W → Calls Tryz.prog 16 #[.agg #[.int .i64 6, .bool false, .bool false, .string ⟨#[]⟩, .int .i64 0, .int .u64 0, .int .i64 0, .string ⟨#[]⟩, .slice none 0 0]] W fun e w' => e = .returned (.tuple #[.string ⟨#[]⟩, .int .i64 61]) ∧ Below W.heap.size W w') := HX
  replace HW := Lib.hid HW
  rw [World.size_alloc] at hk3
  have z0 := hk3.cell 0
  have z1 := hk3.cell 1
  have z2 := hk3.cell 2
  have z3 := hk3.cell 3
  have z4 := hk3.cell 4
  have z5 := hk3.cell 5
  have z6 := hk3.cell 6
  have z7 := hk3.cell 7
  have z8 := hk3.cell 8
  clear hl hrow hk2 hk3 h
  go_enter Tryz.func14, Tryz.ntmps14
  go_wp2_with fail
  refine HW.out.mono ?_
  rintro e w1 ⟨rfl, hb⟩
  have hb3 := hb2.trans (hb.mono hb2.size)
  clear hb hb1 hb2 HW z0 z1 z2 z3 z4 z5 z6 z7 z8
  go_wp2_with fail
  refine (HX.out _ hb3).mono ?_
  rintro e w2 ⟨rfl, hb⟩
  have hb4 := hb3.trans (hb.mono hb3.size)
  clear hb hb3 HX
  go_wp2_with fail
  go_ret
  exact ⟨rfl, hb4⟩
end Go.Proofs.YtfckekaegjjmkaaGreatDoor
namespace Go.Proofs.YtfckekaegjjmkaaGreatDoor
open Go.RowKit Go.Shelf

theorem few_okJ {t : Tr} (h : OwnOk t.own) : OwnOk (fewT t).own := by
  rw [fewT_own]
  exact cut_ok h
theorem check_okJ {t : Tr} (h : checkT 1 flJ t = 0) : okJ t := okJ_of t (checkJ_ok h).2.2.1 (checkJ_ok h).2.2.2

end Go.Proofs.YtfckekaegjjmkaaGreatDoor
