/- The texts CbS, put together. -/
import Derived.Test.YtffaefdnlgfdbaaGreatDoorPk41
/- cborw: what the laws' shown asks: a map's item; what is no tree of CBOR. -/
namespace Go.Proofs.YtffaefdnlgfdbaaGreatDoor
open Go.RowKit Go.Shelf

theorem RowT.blk {W : World} {S : Nat → Prop} {d k n : Nat} {l : List Tr} {xs : List Value} {cs : Array Value} (h : RowT W S d l xs) (hk : Blk W k cs 27) (hc : cs = xs.toArray) (hn : l.length = n) (hl : n ≤ 9223372036854775807) (hS : ∀ q, S q → q < k + 1) : ListAt W (k + 1) (d + 1) l (.slice (some ⟨k, 0, none⟩) n n) := by
  subst hn hc
  refine ⟨_, _, rfl, ⟨hl, Nat.le_refl _⟩, fun i hi => ?_⟩
  obtain ⟨y, ho, hg, hkk⟩ := h.get i hi
  refine ⟨_, y, rfl, Nat.lt_succ_self k, ho, fun j u hu => ?_, hkk.mono hS⟩
  have ha : (⟨k, 0, none⟩ : Addr).add (i * 9 + j) = ⟨k, i * 9 + j, none⟩ := by
    unfold Addr.add
    split
    · rename_i e
      rw [e]
    · simp
  rw [ha, hk.cell, List.getElem?_toArray]
  exact hg j u hu

abbrev shL : List Tr := [.nd { zeroO with kind := 5, s := ⟨#[97]⟩ } [], .nd { zeroO with kind := 3, neg := true, dg := ⟨#[53]⟩, ex := 2 } [], .nd { zeroO with kind := 3, dg := ⟨#[49]⟩ } [], .nd { zeroO with kind := 6 } []]
abbrev shT : Tr := .nd { zeroO with kind := 8 } shL
abbrev extT : Tr := .nd { zeroO with kind := 11 } []

theorem sh_cb : cbT shT = [162, 97, 97, 57, 1, 243, 1, 64] := by decide +kernel
theorem sh_fit : fitT 2 flC shT = true := by decide +kernel
theorem sh_keys : keysB shL = true := by
  unfold keysB
  refine @decide_eq_true _ (Classical.propDecidable _) ?_
  intro i k hi hk h1 h2
  have : i = 2 ∧ k = 0 := by
    simp only [List.length_cons, List.length_nil] at hi
    omega
  obtain ⟨rfl, rfl⟩ := this
  have h : sameT (.nd { zeroO with kind := 3, dg := ⟨#[49]⟩ } []) (.nd { zeroO with kind := 5, s := ⟨#[97]⟩ } []) = false := by decide +kernel
  exact h
theorem sh_right : rightT shT = true := by
  unfold rightT
  have h1 : shT.count ≤ 300 := by decide +kernel
  have h2 : shT.depth ≤ 16 := by decide +kernel
  rw [decide_eq_true h1, decide_eq_true h2, allB]
  have hd1 : decOk true ⟨#[53]⟩ 2 = true := by decide +kernel
  have hd2 : decOk false ⟨#[49]⟩ 0 = true := by decide +kernel
  have hv : Lib.validD (⟨#[97]⟩ : ByteArray).data.toList = true := by decide +kernel
  have ho : ownB { zeroO with kind := 8 } shL = true := by
    simp [ownB, sh_keys, onlyB]
  have e1 : ownB { zeroO with kind := 5, s := ⟨#[97]⟩ } [] = true := by
    simp [ownB, onlyB, hv]
    decide
  have e2 : ownB { zeroO with kind := 3, neg := true, dg := ⟨#[53]⟩, ex := 2 } [] = true := by
    simp [ownB, onlyB, hd1]
  have e3 : ownB { zeroO with kind := 3, dg := ⟨#[49]⟩ } [] = true := by
    simp [ownB, onlyB, hd2]
  have e4 : ownB { zeroO with kind := 6 } [] = true := by
    simp [ownB, onlyB]
    decide
  rw [ho, allL, allL, allL, allL, allL, allB, allB, allB, allB, e1, e2, e3, e4, allL]
  rfl
theorem sh_check : checkT 2 flC shT = 0 := by
  unfold checkT
  rw [if_pos sh_right, if_pos sh_fit]
theorem ext_check : checkT 2 flC extT = 61 := by
  unfold checkT
  have hr : rightT extT = true := by
    unfold rightT
    have h1 : extT.count ≤ 300 := by decide +kernel
    have h2 : extT.depth ≤ 16 := by decide +kernel
    have ho : ownB { zeroO with kind := 11 } [] = true := by
      simp [ownB, onlyB]
      decide
    rw [decide_eq_true h1, decide_eq_true h2, allB, ho, allL]
    rfl
  rw [if_pos hr, if_neg (by decide +kernel)]

theorem okO (o : Own) (h1 : o.dg.size ≤ 100) (h2 : o.s.size ≤ 100) (h3 : 0 ≤ o.kind ∧ o.kind ≤ 100) (h4 : 0 ≤ o.ex ∧ o.ex ≤ 100) (h5 : o.u = 0) (h6 : o.wd = 0) : OwnOk o := ⟨by omega, by omega, by omega, by omega, by omega, by omega⟩
set_option maxHeartbeats 4000000 in
set_option maxRecDepth 100000 in
theorem cb_shown {aT aF : Addr} (w : World) (h : GW w aT aF) :
    Calls Tryz.prog 7 #[] w fun e w' => e = .returned (.bool true) ∧ Below w.heap.size w w' := by
  have hb1 : Below w.heap.size w (w.alloc (.cells #[.int .i64 5, .bool false, .bool false, .string ⟨#[]⟩, .int .i64 0, .int .u64 0, .int .i64 0, .string ⟨#[97]⟩, .slice none 0 0, .int .i64 3, .bool false, .bool true, .string ⟨#[53]⟩, .int .i64 2, .int .u64 0, .int .i64 0, .string ⟨#[]⟩, .slice none 0 0, .int .i64 3, .bool false, .bool false, .string ⟨#[49]⟩, .int .i64 0, .int .u64 0, .int .i64 0, .string ⟨#[]⟩, .slice none 0 0, .int .i64 6, .bool false, .bool false, .string ⟨#[]⟩, .int .i64 0, .int .u64 0, .int .i64 0, .string ⟨#[]⟩, .slice none 0 0] 27)) := (Below.refl _ _).alloc (Nat.le_refl _) _
  have hb2 : Below w.heap.size w ((w.alloc (.cells #[.int .i64 5, .bool false, .bool false, .string ⟨#[]⟩, .int .i64 0, .int .u64 0, .int .i64 0, .string ⟨#[97]⟩, .slice none 0 0, .int .i64 3, .bool false, .bool true, .string ⟨#[53]⟩, .int .i64 2, .int .u64 0, .int .i64 0, .string ⟨#[]⟩, .slice none 0 0, .int .i64 3, .bool false, .bool false, .string ⟨#[49]⟩, .int .i64 0, .int .u64 0, .int .i64 0, .string ⟨#[]⟩, .slice none 0 0, .int .i64 6, .bool false, .bool false, .string ⟨#[]⟩, .int .i64 0, .int .u64 0, .int .i64 0, .string ⟨#[]⟩, .slice none 0 0] 27)).alloc (.cells #[.int .i64 8, .bool false, .bool false, .string ⟨#[]⟩, .int .i64 0, .int .u64 0, .int .i64 0, .string ⟨#[]⟩, .slice (some ⟨w.heap.size, 0, none⟩) 4 4] 27)) := hb1.alloc hb1.size _
  have hk1 := Blk.new w #[.int .i64 5, .bool false, .bool false, .string ⟨#[]⟩, .int .i64 0, .int .u64 0, .int .i64 0, .string ⟨#[97]⟩, .slice none 0 0, .int .i64 3, .bool false, .bool true, .string ⟨#[53]⟩, .int .i64 2, .int .u64 0, .int .i64 0, .string ⟨#[]⟩, .slice none 0 0, .int .i64 3, .bool false, .bool false, .string ⟨#[49]⟩, .int .i64 0, .int .u64 0, .int .i64 0, .string ⟨#[]⟩, .slice none 0 0, .int .i64 6, .bool false, .bool false, .string ⟨#[]⟩, .int .i64 0, .int .u64 0, .int .i64 0, .string ⟨#[]⟩, .slice none 0 0] 27
  have hk2 : Blk ((w.alloc (.cells #[.int .i64 5, .bool false, .bool false, .string ⟨#[]⟩, .int .i64 0, .int .u64 0, .int .i64 0, .string ⟨#[97]⟩, .slice none 0 0, .int .i64 3, .bool false, .bool true, .string ⟨#[53]⟩, .int .i64 2, .int .u64 0, .int .i64 0, .string ⟨#[]⟩, .slice none 0 0, .int .i64 3, .bool false, .bool false, .string ⟨#[49]⟩, .int .i64 0, .int .u64 0, .int .i64 0, .string ⟨#[]⟩, .slice none 0 0, .int .i64 6, .bool false, .bool false, .string ⟨#[]⟩, .int .i64 0, .int .u64 0, .int .i64 0, .string ⟨#[]⟩, .slice none 0 0] 27)).alloc (.cells #[.int .i64 8, .bool false, .bool false, .string ⟨#[]⟩, .int .i64 0, .int .u64 0, .int .i64 0, .string ⟨#[]⟩, .slice (some ⟨w.heap.size, 0, none⟩) 4 4] 27)) w.heap.size #[.int .i64 5, .bool false, .bool false, .string ⟨#[]⟩, .int .i64 0, .int .u64 0, .int .i64 0, .string ⟨#[97]⟩, .slice none 0 0, .int .i64 3, .bool false, .bool true, .string ⟨#[53]⟩, .int .i64 2, .int .u64 0, .int .i64 0, .string ⟨#[]⟩, .slice none 0 0, .int .i64 3, .bool false, .bool false, .string ⟨#[49]⟩, .int .i64 0, .int .u64 0, .int .i64 0, .string ⟨#[]⟩, .slice none 0 0, .int .i64 6, .bool false, .bool false, .string ⟨#[]⟩, .int .i64 0, .int .u64 0, .int .i64 0, .string ⟨#[]⟩, .slice none 0 0] 27 := hk1.alloc _
  have hk3 := Blk.new (w.alloc (.cells #[.int .i64 5, .bool false, .bool false, .string ⟨#[]⟩, .int .i64 0, .int .u64 0, .int .i64 0, .string ⟨#[97]⟩, .slice none 0 0, .int .i64 3, .bool false, .bool true, .string ⟨#[53]⟩, .int .i64 2, .int .u64 0, .int .i64 0, .string ⟨#[]⟩, .slice none 0 0, .int .i64 3, .bool false, .bool false, .string ⟨#[49]⟩, .int .i64 0, .int .u64 0, .int .i64 0, .string ⟨#[]⟩, .slice none 0 0, .int .i64 6, .bool false, .bool false, .string ⟨#[]⟩, .int .i64 0, .int .u64 0, .int .i64 0, .string ⟨#[]⟩, .slice none 0 0] 27)) #[.int .i64 8, .bool false, .bool false, .string ⟨#[]⟩, .int .i64 0, .int .u64 0, .int .i64 0, .string ⟨#[]⟩, .slice (some ⟨w.heap.size, 0, none⟩) 4 4] 27
  have hrow : RowT ((w.alloc (.cells #[.int .i64 5, .bool false, .bool false, .string ⟨#[]⟩, .int .i64 0, .int .u64 0, .int .i64 0, .string ⟨#[97]⟩, .slice none 0 0, .int .i64 3, .bool false, .bool true, .string ⟨#[53]⟩, .int .i64 2, .int .u64 0, .int .i64 0, .string ⟨#[]⟩, .slice none 0 0, .int .i64 3, .bool false, .bool false, .string ⟨#[49]⟩, .int .i64 0, .int .u64 0, .int .i64 0, .string ⟨#[]⟩, .slice none 0 0, .int .i64 6, .bool false, .bool false, .string ⟨#[]⟩, .int .i64 0, .int .u64 0, .int .i64 0, .string ⟨#[]⟩, .slice none 0 0] 27)).alloc (.cells #[.int .i64 8, .bool false, .bool false, .string ⟨#[]⟩, .int .i64 0, .int .u64 0, .int .i64 0, .string ⟨#[]⟩, .slice (some ⟨w.heap.size, 0, none⟩) 4 4] 27)) (fun q => q < w.heap.size + 1) 0 shL ((nodeCells { zeroO with kind := 5, s := ⟨#[97]⟩ } (.slice none 0 0)) ++ ((nodeCells { zeroO with kind := 3, neg := true, dg := ⟨#[53]⟩, ex := 2 } (.slice none 0 0)) ++ ((nodeCells { zeroO with kind := 3, dg := ⟨#[49]⟩ } (.slice none 0 0)) ++ ((nodeCells { zeroO with kind := 6 } (.slice none 0 0)) ++ [])))) :=
    ⟨_, _, rfl, okO _ (by decide) (by decide) (by decide) (by decide) rfl rfl, LAt.nil _ _ _ _ _, _, _, rfl, okO _ (by decide) (by decide) (by decide) (by decide) rfl rfl, LAt.nil _ _ _ _ _, _, _, rfl, okO _ (by decide) (by decide) (by decide) (by decide) rfl rfl, LAt.nil _ _ _ _ _, _, _, rfl, okO _ (by decide) (by decide) (by decide) (by decide) rfl rfl, LAt.nil _ _ _ _ _, rfl⟩
  have hl := hrow.blk (n := 4) hk2 rfl rfl (by decide) (fun q hq => hq)
  have HW := cb_Write shT (.slice (some ⟨w.heap.size, 0, none⟩) 4 4) ((w.alloc (.cells #[.int .i64 5, .bool false, .bool false, .string ⟨#[]⟩, .int .i64 0, .int .u64 0, .int .i64 0, .string ⟨#[97]⟩, .slice none 0 0, .int .i64 3, .bool false, .bool true, .string ⟨#[53]⟩, .int .i64 2, .int .u64 0, .int .i64 0, .string ⟨#[]⟩, .slice none 0 0, .int .i64 3, .bool false, .bool false, .string ⟨#[49]⟩, .int .i64 0, .int .u64 0, .int .i64 0, .string ⟨#[]⟩, .slice none 0 0, .int .i64 6, .bool false, .bool false, .string ⟨#[]⟩, .int .i64 0, .int .u64 0, .int .i64 0, .string ⟨#[]⟩, .slice none 0 0] 27)).alloc (.cells #[.int .i64 8, .bool false, .bool false, .string ⟨#[]⟩, .int .i64 0, .int .u64 0, .int .i64 0, .string ⟨#[]⟩, .slice (some ⟨w.heap.size, 0, none⟩) 4 4] 27)) (w.heap.size + 1) 1 aT aF hl (okO _ (by decide) (by decide) (by decide) (by decide) rfl rfl) (by simp) (by decide +kernel) (h.below hb2)
  have HX := Lib.hid (fun W (hW : Below w.heap.size w W) => cb_Write extT (.slice none 0 0) W 0 0 aT aF (LAt.nil _ _ _ _ _) (okO _ (by decide) (by decide) (by decide) (by decide) rfl rfl) (Nat.zero_le _) (by decide +kernel) (h.below hW))
  simp only [sh_check, wroteC, if_true, sh_cb] at HW
  simp only [ext_check, wroteC, if_neg (show ¬ (61 : Int) = 0 by decide)] at HX
  replace HW : Calls Tryz.prog 9 #[.agg #[.int .i64 8, .bool false, .bool false, .string ⟨#[]⟩, .int .i64 0, .int .u64 0, .int .i64 0, .string ⟨#[]⟩, .slice (some ⟨w.heap.size, 0, none⟩) 4 4]] ((w.alloc (.cells #[.int .i64 5, .bool false, .bool false, .string ⟨#[]⟩, .int .i64 0, .int .u64 0, .int .i64 0, .string ⟨#[97]⟩, .slice none 0 0, .int .i64 3, .bool false, .bool true, .string ⟨#[53]⟩, .int .i64 2, .int .u64 0, .int .i64 0, .string ⟨#[]⟩, .slice none 0 0, .int .i64 3, .bool false, .bool false, .string ⟨#[49]⟩, .int .i64 0, .int .u64 0, .int .i64 0, .string ⟨#[]⟩, .slice none 0 0, .int .i64 6, .bool false, .bool false, .string ⟨#[]⟩, .int .i64 0, .int .u64 0, .int .i64 0, .string ⟨#[]⟩, .slice none 0 0] 27)).alloc (.cells #[.int .i64 8, .bool false, .bool false, .string ⟨#[]⟩, .int .i64 0, .int .u64 0, .int .i64 0, .string ⟨#[]⟩, .slice (some ⟨w.heap.size, 0, none⟩) 4 4] 27)) fun e w' => e = .returned (.tuple #[.string ⟨#[162, 97, 97, 57, 1, 243, 1, 64]⟩, .int .i64 0]) ∧ Below ((w.alloc (.cells #[.int .i64 5, .bool false, .bool false, .string ⟨#[]⟩, .int .i64 0, .int .u64 0, .int .i64 0, .string ⟨#[97]⟩, .slice none 0 0, .int .i64 3, .bool false, .bool true, .string ⟨#[53]⟩, .int .i64 2, .int .u64 0, .int .i64 0, .string ⟨#[]⟩, .slice none 0 0, .int .i64 3, .bool false, .bool false, .string ⟨#[49]⟩, .int .i64 0, .int .u64 0, .int .i64 0, .string ⟨#[]⟩, .slice none 0 0, .int .i64 6, .bool false, .bool false, .string ⟨#[]⟩, .int .i64 0, .int .u64 0, .int .i64 0, .string ⟨#[]⟩, .slice none 0 0] 27)).alloc (.cells #[.int .i64 8, .bool false, .bool false, .string ⟨#[]⟩, .int .i64 0, .int .u64 0, .int .i64 0, .string ⟨#[]⟩, .slice (some ⟨w.heap.size, 0, none⟩) 4 4] 27)).heap.size ((w.alloc (.cells #[.int .i64 5, .bool false, .bool false, .string ⟨#[]⟩, .int .i64 0, .int .u64 0, .int .i64 0, .string ⟨#[97]⟩, .slice none 0 0, .int .i64 3, .bool false, .bool true, .string ⟨#[53]⟩, .int .i64 2, .int .u64 0, .int .i64 0, .string ⟨#[]⟩, .slice none 0 0, .int .i64 3, .bool false, .bool false, .string ⟨#[49]⟩, .int .i64 0, .int .u64 0, .int .i64 0, .string ⟨#[]⟩, .slice none 0 0, .int .i64 6, .bool false, .bool false, .string ⟨#[]⟩, .int .i64 0, .int .u64 0, .int .i64 0, .string ⟨#[]⟩, .slice none 0 0] 27)).alloc (.cells #[.int .i64 8, .bool false, .bool false, .string ⟨#[]⟩, .int .i64 0, .int .u64 0, .int .i64 0, .string ⟨#[]⟩, .slice (some ⟨w.heap.size, 0, none⟩) 4 4] 27)) w' := HW
  replace HX : Hid (∀ W, Below w.heap.size w W → Calls Tryz.prog 9 #[.agg #[.int .i64 11, .bool false, .bool false, .string ⟨#[]⟩, .int .i64 0, .int .u64 0, .int .i64 0, .string ⟨#[]⟩, .slice none 0 0]] W fun e w' => e = .returned (.tuple #[.string ⟨#[]⟩, .int .i64 61]) ∧ Below W.heap.size W w') := HX
  replace HW := Lib.hid HW
  rw [World.size_alloc] at hk3
  have z0 := hk3.cell 0
  have z1 := hk3.cell 1
  have z2 := hk3.cell 2
  have z3 := hk3.cell 3
  have z4 := hk3.cell 4
  have z5 := hk3.cell 5
  have z6 := hk3.cell 6
  have z7 := hk3.cell 7
  have z8 := hk3.cell 8
  clear hl hrow hk1 hk2 hk3 h
  go_enter Tryz.func7, Tryz.ntmps7
  go_wp2_with fail
  refine HW.out.mono ?_
  rintro e w1 ⟨rfl, hb⟩
  have hb3 := hb2.trans (hb.mono hb2.size)
  clear hb hb1 hb2 HW z0 z1 z2 z3 z4 z5 z6 z7 z8
  go_wp2_with fail
  refine (HX.out _ hb3).mono ?_
  rintro e w2 ⟨rfl, hb⟩
  have hb4 := hb3.trans (hb.mono hb3.size)
  clear hb hb3 HX
  go_wp2_with fail
  go_ret
  exact ⟨rfl, hb4⟩
end Go.Proofs.YtffaefdnlgfdbaaGreatDoor
