/- The texts CbSr, CsF, put together. -/
import Derived.Test.YtflkmhgbinlfiaaGreatDoorPm27
import Derived.Test.YtflkmhgbinlfiaaGreatDoorPm44
namespace Go.Proofs.YtflkmhgbinlfiaaGreatDoor
open Go.RowKit Go.Shelf

theorem RowT.blk {W : World} {S : Nat → Prop} {d k n : Nat} {l : List Tr} {xs : List Value} {cs : Array Value} (h : RowT W S d l xs) (hk : Blk W k cs 28) (hc : cs = xs.toArray) (hn : l.length = n) (hl : n ≤ 9223372036854775807) (hS : ∀ q, S q → q < k + 1) : ListAt W (k + 1) (d + 1) l (.slice (some ⟨k, 0, none⟩) n n) := by
  subst hn hc
  refine ⟨_, _, rfl, ⟨hl, Nat.le_refl _⟩, fun i hi => ?_⟩
  obtain ⟨y, ho, hg, hkk⟩ := h.get i hi
  refine ⟨_, y, rfl, Nat.lt_succ_self k, ho, fun j u hu => ?_, hkk.mono hS⟩
  have ha : (⟨k, 0, none⟩ : Addr).add (i * 9 + j) = ⟨k, i * 9 + j, none⟩ := by
    unfold Addr.add
    split
    · rename_i e
      rw [e]
    · simp
  rw [ha, hk.cell, List.getElem?_toArray]
  exact hg j u hu

abbrev shL : List Tr := [.nd { zeroO with kind := 5, s := ⟨#[97]⟩ } [], .nd { zeroO with kind := 3, neg := true, dg := ⟨#[53]⟩, ex := 2 } [], .nd { zeroO with kind := 3, dg := ⟨#[49]⟩ } [], .nd { zeroO with kind := 6 } []]
abbrev shT : Tr := .nd { zeroO with kind := 8 } shL
abbrev extT : Tr := .nd { zeroO with kind := 11 } []

theorem sh_cb : cbT shT = [162, 97, 97, 57, 1, 243, 1, 64] := by decide +kernel
theorem sh_fit : fitT 2 flC shT = true := by decide +kernel
theorem sh_keys : keysB shL = true := by
  unfold keysB
  refine @decide_eq_true _ (Classical.propDecidable _) ?_
  intro i k hi hk h1 h2
  have : i = 2 ∧ k = 0 := by
    simp only [List.length_cons, List.length_nil] at hi
    omega
  obtain ⟨rfl, rfl⟩ := this
  have h : sameT (.nd { zeroO with kind := 3, dg := ⟨#[49]⟩ } []) (.nd { zeroO with kind := 5, s := ⟨#[97]⟩ } []) = false := by decide +kernel
  exact h
theorem sh_right : rightT shT = true := by
  unfold rightT
  have h1 : shT.count ≤ 300 := by decide +kernel
  have h2 : shT.depth ≤ 16 := by decide +kernel
  rw [decide_eq_true h1, decide_eq_true h2, allB]
  have hd1 : decOk true ⟨#[53]⟩ 2 = true := by decide +kernel
  have hd2 : decOk false ⟨#[49]⟩ 0 = true := by decide +kernel
  have hv : Lib.validD (⟨#[97]⟩ : ByteArray).data.toList = true := by decide +kernel
  have ho : ownB { zeroO with kind := 8 } shL = true := by
    simp [ownB, sh_keys, onlyB]
  have e1 : ownB { zeroO with kind := 5, s := ⟨#[97]⟩ } [] = true := by
    simp [ownB, onlyB, hv]
    decide
  have e2 : ownB { zeroO with kind := 3, neg := true, dg := ⟨#[53]⟩, ex := 2 } [] = true := by
    simp [ownB, onlyB, hd1]
  have e3 : ownB { zeroO with kind := 3, dg := ⟨#[49]⟩ } [] = true := by
    simp [ownB, onlyB, hd2]
  have e4 : ownB { zeroO with kind := 6 } [] = true := by
    simp [ownB, onlyB]
    decide
  rw [ho, allL, allL, allL, allL, allL, allB, allB, allB, allB, e1, e2, e3, e4, allL]
  rfl
theorem sh_check : checkT 2 flC shT = 0 := by
  unfold checkT
  rw [if_pos sh_right, if_pos sh_fit]
theorem ext_check : checkT 2 flC extT = 61 := by
  unfold checkT
  have hr : rightT extT = true := by
    unfold rightT
    have h1 : extT.count ≤ 300 := by decide +kernel
    have h2 : extT.depth ≤ 16 := by decide +kernel
    have ho : ownB { zeroO with kind := 11 } [] = true := by
      simp [ownB, onlyB]
      decide
    rw [decide_eq_true h1, decide_eq_true h2, allB, ho, allL]
    rfl
  rw [if_pos hr, if_neg (by decide +kernel)]

theorem okO (o : Own) (h1 : o.dg.size ≤ 100) (h2 : o.s.size ≤ 100) (h3 : 0 ≤ o.kind ∧ o.kind ≤ 100) (h4 : 0 ≤ o.ex ∧ o.ex ≤ 100) (h5 : o.u = 0) (h6 : o.wd = 0) : OwnOk o := ⟨by omega, by omega, by omega, by omega, by omega, by omega⟩
set_option maxHeartbeats 4000000 in
set_option maxRecDepth 100000 in
theorem cb_shown {aT aF : Addr} (w : World) (h : GW w aT aF) :
    Calls Tryz.prog 18 #[] w fun e w' => e = .returned (.bool true) ∧ Below w.heap.size w w' := by
  have hb1 : Below w.heap.size w (w.alloc (.cells #[.int .i64 5, .bool false, .bool false, .string ⟨#[]⟩, .int .i64 0, .int .u64 0, .int .i64 0, .string ⟨#[97]⟩, .slice none 0 0, .int .i64 3, .bool false, .bool true, .string ⟨#[53]⟩, .int .i64 2, .int .u64 0, .int .i64 0, .string ⟨#[]⟩, .slice none 0 0, .int .i64 3, .bool false, .bool false, .string ⟨#[49]⟩, .int .i64 0, .int .u64 0, .int .i64 0, .string ⟨#[]⟩, .slice none 0 0, .int .i64 6, .bool false, .bool false, .string ⟨#[]⟩, .int .i64 0, .int .u64 0, .int .i64 0, .string ⟨#[]⟩, .slice none 0 0] 28)) := (Below.refl _ _).alloc (Nat.le_refl _) _
  have hb2 : Below w.heap.size w ((w.alloc (.cells #[.int .i64 5, .bool false, .bool false, .string ⟨#[]⟩, .int .i64 0, .int .u64 0, .int .i64 0, .string ⟨#[97]⟩, .slice none 0 0, .int .i64 3, .bool false, .bool true, .string ⟨#[53]⟩, .int .i64 2, .int .u64 0, .int .i64 0, .string ⟨#[]⟩, .slice none 0 0, .int .i64 3, .bool false, .bool false, .string ⟨#[49]⟩, .int .i64 0, .int .u64 0, .int .i64 0, .string ⟨#[]⟩, .slice none 0 0, .int .i64 6, .bool false, .bool false, .string ⟨#[]⟩, .int .i64 0, .int .u64 0, .int .i64 0, .string ⟨#[]⟩, .slice none 0 0] 28)).alloc (.cells #[.int .i64 8, .bool false, .bool false, .string ⟨#[]⟩, .int .i64 0, .int .u64 0, .int .i64 0, .string ⟨#[]⟩, .slice (some ⟨w.heap.size, 0, none⟩) 4 4] 28)) := hb1.alloc hb1.size _
  have hk1 := Blk.new w #[.int .i64 5, .bool false, .bool false, .string ⟨#[]⟩, .int .i64 0, .int .u64 0, .int .i64 0, .string ⟨#[97]⟩, .slice none 0 0, .int .i64 3, .bool false, .bool true, .string ⟨#[53]⟩, .int .i64 2, .int .u64 0, .int .i64 0, .string ⟨#[]⟩, .slice none 0 0, .int .i64 3, .bool false, .bool false, .string ⟨#[49]⟩, .int .i64 0, .int .u64 0, .int .i64 0, .string ⟨#[]⟩, .slice none 0 0, .int .i64 6, .bool false, .bool false, .string ⟨#[]⟩, .int .i64 0, .int .u64 0, .int .i64 0, .string ⟨#[]⟩, .slice none 0 0] 28
  have hk2 : Blk ((w.alloc (.cells #[.int .i64 5, .bool false, .bool false, .string ⟨#[]⟩, .int .i64 0, .int .u64 0, .int .i64 0, .string ⟨#[97]⟩, .slice none 0 0, .int .i64 3, .bool false, .bool true, .string ⟨#[53]⟩, .int .i64 2, .int .u64 0, .int .i64 0, .string ⟨#[]⟩, .slice none 0 0, .int .i64 3, .bool false, .bool false, .string ⟨#[49]⟩, .int .i64 0, .int .u64 0, .int .i64 0, .string ⟨#[]⟩, .slice none 0 0, .int .i64 6, .bool false, .bool false, .string ⟨#[]⟩, .int .i64 0, .int .u64 0, .int .i64 0, .string ⟨#[]⟩, .slice none 0 0] 28)).alloc (.cells #[.int .i64 8, .bool false, .bool false, .string ⟨#[]⟩, .int .i64 0, .int .u64 0, .int .i64 0, .string ⟨#[]⟩, .slice (some ⟨w.heap.size, 0, none⟩) 4 4] 28)) w.heap.size #[.int .i64 5, .bool false, .bool false, .string ⟨#[]⟩, .int .i64 0, .int .u64 0, .int .i64 0, .string ⟨#[97]⟩, .slice none 0 0, .int .i64 3, .bool false, .bool true, .string ⟨#[53]⟩, .int .i64 2, .int .u64 0, .int .i64 0, .string ⟨#[]⟩, .slice none 0 0, .int .i64 3, .bool false, .bool false, .string ⟨#[49]⟩, .int .i64 0, .int .u64 0, .int .i64 0, .string ⟨#[]⟩, .slice none 0 0, .int .i64 6, .bool false, .bool false, .string ⟨#[]⟩, .int .i64 0, .int .u64 0, .int .i64 0, .string ⟨#[]⟩, .slice none 0 0] 28 := hk1.alloc _
  have hk3 := Blk.new (w.alloc (.cells #[.int .i64 5, .bool false, .bool false, .string ⟨#[]⟩, .int .i64 0, .int .u64 0, .int .i64 0, .string ⟨#[97]⟩, .slice none 0 0, .int .i64 3, .bool false, .bool true, .string ⟨#[53]⟩, .int .i64 2, .int .u64 0, .int .i64 0, .string ⟨#[]⟩, .slice none 0 0, .int .i64 3, .bool false, .bool false, .string ⟨#[49]⟩, .int .i64 0, .int .u64 0, .int .i64 0, .string ⟨#[]⟩, .slice none 0 0, .int .i64 6, .bool false, .bool false, .string ⟨#[]⟩, .int .i64 0, .int .u64 0, .int .i64 0, .string ⟨#[]⟩, .slice none 0 0] 28)) #[.int .i64 8, .bool false, .bool false, .string ⟨#[]⟩, .int .i64 0, .int .u64 0, .int .i64 0, .string ⟨#[]⟩, .slice (some ⟨w.heap.size, 0, none⟩) 4 4] 28
  have hrow : RowT ((w.alloc (.cells #[.int .i64 5, .bool false, .bool false, .string ⟨#[]⟩, .int .i64 0, .int .u64 0, .int .i64 0, .string ⟨#[97]⟩, .slice none 0 0, .int .i64 3, .bool false, .bool true, .string ⟨#[53]⟩, .int .i64 2, .int .u64 0, .int .i64 0, .string ⟨#[]⟩, .slice none 0 0, .int .i64 3, .bool false, .bool false, .string ⟨#[49]⟩, .int .i64 0, .int .u64 0, .int .i64 0, .string ⟨#[]⟩, .slice none 0 0, .int .i64 6, .bool false, .bool false, .string ⟨#[]⟩, .int .i64 0, .int .u64 0, .int .i64 0, .string ⟨#[]⟩, .slice none 0 0] 28)).alloc (.cells #[.int .i64 8, .bool false, .bool false, .string ⟨#[]⟩, .int .i64 0, .int .u64 0, .int .i64 0, .string ⟨#[]⟩, .slice (some ⟨w.heap.size, 0, none⟩) 4 4] 28)) (fun q => q < w.heap.size + 1) 0 shL ((nodeCells { zeroO with kind := 5, s := ⟨#[97]⟩ } (.slice none 0 0)) ++ ((nodeCells { zeroO with kind := 3, neg := true, dg := ⟨#[53]⟩, ex := 2 } (.slice none 0 0)) ++ ((nodeCells { zeroO with kind := 3, dg := ⟨#[49]⟩ } (.slice none 0 0)) ++ ((nodeCells { zeroO with kind := 6 } (.slice none 0 0)) ++ [])))) :=
    ⟨_, _, rfl, okO _ (by decide) (by decide) (by decide) (by decide) rfl rfl, LAt.nil _ _ _ _ _, _, _, rfl, okO _ (by decide) (by decide) (by decide) (by decide) rfl rfl, LAt.nil _ _ _ _ _, _, _, rfl, okO _ (by decide) (by decide) (by decide) (by decide) rfl rfl, LAt.nil _ _ _ _ _, _, _, rfl, okO _ (by decide) (by decide) (by decide) (by decide) rfl rfl, LAt.nil _ _ _ _ _, rfl⟩
  have hl := hrow.blk (n := 4) hk2 rfl rfl (by decide) (fun q hq => hq)
  have HW := cb_Write shT (.slice (some ⟨w.heap.size, 0, none⟩) 4 4) ((w.alloc (.cells #[.int .i64 5, .bool false, .bool false, .string ⟨#[]⟩, .int .i64 0, .int .u64 0, .int .i64 0, .string ⟨#[97]⟩, .slice none 0 0, .int .i64 3, .bool false, .bool true, .string ⟨#[53]⟩, .int .i64 2, .int .u64 0, .int .i64 0, .string ⟨#[]⟩, .slice none 0 0, .int .i64 3, .bool false, .bool false, .string ⟨#[49]⟩, .int .i64 0, .int .u64 0, .int .i64 0, .string ⟨#[]⟩, .slice none 0 0, .int .i64 6, .bool false, .bool false, .string ⟨#[]⟩, .int .i64 0, .int .u64 0, .int .i64 0, .string ⟨#[]⟩, .slice none 0 0] 28)).alloc (.cells #[.int .i64 8, .bool false, .bool false, .string ⟨#[]⟩, .int .i64 0, .int .u64 0, .int .i64 0, .string ⟨#[]⟩, .slice (some ⟨w.heap.size, 0, none⟩) 4 4] 28)) (w.heap.size + 1) 1 aT aF hl (okO _ (by decide) (by decide) (by decide) (by decide) rfl rfl) (by simp) (by decide +kernel) (h.below hb2)
  have HX := Lib.hid (fun W (hW : Below w.heap.size w W) => cb_Write extT (.slice none 0 0) W 0 0 aT aF (LAt.nil _ _ _ _ _) (okO _ (by decide) (by decide) (by decide) (by decide) rfl rfl) (Nat.zero_le _) (by decide +kernel) (h.below hW))
  simp only [sh_check, wroteC, if_true, sh_cb] at HW
  simp only [ext_check, wroteC, if_neg (show ¬ (61 : Int) = 0 by decide)] at HX
  replace HW : Calls Tryz.prog 20 #[.agg #[.int .i64 8, .bool false, .bool false, .string ⟨#[]⟩, .int .i64 0, .int .u64 0, .int .i64 0, .string ⟨#[]⟩, .slice (some ⟨w.heap.size, 0, none⟩) 4 4]] ((w.alloc (.cells #[.int .i64 5, .bool false, .bool false, .string ⟨#[]⟩, .int .i64 0, .int .u64 0, .int .i64 0, .string ⟨#[97]⟩, .slice none 0 0, .int .i64 3, .bool false, .bool true, .string ⟨#[53]⟩, .int .i64 2, .int .u64 0, .int .i64 0, .string ⟨#[]⟩, .slice none 0 0, .int .i64 3, .bool false, .bool false, .string ⟨#[49]⟩, .int .i64 0, .int .u64 0, .int .i64 0, .string ⟨#[]⟩, .slice none 0 0, .int .i64 6, .bool false, .bool false, .string ⟨#[]⟩, .int .i64 0, .int .u64 0, .int .i64 0, .string ⟨#[]⟩, .slice none 0 0] 28)).alloc (.cells #[.int .i64 8, .bool false, .bool false, .string ⟨#[]⟩, .int .i64 0, .int .u64 0, .int .i64 0, .string ⟨#[]⟩, .slice (some ⟨w.heap.size, 0, none⟩) 4 4] 28)) fun e w' => e = .returned (.tuple #[.string ⟨#[162, 97, 97, 57, 1, 243, 1, 64]⟩, .int .i64 0]) ∧ Below ((w.alloc (.cells #[.int .i64 5, .bool false, .bool false, .string ⟨#[]⟩, .int .i64 0, .int .u64 0, .int .i64 0, .string ⟨#[97]⟩, .slice none 0 0, .int .i64 3, .bool false, .bool true, .string ⟨#[53]⟩, .int .i64 2, .int .u64 0, .int .i64 0, .string ⟨#[]⟩, .slice none 0 0, .int .i64 3, .bool false, .bool false, .string ⟨#[49]⟩, .int .i64 0, .int .u64 0, .int .i64 0, .string ⟨#[]⟩, .slice none 0 0, .int .i64 6, .bool false, .bool false, .string ⟨#[]⟩, .int .i64 0, .int .u64 0, .int .i64 0, .string ⟨#[]⟩, .slice none 0 0] 28)).alloc (.cells #[.int .i64 8, .bool false, .bool false, .string ⟨#[]⟩, .int .i64 0, .int .u64 0, .int .i64 0, .string ⟨#[]⟩, .slice (some ⟨w.heap.size, 0, none⟩) 4 4] 28)).heap.size ((w.alloc (.cells #[.int .i64 5, .bool false, .bool false, .string ⟨#[]⟩, .int .i64 0, .int .u64 0, .int .i64 0, .string ⟨#[97]⟩, .slice none 0 0, .int .i64 3, .bool false, .bool true, .string ⟨#[53]⟩, .int .i64 2, .int .u64 0, .int .i64 0, .string ⟨#[]⟩, .slice none 0 0, .int .i64 3, .bool false, .bool false, .string ⟨#[49]⟩, .int .i64 0, .int .u64 0, .int .i64 0, .string ⟨#[]⟩, .slice none 0 0, .int .i64 6, .bool false, .bool false, .string ⟨#[]⟩, .int .i64 0, .int .u64 0, .int .i64 0, .string ⟨#[]⟩, .slice none 0 0] 28)).alloc (.cells #[.int .i64 8, .bool false, .bool false, .string ⟨#[]⟩, .int .i64 0, .int .u64 0, .int .i64 0, .string ⟨#[]⟩, .slice (some ⟨w.heap.size, 0, none⟩) 4 4] 28)) w' := HW
  replace HX : Hid (∀ W, Below w.heap.size w W → Calls Tryz.prog 20 #[.agg #[.int .i64 11, .bool false, .bool false, .string ⟨#[]⟩, .int .i64 0, .int .u64 0, .int .i64 0, .string ⟨#[]⟩, .slice none 0 0]] W fun e w' => e = .returned (.tuple #[.string ⟨#[]⟩, .int .i64 61]) ∧ Below W.heap.size W w') := HX
  replace HW := Lib.hid HW
  rw [World.size_alloc] at hk3
  have z0 := hk3.cell 0
  have z1 := hk3.cell 1
  have z2 := hk3.cell 2
  have z3 := hk3.cell 3
  have z4 := hk3.cell 4
  have z5 := hk3.cell 5
  have z6 := hk3.cell 6
  have z7 := hk3.cell 7
  have z8 := hk3.cell 8
  clear hl hrow hk1 hk2 hk3 h
  go_enter Tryz.func18, Tryz.ntmps18
  go_wp2_with fail
  refine HW.out.mono ?_
  rintro e w1 ⟨rfl, hb⟩
  have hb3 := hb2.trans (hb.mono hb2.size)
  clear hb hb1 hb2 HW z0 z1 z2 z3 z4 z5 z6 z7 z8
  go_wp2_with fail
  refine (HX.out _ hb3).mono ?_
  rintro e w2 ⟨rfl, hb⟩
  have hb4 := hb3.trans (hb.mono hb3.size)
  clear hb hb3 HX
  go_wp2_with fail
  go_ret
  exact ⟨rfl, hb4⟩
end Go.Proofs.YtflkmhgbinlfiaaGreatDoor
namespace Go.Proofs.YtflkmhgbinlfiaaGreatDoor
open Go.RowKit Go.Shelf
attribute [local go_sem] Oper.semAt_some

theorem check_facts {W : World} {S : Nat → Prop} {d : Nat} {t : Tr} {x : Value} (hl : LAt W S d t.kids x) (ho : OwnOk t.own) (h : checkT 2 flC t = 0) : okC t ∧ t.count ≤ 300 ∧ t.depth ≤ 16 := by
  unfold checkT at h
  split at h
  · rename_i hr
    split at h
    · rename_i hf
      unfold rightT at hr
      rw [Bool.and_eq_true, Bool.and_eq_true, decide_eq_true_iff, decide_eq_true_iff] at hr
      exact ⟨okC_of_at t d x hl ho hr.2.2 hf, hr.1, hr.2.1⟩
    · cases h
  · cases h
theorem zero_check : checkT 2 flC (.nd zeroO []) = 60 := by
  unfold checkT
  have hr : ¬ rightT (.nd zeroO []) = true := by
    unfold rightT
    rw [allB]
    have ho : ownB zeroO [] = false := by
      simp [ownB]
    rw [ho]
    simp
  rw [if_neg hr]
theorem rc_of {s : ByteArray} {t : Tr} (h : itemC s = .good t []) (hs : s.size ≤ 4000) (hc : checkT 2 flC t = 0) : RC s = (0, t) := by
  unfold RC readC
  rw [data_len, if_neg (by omega)]
  unfold itemC at h
  rw [h]
  simp only [ne_eq, not_true_eq_false, if_false]
  rw [if_pos hc]
theorem itemC_back (t : Tr) (m : ByteArray) (hok : okC t) (hd : t.depth ≤ 16) : itemC (bs (cbT t) ++ m) = .good t m.data.toList := by
  unfold itemC
  rw [cat_list, bs_list]
  exact write_back _ t 16 _ hok hd
theorem turn_facts {s : ByteArray} {t : Tr} (h : itemC s = .good t []) (hs : s.size ≤ 1000) (hok : okC t) (hn : t.count ≤ 300) (hd : t.depth ≤ 16) (hc : checkT 2 flC t = 0) :
    RC (bs (cbT t)) = (0, t) ∧ ((bs (cbT t)).size ≤ s.size ∨ ((bs (cbT t)).size = s.size + 1 ∧ 256 < t.count)) := by
  have h1 := read_len _ _ _ _ _ h hok hn
  rw [data_len, List.length_nil, Nat.add_zero] at h1
  have h2 := big_count t
  have hz : (bs (cbT t)).size = (cbT t).length := rfl
  have h3 := itemC_back t ⟨#[]⟩ hok hd
  have e : bs (cbT t) ++ ⟨#[]⟩ = bs (cbT t) := by
    apply ByteArray.ext
    rw [ByteArray.data_append]
    simp
  rw [e] at h3
  refine ⟨rc_of h3 (by omega) hc, ?_⟩
  rw [hz]
  omega

set_option maxHeartbeats 8000000 in
set_option maxRecDepth 100000 in
theorem turns_walk {aT aF : Addr} (s0 : ByteArray) (hs0 : s0.size ≤ 9223372036854775807) (w : World) (h : RW w aT aF) :
    Calls Tryz.prog 9 #[.string s0] w fun e w' => e = .returned (.bool true) ∧ Below w.heap.size w w' := by
  have H1 := Lib.hid (cb_shown w h.g)
  obtain ⟨ks, hks⟩ : ∃ k, min s0.size 1000 = k := ⟨_, rfl⟩
  have y0 : min (s0.size : Int) 1000 = (ks : Int) := by omega
  have y2 : ks ≤ s0.size := by omega
  have hsz := ext_size s0 ks y2
  obtain ⟨s, hs⟩ : ∃ s, s0.extract 0 ks = s := ⟨_, rfl⟩
  rw [hs] at hsz
  have hs9 : s.size ≤ 1000 := by omega
  have HS := Lib.hid hs
  have H2 := Lib.hid (fun (x : ByteArray) (hx : x.size ≤ 1000000000) W (hb : Below w.heap.size w W) => cr_Read x hx W (h.below hb))
  have HG := Lib.hid (fun W (hb : Below w.heap.size w W) => (h.below hb).g)
  have hc := rc_cases s
  clear h hs hks hsz hs0
  go_enter Tryz.func9, Tryz.ntmps9
  go_wp2_with fail
  refine H1.out.mono ?_
  rintro x w1 ⟨rfl, hb1⟩
  go_wp2_with fail
  rw [HS.out]
  have HR := H2.out s (by omega) w1 hb1
  rcases hc with ⟨hc1, hc2⟩ | ⟨hc1, hc2, hc3, hc4, hc5, hc6⟩
  · obtain ⟨⟨e, t⟩, hrc⟩ : ∃ x, RC s = x := ⟨_, rfl⟩
    rw [hrc] at HR hc1 hc2
    simp only [] at hc1 hc2
    subst hc2
    clear hrc y0 y2
    refine HR.mono ?_
    rintro x w3 ⟨hb3, A1, n1, c1, rfl, hl, ho⟩
    have hn : n1 = 0 := hl.len
    subst hn
    rw [show nodeV (Tr.nd zeroO []).own (.slice A1 0 c1) = .agg #[.int .i64 0, .bool false, .bool false, .string ⟨#[]⟩, .int .i64 0, .int .u64 0, .int .i64 0, .string ⟨#[]⟩, .slice A1 0 c1] from rfl]
    have hb3' := hb1.trans (hb3.mono hb1.size)
    have hb4 := hb3'.alloc hb3'.size (.cells #[.int .i64 0, .bool false, .bool false, .string ⟨#[]⟩, .int .i64 0, .int .u64 0, .int .i64 0, .string ⟨#[]⟩, .slice A1 0 c1] 28)
    have hm := Blk.new w3 #[.int .i64 0, .bool false, .bool false, .string ⟨#[]⟩, .int .i64 0, .int .u64 0, .int .i64 0, .string ⟨#[]⟩, .slice A1 0 c1] 28
    have HW := Lib.hid (cb_Write (.nd zeroO []) (.slice A1 0 c1) _ 0 16 aT aF (LAt.nil (w3.alloc (.cells #[.int .i64 0, .bool false, .bool false, .string ⟨#[]⟩, .int .i64 0, .int .u64 0, .int .i64 0, .string ⟨#[]⟩, .slice A1 0 c1] 28)) _ _ _ _) zeroO_ok (Nat.zero_le _) (by decide +kernel) (HG.out _ hb4))
    rw [zero_check] at HW
    have HW : Hid (Calls Tryz.prog 20 #[.agg #[.int .i64 0, .bool false, .bool false, .string ⟨#[]⟩, .int .i64 0, .int .u64 0, .int .i64 0, .string ⟨#[]⟩, .slice A1 0 c1]] (w3.alloc (.cells #[.int .i64 0, .bool false, .bool false, .string ⟨#[]⟩, .int .i64 0, .int .u64 0, .int .i64 0, .string ⟨#[]⟩, .slice A1 0 c1] 28)) fun e w' => e = .returned (.tuple #[.string ⟨#[]⟩, .int .i64 60]) ∧ Below (w3.alloc (.cells #[.int .i64 0, .bool false, .bool false, .string ⟨#[]⟩, .int .i64 0, .int .u64 0, .int .i64 0, .string ⟨#[]⟩, .slice A1 0 c1] 28)).heap.size (w3.alloc (.cells #[.int .i64 0, .bool false, .bool false, .string ⟨#[]⟩, .int .i64 0, .int .u64 0, .int .i64 0, .string ⟨#[]⟩, .slice A1 0 c1] 28)) w') := HW
    have y1 : (e != 0) = true := by rw [bne_iff_ne]; exact hc1
    clear H1 H2 HG HR hc1 hl ho
    have z0 := hm.cell 0
    have z1 := hm.cell 1
    have z2 := hm.cell 2
    have z3 := hm.cell 3
    have z4 := hm.cell 4
    have z5 := hm.cell 5
    have z6 := hm.cell 6
    have z7 := hm.cell 7
    have z8 := hm.cell 8
    go_wp2_with fail
    refine HW.out.mono ?_
    rintro x w5 ⟨rfl, hb5⟩
    have hb6 := hb4.trans (hb5.mono hb4.size)
    go_wp2_with fail
    go_ret
    exact ⟨rfl, hb6⟩
  · obtain ⟨⟨e, t⟩, hrc⟩ : ∃ x, RC s = x := ⟨_, rfl⟩
    rw [hrc] at HR hc1 hc2 hc5 hc6
    simp only [] at hc1 hc2 hc5 hc6
    subst hc1
    clear hrc y0 y2
    refine HR.mono ?_
    rintro x w3 ⟨hb3, A1, n1, c1, rfl, hl1, ho1⟩
    obtain ⟨k1, k2, k3⟩ := check_facts hl1 ho1 hc2
    obtain ⟨f1, f2⟩ := turn_facts hc5 hs9 k1 k2 k3 hc2
    have hb3' := hb1.trans (hb3.mono hb1.size)
    have hl1s := hl1.mono (S' := fun q => q < w3.heap.size) (fun q hq => hq.2)
    have HWR := Lib.hid (fun W (hW : Below w3.heap.size w3 W) => cb_Write t (.slice A1 n1 c1) W w3.heap.size 16 aT aF (hl1s.below hW (Nat.le_refl _)) ho1 hW.size (by omega) (HG.out W (hb3'.trans (hW.mono hb3'.size))))
    rw [hc2] at HWR
    have HCN := Lib.hid (fun W B x (hl : ListAt W B 16 t.kids x) (hB : B ≤ W.heap.size) => ref_Count 16 t x W B hl hB (by omega))
    have HSAME := Lib.hid (fun W B x x' (hl : ListAt W B 16 t.kids x) (hl' : ListAt W B 16 t.kids x') (hB : B ≤ W.heap.size) => ref_SameT 16 t t x x' W B 16 hl hl' hB)
    rw [sameT_refl] at HSAME
    obtain ⟨cn, hcn⟩ : ∃ cn, t.count = cn := ⟨_, rfl⟩
    rw [hcn] at HCN f2
    obtain ⟨a, ha⟩ : ∃ a, bs (cbT t) = a := ⟨_, rfl⟩
    have HW0 : wroteC t 0 = a := by rw [← ha]; rfl
    rw [HW0] at HWR
    rw [ha] at f1 f2
    have HR2 := Lib.hid (fun W (hb : Below w.heap.size w W) => (show Calls Tryz.prog 11 #[.string a] W (ReadPost W (0, t)) from by
      have q := H2.out a (by omega) W hb
      rw [f1] at q
      exact q))
    obtain ⟨⟨kind1, b1, neg1, dg1, ex1, u1, wd1, s1⟩, hoE⟩ : ∃ o, t.own = o := ⟨_, rfl⟩
    have HR2 : Hid (∀ W, Below w.heap.size w W → Calls Tryz.prog 11 #[.string a] W fun x w' => Below W.heap.size W w' ∧ ∃ A n c, x = .returned (.tuple #[nodeV t.own (.slice A n c), .int .i64 0]) ∧ LAt w' (fun q => W.heap.size ≤ q ∧ q < w'.heap.size) 16 t.kids (.slice A n c) ∧ OwnOk t.own) := HR2
    rw [hoE] at HR2 HSAME HWR HCN ⊢
    unfold nodeV at HR2 HSAME HWR HCN ⊢
    simp only [] at HR2 HSAME HWR HCN ⊢
    have hk4 := Blk.new w3 #[.int .i64 kind1, .bool b1, .bool neg1, .string dg1, .int .i64 ex1, .int .u64 u1, .int .i64 wd1, .string s1, .slice A1 n1 c1] 28
    have hb4 := hb3'.alloc hb3'.size (.cells #[.int .i64 kind1, .bool b1, .bool neg1, .string dg1, .int .i64 ex1, .int .u64 u1, .int .i64 wd1, .string s1, .slice A1 n1 c1] 28)
    have hw4 : Below w3.heap.size w3 (w3.alloc (.cells #[.int .i64 kind1, .bool b1, .bool neg1, .string dg1, .int .i64 ex1, .int .u64 u1, .int .i64 wd1, .string s1, .slice A1 n1 c1] 28)) := (Below.refl _ w3).alloc (Nat.le_refl _) _
    have HL1 := Lib.hid hl1s
    have HF2 := Lib.hid f2
    have hcn3 : cn ≤ 300 := by rw [← hcn]; exact k2
    have ha3 : a.size ≤ 1001 := by omega
    clear H1 H2 HG HR hl1 hl1s ho1 hc2 hc5 hc6 k1 k2 k3 f1 f2 hcn HW0 ha hoE hb3
    have z0 := hk4.cell 0
    have z1 := hk4.cell 1
    have z2 := hk4.cell 2
    have z3 := hk4.cell 3
    have z4 := hk4.cell 4
    have z5 := hk4.cell 5
    have z6 := hk4.cell 6
    have z7 := hk4.cell 7
    have z8 := hk4.cell 8
    go_wp2_with fail
    refine (HWR.out _ hw4).mono ?_
    rintro x w5 ⟨rfl, hb5⟩
    have hk5 := hk4.below hb5 hk4.lt
    have hb6 := hb4.trans (hb5.mono hb4.size)
    have hw5 := hw4.trans (hb5.mono hw4.size)
    clear z0 z1 z2 z3 z4 z5 z6 z7 z8 HWR hk4 hb5
    go_wp2_with fail
    refine (HR2.out _ hb6).mono ?_
    rintro x w7 ⟨hb7, A2, n2, c2, rfl, hl2, _⟩
    have hk8 := (hk5.below hb7 hk5.lt).alloc (.cells #[.int .i64 kind1, .bool b1, .bool neg1, .string dg1, .int .i64 ex1, .int .u64 u1, .int .i64 wd1, .string s1, .slice A2 n2 c2] 28)
    have hm8 := Blk.new w7 #[.int .i64 kind1, .bool b1, .bool neg1, .string dg1, .int .i64 ex1, .int .u64 u1, .int .i64 wd1, .string s1, .slice A2 n2 c2] 28
    have hbA := hb6.trans (hb7.mono hb6.size)
    have hb8 := hbA.alloc hbA.size (.cells #[.int .i64 kind1, .bool b1, .bool neg1, .string dg1, .int .i64 ex1, .int .u64 u1, .int .i64 wd1, .string s1, .slice A2 n2 c2] 28)
    have hw7 := hw5.trans (hb7.mono hw5.size)
    have hw8 := hw7.alloc hw7.size (.cells #[.int .i64 kind1, .bool b1, .bool neg1, .string dg1, .int .i64 ex1, .int .u64 u1, .int .i64 wd1, .string s1, .slice A2 n2 c2] 28)
    have hla : ListAt (w7.alloc (.cells #[.int .i64 kind1, .bool b1, .bool neg1, .string dg1, .int .i64 ex1, .int .u64 u1, .int .i64 wd1, .string s1, .slice A2 n2 c2] 28)) w7.heap.size 16 t.kids (.slice A1 n1 c1) := (HL1.out.below hw8 (Nat.le_refl _)).more (by have := hw7.size; omega)
    have hlb : ListAt (w7.alloc (.cells #[.int .i64 kind1, .bool b1, .bool neg1, .string dg1, .int .i64 ex1, .int .u64 u1, .int .i64 wd1, .string s1, .slice A2 n2 c2] 28)) w7.heap.size 16 t.kids (.slice A2 n2 c2) := (hl2.keep (fun q hq => Below.heap_alloc w7 _ q hq.2)).mono (fun q hq => hq.2)
    have HSM := Lib.hid (HSAME.out _ w7.heap.size _ _ hla hlb (by simp))
    have HLA := Lib.hid hla
    clear hl2 hla hlb HSAME HR2 hk5 hb7
    have p0 := hk8.cell 0
    have p1 := hk8.cell 1
    have p2 := hk8.cell 2
    have p3 := hk8.cell 3
    have p4 := hk8.cell 4
    have p5 := hk8.cell 5
    have p6 := hk8.cell 6
    have p7 := hk8.cell 7
    have p8 := hk8.cell 8
    have q0 := hm8.cell 0
    have q1 := hm8.cell 1
    have q2 := hm8.cell 2
    have q3 := hm8.cell 3
    have q4 := hm8.cell 4
    have q5 := hm8.cell 5
    have q6 := hm8.cell 6
    have q7 := hm8.cell 7
    have q8 := hm8.cell 8
    go_wp2_with fail
    refine HSM.out.mono ?_
    rintro x w9 ⟨rfl, hb9⟩
    have hb10 := hb8.trans (hb9.mono hb8.size)
    have hk9 := hk8.below hb9 hk8.lt
    have hz9 := hb9.size
    rw [World.size_alloc] at hz9
    have HCX := Lib.hid (HCN.out w9 w7.heap.size _ (HLA.out.below hb9 (by simp)) (by omega))
    clear HSM p0 p1 p2 p3 p4 p5 p6 p7 p8 q0 q1 q2 q3 q4 q5 q6 q7 q8 hk8 hm8 hb9 HCN HLA
    have z0 := hk9.cell 0
    have z1 := hk9.cell 1
    have z2 := hk9.cell 2
    have z3 := hk9.cell 3
    have z4 := hk9.cell 4
    have z5 := hk9.cell 5
    have z6 := hk9.cell 6
    have z7 := hk9.cell 7
    have z8 := hk9.cell 8
    rcases HF2.out with hf | ⟨hf1, hf2⟩
    · have y3 : (a.size : Int) ≤ s.size := by omega
      clear HF2
      go_wp2_with fail
      go_ret
      exact ⟨rfl, hb10⟩
    · have y3 : ¬ (a.size : Int) ≤ s.size := by omega
      have y4 : (cn : Int) > 256 := by omega
      have y5 : ((a.size : Int) == (s.size : Int) + 1) = true := by rw [beq_iff_eq]; omega
      clear HF2 hf1 hf2
      go_wp2_with fail
      refine HCX.out.mono ?_
      rintro x w11 ⟨rfl, hb11⟩
      have hb12 := hb10.trans (hb11.mono hb10.size)
      go_wp2_with fail
      go_ret
      exact ⟨rfl, hb12⟩
end Go.Proofs.YtflkmhgbinlfiaaGreatDoor
