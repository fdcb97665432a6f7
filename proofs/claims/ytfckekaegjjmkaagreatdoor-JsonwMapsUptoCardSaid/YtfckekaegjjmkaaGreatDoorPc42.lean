/- The texts JwS, JsC, JsD, JsE, JsF, JwApW, JwLP, JsM, JsN, put together. -/
import Derived.Test.YtfckekaegjjmkaaGreatDoorPc41
import Derived.Test.YtfckekaegjjmkaaGreatDoorPc12
import Derived.Test.YtfckekaegjjmkaaGreatDoorPc11
import Derived.Test.YtfckekaegjjmkaaGreatDoorPc04
namespace Go.Proofs.YtfckekaegjjmkaaGreatDoor
open Go.RowKit Go.Shelf

theorem RowT.blkJ {W : World} {S : Nat → Prop} {d k n : Nat} {l : List Tr} {xs : List Value} {cs : Array Value} (h : RowT W S d l xs) (hk : Blk W k cs 27) (hc : cs = xs.toArray) (hn : l.length = n) (hl : n ≤ 9223372036854775807) (hS : ∀ q, S q → q < k + 1) : ListAt W (k + 1) (d + 1) l (.slice (some ⟨k, 0, none⟩) n n) := by
  subst hn hc
  refine ⟨_, _, rfl, ⟨hl, Nat.le_refl _⟩, fun i hi => ?_⟩
  obtain ⟨y, ho, hg, hkk⟩ := h.get i hi
  refine ⟨_, y, rfl, Nat.lt_succ_self k, ho, fun j u hu => ?_, hkk.mono hS⟩
  have ha : (⟨k, 0, none⟩ : Addr).add (i * 9 + j) = ⟨k, i * 9 + j, none⟩ := by
    unfold Addr.add
    split
    · rename_i e
      rw [e]
    · simp
  rw [ha, hk.cell, List.getElem?_toArray]
  exact hg j u hu

abbrev jhL : List Tr := [.nd { zeroO with kind := 5, s := ⟨#[97]⟩ } [], .nd { zeroO with kind := 3, dg := ⟨#[49, 53]⟩, ex := -1 } [], .nd { zeroO with kind := 5, s := ⟨#[98]⟩ } [], .nd { zeroO with kind := 7 } []]
abbrev jhT : Tr := .nd { zeroO with kind := 8 } jhL
abbrev rawT : Tr := .nd { zeroO with kind := 6 } []
theorem jh_fit : fitT 1 flJ jhT = true := by decide +kernel
theorem jh_keys : keysB jhL = true := by
  unfold keysB
  refine @decide_eq_true _ (Classical.propDecidable _) ?_
  intro i k hi hk h1 h2
  have : i = 2 ∧ k = 0 := by
    simp only [List.length_cons, List.length_nil] at hi
    omega
  obtain ⟨rfl, rfl⟩ := this
  have h : sameT (.nd { zeroO with kind := 5, s := ⟨#[98]⟩ } []) (.nd { zeroO with kind := 5, s := ⟨#[97]⟩ } []) = false := by decide +kernel
  exact h
theorem jh_dec : decOk false ⟨#[49, 53]⟩ (-1) = true := by decide +kernel
theorem jh_right : rightT jhT = true := by
  unfold rightT
  have h1 : jhT.count ≤ 300 := by decide +kernel
  have h2 : jhT.depth ≤ 16 := by decide +kernel
  rw [decide_eq_true h1, decide_eq_true h2, allB]
  have hv : Lib.validD (⟨#[97]⟩ : ByteArray).data.toList = true := by decide +kernel
  have hv2 : Lib.validD (⟨#[98]⟩ : ByteArray).data.toList = true := by decide +kernel
  have ho : ownB { zeroO with kind := 8 } jhL = true := by
    simp [ownB, jh_keys, onlyB]
  have e1 : ownB { zeroO with kind := 5, s := ⟨#[97]⟩ } [] = true := by
    simp [ownB, onlyB, hv]
    decide
  have e2 : ownB { zeroO with kind := 3, dg := ⟨#[49, 53]⟩, ex := -1 } [] = true := by
    simp [ownB, onlyB, jh_dec]
  have e3 : ownB { zeroO with kind := 5, s := ⟨#[98]⟩ } [] = true := by
    simp [ownB, onlyB, hv2]
    decide
  have e4 : ownB { zeroO with kind := 7 } [] = true := by
    simp [ownB, onlyB]
  rw [ho, allL, allL, allL, allL, allL, allB, allB, allB, allB, e1, e2, e3, e4, allL]
  rfl
theorem jh_check : checkT 1 flJ jhT = 0 := by
  unfold checkT
  rw [if_pos jh_right, if_pos jh_fit]
theorem raw_check : checkT 1 flJ rawT = 61 := by
  unfold checkT
  have hr : rightT rawT = true := by
    unfold rightT
    have h1 : rawT.count ≤ 300 := by decide +kernel
    have h2 : rawT.depth ≤ 16 := by decide +kernel
    have ho : ownB { zeroO with kind := 6 } [] = true := by
      simp [ownB, onlyB]
      decide
    rw [decide_eq_true h1, decide_eq_true h2, allB, ho, allL]
    rfl
  rw [if_pos hr, if_neg (by decide +kernel)]
theorem jh_js : jsT quoteL false 0 jhT = [123, 34, 97, 34, 58, 49, 46, 53, 44, 34, 98, 34, 58, 91, 93, 125] := by decide +kernel
theorem okOJ (o : Own) (h1 : o.dg.size ≤ 100) (h2 : o.s.size ≤ 100) (h3 : 0 ≤ o.kind ∧ o.kind ≤ 100) (h4 : -100 ≤ o.ex ∧ o.ex ≤ 100) (h5 : o.u = 0) (h6 : o.wd = 0) : OwnOk o := ⟨by omega, by omega, by omega, by omega, by omega, by omega⟩
set_option maxHeartbeats 4000000 in
set_option maxRecDepth 100000 in
theorem j_shown {aT aF : Addr} (w : World) (h : SW w aT aF) :
    Calls Tryz.prog 14 #[] w fun e w' => e = .returned (.bool true) ∧ Below w.heap.size w w' := by
  have hb1 : Below w.heap.size w (w.alloc (.cells #[.int .i64 5, .bool false, .bool false, .string ⟨#[]⟩, .int .i64 0, .int .u64 0, .int .i64 0, .string ⟨#[97]⟩, .slice none 0 0, .int .i64 3, .bool false, .bool false, .string ⟨#[49, 53]⟩, .int .i64 (-1), .int .u64 0, .int .i64 0, .string ⟨#[]⟩, .slice none 0 0, .int .i64 5, .bool false, .bool false, .string ⟨#[]⟩, .int .i64 0, .int .u64 0, .int .i64 0, .string ⟨#[98]⟩, .slice none 0 0, .int .i64 7, .bool false, .bool false, .string ⟨#[]⟩, .int .i64 0, .int .u64 0, .int .i64 0, .string ⟨#[]⟩, .slice none 0 0] 27)) := (Below.refl _ _).alloc (Nat.le_refl _) _
  have hb2 : Below w.heap.size w ((w.alloc (.cells #[.int .i64 5, .bool false, .bool false, .string ⟨#[]⟩, .int .i64 0, .int .u64 0, .int .i64 0, .string ⟨#[97]⟩, .slice none 0 0, .int .i64 3, .bool false, .bool false, .string ⟨#[49, 53]⟩, .int .i64 (-1), .int .u64 0, .int .i64 0, .string ⟨#[]⟩, .slice none 0 0, .int .i64 5, .bool false, .bool false, .string ⟨#[]⟩, .int .i64 0, .int .u64 0, .int .i64 0, .string ⟨#[98]⟩, .slice none 0 0, .int .i64 7, .bool false, .bool false, .string ⟨#[]⟩, .int .i64 0, .int .u64 0, .int .i64 0, .string ⟨#[]⟩, .slice none 0 0] 27)).alloc (.cells #[.int .i64 8, .bool false, .bool false, .string ⟨#[]⟩, .int .i64 0, .int .u64 0, .int .i64 0, .string ⟨#[]⟩, .slice (some ⟨w.heap.size, 0, none⟩) 4 4] 27)) := hb1.alloc hb1.size _
  have hk2 : Blk ((w.alloc (.cells #[.int .i64 5, .bool false, .bool false, .string ⟨#[]⟩, .int .i64 0, .int .u64 0, .int .i64 0, .string ⟨#[97]⟩, .slice none 0 0, .int .i64 3, .bool false, .bool false, .string ⟨#[49, 53]⟩, .int .i64 (-1), .int .u64 0, .int .i64 0, .string ⟨#[]⟩, .slice none 0 0, .int .i64 5, .bool false, .bool false, .string ⟨#[]⟩, .int .i64 0, .int .u64 0, .int .i64 0, .string ⟨#[98]⟩, .slice none 0 0, .int .i64 7, .bool false, .bool false, .string ⟨#[]⟩, .int .i64 0, .int .u64 0, .int .i64 0, .string ⟨#[]⟩, .slice none 0 0] 27)).alloc (.cells #[.int .i64 8, .bool false, .bool false, .string ⟨#[]⟩, .int .i64 0, .int .u64 0, .int .i64 0, .string ⟨#[]⟩, .slice (some ⟨w.heap.size, 0, none⟩) 4 4] 27)) w.heap.size #[.int .i64 5, .bool false, .bool false, .string ⟨#[]⟩, .int .i64 0, .int .u64 0, .int .i64 0, .string ⟨#[97]⟩, .slice none 0 0, .int .i64 3, .bool false, .bool false, .string ⟨#[49, 53]⟩, .int .i64 (-1), .int .u64 0, .int .i64 0, .string ⟨#[]⟩, .slice none 0 0, .int .i64 5, .bool false, .bool false, .string ⟨#[]⟩, .int .i64 0, .int .u64 0, .int .i64 0, .string ⟨#[98]⟩, .slice none 0 0, .int .i64 7, .bool false, .bool false, .string ⟨#[]⟩, .int .i64 0, .int .u64 0, .int .i64 0, .string ⟨#[]⟩, .slice none 0 0] 27 := (Blk.new w #[.int .i64 5, .bool false, .bool false, .string ⟨#[]⟩, .int .i64 0, .int .u64 0, .int .i64 0, .string ⟨#[97]⟩, .slice none 0 0, .int .i64 3, .bool false, .bool false, .string ⟨#[49, 53]⟩, .int .i64 (-1), .int .u64 0, .int .i64 0, .string ⟨#[]⟩, .slice none 0 0, .int .i64 5, .bool false, .bool false, .string ⟨#[]⟩, .int .i64 0, .int .u64 0, .int .i64 0, .string ⟨#[98]⟩, .slice none 0 0, .int .i64 7, .bool false, .bool false, .string ⟨#[]⟩, .int .i64 0, .int .u64 0, .int .i64 0, .string ⟨#[]⟩, .slice none 0 0] 27).alloc _
  have hk3 := Blk.new (w.alloc (.cells #[.int .i64 5, .bool false, .bool false, .string ⟨#[]⟩, .int .i64 0, .int .u64 0, .int .i64 0, .string ⟨#[97]⟩, .slice none 0 0, .int .i64 3, .bool false, .bool false, .string ⟨#[49, 53]⟩, .int .i64 (-1), .int .u64 0, .int .i64 0, .string ⟨#[]⟩, .slice none 0 0, .int .i64 5, .bool false, .bool false, .string ⟨#[]⟩, .int .i64 0, .int .u64 0, .int .i64 0, .string ⟨#[98]⟩, .slice none 0 0, .int .i64 7, .bool false, .bool false, .string ⟨#[]⟩, .int .i64 0, .int .u64 0, .int .i64 0, .string ⟨#[]⟩, .slice none 0 0] 27)) #[.int .i64 8, .bool false, .bool false, .string ⟨#[]⟩, .int .i64 0, .int .u64 0, .int .i64 0, .string ⟨#[]⟩, .slice (some ⟨w.heap.size, 0, none⟩) 4 4] 27
  have hrow : RowT ((w.alloc (.cells #[.int .i64 5, .bool false, .bool false, .string ⟨#[]⟩, .int .i64 0, .int .u64 0, .int .i64 0, .string ⟨#[97]⟩, .slice none 0 0, .int .i64 3, .bool false, .bool false, .string ⟨#[49, 53]⟩, .int .i64 (-1), .int .u64 0, .int .i64 0, .string ⟨#[]⟩, .slice none 0 0, .int .i64 5, .bool false, .bool false, .string ⟨#[]⟩, .int .i64 0, .int .u64 0, .int .i64 0, .string ⟨#[98]⟩, .slice none 0 0, .int .i64 7, .bool false, .bool false, .string ⟨#[]⟩, .int .i64 0, .int .u64 0, .int .i64 0, .string ⟨#[]⟩, .slice none 0 0] 27)).alloc (.cells #[.int .i64 8, .bool false, .bool false, .string ⟨#[]⟩, .int .i64 0, .int .u64 0, .int .i64 0, .string ⟨#[]⟩, .slice (some ⟨w.heap.size, 0, none⟩) 4 4] 27)) (fun q => q < w.heap.size + 1) 0 jhL ((nodeCells { zeroO with kind := 5, s := ⟨#[97]⟩ } (.slice none 0 0)) ++ ((nodeCells { zeroO with kind := 3, dg := ⟨#[49, 53]⟩, ex := -1 } (.slice none 0 0)) ++ ((nodeCells { zeroO with kind := 5, s := ⟨#[98]⟩ } (.slice none 0 0)) ++ ((nodeCells { zeroO with kind := 7 } (.slice none 0 0)) ++ [])))) :=
    ⟨_, _, rfl, (okOJ _ (by decide) (by decide) (by decide) (by decide) rfl rfl), LAt.nil _ _ _ _ _, _, _, rfl, (okOJ _ (by decide) (by decide) (by decide) (by decide) rfl rfl), LAt.nil _ _ _ _ _, _, _, rfl, (okOJ _ (by decide) (by decide) (by decide) (by decide) rfl rfl), LAt.nil _ _ _ _ _, _, _, rfl, (okOJ _ (by decide) (by decide) (by decide) (by decide) rfl rfl), LAt.nil _ _ _ _ _, rfl⟩
  have hl := hrow.blkJ (n := 4) hk2 rfl rfl (by decide) (fun q hq => hq)
  have HW := jw_Write jhT (.slice (some ⟨w.heap.size, 0, none⟩) 4 4) ((w.alloc (.cells #[.int .i64 5, .bool false, .bool false, .string ⟨#[]⟩, .int .i64 0, .int .u64 0, .int .i64 0, .string ⟨#[97]⟩, .slice none 0 0, .int .i64 3, .bool false, .bool false, .string ⟨#[49, 53]⟩, .int .i64 (-1), .int .u64 0, .int .i64 0, .string ⟨#[]⟩, .slice none 0 0, .int .i64 5, .bool false, .bool false, .string ⟨#[]⟩, .int .i64 0, .int .u64 0, .int .i64 0, .string ⟨#[98]⟩, .slice none 0 0, .int .i64 7, .bool false, .bool false, .string ⟨#[]⟩, .int .i64 0, .int .u64 0, .int .i64 0, .string ⟨#[]⟩, .slice none 0 0] 27)).alloc (.cells #[.int .i64 8, .bool false, .bool false, .string ⟨#[]⟩, .int .i64 0, .int .u64 0, .int .i64 0, .string ⟨#[]⟩, .slice (some ⟨w.heap.size, 0, none⟩) 4 4] 27)) (w.heap.size + 1) 1 aT aF hl (okOJ _ (by decide) (by decide) (by decide) (by decide) rfl rfl) (by simp) (by decide +kernel) (h.below hb2)
  have HX := Lib.hid (fun W (hW : Below w.heap.size w W) => jw_Write rawT (.slice none 0 0) W 0 0 aT aF (LAt.nil _ _ _ _ _) (okOJ _ (by decide) (by decide) (by decide) (by decide) rfl rfl) (Nat.zero_le _) (by decide +kernel) (h.below hW))
  simp only [jh_check, wroteJ, if_true, jh_js] at HW
  simp only [raw_check, wroteJ, if_neg (show ¬ (61 : Int) = 0 by decide)] at HX
  replace HW : Calls Tryz.prog 16 #[.agg #[.int .i64 8, .bool false, .bool false, .string ⟨#[]⟩, .int .i64 0, .int .u64 0, .int .i64 0, .string ⟨#[]⟩, .slice (some ⟨w.heap.size, 0, none⟩) 4 4]] ((w.alloc (.cells #[.int .i64 5, .bool false, .bool false, .string ⟨#[]⟩, .int .i64 0, .int .u64 0, .int .i64 0, .string ⟨#[97]⟩, .slice none 0 0, .int .i64 3, .bool false, .bool false, .string ⟨#[49, 53]⟩, .int .i64 (-1), .int .u64 0, .int .i64 0, .string ⟨#[]⟩, .slice none 0 0, .int .i64 5, .bool false, .bool false, .string ⟨#[]⟩, .int .i64 0, .int .u64 0, .int .i64 0, .string ⟨#[98]⟩, .slice none 0 0, .int .i64 7, .bool false, .bool false, .string ⟨#[]⟩, .int .i64 0, .int .u64 0, .int .i64 0, .string ⟨#[]⟩, .slice none 0 0] 27)).alloc (.cells #[.int .i64 8, .bool false, .bool false, .string ⟨#[]⟩, .int .i64 0, .int .u64 0, .int .i64 0, .string ⟨#[]⟩, .slice (some ⟨w.heap.size, 0, none⟩) 4 4] 27)) fun e w' => e = .returned (.tuple #[.string ⟨#[123, 34, 97, 34, 58, 49, 46, 53, 44, 34, 98, 34, 58, 91, 93, 125]⟩, .int .i64 0]) ∧ Below ((w.alloc (.cells #[.int .i64 5, .bool false, .bool false, .string ⟨#[]⟩, .int .i64 0, .int .u64 0, .int .i64 0, .string ⟨#[97]⟩, .slice none 0 0, .int .i64 3, .bool false, .bool false, .string ⟨#[49, 53]⟩, .int .i64 (-1), .int .u64 0, .int .i64 0, .string ⟨#[]⟩, .slice none 0 0, .int .i64 5, .bool false, .bool false, .string ⟨#[]⟩, .int .i64 0, .int .u64 0, .int .i64 0, .string ⟨#[98]⟩, .slice none 0 0, .int .i64 7, .bool false, .bool false, .string ⟨#[]⟩, .int .i64 0, .int .u64 0, .int .i64 0, .string ⟨#[]⟩, .slice none 0 0] 27)).alloc (.cells #[.int .i64 8, .bool false, .bool false, .string ⟨#[]⟩, .int .i64 0, .int .u64 0, .int .i64 0, .string ⟨#[]⟩, .slice (some ⟨w.heap.size, 0, none⟩) 4 4] 27)).heap.size ((w.alloc (.cells #[.int .i64 5, .bool false, .bool false, .string ⟨#[]⟩, .int .i64 0, .int .u64 0, .int .i64 0, .string ⟨#[97]⟩, .slice none 0 0, .int .i64 3, .bool false, .bool false, .string ⟨#[49, 53]⟩, .int .i64 (-1), .int .u64 0, .int .i64 0, .string ⟨#[]⟩, .slice none 0 0, .int .i64 5, .bool false, .bool false, .string ⟨#[]⟩, .int .i64 0, .int .u64 0, .int .i64 0, .string ⟨#[98]⟩, .slice none 0 0, .int .i64 7, .bool false, .bool false, .string ⟨#[]⟩, .int .i64 0, .int .u64 0, .int .i64 0, .string ⟨#[]⟩, .slice none 0 0] 27)).alloc (.cells #[.int .i64 8, .bool false, .bool false, .string ⟨#[]⟩, .int .i64 0, .int .u64 0, .int .i64 0, .string ⟨#[]⟩, .slice (some ⟨w.heap.size, 0, none⟩) 4 4] 27)) w' := HW
  replace HX : Hid (∀ W, Below w.heap.size w W → Calls Tryz.prog 16 #[.agg #[.int .i64 6, .bool false, .bool false, .string ⟨#[]⟩, .int .i64 0, .int .u64 0, .int .i64 0, .string ⟨#[]⟩, .slice none 0 0]] W fun e w' => e = .returned (.tuple #[.string ⟨#[]⟩, .int .i64 61]) ∧ Below W.heap.size W w') := HX
  replace HW := Lib.hid HW
  rw [World.size_alloc] at hk3
  have z0 := hk3.cell 0
  have z1 := hk3.cell 1
  have z2 := hk3.cell 2
  have z3 := hk3.cell 3
  have z4 := hk3.cell 4
  have z5 := hk3.cell 5
  have z6 := hk3.cell 6
  have z7 := hk3.cell 7
  have z8 := hk3.cell 8
  clear hl hrow hk2 hk3 h
  go_enter Tryz.func14, Tryz.ntmps14
  go_wp2_with fail
  refine HW.out.mono ?_
  rintro e w1 ⟨rfl, hb⟩
  have hb3 := hb2.trans (hb.mono hb2.size)
  clear hb hb1 hb2 HW z0 z1 z2 z3 z4 z5 z6 z7 z8
  go_wp2_with fail
  refine (HX.out _ hb3).mono ?_
  rintro e w2 ⟨rfl, hb⟩
  have hb4 := hb3.trans (hb.mono hb3.size)
  clear hb hb3 HX
  go_wp2_with fail
  go_ret
  exact ⟨rfl, hb4⟩
end Go.Proofs.YtfckekaegjjmkaaGreatDoor
namespace Go.Proofs.YtfckekaegjjmkaaGreatDoor
open Go.RowKit Go.Shelf

end Go.Proofs.YtfckekaegjjmkaaGreatDoor
namespace Go.Proofs.YtfckekaegjjmkaaGreatDoor
open Go.RowKit Go.Shelf

/-- What is read is its own, if nothing of a number goes on behind. -/
def GoodS {α : Type} (p : Psr α) : Prop := ∀ l a r, p l = .good a r → ∃ own, own ≠ [] ∧ l = own ++ r ∧ ∀ m, Stops m → p (own ++ m) = .good a m
/-- What is read is its own, whatever stands behind. -/
def GoodA {α : Type} (p : Psr α) : Prop := ∀ l a r, p l = .good a r → ∃ own, own ≠ [] ∧ l = own ++ r ∧ ∀ m, p (own ++ m) = .good a m
theorem GoodA.s {α : Type} {p : Psr α} (h : GoodA p) : GoodS p := fun l a r hp => by
  obtain ⟨own, h1, h2, h3⟩ := h l a r hp
  exact ⟨own, h1, h2, fun m _ => h3 m⟩
section
variable {U : List UInt8 → Option (List UInt8 × List UInt8)} (hU2 : ∀ l s r, U l = some (s, r) → ∃ own, own ≠ [] ∧ l = own ++ r ∧ ∀ m, U (own ++ m) = some (s, m))
include hU2
omit hU2 in
omit hU2 in
omit hU2 in
end
end Go.Proofs.YtfckekaegjjmkaaGreatDoor
namespace Go.Proofs.YtfckekaegjjmkaaGreatDoor
open Go.RowKit Go.Shelf

section
variable {U : List UInt8 → Option (List UInt8 × List UInt8)} (hU2 : ∀ l s r, U l = some (s, r) → ∃ own, own ≠ [] ∧ l = own ++ r ∧ ∀ m, U (own ++ m) = some (s, m))
include hU2
end
section
variable {U : List UInt8 → Option (List UInt8 × List UInt8)}
end
end Go.Proofs.YtfckekaegjjmkaaGreatDoor
namespace Go.Proofs.YtfckekaegjjmkaaGreatDoor
open Go.RowKit Go.Shelf

section
variable (U : List UInt8 → Option (List UInt8 × List UInt8))
variable {U}
variable {Q : List UInt8 → List UInt8}
end
end Go.Proofs.YtfckekaegjjmkaaGreatDoor
namespace Go.Proofs.YtfckekaegjjmkaaGreatDoor
open Go.RowKit Go.Shelf

theorem few_okJ {t : Tr} (h : OwnOk t.own) : OwnOk (fewT t).own := by
  rw [fewT_own]
  exact cut_ok h

end Go.Proofs.YtfckekaegjjmkaaGreatDoor
namespace Go.Proofs.YtfckekaegjjmkaaGreatDoor
open Go.RowKit Go.Shelf

theorem wrote_len (t : Tr) : (wroteJ false t (checkT 1 flJ t)).size ≤ 900000 := by
  unfold wroteJ
  split
  · rename_i h
    have hk := checkJ_ok h
    have := jsT_bound false t 0 (okJ_of t hk.2.2.1 hk.2.2.2) hk.2.2.1 (by omega)
    show (jsT quoteL false 0 t).toArray.size ≤ _
    rw [List.size_toArray]
    omega
  · exact Nat.zero_le _
end Go.Proofs.YtfckekaegjjmkaaGreatDoor
namespace Go.Proofs.YtfckekaegjjmkaaGreatDoor
open Go.RowKit Go.Shelf

end Go.Proofs.YtfckekaegjjmkaaGreatDoor
namespace Go.Proofs.YtfckekaegjjmkaaGreatDoor
open Go.RowKit Go.Shelf

theorem str_inj {a b : List UInt8} (h : strT 5 a = strT 5 b) : a = b := by
  unfold strT at h
  injection h with h _
  have h := congrArg (fun o : Own => o.s.data.toList) h
  exact h
theorem strT_ok (k : List UInt8) (hz : k.length ≤ 400) (hv : Lib.validD k = true) : allB (strT 5 k) = true ∧ okJ (strT 5 k) := by
  constructor
  · unfold strT
    rw [allB, allL, Bool.and_true]
    unfold ownB
    have h1 : (⟨k.toArray⟩ : ByteArray).size = k.length := rfl
    simp [onlyB, h1, hz, hv]
  · unfold strT
    rw [okJ, okJL]
    exact ⟨.text rfl hv rfl, trivial⟩
end Go.Proofs.YtfckekaegjjmkaaGreatDoor
