/- The texts JrQ, JrR, JsG, JsH, JsI, JsK, put together. -/
import Derived.Test.YtfckekaegjjmkaaGreatDoorPf46
import Derived.Test.YtfckekaegjjmkaaGreatDoorPf44
namespace Go.Proofs.YtfckekaegjjmkaaGreatDoor
open Go.RowKit Go.Shelf
attribute [local go_sem] Oper.semAt_some

abbrev q1A : Tr := .nd { zeroO with kind := 7 } [.nd { zeroO with kind := 3, dg := ⟨#[49]⟩ } [], .nd { zeroO with kind := 3, dg := ⟨#[50, 53]⟩, ex := -1 } []]
abbrev q1L : List Tr := [.nd { zeroO with kind := 5, s := ⟨#[97]⟩ } [], q1A]
abbrev q1T : Tr := .nd { zeroO with kind := 8 } q1L
abbrev q3L : List Tr := [.nd { zeroO with kind := 5, s := ⟨#[97]⟩ } [], .nd { zeroO with kind := 3, dg := ⟨#[49]⟩ } [], .nd { zeroO with kind := 5, s := ⟨#[97]⟩ } [], .nd { zeroO with kind := 3, dg := ⟨#[50]⟩ } []]
abbrev q3T : Tr := .nd { zeroO with kind := 8 } q3L
theorem q1_value : valueJ uqJ 15 16 [123, 34, 97, 34, 58, 91, 49, 44, 50, 46, 53, 48, 93, 125] = .good q1T [] := by kernel_rfl
theorem q2_value : valueJ uqJ 5 16 [91, 49, 44, 93] = .bad 80 := by kernel_rfl
theorem q3_value : valueJ uqJ 14 16 [123, 34, 97, 34, 58, 49, 44, 34, 97, 34, 58, 50, 125] = .good q3T [] := by kernel_rfl
theorem q4_value : valueJ uqJ 5 16 [110, 117, 108, 108] = .good nilT [] := by kernel_rfl
theorem q1_keys : keysB q1L = true := by
  unfold keysB
  refine @decide_eq_true _ (Classical.propDecidable _) ?_
  intro i k hi hk h1 h2
  simp only [List.length_cons, List.length_nil] at hi
  omega
theorem q3_keys : keysB q3L = false := by
  unfold keysB
  refine @decide_eq_false _ (Classical.propDecidable _) ?_
  intro h
  have := h 2 0 (by decide) (by decide) (by decide) (by decide)
  have h2 : sameT (.nd { zeroO with kind := 5, s := ⟨#[97]⟩ } []) (.nd { zeroO with kind := 5, s := ⟨#[97]⟩ } []) = true := by decide +kernel
  exact absurd (h2.symm.trans this) (by decide)
theorem q1_right : rightT q1T = true := by
  unfold rightT
  have h1 : q1T.count ≤ 300 := by decide +kernel
  have h2 : q1T.depth ≤ 16 := by decide +kernel
  rw [decide_eq_true h1, decide_eq_true h2, allB]
  have hv : Lib.validD (⟨#[97]⟩ : ByteArray).data.toList = true := by decide +kernel
  have d1 : decOk false ⟨#[49]⟩ 0 = true := by decide +kernel
  have d2 : decOk false ⟨#[50, 53]⟩ (-1) = true := by decide +kernel
  have ho : ownB { zeroO with kind := 8 } q1L = true := by
    simp [ownB, q1_keys, onlyB]
  have e1 : ownB { zeroO with kind := 5, s := ⟨#[97]⟩ } [] = true := by
    simp [ownB, onlyB, hv]
    decide
  have e2 : ownB { zeroO with kind := 3, dg := ⟨#[49]⟩ } [] = true := by
    simp [ownB, onlyB, d1]
  have e3 : ownB { zeroO with kind := 3, dg := ⟨#[50, 53]⟩, ex := -1 } [] = true := by
    simp [ownB, onlyB, d2]
  have e4 : ownB { zeroO with kind := 7 } [.nd { zeroO with kind := 3, dg := ⟨#[49]⟩ } [], .nd { zeroO with kind := 3, dg := ⟨#[50, 53]⟩, ex := -1 } []] = true := by
    simp [ownB, onlyB]
  rw [ho, allL, allL, allL, allB, allB, e1, e4, allL, allL, allL, allB, allB, allL, e2, e3]
  rfl
theorem q3_right : rightT q3T = false := by
  unfold rightT
  have ho : ownB { zeroO with kind := 8 } q3L = false := by
    simp [ownB, q3_keys, onlyB]
  rw [allB, ho, Bool.false_and, Bool.and_false, Bool.and_false]
theorem q4_right : rightT nilT = true := by
  unfold rightT
  have h1 : nilT.count ≤ 300 := by decide +kernel
  have h2 : nilT.depth ≤ 16 := by decide +kernel
  have h3 : ownB { zeroO with kind := 1 } [] = true := by
    simp [ownB, onlyB]
  rw [decide_eq_true h1, decide_eq_true h2]
  unfold nilT
  rw [allB, h3, allL]
  rfl
theorem rj_1 : readJ uqJ [123, 34, 97, 34, 58, 91, 49, 44, 50, 46, 53, 48, 93, 125] = (0, q1T) := by
  unfold readJ docJ
  rw [if_neg (by decide), show spJ [123, 34, 97, 34, 58, 91, 49, 44, 50, 46, 53, 48, 93, 125] = [123, 34, 97, 34, 58, 91, 49, 44, 50, 46, 53, 48, 93, 125] from rfl]
  rw [show ([123, 34, 97, 34, 58, 91, 49, 44, 50, 46, 53, 48, 93, 125] : List UInt8).length + 1 = 15 from rfl, q1_value]
  simp only []
  rw [if_neg (by decide), if_pos q1_right]
theorem rj_2 : readJ uqJ [91, 49, 44, 93] = (80, .nd zeroO []) := by
  unfold readJ docJ
  rw [if_neg (by decide), show spJ [91, 49, 44, 93] = [91, 49, 44, 93] from rfl]
  rw [show ([91, 49, 44, 93] : List UInt8).length + 1 = 5 from rfl, q2_value]
theorem rj_3 : readJ uqJ [123, 34, 97, 34, 58, 49, 44, 34, 97, 34, 58, 50, 125] = (60, .nd zeroO []) := by
  unfold readJ docJ
  rw [if_neg (by decide), show spJ [123, 34, 97, 34, 58, 49, 44, 34, 97, 34, 58, 50, 125] = [123, 34, 97, 34, 58, 49, 44, 34, 97, 34, 58, 50, 125] from rfl]
  rw [show ([123, 34, 97, 34, 58, 49, 44, 34, 97, 34, 58, 50, 125] : List UInt8).length + 1 = 14 from rfl, q3_value]
  simp only []
  rw [if_neg (by decide), if_neg (by rw [q3_right]; decide)]
theorem rj_4 : readJ uqJ [110, 117, 108, 108] = (0, nilT) := by
  unfold readJ docJ
  rw [if_neg (by decide), show spJ [110, 117, 108, 108] = [110, 117, 108, 108] from rfl]
  rw [show ([110, 117, 108, 108] : List UInt8).length + 1 = 5 from rfl, q4_value]
  simp only []
  rw [if_neg (by decide), if_pos q4_right]
theorem LAt.lenJ {W : World} {S : Nat → Prop} {d n c : Nat} {l : List Tr} {A : Option Addr} (h : LAt W S d l (.slice A n c)) : n = l.length := by
  obtain ⟨_, A', c', e⟩ := h.slice
  injection e
set_option maxHeartbeats 4000000 in
set_option maxRecDepth 100000 in
theorem jr_shown {uT uQ aT aF : Addr} (w : World) (h : JRW w uT uQ aT aF) :
    Calls Tryz.prog 24 #[] w fun e w' => e = .returned (.bool true) ∧ Below w.heap.size w w' := by
  have H1 := Lib.hid (jr_Read ⟨#[123, 34, 97, 34, 58, 91, 49, 44, 50, 46, 53, 48, 93, 125]⟩ (by decide) w h)
  have H2 := Lib.hid (fun W (hb : Below w.heap.size w W) => jr_Read ⟨#[91, 49, 44, 93]⟩ (by decide) W (h.below hb))
  have H3 := Lib.hid (fun W (hb : Below w.heap.size w W) => jr_Read ⟨#[123, 34, 97, 34, 58, 49, 44, 34, 97, 34, 58, 50, 125]⟩ (by decide) W (h.below hb))
  have H4 := Lib.hid (fun W (hb : Below w.heap.size w W) => jr_Valid ⟨#[110, 117, 108, 108]⟩ (by decide) W (h.below hb))
  rw [rj_1] at H1
  simp only [rj_2] at H2
  simp only [rj_3] at H3
  simp only [rj_4] at H4
  clear h
  go_enter Tryz.func24, Tryz.ntmps24
  go_wp2_with fail
  refine H1.out.mono ?_
  rintro x w1 ⟨hb1, A1, n1, c1, rfl, hl1, _⟩
  have e1 : n1 = 2 := hl1.lenJ
  clear hl1
  subst e1
  rw [show nodeV q1T.own (.slice A1 2 c1) = .agg #[.int .i64 8, .bool false, .bool false, .string ⟨#[]⟩, .int .i64 0, .int .u64 0, .int .i64 0, .string ⟨#[]⟩, .slice A1 2 c1] from rfl]
  have hk1 := Blk.new w1 #[.int .i64 8, .bool false, .bool false, .string ⟨#[]⟩, .int .i64 0, .int .u64 0, .int .i64 0, .string ⟨#[]⟩, .slice A1 2 c1] 27
  have hb2 := hb1.alloc hb1.size (.cells #[.int .i64 8, .bool false, .bool false, .string ⟨#[]⟩, .int .i64 0, .int .u64 0, .int .i64 0, .string ⟨#[]⟩, .slice A1 2 c1] 27)
  go_wp2_with fail
  refine (H2.out _ hb2).mono ?_
  rintro x w3 ⟨hb3, A2, n2, c2, rfl, hl2, _⟩
  clear hl2
  rw [show nodeV (Tr.nd zeroO []).own (.slice A2 n2 c2) = .agg #[.int .i64 0, .bool false, .bool false, .string ⟨#[]⟩, .int .i64 0, .int .u64 0, .int .i64 0, .string ⟨#[]⟩, .slice A2 n2 c2] from rfl]
  have hk3 := (hk1.below hb3 hk1.lt).alloc (.cells #[.int .i64 0, .bool false, .bool false, .string ⟨#[]⟩, .int .i64 0, .int .u64 0, .int .i64 0, .string ⟨#[]⟩, .slice A2 n2 c2] 27)
  have hb4 := hb2.trans (hb3.mono hb2.size)
  have hb5 := hb4.alloc hb4.size (.cells #[.int .i64 0, .bool false, .bool false, .string ⟨#[]⟩, .int .i64 0, .int .u64 0, .int .i64 0, .string ⟨#[]⟩, .slice A2 n2 c2] 27)
  clear H1 H2 hk1 hb3 hb1
  go_wp2_with fail
  refine (H3.out _ hb5).mono ?_
  rintro x w5 ⟨hb6, A3, n3, c3, rfl, hl3, _⟩
  clear hl3
  rw [show nodeV (Tr.nd zeroO []).own (.slice A3 n3 c3) = .agg #[.int .i64 0, .bool false, .bool false, .string ⟨#[]⟩, .int .i64 0, .int .u64 0, .int .i64 0, .string ⟨#[]⟩, .slice A3 n3 c3] from rfl]
  have hk7 := (hk3.below hb6 hk3.lt).alloc (.cells #[.int .i64 0, .bool false, .bool false, .string ⟨#[]⟩, .int .i64 0, .int .u64 0, .int .i64 0, .string ⟨#[]⟩, .slice A3 n3 c3] 27)
  have hb7 := hb5.trans (hb6.mono hb5.size)
  have hb8 := hb7.alloc hb7.size (.cells #[.int .i64 0, .bool false, .bool false, .string ⟨#[]⟩, .int .i64 0, .int .u64 0, .int .i64 0, .string ⟨#[]⟩, .slice A3 n3 c3] 27)
  have z0 := hk7.cell 0
  have z8 := hk7.cell 8
  clear H3
  go_wp2_with fail
  refine (H4.out _ hb8).mono ?_
  rintro x w9 ⟨rfl, hb9⟩
  clear z0 z8
  go_wp2_with fail
  go_ret
  exact ⟨rfl, hb8.trans (hb9.mono hb8.size)⟩
end Go.Proofs.YtfckekaegjjmkaaGreatDoor
namespace Go.Proofs.YtfckekaegjjmkaaGreatDoor
open Go.RowKit Go.Shelf
attribute [local go_sem] Oper.semAt_some


end Go.Proofs.YtfckekaegjjmkaaGreatDoor
namespace Go.Proofs.YtfckekaegjjmkaaGreatDoor
open Go.RowKit Go.Shelf

section
variable {U : List UInt8 → Option (List UInt8 × List UInt8)} (hU3 : ∀ l s r, U l = some (s, r) → ∃ o, l = o ++ 34 :: r)
include hU3
omit hU3 in
end
end Go.Proofs.YtfckekaegjjmkaaGreatDoor
namespace Go.Proofs.YtfckekaegjjmkaaGreatDoor
open Go.RowKit Go.Shelf

section
variable {U : List UInt8 → Option (List UInt8 × List UInt8)} (hU2 : ∀ l s r, U l = some (s, r) → ∃ own, own ≠ [] ∧ l = own ++ r ∧ ∀ m, U (own ++ m) = some (s, m)) (hU3 : ∀ l s r, U l = some (s, r) → ∃ o, l = o ++ 34 :: r)
include hU2
omit hU2 in
include hU3
end
end Go.Proofs.YtfckekaegjjmkaaGreatDoor
namespace Go.Proofs.YtfckekaegjjmkaaGreatDoor
open Go.RowKit Go.Shelf

end Go.Proofs.YtfckekaegjjmkaaGreatDoor
namespace Go.Proofs.YtfckekaegjjmkaaGreatDoor
open Go.RowKit Go.Shelf

/-- So many arrays within each other, and one. -/
def arrT : Nat → Tr
  | 0 => listT 7 []
  | n + 1 => listT 7 [arrT n]
theorem arr_depth : ∀ n, (arrT n).depth = n + 1
  | 0 => rfl
  | n + 1 => by
    show (Tr.nd _ [arrT n]).depth = _
    rw [Tr.depth, depthL, depthL, arr_depth n]
    omega
theorem arr_read {U : List UInt8 → Option (List UInt8 × List UInt8)} (F : Nat) (hF : 0 < F) : ∀ (n d : Nat) (m : List UInt8), valueJ U F d (List.replicate (n + 1) 91 ++ (List.replicate (n + 1) 93 ++ m)) = if n + 1 ≤ d then .good (arrT n) m else .bad 60
  | n, 0, m => by
    rw [if_neg (by omega)]
    rfl
  | 0, d + 1, m => by
    rw [if_pos (by omega)]
    show bindP (listJ U (valueJ U F d) false 93 F) (fun L => pureP (listT 7 L)) (93 :: m) = _
    have h : listJ U (valueJ U F d) false 93 F (93 :: m) = .good [] m := rfl
    rw [bindP_of h]
    rfl
  | n + 1, d + 1, m => by
    obtain ⟨f, rfl⟩ : ∃ f, F = f + 1 := ⟨F - 1, by omega⟩
    have ih := arr_read (U := U) (f + 1) hF n d (93 :: m)
    have e : List.replicate (n + 1) 91 ++ (List.replicate (n + 1 + 1) 93 ++ m) = List.replicate (n + 1) (91 : UInt8) ++ (List.replicate (n + 1) 93 ++ 93 :: m) := by
      rw [List.replicate_succ' (n := n + 1), List.append_assoc]
      rfl
    show bindP (listJ U (valueJ U (f + 1) d) false 93 (f + 1)) (fun L => pureP (listT 7 L)) (List.replicate (n + 1) 91 ++ (List.replicate (n + 1 + 1) 93 ++ m)) = _
    rw [e]
    have h1 : listJ U (valueJ U (f + 1) d) false 93 (f + 1) (List.replicate (n + 1) 91 ++ (List.replicate (n + 1) 93 ++ 93 :: m)) = nodesJ U (valueJ U (f + 1) d) false 93 (f + 1) [] (List.replicate (n + 1) 91 ++ (List.replicate (n + 1) 93 ++ 93 :: m)) := rfl
    have h2 : nodesJ U (valueJ U (f + 1) d) false 93 (f + 1) [] (List.replicate (n + 1) 91 ++ (List.replicate (n + 1) 93 ++ 93 :: m)) = bindP (valueJ U (f + 1) d) (fun t => nextJ 93 ([] ++ [t]) (nodesJ U (valueJ U (f + 1) d) false 93 f ([] ++ [t]))) (List.replicate (n + 1) 91 ++ (List.replicate (n + 1) 93 ++ 93 :: m)) := by
      rw [nodesJ, if_neg (by simp)]
    by_cases hd : n + 1 ≤ d
    · rw [if_pos hd] at ih
      rw [bindP_of (h1.trans (h2.trans (bindP_of ih))), if_pos (by omega)]
      rfl
    · rw [if_neg hd] at ih
      rw [bindP_bad (h1.trans (h2.trans (bindP_bad ih))), if_neg (by omega)]
end Go.Proofs.YtfckekaegjjmkaaGreatDoor
