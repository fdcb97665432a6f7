/- The texts JrQ, JrR, LaidV, CbV, put together. -/
import Derived.Test.YtfckekaegjjmkaaGreatDoorPe46
import Derived.Test.YtfckekaegjjmkaaGreatDoorPe01
import Derived.Test.YtfckekaegjjmkaaGreatDoorRows
import Derived.Test.YtfckekaegjjmkaaGreatDoorPe03
import Derived.Lib.LaidU8T
import Derived.PinnedBridge
import Derived.Stop.LaidErr
import Derived.Stop.Joined
import Derived.LaidMore
import Derived.LaidLaws
import Derived.Lay
import Derived.SevenTiedAt
import Derived.ProofKit
import Derived.OpenShut
import Derived.Lib.LaidTab
import Derived.Test.YtfckekaegjjmkaaGreatDoorPe33
namespace Go.Proofs.YtfckekaegjjmkaaGreatDoor
open Go.RowKit Go.Shelf
attribute [local go_sem] Oper.semAt_some

abbrev q1A : Tr := .nd { zeroO with kind := 7 } [.nd { zeroO with kind := 3, dg := ⟨#[49]⟩ } [], .nd { zeroO with kind := 3, dg := ⟨#[50, 53]⟩, ex := -1 } []]
abbrev q1L : List Tr := [.nd { zeroO with kind := 5, s := ⟨#[97]⟩ } [], q1A]
abbrev q1T : Tr := .nd { zeroO with kind := 8 } q1L
abbrev q3L : List Tr := [.nd { zeroO with kind := 5, s := ⟨#[97]⟩ } [], .nd { zeroO with kind := 3, dg := ⟨#[49]⟩ } [], .nd { zeroO with kind := 5, s := ⟨#[97]⟩ } [], .nd { zeroO with kind := 3, dg := ⟨#[50]⟩ } []]
abbrev q3T : Tr := .nd { zeroO with kind := 8 } q3L
theorem q1_value : valueJ uqJ 15 16 [123, 34, 97, 34, 58, 91, 49, 44, 50, 46, 53, 48, 93, 125] = .good q1T [] := by kernel_rfl
theorem q2_value : valueJ uqJ 5 16 [91, 49, 44, 93] = .bad 80 := by kernel_rfl
theorem q3_value : valueJ uqJ 14 16 [123, 34, 97, 34, 58, 49, 44, 34, 97, 34, 58, 50, 125] = .good q3T [] := by kernel_rfl
theorem q4_value : valueJ uqJ 5 16 [110, 117, 108, 108] = .good nilT [] := by kernel_rfl
theorem q1_keys : keysB q1L = true := by
  unfold keysB
  refine @decide_eq_true _ (Classical.propDecidable _) ?_
  intro i k hi hk h1 h2
  simp only [List.length_cons, List.length_nil] at hi
  omega
theorem q3_keys : keysB q3L = false := by
  unfold keysB
  refine @decide_eq_false _ (Classical.propDecidable _) ?_
  intro h
  have := h 2 0 (by decide) (by decide) (by decide) (by decide)
  have h2 : sameT (.nd { zeroO with kind := 5, s := ⟨#[97]⟩ } []) (.nd { zeroO with kind := 5, s := ⟨#[97]⟩ } []) = true := by decide +kernel
  exact absurd (h2.symm.trans this) (by decide)
theorem q1_right : rightT q1T = true := by
  unfold rightT
  have h1 : q1T.count ≤ 300 := by decide +kernel
  have h2 : q1T.depth ≤ 16 := by decide +kernel
  rw [decide_eq_true h1, decide_eq_true h2, allB]
  have hv : Lib.validD (⟨#[97]⟩ : ByteArray).data.toList = true := by decide +kernel
  have d1 : decOk false ⟨#[49]⟩ 0 = true := by decide +kernel
  have d2 : decOk false ⟨#[50, 53]⟩ (-1) = true := by decide +kernel
  have ho : ownB { zeroO with kind := 8 } q1L = true := by
    simp [ownB, q1_keys, onlyB]
  have e1 : ownB { zeroO with kind := 5, s := ⟨#[97]⟩ } [] = true := by
    simp [ownB, onlyB, hv]
    decide
  have e2 : ownB { zeroO with kind := 3, dg := ⟨#[49]⟩ } [] = true := by
    simp [ownB, onlyB, d1]
  have e3 : ownB { zeroO with kind := 3, dg := ⟨#[50, 53]⟩, ex := -1 } [] = true := by
    simp [ownB, onlyB, d2]
  have e4 : ownB { zeroO with kind := 7 } [.nd { zeroO with kind := 3, dg := ⟨#[49]⟩ } [], .nd { zeroO with kind := 3, dg := ⟨#[50, 53]⟩, ex := -1 } []] = true := by
    simp [ownB, onlyB]
  rw [ho, allL, allL, allL, allB, allB, e1, e4, allL, allL, allL, allB, allB, allL, e2, e3]
  rfl
theorem q3_right : rightT q3T = false := by
  unfold rightT
  have ho : ownB { zeroO with kind := 8 } q3L = false := by
    simp [ownB, q3_keys, onlyB]
  rw [allB, ho, Bool.false_and, Bool.and_false, Bool.and_false]
theorem q4_right : rightT nilT = true := by
  unfold rightT
  have h1 : nilT.count ≤ 300 := by decide +kernel
  have h2 : nilT.depth ≤ 16 := by decide +kernel
  have h3 : ownB { zeroO with kind := 1 } [] = true := by
    simp [ownB, onlyB]
  rw [decide_eq_true h1, decide_eq_true h2]
  unfold nilT
  rw [allB, h3, allL]
  rfl
theorem rj_1 : readJ uqJ [123, 34, 97, 34, 58, 91, 49, 44, 50, 46, 53, 48, 93, 125] = (0, q1T) := by
  unfold readJ docJ
  rw [if_neg (by decide), show spJ [123, 34, 97, 34, 58, 91, 49, 44, 50, 46, 53, 48, 93, 125] = [123, 34, 97, 34, 58, 91, 49, 44, 50, 46, 53, 48, 93, 125] from rfl]
  rw [show ([123, 34, 97, 34, 58, 91, 49, 44, 50, 46, 53, 48, 93, 125] : List UInt8).length + 1 = 15 from rfl, q1_value]
  simp only []
  rw [if_neg (by decide), if_pos q1_right]
theorem rj_2 : readJ uqJ [91, 49, 44, 93] = (80, .nd zeroO []) := by
  unfold readJ docJ
  rw [if_neg (by decide), show spJ [91, 49, 44, 93] = [91, 49, 44, 93] from rfl]
  rw [show ([91, 49, 44, 93] : List UInt8).length + 1 = 5 from rfl, q2_value]
theorem rj_3 : readJ uqJ [123, 34, 97, 34, 58, 49, 44, 34, 97, 34, 58, 50, 125] = (60, .nd zeroO []) := by
  unfold readJ docJ
  rw [if_neg (by decide), show spJ [123, 34, 97, 34, 58, 49, 44, 34, 97, 34, 58, 50, 125] = [123, 34, 97, 34, 58, 49, 44, 34, 97, 34, 58, 50, 125] from rfl]
  rw [show ([123, 34, 97, 34, 58, 49, 44, 34, 97, 34, 58, 50, 125] : List UInt8).length + 1 = 14 from rfl, q3_value]
  simp only []
  rw [if_neg (by decide), if_neg (by rw [q3_right]; decide)]
theorem rj_4 : readJ uqJ [110, 117, 108, 108] = (0, nilT) := by
  unfold readJ docJ
  rw [if_neg (by decide), show spJ [110, 117, 108, 108] = [110, 117, 108, 108] from rfl]
  rw [show ([110, 117, 108, 108] : List UInt8).length + 1 = 5 from rfl, q4_value]
  simp only []
  rw [if_neg (by decide), if_pos q4_right]
theorem LAt.lenJ {W : World} {S : Nat → Prop} {d n c : Nat} {l : List Tr} {A : Option Addr} (h : LAt W S d l (.slice A n c)) : n = l.length := by
  obtain ⟨_, A', c', e⟩ := h.slice
  injection e
noncomputable abbrev RJ (s : ByteArray) : Int × Tr := readJ uqJ s.data.toList
/-- What cut leaves. -/
def cutJ (m : Nat) (s : ByteArray) : ByteArray := s.extract 0 (min s.size m)
theorem cutJ_size (m : Nat) (s : ByteArray) : (cutJ m s).size = min s.size m := by
  unfold cutJ
  simp
theorem jr_cut (s : ByteArray) (hs : s.size ≤ 9223372036854775807) (w : World) :
    Calls Tryz.prog 26 #[.string s] w fun e w' => e = .returned (.string (cutJ 4020 s)) ∧ w' = w := by
  unfold cutJ
  have y0 : min (s.size : Int) 4020 = ((min s.size 4020 : Nat) : Int) := by omega
  have y1 : min s.size 4020 ≤ s.size := by omega
  go_enter Tryz.func26, Tryz.ntmps26
  go_wp2_with fail
  all_goals (go_ret)
  all_goals exact ⟨rfl, rfl⟩
set_option maxHeartbeats 4000000 in
set_option maxRecDepth 100000 in
theorem jr_shown {uT uQ aT aF : Addr} (w : World) (h : JRW w uT uQ aT aF) :
    Calls Tryz.prog 24 #[] w fun e w' => e = .returned (.bool true) ∧ Below w.heap.size w w' := by
  have H1 := Lib.hid (jr_Read ⟨#[123, 34, 97, 34, 58, 91, 49, 44, 50, 46, 53, 48, 93, 125]⟩ (by decide) w h)
  have H2 := Lib.hid (fun W (hb : Below w.heap.size w W) => jr_Read ⟨#[91, 49, 44, 93]⟩ (by decide) W (h.below hb))
  have H3 := Lib.hid (fun W (hb : Below w.heap.size w W) => jr_Read ⟨#[123, 34, 97, 34, 58, 49, 44, 34, 97, 34, 58, 50, 125]⟩ (by decide) W (h.below hb))
  have H4 := Lib.hid (fun W (hb : Below w.heap.size w W) => jr_Valid ⟨#[110, 117, 108, 108]⟩ (by decide) W (h.below hb))
  rw [rj_1] at H1
  simp only [rj_2] at H2
  simp only [rj_3] at H3
  simp only [rj_4] at H4
  clear h
  go_enter Tryz.func24, Tryz.ntmps24
  go_wp2_with fail
  refine H1.out.mono ?_
  rintro x w1 ⟨hb1, A1, n1, c1, rfl, hl1, _⟩
  have e1 : n1 = 2 := hl1.lenJ
  clear hl1
  subst e1
  rw [show nodeV q1T.own (.slice A1 2 c1) = .agg #[.int .i64 8, .bool false, .bool false, .string ⟨#[]⟩, .int .i64 0, .int .u64 0, .int .i64 0, .string ⟨#[]⟩, .slice A1 2 c1] from rfl]
  have hk1 := Blk.new w1 #[.int .i64 8, .bool false, .bool false, .string ⟨#[]⟩, .int .i64 0, .int .u64 0, .int .i64 0, .string ⟨#[]⟩, .slice A1 2 c1] 27
  have hb2 := hb1.alloc hb1.size (.cells #[.int .i64 8, .bool false, .bool false, .string ⟨#[]⟩, .int .i64 0, .int .u64 0, .int .i64 0, .string ⟨#[]⟩, .slice A1 2 c1] 27)
  go_wp2_with fail
  refine (H2.out _ hb2).mono ?_
  rintro x w3 ⟨hb3, A2, n2, c2, rfl, hl2, _⟩
  clear hl2
  rw [show nodeV (Tr.nd zeroO []).own (.slice A2 n2 c2) = .agg #[.int .i64 0, .bool false, .bool false, .string ⟨#[]⟩, .int .i64 0, .int .u64 0, .int .i64 0, .string ⟨#[]⟩, .slice A2 n2 c2] from rfl]
  have hk3 := (hk1.below hb3 hk1.lt).alloc (.cells #[.int .i64 0, .bool false, .bool false, .string ⟨#[]⟩, .int .i64 0, .int .u64 0, .int .i64 0, .string ⟨#[]⟩, .slice A2 n2 c2] 27)
  have hb4 := hb2.trans (hb3.mono hb2.size)
  have hb5 := hb4.alloc hb4.size (.cells #[.int .i64 0, .bool false, .bool false, .string ⟨#[]⟩, .int .i64 0, .int .u64 0, .int .i64 0, .string ⟨#[]⟩, .slice A2 n2 c2] 27)
  clear H1 H2 hk1 hb3 hb1
  go_wp2_with fail
  refine (H3.out _ hb5).mono ?_
  rintro x w5 ⟨hb6, A3, n3, c3, rfl, hl3, _⟩
  clear hl3
  rw [show nodeV (Tr.nd zeroO []).own (.slice A3 n3 c3) = .agg #[.int .i64 0, .bool false, .bool false, .string ⟨#[]⟩, .int .i64 0, .int .u64 0, .int .i64 0, .string ⟨#[]⟩, .slice A3 n3 c3] from rfl]
  have hk7 := (hk3.below hb6 hk3.lt).alloc (.cells #[.int .i64 0, .bool false, .bool false, .string ⟨#[]⟩, .int .i64 0, .int .u64 0, .int .i64 0, .string ⟨#[]⟩, .slice A3 n3 c3] 27)
  have hb7 := hb5.trans (hb6.mono hb5.size)
  have hb8 := hb7.alloc hb7.size (.cells #[.int .i64 0, .bool false, .bool false, .string ⟨#[]⟩, .int .i64 0, .int .u64 0, .int .i64 0, .string ⟨#[]⟩, .slice A3 n3 c3] 27)
  have z0 := hk7.cell 0
  have z8 := hk7.cell 8
  clear H3
  go_wp2_with fail
  refine (H4.out _ hb8).mono ?_
  rintro x w9 ⟨rfl, hb9⟩
  clear z0 z8
  go_wp2_with fail
  go_ret
  exact ⟨rfl, hb8.trans (hb9.mono hb8.size)⟩
end Go.Proofs.YtfckekaegjjmkaaGreatDoor
namespace Go.Proofs.YtfckekaegjjmkaaGreatDoor
open Go.RowKit Go.Shelf
attribute [local go_sem] Oper.semAt_some

theorem check_count {f : Int} {fl : Own → Bool} {t : Tr} (h : checkT f fl t = 0) : t.count ≤ 300 := by
  unfold checkT at h
  split at h
  · rename_i hr
    unfold rightT at hr
    rw [Bool.and_eq_true, decide_eq_true_iff] at hr
    exact hr.1
  · cases h
theorem rj_cases (s : ByteArray) : (((RJ s).1 = 80 ∨ (RJ s).1 = 60 ∨ ((RJ s).1 = 81 ∧ 4000 < s.size)) ∧ (RJ s).2 = .nd zeroO []) ∨ ((RJ s).1 = 0 ∧ checkT 1 flJ (RJ s).2 = 0 ∧ (RJ s).2.count ≤ 300) := by
  have hlen : s.data.toList.length = s.size := by simp
  have hc := readJ_cases (U := uqJ) s.data.toList
  rw [hlen] at hc
  rcases hc with ⟨_, h2, h3⟩ | ⟨h1, h2, _⟩
  · exact .inl ⟨h3, h2⟩
  · exact .inr ⟨h1, h2, check_count h2⟩

set_option maxHeartbeats 4000000 in
set_option maxRecDepth 100000 in
theorem fits_walkJ {uT uQ aT aF : Addr} (s : ByteArray) (hs : s.size ≤ 9223372036854775807) (w : World) (h : JRW w uT uQ aT aF) :
    Calls Tryz.prog 7 #[.string s] w fun e w' => e = .returned (.bool true) ∧ Below w.heap.size w w' := by
  have H1 := Lib.hid (jr_shown w h)
  have H2 := Lib.hid (fun W => jr_cut s hs W)
  have hcs := cutJ_size 4020 s
  obtain ⟨k, hk⟩ : ∃ k, cutJ 4020 s = k := ⟨_, rfl⟩
  rw [hk] at H2 hcs
  have H3 := Lib.hid (fun W (hb : Below w.heap.size w W) => jr_Read k (by omega) W (h.below hb))
  have H5 := Lib.hid (fun W (hb : Below w.heap.size w W) => jr_Valid k (by omega) W (h.below hb))
  have H4 := Lib.hid (fun W (hb : Below w.heap.size w W) => (h.below hb).g)
  have hc := rj_cases k
  obtain ⟨⟨e, t⟩, hrc⟩ : ∃ x, RJ k = x := ⟨_, rfl⟩
  rw [hrc] at hc
  have H3 : Hid (∀ W, Below w.heap.size w W → Calls Tryz.prog 25 #[.string k] W (ReadP W (e, t))) := Lib.hid (fun W hb => by
    have := H3.out W hb
    rw [show readJ uqJ k.data.toList = (e, t) from hrc] at this
    exact this)
  have H5 : Hid (∀ W, Below w.heap.size w W → Calls Tryz.prog 27 #[.string k] W fun x w' => x = .returned (.bool (e == 0)) ∧ Below W.heap.size W w') := Lib.hid (fun W hb => by
    have := H5.out W hb
    rw [show readJ uqJ k.data.toList = (e, t) from hrc] at this
    exact this)
  simp only [] at hc
  clear h hs hk hrc hcs
  go_enter Tryz.func7, Tryz.ntmps7
  go_wp2_with fail
  refine H1.out.mono ?_
  rintro x w1 ⟨rfl, hb1⟩
  go_wp2_with fail
  refine (H2.out _).mono ?_
  rintro x w2 ⟨rfl, rfl⟩
  go_wp2_with fail
  refine (H3.out _ hb1).mono ?_
  rintro x w3 ⟨hb3, A, n, c, rfl, hl, ho⟩
  have hb3' := hb1.trans (hb3.mono hb1.size)
  rcases hc with ⟨hc1, hc2⟩ | ⟨hc1, hc2, hc5⟩
  · subst hc2
    have hn : n = 0 := hl.lenJ
    subst hn
    rw [show nodeV (Tr.nd zeroO []).own (.slice A 0 c) = .agg #[.int .i64 0, .bool false, .bool false, .string ⟨#[]⟩, .int .i64 0, .int .u64 0, .int .i64 0, .string ⟨#[]⟩, .slice A 0 c] from rfl]
    rcases hc1 with rfl | rfl | ⟨rfl, hz⟩
    · skip
      have hm := Blk.new w3 #[.int .i64 0, .bool false, .bool false, .string ⟨#[]⟩, .int .i64 0, .int .u64 0, .int .i64 0, .string ⟨#[]⟩, .slice A 0 c] 27
      have z0 := hm.cell 0
      have z8 := hm.cell 8
      have hb4 := hb3'.alloc hb3'.size (.cells #[.int .i64 0, .bool false, .bool false, .string ⟨#[]⟩, .int .i64 0, .int .u64 0, .int .i64 0, .string ⟨#[]⟩, .slice A 0 c] 27)
      clear hl ho H1 H3
      go_wp2_with fail
      refine (H2.out _).mono ?_
      rintro x w5 ⟨rfl, rfl⟩
      go_wp2_with fail
      refine (H5.out _ hb4).mono ?_
      rintro x w6 ⟨rfl, hb6⟩
      clear z0 z8
      go_wp2_with fail
      go_ret
      exact ⟨rfl, hb4.trans (hb6.mono hb4.size)⟩
    · skip
      have hm := Blk.new w3 #[.int .i64 0, .bool false, .bool false, .string ⟨#[]⟩, .int .i64 0, .int .u64 0, .int .i64 0, .string ⟨#[]⟩, .slice A 0 c] 27
      have z0 := hm.cell 0
      have z8 := hm.cell 8
      have hb4 := hb3'.alloc hb3'.size (.cells #[.int .i64 0, .bool false, .bool false, .string ⟨#[]⟩, .int .i64 0, .int .u64 0, .int .i64 0, .string ⟨#[]⟩, .slice A 0 c] 27)
      clear hl ho H1 H3
      go_wp2_with fail
      refine (H2.out _).mono ?_
      rintro x w5 ⟨rfl, rfl⟩
      go_wp2_with fail
      refine (H5.out _ hb4).mono ?_
      rintro x w6 ⟨rfl, hb6⟩
      clear z0 z8
      go_wp2_with fail
      go_ret
      exact ⟨rfl, hb4.trans (hb6.mono hb4.size)⟩
    · have y4 : (4000 : Int) < k.size := by omega
      have hm := Blk.new w3 #[.int .i64 0, .bool false, .bool false, .string ⟨#[]⟩, .int .i64 0, .int .u64 0, .int .i64 0, .string ⟨#[]⟩, .slice A 0 c] 27
      have z0 := hm.cell 0
      have z8 := hm.cell 8
      have hb4 := hb3'.alloc hb3'.size (.cells #[.int .i64 0, .bool false, .bool false, .string ⟨#[]⟩, .int .i64 0, .int .u64 0, .int .i64 0, .string ⟨#[]⟩, .slice A 0 c] 27)
      clear hl ho H1 H3
      go_wp2_with fail
      refine (H2.out _).mono ?_
      rintro x w5 ⟨rfl, rfl⟩
      go_wp2_with fail
      refine (H5.out _ hb4).mono ?_
      rintro x w6 ⟨rfl, hb6⟩
      clear z0 z8
      go_wp2_with fail
      refine (H2.out _).mono ?_
      rintro x w7 ⟨rfl, rfl⟩
      go_wp2_with fail
      go_ret
      exact ⟨rfl, hb4.trans (hb6.mono hb4.size)⟩
  · subst hc1
    have hl4 := (hl.mono (S' := fun q => q < w3.heap.size) (fun q hq => hq.2))
    obtain ⟨⟨kind3, b3, neg3, dg3, ex3, u3, wd3, s3⟩, ho3⟩ : ∃ o, t.own = o := ⟨_, rfl⟩
    have HC := Lib.hid (fun W (hW : Below w3.heap.size w3 W) => tree_Check 1 flJ (fits_at_J aT aF) t (.slice A n c) W w3.heap.size 16 (hl4.below hW (Nat.le_refl _)) ho hW.size (by omega) (H4.out W (hb3'.trans (hW.mono hb3'.size))))
    have hl5 : True := trivial
    rw [hc2] at HC
    simp only [ho3] at HC ⊢
    unfold nodeV at HC ⊢
    simp only [] at HC ⊢
    have hm := Blk.new w3 #[.int .i64 kind3, .bool b3, .bool neg3, .string dg3, .int .i64 ex3, .int .u64 u3, .int .i64 wd3, .string s3, .slice A n c] 27
    have z0 := hm.cell 0
    have z1 := hm.cell 1
    have z2 := hm.cell 2
    have z3 := hm.cell 3
    have z4 := hm.cell 4
    have z5 := hm.cell 5
    have z6 := hm.cell 6
    have z7 := hm.cell 7
    have z8 := hm.cell 8
    have hb4 := hb3'.alloc hb3'.size (.cells #[.int .i64 kind3, .bool b3, .bool neg3, .string dg3, .int .i64 ex3, .int .u64 u3, .int .i64 wd3, .string s3, .slice A n c] 27)
    have hw4 : Below w3.heap.size w3 (w3.alloc (.cells #[.int .i64 kind3, .bool b3, .bool neg3, .string dg3, .int .i64 ex3, .int .u64 u3, .int .i64 wd3, .string s3, .slice A n c] 27)) := (Below.refl _ w3).alloc (Nat.le_refl _) _
    clear hl hl4 ho ho3 H1 H3 H4 hc2 hl5
    go_wp2_with fail
    refine (HC.out _ hw4).mono ?_
    rintro x w5 ⟨rfl, hb5⟩
    have hb6 := hb4.trans (hb5.mono hb4.size)
    clear z0 z1 z2 z3 z4 z5 z6 z7 z8
    go_wp2_with fail
    refine (H2.out _).mono ?_
    rintro x w6 ⟨rfl, rfl⟩
    go_wp2_with fail
    refine (H5.out _ hb6).mono ?_
    rintro x w7 ⟨rfl, hb7⟩
    go_wp2_with fail
    go_ret
    exact ⟨rfl, hb6.trans (hb7.mono hb6.size)⟩
end Go.Proofs.YtfckekaegjjmkaaGreatDoor
namespace Go.Proofs.YtfckekaegjjmkaaGreatDoor
open Go.RowKit Go.Shelf Go.Lib

theorem laidMet_drop {P : Program} {W : World} : ∀ (k : Nat) {l : List (String × DataW Unit)}, laidMet P l W → laidMet P (l.drop k) W
  | 0, _, h => h
  | _ + 1, [], h => h
  | k + 1, _ :: _, h => laidMet_drop k h.tail

set_option maxRecDepth 100000 in
/-- A sentinel on the list: its cell, the block behind it, its text. -/
theorem sentinel_of {n : String} {g : Nat} {text : List UInt8} {r : List (String × DataW Unit)} {W : World} (h : laidMet Tryz.prog ((n, .iface "*errors.errorString" (.ptr (.agg [.lit (.string text)]))) :: r) W)
    (hg : Tryz.prog.globalNamed n = some g) (ht : (Tryz.prog.globals[g]?).map (·.type) = some 62)
    (hi : ∃ ms, Tryz.prog.underlying 62 = some (.interface ms)) (hrow : ∀ u, Tryz.prog.typeName? 3 u = some "*errors.errorString" → u = 289)
    (he : ∃ f : Field, Tryz.prog.underlying 291 = some (.struct #[f]) ∧ f.type = 9 ∧ f.offset = 0) (hc : Tryz.prog.cellsOf 291 = 1) (hcs : Tryz.prog.cellsOf 9 = 1) :
    ∃ a : Addr, W.cell? ⟨g, 0, none⟩ = some (.iface 289 (.pointer (some a))) ∧ (∃ c t, W.heap[a.block]? = some (.cells c t (0, 0))) ∧ ∃ s : ByteArray, W.cell? a = some (.string s) ∧ s.data.toList = text := by
  obtain ⟨ms, hi⟩ := hi
  obtain ⟨f, he, hft, hfo⟩ := he
  obtain ⟨ps, ⟨g0, t0, cs0, f0, p0, q0, hg0, ht0, hv0, hd0, _, e0⟩, _, hrows⟩ := h
  obtain rfl := Option.some.inj (hg.symm.trans hg0)
  obtain rfl := Option.some.inj (ht.symm.trans ht0)
  subst e0
  obtain ⟨l0⟩ := cs0
  have ok0 : ∀ u v, l0 = [.iface u v] → Value.okWide Tryz.prog W .any 0 u v := fun u v e => by
    subst e
    exact (hrows g 0 (by simp [MemPlace.row])).2 u v (by simpa using World.var?_cell hg0 hv0 0)
  obtain ⟨a0, s0, rfl, hc0, hs0, hz0, rfl⟩ := errorString_of_trod hi hrow Tryz.underlying289 he hft hfo Tryz.underlying9 hc hcs hd0 ok0
  obtain ⟨c0, t0, hb0⟩ := (hrows a0.block a0.off (by simp [MemPlace.row])).1
  refine ⟨a0, ?_, ⟨c0, t0, hb0⟩, s0, hc0, hs0⟩
  simpa using World.var?_cell hg0 hv0 0

set_option maxRecDepth 100000 in
theorem u8extra : U8Extra Tryz.prog Tryz.lays196_ren := { n3 := by kernel_rfl, n4 := by kernel_rfl, y3 := by kernel_rfl, y4 := by kernel_rfl, c5 := by kernel_rfl, c119 := by kernel_rfl, c138 := by kernel_rfl }
theorem es_star : "*" ++ "errors.errorString" = "*errors.errorString" := by decide
set_option maxRecDepth 100000 in
theorem es_row (u : TypeId) (h : Tryz.prog.typeName? 3 u = some "*errors.errorString") : u = 289 :=
  typeName_ptr_named (nm := "errors.errorString") (by rw [es_star]; kernel_rfl) (by kernel_rfl) (by decide) u (by rw [es_star]; exact h)
theorem es_iface : ∃ ms, Tryz.prog.underlying 62 = some (.interface ms) := ⟨_, Tryz.underlying62⟩
theorem es_struct : ∃ f : Field, Tryz.prog.underlying 291 = some (.struct #[f]) ∧ f.type = 9 ∧ f.offset = 0 := ⟨_, Tryz.underlying291, rfl, rfl⟩
set_option maxRecDepth 100000 in
theorem es_cells : Tryz.prog.cellsOf 291 = 1 := by kernel_rfl
set_option maxRecDepth 100000 in
theorem es_string : Tryz.prog.cellsOf 9 = 1 := by kernel_rfl
set_option maxRecDepth 100000 in
/-- A sentinel on the list: its variable holds an interface value. -/
theorem sentinel_var {n : String} {g : Nat} {text : List UInt8} {r : List (String × DataW Unit)} {W : World} (h : laidMet Tryz.prog ((n, .iface "*errors.errorString" (.ptr (.agg [.lit (.string text)]))) :: r) W)
    (hg : Tryz.prog.globalNamed n = some g) (ht : (Tryz.prog.globals[g]?).map (·.type) = some 62) : ∃ tp p, W.var? Tryz.prog n = some #[.iface tp p] := by
  obtain ⟨ms, hi⟩ := es_iface
  obtain ⟨f, he, hft, hfo⟩ := es_struct
  obtain ⟨ps, ⟨g0, t0, cs0, f0, p0, q0, hg0, ht0, hv0, hd0, _, e0⟩, _, hrows⟩ := h
  obtain rfl := Option.some.inj (hg.symm.trans hg0)
  obtain rfl := Option.some.inj (ht.symm.trans ht0)
  subst e0
  obtain ⟨l0⟩ := cs0
  have ok0 : ∀ u v, l0 = [.iface u v] → Value.okWide Tryz.prog W .any 0 u v := fun u v e => by
    subst e
    exact (hrows g 0 (by simp [MemPlace.row])).2 u v (by simpa using World.var?_cell hg0 hv0 0)
  obtain ⟨a0, s0, rfl, hc0, hs0, hz0, rfl⟩ := errorString_of_trod hi es_row Tryz.underlying289 he hft hfo Tryz.underlying9 es_cells es_string hd0 ok0
  exact ⟨_, _, hv0⟩
set_option maxRecDepth 100000 in
theorem gR : Tryz.prog.globalNamed "strconv.ErrRange" = some 8 := by kernel_rfl
set_option maxRecDepth 100000 in
theorem tR : (Tryz.prog.globals[8]?).map (·.type) = some 62 := by kernel_rfl
end Go.Proofs.YtfckekaegjjmkaaGreatDoor
namespace Go.Proofs.YtfckekaegjjmkaaGreatDoor
open Go.RowKit Go.Shelf Go.Lib

set_option maxRecDepth 100000 in
theorem gTr : Tryz.prog.globalNamed "targum/tree.errTree" = some 0 := by kernel_rfl
set_option maxRecDepth 100000 in
theorem gFo : Tryz.prog.globalNamed "targum/tree.errForm" = some 1 := by kernel_rfl
set_option maxRecDepth 100000 in
theorem tTr : (Tryz.prog.globals[0]?).map (·.type) = some 62 := by kernel_rfl
set_option maxRecDepth 100000 in
theorem tFo : (Tryz.prog.globals[1]?).map (·.type) = some 62 := by kernel_rfl

/-- A list of laid variables in which the gate's five stand. -/
structure GateLaid (l : List (String × DataW Unit)) : Prop where
  eT : ∃ k r, l.drop k = ("targum/tree.errTree", .iface "*errors.errorString" (.ptr (.agg [.lit (.string [110, 111, 32, 116, 114, 101, 101])]))) :: r
  eF : ∃ k r, l.drop k = ("targum/tree.errForm", .iface "*errors.errorString" (.ptr (.agg [.lit (.string [110, 111, 32, 115, 117, 99, 104, 32, 102, 111, 114, 109])]))) :: r
  ra : ("unicode/utf8.acceptRanges", acceptData) ∈ l
  fi : ("unicode/utf8.first", firstData) ∈ l
  eR : ∃ k r, l.drop k = ("strconv.ErrRange", .iface "*errors.errorString" (.ptr (.agg [.lit (.string [118, 97, 108, 117, 101, 32, 111, 117, 116, 32, 111, 102, 32, 114, 97, 110, 103, 101])]))) :: r

theorem gw_of_laid {l : List (String × DataW Unit)} (hl : GateLaid l) {W : World} (h : laidMet Tryz.prog l W) : ∃ aT aF, GW W aT aF := by
  obtain ⟨kT, rT, eT⟩ := hl.eT
  obtain ⟨kF, rF, eF⟩ := hl.eF
  obtain ⟨kR, rR, eR⟩ := hl.eR
  have hT := laidMet_drop kT h
  have hF := laidMet_drop kF h
  have hR := laidMet_drop kR h
  rw [eT] at hT
  rw [eF] at hF
  rw [eR] at hR
  obtain ⟨aT, cT, bT, sT, dT, xT⟩ := sentinel_of hT gTr tTr es_iface es_row es_struct es_cells es_string
  obtain ⟨aF, cF, bF, sF, dF, xF⟩ := sentinel_of hF gFo tFo es_iface es_row es_struct es_cells es_string
  refine ⟨aT, aF, cT, cF, ?_, bT, bF, ?_, sentinel_var hR gR tR⟩
  · rintro rfl
    rw [dT] at dF
    cases dF
    rw [xT] at xF
    cases xF
  · obtain ⟨ps, hv, _, _⟩ := h
    exact utf8Tabs_of_readsT (U8Types.of196 Tryz.lays196) u8extra (LaidVars_reads hv _ _ hl.fi) (LaidVars_reads hv _ _ hl.ra)
end Go.Proofs.YtfckekaegjjmkaaGreatDoor
