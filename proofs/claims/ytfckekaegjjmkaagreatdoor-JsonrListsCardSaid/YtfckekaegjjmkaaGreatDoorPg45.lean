/- The texts JrU, put together. -/
import Derived.Test.YtfckekaegjjmkaaGreatDoorPg44
namespace Go.Proofs.YtfckekaegjjmkaaGreatDoor
open Go.RowKit Go.Shelf
attribute [local go_sem] Oper.semAt_some

def gapB (i : Nat) : UInt8 := if i % 4 = 0 then 32 else if i % 4 = 1 then 9 else if i % 4 = 2 then 10 else 13
def gapsD : Nat → List UInt8
  | 0 => []
  | n + 1 => gapsD n ++ [gapB n]
theorem gaps_len : ∀ n, (gapsD n).length = n
  | 0 => rfl
  | n + 1 => by rw [gapsD, List.length_append, gaps_len n]; rfl
theorem gaps_sp : ∀ n, AllSp (gapsD n)
  | 0 => fun c hc => by cases hc
  | n + 1 => fun c hc => by
    rw [gapsD] at hc
    rcases List.mem_append.1 hc with h | h
    · exact gaps_sp n c h
    · rw [List.mem_singleton.1 h, gapB]
      split
      · decide
      · split
        · decide
        · split <;> decide
theorem gaps_snoc (k : Nat) : bsD (gapsD k) ++ ⟨#[gapB k]⟩ = bsD (gapsD (k + 1)) := by
  rw [show (⟨#[gapB k]⟩ : ByteArray) = bsD [gapB k] from rfl, bsD_append]
  rfl

set_option maxHeartbeats 4000000 in
set_option maxRecDepth 100000 in
theorem jr_gaps (n : Nat) (hn : n ≤ 9) (w : World) :
    Calls Tryz.prog 29 #[.int .i64 n] w fun e w' => e = .returned (.string (bsD (gapsD n))) ∧ Below w.heap.size w w' := by
  have hcv := run_conv1 (P := Tryz.prog) (src := 72) (dst := 9) Tryz.underlying72 Tryz.underlying5 Tryz.underlying9
  go_enter Tryz.func29, Tryz.ntmps29
  go_wp2_with fail
  go_loopw [3, 4] (fun s i W => ∃ j : Nat, j ≤ n ∧ s = .string (bsD (gapsD j)) ∧ i = .int .i64 j ∧ Below w.heap.size w W) (fun _ i _ => n - (intOf i).toNat)
  case atStart => exact ⟨0, by omega, rfl, rfl, Below.refl _ _⟩
  case round =>
    obtain ⟨j, hj, rfl, rfl, hb⟩ := hrel
    by_cases hlt : j < n
    · have y1 : (j : Int) < n := by omega
      have z1 := gaps_snoc j
      have z2 : ¬ 9223372036854775807 < (bsD (gapsD j)).size + 1 := by rw [bsD_size, gaps_len]; omega
      obtain ⟨x1, hx1⟩ : ∃ x, bsD (gapsD j) = x := ⟨_, rfl⟩
      obtain ⟨x2, hx2⟩ : ∃ x, bsD (gapsD (j + 1)) = x := ⟨_, rfl⟩
      rw [hx1, hx2] at z1
      rw [hx1] at z2 ⊢
      have HX2 := Lib.hid hx2
      clear hx1 hx2
      have hc : j % 4 = 0 ∨ j % 4 = 1 ∨ j % 4 = 2 ∨ j % 4 = 3 := by omega
      rcases hc with h | h | h | h
      · have hg : gapB j = 32 := by simp [gapB, h]
        have hm : Int.tmod (j : Int) 4 = 0 := by
          rw [show Int.tmod (j : Int) 4 = ((j % 4 : Nat) : Int) from rfl, h]
          rfl
        rw [hg] at z1
        clear hg h
        go_wp2_with fail
        refine ⟨⟨j + 1, by omega, ?_, by go_num, hb.alloc hb.size _⟩, by simp [intOf]; omega⟩
        rw [HX2.out, ← z1]
        rfl
      · have hg : gapB j = 9 := by simp [gapB, h]
        have hm : Int.tmod (j : Int) 4 = 1 := by
          rw [show Int.tmod (j : Int) 4 = ((j % 4 : Nat) : Int) from rfl, h]
          rfl
        rw [hg] at z1
        clear hg h
        go_wp2_with fail
        refine ⟨⟨j + 1, by omega, ?_, by go_num, hb.alloc hb.size _⟩, by simp [intOf]; omega⟩
        rw [HX2.out, ← z1]
        rfl
      · have hg : gapB j = 10 := by simp [gapB, h]
        have hm : Int.tmod (j : Int) 4 = 2 := by
          rw [show Int.tmod (j : Int) 4 = ((j % 4 : Nat) : Int) from rfl, h]
          rfl
        rw [hg] at z1
        clear hg h
        go_wp2_with fail
        refine ⟨⟨j + 1, by omega, ?_, by go_num, hb.alloc hb.size _⟩, by simp [intOf]; omega⟩
        rw [HX2.out, ← z1]
        rfl
      · have hg : gapB j = 13 := by simp [gapB, h]
        have hm : Int.tmod (j : Int) 4 = 3 := by
          rw [show Int.tmod (j : Int) 4 = ((j % 4 : Nat) : Int) from rfl, h]
          rfl
        rw [hg] at z1
        clear hg h
        go_wp2_with fail
        refine ⟨⟨j + 1, by omega, ?_, by go_num, hb.alloc hb.size _⟩, by simp [intOf]; omega⟩
        rw [HX2.out, ← z1]
        rfl
    · obtain rfl : j = n := by omega
      have y1 : ¬ (j : Int) < j := by omega
      go_wp2_with fail
      go_ret
      exact ⟨rfl, hb⟩

theorem uqJ_own3 (l s r : List UInt8) (h : uqJ l = some (s, r)) : ∃ o, l = o ++ 34 :: r := by
  obtain ⟨o, h1, _⟩ := uqJ_own h
  exact ⟨34 :: o, h1⟩
theorem doc_err {F : Nat} {l : List UInt8} {e : Int} (h : docJ uqJ F l = .bad e) : e = 60 ∨ e = 80 := by
  unfold docJ at h
  split at h
  · rename_i e' h'
    cases h
    exact errJ_value _ _ _ _ h'
  · split at h
    · cases h
      exact .inr rfl
    · split at h
      · cases h
      · cases h
        exact .inl rfl
/-- What the three readings answer. -/
def spaceD (L : List UInt8) (a b : Nat) : List UInt8 := gapsD a ++ (L ++ gapsD b)
def twiceD (L : List UInt8) (a b : Nat) : List UInt8 := 91 :: ((gapsD a ++ (L ++ gapsD b)) ++ 44 :: ((gapsD b ++ L) ++ [93]))
theorem read_good {l : List UInt8} {t : Tr} (h : readJ uqJ l = (0, t)) (hl : l.length ≤ 4000) : docJ uqJ (l.length + 1) l = .good t [] := by
  unfold readJ at h
  rw [if_neg (by omega)] at h
  cases hd : docJ uqJ (l.length + 1) l with
  | bad e =>
    rw [hd] at h
    simp only [Prod.mk.injEq] at h
    have he := doc_err hd
    omega
  | good t' r =>
    rw [hd] at h
    simp only [Prod.mk.injEq] at h
    obtain ⟨_, rfl⟩ := h
    have hr := (doc_parts uqJ_own2 (Nat.lt_succ_self _) hd).1
    rw [hr]
theorem good_read {l : List UInt8} {t : Tr} (hl : l.length ≤ 4000) (h : docJ uqJ (l.length + 1) l = .good t []) : readJ uqJ l = (0, t) := by
  unfold readJ
  rw [if_neg (by omega), h]
theorem bad_read {l : List UInt8} {e : Int} (hl : l.length ≤ 4000) (h : docJ uqJ (l.length + 1) l = .bad e) : readJ uqJ l = (e, .nd zeroO []) := by
  unfold readJ
  rw [if_neg (by omega), h]
theorem right_count {t : Tr} (hr : rightT t = true) : t.count ≤ 300 := by
  unfold rightT at hr
  rw [Bool.and_eq_true, decide_eq_true_iff] at hr
  exact hr.1
theorem space_read (L : List UInt8) (hL : L.length ≤ 900) (a b : Nat) (ha : a ≤ 9) (hb : b ≤ 9) :
    ((readJ uqJ L).1 ≠ 0 → (readJ uqJ (spaceD L a b)).1 ≠ 0) ∧ ∀ t, readJ uqJ L = (0, t) → readJ uqJ (spaceD L a b) = (0, t) ∧ t.depth ≤ 16 ∧ t.count ≤ 300 ∧ readJ uqJ (twiceD L a b) = if t.count ≤ 149 ∧ t.depth ≤ 15 then (0, listT 7 [t, t]) else (60, .nd zeroO []) := by
  have l1 : (spaceD L a b).length ≤ 1000 := by simp only [spaceD, List.length_append, gaps_len]; omega
  have l2 : (twiceD L a b).length ≤ 2000 := by simp only [twiceD, List.length_append, gaps_len, List.length_cons, List.length_nil]; omega
  refine ⟨fun h h0 => h ?_, fun t h => ?_⟩
  · have hd := read_good (t := (readJ uqJ (spaceD L a b)).2) (Prod.ext h0 rfl) (by omega)
    have := space_doc uqJ_own2 uqJ_own3 (F := L.length + 1) (Nat.lt_succ_self _) (Nat.lt_succ_self _) (gaps_sp a) (gaps_sp b) hd
    rw [good_read (by omega) this]
  · have hd := read_good h (by omega)
    have hr := (doc_parts uqJ_own2 (Nat.lt_succ_self _) hd).2.1
    refine ⟨good_read (by omega) (doc_space uqJ_own2 (Nat.lt_succ_self _) (Nat.lt_succ_self _) (gaps_sp a) (gaps_sp b) hd), (two_right hr).2, right_count hr, ?_⟩
    have h2 := two_docs uqJ_own2 (F' := (twiceD L a b).length + 1) (Nat.lt_succ_self _) (gaps_sp a) (gaps_sp b) hd (Nat.lt_succ_self _)
    split at h2
    · rename_i hx
      rw [if_pos hx]
      exact good_read (by omega) h2
    · rename_i hx
      rw [if_neg hx]
      exact bad_read (by omega) h2
end Go.Proofs.YtfckekaegjjmkaaGreatDoor
