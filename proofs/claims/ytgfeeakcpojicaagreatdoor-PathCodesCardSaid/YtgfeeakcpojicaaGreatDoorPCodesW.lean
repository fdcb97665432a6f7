/- The walk of the law PathCodes. -/
import Derived.Test.YtgfeeakcpojicaaGreatDoorRefW
import Derived.Test.YtgfeeakcpojicaaGreatDoorPBackS
namespace Go.Proofs.YtgfeeakcpojicaaGreatDoor
open Go.RowKit Go.Shelf

theorem stepsAt_nil (w : World) (B : Nat) : StepsAt w B none 0 [] := by
  refine ⟨rfl, ⟨rfl, fun h => absurd h (by simp)⟩, by simp⟩

/-- The two halves of the reading agree. -/
theorem same_decoded (s : ByteArray) (w0 w : World) (e : Ending) (h : DecPost s w0 e w) (w1 : World) (e' : Ending) (w2 : World) (hb : Below w.heap.size w w1) (h' : DecPost s w1 e' w2) :
    ∃ (A A' : Option Addr) (n c c' : Nat) (v : Int), e = .returned (.tuple #[.slice A n c, .int .i64 v]) ∧ e' = .returned (.tuple #[.slice A' n c', .int .i64 v]) ∧
      (∀ w3, Below w2.heap.size w2 w3 → Calls Tryz.prog 13 #[.slice A n c, .slice A' n c'] w3 fun e w' => e = .returned (.bool true) ∧ Below w3.heap.size w3 w') ∧ Below w0.heap.size w0 w ∧ Below w1.heap.size w1 w2 := by
  obtain ⟨hb1, hm⟩ := h
  obtain ⟨hb2, hm'⟩ := h'
  cases hd : decodeS s.data.toList with
  | none =>
    rw [hd] at hm hm'
    refine ⟨none, none, 0, 0, 0, 70, hm, hm', fun w3 hb3 => ?_, hb1, hb2⟩
    exact ref_Same none none 0 0 0 [] w3.heap.size w3 (by omega) (stepsAt_nil _ _) (stepsAt_nil _ _) (Nat.le_refl _)
  | some p =>
    rw [hd] at hm hm'
    obtain ⟨A, n, c, he, hs, _⟩ := hm
    obtain ⟨A', n', c', he', hs', _⟩ := hm'
    have e1 := hs.len
    have e2 := hs'.len
    obtain rfl : n' = n := by omega
    have hr : p.length ≤ 16 := by
      have hr := (decode_some hd).1
      unfold rightS at hr
      rw [Bool.and_eq_true, decide_eq_true_iff] at hr
      exact hr.1
    refine ⟨A, A', n', c, c', 0, he, he', fun w3 hb3 => ?_, hb1, hb2⟩
    have k1 := hs.below hb (Nat.le_refl _)
    have k2 := k1.below hb2 hb.size
    have k3 := k2.below hb3 (Nat.le_trans hb.size hb2.size)
    have k4 := hs'.below hb3 (Nat.le_refl _)
    have hz := hb3.size
    refine ref_Same A A' n' c c' p w2.heap.size w3 (by omega) (k3.more (Nat.le_trans hb.size hb2.size)) k4 hz

set_option maxHeartbeats 4000000 in
set_option maxRecDepth 100000 in
theorem pcodes_walk {aT aQ : Addr} (A : Option Addr) (n c : Nat) (p0 : List Stp) (B : Nat) (s : ByteArray) (w : World) (h : PW w aT aQ) (hn : n ≤ 9223372036854775807) (hp : StepsAt w B A n p0) (hB : B ≤ w.heap.size) (hi0 : ∀ x ∈ p0, x.1 < 9223372036854775808) (hs : s.size ≤ 9223372036854775807) :
    Calls Tryz.prog 3 #[.slice A n c, .string s] w fun e w' => e = .returned (.bool true) ∧ Below w.heap.size w w' := by
  have H0 := Lib.hid (law_shown w h)
  have HU := Lib.hid (fun (w' : World) (hw : Below w.heap.size w w') => h.below hw)
  have HF := Lib.hid (fun (w' : World) (hw : Below w.heap.size w w') => law_Few A n c p0 B w' hn (hp.below hw hB) (Nat.le_trans hB hw.size))
  have hi : ∀ x ∈ fewS p0, x.1 < 9223372036854775808 := by
    intro x hx
    obtain ⟨y, hy, rfl⟩ := List.mem_map.1 hx
    exact hi0 y (List.mem_of_mem_take hy)
  have hpl : (fewS p0).length ≤ 20 := by
    unfold fewS
    rw [List.length_map, List.length_take]
    omega
  have HCUT := Lib.hid (law_cut s hs)
  have hsz : (cutP s).size ≤ 600 := by
    unfold cutP
    rw [ByteArray.size_extract]
    omega
  generalize cutP s = s1 at HCUT hsz
  generalize fewS p0 = p at HF hi hpl
  have HD1 := Lib.hid (fun w (h : PW w aT aQ) => path_Decode s1 w h (by omega))
  have HD2 := Lib.hid (fun w => ref_pDecode s1 w (by omega))
  have HI := Lib.hid hi
  have hlz : p.length ≤ 9223372036854775807 := by omega
  have HC1 : Hid (∃ (a : ByteArray) (v : Int), (∀ (A' : Option Addr) (c' : Nat) (w' : World), Below w.heap.size w w' → StepsAt w' w'.heap.size A' p.length p → Calls Tryz.prog 7 #[.slice A' p.length c'] w' fun e w'' => e = .returned (.tuple #[.string a, .int .i64 v]) ∧ Below w'.heap.size w' w'') ∧ (∀ (A' : Option Addr) (c' : Nat) (w' : World), Below w.heap.size w w' → StepsAt w' w'.heap.size A' p.length p → Calls Tryz.prog 9 #[.slice A' p.length c'] w' fun e w'' => e = .returned (.tuple #[.string a, .int .i64 v]) ∧ Below w'.heap.size w' w'')) := Lib.hid (by
    cases hr : rightS p with
    | true => exact ⟨⟨(codeS p).toArray⟩, 0, fun A' c' w' hw hsa => path_Code_yes A' p.length c' p w'.heap.size w' (HU.out _ hw) hsa (Nat.le_refl _) hr HI.out, fun A' c' w' _ hsa => ref_pCode_yes A' p.length c' p w'.heap.size w' hsa (Nat.le_refl _) hr HI.out⟩
    | false => exact ⟨⟨#[]⟩, 70, fun A' c' w' hw hsa => path_Code_no A' p.length c' p w'.heap.size w' (HU.out _ hw).uw hlz hsa (Nat.le_refl _) hr, fun A' c' w' _ hsa => ref_pCode_no A' p.length c' p w'.heap.size w' hlz hsa hr⟩)
  obtain ⟨a, v, hc1, hc2⟩ := HC1.out
  have HK1 := Lib.hid hc1
  have HK2 := Lib.hid hc2
  clear h hp hi0 hs hi hB HC1 hc1 hc2
  go_enter Tryz.func3, Tryz.ntmps3
  go_wp2_with fail
  refine H0.out.mono ?_
  rintro e w1 ⟨rfl, hb1⟩
  go_wp2_with fail
  refine (HF.out w1 hb1).mono ?_
  rintro e w2 ⟨⟨A1, c1, rfl, hsa1⟩, hx⟩
  have hb2 := hb1.trans (hx.mono hb1.size)
  clear hx hb1
  go_wp2_with fail
  refine (HK1.out A1 c1 w2 hb2 hsa1).mono ?_
  rintro e w3 ⟨rfl, hx⟩
  have hb3 := hb2.trans (hx.mono hb2.size)
  clear hx hb2 hsa1
  go_wp2_with fail
  refine (HF.out w3 hb3).mono ?_
  rintro e w4 ⟨⟨A2, c2, rfl, hsa2⟩, hx⟩
  have hb4 := hb3.trans (hx.mono hb3.size)
  clear hx hb3
  go_wp2_with fail
  refine (HK2.out A2 c2 w4 hb4 hsa2).mono ?_
  rintro e w5 ⟨rfl, hx⟩
  have hb5 := hb4.trans (hx.mono hb4.size)
  clear hx hb4 hsa2
  go_wp2_with fail
  refine (HCUT.out _).mono ?_
  rintro e w5' ⟨rfl, rfl⟩
  go_wp2_with fail
  refine (HD1.out _ (HU.out _ hb5)).mono ?_
  intro e6 w6 hq6
  have HQ6 := Lib.hid hq6
  have hb6 : Below w5.heap.size w5 w6 := hq6.1
  have hform : ∃ (Z : Option Addr) (n1 n2 : Nat) (z : Int), e6 = .returned (.tuple #[.slice Z n1 n2, .int .i64 z]) := by
    obtain ⟨_, hm⟩ := hq6
    cases hd : decodeS s1.data.toList with
    | none => rw [hd] at hm; exact ⟨_, _, _, _, hm⟩
    | some q => rw [hd] at hm; obtain ⟨_, _, _, he, _⟩ := hm; exact ⟨_, _, _, _, he⟩
  obtain ⟨Z, n1, n2, z, rfl⟩ := hform
  clear hq6
  go_wp2_with fail
  refine (HCUT.out _).mono ?_
  rintro e w6' ⟨rfl, rfl⟩
  go_wp2_with fail
  refine (HD2.out _).mono ?_
  intro e7 w7 hq7
  obtain ⟨A3, A4, m, c3, c4, v2, he6, rfl, hsame, _, hb7⟩ := same_decoded s1 w5 w6 _ HQ6.out w6 e7 w7 (Below.refl _ _) hq7
  have HE6 := Lib.hid he6
  have HS := Lib.hid hsame
  have hb8 := (hb5.trans (hb6.mono hb5.size)).trans (hb7.mono (Nat.le_trans hb5.size hb6.size))
  have ht : Value.tuple #[.slice Z n1 n2, .int .i64 z] = Value.tuple #[.slice A3 m c3, .int .i64 v2] := by
    injection he6
  have hz : (Z = A3 ∧ n1 = m ∧ n2 = c3) ∧ z = v2 := by
    simpa using ht
  obtain ⟨⟨rfl, rfl, rfl⟩, rfl⟩ := hz
  clear he6 hsame hq7 HQ6 hb6 hb7 hb5 ht HE6
  go_wp2_with fail
  refine (HS.out _ (Below.refl _ _)).mono ?_
  rintro e w8 ⟨rfl, hb9⟩
  have hb10 := hb8.trans (hb9.mono hb8.size)
  clear hb9 hb8
  go_wp2_with fail
  go_ret
  exact ⟨rfl, hb10⟩
end Go.Proofs.YtgfeeakcpojicaaGreatDoor
