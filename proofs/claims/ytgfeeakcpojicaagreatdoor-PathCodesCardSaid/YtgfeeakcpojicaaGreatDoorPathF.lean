/- path laws: Few, Same, cut, shown. -/
import Derived.Test.YtgfeeakcpojicaaGreatDoorPathE
import Derived.Deep.QuietTactic
import Derived.BigQuiet
import Derived.Deep.AppendLies
import Derived.Deep.RegionLaw
import Derived.Deep.DeepMust
namespace Go.Proofs.YtgfeeakcpojicaaGreatDoor
open Go.RowKit Go.Shelf

def fewStep (s : Stp) : Stp := (s.1, s.2.extract 0 (min (s.2.size : Int) 410).toNat)
def fewS (p : List Stp) : List Stp := (p.take 20).map fewStep
theorem fewStep_size (s : Stp) : (fewStep s).2.size ≤ 410 := by
  show (s.2.extract 0 _).size ≤ 410
  rw [ByteArray.size_extract]
  omega
theorem few_take (p : List Stp) (k : Nat) (hk : k < p.length) (_ : k < 20) : (p.take (k + 1)).map fewStep = (p.take k).map fewStep ++ [fewStep p[k]] := by
  rw [List.take_succ_eq_append_getElem hk, List.map_append]
  rfl

set_option maxHeartbeats 4000000 in
set_option maxRecDepth 100000 in
theorem law_Few (A : Option Addr) (n c : Nat) (p : List Stp) (B : Nat) (w : World) (hn : n ≤ 9223372036854775807) (hp : StepsAt w B A n p) (hB : B ≤ w.heap.size) :
    Calls Tryz.prog 8 #[.slice A n c] w fun e w' => (∃ A' c', e = .returned (.slice A' (fewS p).length c') ∧ StepsAt w' w'.heap.size A' (fewS p).length (fewS p)) ∧ Below w.heap.size w w' := by
  obtain ⟨i0, hi, hz0, hz1, hz2⟩ := info_parts infoStep
  have HI := Lib.hid hi
  have HZ0 := Lib.hid hz0
  have HZ1 := Lib.hid hz1
  have HZ2 := Lib.hid hz2
  have hlen := hp.len
  have HP := Lib.hid hp
  clear hi hz0 hz1 hz2 hp
  go_enter Tryz.func8, Tryz.ntmps8
  go_wp2_with fail
  go_loopw [3, 4] (fun v i wr => ∃ k : Nat, k ≤ n ∧ k ≤ 20 ∧ i = .int .i64 k ∧ wr.ownsRow w.heap.size 53 2 v k (stepCells ((p.take k).map fewStep)) ∧ Below w.heap.size w wr) (fun _ i _ => n - (intOf i).toNat)
  case atStart => exact ⟨0, by omega, by omega, rfl, World.ownsRow_nil _ _ _ _, Below.refl _ _⟩
  case round =>
    obtain ⟨k, hk, hk20, rfl, hown, hbw⟩ := hrel
    obtain ⟨A', c', rfl⟩ := own_slice hown
    have hzw := hbw.size
    by_cases hlt : k < n ∧ k < 20
    · obtain ⟨hl1, hl2⟩ := hlt
      have hkp : k < p.length := by omega
      obtain ⟨ad, rfl, hab, hc0, hc1, hks⟩ := (HP.out.below hbw hB).at_ hkp
      have hft := few_take p k hkp hl2
      obtain ⟨⟨i, key⟩, hs⟩ : ∃ s, p[k] = s := ⟨_, rfl⟩
      rw [hs] at hc0 hc1 hks hft
      simp only [] at hc0 hc1 hks
      have z1 : (k : Int) < n := by omega
      have z2 : (k : Int) < 20 := by omega
      have z3 : (0 : Int) ≤ min (key.size : Int) 410 := by omega
      have z4 : min (key.size : Int) 410 ≤ key.size := by omega
      have HFT := Lib.hid hft
      obtain ⟨kc, hkc⟩ : ∃ kc, key.extract 0 (min (key.size : Int) 410).toNat = kc := ⟨_, rfl⟩
      have HKC := Lib.hid hkc
      clear hs hft hlen hkc
      have hownD : (wr.alloc (.cells #[.int .i64 i, .string (key.extract 0 (min (key.size : Int) 410).toNat)] 53)).drew.ownsRow w.heap.size 53 2 (.slice A' k c') k (stepCells ((p.take k).map fewStep)) := hown.alloc _
      have c1 : ∀ j u, ([.int .i64 i, .string (key.extract 0 (min (key.size : Int) 410).toNat)] : List Value)[j]? = some u → (wr.alloc (.cells #[.int .i64 i, .string (key.extract 0 (min (key.size : Int) 410).toNat)] 53)).drew.cell? ((⟨wr.heap.size, 0, none⟩ : Addr).add j) = some u := by
        intro j u hj
        have hbk : Blk (wr.alloc (.cells #[.int .i64 i, .string (key.extract 0 (min (key.size : Int) 410).toNat)] 53)).drew wr.heap.size #[.int .i64 i, .string (key.extract 0 (min (key.size : Int) 410).toNat)] 53 := (Blk.new wr _ _).drew
        match j, hj with
        | 0, hj => exact (hbk.cell 0).trans hj
        | 1, hj => exact (hbk.cell 1).trans hj
        | j + 2, hj => simp at hj
      have c2 : ∀ u ∈ ([.int .i64 i, .string (key.extract 0 (min (key.size : Int) 410).toNat)] : List Value), u.oneCell' = true := by
        intro u hu
        simp at hu
        rcases hu with rfl | rfl <;> rfl
      have c5 : w.heap.size ≤ (wr.alloc (.cells #[.int .i64 i, .string (key.extract 0 (min (key.size : Int) 410).toNat)] 53)).drew.heap.size := by
        show w.heap.size ≤ (wr.alloc _).heap.size
        simp
        omega
      have C1 := Lib.hid c1
      have C2 := Lib.hid c2
      have C5 := Lib.hid c5
      have C3 := Lib.hid (show k + 1 ≤ maxLen by unfold maxLen; omega)
      have C4 := Lib.hid (show (k + 1) * 24 ≤ 140737488355328 by omega)
      have HO := Lib.hid hownD
      clear c1 c2 c5 hownD
      go_wp2_with fail
      go_region_law (refine step_append_lies _ rfl (.tmp 15) (.tmp 35) 22 rfl w.heap.size 53 i0 (.agg #[.int .i64 0, .string ⟨#[]⟩]) 2 24 Tryz.underlying22 HI.out HZ0.out HZ1.out HZ2.out rfl (by decide) (.slice A' k c') k _ (by simp [Act.eval, Act.put]) HO.out ⟨wr.heap.size, 0, none⟩ 1 1 [.int .i64 i, .string (key.extract 0 (min (key.size : Int) 410).toNat)] (by simp [Act.eval, Act.put]) rfl C1.out C2.out (by decide) C3.out C4.out C5.out _ rfl ?_; intro g cap w2 hown' hgrow hgg hgl)
      all_goals
        have hb3 : Below w.heap.size w w2 := (hbw.alloc hzw (.cells #[.int .i64 i, .string (key.extract 0 (min (key.size : Int) 410).toNat)] 53)).drew.grown hgrow C5.out (fun k hk => (hown.lt k hk).1)
        have hown2 : w2.ownsRow w.heap.size 53 2 (.slice (some ⟨g, 0, none⟩) (k + 1) cap) (k + 1) (stepCells ((p.take (k + 1)).map fewStep)) := by
          rw [HFT.out, stepCells_append]
          have h := hown'
          exact h
        clear hown hown' hgrow hbw hgg hgl
        go_wp2_with fail
        go_roundw
        case rel => exact ⟨k + 1, by omega, by omega, by go_num, hown2, hb3⟩
        case measure => simp [intOf]; omega
    · have hfew : (p.take k).map fewStep = fewS p := by
        unfold fewS
        congr 1
        by_cases h1 : k < n
        · obtain rfl : k = 20 := by omega
          rfl
        · obtain rfl : k = n := by omega
          rw [← hlen, List.take_length, List.take_of_length_le (by omega)]
      have hkl : (fewS p).length = k := by
        unfold fewS
        rw [List.length_map, List.length_take]
        omega
      rw [hfew] at hown
      have hsa : StepsAt wr wr.heap.size A' (fewS p).length (fewS p) := by
        rw [hkl]
        refine ⟨hkl, Lies.own hown, fun x hx => ?_⟩
        obtain ⟨y, _, rfl⟩ := List.mem_map.1 hx
        have := fewStep_size y
        omega
      have HSA := Lib.hid hsa
      have HKL := Lib.hid hkl
      clear hfew hkl hown hsa hlen
      by_cases h1 : k < n
      · obtain rfl : k = 20 := by omega
        have z1 : (20 : Int) < n := by omega
        simp only [Int.cast_ofNat_Int]
        go_wp2_with fail
        go_ret
        exact ⟨⟨A', c', by rw [HKL.out]; rfl, HSA.out⟩, hbw⟩
      · have z1 : (n : Int) ≤ k := by omega
        go_wp2_with fail
        go_ret
        exact ⟨⟨A', c', by rw [HKL.out]; rfl, HSA.out⟩, hbw⟩

set_option maxHeartbeats 2000000 in
set_option maxRecDepth 100000 in
theorem ref_Same (A A' : Option Addr) (n c c' : Nat) (p : List Stp) (B : Nat) (w : World) (hn : n ≤ 9223372036854775807) (hp : StepsAt w B A n p) (hp' : StepsAt w B A' n p) (hB : B ≤ w.heap.size) :
    Calls Tryz.prog 13 #[.slice A n c, .slice A' n c'] w fun e w' => e = .returned (.bool true) ∧ Below w.heap.size w w' := by
  have hlen := hp.len
  have HP := Lib.hid hp
  have HP' := Lib.hid hp'
  clear hp hp'
  go_enter Tryz.func13, Tryz.ntmps13
  go_wp2_with fail
  go_loopw [5] (fun i wr => ∃ k : Nat, k ≤ n ∧ i = .int .i64 k ∧ Below w.heap.size w wr) (fun i _ => n - (intOf i).toNat)
  case atStart => exact ⟨0, by omega, rfl, Below.refl _ _⟩
  case round =>
    obtain ⟨k, hk, rfl, hbw⟩ := hrel
    by_cases hlt : k < n
    · have hkp : k < p.length := by omega
      obtain ⟨ad, rfl, hab, hc0, hc1, hks⟩ := (HP.out.below hbw hB).at_ hkp
      obtain ⟨ad', rfl, hab', hc0', hc1', _⟩ := (HP'.out.below hbw hB).at_ hkp
      obtain ⟨⟨i, key⟩, hs⟩ : ∃ s, p[k] = s := ⟨_, rfl⟩
      rw [hs] at hc0 hc1 hc0' hc1'
      simp only [] at hc0 hc1 hc0' hc1'
      have z1 : (k : Int) < n := by omega
      have z0 : (0 : Int) ≤ k := by omega
      clear hs hlen hks
      go_wp2_with fail
      go_quiet (fail)
      go_wp2_with fail
      go_roundw
      case rel => exact ⟨k + 1, by omega, by go_num, below_drewN hbw _⟩
      case measure => simp [intOf]; omega
    · obtain rfl : k = n := by omega
      have z1 : ¬ (k : Int) < k := by omega
      clear hlen
      go_wp2_with fail
      go_ret
      exact ⟨rfl, hbw⟩
end Go.Proofs.YtgfeeakcpojicaaGreatDoor
