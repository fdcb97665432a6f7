/- path: isRight, Right. -/
import Derived.Test.YtgfeeakcpojicaaGreatDoorMem
import Derived.Test.YtgfeeakcpojicaaGreatDoorUtfY
namespace Go.Proofs.YtgfeeakcpojicaaGreatDoor
open Go.RowKit Go.Shelf

/-- A step: a place, or a key. -/
abbrev Stp := Int × ByteArray
abbrev stepV (s : Stp) : Value := .agg #[.int .i64 s.1, .string s.2]
def stepRight (s : Stp) : Bool := (decide (s.2.size = 0) && decide (0 ≤ s.1)) || (decide (s.1 = -1) && decide (s.2.size ≤ 400) && Lib.validD s.2.data.toList)

theorem stepRight_place {i : Int} {k : ByteArray} (h0 : k.size = 0) (hi : 0 ≤ i) : stepRight (i, k) = true := by
  show (decide (k.size = 0) && decide (0 ≤ i) || _) = true
  rw [decide_eq_true h0, decide_eq_true hi]
  rfl
theorem stepRight_key {i : Int} {k : ByteArray} (_h : ¬ (k.size = 0 ∧ 0 ≤ i)) (hi : i = -1) (hk : k.size ≤ 400) : stepRight (i, k) = Lib.validD k.data.toList := by
  have h1 : (decide (k.size = 0) && decide (0 ≤ i)) = false := by
    rw [Bool.and_eq_false_iff, decide_eq_false_iff_not, decide_eq_false_iff_not]
    omega
  show ((decide (k.size = 0) && decide (0 ≤ i)) || (decide (i = -1) && decide (k.size ≤ 400) && Lib.validD k.data.toList)) = _
  rw [h1, decide_eq_true hi, decide_eq_true hk]
  rfl
theorem stepRight_not {i : Int} {k : ByteArray} (h : ¬ (k.size = 0 ∧ 0 ≤ i)) (hi : ¬ (i = -1 ∧ k.size ≤ 400)) : stepRight (i, k) = false := by
  have h1 : (decide (k.size = 0) && decide (0 ≤ i)) = false := by
    rw [Bool.and_eq_false_iff, decide_eq_false_iff_not, decide_eq_false_iff_not]
    omega
  have h2 : (decide (i = -1) && decide (k.size ≤ 400)) = false := by
    rw [Bool.and_eq_false_iff, decide_eq_false_iff_not, decide_eq_false_iff_not]
    omega
  show ((decide (k.size = 0) && decide (0 ≤ i)) || (decide (i = -1) && decide (k.size ≤ 400) && Lib.validD k.data.toList)) = _
  rw [h1, h2]
  rfl

set_option maxHeartbeats 2000000 in
set_option maxRecDepth 100000 in
theorem path_isRight {aT aQ : Addr} (i : Int) (k : ByteArray) (hk : k.size ≤ 9223372036854775807) (w : World) (h : UW w aT aQ) :
    Calls Tryz.prog 46 #[.agg #[.int .i64 i, .string k]] w fun e w' => e = .returned (.bool (stepRight (i, k))) ∧ Below w.heap.size w w' := by
  have hb2 : ∀ o o', Below w.heap.size w ((w.alloc o).alloc o') := fun o o' => ((Below.refl _ w).alloc (Nat.le_refl _) o).alloc (by simp) o'
  have HV := Lib.hid (fun o o' => utf_Right k hk _ (h.below (hb2 o o')))
  clear h
  by_cases h0 : k.size = 0
  · have e0 := str_empty h0
    subst e0
    by_cases hi : 0 ≤ i
    · rw [stepRight_place h0 hi]
      clear HV h0 hk
      go_enter Tryz.func46, Tryz.ntmps46
      go_wp2_with fail
      go_ret
      exact ⟨rfl, hb2 _ _⟩
    · by_cases h1 : i = -1
      · rw [stepRight_key (fun h => hi h.2) h1 (by rw [h0]; omega)]
        subst h1
        clear h0 hk hi
        go_enter Tryz.func46, Tryz.ntmps46
        go_wp2_with fail
        refine (HV.out _ _).mono ?_
        rintro e w1 ⟨rfl, hb⟩
        have hb3 := (hb2 _ _).trans (hb.mono (hb2 _ _).size)
        clear hb
        go_wp2_with fail
        go_ret
        exact ⟨rfl, hb3⟩
      · rw [stepRight_not (fun h => hi h.2) (fun h => h1 h.1)]
        have z1 : i < 0 := by omega
        have z2 : (i == -1) = false := by rw [beq_eq_false_iff_ne]; exact h1
        clear HV h0 hk hi h1
        go_enter Tryz.func46, Tryz.ntmps46
        go_wp2_with fail
        go_ret
        exact ⟨rfl, hb2 _ _⟩
  · have hne := str_nonempty h0
    have hz : (0 : Int) < k.size := by omega
    by_cases h1 : i = -1
    · by_cases h4 : k.size ≤ 400
      · rw [stepRight_key (fun h => h0 h.1) h1 h4]
        have z4 : (k.size : Int) ≤ 400 := by omega
        subst h1
        clear h0 h4
        go_enter Tryz.func46, Tryz.ntmps46
        go_wp2_with fail
        refine (HV.out _ _).mono ?_
        rintro e w1 ⟨rfl, hb⟩
        have hb3 := (hb2 _ _).trans (hb.mono (hb2 _ _).size)
        clear hb
        go_wp2_with fail
        go_ret
        exact ⟨rfl, hb3⟩
      · rw [stepRight_not (fun h => h0 h.1) (fun h => h4 h.2)]
        have z4 : (400 : Int) < k.size := by omega
        subst h1
        clear h0 h4 HV
        go_enter Tryz.func46, Tryz.ntmps46
        go_wp2_with fail
        go_ret
        exact ⟨rfl, hb2 _ _⟩
    · rw [stepRight_not (fun h => h0 h.1) (fun h => h1 h.1)]
      have z2 : (i == -1) = false := by rw [beq_eq_false_iff_ne]; exact h1
      clear HV h0 h1
      go_enter Tryz.func46, Tryz.ntmps46
      go_wp2_with fail
      go_ret
      exact ⟨rfl, hb2 _ _⟩

theorem path_Right1 {aT aQ : Addr} (i : Int) (k : ByteArray) (hk : k.size ≤ 9223372036854775807) (w : World) (h : UW w aT aQ) :
    Calls Tryz.prog 45 #[.agg #[.int .i64 i, .string k]] w fun e w' => e = .returned (.bool (!stepRight (i, k))) ∧ Below w.heap.size w w' := by
  have hb2 : ∀ o, Below w.heap.size w (w.alloc o) := fun o => (Below.refl _ w).alloc (Nat.le_refl _) o
  have HV := Lib.hid (fun o => path_isRight i k hk _ (h.below (hb2 o)))
  clear h
  generalize stepRight (i, k) = b at HV
  go_enter Tryz.func45, Tryz.ntmps45
  go_wp2_with fail
  refine (HV.out _).mono ?_
  rintro e w1 ⟨rfl, hb⟩
  have hb3 := (hb2 _).trans (hb.mono (hb2 _).size)
  clear hb HV hb2
  go_wp2_with fail
  go_ret
  exact ⟨rfl, hb3⟩

def stepCells (p : List Stp) : List Value := p.flatMap fun s => [.int .i64 s.1, .string s.2]
theorem stepCells_cons (s : Stp) (p : List Stp) : stepCells (s :: p) = .int .i64 s.1 :: .string s.2 :: stepCells p := rfl
theorem stepCells_length : ∀ p : List Stp, (stepCells p).length = p.length * 2
  | [] => rfl
  | s :: p => by rw [stepCells_cons, List.length_cons, List.length_cons, stepCells_length p, List.length_cons]; omega
theorem stepCells_append : ∀ p q : List Stp, stepCells (p ++ q) = stepCells p ++ stepCells q
  | [], _ => rfl
  | s :: p, q => by
    show _ :: _ :: stepCells (p ++ q) = _ :: _ :: (stepCells p ++ stepCells q)
    rw [stepCells_append p q]
theorem stepCells_at : ∀ (p : List Stp) (k : Nat) (h : k < p.length), (stepCells p)[k * 2 + 0]? = some (.int .i64 p[k].1) ∧ (stepCells p)[k * 2 + 1]? = some (.string p[k].2)
  | s :: p, 0, _ => ⟨rfl, rfl⟩
  | s :: p, k + 1, h => by
    have := stepCells_at p k (by simpa using h)
    rw [stepCells_cons, show (k + 1) * 2 + 0 = (k * 2 + 0) + 1 + 1 by omega, show (k + 1) * 2 + 1 = (k * 2 + 1) + 1 + 1 by omega]
    simpa using this
/-- A slice of steps. -/
structure StepsAt (W : World) (B : Nat) (A : Option Addr) (n : Nat) (p : List Stp) : Prop where
  len : p.length = n
  lies : Lies W B 2 A n (stepCells p)
  size : ∀ s ∈ p, s.2.size ≤ 9223372036854775807
theorem StepsAt.below {W W' : World} {B n : Nat} {A : Option Addr} {p : List Stp} (h : StepsAt W B A n p) {m : Nat} (hb : Below m W W') (hm : B ≤ m) : StepsAt W' B A n p := ⟨h.len, h.lies.below hb hm, h.size⟩
theorem StepsAt.more {W : World} {B B' n : Nat} {A : Option Addr} {p : List Stp} (h : StepsAt W B A n p) (hB : B ≤ B') : StepsAt W B' A n p := ⟨h.len, h.lies.more hB, h.size⟩
theorem StepsAt.at_ {W : World} {B n : Nat} {A : Option Addr} {p : List Stp} (h : StepsAt W B A n p) {k : Nat} (hk : k < p.length) :
    ∃ ad, A = some ad ∧ ad.block < B ∧ W.cell? (ad.add (k * 2)) = some (.int .i64 p[k].1) ∧ W.cell? ⟨(ad.add (k * 2)).block, (ad.add (k * 2)).off + 1, none⟩ = some (.string p[k].2) ∧ p[k].2.size ≤ 9223372036854775807 := by
  obtain ⟨ad, e, hlt, hc⟩ := h.lies.at_ (k := k) (by rw [← h.len]; exact hk)
  obtain ⟨h0, h1⟩ := stepCells_at p k hk
  refine ⟨ad, e, hlt, ?_, ?_, h.size _ (List.getElem_mem hk)⟩
  · exact (hc 0 (by omega)).trans h0
  · rw [← add_field ad (k * 2) 0]
    exact (hc 1 (by omega)).trans h1

set_option maxHeartbeats 2000000 in
set_option maxRecDepth 100000 in
theorem path_index {aT aQ : Addr} (A : Option Addr) (n c : Nat) (p : List Stp) (B : Nat) (w : World) (h : UW w aT aQ) (hn : n ≤ 9223372036854775807) (hp : StepsAt w B A n p) (hB : B ≤ w.heap.size) :
    Calls Tryz.prog 68 #[.slice A n c, .func (.func 45) #[] #[]] w fun e w' => (∃ k : Int, e = .returned (.int .i64 k) ∧ decide (0 ≤ k) = !(p.all stepRight)) ∧ Below w.heap.size w w' := by
  have HU := Lib.hid (fun (w' : World) (hw : Below w.heap.size w w') => h.below hw)
  have hlen := hp.len
  have HP := Lib.hid hp
  clear h hp
  go_enter Tryz.func68, Tryz.ntmps68
  go_wp2_with fail
  go_loopw [8] (fun i wr => ∃ k : Nat, k ≤ n ∧ i = .int .i64 k ∧ (p.take k).all stepRight = true ∧ Below w.heap.size w wr) (fun i _ => n - (intOf i).toNat)
  case atStart => exact ⟨0, by omega, rfl, rfl, Below.refl _ _⟩
  case round =>
    obtain ⟨k, hk, rfl, hall, hbw⟩ := hrel
    by_cases hlt : k < n
    · have hkp : k < p.length := by omega
      obtain ⟨ad, rfl, hab, hc0, hc1, hks⟩ := (HP.out.below hbw hB).at_ hkp
      have htk : (p.take (k + 1)).all stepRight = stepRight p[k] := by
        rw [List.take_succ_eq_append_getElem hkp, List.all_append, hall]
        simp
      have HTK := Lib.hid htk
      have HA := Lib.hid hall
      obtain ⟨⟨i, key⟩, hs⟩ : ∃ s, p[k] = s := ⟨_, rfl⟩
      rw [hs] at hc0 hc1 hks HTK
      have HS := Lib.hid hs
      have HV := Lib.hid (path_Right1 i key hks wr (HU.out _ hbw))
      have hltz : (k : Int) < n := by omega
      simp only [] at hc0 hc1
      clear hs htk hall hlen
      go_wp2_with fail
      with_reducible refine HV.out.mono ?_
      rintro e w1 ⟨rfl, hb⟩
      have hb3 := hbw.trans (hb.mono hbw.size)
      clear hb HV hc0 hc1
      cases hs : stepRight (i, key) with
      | true =>
        rw [hs] at HTK
        clear hs hks
        simp only [Bool.not_true]
        go_wp2_with fail
        go_roundw
        case rel => exact ⟨k + 1, by omega, by go_num, HTK.out, hb3⟩
        case measure => simp [intOf]; omega
      | false =>
        have hf : p.all stepRight = false := by
          rw [Bool.eq_false_iff]
          intro ha
          have := List.all_eq_true.1 ha p[k] (List.getElem_mem hkp)
          rw [HS.out, hs] at this
          cases this
        have HF := Lib.hid hf
        clear hs hks hf
        simp only [Bool.not_false]
        go_wp2_with fail
        go_ret
        exact ⟨⟨k, rfl, by rw [HF.out]; simp⟩, hb3⟩
    · obtain rfl : k = n := by omega
      have hall' : p.all stepRight = true := by
        rw [← hlen, List.take_length] at hall
        exact hall
      have HF := Lib.hid hall'
      have hz : ¬ (k : Int) < k := by omega
      clear hall hall' hlen
      go_wp2_with fail
      go_ret
      exact ⟨⟨-1, rfl, by rw [HF.out]; rfl⟩, hbw⟩

set_option maxRecDepth 100000 in
theorem path_contains {aT aQ : Addr} (A : Option Addr) (n c : Nat) (p : List Stp) (B : Nat) (w : World) (h : UW w aT aQ) (hn : n ≤ 9223372036854775807) (hp : StepsAt w B A n p) (hB : B ≤ w.heap.size) :
    Calls Tryz.prog 44 #[.slice A n c, .func (.func 45) #[] #[]] w fun e w' => e = .returned (.bool (!p.all stepRight)) ∧ Below w.heap.size w w' := by
  have HI := Lib.hid (path_index A n c p B w h hn hp hB)
  clear h hp
  cases hb : p.all stepRight with
  | true =>
    rw [hb] at HI
    clear hb
    go_enter Tryz.func44, Tryz.ntmps44
    go_wp2_with fail
    refine HI.out.mono ?_
    rintro e w1 ⟨⟨k, rfl, hk⟩, hb⟩
    simp only [Bool.not_true] at hk
    clear HI
    go_wp2_with fail
    go_ret
    exact ⟨rfl, hb⟩
  | false =>
    rw [hb] at HI
    clear hb
    go_enter Tryz.func44, Tryz.ntmps44
    go_wp2_with fail
    refine HI.out.mono ?_
    rintro e w1 ⟨⟨k, rfl, hk⟩, hb⟩
    simp only [Bool.not_false] at hk
    clear HI
    go_wp2_with fail
    go_ret
    exact ⟨rfl, hb⟩

def rightS (p : List Stp) : Bool := decide (p.length ≤ 16) && p.all stepRight

set_option maxRecDepth 100000 in
theorem path_Right {aT aQ : Addr} (A : Option Addr) (n c : Nat) (p : List Stp) (B : Nat) (w : World) (h : UW w aT aQ) (hn : n ≤ 9223372036854775807) (hp : StepsAt w B A n p) (hB : B ≤ w.heap.size) :
    Calls Tryz.prog 23 #[.slice A n c] w fun e w' => e = .returned (.bool (rightS p)) ∧ Below w.heap.size w w' := by
  have HI := Lib.hid (path_contains A n c p B w h hn hp hB)
  have hlen := hp.len
  unfold rightS
  rw [hlen]
  clear h hp
  by_cases h16 : n ≤ 16
  · have hz : (n : Int) ≤ 16 := by omega
    rw [decide_eq_true h16, Bool.true_and]
    clear h16 hlen
    generalize p.all stepRight = b at HI
    go_enter Tryz.func23, Tryz.ntmps23
    go_wp2_with fail
    refine HI.out.mono ?_
    rintro e w1 ⟨rfl, hb⟩
    clear HI
    go_wp2_with fail
    go_ret
    exact ⟨by simp, hb⟩
  · have hz : (16 : Int) < n := by omega
    rw [decide_eq_false h16, Bool.false_and]
    clear h16 hlen HI
    go_enter Tryz.func23, Tryz.ntmps23
    go_wp2_with fail
    go_ret
    exact ⟨rfl, Below.refl _ _⟩
end Go.Proofs.YtgfeeakcpojicaaGreatDoor
