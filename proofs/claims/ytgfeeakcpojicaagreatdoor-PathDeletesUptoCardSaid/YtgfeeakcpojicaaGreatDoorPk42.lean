/- The texts PathQ, PutsB, put together. -/
import Derived.Test.YtgfeeakcpojicaaGreatDoorPk41
import Derived.Deep.QuietTactic
import Derived.BigQuiet
/- path: All; the law's own begins; the reference's Same of any two. -/
namespace Go.Proofs.YtgfeeakcpojicaaGreatDoor
open Go.RowKit Go.Shelf

set_option maxRecDepth 100000 in
theorem path_All {aT aQ : Addr} (t : Tr) (x : Value) (w : World) (B d : Nat) (h : UW w aT aQ) (hl : ListAt w B d t.kids x) (hB : B ≤ w.heap.size) (hc : t.count ≤ 1000) :
    Calls Tryz.prog 15 #[nodeV t.own x] w fun e w' => (∃ v vs, e = .returned v ∧ w'.ownsRow w.heap.size 22 1 v (allT 16 t []).length vs ∧ RowsS w' (fun q => q < w'.heap.size) (allT 16 t []) vs) ∧ Below w.heap.size w w' := by
  obtain ⟨o, ho⟩ : ∃ o, t.own = o := ⟨_, rfl⟩
  have hb : Below w.heap.size w (w.alloc (.cells (cellsV o x) 38)) := (Below.refl _ _).alloc (Nat.le_refl _) _
  have hk := Blk.new w (cellsV o x) 38
  have HA := Lib.hid (path_all 16 (fun _ => False) t x none 0 [] _ B d (h.below hb) (hl.below hb hB) ⟨fun h => absurd h (by simp), by simp⟩ rfl (Nat.le_refl _) (fun q hq => hq.elim) (Nat.le_trans hB hb.size) hc)
  rw [ho] at HA ⊢
  obtain ⟨kind, b, neg, dg, ex, un, wd, str⟩ := o
  unfold nodeV at HA ⊢
  unfold cellsV at HA hk hb
  simp only [] at HA hk hb ⊢
  have HK := Lib.hid hk
  clear h hl ho hk
  go_enter Tryz.func15, Tryz.ntmps15
  go_wp2_with (refine wpList_load_row rfl 38 (.tmp 1) rfl w.heap.size rfl 38 _ (0, 0) _ HK.out Tryz.underlying38 rfl (by kernel_rfl) ?_)
  refine HA.out.mono ?_
  rintro e w1 ⟨⟨v, vs, rfl, h1, h2⟩, hb1⟩
  have hb2 := hb.trans (hb1.mono hb.size)
  have h3 := ownsRow_base h1 hb.size
  have h4 := h2.mono (S' := fun q => q < w1.heap.size) (fun q hq => hq.2.1)
  clear h1 h2 hb1 hb HA HK
  go_wp2_with fail
  go_ret
  exact ⟨⟨v, vs, rfl, h3, h4⟩, hb2⟩

set_option maxHeartbeats 2000000 in
set_option maxRecDepth 100000 in
theorem ref_SameG (A A' : Option Addr) (n c c' : Nat) (p q : List Stp) (B : Nat) (w : World) (hn : n ≤ 9223372036854775807) (hp : StepsAt w B A n p) (hp' : StepsAt w B A' n q) (hB : B ≤ w.heap.size) :
    Calls Tryz.prog 13 #[.slice A n c, .slice A' n c'] w fun e w' => e = .returned (.bool (decide (p = q))) ∧ Below w.heap.size w w' := by
  have hlen := hp.len
  have hlen' := hp'.len
  have HP := Lib.hid hp
  have HP' := Lib.hid hp'
  obtain ⟨ans, hans⟩ : ∃ ans, decide (p = q) = ans := ⟨_, rfl⟩
  rw [hans]
  have hall : (∀ k, k < n → p[k]? = q[k]?) ↔ ans = true := by
    rw [← hans, decide_eq_true_iff]
    constructor
    · intro h
      apply List.ext_getElem?
      intro k
      by_cases hk : k < n
      · exact h k hk
      · rw [List.getElem?_eq_none (by omega), List.getElem?_eq_none (by omega)]
    · rintro rfl k _
      rfl
  have HALL := Lib.hid hall
  clear hp hp' hans hall
  go_enter Tryz.func13, Tryz.ntmps13
  go_wp2_with fail
  go_loopw [5] (fun i wr => ∃ k : Nat, k ≤ n ∧ i = .int .i64 k ∧ (∀ j, j < k → p[j]? = q[j]?) ∧ Below w.heap.size w wr) (fun i _ => n - (intOf i).toNat)
  case atStart => exact ⟨0, by omega, rfl, (fun j hj => absurd hj (by omega)), Below.refl _ _⟩
  case round =>
    obtain ⟨k, hk, rfl, heq, hbw⟩ := hrel
    by_cases hlt : k < n
    · have hkp : k < p.length := by omega
      have hkq : k < q.length := by omega
      obtain ⟨ad, rfl, hab, hc0, hc1, hks⟩ := (HP.out.below hbw hB).at_ hkp
      obtain ⟨ad', rfl, hab', hc0', hc1', _⟩ := (HP'.out.below hbw hB).at_ hkq
      obtain ⟨⟨i, key⟩, hs⟩ : ∃ s, p[k] = s := ⟨_, rfl⟩
      obtain ⟨⟨i', key'⟩, hs'⟩ : ∃ s, q[k] = s := ⟨_, rfl⟩
      rw [hs] at hc0 hc1
      rw [hs'] at hc0' hc1'
      simp only [] at hc0 hc1 hc0' hc1'
      have z1 : (k : Int) < n := by omega
      have z0 : (0 : Int) ≤ k := by omega
      have hpk : p[k]? = some (i, key) := by rw [List.getElem?_eq_getElem hkp, hs]
      have hqk : q[k]? = some (i', key') := by rw [List.getElem?_eq_getElem hkq, hs']
      have hb0 := toList_beq key key'
      by_cases he : i = i' ∧ key = key'
      · obtain ⟨rfl, rfl⟩ := he
        have hnew : ∀ j, j < k + 1 → p[j]? = q[j]? := fun j hj => by
          by_cases hjk : j = k
          · rw [hjk, hpk, hqk]
          · exact heq j (by omega)
        have HNEW := Lib.hid hnew
        clear hs hs' hlen hlen' hks heq hpk hqk hnew hb0
        go_wp2_with fail
        go_quiet (fail)
        go_wp2_with fail
        go_roundw
        case rel => exact ⟨k + 1, by omega, by go_num, HNEW.out, below_drewN hbw _⟩
        case measure => simp [intOf]; omega
      · have hf : ans = false := by
          rw [Bool.eq_false_iff]
          intro ha
          have := HALL.out.2 ha k hlt
          rw [hpk, hqk] at this
          injection this with this
          injection this with h1 h2
          exact he ⟨h1, h2⟩
        subst hf
        by_cases hi : i = i'
        · have hkk : key ≠ key' := fun e => he ⟨hi, e⟩
          rw [decide_eq_false hkk] at hb0
          subst hi
          clear hs hs' hlen hlen' hks heq hpk hqk hkk he
          go_wp2_with fail
          go_quiet (fail)
          go_wp2_with fail
          go_ret
          exact ⟨rfl, below_drewN hbw _⟩
        · have hi0 : (i == i') = false := by rw [beq_eq_false_iff_ne]; exact hi
          clear hs hs' hlen hlen' hks heq hpk hqk hb0 he
          go_wp2_with fail
          go_quiet (fail)
          go_wp2_with fail
          go_ret
          exact ⟨rfl, below_drewN hbw _⟩
    · obtain rfl : k = n := by omega
      have ht : ans = true := HALL.out.1 (fun j hj => heq j hj)
      subst ht
      have z1 : ¬ (k : Int) < k := by omega
      clear hlen hlen' heq
      go_wp2_with fail
      go_ret
      exact ⟨rfl, hbw⟩
end Go.Proofs.YtgfeeakcpojicaaGreatDoor
/- path laws: begins. -/
namespace Go.Proofs.YtgfeeakcpojicaaGreatDoor
open Go.RowKit Go.Shelf

theorem stepCells_take : ∀ (p : List Stp) (n : Nat), stepCells (p.take n) = (stepCells p).take (n * 2)
  | p, 0 => by simp [stepCells]
  | [], n + 1 => by simp [stepCells]
  | s :: p, n + 1 => by
    rw [List.take_succ_cons, stepCells_cons, stepCells_cons, stepCells_take p n, show (n + 1) * 2 = n * 2 + 1 + 1 by omega]
    simp
theorem StepsAt.take {W : World} {B n : Nat} {A : Option Addr} {p : List Stp} (h : StepsAt W B A n p) {m : Nat} (hm : m ≤ n) : StepsAt W B A m (p.take m) := by
  have hl := h.len
  refine ⟨by rw [List.length_take]; omega, ⟨by rw [stepCells_length, List.length_take]; congr 1; omega, fun h0 => ?_⟩, fun s hs => h.size s (List.mem_of_mem_take hs)⟩
  obtain ⟨ad, e, hlt, hc⟩ := h.lies.2 (by omega)
  refine ⟨ad, e, hlt, fun j u hu => hc j u ?_⟩
  rw [stepCells_take] at hu
  have hj : j < m * 2 := by
    have := (List.getElem?_eq_some_iff.1 hu).1
    rw [List.length_take] at this
    omega
  rwa [List.getElem?_take_of_lt hj] at hu
theorem StepsAt.cap {W : World} {B n : Nat} {A : Option Addr} {p : List Stp} (h : StepsAt W B A n p) {B' : Nat} (hB : B ≤ B') : StepsAt W B' A n p := h.more hB

def beginsB (p q : List Stp) : Bool := decide (p.length ≤ q.length) && decide (p = q.take p.length)
theorem beginsB_iff {p q : List Stp} : beginsB p q = true ↔ p <+: q := by
  unfold beginsB
  rw [Bool.and_eq_true, decide_eq_true_iff, decide_eq_true_iff, List.prefix_iff_eq_take]
  constructor
  · exact fun h => h.2
  · intro h
    refine ⟨?_, h⟩
    have := congrArg List.length h
    rw [List.length_take] at this
    omega

set_option maxHeartbeats 2000000 in
set_option maxRecDepth 100000 in
theorem law_begins (A A' : Option Addr) (n n' c c' : Nat) (p q : List Stp) (B : Nat) (w : World) (hn : n ≤ 9223372036854775807) (hp : StepsAt w B A n p) (hp' : StepsAt w B A' n' q) (hc : n' ≤ c') (hB : B ≤ w.heap.size) :
    Calls Tryz.prog 19 #[.slice A n c, .slice A' n' c'] w fun e w' => e = .returned (.bool (beginsB p q)) ∧ Below w.heap.size w w' := by
  have hl := hp.len
  have hl' := hp'.len
  unfold beginsB
  rw [hl, hl']
  by_cases h : n ≤ n'
  · have HS := Lib.hid (ref_SameG A A' n c c' p (q.take n) B w hn hp (hp'.take h) hB)
    rw [decide_eq_true h, Bool.true_and]
    generalize decide (p = q.take n) = b at HS
    have z1 : (n : Int) ≤ n' := by omega
    have z2 : (n : Int) ≤ c' := by omega
    clear hp hp' hl hl'
    go_enter Tryz.func19, Tryz.ntmps19
    go_wp2_with fail
    refine HS.out.mono ?_
    rintro e w1 ⟨rfl, hb⟩
    clear HS
    go_wp2_with fail
    go_ret
    exact ⟨rfl, hb⟩
  · rw [decide_eq_false h, Bool.false_and]
    have z1 : ¬ (n : Int) ≤ n' := by omega
    clear hp hp' hl hl'
    go_enter Tryz.func19, Tryz.ntmps19
    go_wp2_with fail
    go_ret
    exact ⟨rfl, Below.refl _ _⟩
end Go.Proofs.YtgfeeakcpojicaaGreatDoor
