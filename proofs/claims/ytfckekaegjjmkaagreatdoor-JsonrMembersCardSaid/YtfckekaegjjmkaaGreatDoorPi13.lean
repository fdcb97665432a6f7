/- The texts DrE, DrF, put together. -/
import Derived.Test.YtfckekaegjjmkaaGreatDoorPi11
import Derived.Test.YtfckekaegjjmkaaGreatDoorPi12
import Derived.Test.YtfckekaegjjmkaaGreatDoorPi03
import Derived.Lib.SmallJoins
import Derived.IntWalk
namespace Go.Proofs.YtfckekaegjjmkaaGreatDoor
open Go.RowKit Go.Shelf
attribute [local go_sem] Oper.semAt_some

/-- The first byte taken, if it is one of some. -/
def nextD (cs l : List UInt8) : Bool × List UInt8 := match l with
  | [] => (false, [])
  | x :: r => if x ∈ cs then (true, r) else (false, x :: r)
theorem bsD_of (s : ByteArray) : bsD s.data.toList = s := by
  apply ByteArray.ext
  unfold bsD
  simp
theorem bsD_size (l : List UInt8) : (bsD l).size = l.length := rfl
theorem bsD_list (l : List UInt8) : (bsD l).data.toList = l := rfl
theorem nextD_len (cs l : List UInt8) : (nextD cs l).2.length ≤ l.length := by
  cases l with
  | nil => exact Nat.le_refl _
  | cons x r =>
    unfold nextD
    by_cases h : x ∈ cs
    · simp [h]
    · simp [h]
theorem rd_next (p q : Nat) (s : ByteArray) (cs : List UInt8) (cap : Nat) (w : World) (hR : RdD w p s) (hQ : ∀ k (h : k < cs.length), w.cell? ⟨q, k, none⟩ = some (.int .u8 (cs[k].toNat : Int))) (hz : s.size ≤ 1000000000) (hc : cs.length ≤ 10) :
    Calls Tryz.prog 119 #[.pointer (some ⟨p, 0, none⟩), .slice (some ⟨q, 0, none⟩) cs.length cap] w fun e w' => e = .returned (.bool (nextD cs s.data.toList).1) ∧ w.grownBy w' (some p) ∧ RdD w' p (bsD (nextD cs s.data.toList).2) := by
  have hrefl : w.grownBy w (some p) := ⟨rfl, rfl, rfl, Nat.le_refl _, fun _ _ _ => rfl⟩
  cases hl : s.data.toList with
  | nil =>
    refine (rd_next_no p q s cs cap w hR hQ hz hc (fun x r h => by rw [hl] at h; cases h)).mono ?_
    rintro e w' ⟨rfl, rfl⟩
    refine ⟨rfl, hrefl, ?_⟩
    have : bsD (nextD cs []).2 = s := by rw [← bsD_of s, hl]; rfl
    rw [this]
    exact hR
  | cons x r =>
    by_cases hx : x ∈ cs
    · refine (rd_next_yes p q s cs cap w hR hQ hz hc x r hl hx).mono ?_
      rintro e w' ⟨rfl, rfl⟩
      rw [show nextD cs (x :: r) = (true, r) from if_pos hx]
      exact ⟨rfl, grown_set w p 0 _, hR.set 0 _⟩
    · refine (rd_next_no p q s cs cap w hR hQ hz hc (fun y t h => by rw [hl] at h; cases h; exact hx)).mono ?_
      rintro e w' ⟨rfl, rfl⟩
      rw [show nextD cs (x :: r) = (false, x :: r) from if_neg hx]
      refine ⟨rfl, hrefl, ?_⟩
      have : bsD (x :: r) = s := by rw [← bsD_of s, hl]
      rw [this]
      exact hR
/-- isNext of one byte, that lies in a new block. -/
theorem rd_next1 (p : Nat) (s : ByteArray) (c : UInt8) (ci : Int) (hci : (c.toNat : Int) = ci) (w : World) (hR : RdD w p s) (hz : s.size ≤ 1000000000) :
    Calls Tryz.prog 119 #[.pointer (some ⟨p, 0, none⟩), .slice (some ⟨w.heap.size, 0, none⟩) 1 1] (w.alloc (.cells #[.int .u8 ci] 5)) fun e w' => e = .returned (.bool (nextD [c] s.data.toList).1) ∧ w.grownBy w' (some p) ∧ RdD w' p (bsD (nextD [c] s.data.toList).2) := by
  have hB := Blk.new w #[.int .u8 ci] 5
  refine (rd_next p w.heap.size s [c] 1 _ (hR.alloc _) (fun k hk => ?_) hz (by simp)).mono ?_
  · obtain rfl : k = 0 := by simpa using hk
    rw [hB.cell 0]
    simp [hci]
  · rintro e w' ⟨h1, h2, h3⟩
    exact ⟨h1, grown_trans (below_grown ((Below.refl _ w).alloc (Nat.le_refl _) _) _) h2, h3⟩
theorem rd_next2 (p : Nat) (s : ByteArray) (c d : UInt8) (ci di : Int) (hci : (c.toNat : Int) = ci) (hdi : (d.toNat : Int) = di) (w : World) (hR : RdD w p s) (hz : s.size ≤ 1000000000) :
    Calls Tryz.prog 119 #[.pointer (some ⟨p, 0, none⟩), .slice (some ⟨w.heap.size, 0, none⟩) 2 2] (w.alloc (.cells #[.int .u8 ci, .int .u8 di] 5)) fun e w' => e = .returned (.bool (nextD [c, d] s.data.toList).1) ∧ w.grownBy w' (some p) ∧ RdD w' p (bsD (nextD [c, d] s.data.toList).2) := by
  have hB := Blk.new w #[.int .u8 ci, .int .u8 di] 5
  refine (rd_next p w.heap.size s [c, d] 2 _ (hR.alloc _) (fun k hk => ?_) hz (by simp)).mono ?_
  · rcases (by simp at hk; omega : k = 0 ∨ k = 1) with rfl | rfl
    · rw [hB.cell 0]
      simp [hci]
    · rw [hB.cell 1]
      simp [hdi]
  · rintro e w' ⟨h1, h2, h3⟩
    exact ⟨h1, grown_trans (below_grown ((Below.refl _ w).alloc (Nat.le_refl _) _) _) h2, h3⟩

theorem whole_next (l : List UInt8) : wholeP l = if (nextD [48] l).1 = true then ([48], (nextD [48] l).2) else digits (nextD [48] l).2 := by
  unfold wholeP
  split
  · simp [nextD]
  · rename_i h
    cases l with
    | nil => rfl
    | cons x r =>
      have : ¬ x = 48 := fun e => h r (by rw [e])
      simp [nextD, this]
theorem part_next (l : List UInt8) : partP l = if (nextD [46] l).1 = true then (if (digits (nextD [46] l).2).1 = [] then ([], l) else digits (nextD [46] l).2) else ([], l) := by
  unfold partP
  split
  · simp [nextD]
  · rename_i h
    cases l with
    | nil => rfl
    | cons x r =>
      have : ¬ x = 46 := fun e => h r (by rw [e])
      simp [nextD, this]

set_option maxHeartbeats 2000000 in
set_option maxRecDepth 100000 in
theorem dec_whole (p : Nat) (s : ByteArray) (w : World) (hR : RdD w p s) (hz : s.size ≤ 1000000000) :
    Calls Tryz.prog 120 #[.pointer (some ⟨p, 0, none⟩)] w fun e w' => e = .returned (.string (bsD (wholeP s.data.toList).1)) ∧ w.grownBy w' (some p) ∧ RdD w' p (bsD (wholeP s.data.toList).2) := by
  rw [whole_next]
  have HN := Lib.hid (rd_next1 p s 48 48 rfl w hR hz)
  have hlen := nextD_len [48] s.data.toList
  have hsl : s.data.toList.length = s.size := by simp
  obtain ⟨⟨b, r⟩, hx⟩ : ∃ x, nextD [48] s.data.toList = x := ⟨_, rfl⟩
  rw [hx] at HN hlen ⊢
  simp only [] at HN hlen ⊢
  have HD := Lib.hid (fun W h => dec_digits p (bsD r) W h (by rw [bsD_size]; omega))
  rw [bsD_list] at HD
  clear hx hlen hsl
  cases b with
  | true =>
    simp only [if_true]
    go_enter Tryz.func120, Tryz.ntmps120
    go_wp2_with fail
    refine HN.out.mono ?_
    rintro e w1 ⟨rfl, hg, hr⟩
    go_wp2_with fail
    go_ret
    exact ⟨rfl, hg, hr⟩
  | false =>
    simp only [Bool.false_eq_true, if_false]
    obtain ⟨⟨a, t⟩, hd⟩ : ∃ x, digits r = x := ⟨_, rfl⟩
    rw [hd] at HD ⊢
    simp only [] at HD ⊢
    obtain ⟨av, has⟩ : ∃ x, bsD a = x := ⟨_, rfl⟩
    rw [has] at HD ⊢
    clear hd has
    go_enter Tryz.func120, Tryz.ntmps120
    go_wp2_with fail
    refine HN.out.mono ?_
    rintro e w1 ⟨rfl, hg, hr⟩
    go_wp2_with fail
    refine (HD.out _ hr).mono ?_
    rintro e w2 ⟨rfl, hg2, hr2⟩
    go_wp2_with fail
    go_ret
    exact ⟨rfl, grown_trans hg hg2, hr2⟩

theorem str_isE {l : List UInt8} (h : ¬ l = []) : (bsD l).toList.isEmpty = false := by
  rw [ByteArray.toList_eq, bsD_list]
  cases l with
  | nil => exact absurd rfl h
  | cons a l => rfl
set_option maxHeartbeats 2000000 in
set_option maxRecDepth 100000 in
theorem dec_part (p : Nat) (s : ByteArray) (w : World) (hR : RdD w p s) (hz : s.size ≤ 1000000000) :
    Calls Tryz.prog 121 #[.pointer (some ⟨p, 0, none⟩)] w fun e w' => e = .returned (.string (bsD (partP s.data.toList).1)) ∧ w.grownBy w' (some p) ∧ RdD w' p (bsD (partP s.data.toList).2) := by
  rw [part_next]
  have HN := Lib.hid (rd_next1 p s 46 46 rfl w hR hz)
  have hlen := nextD_len [46] s.data.toList
  have hsl : s.data.toList.length = s.size := by simp
  obtain ⟨⟨b, r⟩, hx⟩ : ∃ x, nextD [46] s.data.toList = x := ⟨_, rfl⟩
  rw [hx] at HN hlen ⊢
  simp only [] at HN hlen ⊢
  have HD := Lib.hid (fun W h => dec_digits p (bsD r) W h (by rw [bsD_size]; omega))
  rw [bsD_list] at HD
  have hbs := bsD_of s
  have q0 := hR.cell 0
  clear hx hlen hsl
  cases b with
  | true =>
    simp only [if_true]
    obtain ⟨⟨a, t⟩, hd⟩ : ∃ x, digits r = x := ⟨_, rfl⟩
    rw [hd] at HD ⊢
    simp only [] at HD ⊢
    by_cases ha : a = []
    · rw [if_pos ha]
      simp only [hbs]
      subst ha
      have HD : Hid (∀ (W : World), RdD W p (bsD r) → Calls Tryz.prog 152 #[.pointer (some ⟨p, 0, none⟩)] W fun e w' => e = .returned (.string ⟨#[]⟩) ∧ W.grownBy w' (some p) ∧ RdD w' p (bsD t)) := HD
      clear hd hbs
      go_enter Tryz.func121, Tryz.ntmps121
      go_wp2_with fail
      refine HN.out.mono ?_
      rintro e w1 ⟨rfl, hg, hr⟩
      clear q0
      go_wp2_with fail
      refine (HD.out _ hr).mono ?_
      rintro e w2 ⟨rfl, hg2, hr2⟩
      have f0 := hr2.frozen 0
      have q0 := hr2.cell 0
      have hr3 := hr2.set 0 (.string s)
      have hg3 := grown_trans (grown_trans hg hg2) (grown_set w2 p 0 (.string s))
      go_wp2_with fail
      go_ret
      exact ⟨rfl, hg3, hr3⟩
    · rw [if_neg ha]
      have z := str_isE ha
      obtain ⟨av, has⟩ : ∃ x, bsD a = x := ⟨_, rfl⟩
      simp only [has] at HD z ⊢
      clear hd has ha hbs
      go_enter Tryz.func121, Tryz.ntmps121
      go_wp2_with fail
      refine HN.out.mono ?_
      rintro e w1 ⟨rfl, hg, hr⟩
      clear q0
      go_wp2_with fail
      refine (HD.out _ hr).mono ?_
      rintro e w2 ⟨rfl, hg2, hr2⟩
      go_wp2_with fail
      go_ret
      exact ⟨rfl, grown_trans hg hg2, hr2⟩
  | false =>
    simp only [Bool.false_eq_true, if_false]
    simp only [hbs]
    clear HD hbs
    go_enter Tryz.func121, Tryz.ntmps121
    go_wp2_with fail
    refine HN.out.mono ?_
    rintro e w1 ⟨rfl, hg, hr⟩
    have f0 := hr.frozen 0
    have q1 := hr.cell 0
    have hr3 := hr.set 0 (.string s)
    have hg3 := grown_trans hg (grown_set w1 p 0 (.string s))
    clear q0
    go_wp2_with fail
    go_ret
    exact ⟨rfl, hg3, hr3⟩
end Go.Proofs.YtfckekaegjjmkaaGreatDoor
namespace Go.Proofs.YtfckekaegjjmkaaGreatDoor
open Go.RowKit Go.Shelf
attribute [local go_sem] Oper.semAt_some

/-- strconv's two errors are there. -/
structure AtW (w : World) : Prop where
  syn : ∃ tp p, w.cell? ⟨7, 0, none⟩ = some (.iface tp p)
  rng : ∃ tp p, w.var? Tryz.prog "strconv.ErrRange" = some #[.iface tp p]
theorem AtW.below {w w' : World} {n : Nat} (h : AtW w) (hb : Below n w w') (hn : w.heap.size ≤ n) : AtW w' where
  syn := let ⟨tp, p, e⟩ := h.syn; ⟨tp, p, cell_below (hb.mono hn) e⟩
  rng := let ⟨tp, p, e⟩ := h.rng; ⟨tp, p, var_below e (hb.mono hn)⟩
theorem digits_all_dig (l : List UInt8) : ∀ c ∈ (digits l).1, isDig c = true := fun c hc => by
  unfold digits at hc
  exact takeWhile_all l c hc
/-- Atoi of digits. -/
theorem atoi_dig (a : List UInt8) (hd : ∀ c ∈ a, isDig c = true) (hz : a.length ≤ 1000000000) (w : World) (hA : AtW w) :
    Calls Tryz.prog 153 #[.string (bsD a)] w fun e w' => Below w.heap.size w w' ∧ ((a ≠ [] ∧ dval 0 a < 9223372036854775808 ∧ e = .returned (.tuple #[.int .i64 (dval 0 a : Nat), .nilIface])) ∨ ((a = [] ∨ 4 < a.length) ∧ ∃ (v : Int) (N : Addr), e = .returned (.tuple #[.int .i64 v, .iface 267 (.pointer (some N))]))) := by
  by_cases h0 : a = []
  · subst h0
    obtain ⟨tp, p, hs⟩ := hA.syn
    refine (Tryz.strconv_Atoi_err (bsD []) (by decide) (by decide) _ w hs (.inr ⟨_, _, rfl⟩)).mono ?_
    rintro e w' ⟨N, he, _, _, hb⟩
    exact ⟨hb, .inr ⟨.inl rfl, _, _, he⟩⟩
  · have ha := atoi_digits h0 hd
    by_cases hv : dval 0 a < 9223372036854775808
    · rw [if_pos hv] at ha
      refine (Tryz.strconv_Atoi_ok (bsD a) (by rw [bsD_size]; omega) _ ha w).mono ?_
      rintro e w' ⟨he, rfl | ⟨t, rfl⟩⟩
      · exact ⟨Below.refl _ _, .inl ⟨h0, hv, he⟩⟩
      · exact ⟨Joins.below_bytesWorld _ _ _ _ (Nat.le_refl _), .inl ⟨h0, hv, he⟩⟩
    · rw [if_neg hv] at ha
      obtain ⟨tp, p, hr⟩ := hA.rng
      refine (Tryz.strconv_Atoi_range_var (bsD a) (by rw [bsD_size]; omega) ha tp p w hr).mono ?_
      rintro e w' ⟨N, he, _, _, hb⟩
      refine ⟨hb, .inr ⟨.inr ?_, _, _, he⟩⟩
      have := dval_up hd
      refine Classical.byContradiction fun hl => ?_
      have h4 : a.length ≤ 4 := by omega
      have := Nat.pow_le_pow_right (n := 10) (by decide) h4
      omega
theorem sign_next (l : List UInt8) : signP l = if (nextD [45] l).1 = true then (-1, (nextD [45] l).2) else (1, (nextD [43] (nextD [45] l).2).2) := by
  unfold signP
  split
  · simp [nextD]
  · simp [nextD]
  · rename_i h1 h2
    cases l with
    | nil => rfl
    | cons x r =>
      have h3 : ¬ x = 45 := fun e => h1 r (by rw [e])
      have h4 : ¬ x = 43 := fun e => h2 r (by rw [e])
      simp [nextD, h3, h4]
theorem power_next (l : List UInt8) : powerP l = if (nextD [101, 69] l).1 = true then (if (digits (signP (nextD [101, 69] l).2).2).1 = [] then some (0, l) else if (digits (signP (nextD [101, 69] l).2).2).1.length ≤ 4 then some ((signP (nextD [101, 69] l).2).1 * (dval 0 (digits (signP (nextD [101, 69] l).2).2).1 : Nat), (digits (signP (nextD [101, 69] l).2).2).2) else none) else some (0, l) := by
  cases l with
  | nil => rfl
  | cons x r =>
    unfold powerP
    simp only [nextD, List.mem_cons, List.not_mem_nil, or_false]
    by_cases h : x = 101 ∨ x = 69
    · simp [h]
    · simp [h]
/-- What power tells. -/
def PowPost (p : Nat) (w : World) (res : Option (Int × List UInt8)) (x : Ending) (w' : World) : Prop := (w.grownBy w' (some p) ∧ ∃ s', RdD w' p s' ∧ match res with
  | some (_, r) => s' = bsD r
  | none => True) ∧ match res with
  | some (e, _) => x = .returned (.tuple #[.int .i64 e, .bool true])
  | none => ∃ n : Int, x = .returned (.tuple #[.int .i64 n, .bool false])

set_option maxHeartbeats 4000000 in
set_option maxRecDepth 100000 in
theorem dec_power (p : Nat) (s : ByteArray) (w : World) (hR : RdD w p s) (hz : s.size ≤ 1000000000) (n0 : Nat) (w0 : World) (hA : AtW w0) (hn0 : w0.heap.size = n0) (hp0 : n0 ≤ p) (hb0 : Below n0 w0 w) :
    Calls Tryz.prog 122 #[.pointer (some ⟨p, 0, none⟩)] w (PowPost p w (powerP s.data.toList)) := by
  rw [power_next]
  have hplt := hR.lt
  have HAW := Lib.hid (fun (W : World) (hg : w.grownBy W (some p)) => hA.below (hb0.trans (grown_below hg hp0 hplt)) (by omega))
  have HN := Lib.hid (rd_next2 p s 101 69 101 69 rfl rfl w hR hz)
  have hlen := nextD_len [101, 69] s.data.toList
  have hsl : s.data.toList.length = s.size := by simp
  obtain ⟨⟨b, r⟩, hx⟩ : ∃ x, nextD [101, 69] s.data.toList = x := ⟨_, rfl⟩
  rw [hx] at HN hlen ⊢
  simp only [] at HN hlen ⊢
  have hbs := bsD_of s
  have q0 := hR.cell 0
  clear hx hA hb0
  cases b with
  | false =>
    simp only [Bool.false_eq_true, if_false]
    clear HAW
    go_enter Tryz.func122, Tryz.ntmps122
    go_wp2_with fail
    refine HN.out.mono ?_
    rintro e w1 ⟨rfl, hg, hr⟩
    have f0 := hr.frozen 0
    have q1 := hr.cell 0
    have hr3 := hr.set 0 (.string s)
    have hg3 := grown_trans hg (grown_set w1 p 0 (.string s))
    clear q0
    go_wp2_with fail
    go_ret2
    exact ⟨⟨hg3, s, hr3, hbs.symm⟩, rfl⟩
  | true =>
    simp only [if_true]
    have HM := Lib.hid (fun W h => rd_next1 p (bsD r) 45 45 rfl W h (by rw [bsD_size]; omega))
    rw [bsD_list] at HM
    have hlen1 := nextD_len [45] r
    rw [sign_next r]
    obtain ⟨⟨b1, r1⟩, hx1⟩ : ∃ x, nextD [45] r = x := ⟨_, rfl⟩
    rw [hx1] at HM hlen1 ⊢
    simp only [] at HM hlen1 ⊢
    clear hx1
    cases b1 with
    | true =>
      simp only [if_true]
      have HD := Lib.hid (fun W h => dec_digits p (bsD r1) W h (by rw [bsD_size]; omega))
      rw [bsD_list] at HD
      have hda := digits_all_dig r1
      have hdl : (digits r1).1.length ≤ r1.length := by unfold digits; rw [List.length_take]; omega
      obtain ⟨⟨a, t⟩, hd⟩ : ∃ x, digits r1 = x := ⟨_, rfl⟩
      rw [hd] at HD hda hdl ⊢
      simp only [] at HD hda hdl ⊢
      have HT := Lib.hid (fun W h => atoi_dig a hda (by omega) W h)
      have hup := dval_up hda
      clear hd hda
      by_cases ha : a = []
      · subst ha
        simp only [if_true]
        have HD : Hid (∀ (W : World), RdD W p (bsD r1) → Calls Tryz.prog 152 #[.pointer (some ⟨p, 0, none⟩)] W fun e w' => e = .returned (.string ⟨#[]⟩) ∧ W.grownBy w' (some p) ∧ RdD w' p (bsD t)) := HD
        have HE : Hid (∀ (W : World), AtW W → Calls Tryz.prog 153 #[.string ⟨#[]⟩] W fun e w' => Below W.heap.size W w' ∧ (∃ (v : Int) (N : Addr), e = .returned (.tuple #[.int .i64 v, .iface 267 (.pointer (some N))]))) := Lib.hid (fun W h => by
          refine (HT.out W h).mono ?_
          rintro e w' ⟨hb, ⟨h1, _⟩ | ⟨_, h2⟩⟩
          · exact absurd rfl h1
          · exact ⟨hb, h2⟩)
        clear HT
        go_enter Tryz.func122, Tryz.ntmps122
        go_wp2_with fail
        refine HN.out.mono ?_
        rintro e w1 ⟨rfl, hg1, hr1⟩
        clear q0
        go_wp2_with fail
        refine (HM.out _ hr1).mono ?_
        rintro e w2 ⟨rfl, hg2, hr2⟩
        have hgA := grown_trans hg1 hg2
        go_wp2_with fail
        have hgB := hgA
        refine (HD.out _ hr2).mono ?_
        rintro e w4 ⟨rfl, hg4, hr4⟩
        have hgC := grown_trans hgB hg4
        go_wp2_with fail
        refine (HE.out _ (HAW.out _ hgC)).mono ?_
        rintro e w5 ⟨hb5, v, N, rfl⟩
        have hgD := grown_trans hgC (below_grown hb5 _)
        have hr5 := hr4.below hb5 hr4.lt
        have f0 := hr5.frozen 0
        have q1 := hr5.cell 0
        have hr6 := hr5.set 0 (.string s)
        have hgE := grown_trans hgD (grown_set w5 p 0 (.string s))
        go_wp2_with fail
        go_ret2
        exact ⟨⟨hgE, s, hr6, hbs.symm⟩, rfl⟩
      · rw [if_neg ha]
        have z := str_isE ha
        have hsz : (bsD a).size = a.length := rfl
        have HBT := Lib.hid (bsD_of s)
        obtain ⟨av, hav⟩ : ∃ x, bsD a = x := ⟨_, rfl⟩
        rw [hav] at HD HT z hsz
        by_cases h4 : a.length ≤ 4
        · rw [if_pos h4]
          have hv4 : dval 0 a < 10000 := Nat.lt_of_lt_of_le hup (Nat.pow_le_pow_right (n := 10) (by decide) h4)
          have HT : Hid (∀ (W : World), AtW W → Calls Tryz.prog 153 #[.string av] W fun e w' => Below W.heap.size W w' ∧ e = .returned (.tuple #[.int .i64 (dval 0 a : Nat), .nilIface])) := Lib.hid (fun W h => by
            refine (HT.out W h).mono ?_
            rintro e w' ⟨hb, ⟨_, _, h2⟩ | ⟨h1, _⟩⟩
            · exact ⟨hb, h2⟩
            · rcases h1 with h1 | h1
              · exact absurd h1 ha
              · omega)
          generalize dval 0 a = v at HT hv4 ⊢
          have z4 : (av.size : Int) ≤ 4 := by omega
          clear hav ha hup h4 hsz hdl
          go_enter Tryz.func122, Tryz.ntmps122
          go_wp2_with fail
          refine HN.out.mono ?_
          rintro e w1 ⟨rfl, hg1, hr1⟩
          clear q0
          go_wp2_with fail
          refine (HM.out _ hr1).mono ?_
          rintro e w2 ⟨rfl, hg2, hr2⟩
          have hgA := grown_trans hg1 hg2
          go_wp2_with fail
          have hgB := hgA
          refine (HD.out _ hr2).mono ?_
          rintro e w4 ⟨rfl, hg4, hr4⟩
          have hgC := grown_trans hgB hg4
          go_wp2_with fail
          refine (HT.out _ (HAW.out _ hgC)).mono ?_
          rintro e w5 ⟨hb5, rfl⟩
          have hgD := grown_trans hgC (below_grown hb5 _)
          have hr5 := hr4.below hb5 hr4.lt
          have y1 : IntKind.i64.wrap (-(v : Int)) = -(v : Int) := by rw [IntKind.wrap_i64]; omega
          go_wp2_with fail
          go_ret2
          refine ⟨⟨hgD, _, hr5, rfl⟩, ?_⟩
          simp
        · rw [if_neg h4]
          have z4 : ¬ (av.size : Int) ≤ 4 := by omega
          have HT : Hid (∀ (W : World), AtW W → Calls Tryz.prog 153 #[.string av] W fun e w' => Below W.heap.size W w' ∧ ∃ (v : Int) (ev : Value), (ev = .nilIface ∨ ∃ N : Addr, ev = .iface 267 (.pointer (some N))) ∧ e = .returned (.tuple #[.int .i64 v, ev])) := Lib.hid (fun W h => by
            refine (HT.out W h).mono ?_
            rintro e w' ⟨hb, ⟨_, _, h2⟩ | ⟨h1, v, N, h2⟩⟩
            · exact ⟨hb, _, _, .inl rfl, h2⟩
            · exact ⟨hb, _, _, .inr ⟨N, rfl⟩, h2⟩)
          clear hav ha hup h4 hsz hdl
          go_enter Tryz.func122, Tryz.ntmps122
          go_wp2_with fail
          refine HN.out.mono ?_
          rintro e w1 ⟨rfl, hg1, hr1⟩
          clear q0
          go_wp2_with fail
          refine (HM.out _ hr1).mono ?_
          rintro e w2 ⟨rfl, hg2, hr2⟩
          have hgA := grown_trans hg1 hg2
          go_wp2_with fail
          have hgB := hgA
          refine (HD.out _ hr2).mono ?_
          rintro e w4 ⟨rfl, hg4, hr4⟩
          have hgC := grown_trans hgB hg4
          go_wp2_with fail
          refine (HT.out _ (HAW.out _ hgC)).mono ?_
          rintro e w5 ⟨hb5, v, ev, hev, rfl⟩
          have hgD := grown_trans hgC (below_grown hb5 _)
          have hr5 := hr4.below hb5 hr4.lt
          rcases hev with rfl | ⟨N, rfl⟩
          · go_wp2_with fail
            go_ret2
            refine ⟨⟨hgD, _, hr5, trivial⟩, IntKind.i64.wrap (-1 * v), ?_⟩
            simp
            exact ⟨(by rw [IntKind.wrap_i64]; unfold wrap64; rfl), by omega⟩
          · go_wp2_with fail
            go_ret2
            exact ⟨⟨hgD, _, hr5, trivial⟩, _, rfl⟩
    | false =>
      simp only [Bool.false_eq_true, if_false]
      have HP := Lib.hid (fun W h => rd_next1 p (bsD r1) 43 43 rfl W h (by rw [bsD_size]; omega))
      rw [bsD_list] at HP
      have hlen2 := nextD_len [43] r1
      obtain ⟨⟨b2, r2⟩, hx2⟩ : ∃ x, nextD [43] r1 = x := ⟨_, rfl⟩
      rw [hx2] at HP hlen2 ⊢
      simp only [] at HP hlen2 ⊢
      clear hx2
      have HD := Lib.hid (fun W h => dec_digits p (bsD r2) W h (by rw [bsD_size]; omega))
      rw [bsD_list] at HD
      have hda := digits_all_dig r2
      have hdl : (digits r2).1.length ≤ r2.length := by unfold digits; rw [List.length_take]; omega
      obtain ⟨⟨a, t⟩, hd⟩ : ∃ x, digits r2 = x := ⟨_, rfl⟩
      rw [hd] at HD hda hdl ⊢
      simp only [] at HD hda hdl ⊢
      have HT := Lib.hid (fun W h => atoi_dig a hda (by omega) W h)
      have hup := dval_up hda
      clear hd hda
      by_cases ha : a = []
      · subst ha
        simp only [if_true]
        have HD : Hid (∀ (W : World), RdD W p (bsD r2) → Calls Tryz.prog 152 #[.pointer (some ⟨p, 0, none⟩)] W fun e w' => e = .returned (.string ⟨#[]⟩) ∧ W.grownBy w' (some p) ∧ RdD w' p (bsD t)) := HD
        have HE : Hid (∀ (W : World), AtW W → Calls Tryz.prog 153 #[.string ⟨#[]⟩] W fun e w' => Below W.heap.size W w' ∧ (∃ (v : Int) (N : Addr), e = .returned (.tuple #[.int .i64 v, .iface 267 (.pointer (some N))]))) := Lib.hid (fun W h => by
          refine (HT.out W h).mono ?_
          rintro e w' ⟨hb, ⟨h1, _⟩ | ⟨_, h2⟩⟩
          · exact absurd rfl h1
          · exact ⟨hb, h2⟩)
        clear HT
        go_enter Tryz.func122, Tryz.ntmps122
        go_wp2_with fail
        refine HN.out.mono ?_
        rintro e w1 ⟨rfl, hg1, hr1⟩
        clear q0
        go_wp2_with fail
        refine (HM.out _ hr1).mono ?_
        rintro e w2 ⟨rfl, hg2, hr2⟩
        have hgA := grown_trans hg1 hg2
        go_wp2_with fail
        refine (HP.out _ hr2).mono ?_
        rintro e w3 ⟨rfl, hg3, hr3⟩
        have hgB := grown_trans hgA hg3
        go_wp2_with fail
        refine (HD.out _ hr3).mono ?_
        rintro e w4 ⟨rfl, hg4, hr4⟩
        have hgC := grown_trans hgB hg4
        go_wp2_with fail
        refine (HE.out _ (HAW.out _ hgC)).mono ?_
        rintro e w5 ⟨hb5, v, N, rfl⟩
        have hgD := grown_trans hgC (below_grown hb5 _)
        have hr5 := hr4.below hb5 hr4.lt
        have f0 := hr5.frozen 0
        have q1 := hr5.cell 0
        have hr6 := hr5.set 0 (.string s)
        have hgE := grown_trans hgD (grown_set w5 p 0 (.string s))
        go_wp2_with fail
        go_ret2
        exact ⟨⟨hgE, s, hr6, hbs.symm⟩, rfl⟩
      · rw [if_neg ha]
        have z := str_isE ha
        have hsz : (bsD a).size = a.length := rfl
        have HBT := Lib.hid (bsD_of s)
        obtain ⟨av, hav⟩ : ∃ x, bsD a = x := ⟨_, rfl⟩
        rw [hav] at HD HT z hsz
        by_cases h4 : a.length ≤ 4
        · rw [if_pos h4]
          have hv4 : dval 0 a < 10000 := Nat.lt_of_lt_of_le hup (Nat.pow_le_pow_right (n := 10) (by decide) h4)
          have HT : Hid (∀ (W : World), AtW W → Calls Tryz.prog 153 #[.string av] W fun e w' => Below W.heap.size W w' ∧ e = .returned (.tuple #[.int .i64 (dval 0 a : Nat), .nilIface])) := Lib.hid (fun W h => by
            refine (HT.out W h).mono ?_
            rintro e w' ⟨hb, ⟨_, _, h2⟩ | ⟨h1, _⟩⟩
            · exact ⟨hb, h2⟩
            · rcases h1 with h1 | h1
              · exact absurd h1 ha
              · omega)
          generalize dval 0 a = v at HT hv4 ⊢
          have z4 : (av.size : Int) ≤ 4 := by omega
          clear hav ha hup h4 hsz hdl
          go_enter Tryz.func122, Tryz.ntmps122
          go_wp2_with fail
          refine HN.out.mono ?_
          rintro e w1 ⟨rfl, hg1, hr1⟩
          clear q0
          go_wp2_with fail
          refine (HM.out _ hr1).mono ?_
          rintro e w2 ⟨rfl, hg2, hr2⟩
          have hgA := grown_trans hg1 hg2
          go_wp2_with fail
          refine (HP.out _ hr2).mono ?_
          rintro e w3 ⟨rfl, hg3, hr3⟩
          have hgB := grown_trans hgA hg3
          go_wp2_with fail
          refine (HD.out _ hr3).mono ?_
          rintro e w4 ⟨rfl, hg4, hr4⟩
          have hgC := grown_trans hgB hg4
          go_wp2_with fail
          refine (HT.out _ (HAW.out _ hgC)).mono ?_
          rintro e w5 ⟨hb5, rfl⟩
          have hgD := grown_trans hgC (below_grown hb5 _)
          have hr5 := hr4.below hb5 hr4.lt
          go_wp2_with fail
          go_ret2
          refine ⟨⟨hgD, _, hr5, rfl⟩, ?_⟩
          simp
        · rw [if_neg h4]
          have z4 : ¬ (av.size : Int) ≤ 4 := by omega
          have HT : Hid (∀ (W : World), AtW W → Calls Tryz.prog 153 #[.string av] W fun e w' => Below W.heap.size W w' ∧ ∃ (v : Int) (ev : Value), (ev = .nilIface ∨ ∃ N : Addr, ev = .iface 267 (.pointer (some N))) ∧ e = .returned (.tuple #[.int .i64 v, ev])) := Lib.hid (fun W h => by
            refine (HT.out W h).mono ?_
            rintro e w' ⟨hb, ⟨_, _, h2⟩ | ⟨h1, v, N, h2⟩⟩
            · exact ⟨hb, _, _, .inl rfl, h2⟩
            · exact ⟨hb, _, _, .inr ⟨N, rfl⟩, h2⟩)
          clear hav ha hup h4 hsz hdl
          go_enter Tryz.func122, Tryz.ntmps122
          go_wp2_with fail
          refine HN.out.mono ?_
          rintro e w1 ⟨rfl, hg1, hr1⟩
          clear q0
          go_wp2_with fail
          refine (HM.out _ hr1).mono ?_
          rintro e w2 ⟨rfl, hg2, hr2⟩
          have hgA := grown_trans hg1 hg2
          go_wp2_with fail
          refine (HP.out _ hr2).mono ?_
          rintro e w3 ⟨rfl, hg3, hr3⟩
          have hgB := grown_trans hgA hg3
          go_wp2_with fail
          refine (HD.out _ hr3).mono ?_
          rintro e w4 ⟨rfl, hg4, hr4⟩
          have hgC := grown_trans hgB hg4
          go_wp2_with fail
          refine (HT.out _ (HAW.out _ hgC)).mono ?_
          rintro e w5 ⟨hb5, v, ev, hev, rfl⟩
          have hgD := grown_trans hgC (below_grown hb5 _)
          have hr5 := hr4.below hb5 hr4.lt
          rcases hev with rfl | ⟨N, rfl⟩
          · go_wp2_with fail
            go_ret2
            refine ⟨⟨hgD, _, hr5, trivial⟩, IntKind.i64.wrap (1 * v), ?_⟩
            simp
            exact ⟨(by rw [IntKind.wrap_i64]; unfold wrap64; rfl), by omega⟩
          · go_wp2_with fail
            go_ret2
            exact ⟨⟨hgD, _, hr5, trivial⟩, _, rfl⟩
end Go.Proofs.YtfckekaegjjmkaaGreatDoor
