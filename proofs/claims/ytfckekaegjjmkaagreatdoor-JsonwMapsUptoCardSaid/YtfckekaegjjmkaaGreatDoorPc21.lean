/- The texts GateL, put together. -/
import Derived.Test.YtfckekaegjjmkaaGreatDoorPc19
import Derived.Test.YtfckekaegjjmkaaGreatDoorPc20
namespace Go.Proofs.YtfckekaegjjmkaaGreatDoor
open Go.RowKit Go.Shelf

/-- An index, from 0 on just if there is such a one. -/
def AnyIx (a : Bool) (w : World) (e : Ending) (w' : World) : Prop := ∃ r : Int, e = .returned (.int .i64 r) ∧ (0 ≤ r ↔ a = true) ∧ Below w.heap.size w w'

set_option maxHeartbeats 4000000 in
set_option maxRecDepth 100000 in
theorem index_twice (p : Tr → Bool) (bx : Nat) (l : List Tr) (A : Option Addr) (n c : Nat) (w : World) (B d : Nat) (hl : ListAt w B d l (.slice A n c)) (hB : B ≤ w.heap.size) (hn : l.length = n)
    (hp : ∀ (k : Nat) (h : k < l.length) (x : Value) (W : World), Below w.heap.size w W → ListAt W B d l[k].kids x → OwnOk l[k].own → Calls Tryz.prog 165 #[nodeV l[k].own x, .pointer (some ⟨bx, 0, none⟩)] W fun e W' => e = .returned (.bool (p l[k])) ∧ Below W.heap.size W W') :
    Calls Tryz.prog 142 #[.slice A n c, .func (.func 165) #[] #[.pointer (some ⟨bx, 0, none⟩)]] w (AnyIx (l.any p) w) := by
  obtain ⟨ans, hans⟩ : ∃ ans, l.any p = ans := ⟨_, rfl⟩
  rw [hans]
  have HL := Lib.hid hl
  have HP := Lib.hid hp
  have HN := Lib.hid hn
  have H0 := Lib.hid (show (l.drop 0).any p = ans by rw [List.drop_zero]; exact hans)
  have hlen := hl.slice.1
  rw [hn] at hlen
  clear hl hp hn hans
  go_enter Tryz.func142, Tryz.ntmps142
  go_wp2_with fail
  go_loopw [8] (fun i wr => ∃ k : Nat, k ≤ n ∧ i = .int .i64 k ∧ Below w.heap.size w wr ∧ Hid ((l.drop k).any p = ans)) (fun i _ => n - (intOf i).toNat)
  case atStart => exact ⟨0, by omega, rfl, Below.refl _ _, H0⟩
  case round =>
    obtain ⟨k, hk, rfl, hbw, hs⟩ := hrel
    by_cases hlt : k < n
    · have hkl : k < l.length := by rw [HN.out]; exact hlt
      have hsd := hs.out
      rw [List.drop_eq_getElem_cons hkl, List.any_cons] at hsd
      obtain ⟨d1, ad, x1, hd1, rfl, hab, hok, hna, hkk⟩ := (HL.out.below hbw hB).at_ hkl
      obtain ⟨_, A2, c2, rfl⟩ := hkk.slice
      obtain ⟨n2, hn2⟩ : ∃ n2, l[k].kids.length = n2 := ⟨_, rfl⟩
      rw [hn2] at hna hkk
      have HC := HP.out k hkl (.slice A2 n2 c2) wr hbw (hkk.deeper (by omega)) hok
      obtain ⟨b1, hb1⟩ : ∃ b1, p l[k] = b1 := ⟨_, rfl⟩
      rw [hb1] at HC hsd
      have y1 : (k : Int) < n := by omega
      obtain ⟨⟨kind, b, neg, dg, ex, u, wd, s⟩, ho⟩ : ∃ o, l[k].own = o := ⟨_, rfl⟩
      rw [ho] at HC hna
      unfold nodeV at HC
      obtain ⟨k0, k1, k2, k3, k4, k5, k6, k7, k8⟩ := hna
      simp only [] at k0 k1 k2 k3 k4 k5 k6 k7 k8 HC
      have HC := Lib.hid HC
      have HSD := Lib.hid hsd
      clear hsd hb1 ho hkk hok hd1 hn2
      go_wp2_with fail
      refine HC.out.mono ?_
      rintro e w2 ⟨rfl, hb⟩
      have hb4 := hbw.trans (hb.mono hbw.size)
      clear hb hbw HC k0 k1 k2 k3 k4 k5 k6 k7 k8
      cases b1 with
      | true =>
        have hf : ans = true := by rw [← HSD.out, Bool.true_or]
        subst hf
        go_wp2_with fail
        go_ret
        exact ⟨_, rfl, iff_of_true (by omega) rfl, hb4⟩
      | false =>
        have hnx : Hid ((l.drop (k + 1)).any p = ans) := Lib.hid (by have := HSD.out; rw [Bool.false_or] at this; exact this)
        go_wp2_with fail
        go_roundw
        case rel => exact ⟨k + 1, by omega, by go_num, hb4, hnx⟩
        case measure => simp [intOf]; omega
    · obtain rfl : k = n := by omega
      have y1 : ¬ (k : Int) < k := by omega
      have hf : ans = false := by
        rw [← hs.out, List.drop_eq_nil_of_le (by rw [HN.out]; exact Nat.le_refl _)]
        rfl
      subst hf
      go_wp2_with fail
      go_ret
      exact ⟨-1, rfl, iff_of_false (by omega) (by decide), hbw⟩

set_option maxHeartbeats 4000000 in
set_option maxRecDepth 100000 in
theorem contains_twice (p : Tr → Bool) (bx : Nat) (l : List Tr) (A : Option Addr) (n c : Nat) (w : World) (B d : Nat) (hl : ListAt w B d l (.slice A n c)) (hB : B ≤ w.heap.size) (hn : l.length = n)
    (hp : ∀ (k : Nat) (h : k < l.length) (x : Value) (W : World), Below w.heap.size w W → ListAt W B d l[k].kids x → OwnOk l[k].own → Calls Tryz.prog 165 #[nodeV l[k].own x, .pointer (some ⟨bx, 0, none⟩)] W fun e W' => e = .returned (.bool (p l[k])) ∧ Below W.heap.size W W') :
    Calls Tryz.prog 98 #[.slice A n c, .func (.func 165) #[] #[.pointer (some ⟨bx, 0, none⟩)]] w fun e w' => e = .returned (.bool (l.any p)) ∧ Below w.heap.size w w' := by
  have HI := Lib.hid (index_twice p bx l A n c w B d hl hB hn hp)
  obtain ⟨ans, hans⟩ : ∃ ans, l.any p = ans := ⟨_, rfl⟩
  rw [hans] at HI ⊢
  clear hl hp hn hans
  go_enter Tryz.func98, Tryz.ntmps98
  go_wp2_with fail
  refine HI.out.mono ?_
  rintro e w2 ⟨r, rfl, hr, hb⟩
  cases ans with
  | true =>
    have h0 : (0 : Int) ≤ r := hr.2 rfl
    clear hr
    go_wp2_with fail
    go_ret
    exact ⟨rfl, hb⟩
  | false =>
    have h0 : r < 0 := by
      by_cases h : (0 : Int) ≤ r
      · exact absurd (hr.1 h) (by decide)
      · omega
    have h1 : ¬ (0 : Int) ≤ r := by omega
    have h2 : decide ((0 : Int) ≤ r) = false := decide_eq_false h1
    clear hr
    go_wp2_with fail
    go_ret
    exact ⟨rfl, hb⟩

set_option maxHeartbeats 4000000 in
set_option maxRecDepth 100000 in
theorem index_fits (p : Tr → Bool) (bx : Nat) (l : List Tr) (A : Option Addr) (n c : Nat) (w : World) (B d : Nat) (hl : ListAt w B d l (.slice A n c)) (hB : B ≤ w.heap.size) (hn : l.length = n)
    (hp : ∀ (k : Nat) (h : k < l.length) (x : Value) (W : World), Below w.heap.size w W → ListAt W B d l[k].kids x → OwnOk l[k].own → Calls Tryz.prog 92 #[nodeV l[k].own x, .pointer (some ⟨bx, 0, none⟩)] W fun e W' => e = .returned (.bool (p l[k])) ∧ Below W.heap.size W W') :
    Calls Tryz.prog 142 #[.slice A n c, .func (.func 92) #[] #[.pointer (some ⟨bx, 0, none⟩)]] w (AnyIx (l.any p) w) := by
  obtain ⟨ans, hans⟩ : ∃ ans, l.any p = ans := ⟨_, rfl⟩
  rw [hans]
  have HL := Lib.hid hl
  have HP := Lib.hid hp
  have HN := Lib.hid hn
  have H0 := Lib.hid (show (l.drop 0).any p = ans by rw [List.drop_zero]; exact hans)
  have hlen := hl.slice.1
  rw [hn] at hlen
  clear hl hp hn hans
  go_enter Tryz.func142, Tryz.ntmps142
  go_wp2_with fail
  go_loopw [8] (fun i wr => ∃ k : Nat, k ≤ n ∧ i = .int .i64 k ∧ Below w.heap.size w wr ∧ Hid ((l.drop k).any p = ans)) (fun i _ => n - (intOf i).toNat)
  case atStart => exact ⟨0, by omega, rfl, Below.refl _ _, H0⟩
  case round =>
    obtain ⟨k, hk, rfl, hbw, hs⟩ := hrel
    by_cases hlt : k < n
    · have hkl : k < l.length := by rw [HN.out]; exact hlt
      have hsd := hs.out
      rw [List.drop_eq_getElem_cons hkl, List.any_cons] at hsd
      obtain ⟨d1, ad, x1, hd1, rfl, hab, hok, hna, hkk⟩ := (HL.out.below hbw hB).at_ hkl
      obtain ⟨_, A2, c2, rfl⟩ := hkk.slice
      obtain ⟨n2, hn2⟩ : ∃ n2, l[k].kids.length = n2 := ⟨_, rfl⟩
      rw [hn2] at hna hkk
      have HC := HP.out k hkl (.slice A2 n2 c2) wr hbw (hkk.deeper (by omega)) hok
      obtain ⟨b1, hb1⟩ : ∃ b1, p l[k] = b1 := ⟨_, rfl⟩
      rw [hb1] at HC hsd
      have y1 : (k : Int) < n := by omega
      obtain ⟨⟨kind, b, neg, dg, ex, u, wd, s⟩, ho⟩ : ∃ o, l[k].own = o := ⟨_, rfl⟩
      rw [ho] at HC hna
      unfold nodeV at HC
      obtain ⟨k0, k1, k2, k3, k4, k5, k6, k7, k8⟩ := hna
      simp only [] at k0 k1 k2 k3 k4 k5 k6 k7 k8 HC
      have HC := Lib.hid HC
      have HSD := Lib.hid hsd
      clear hsd hb1 ho hkk hok hd1 hn2
      go_wp2_with fail
      refine HC.out.mono ?_
      rintro e w2 ⟨rfl, hb⟩
      have hb4 := hbw.trans (hb.mono hbw.size)
      clear hb hbw HC k0 k1 k2 k3 k4 k5 k6 k7 k8
      cases b1 with
      | true =>
        have hf : ans = true := by rw [← HSD.out, Bool.true_or]
        subst hf
        go_wp2_with fail
        go_ret
        exact ⟨_, rfl, iff_of_true (by omega) rfl, hb4⟩
      | false =>
        have hnx : Hid ((l.drop (k + 1)).any p = ans) := Lib.hid (by have := HSD.out; rw [Bool.false_or] at this; exact this)
        go_wp2_with fail
        go_roundw
        case rel => exact ⟨k + 1, by omega, by go_num, hb4, hnx⟩
        case measure => simp [intOf]; omega
    · obtain rfl : k = n := by omega
      have y1 : ¬ (k : Int) < k := by omega
      have hf : ans = false := by
        rw [← hs.out, List.drop_eq_nil_of_le (by rw [HN.out]; exact Nat.le_refl _)]
        rfl
      subst hf
      go_wp2_with fail
      go_ret
      exact ⟨-1, rfl, iff_of_false (by omega) (by decide), hbw⟩

set_option maxHeartbeats 4000000 in
set_option maxRecDepth 100000 in
theorem contains_fits (p : Tr → Bool) (bx : Nat) (l : List Tr) (A : Option Addr) (n c : Nat) (w : World) (B d : Nat) (hl : ListAt w B d l (.slice A n c)) (hB : B ≤ w.heap.size) (hn : l.length = n)
    (hp : ∀ (k : Nat) (h : k < l.length) (x : Value) (W : World), Below w.heap.size w W → ListAt W B d l[k].kids x → OwnOk l[k].own → Calls Tryz.prog 92 #[nodeV l[k].own x, .pointer (some ⟨bx, 0, none⟩)] W fun e W' => e = .returned (.bool (p l[k])) ∧ Below W.heap.size W W') :
    Calls Tryz.prog 98 #[.slice A n c, .func (.func 92) #[] #[.pointer (some ⟨bx, 0, none⟩)]] w fun e w' => e = .returned (.bool (l.any p)) ∧ Below w.heap.size w w' := by
  have HI := Lib.hid (index_fits p bx l A n c w B d hl hB hn hp)
  obtain ⟨ans, hans⟩ : ∃ ans, l.any p = ans := ⟨_, rfl⟩
  rw [hans] at HI ⊢
  clear hl hp hn hans
  go_enter Tryz.func98, Tryz.ntmps98
  go_wp2_with fail
  refine HI.out.mono ?_
  rintro e w2 ⟨r, rfl, hr, hb⟩
  cases ans with
  | true =>
    have h0 : (0 : Int) ≤ r := hr.2 rfl
    clear hr
    go_wp2_with fail
    go_ret
    exact ⟨rfl, hb⟩
  | false =>
    have h0 : r < 0 := by
      by_cases h : (0 : Int) ≤ r
      · exact absurd (hr.1 h) (by decide)
      · omega
    have h1 : ¬ (0 : Int) ≤ r := by omega
    have h2 : decide ((0 : Int) ≤ r) = false := decide_eq_false h1
    clear hr
    go_wp2_with fail
    go_ret
    exact ⟨rfl, hb⟩
end Go.Proofs.YtfckekaegjjmkaaGreatDoor
