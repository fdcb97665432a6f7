/- The texts GateB, GateC, GateL, put together. -/
import Derived.Test.YtfckekaegjjmkaaGreatDoorPi07
import Derived.Test.YtfckekaegjjmkaaGreatDoorPi31
namespace Go.Proofs.YtfckekaegjjmkaaGreatDoor
open Go.RowKit Go.Shelf

set_option maxHeartbeats 4000000 in
set_option maxRecDepth 100000 in
/-- Two nodes that differ in themselves. -/
theorem tsame_not (o o' : Own) (A A' : Option Addr) (n n' c c' : Nat) (h : ¬ o = o') (w : World) :
    Calls Tryz.prog 161 #[nodeV o (.slice A n c), nodeV o' (.slice A' n' c')] w fun e w' => e = .returned (.bool false) ∧ Below w.heap.size w w' := by
  obtain ⟨kind, b, neg, dg, ex, u, wd, s⟩ := o
  obtain ⟨kind', b', neg', dg', ex', u', wd', s'⟩ := o'
  have hb2 := ((Below.refl w.heap.size w).alloc (Nat.le_refl _) (.cells #[.int .i64 kind, .bool b, .bool neg, .string dg, .int .i64 ex, .int .u64 u, .int .i64 wd, .string s, .slice A n c] 27)).alloc (by simp) (.cells #[.int .i64 kind', .bool b', .bool neg', .string dg', .int .i64 ex', .int .u64 u', .int .i64 wd', .string s', .slice A' n' c'] 27)
  unfold nodeV
  simp only []
  have sne : ∀ a b : ByteArray, a ≠ b → (a.toList == b.toList) = false := fun a b h => by
    rw [beq_eq_false_iff_ne, ByteArray.toList_eq, ByteArray.toList_eq]
    exact fun e => h (by apply ByteArray.ext; exact Array.toList_inj.1 e)
  by_cases h1 : kind = kind'
  case neg =>
    have e1 : (kind == kind') = false := by rw [beq_eq_false_iff_ne]; exact h1
    clear h sne
    go_enter Tryz.func161, Tryz.ntmps161
    go_wp2_with fail
    go_ret
    exact ⟨rfl, hb2⟩
  subst h1
  by_cases h2 : b = b'
  case neg =>
    have e1 : (b == b') = false := by rw [beq_eq_false_iff_ne]; exact h2
    clear h sne
    go_enter Tryz.func161, Tryz.ntmps161
    go_wp2_with fail
    go_ret
    exact ⟨rfl, hb2⟩
  subst h2
  by_cases h3 : neg = neg'
  case neg =>
    have e1 : (neg == neg') = false := by rw [beq_eq_false_iff_ne]; exact h3
    clear h sne
    go_enter Tryz.func161, Tryz.ntmps161
    go_wp2_with fail
    go_ret
    exact ⟨rfl, hb2⟩
  subst h3
  by_cases h4 : dg = dg'
  case neg =>
    have e1 := sne _ _ h4
    clear h sne
    go_enter Tryz.func161, Tryz.ntmps161
    go_wp2_with fail
    go_ret
    exact ⟨rfl, hb2⟩
  subst h4
  by_cases h5 : ex = ex'
  case neg =>
    have e1 : (ex == ex') = false := by rw [beq_eq_false_iff_ne]; exact h5
    clear h sne
    go_enter Tryz.func161, Tryz.ntmps161
    go_wp2_with fail
    go_ret
    exact ⟨rfl, hb2⟩
  subst h5
  by_cases h6 : u = u'
  case neg =>
    have e1 : (u == u') = false := by rw [beq_eq_false_iff_ne]; exact h6
    clear h sne
    go_enter Tryz.func161, Tryz.ntmps161
    go_wp2_with fail
    go_ret
    exact ⟨rfl, hb2⟩
  subst h6
  by_cases h7 : wd = wd'
  case neg =>
    have e1 : (wd == wd') = false := by rw [beq_eq_false_iff_ne]; exact h7
    clear h sne
    go_enter Tryz.func161, Tryz.ntmps161
    go_wp2_with fail
    go_ret
    exact ⟨rfl, hb2⟩
  subst h7
  by_cases h8 : s = s'
  case neg =>
    have e1 := sne _ _ h8
    clear h sne
    go_enter Tryz.func161, Tryz.ntmps161
    go_wp2_with fail
    go_ret
    exact ⟨rfl, hb2⟩
  subst h8
  exact absurd rfl h

def eqL (l l' : List Tr) : Bool := decide (l.length = l'.length) && sameL l l'
theorem sameT_eqL (t t' : Tr) : sameT t t' = (decide (t.own = t'.own) && eqL t.kids t'.kids) := by
  rw [sameT_eq, Bool.and_assoc]
  rfl

set_option maxHeartbeats 4000000 in
set_option maxRecDepth 100000 in
theorem equal_func (d : Nat) (ih : ∀ d', d' < d → ∀ (t t' : Tr) (x x' : Value) (w : World) (B : Nat), ListAt w B d' t.kids x → ListAt w B d' t'.kids x' → B ≤ w.heap.size →
      Calls Tryz.prog 161 #[nodeV t.own x, nodeV t'.own x'] w fun e w' => e = .returned (.bool (sameT t t')) ∧ Below w.heap.size w w')
    (l l' : List Tr) (A A' : Option Addr) (n n' c c' : Nat) (w : World) (B : Nat) (hl : ListAt w B d l (.slice A n c)) (hl' : ListAt w B d l' (.slice A' n' c')) (hB : B ≤ w.heap.size) (hn : l.length = n) (hn' : l'.length = n') :
    Calls Tryz.prog 198 #[.slice A n c, .slice A' n' c', .func (.func 161) #[] #[]] w fun e w' => e = .returned (.bool (eqL l l')) ∧ Below w.heap.size w w' := by
  by_cases hnn : n = n'
  · subst hnn
    have he : eqL l l' = sameL l l' := by
      unfold eqL
      rw [hn, hn', decide_eq_true rfl, Bool.true_and]
    rw [he]
    obtain ⟨ans, hans⟩ : ∃ ans, sameL l l' = ans := ⟨_, rfl⟩
    rw [hans]
    have HL := Lib.hid hl
    have HL' := Lib.hid hl'
    have IH := Lib.hid ih
    have HN := Lib.hid hn
    have HN' := Lib.hid hn'
    have H0 := Lib.hid (show sameL (l.drop 0) (l'.drop 0) = ans by rw [List.drop_zero, List.drop_zero]; exact hans)
    have hlen := hl.slice.1
    rw [hn] at hlen
    clear hl hl' ih he hans hn hn'
    go_enter Tryz.func198, Tryz.ntmps198
    go_wp2_with fail
    go_loopw [17] (fun i wr => ∃ k : Nat, k ≤ n ∧ i = .int .i64 k ∧ Below w.heap.size w wr ∧ Hid (sameL (l.drop k) (l'.drop k) = ans)) (fun i _ => n - (intOf i).toNat)
    case atStart => exact ⟨0, by omega, rfl, Below.refl _ _, H0⟩
    case round =>
      obtain ⟨k, hk, rfl, hbw, hs⟩ := hrel
      by_cases hlt : k < n
      · have hkl : k < l.length := by rw [HN.out]; exact hlt
        have hkl' : k < l'.length := by rw [HN'.out]; exact hlt
        have hsd := sameL_drop l l' k hkl hkl'
        rw [hs.out] at hsd
        obtain ⟨d1, ad, x1, hd1, rfl, hab, hok, hna, hkk⟩ := (HL.out.below hbw hB).at_ hkl
        obtain ⟨d2, ad', x2, hd2, rfl, hab', hok', hna', hkk'⟩ := (HL'.out.below hbw hB).at_ hkl'
        obtain rfl : d1 = d2 := by omega
        obtain ⟨_, A2, c2, rfl⟩ := hkk.slice
        obtain ⟨n2, hn2⟩ : ∃ n2, l[k].kids.length = n2 := ⟨_, rfl⟩
        rw [hn2] at hna hkk
        obtain ⟨_, A3, c3, rfl⟩ := hkk'.slice
        obtain ⟨n3, hn3⟩ : ∃ n3, l'[k].kids.length = n3 := ⟨_, rfl⟩
        rw [hn3] at hna' hkk'
        obtain ⟨hb2, hk1, hk2⟩ := box2 wr (cellsV l[k].own (.slice A2 n2 c2)) (cellsV l'[k].own (.slice A3 n3 c3)) 27 27
        have hb3 := hbw.trans (hb2.mono hbw.size)
        have hBr := Nat.le_trans hB hbw.size
        have HC := IH.out d1 (by omega) l[k] l'[k] (.slice A2 n2 c2) (.slice A3 n3 c3) _ B (hkk.below hb2 hBr) (hkk'.below hb2 hBr) (Nat.le_trans hB hb3.size)
        have hna' : NodeAt (wr.alloc (.cells (cellsV l[k].own (.slice A2 n2 c2)) 27)) (ad'.add (k * 9)) l'[k].own (.slice A3 n3 c3) := by
          have hb1 : Below wr.heap.size wr (wr.alloc (.cells (cellsV l[k].own (.slice A2 n2 c2)) 27)) := (Below.refl _ _).alloc (Nat.le_refl _) _
          obtain ⟨q0, q1, q2, q3, q4, q5, q6, q7, q8⟩ := hna'
          have hlt : (ad'.add (k * 9)).block < wr.heap.size := by rw [add_block]; omega
          exact ⟨(hb1.cell hlt).trans q0, (hb1.cell (p := ⟨(ad'.add (k * 9)).block, _, none⟩) hlt).trans q1, (hb1.cell (p := ⟨(ad'.add (k * 9)).block, _, none⟩) hlt).trans q2, (hb1.cell (p := ⟨(ad'.add (k * 9)).block, _, none⟩) hlt).trans q3, (hb1.cell (p := ⟨(ad'.add (k * 9)).block, _, none⟩) hlt).trans q4, (hb1.cell (p := ⟨(ad'.add (k * 9)).block, _, none⟩) hlt).trans q5, (hb1.cell (p := ⟨(ad'.add (k * 9)).block, _, none⟩) hlt).trans q6, (hb1.cell (p := ⟨(ad'.add (k * 9)).block, _, none⟩) hlt).trans q7, (hb1.cell (p := ⟨(ad'.add (k * 9)).block, _, none⟩) hlt).trans q8⟩
        have y1 : (k : Int) < n := by omega
        obtain ⟨st, hst⟩ : ∃ st, sameT l[k] l'[k] = st := ⟨_, rfl⟩
        rw [hst] at HC hsd
        obtain ⟨⟨kind, b, neg, dg, ex, u, wd, s⟩, ho⟩ : ∃ o, l[k].own = o := ⟨_, rfl⟩
        obtain ⟨⟨kind', b', neg', dg', ex', u', wd', s'⟩, ho'⟩ : ∃ o, l'[k].own = o := ⟨_, rfl⟩
        rw [ho] at HC hna hna' hk1 hk2 hb3
        rw [ho'] at HC hna' hk1 hk2 hb3
        unfold nodeV at HC
        unfold cellsV at HC hna' hk1 hk2 hb3
        obtain ⟨k0, k1, k2, k3, k4, k5, k6, k7, k8⟩ := hna
        obtain ⟨q0, q1, q2, q3, q4, q5, q6, q7, q8⟩ := hna'
        simp only [] at k0 k1 k2 k3 k4 k5 k6 k7 k8 q0 q1 q2 q3 q4 q5 q6 q7 q8 HC hk1 hk2 hb3
        have HC := Lib.hid HC
        have HSD := Lib.hid hsd
        have z0 := hk1.cell 0
        have v0 := hk2.cell 0
        have z1 := hk1.cell 1
        have v1 := hk2.cell 1
        have z2 := hk1.cell 2
        have v2 := hk2.cell 2
        have z3 := hk1.cell 3
        have v3 := hk2.cell 3
        have z4 := hk1.cell 4
        have v4 := hk2.cell 4
        have z5 := hk1.cell 5
        have v5 := hk2.cell 5
        have z6 := hk1.cell 6
        have v6 := hk2.cell 6
        have z7 := hk1.cell 7
        have v7 := hk2.cell 7
        have z8 := hk1.cell 8
        have v8 := hk2.cell 8
        clear hsd hst ho ho' hkk hkk' hok hok' hd1 hd2 hb2 hn2 hn3 hbw
        go_wp2_with fail
        refine HC.out.mono ?_
        rintro e w2 ⟨rfl, hb⟩
        have hb4 := hb3.trans (hb.mono hb3.size)
        clear hb hb3 HC hk1 hk2 z0 v0 k0 q0 z1 v1 k1 q1 z2 v2 k2 q2 z3 v3 k3 q3 z4 v4 k4 q4 z5 v5 k5 q5 z6 v6 k6 q6 z7 v7 k7 q7 z8 v8 k8 q8
        cases st with
        | true =>
          have hnx : Hid (sameL (l.drop (k + 1)) (l'.drop (k + 1)) = ans) := Lib.hid (by have := HSD.out; rw [Bool.true_and] at this; exact this.symm)
          go_wp2_with fail
          go_roundw
          case rel => exact ⟨k + 1, by omega, by go_num, hb4, hnx⟩
          case measure => simp [intOf]; omega
        | false =>
          have hf : ans = false := by rw [HSD.out, Bool.false_and]
          subst hf
          go_wp2_with fail
          go_ret
          exact ⟨rfl, hb4⟩
      · obtain rfl : k = n := by omega
        have y1 : ¬ (k : Int) < k := by omega
        have hf : ans = true := by
          rw [← hs.out, List.drop_eq_nil_of_le (by rw [HN.out]; exact Nat.le_refl _), List.drop_eq_nil_of_le (by rw [HN'.out]; exact Nat.le_refl _)]
          rfl
        subst hf
        go_wp2_with fail
        go_ret
        exact ⟨rfl, hbw⟩
  · have he : eqL l l' = false := by
      unfold eqL
      rw [hn, hn', decide_eq_false hnn, Bool.false_and]
    rw [he]
    have y1 : ((n : Int) != (n' : Int)) = true := by rw [bne_iff_ne]; omega
    have y2 : ¬ (n : Int) = n' := by omega
    clear hl hl' ih he hn hn'
    go_enter Tryz.func198, Tryz.ntmps198
    go_wp2_with fail
    go_ret
    exact ⟨rfl, Below.refl _ _⟩

set_option maxHeartbeats 4000000 in
set_option maxRecDepth 100000 in
theorem tree_Same (d : Nat) : ∀ (t t' : Tr) (x x' : Value) (w : World) (B : Nat), ListAt w B d t.kids x → ListAt w B d t'.kids x' → B ≤ w.heap.size →
    Calls Tryz.prog 161 #[nodeV t.own x, nodeV t'.own x'] w fun e w' => e = .returned (.bool (sameT t t')) ∧ Below w.heap.size w w' := by
  induction d using Nat.strongRecOn with
  | _ d ih =>
  intro t t' x x' w B hl hl' hB
  obtain ⟨_, A, c, rfl⟩ := hl.slice
  obtain ⟨_, A', c', rfl⟩ := hl'.slice
  obtain ⟨n, hn⟩ : ∃ n, t.kids.length = n := ⟨_, rfl⟩
  obtain ⟨n', hn'⟩ : ∃ n', t'.kids.length = n' := ⟨_, rfl⟩
  rw [hn] at hl ⊢
  rw [hn'] at hl' ⊢
  rw [sameT_eqL]
  by_cases ho : t.own = t'.own
  · rw [← ho, decide_eq_true rfl, Bool.true_and]
    obtain ⟨hb2, hk1, hk2⟩ := box2 w (cellsV t.own (.slice A n c)) (cellsV t.own (.slice A' n' c')) 27 27
    have HE := equal_func d ih t.kids t'.kids A A' n n' c c' _ B (hl.below hb2 hB) (hl'.below hb2 hB) (Nat.le_trans hB hb2.size) hn hn'
    obtain ⟨ans, hans⟩ : ∃ ans, eqL t.kids t'.kids = ans := ⟨_, rfl⟩
    rw [hans] at HE ⊢
    obtain ⟨⟨kind, b, neg, dg, ex, u, wd, s⟩, hoo⟩ : ∃ o, t.own = o := ⟨_, rfl⟩
    rw [hoo] at HE hb2 hk1 hk2 ⊢
    unfold nodeV
    unfold cellsV at HE hb2 hk1 hk2
    simp only [] at HE hb2 hk1 hk2 ⊢
    have HE := Lib.hid HE
    have z0 := hk1.cell 0
    have v0 := hk2.cell 0
    have z1 := hk1.cell 1
    have v1 := hk2.cell 1
    have z2 := hk1.cell 2
    have v2 := hk2.cell 2
    have z3 := hk1.cell 3
    have v3 := hk2.cell 3
    have z4 := hk1.cell 4
    have v4 := hk2.cell 4
    have z5 := hk1.cell 5
    have v5 := hk2.cell 5
    have z6 := hk1.cell 6
    have v6 := hk2.cell 6
    have z7 := hk1.cell 7
    have v7 := hk2.cell 7
    have z8 := hk1.cell 8
    have v8 := hk2.cell 8
    clear hl hl' ih hans hk1 hk2 hn hn' hoo ho
    go_enter Tryz.func161, Tryz.ntmps161
    go_wp2_with fail
    refine HE.out.mono ?_
    rintro e w2 ⟨rfl, hb⟩
    have hb3 := hb2.trans (hb.mono hb2.size)
    clear HE hb hb2
    go_wp2_with fail
    go_ret
    exact ⟨rfl, hb3⟩
  · rw [decide_eq_false ho, Bool.false_and]
    exact tsame_not t.own t'.own A A' n n' c c' ho w
end Go.Proofs.YtfckekaegjjmkaaGreatDoor
namespace Go.Proofs.YtfckekaegjjmkaaGreatDoor
open Go.RowKit Go.Shelf

theorem sameT_bare (o xo : Own) : sameT (.nd o []) (.nd { xo with kind := o.kind } []) = onlyB o xo := by
  rw [sameT_eq]
  unfold onlyB
  simp only [Tr.kids, Tr.own, sameL, List.length_nil, decide_true, Bool.and_true]
  exact decide_eq_decide.2 Iff.rfl

set_option maxHeartbeats 4000000 in
set_option maxRecDepth 100000 in
theorem tree_bare (o xo : Own) (A A' : Option Addr) (n n' c c' : Nat) (w : World) :
    Calls Tryz.prog 126 #[nodeV o (.slice A n c), nodeV xo (.slice A' n' c')] w fun e w' => e = .returned (.bool (decide (n = 0) && onlyB o xo)) ∧ Below w.heap.size w w' := by
  obtain ⟨kind, b, neg, dg, ex, u, wd, s⟩ := o
  obtain ⟨kind', b', neg', dg', ex', u', wd', s'⟩ := xo
  obtain ⟨hb3, hz1, hs2⟩ := box2 w #[.int .i64 kind, .bool b, .bool neg, .string dg, .int .i64 ex, .int .u64 u, .int .i64 wd, .string s, .slice A n c] #[.int .i64 kind, .bool b', .bool neg', .string dg', .int .i64 ex', .int .u64 u', .int .i64 wd', .string s', .slice none 0 0] 27 27
  have z0 := hz1.cell 0
  have v0 := hs2.cell 0
  have z1 := hz1.cell 1
  have v1 := hs2.cell 1
  have z2 := hz1.cell 2
  have v2 := hs2.cell 2
  have z3 := hz1.cell 3
  have v3 := hs2.cell 3
  have z4 := hz1.cell 4
  have v4 := hs2.cell 4
  have z5 := hz1.cell 5
  have v5 := hs2.cell 5
  have z6 := hz1.cell 6
  have v6 := hs2.cell 6
  have z7 := hz1.cell 7
  have v7 := hs2.cell 7
  have z8 := hz1.cell 8
  have v8 := hs2.cell 8
  clear hs2 hz1
  by_cases h0 : n = 0
  · subst h0
    have HS := tree_Same 0 (.nd ⟨kind, b, neg, dg, ex, u, wd, s⟩ []) (.nd ⟨kind, b', neg', dg', ex', u', wd', s'⟩ []) (.slice A 0 c) (.slice none 0 0) ((w.alloc (.cells #[.int .i64 kind, .bool b, .bool neg, .string dg, .int .i64 ex, .int .u64 u, .int .i64 wd, .string s, .slice A 0 c] 27)).alloc (.cells #[.int .i64 kind, .bool b', .bool neg', .string dg', .int .i64 ex', .int .u64 u', .int .i64 wd', .string s', .slice none 0 0] 27)) 0 (LAt.nil _ _ _ _ _) (LAt.nil _ _ _ _ _) (Nat.zero_le _)
    have hsb := sameT_bare ⟨kind, b, neg, dg, ex, u, wd, s⟩ ⟨kind', b', neg', dg', ex', u', wd', s'⟩
    simp only [] at hsb
    rw [hsb] at HS
    obtain ⟨ans, hans⟩ : ∃ ans, onlyB ⟨kind, b, neg, dg, ex, u, wd, s⟩ ⟨kind', b', neg', dg', ex', u', wd', s'⟩ = ans := ⟨_, rfl⟩
    rw [hans] at HS
    rw [hans, decide_eq_true (rfl : (0 : Nat) = 0), Bool.true_and]
    unfold nodeV at HS ⊢
    simp only [Tr.own] at HS ⊢
    have HS := Lib.hid HS
    clear hans hsb
    go_enter Tryz.func126, Tryz.ntmps126
    go_wp2_with fail
    refine HS.out.mono ?_
    rintro e w2 ⟨rfl, hb⟩
    have hb4 := hb3.trans (hb.mono hb3.size)
    clear hb hb3 HS
    go_wp2_with fail
    go_ret
    exact ⟨rfl, hb4⟩
  · rw [decide_eq_false h0, Bool.false_and]
    have y1 : ((n : Int) == 0) = false := by rw [beq_eq_false_iff_ne]; omega
    have y2 : ¬ (n : Int) = 0 := by omega
    unfold nodeV
    go_enter Tryz.func126, Tryz.ntmps126
    go_wp2_with fail
    go_ret
    exact ⟨rfl, hb3⟩
end Go.Proofs.YtfckekaegjjmkaaGreatDoor
namespace Go.Proofs.YtfckekaegjjmkaaGreatDoor
open Go.RowKit Go.Shelf

/-- An index, from 0 on just if there is such a one. -/
def AnyIx (a : Bool) (w : World) (e : Ending) (w' : World) : Prop := ∃ r : Int, e = .returned (.int .i64 r) ∧ (0 ≤ r ↔ a = true) ∧ Below w.heap.size w w'

set_option maxHeartbeats 4000000 in
set_option maxRecDepth 100000 in
theorem index_twice (p : Tr → Bool) (bx : Nat) (l : List Tr) (A : Option Addr) (n c : Nat) (w : World) (B d : Nat) (hl : ListAt w B d l (.slice A n c)) (hB : B ≤ w.heap.size) (hn : l.length = n)
    (hp : ∀ (k : Nat) (h : k < l.length) (x : Value) (W : World), Below w.heap.size w W → ListAt W B d l[k].kids x → OwnOk l[k].own → Calls Tryz.prog 165 #[nodeV l[k].own x, .pointer (some ⟨bx, 0, none⟩)] W fun e W' => e = .returned (.bool (p l[k])) ∧ Below W.heap.size W W') :
    Calls Tryz.prog 142 #[.slice A n c, .func (.func 165) #[] #[.pointer (some ⟨bx, 0, none⟩)]] w (AnyIx (l.any p) w) := by
  obtain ⟨ans, hans⟩ : ∃ ans, l.any p = ans := ⟨_, rfl⟩
  rw [hans]
  have HL := Lib.hid hl
  have HP := Lib.hid hp
  have HN := Lib.hid hn
  have H0 := Lib.hid (show (l.drop 0).any p = ans by rw [List.drop_zero]; exact hans)
  have hlen := hl.slice.1
  rw [hn] at hlen
  clear hl hp hn hans
  go_enter Tryz.func142, Tryz.ntmps142
  go_wp2_with fail
  go_loopw [8] (fun i wr => ∃ k : Nat, k ≤ n ∧ i = .int .i64 k ∧ Below w.heap.size w wr ∧ Hid ((l.drop k).any p = ans)) (fun i _ => n - (intOf i).toNat)
  case atStart => exact ⟨0, by omega, rfl, Below.refl _ _, H0⟩
  case round =>
    obtain ⟨k, hk, rfl, hbw, hs⟩ := hrel
    by_cases hlt : k < n
    · have hkl : k < l.length := by rw [HN.out]; exact hlt
      have hsd := hs.out
      rw [List.drop_eq_getElem_cons hkl, List.any_cons] at hsd
      obtain ⟨d1, ad, x1, hd1, rfl, hab, hok, hna, hkk⟩ := (HL.out.below hbw hB).at_ hkl
      obtain ⟨_, A2, c2, rfl⟩ := hkk.slice
      obtain ⟨n2, hn2⟩ : ∃ n2, l[k].kids.length = n2 := ⟨_, rfl⟩
      rw [hn2] at hna hkk
      have HC := HP.out k hkl (.slice A2 n2 c2) wr hbw (hkk.deeper (by omega)) hok
      obtain ⟨b1, hb1⟩ : ∃ b1, p l[k] = b1 := ⟨_, rfl⟩
      rw [hb1] at HC hsd
      have y1 : (k : Int) < n := by omega
      obtain ⟨⟨kind, b, neg, dg, ex, u, wd, s⟩, ho⟩ : ∃ o, l[k].own = o := ⟨_, rfl⟩
      rw [ho] at HC hna
      unfold nodeV at HC
      obtain ⟨k0, k1, k2, k3, k4, k5, k6, k7, k8⟩ := hna
      simp only [] at k0 k1 k2 k3 k4 k5 k6 k7 k8 HC
      have HC := Lib.hid HC
      have HSD := Lib.hid hsd
      clear hsd hb1 ho hkk hok hd1 hn2
      go_wp2_with fail
      refine HC.out.mono ?_
      rintro e w2 ⟨rfl, hb⟩
      have hb4 := hbw.trans (hb.mono hbw.size)
      clear hb hbw HC k0 k1 k2 k3 k4 k5 k6 k7 k8
      cases b1 with
      | true =>
        have hf : ans = true := by rw [← HSD.out, Bool.true_or]
        subst hf
        go_wp2_with fail
        go_ret
        exact ⟨_, rfl, iff_of_true (by omega) rfl, hb4⟩
      | false =>
        have hnx : Hid ((l.drop (k + 1)).any p = ans) := Lib.hid (by have := HSD.out; rw [Bool.false_or] at this; exact this)
        go_wp2_with fail
        go_roundw
        case rel => exact ⟨k + 1, by omega, by go_num, hb4, hnx⟩
        case measure => simp [intOf]; omega
    · obtain rfl : k = n := by omega
      have y1 : ¬ (k : Int) < k := by omega
      have hf : ans = false := by
        rw [← hs.out, List.drop_eq_nil_of_le (by rw [HN.out]; exact Nat.le_refl _)]
        rfl
      subst hf
      go_wp2_with fail
      go_ret
      exact ⟨-1, rfl, iff_of_false (by omega) (by decide), hbw⟩

set_option maxHeartbeats 4000000 in
set_option maxRecDepth 100000 in
theorem contains_twice (p : Tr → Bool) (bx : Nat) (l : List Tr) (A : Option Addr) (n c : Nat) (w : World) (B d : Nat) (hl : ListAt w B d l (.slice A n c)) (hB : B ≤ w.heap.size) (hn : l.length = n)
    (hp : ∀ (k : Nat) (h : k < l.length) (x : Value) (W : World), Below w.heap.size w W → ListAt W B d l[k].kids x → OwnOk l[k].own → Calls Tryz.prog 165 #[nodeV l[k].own x, .pointer (some ⟨bx, 0, none⟩)] W fun e W' => e = .returned (.bool (p l[k])) ∧ Below W.heap.size W W') :
    Calls Tryz.prog 98 #[.slice A n c, .func (.func 165) #[] #[.pointer (some ⟨bx, 0, none⟩)]] w fun e w' => e = .returned (.bool (l.any p)) ∧ Below w.heap.size w w' := by
  have HI := Lib.hid (index_twice p bx l A n c w B d hl hB hn hp)
  obtain ⟨ans, hans⟩ : ∃ ans, l.any p = ans := ⟨_, rfl⟩
  rw [hans] at HI ⊢
  clear hl hp hn hans
  go_enter Tryz.func98, Tryz.ntmps98
  go_wp2_with fail
  refine HI.out.mono ?_
  rintro e w2 ⟨r, rfl, hr, hb⟩
  cases ans with
  | true =>
    have h0 : (0 : Int) ≤ r := hr.2 rfl
    clear hr
    go_wp2_with fail
    go_ret
    exact ⟨rfl, hb⟩
  | false =>
    have h0 : r < 0 := by
      by_cases h : (0 : Int) ≤ r
      · exact absurd (hr.1 h) (by decide)
      · omega
    have h1 : ¬ (0 : Int) ≤ r := by omega
    have h2 : decide ((0 : Int) ≤ r) = false := decide_eq_false h1
    clear hr
    go_wp2_with fail
    go_ret
    exact ⟨rfl, hb⟩

set_option maxHeartbeats 4000000 in
set_option maxRecDepth 100000 in
theorem index_fits (p : Tr → Bool) (bx : Nat) (l : List Tr) (A : Option Addr) (n c : Nat) (w : World) (B d : Nat) (hl : ListAt w B d l (.slice A n c)) (hB : B ≤ w.heap.size) (hn : l.length = n)
    (hp : ∀ (k : Nat) (h : k < l.length) (x : Value) (W : World), Below w.heap.size w W → ListAt W B d l[k].kids x → OwnOk l[k].own → Calls Tryz.prog 92 #[nodeV l[k].own x, .pointer (some ⟨bx, 0, none⟩)] W fun e W' => e = .returned (.bool (p l[k])) ∧ Below W.heap.size W W') :
    Calls Tryz.prog 142 #[.slice A n c, .func (.func 92) #[] #[.pointer (some ⟨bx, 0, none⟩)]] w (AnyIx (l.any p) w) := by
  obtain ⟨ans, hans⟩ : ∃ ans, l.any p = ans := ⟨_, rfl⟩
  rw [hans]
  have HL := Lib.hid hl
  have HP := Lib.hid hp
  have HN := Lib.hid hn
  have H0 := Lib.hid (show (l.drop 0).any p = ans by rw [List.drop_zero]; exact hans)
  have hlen := hl.slice.1
  rw [hn] at hlen
  clear hl hp hn hans
  go_enter Tryz.func142, Tryz.ntmps142
  go_wp2_with fail
  go_loopw [8] (fun i wr => ∃ k : Nat, k ≤ n ∧ i = .int .i64 k ∧ Below w.heap.size w wr ∧ Hid ((l.drop k).any p = ans)) (fun i _ => n - (intOf i).toNat)
  case atStart => exact ⟨0, by omega, rfl, Below.refl _ _, H0⟩
  case round =>
    obtain ⟨k, hk, rfl, hbw, hs⟩ := hrel
    by_cases hlt : k < n
    · have hkl : k < l.length := by rw [HN.out]; exact hlt
      have hsd := hs.out
      rw [List.drop_eq_getElem_cons hkl, List.any_cons] at hsd
      obtain ⟨d1, ad, x1, hd1, rfl, hab, hok, hna, hkk⟩ := (HL.out.below hbw hB).at_ hkl
      obtain ⟨_, A2, c2, rfl⟩ := hkk.slice
      obtain ⟨n2, hn2⟩ : ∃ n2, l[k].kids.length = n2 := ⟨_, rfl⟩
      rw [hn2] at hna hkk
      have HC := HP.out k hkl (.slice A2 n2 c2) wr hbw (hkk.deeper (by omega)) hok
      obtain ⟨b1, hb1⟩ : ∃ b1, p l[k] = b1 := ⟨_, rfl⟩
      rw [hb1] at HC hsd
      have y1 : (k : Int) < n := by omega
      obtain ⟨⟨kind, b, neg, dg, ex, u, wd, s⟩, ho⟩ : ∃ o, l[k].own = o := ⟨_, rfl⟩
      rw [ho] at HC hna
      unfold nodeV at HC
      obtain ⟨k0, k1, k2, k3, k4, k5, k6, k7, k8⟩ := hna
      simp only [] at k0 k1 k2 k3 k4 k5 k6 k7 k8 HC
      have HC := Lib.hid HC
      have HSD := Lib.hid hsd
      clear hsd hb1 ho hkk hok hd1 hn2
      go_wp2_with fail
      refine HC.out.mono ?_
      rintro e w2 ⟨rfl, hb⟩
      have hb4 := hbw.trans (hb.mono hbw.size)
      clear hb hbw HC k0 k1 k2 k3 k4 k5 k6 k7 k8
      cases b1 with
      | true =>
        have hf : ans = true := by rw [← HSD.out, Bool.true_or]
        subst hf
        go_wp2_with fail
        go_ret
        exact ⟨_, rfl, iff_of_true (by omega) rfl, hb4⟩
      | false =>
        have hnx : Hid ((l.drop (k + 1)).any p = ans) := Lib.hid (by have := HSD.out; rw [Bool.false_or] at this; exact this)
        go_wp2_with fail
        go_roundw
        case rel => exact ⟨k + 1, by omega, by go_num, hb4, hnx⟩
        case measure => simp [intOf]; omega
    · obtain rfl : k = n := by omega
      have y1 : ¬ (k : Int) < k := by omega
      have hf : ans = false := by
        rw [← hs.out, List.drop_eq_nil_of_le (by rw [HN.out]; exact Nat.le_refl _)]
        rfl
      subst hf
      go_wp2_with fail
      go_ret
      exact ⟨-1, rfl, iff_of_false (by omega) (by decide), hbw⟩

set_option maxHeartbeats 4000000 in
set_option maxRecDepth 100000 in
theorem contains_fits (p : Tr → Bool) (bx : Nat) (l : List Tr) (A : Option Addr) (n c : Nat) (w : World) (B d : Nat) (hl : ListAt w B d l (.slice A n c)) (hB : B ≤ w.heap.size) (hn : l.length = n)
    (hp : ∀ (k : Nat) (h : k < l.length) (x : Value) (W : World), Below w.heap.size w W → ListAt W B d l[k].kids x → OwnOk l[k].own → Calls Tryz.prog 92 #[nodeV l[k].own x, .pointer (some ⟨bx, 0, none⟩)] W fun e W' => e = .returned (.bool (p l[k])) ∧ Below W.heap.size W W') :
    Calls Tryz.prog 98 #[.slice A n c, .func (.func 92) #[] #[.pointer (some ⟨bx, 0, none⟩)]] w fun e w' => e = .returned (.bool (l.any p)) ∧ Below w.heap.size w w' := by
  have HI := Lib.hid (index_fits p bx l A n c w B d hl hB hn hp)
  obtain ⟨ans, hans⟩ : ∃ ans, l.any p = ans := ⟨_, rfl⟩
  rw [hans] at HI ⊢
  clear hl hp hn hans
  go_enter Tryz.func98, Tryz.ntmps98
  go_wp2_with fail
  refine HI.out.mono ?_
  rintro e w2 ⟨r, rfl, hr, hb⟩
  cases ans with
  | true =>
    have h0 : (0 : Int) ≤ r := hr.2 rfl
    clear hr
    go_wp2_with fail
    go_ret
    exact ⟨rfl, hb⟩
  | false =>
    have h0 : r < 0 := by
      by_cases h : (0 : Int) ≤ r
      · exact absurd (hr.1 h) (by decide)
      · omega
    have h1 : ¬ (0 : Int) ≤ r := by omega
    have h2 : decide ((0 : Int) ≤ r) = false := decide_eq_false h1
    clear hr
    go_wp2_with fail
    go_ret
    exact ⟨rfl, hb⟩
end Go.Proofs.YtfckekaegjjmkaaGreatDoor
