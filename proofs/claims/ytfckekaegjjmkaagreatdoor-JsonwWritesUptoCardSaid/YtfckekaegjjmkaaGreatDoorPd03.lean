/- The texts TreeB, put together. -/
import Derived.Test.YtfckekaegjjmkaaGreatDoorPd02
import Derived.BigQuiet
import Derived.Deep.QuietTactic
import Derived.StillTailTactics
namespace Go.Proofs.YtfckekaegjjmkaaGreatDoor
open Go.RowKit Go.Shelf

deriving instance DecidableEq for Own
mutual
def sameT : Tr → Tr → Bool
  | .nd o l, .nd o' l' => decide (o = o') && decide (l.length = l'.length) && sameL l l'
def sameL : List Tr → List Tr → Bool
  | [], _ => true
  | _ :: _, [] => true
  | t :: l, t' :: l' => sameT t t' && sameL l l'
end
theorem sameT_eq (t t' : Tr) : sameT t t' = (decide (t.own = t'.own) && decide (t.kids.length = t'.kids.length) && sameL t.kids t'.kids) := by
  cases t
  cases t'
  rw [sameT]
  rfl
mutual
theorem sameT_refl : ∀ t : Tr, sameT t t = true
  | .nd o l => by
    rw [sameT, sameL_refl l]
    simp
theorem sameL_refl : ∀ l : List Tr, sameL l l = true
  | [] => by rw [sameL]
  | t :: l => by
    rw [sameL, sameT_refl t, sameL_refl l]
    rfl
end
theorem sameL_drop : ∀ (l l' : List Tr) (k : Nat) (h : k < l.length) (h' : k < l'.length), sameL (l.drop k) (l'.drop k) = (sameT l[k] l'[k] && sameL (l.drop (k + 1)) (l'.drop (k + 1))) := by
  intro l l' k h h'
  rw [List.drop_eq_getElem_cons h, List.drop_eq_getElem_cons h', sameL]

abbrev cellsV (o : Own) (v : Value) : Array Value := #[.int .i64 o.kind, .bool o.b, .bool o.neg, .string o.dg, .int .i64 o.ex, .int .u64 o.u, .int .i64 o.wd, .string o.s, v]

set_option maxHeartbeats 4000000 in
set_option maxRecDepth 100000 in
/-- Two nodes that differ in themselves, or in how many they have. -/
theorem same_not (o o' : Own) (A A' : Option Addr) (n n' c c' : Nat) (h : ¬ (o = o' ∧ n = n')) (w : World) :
    Calls Tryz.prog 17 #[nodeV o (.slice A n c), nodeV o' (.slice A' n' c')] w fun e w' => e = .returned (.bool false) ∧ Below w.heap.size w w' := by
  obtain ⟨kind, b, neg, dg, ex, u, wd, s⟩ := o
  obtain ⟨kind', b', neg', dg', ex', u', wd', s'⟩ := o'
  have hb2 := ((Below.refl w.heap.size w).alloc (Nat.le_refl _) (.cells #[.int .i64 kind, .bool b, .bool neg, .string dg, .int .i64 ex, .int .u64 u, .int .i64 wd, .string s, .slice A n c] 27)).alloc (by simp) (.cells #[.int .i64 kind', .bool b', .bool neg', .string dg', .int .i64 ex', .int .u64 u', .int .i64 wd', .string s', .slice A' n' c'] 27)
  unfold nodeV
  simp only []
  have sne : ∀ a b : ByteArray, a ≠ b → (a.toList == b.toList) = false := fun a b h => by
    rw [beq_eq_false_iff_ne, ByteArray.toList_eq, ByteArray.toList_eq]
    exact fun e => h (by apply ByteArray.ext; exact Array.toList_inj.1 e)
  by_cases h1 : kind = kind'
  case neg =>
    have e1 : (kind == kind') = false := by rw [beq_eq_false_iff_ne]; exact h1
    clear h sne
    go_enter Tryz.func17, Tryz.ntmps17
    go_wp2_with fail
    go_ret
    exact ⟨rfl, hb2⟩
  subst h1
  by_cases h2 : b = b'
  case neg =>
    have e1 : (b == b') = false := by rw [beq_eq_false_iff_ne]; exact h2
    clear h sne
    go_enter Tryz.func17, Tryz.ntmps17
    go_wp2_with fail
    go_ret
    exact ⟨rfl, hb2⟩
  subst h2
  by_cases h3 : neg = neg'
  case neg =>
    have e1 : (neg == neg') = false := by rw [beq_eq_false_iff_ne]; exact h3
    clear h sne
    go_enter Tryz.func17, Tryz.ntmps17
    go_wp2_with fail
    go_ret
    exact ⟨rfl, hb2⟩
  subst h3
  by_cases h4 : dg = dg'
  case neg =>
    have e1 := sne _ _ h4
    clear h sne
    go_enter Tryz.func17, Tryz.ntmps17
    go_wp2_with fail
    go_ret
    exact ⟨rfl, hb2⟩
  subst h4
  by_cases h5 : ex = ex'
  case neg =>
    have e1 : (ex == ex') = false := by rw [beq_eq_false_iff_ne]; exact h5
    clear h sne
    go_enter Tryz.func17, Tryz.ntmps17
    go_wp2_with fail
    go_ret
    exact ⟨rfl, hb2⟩
  subst h5
  by_cases h6 : u = u'
  case neg =>
    have e1 : (u == u') = false := by rw [beq_eq_false_iff_ne]; exact h6
    clear h sne
    go_enter Tryz.func17, Tryz.ntmps17
    go_wp2_with fail
    go_ret
    exact ⟨rfl, hb2⟩
  subst h6
  by_cases h7 : wd = wd'
  case neg =>
    have e1 : (wd == wd') = false := by rw [beq_eq_false_iff_ne]; exact h7
    clear h sne
    go_enter Tryz.func17, Tryz.ntmps17
    go_wp2_with fail
    go_ret
    exact ⟨rfl, hb2⟩
  subst h7
  by_cases h8 : s = s'
  case neg =>
    have e1 := sne _ _ h8
    clear h sne
    go_enter Tryz.func17, Tryz.ntmps17
    go_wp2_with fail
    go_ret
    exact ⟨rfl, hb2⟩
  subst h8
  have h9 : n ≠ n' := fun e => h ⟨rfl, e⟩
  have e1 : ((n : Int) == (n' : Int)) = false := by rw [beq_eq_false_iff_ne]; omega
  clear h sne h9
  go_enter Tryz.func17, Tryz.ntmps17
  go_wp2_with fail
  go_ret
  exact ⟨rfl, hb2⟩
theorem box2 (w : World) (cs cs' : Array Value) (t t' : TypeId) : Below w.heap.size w ((w.alloc (.cells cs t)).alloc (.cells cs' t')) ∧ Blk ((w.alloc (.cells cs t)).alloc (.cells cs' t')) w.heap.size cs t ∧ Blk ((w.alloc (.cells cs t)).alloc (.cells cs' t')) (w.heap.size + 1) cs' t' := by
  refine ⟨((Below.refl w.heap.size w).alloc (Nat.le_refl _) _).alloc (by simp) _, (Blk.new w _ _).alloc _, ?_⟩
  have := Blk.new (w.alloc (.cells cs t)) cs' t'
  rw [World.size_alloc] at this
  exact this

set_option maxHeartbeats 4000000 in
set_option maxRecDepth 100000 in
theorem ref_SameT (d : Nat) : ∀ (t t' : Tr) (x x' : Value) (w : World) (B d2 : Nat), ListAt w B d t.kids x → ListAt w B d2 t'.kids x' → B ≤ w.heap.size →
    Calls Tryz.prog 17 #[nodeV t.own x, nodeV t'.own x'] w fun e w' => e = .returned (.bool (sameT t t')) ∧ Below w.heap.size w w' := by
  induction d using Nat.strongRecOn with
  | _ d ih =>
  intro t t' x x' w B d2 hl hl' hB
  obtain ⟨hlen, A, c, rfl⟩ := hl.slice
  obtain ⟨hlen', A', c', rfl⟩ := hl'.slice
  rw [sameT_eq]
  by_cases hne : t.own = t'.own ∧ t.kids.length = t'.kids.length
  case neg =>
    have hf : (decide (t.own = t'.own) && decide (t.kids.length = t'.kids.length) && sameL t.kids t'.kids) = false := by
      rw [Bool.and_eq_false_iff, Bool.and_eq_false_iff, decide_eq_false_iff_not, decide_eq_false_iff_not]
      by_cases h1 : t.own = t'.own
      · exact .inl (.inr fun h2 => hne ⟨h1, h2⟩)
      · exact .inl (.inl h1)
    rw [hf]
    exact same_not _ _ _ _ _ _ _ _ hne w
  obtain ⟨hoo, hnn⟩ := hne
  rw [decide_eq_true hoo, decide_eq_true hnn, Bool.true_and, Bool.true_and, ← hoo, ← hnn]
  rw [← hnn] at hl' hlen'
  obtain ⟨l, hkl⟩ : ∃ l, t.kids = l := ⟨_, rfl⟩
  obtain ⟨l', hkl'⟩ : ∃ l', t'.kids = l' := ⟨_, rfl⟩
  rw [hkl] at hl hlen hnn hl' hlen' ⊢
  rw [hkl'] at hnn hl' ⊢
  obtain ⟨n, hn⟩ : ∃ n, l.length = n := ⟨_, rfl⟩
  rw [hn] at hl hlen hl' hnn ⊢
  obtain ⟨⟨kind, b, neg, dg, ex, u, wd, s⟩, ho⟩ : ∃ o, t.own = o := ⟨_, rfl⟩
  rw [ho]
  unfold nodeV
  obtain ⟨ans, hans⟩ : ∃ ans, sameL l l' = ans := ⟨_, rfl⟩
  rw [hans]
  have HANS := Lib.hid (show sameL (l.drop 0) (l'.drop 0) = ans from hans)
  have HL := Lib.hid hl
  have HL' := Lib.hid hl'
  have IH := Lib.hid ih
  simp only []
  have HB2 := Lib.hid (box2 w #[.int .i64 kind, .bool b, .bool neg, .string dg, .int .i64 ex, .int .u64 u, .int .i64 wd, .string s, .slice A n c] #[.int .i64 kind, .bool b, .bool neg, .string dg, .int .i64 ex, .int .u64 u, .int .i64 wd, .string s, .slice A' n c'] 27 27)
  have HNN := Lib.hid hnn
  clear hl hl' ih ho hkl hkl' hoo hans hnn hlen'
  go_enter Tryz.func17, Tryz.ntmps17
  go_wp2_with fail
  go_loopw [5] (fun i wr => ∃ k : Nat, k ≤ n ∧ i = .int .i64 k ∧ Below w.heap.size w wr ∧ wr.cell? ⟨w.heap.size, 8, none⟩ = some (.slice A n c) ∧ wr.cell? ⟨w.heap.size + 1, 8, none⟩ = some (.slice A' n c') ∧ w.heap.size + 2 ≤ wr.heap.size ∧ Hid (sameL (l.drop k) (l'.drop k) = ans)) (fun i _ => n - (intOf i).toNat)
  case atStart => exact ⟨0, by omega, rfl, HB2.out.1, HB2.out.2.1.cell 8, HB2.out.2.2.cell 8, by simp, HANS⟩
  case round =>
    obtain ⟨k, hk, rfl, hbw, hf1, hf2, hz, hac⟩ := hrel
    clear HB2 HANS
    by_cases hlt : k < n
    · have hkl : k < l.length := by omega
      have hkl' : k < l'.length := by have := HNN.out; omega
      obtain ⟨d', ad, y, hdd, rfl, hab, hok, hna, hkk⟩ := (HL.out.below hbw hB).at_ hkl
      obtain ⟨d2', ad', y', hdd2, rfl, hab', hok', hna', hkk'⟩ := (HL'.out.below hbw hB).at_ hkl'
      have hdr := hac.out
      rw [sameL_drop l l' k hkl hkl'] at hdr
      have HC := fun (w' : World) (hw : Below wr.heap.size wr w') => IH.out d' (by omega) l[k] l'[k] y y' w' B d2' (hkk.below hw (Nat.le_trans hB hbw.size)) (hkk'.below hw (Nat.le_trans hB hbw.size)) (Nat.le_trans (Nat.le_trans hB hbw.size) hw.size)
      obtain ⟨⟨kind1, b1, neg1, dg1, ex1, u1, wd1, s1⟩, ho1⟩ : ∃ o, l[k].own = o := ⟨_, rfl⟩
      obtain ⟨⟨kind2, b2, neg2, dg2, ex2, u2, wd2, s2⟩, ho2⟩ : ∃ o, l'[k].own = o := ⟨_, rfl⟩
      rw [ho1] at hna
      rw [ho2] at hna'
      rw [ho1, ho2] at HC
      unfold nodeV at HC
      obtain ⟨k0, k1, k2, k3, k4, k5, k6, k7, k8⟩ := hna
      obtain ⟨m0, m1, m2, m3, m4, m5, m6, m7, m8⟩ := hna'
      simp only [] at k0 k1 k2 k3 k4 k5 k6 k7 k8 m0 m1 m2 m3 m4 m5 m6 m7 m8 HC
      have y1 : (k : Int) < n := by omega
      have y0 : (0 : Int) ≤ k := by omega
      have HC := Lib.hid HC
      have hdb : Below wr.heap.size wr wr.drew := (Below.refl _ _).drew
      clear hac ho1 ho2 hkk hkk' hok hok' hdd hdd2
      cases hs : sameT l[k] l'[k] with
      | false =>
        rw [hs] at hdr HC
        have hdr : false = ans := hdr
        subst hdr
        clear hs
        go_wp2_with fail
        go_still_tail 10, (by kernel_rfl)
        change wpList _ _ _ _ _ wr.drew
        go_wp2_with fail
        refine (HC.out _ hdb).mono ?_
        rintro e w2 ⟨rfl, hb2⟩
        have hb3 := (hbw.trans (hdb.mono hbw.size)).trans (hb2.mono (Nat.le_trans hbw.size hdb.size))
        go_wp2_with fail
        go_ret
        exact ⟨rfl, hb3⟩
      | true =>
        rw [hs, Bool.true_and] at hdr
        rw [hs] at HC
        have HD := Lib.hid hdr
        clear hs hdr
        go_wp2_with fail
        go_still_tail 10, (by kernel_rfl)
        change wpList _ _ _ _ _ wr.drew
        go_wp2_with fail
        refine (HC.out _ hdb).mono ?_
        rintro e w2 ⟨rfl, hb2⟩
        have hb3 := (hbw.trans (hdb.mono hbw.size)).trans (hb2.mono (Nat.le_trans hbw.size hdb.size))
        have hz1 : wr.drew.heap.size = wr.heap.size := rfl
        have hf1' : w2.cell? ⟨w.heap.size, 8, none⟩ = some (.slice (some ad) n c) := (hb2.cell (p := ⟨w.heap.size, 8, none⟩) (by show w.heap.size < _; omega)).trans hf1
        have hf2' : w2.cell? ⟨w.heap.size + 1, 8, none⟩ = some (.slice (some ad') n c') := (hb2.cell (p := ⟨w.heap.size + 1, 8, none⟩) (by show w.heap.size + 1 < _; omega)).trans hf2
        have hz2 := hb2.size
        clear hb2 k0 k1 k2 k3 k4 k5 k6 k7 k8 m0 m1 m2 m3 m4 m5 m6 m7 m8 hf1 hf2 hbw hdb HC
        go_wp2_with fail
        go_roundw
        case rel => exact ⟨k + 1, by omega, by go_num, hb3, hf1', hf2', by omega, HD⟩
        case measure => simp [intOf]; omega
    · obtain rfl : k = n := by omega
      have y1 : ¬ (k : Int) < k := by omega
      have hdr := hac.out
      rw [List.drop_eq_nil_of_le (by omega), sameL] at hdr
      subst hdr
      clear hac
      go_wp2_with fail
      go_ret
      exact ⟨rfl, hbw⟩
end Go.Proofs.YtfckekaegjjmkaaGreatDoor
