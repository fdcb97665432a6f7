/- The texts GateJ, GateM, put together. -/
import Derived.Test.YtfckekaegjjmkaaGreatDoorPf32
import Derived.Test.YtfckekaegjjmkaaGreatDoorPf37
import Derived.Test.YtfckekaegjjmkaaGreatDoorPf16
namespace Go.Proofs.YtfckekaegjjmkaaGreatDoor
open Go.RowKit Go.Shelf

theorem LAt.take {W : World} {S : Nat → Prop} : ∀ {d : Nat} {l : List Tr} {A : Option Addr} {n c : Nat}, LAt W S d l (.slice A n c) → ∀ i, i ≤ l.length → LAt W S d (l.take i) (.slice A i c)
  | 0, l, A, n, c, ⟨h, _⟩, i, hi => by
    subst h
    have : i = 0 := by simpa using hi
    subst this
    exact LAt.nil _ _ _ _ _
  | d + 1, l, A, n, c, ⟨A', c', hv, hl, h⟩, i, hi => by
    injection hv with e1 e2 e3
    subst e1 e3
    have hlen : (l.take i).length = i := by rw [List.length_take]; omega
    refine ⟨A, c, by rw [hlen], ⟨by omega, by omega⟩, fun k hk => ?_⟩
    have hkl : k < l.length := by omega
    have e : (l.take i)[k] = l[k] := List.getElem_take
    rw [e]
    exact h k hkl

theorem twice1 (d : Nat) (x y : Tr) (vx vy : Value) (bx : Nat) (w : World) (B : Nat) (hx : ListAt w B d x.kids vx) (hy : ListAt w B d y.kids vy) (hB : B ≤ w.heap.size) (hbx : Blk w bx (cellsV x.own vx) 27) :
    Calls Tryz.prog 165 #[nodeV y.own vy, .pointer (some ⟨bx, 0, none⟩)] w fun e w' => e = .returned (.bool (sameT x y)) ∧ Below w.heap.size w w' := by
  have hb1 : Below w.heap.size w (w.alloc (.cells (cellsV y.own vy) 27)) := (Below.refl _ _).alloc (Nat.le_refl _) _
  have HS := tree_Same d x y vx vy _ B (hx.below hb1 hB) (hy.below hb1 hB) (Nat.le_trans hB hb1.size)
  have hk1 := Blk.new w (cellsV y.own vy) 27
  have hk2 := hbx.alloc (.cells (cellsV y.own vy) 27)
  obtain ⟨_, A, c, rfl⟩ := hx.slice
  obtain ⟨_, A', c', rfl⟩ := hy.slice
  obtain ⟨n, hn⟩ : ∃ n, x.kids.length = n := ⟨_, rfl⟩
  obtain ⟨n', hn'⟩ : ∃ n', y.kids.length = n' := ⟨_, rfl⟩
  obtain ⟨st, hst⟩ : ∃ st, sameT x y = st := ⟨_, rfl⟩
  obtain ⟨⟨kind, b, neg, dg, ex, u, wd, s⟩, ho⟩ : ∃ o, x.own = o := ⟨_, rfl⟩
  obtain ⟨⟨kind', b', neg', dg', ex', u', wd', s'⟩, ho'⟩ : ∃ o, y.own = o := ⟨_, rfl⟩
  rw [hst] at HS ⊢
  rw [ho, ho', hn, hn'] at HS
  rw [ho', hn'] at hb1 hk1 hk2 ⊢
  rw [ho, hn] at hk2
  unfold nodeV at HS ⊢
  unfold cellsV at HS hb1 hk1 hk2
  simp only [] at HS hb1 hk1 hk2 ⊢
  have HS := Lib.hid HS
  have z0 := hk1.cell 0
  have z1 := hk1.cell 1
  have z2 := hk1.cell 2
  have z3 := hk1.cell 3
  have z4 := hk1.cell 4
  have z5 := hk1.cell 5
  have z6 := hk1.cell 6
  have z7 := hk1.cell 7
  have z8 := hk1.cell 8
  have v0 := hk2.cell 0
  have v1 := hk2.cell 1
  have v2 := hk2.cell 2
  have v3 := hk2.cell 3
  have v4 := hk2.cell 4
  have v5 := hk2.cell 5
  have v6 := hk2.cell 6
  have v7 := hk2.cell 7
  have v8 := hk2.cell 8
  clear hx hy hbx hst ho ho' hn hn' hk1 hk2
  go_enter Tryz.func165, Tryz.ntmps165
  go_wp2_with fail
  refine HS.out.mono ?_
  rintro e w2 ⟨rfl, hb⟩
  have hb3 := hb1.trans (hb.mono hb1.size)
  go_wp2_with fail
  go_ret
  exact ⟨rfl, hb3⟩

/-- Is one of those ahead of number i the same as it? -/
def anyPre (l : List Tr) (i : Nat) (x : Tr) : Bool := (l.take i).any (sameT x)
noncomputable def twB (l : List Tr) : Bool := @decide (∃ (i : Nat) (h : i < l.length), anyPre l i l[i] = true) (Classical.propDecidable _)
def NoPre (l : List Tr) (k : Nat) : Prop := ∀ (i : Nat) (h : i < l.length), i < k → anyPre l i l[i] = false
theorem twB_true {l : List Tr} (i : Nat) (h : i < l.length) (e : anyPre l i l[i] = true) : twB l = true := by
  unfold twB
  rw [@decide_eq_true_iff _ (Classical.propDecidable _)]
  exact ⟨i, h, e⟩
theorem twB_false {l : List Tr} (h : NoPre l l.length) : twB l = false := by
  unfold twB
  rw [@decide_eq_false_iff_not _ (Classical.propDecidable _)]
  rintro ⟨i, hi, e⟩
  rw [h i hi hi] at e
  cases e
theorem NoPre.next {l : List Tr} {k : Nat} (h : NoPre l k) (hk : k < l.length) (e : anyPre l k l[k] = false) : NoPre l (k + 1) := fun i hi hik => by
  by_cases q : i = k
  · subst q
    exact e
  · exact h i hi (by omega)

set_option maxHeartbeats 4000000 in
set_option maxRecDepth 100000 in
theorem tree_isTwice (l : List Tr) (A : Option Addr) (n c : Nat) (w : World) (B d : Nat) (hl : ListAt w B d l (.slice A n c)) (hB : B ≤ w.heap.size) (hn : l.length = n) :
    Calls Tryz.prog 129 #[.slice A n c] w fun e w' => e = .returned (.bool (twB l)) ∧ Below w.heap.size w w' := by
  have HL := Lib.hid hl
  have HN := Lib.hid hn
  have hlen := hl.slice.1
  have hcap := hl.cap
  rw [hn] at hlen hcap
  obtain ⟨ans, hans⟩ : ∃ ans, twB l = ans := ⟨_, rfl⟩
  rw [hans]
  have HANS := Lib.hid hans
  clear hl hn hans
  have yc : (n : Int) ≤ c := by omega
  go_enter Tryz.func129, Tryz.ntmps129
  go_wp2_with fail
  go_loopw [7] (fun i wr => ∃ k : Nat, k ≤ n ∧ i = .int .i64 k ∧ Below w.heap.size w wr ∧ NoPre l k) (fun i _ => n - (intOf i).toNat)
  case atStart => exact ⟨0, by omega, rfl, Below.refl _ _, fun i _ h => absurd h (by omega)⟩
  case round =>
    obtain ⟨k, hk, rfl, hbw, hno⟩ := hrel
    have HNO := Lib.hid hno
    clear hno
    by_cases hlt : k < n
    · have hkl : k < l.length := by rw [HN.out]; exact hlt
      obtain ⟨d1, ad, x1, hd1, rfl, hab, hok, hna, hkk⟩ := (HL.out.below hbw hB).at_ hkl
      obtain ⟨_, A2, c2, rfl⟩ := hkk.slice
      have hba : Below wr.heap.size wr (wr.alloc (.cells (cellsV l[k].own (.slice A2 l[k].kids.length c2)) 27)) := (Below.refl _ _).alloc (Nat.le_refl _) _
      have hbk := Blk.new wr (cellsV l[k].own (.slice A2 l[k].kids.length c2)) 27
      have hb2 := hbw.trans (hba.mono hbw.size)
      have HC := contains_twice (sameT l[k]) wr.heap.size (l.take k) (some ad) k c (wr.alloc (.cells (cellsV l[k].own (.slice A2 l[k].kids.length c2)) 27)) B d ((HL.out.below hb2 hB).take k (by omega)) (Nat.le_trans hB hb2.size) (by rw [List.length_take]; omega)
        (fun j hj x' W hW hlx hokx => twice1 d l[k] (l.take k)[j] (.slice A2 l[k].kids.length c2) x' wr.heap.size W B ((hkk.deeper (by omega)).below (hba.trans (hW.mono hba.size)) (Nat.le_trans hB hbw.size)) hlx (Nat.le_trans hB (Nat.le_trans hb2.size hW.size)) (hbk.below hW hbk.lt))
      obtain ⟨b1, hb1⟩ : ∃ b1, anyPre l k l[k] = b1 := ⟨_, rfl⟩
      have hb1' : (l.take k).any (sameT l[k]) = b1 := hb1
      rw [hb1'] at HC
      have HB1 := Lib.hid hb1
      obtain ⟨n2, hn2⟩ : ∃ n2, l[k].kids.length = n2 := ⟨_, rfl⟩
      rw [hn2] at hna hkk HC hb2 hbk
      have y1 : (k : Int) < n := by omega
      obtain ⟨⟨kind, b, neg, dg, ex, u, wd, s⟩, ho⟩ : ∃ o, l[k].own = o := ⟨_, rfl⟩
      rw [ho] at HC hna hb2
      unfold cellsV at HC hb2
      obtain ⟨k0, k1, k2, k3, k4, k5, k6, k7, k8⟩ := hna
      simp only [] at k0 k1 k2 k3 k4 k5 k6 k7 k8 HC hb2
      have HC := Lib.hid HC
      clear hb1 hb1' ho hkk hok hd1 hn2 hba hbk
      go_wp2_with fail
      refine HC.out.mono ?_
      rintro e w2 ⟨rfl, hb⟩
      have hb4 := hb2.trans (hb.mono hb2.size)
      clear hb hbw HC k0 k1 k2 k3 k4 k5 k6 k7 k8 hb2
      cases b1 with
      | true =>
        obtain rfl : true = ans := by rw [← HANS.out]; exact (twB_true k hkl HB1.out).symm
        go_wp2_with fail
        go_ret
        exact ⟨rfl, hb4⟩
      | false =>
        have HNX := Lib.hid (HNO.out.next hkl HB1.out)
        go_wp2_with fail
        go_roundw
        case rel => exact ⟨k + 1, by omega, by go_num, hb4, HNX.out⟩
        case measure => simp [intOf]; omega
    · obtain rfl : k = n := by omega
      have y1 : ¬ (k : Int) < k := by omega
      obtain rfl : false = ans := by
        rw [← HANS.out]
        exact (twB_false (by rw [HN.out]; exact HNO.out)).symm
      go_wp2_with fail
      go_ret
      exact ⟨rfl, hbw⟩
end Go.Proofs.YtfckekaegjjmkaaGreatDoor
namespace Go.Proofs.YtfckekaegjjmkaaGreatDoor
open Go.RowKit Go.Shelf

theorem evens_at (l : List Tr) (i : Nat) (h : 2 * i < l.length) : ∃ h' : i < (evens l).length, (evens l)[i] = l[2 * i] := by
  have h' : i < (evens l).length := by
    rw [evens_length]
    omega
  obtain ⟨_, e⟩ := evens_get l i h'
  exact ⟨h', e⟩
theorem twB_keys (l : List Tr) : twB (evens l) = !keysB l := by
  unfold keysB
  by_cases h : KeysApart l
  · rw [@decide_eq_true _ (Classical.propDecidable _) h]
    refine twB_false (fun i hi _ => ?_)
    unfold anyPre
    rw [List.any_eq_false]
    intro y hy
    obtain ⟨j, hj, rfl⟩ := List.getElem_of_mem hy
    rw [List.length_take] at hj
    have hji : j < i := by omega
    rw [List.getElem_take]
    obtain ⟨h1, e1⟩ := evens_get l i hi
    obtain ⟨h2, e2⟩ := evens_get l j (by omega)
    rw [e1, e2, h (2 * i) (2 * j) h1 (by omega) (by omega) (by omega)]
    decide
  · rw [@decide_eq_false _ (Classical.propDecidable _) h]
    have hex : ∃ (i k : Nat) (hi : i < l.length) (hk : k < i), i % 2 = 0 ∧ k % 2 = 0 ∧ sameT l[i] (l[k]'(by omega)) = true := by
      apply Classical.byContradiction
      intro hn
      apply h
      intro i k hi hk h1 h2
      cases hs : sameT l[i] (l[k]'(by omega)) with
      | false => rfl
      | true => exact absurd ⟨i, k, hi, hk, h1, h2, hs⟩ hn
    obtain ⟨i, k, hi, hk, h1, h2, hs⟩ := hex
    obtain ⟨i', rfl⟩ : ∃ i', i = 2 * i' := ⟨i / 2, by omega⟩
    obtain ⟨k', rfl⟩ : ∃ k', k = 2 * k' := ⟨k / 2, by omega⟩
    obtain ⟨q1, e1⟩ := evens_at l i' hi
    obtain ⟨q2, e2⟩ := evens_at l k' (by omega)
    refine twB_true i' q1 ?_
    unfold anyPre
    rw [List.any_eq_true]
    refine ⟨(evens l)[k'], ?_, by rw [e1, e2]; exact hs⟩
    have : ((evens l).take i')[k']'(by rw [List.length_take]; omega) = (evens l)[k'] := List.getElem_take
    rw [← this]
    exact List.getElem_mem _

set_option maxHeartbeats 4000000 in
set_option maxRecDepth 100000 in
theorem is_Map (id : Int) (kind : Int) (b neg : Bool) (dg : ByteArray) (ex u wd : Int) (s : ByteArray) (l : List Tr) (A : Option Addr) (n c : Nat) (w : World) (B d : Nat) (hl : ListAt w B d l (.slice A n c)) (hB : B ≤ w.heap.size) (hn : l.length = n) (hc : n ≤ 1000000000000) :
    Calls Tryz.prog 88 #[.agg #[.int .i64 id], .agg #[.int .i64 kind, .bool b, .bool neg, .string dg, .int .i64 ex, .int .u64 u, .int .i64 wd, .string s, .slice A n c]] w fun e w' => e = .returned (.bool (onlyB ⟨kind, b, neg, dg, ex, u, wd, s⟩ ⟨0, false, false, ⟨#[]⟩, 0, 0, 0, ⟨#[]⟩⟩ && (decide (n % 2 = 0) && keysB l))) ∧ Below w.heap.size w w' := by
  have HA := Lib.hid (fun W => is_Array id kind b neg dg ex u wd s A n c W)
  obtain ⟨hb2, hk1, hk2⟩ := box2 w #[.int .i64 id] #[.int .i64 kind, .bool b, .bool neg, .string dg, .int .i64 ex, .int .u64 u, .int .i64 wd, .string s, .slice A n c] 69 27
  obtain ⟨bb, hbb⟩ : ∃ bb, onlyB ⟨kind, b, neg, dg, ex, u, wd, s⟩ ⟨0, false, false, ⟨#[]⟩, 0, 0, 0, ⟨#[]⟩⟩ = bb := ⟨_, rfl⟩
  rw [hbb] at HA ⊢
  obtain ⟨kb, hkb⟩ : ∃ kb, keysB l = kb := ⟨_, rfl⟩
  have htw := twB_keys l
  rw [hkb] at htw ⊢
  have HK := Lib.hid (fun W (hW : Below w.heap.size w W) => tree_keys l A n c W B d (hl.below hW hB) (Nat.le_trans hB hW.size) hn hc)
  have HT := Lib.hid (fun W A' n' c' (h : ListAt W W.heap.size (d + 1) (evens l) (.slice A' n' c')) (hn' : (evens l).length = n') => tree_isTwice (evens l) A' n' c' W W.heap.size (d + 1) h (Nat.le_refl _) hn')
  rw [htw] at HT
  have z0 := hk2.cell 0
  have z1 := hk2.cell 1
  have z2 := hk2.cell 2
  have z3 := hk2.cell 3
  have z4 := hk2.cell 4
  have z5 := hk2.cell 5
  have z6 := hk2.cell 6
  have z7 := hk2.cell 7
  have z8 := hk2.cell 8
  have x0 := hk1.cell 0
  have hlen := hl.slice.1
  rw [hn] at hlen
  have tm : (n : Int).tmod 2 = ((n % 2 : Nat) : Int) := rfl
  clear hl hbb hkb htw hc hn
  go_enter Tryz.func88, Tryz.ntmps88
  go_wp2_with fail
  refine (HA.out _).mono ?_
  rintro e w2 ⟨rfl, hb⟩
  have hb3 := hb2.trans (hb.mono hb2.size)
  have hk3 := hk2.below hb hk2.lt
  clear z0 z1 z2 z3 z4 z5 z6 z7 z8 x0 hb hb2 hk1 hk2 HA
  have z8 := hk3.cell 8
  cases bb with
  | false =>
    go_wp2_with fail
    all_goals go_ret
    all_goals exact ⟨rfl, hb3⟩
  | true =>
    by_cases hm : n % 2 = 0
    · rw [hm] at tm
      have HK3 := Lib.hid (HK.out _ hb3)
      go_wp2_with fail
      refine HK3.out.mono ?_
      rintro e w4 ⟨⟨A', n', c', rfl, hn', hl'⟩, hb4⟩
      have hb5 := hb3.trans (hb4.mono hb3.size)
      have HT4 := Lib.hid (HT.out w4 A' n' c' hl' hn')
      clear hb4 hb3 HK HK3 HT hk3 z8 hl' hn'
      go_wp2_with fail
      refine HT4.out.mono ?_
      rintro e w5 ⟨rfl, hb6⟩
      have hb7 := hb5.trans (hb6.mono hb5.size)
      cases kb with
      | true =>
        go_wp2_with fail
        all_goals go_ret
        all_goals exact ⟨ret_bool (by simp [hm]), hb7⟩
      | false =>
        go_wp2_with fail
        all_goals go_ret
        all_goals exact ⟨ret_bool (by simp), hb7⟩
    · have em : n % 2 = 1 := by omega
      rw [em] at tm
      go_wp2_with fail
      all_goals go_ret
      all_goals exact ⟨ret_bool (by simp [em]), hb3⟩
end Go.Proofs.YtfckekaegjjmkaaGreatDoor
