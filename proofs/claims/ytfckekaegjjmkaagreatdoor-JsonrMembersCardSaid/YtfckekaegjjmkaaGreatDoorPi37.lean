/- The texts GateJ, GateM, GateU, put together. -/
import Derived.Test.YtfckekaegjjmkaaGreatDoorPi32
import Derived.Test.YtfckekaegjjmkaaGreatDoorPi36
import Derived.Test.YtfckekaegjjmkaaGreatDoorPi08
namespace Go.Proofs.YtfckekaegjjmkaaGreatDoor
open Go.RowKit Go.Shelf

theorem LAt.take {W : World} {S : Nat → Prop} : ∀ {d : Nat} {l : List Tr} {A : Option Addr} {n c : Nat}, LAt W S d l (.slice A n c) → ∀ i, i ≤ l.length → LAt W S d (l.take i) (.slice A i c)
  | 0, l, A, n, c, ⟨h, _⟩, i, hi => by
    subst h
    have : i = 0 := by simpa using hi
    subst this
    exact LAt.nil _ _ _ _ _
  | d + 1, l, A, n, c, ⟨A', c', hv, hl, h⟩, i, hi => by
    injection hv with e1 e2 e3
    subst e1 e3
    have hlen : (l.take i).length = i := by rw [List.length_take]; omega
    refine ⟨A, c, by rw [hlen], ⟨by omega, by omega⟩, fun k hk => ?_⟩
    have hkl : k < l.length := by omega
    have e : (l.take i)[k] = l[k] := List.getElem_take
    rw [e]
    exact h k hkl

theorem twice1 (d : Nat) (x y : Tr) (vx vy : Value) (bx : Nat) (w : World) (B : Nat) (hx : ListAt w B d x.kids vx) (hy : ListAt w B d y.kids vy) (hB : B ≤ w.heap.size) (hbx : Blk w bx (cellsV x.own vx) 27) :
    Calls Tryz.prog 165 #[nodeV y.own vy, .pointer (some ⟨bx, 0, none⟩)] w fun e w' => e = .returned (.bool (sameT x y)) ∧ Below w.heap.size w w' := by
  have hb1 : Below w.heap.size w (w.alloc (.cells (cellsV y.own vy) 27)) := (Below.refl _ _).alloc (Nat.le_refl _) _
  have HS := tree_Same d x y vx vy _ B (hx.below hb1 hB) (hy.below hb1 hB) (Nat.le_trans hB hb1.size)
  have hk1 := Blk.new w (cellsV y.own vy) 27
  have hk2 := hbx.alloc (.cells (cellsV y.own vy) 27)
  obtain ⟨_, A, c, rfl⟩ := hx.slice
  obtain ⟨_, A', c', rfl⟩ := hy.slice
  obtain ⟨n, hn⟩ : ∃ n, x.kids.length = n := ⟨_, rfl⟩
  obtain ⟨n', hn'⟩ : ∃ n', y.kids.length = n' := ⟨_, rfl⟩
  obtain ⟨st, hst⟩ : ∃ st, sameT x y = st := ⟨_, rfl⟩
  obtain ⟨⟨kind, b, neg, dg, ex, u, wd, s⟩, ho⟩ : ∃ o, x.own = o := ⟨_, rfl⟩
  obtain ⟨⟨kind', b', neg', dg', ex', u', wd', s'⟩, ho'⟩ : ∃ o, y.own = o := ⟨_, rfl⟩
  rw [hst] at HS ⊢
  rw [ho, ho', hn, hn'] at HS
  rw [ho', hn'] at hb1 hk1 hk2 ⊢
  rw [ho, hn] at hk2
  unfold nodeV at HS ⊢
  unfold cellsV at HS hb1 hk1 hk2
  simp only [] at HS hb1 hk1 hk2 ⊢
  have HS := Lib.hid HS
  have z0 := hk1.cell 0
  have z1 := hk1.cell 1
  have z2 := hk1.cell 2
  have z3 := hk1.cell 3
  have z4 := hk1.cell 4
  have z5 := hk1.cell 5
  have z6 := hk1.cell 6
  have z7 := hk1.cell 7
  have z8 := hk1.cell 8
  have v0 := hk2.cell 0
  have v1 := hk2.cell 1
  have v2 := hk2.cell 2
  have v3 := hk2.cell 3
  have v4 := hk2.cell 4
  have v5 := hk2.cell 5
  have v6 := hk2.cell 6
  have v7 := hk2.cell 7
  have v8 := hk2.cell 8
  clear hx hy hbx hst ho ho' hn hn' hk1 hk2
  go_enter Tryz.func165, Tryz.ntmps165
  go_wp2_with fail
  refine HS.out.mono ?_
  rintro e w2 ⟨rfl, hb⟩
  have hb3 := hb1.trans (hb.mono hb1.size)
  go_wp2_with fail
  go_ret
  exact ⟨rfl, hb3⟩

/-- Is one of those ahead of number i the same as it? -/
def anyPre (l : List Tr) (i : Nat) (x : Tr) : Bool := (l.take i).any (sameT x)
noncomputable def twB (l : List Tr) : Bool := @decide (∃ (i : Nat) (h : i < l.length), anyPre l i l[i] = true) (Classical.propDecidable _)
def NoPre (l : List Tr) (k : Nat) : Prop := ∀ (i : Nat) (h : i < l.length), i < k → anyPre l i l[i] = false
theorem twB_true {l : List Tr} (i : Nat) (h : i < l.length) (e : anyPre l i l[i] = true) : twB l = true := by
  unfold twB
  rw [@decide_eq_true_iff _ (Classical.propDecidable _)]
  exact ⟨i, h, e⟩
theorem twB_false {l : List Tr} (h : NoPre l l.length) : twB l = false := by
  unfold twB
  rw [@decide_eq_false_iff_not _ (Classical.propDecidable _)]
  rintro ⟨i, hi, e⟩
  rw [h i hi hi] at e
  cases e
theorem NoPre.next {l : List Tr} {k : Nat} (h : NoPre l k) (hk : k < l.length) (e : anyPre l k l[k] = false) : NoPre l (k + 1) := fun i hi hik => by
  by_cases q : i = k
  · subst q
    exact e
  · exact h i hi (by omega)

set_option maxHeartbeats 4000000 in
set_option maxRecDepth 100000 in
theorem tree_isTwice (l : List Tr) (A : Option Addr) (n c : Nat) (w : World) (B d : Nat) (hl : ListAt w B d l (.slice A n c)) (hB : B ≤ w.heap.size) (hn : l.length = n) :
    Calls Tryz.prog 129 #[.slice A n c] w fun e w' => e = .returned (.bool (twB l)) ∧ Below w.heap.size w w' := by
  have HL := Lib.hid hl
  have HN := Lib.hid hn
  have hlen := hl.slice.1
  have hcap := hl.cap
  rw [hn] at hlen hcap
  obtain ⟨ans, hans⟩ : ∃ ans, twB l = ans := ⟨_, rfl⟩
  rw [hans]
  have HANS := Lib.hid hans
  clear hl hn hans
  have yc : (n : Int) ≤ c := by omega
  go_enter Tryz.func129, Tryz.ntmps129
  go_wp2_with fail
  go_loopw [7] (fun i wr => ∃ k : Nat, k ≤ n ∧ i = .int .i64 k ∧ Below w.heap.size w wr ∧ NoPre l k) (fun i _ => n - (intOf i).toNat)
  case atStart => exact ⟨0, by omega, rfl, Below.refl _ _, fun i _ h => absurd h (by omega)⟩
  case round =>
    obtain ⟨k, hk, rfl, hbw, hno⟩ := hrel
    have HNO := Lib.hid hno
    clear hno
    by_cases hlt : k < n
    · have hkl : k < l.length := by rw [HN.out]; exact hlt
      obtain ⟨d1, ad, x1, hd1, rfl, hab, hok, hna, hkk⟩ := (HL.out.below hbw hB).at_ hkl
      obtain ⟨_, A2, c2, rfl⟩ := hkk.slice
      have hba : Below wr.heap.size wr (wr.alloc (.cells (cellsV l[k].own (.slice A2 l[k].kids.length c2)) 27)) := (Below.refl _ _).alloc (Nat.le_refl _) _
      have hbk := Blk.new wr (cellsV l[k].own (.slice A2 l[k].kids.length c2)) 27
      have hb2 := hbw.trans (hba.mono hbw.size)
      have HC := contains_twice (sameT l[k]) wr.heap.size (l.take k) (some ad) k c (wr.alloc (.cells (cellsV l[k].own (.slice A2 l[k].kids.length c2)) 27)) B d ((HL.out.below hb2 hB).take k (by omega)) (Nat.le_trans hB hb2.size) (by rw [List.length_take]; omega)
        (fun j hj x' W hW hlx hokx => twice1 d l[k] (l.take k)[j] (.slice A2 l[k].kids.length c2) x' wr.heap.size W B ((hkk.deeper (by omega)).below (hba.trans (hW.mono hba.size)) (Nat.le_trans hB hbw.size)) hlx (Nat.le_trans hB (Nat.le_trans hb2.size hW.size)) (hbk.below hW hbk.lt))
      obtain ⟨b1, hb1⟩ : ∃ b1, anyPre l k l[k] = b1 := ⟨_, rfl⟩
      have hb1' : (l.take k).any (sameT l[k]) = b1 := hb1
      rw [hb1'] at HC
      have HB1 := Lib.hid hb1
      obtain ⟨n2, hn2⟩ : ∃ n2, l[k].kids.length = n2 := ⟨_, rfl⟩
      rw [hn2] at hna hkk HC hb2 hbk
      have y1 : (k : Int) < n := by omega
      obtain ⟨⟨kind, b, neg, dg, ex, u, wd, s⟩, ho⟩ : ∃ o, l[k].own = o := ⟨_, rfl⟩
      rw [ho] at HC hna hb2
      unfold cellsV at HC hb2
      obtain ⟨k0, k1, k2, k3, k4, k5, k6, k7, k8⟩ := hna
      simp only [] at k0 k1 k2 k3 k4 k5 k6 k7 k8 HC hb2
      have HC := Lib.hid HC
      clear hb1 hb1' ho hkk hok hd1 hn2 hba hbk
      go_wp2_with fail
      refine HC.out.mono ?_
      rintro e w2 ⟨rfl, hb⟩
      have hb4 := hb2.trans (hb.mono hb2.size)
      clear hb hbw HC k0 k1 k2 k3 k4 k5 k6 k7 k8 hb2
      cases b1 with
      | true =>
        obtain rfl : true = ans := by rw [← HANS.out]; exact (twB_true k hkl HB1.out).symm
        go_wp2_with fail
        go_ret
        exact ⟨rfl, hb4⟩
      | false =>
        have HNX := Lib.hid (HNO.out.next hkl HB1.out)
        go_wp2_with fail
        go_roundw
        case rel => exact ⟨k + 1, by omega, by go_num, hb4, HNX.out⟩
        case measure => simp [intOf]; omega
    · obtain rfl : k = n := by omega
      have y1 : ¬ (k : Int) < k := by omega
      obtain rfl : false = ans := by
        rw [← HANS.out]
        exact (twB_false (by rw [HN.out]; exact HNO.out)).symm
      go_wp2_with fail
      go_ret
      exact ⟨rfl, hbw⟩
end Go.Proofs.YtfckekaegjjmkaaGreatDoor
namespace Go.Proofs.YtfckekaegjjmkaaGreatDoor
open Go.RowKit Go.Shelf

theorem evens_at (l : List Tr) (i : Nat) (h : 2 * i < l.length) : ∃ h' : i < (evens l).length, (evens l)[i] = l[2 * i] := by
  have h' : i < (evens l).length := by
    rw [evens_length]
    omega
  obtain ⟨_, e⟩ := evens_get l i h'
  exact ⟨h', e⟩
theorem twB_keys (l : List Tr) : twB (evens l) = !keysB l := by
  unfold keysB
  by_cases h : KeysApart l
  · rw [@decide_eq_true _ (Classical.propDecidable _) h]
    refine twB_false (fun i hi _ => ?_)
    unfold anyPre
    rw [List.any_eq_false]
    intro y hy
    obtain ⟨j, hj, rfl⟩ := List.getElem_of_mem hy
    rw [List.length_take] at hj
    have hji : j < i := by omega
    rw [List.getElem_take]
    obtain ⟨h1, e1⟩ := evens_get l i hi
    obtain ⟨h2, e2⟩ := evens_get l j (by omega)
    rw [e1, e2, h (2 * i) (2 * j) h1 (by omega) (by omega) (by omega)]
    decide
  · rw [@decide_eq_false _ (Classical.propDecidable _) h]
    have hex : ∃ (i k : Nat) (hi : i < l.length) (hk : k < i), i % 2 = 0 ∧ k % 2 = 0 ∧ sameT l[i] (l[k]'(by omega)) = true := by
      apply Classical.byContradiction
      intro hn
      apply h
      intro i k hi hk h1 h2
      cases hs : sameT l[i] (l[k]'(by omega)) with
      | false => rfl
      | true => exact absurd ⟨i, k, hi, hk, h1, h2, hs⟩ hn
    obtain ⟨i, k, hi, hk, h1, h2, hs⟩ := hex
    obtain ⟨i', rfl⟩ : ∃ i', i = 2 * i' := ⟨i / 2, by omega⟩
    obtain ⟨k', rfl⟩ : ∃ k', k = 2 * k' := ⟨k / 2, by omega⟩
    obtain ⟨q1, e1⟩ := evens_at l i' hi
    obtain ⟨q2, e2⟩ := evens_at l k' (by omega)
    refine twB_true i' q1 ?_
    unfold anyPre
    rw [List.any_eq_true]
    refine ⟨(evens l)[k'], ?_, by rw [e1, e2]; exact hs⟩
    have : ((evens l).take i')[k']'(by rw [List.length_take]; omega) = (evens l)[k'] := List.getElem_take
    rw [← this]
    exact List.getElem_mem _

set_option maxHeartbeats 4000000 in
set_option maxRecDepth 100000 in
theorem is_Map (id : Int) (kind : Int) (b neg : Bool) (dg : ByteArray) (ex u wd : Int) (s : ByteArray) (l : List Tr) (A : Option Addr) (n c : Nat) (w : World) (B d : Nat) (hl : ListAt w B d l (.slice A n c)) (hB : B ≤ w.heap.size) (hn : l.length = n) (hc : n ≤ 1000000000000) :
    Calls Tryz.prog 88 #[.agg #[.int .i64 id], .agg #[.int .i64 kind, .bool b, .bool neg, .string dg, .int .i64 ex, .int .u64 u, .int .i64 wd, .string s, .slice A n c]] w fun e w' => e = .returned (.bool (onlyB ⟨kind, b, neg, dg, ex, u, wd, s⟩ ⟨0, false, false, ⟨#[]⟩, 0, 0, 0, ⟨#[]⟩⟩ && (decide (n % 2 = 0) && keysB l))) ∧ Below w.heap.size w w' := by
  have HA := Lib.hid (fun W => is_Array id kind b neg dg ex u wd s A n c W)
  obtain ⟨hb2, hk1, hk2⟩ := box2 w #[.int .i64 id] #[.int .i64 kind, .bool b, .bool neg, .string dg, .int .i64 ex, .int .u64 u, .int .i64 wd, .string s, .slice A n c] 69 27
  obtain ⟨bb, hbb⟩ : ∃ bb, onlyB ⟨kind, b, neg, dg, ex, u, wd, s⟩ ⟨0, false, false, ⟨#[]⟩, 0, 0, 0, ⟨#[]⟩⟩ = bb := ⟨_, rfl⟩
  rw [hbb] at HA ⊢
  obtain ⟨kb, hkb⟩ : ∃ kb, keysB l = kb := ⟨_, rfl⟩
  have htw := twB_keys l
  rw [hkb] at htw ⊢
  have HK := Lib.hid (fun W (hW : Below w.heap.size w W) => tree_keys l A n c W B d (hl.below hW hB) (Nat.le_trans hB hW.size) hn hc)
  have HT := Lib.hid (fun W A' n' c' (h : ListAt W W.heap.size (d + 1) (evens l) (.slice A' n' c')) (hn' : (evens l).length = n') => tree_isTwice (evens l) A' n' c' W W.heap.size (d + 1) h (Nat.le_refl _) hn')
  rw [htw] at HT
  have z0 := hk2.cell 0
  have z1 := hk2.cell 1
  have z2 := hk2.cell 2
  have z3 := hk2.cell 3
  have z4 := hk2.cell 4
  have z5 := hk2.cell 5
  have z6 := hk2.cell 6
  have z7 := hk2.cell 7
  have z8 := hk2.cell 8
  have x0 := hk1.cell 0
  have hlen := hl.slice.1
  rw [hn] at hlen
  have tm : (n : Int).tmod 2 = ((n % 2 : Nat) : Int) := rfl
  clear hl hbb hkb htw hc hn
  go_enter Tryz.func88, Tryz.ntmps88
  go_wp2_with fail
  refine (HA.out _).mono ?_
  rintro e w2 ⟨rfl, hb⟩
  have hb3 := hb2.trans (hb.mono hb2.size)
  have hk3 := hk2.below hb hk2.lt
  clear z0 z1 z2 z3 z4 z5 z6 z7 z8 x0 hb hb2 hk1 hk2 HA
  have z8 := hk3.cell 8
  cases bb with
  | false =>
    go_wp2_with fail
    all_goals go_ret
    all_goals exact ⟨rfl, hb3⟩
  | true =>
    by_cases hm : n % 2 = 0
    · rw [hm] at tm
      have HK3 := Lib.hid (HK.out _ hb3)
      go_wp2_with fail
      refine HK3.out.mono ?_
      rintro e w4 ⟨⟨A', n', c', rfl, hn', hl'⟩, hb4⟩
      have hb5 := hb3.trans (hb4.mono hb3.size)
      have HT4 := Lib.hid (HT.out w4 A' n' c' hl' hn')
      clear hb4 hb3 HK HK3 HT hk3 z8 hl' hn'
      go_wp2_with fail
      refine HT4.out.mono ?_
      rintro e w5 ⟨rfl, hb6⟩
      have hb7 := hb5.trans (hb6.mono hb5.size)
      cases kb with
      | true =>
        go_wp2_with fail
        all_goals go_ret
        all_goals exact ⟨ret_bool (by simp [hm]), hb7⟩
      | false =>
        go_wp2_with fail
        all_goals go_ret
        all_goals exact ⟨ret_bool (by simp), hb7⟩
    · have em : n % 2 = 1 := by omega
      rw [em] at tm
      go_wp2_with fail
      all_goals go_ret
      all_goals exact ⟨ret_bool (by simp [em]), hb3⟩
end Go.Proofs.YtfckekaegjjmkaaGreatDoor
namespace Go.Proofs.YtfckekaegjjmkaaGreatDoor
open Go.RowKit Go.Shelf

theorem run_insI (w : World) (t : TypeId) (kt et : TypeId) (ht : Tryz.prog.underlying t = some (.map kt et)) (hk : Tryz.prog.underlying kt = some (.int .i64)) (es : Array MapEntry) (c : Nat) (k : Int) (v : Value)
    (hf : Instr.findNow (.int .i64) (.int .i64 k) es.toList 0 = some none) :
    (Instr.mapUpdate t (.map (some w.heap.size)) (.int .i64 k) v).run Tryz.prog (w.alloc (.map es c)) = .ok () (w.alloc (.map (es.push ⟨.int .i64 k, v, c⟩) (c + 1))) := by
  have h1 : (Instr.findKey kt (.int .i64 k) es.toList).run Tryz.prog (w.alloc (.map es c)) = .ok none (w.alloc (.map es c)) := MapKept.run_findKey hk hf
  have h2 : (Instr.checkKey false 10000 kt (.int .i64 k)).run Tryz.prog (w.alloc (.map es c)) = .ok () (w.alloc (.map es c)) := by
    unfold Instr.checkKey
    simp [run_underlying hk]
  have h3 : ∀ o, (setObj w.heap.size o).run Tryz.prog (w.alloc (.map es c)) = .ok () (w.alloc o) := fun o => by
    simp only [setObj, Sem.run, heap_alloc_new]
    show Result.ok () ({ w.alloc (.map es c) with heap := (w.heap.push (.map es c)).setIfInBounds w.heap.size o } : World) = _
    rw [show (w.heap.push (.map es c)).setIfInBounds w.heap.size o = w.heap.push o by
      apply Array.toList_inj.1
      simp]
    rfl
  simp only [Instr.mapUpdate, Sem.run_bind, run_underlying ht, Result.andThen, MapKept.run_getObj_map (heap_alloc_new w _), h2, h1, h3]

def kindsE : Array MapEntry := #[⟨.int .i64 1, .func (.func 81) #[] #[], 0⟩, ⟨.int .i64 2, .func (.func 82) #[] #[], 1⟩, ⟨.int .i64 3, .func (.func 83) #[] #[], 2⟩, ⟨.int .i64 4, .func (.func 84) #[] #[], 3⟩, ⟨.int .i64 5, .func (.func 85) #[] #[], 4⟩, ⟨.int .i64 6, .func (.func 86) #[] #[], 5⟩, ⟨.int .i64 7, .func (.func 87) #[] #[], 6⟩, ⟨.int .i64 8, .func (.func 88) #[] #[], 7⟩, ⟨.int .i64 9, .func (.func 89) #[] #[], 8⟩, ⟨.int .i64 10, .func (.func 90) #[] #[], 9⟩, ⟨.int .i64 11, .func (.func 91) #[] #[], 10⟩]

set_option maxHeartbeats 4000000 in
set_option maxRecDepth 100000 in
theorem tree_kinds (w : World) :
    Calls Tryz.prog 57 #[] w fun e w' => e = .returned (.map (some w.heap.size)) ∧ w' = w.alloc (.map kindsE 11) := by
  have h0 := run_makeMap (P := Tryz.prog) 94 w
  have hi := run_insI w 94 3 96 Tryz.underlying94 Tryz.underlying3
  have g1 := hi #[] 0 1 (.func (.func 81) #[] #[]) (by kernel_rfl)
  have g2 := hi #[⟨.int .i64 1, .func (.func 81) #[] #[], 0⟩] 1 2 (.func (.func 82) #[] #[]) (by kernel_rfl)
  have g3 := hi #[⟨.int .i64 1, .func (.func 81) #[] #[], 0⟩, ⟨.int .i64 2, .func (.func 82) #[] #[], 1⟩] 2 3 (.func (.func 83) #[] #[]) (by kernel_rfl)
  have g4 := hi #[⟨.int .i64 1, .func (.func 81) #[] #[], 0⟩, ⟨.int .i64 2, .func (.func 82) #[] #[], 1⟩, ⟨.int .i64 3, .func (.func 83) #[] #[], 2⟩] 3 4 (.func (.func 84) #[] #[]) (by kernel_rfl)
  have g5 := hi #[⟨.int .i64 1, .func (.func 81) #[] #[], 0⟩, ⟨.int .i64 2, .func (.func 82) #[] #[], 1⟩, ⟨.int .i64 3, .func (.func 83) #[] #[], 2⟩, ⟨.int .i64 4, .func (.func 84) #[] #[], 3⟩] 4 5 (.func (.func 85) #[] #[]) (by kernel_rfl)
  have g6 := hi #[⟨.int .i64 1, .func (.func 81) #[] #[], 0⟩, ⟨.int .i64 2, .func (.func 82) #[] #[], 1⟩, ⟨.int .i64 3, .func (.func 83) #[] #[], 2⟩, ⟨.int .i64 4, .func (.func 84) #[] #[], 3⟩, ⟨.int .i64 5, .func (.func 85) #[] #[], 4⟩] 5 6 (.func (.func 86) #[] #[]) (by kernel_rfl)
  have g7 := hi #[⟨.int .i64 1, .func (.func 81) #[] #[], 0⟩, ⟨.int .i64 2, .func (.func 82) #[] #[], 1⟩, ⟨.int .i64 3, .func (.func 83) #[] #[], 2⟩, ⟨.int .i64 4, .func (.func 84) #[] #[], 3⟩, ⟨.int .i64 5, .func (.func 85) #[] #[], 4⟩, ⟨.int .i64 6, .func (.func 86) #[] #[], 5⟩] 6 7 (.func (.func 87) #[] #[]) (by kernel_rfl)
  have g8 := hi #[⟨.int .i64 1, .func (.func 81) #[] #[], 0⟩, ⟨.int .i64 2, .func (.func 82) #[] #[], 1⟩, ⟨.int .i64 3, .func (.func 83) #[] #[], 2⟩, ⟨.int .i64 4, .func (.func 84) #[] #[], 3⟩, ⟨.int .i64 5, .func (.func 85) #[] #[], 4⟩, ⟨.int .i64 6, .func (.func 86) #[] #[], 5⟩, ⟨.int .i64 7, .func (.func 87) #[] #[], 6⟩] 7 8 (.func (.func 88) #[] #[]) (by kernel_rfl)
  have g9 := hi #[⟨.int .i64 1, .func (.func 81) #[] #[], 0⟩, ⟨.int .i64 2, .func (.func 82) #[] #[], 1⟩, ⟨.int .i64 3, .func (.func 83) #[] #[], 2⟩, ⟨.int .i64 4, .func (.func 84) #[] #[], 3⟩, ⟨.int .i64 5, .func (.func 85) #[] #[], 4⟩, ⟨.int .i64 6, .func (.func 86) #[] #[], 5⟩, ⟨.int .i64 7, .func (.func 87) #[] #[], 6⟩, ⟨.int .i64 8, .func (.func 88) #[] #[], 7⟩] 8 9 (.func (.func 89) #[] #[]) (by kernel_rfl)
  have g10 := hi #[⟨.int .i64 1, .func (.func 81) #[] #[], 0⟩, ⟨.int .i64 2, .func (.func 82) #[] #[], 1⟩, ⟨.int .i64 3, .func (.func 83) #[] #[], 2⟩, ⟨.int .i64 4, .func (.func 84) #[] #[], 3⟩, ⟨.int .i64 5, .func (.func 85) #[] #[], 4⟩, ⟨.int .i64 6, .func (.func 86) #[] #[], 5⟩, ⟨.int .i64 7, .func (.func 87) #[] #[], 6⟩, ⟨.int .i64 8, .func (.func 88) #[] #[], 7⟩, ⟨.int .i64 9, .func (.func 89) #[] #[], 8⟩] 9 10 (.func (.func 90) #[] #[]) (by kernel_rfl)
  have g11 := hi #[⟨.int .i64 1, .func (.func 81) #[] #[], 0⟩, ⟨.int .i64 2, .func (.func 82) #[] #[], 1⟩, ⟨.int .i64 3, .func (.func 83) #[] #[], 2⟩, ⟨.int .i64 4, .func (.func 84) #[] #[], 3⟩, ⟨.int .i64 5, .func (.func 85) #[] #[], 4⟩, ⟨.int .i64 6, .func (.func 86) #[] #[], 5⟩, ⟨.int .i64 7, .func (.func 87) #[] #[], 6⟩, ⟨.int .i64 8, .func (.func 88) #[] #[], 7⟩, ⟨.int .i64 9, .func (.func 89) #[] #[], 8⟩, ⟨.int .i64 10, .func (.func 90) #[] #[], 9⟩] 10 11 (.func (.func 91) #[] #[]) (by kernel_rfl)
  clear hi
  simp only [List.push_toArray, List.cons_append, List.nil_append, Nat.zero_add, Nat.reduceAdd] at g1 g2 g3 g4 g5 g6 g7 g8 g9 g10 g11
  go_enter Tryz.func57, Tryz.ntmps57
  go_wp2
  go_ret
  exact ⟨rfl, rfl⟩

/-- The check of a kind. -/
def isF (k : Int) : FuncId := if k = 1 then 81 else if k = 2 then 82 else if k = 3 then 83 else if k = 4 then 84 else if k = 5 then 85 else if k = 6 then 86 else if k = 7 then 87 else if k = 8 then 88 else if k = 9 then 89 else if k = 10 then 90 else 91
theorem kinds_find (k : Int) (h1 : 1 ≤ k) (h2 : k ≤ 11) : ∃ i, Instr.findNow (.int .i64) (.int .i64 k) kindsE.toList 0 = some (some (i, .func (.func (isF k)) #[] #[])) := by
  have : k = 1 ∨ k = 2 ∨ k = 3 ∨ k = 4 ∨ k = 5 ∨ k = 6 ∨ k = 7 ∨ k = 8 ∨ k = 9 ∨ k = 10 ∨ k = 11 := by omega
  rcases this with rfl | rfl | rfl | rfl | rfl | rfl | rfl | rfl | rfl | rfl | rfl <;> exact ⟨_, rfl⟩
theorem kinds_miss (k : Int) (h : ¬ (1 ≤ k ∧ k ≤ 11)) : Instr.findNow (.int .i64) (.int .i64 k) kindsE.toList 0 = some none := by
  have e : ∀ m : Int, 1 ≤ m → m ≤ 11 → (m == k) = false ∧ (k == m) = false := fun m h1 h2 => by
    constructor <;> (rw [beq_eq_false_iff_ne]; omega)
  have e1 := e 1 (by decide) (by decide)
  have e2 := e 2 (by decide) (by decide)
  have e3 := e 3 (by decide) (by decide)
  have e4 := e 4 (by decide) (by decide)
  have e5 := e 5 (by decide) (by decide)
  have e6 := e 6 (by decide) (by decide)
  have e7 := e 7 (by decide) (by decide)
  have e8 := e 8 (by decide) (by decide)
  have e9 := e 9 (by decide) (by decide)
  have e10 := e 10 (by decide) (by decide)
  have e11 := e 11 (by decide) (by decide)
  simp [kindsE, Instr.findNow, Instr.sameNow, e1, e2, e3, e4, e5, e6, e7, e8, e9, e10, e11]

set_option maxRecDepth 100000 in
theorem kinds_look (w : World) (b : Nat) (hm : w.heap[b]? = some (.map kindsE 11)) (k : Int) (h1 : 1 ≤ k) (h2 : k ≤ 11) :
    (Instr.lookup 94 (.map (some b)) (.int .i64 k) true).run Tryz.prog w = .ok (.tuple #[.func (.func (isF k)) #[] #[], .bool true]) w := by
  obtain ⟨i, hf⟩ := kinds_find k h1 h2
  have q1 : (Instr.findKey 3 (.int .i64 k) kindsE.toList).run Tryz.prog w = .ok (some (i, .func (.func (isF k)) #[] #[])) w := MapKept.run_findKey Tryz.underlying3 hf
  have q2 : (Instr.checkKey kindsE.isEmpty 10000 3 (.int .i64 k)).run Tryz.prog w = .ok () w := by
    unfold Instr.checkKey
    simp [run_underlying Tryz.underlying3]
  simp only [Instr.lookup, Sem.run_bind, run_underlying Tryz.underlying94, Result.andThen, MapKept.run_getObj_map hm, q2, q1, Sem.run_pure]
  rfl
set_option maxRecDepth 100000 in
theorem kinds_lookno (w : World) (b : Nat) (hm : w.heap[b]? = some (.map kindsE 11)) (k : Int) (h : ¬ (1 ≤ k ∧ k ≤ 11)) :
    (Instr.lookup 94 (.map (some b)) (.int .i64 k) true).run Tryz.prog w = .ok (.tuple #[.nilFunc, .bool false]) w := by
  have hf := kinds_miss k h
  have q1 : (Instr.findKey 3 (.int .i64 k) kindsE.toList).run Tryz.prog w = .ok none w := MapKept.run_findKey Tryz.underlying3 hf
  have q2 : (Instr.checkKey kindsE.isEmpty 10000 3 (.int .i64 k)).run Tryz.prog w = .ok () w := by
    unfold Instr.checkKey
    simp [run_underlying Tryz.underlying3]
  have q3 : (zeroValue 96).run Tryz.prog w = .ok .nilFunc w := by kernel_rfl
  simp only [Instr.lookup, Sem.run_bind, run_underlying Tryz.underlying94, Result.andThen, MapKept.run_getObj_map hm, q2, q1, q3, Sem.run_pure]
  rfl

set_option maxRecDepth 100000 in
theorem isF_enters (k : Int) (h1 : 1 ≤ k) (h2 : k ≤ 11) (args : Array Value) (w : World) : (callFunc (isF k) args).run Tryz.prog w = .ok (.enter (isF k) args) w := by
  have : k = 1 ∨ k = 2 ∨ k = 3 ∨ k = 4 ∨ k = 5 ∨ k = 6 ∨ k = 7 ∨ k = 8 ∨ k = 9 ∨ k = 10 ∨ k = 11 := by omega
  rcases this with rfl | rfl | rfl | rfl | rfl | rfl | rfl | rfl | rfl | rfl | rfl
  · exact enters_of Tryz.func81 (by kernel_rfl) rfl args w
  · exact enters_of Tryz.func82 (by kernel_rfl) rfl args w
  · exact enters_of Tryz.func83 (by kernel_rfl) rfl args w
  · exact enters_of Tryz.func84 (by kernel_rfl) rfl args w
  · exact enters_of Tryz.func85 (by kernel_rfl) rfl args w
  · exact enters_of Tryz.func86 (by kernel_rfl) rfl args w
  · exact enters_of Tryz.func87 (by kernel_rfl) rfl args w
  · exact enters_of Tryz.func88 (by kernel_rfl) rfl args w
  · exact enters_of Tryz.func89 (by kernel_rfl) rfl args w
  · exact enters_of Tryz.func90 (by kernel_rfl) rfl args w
  · exact enters_of Tryz.func91 (by kernel_rfl) rfl args w

set_option maxRecDepth 100000 in
/-- The check of a node's kind tells whether the node is right. -/
theorem is_node (id : Int) (o : Own) (l : List Tr) (A : Option Addr) (n c : Nat) (w : World) (B d : Nat) (hl : ListAt w B d l (.slice A n c)) (hB : B ≤ w.heap.size) (hn : l.length = n) (hc : n ≤ 1000000000000) (ho : OwnOk o)
    (hT : Lib.Utf8Tabs 4 5 w) (h1 : 1 ≤ o.kind) (h2 : o.kind ≤ 11) :
    Calls Tryz.prog (isF o.kind) #[.agg #[.int .i64 id], nodeV o (.slice A n c)] w fun e w' => e = .returned (.bool (ownB o l)) ∧ Below w.heap.size w w' := by
  obtain ⟨kind, b, neg, dg, ex, u, wd, s⟩ := o
  simp only [] at h1 h2 ⊢
  have : kind = 1 ∨ kind = 2 ∨ kind = 3 ∨ kind = 4 ∨ kind = 5 ∨ kind = 6 ∨ kind = 7 ∨ kind = 8 ∨ kind = 9 ∨ kind = 10 ∨ kind = 11 := by omega
  rcases this with rfl | rfl | rfl | rfl | rfl | rfl | rfl | rfl | rfl | rfl | rfl
  · refine (is_Null id 1 b neg dg ex u wd s A n c w).mono ?_
    rintro e w' ⟨rfl, hb⟩
    refine ⟨ret_bool ?_, hb⟩
    unfold ownB
    rw [hn]
    simp only []
    simp
  · refine (is_Bool id 2 b neg dg ex u wd s A n c w).mono ?_
    rintro e w' ⟨rfl, hb⟩
    refine ⟨ret_bool ?_, hb⟩
    unfold ownB
    rw [hn]
    simp only []
    simp
  · refine (is_Num id 3 b neg dg ex u wd s A n c w ho.dg).mono ?_
    rintro e w' ⟨rfl, hb⟩
    refine ⟨ret_bool ?_, hb⟩
    unfold ownB
    rw [hn]
    simp only []
    simp [Bool.and_assoc]
  · refine (is_Float id 4 b neg dg ex u wd s A n c w ho.u).mono ?_
    rintro e w' ⟨rfl, hb⟩
    refine ⟨ret_bool ?_, hb⟩
    unfold ownB
    rw [hn]
    simp only []
    simp [Bool.and_assoc]
  · refine (is_Text id 5 b neg dg ex u wd s A n c w ho.s hT).mono ?_
    rintro e w' ⟨rfl, hb⟩
    refine ⟨ret_bool ?_, hb⟩
    unfold ownB
    rw [hn]
    simp only []
    simp [Bool.and_assoc]
  · refine (is_Bytes id 6 b neg dg ex u wd s A n c w).mono ?_
    rintro e w' ⟨rfl, hb⟩
    refine ⟨ret_bool ?_, hb⟩
    unfold ownB
    rw [hn]
    simp only []
    simp [Bool.and_assoc]
  · refine (is_Array id 7 b neg dg ex u wd s A n c w).mono ?_
    rintro e w' ⟨rfl, hb⟩
    refine ⟨ret_bool ?_, hb⟩
    unfold ownB
    rw [hn]
    simp only []
    simp
  · refine (is_Map id 8 b neg dg ex u wd s l A n c w B d hl hB hn hc).mono ?_
    rintro e w' ⟨rfl, hb⟩
    refine ⟨ret_bool ?_, hb⟩
    unfold ownB
    rw [hn]
    simp only []
    simp
  · refine (is_Tag id 9 b neg dg ex u wd s A n c w).mono ?_
    rintro e w' ⟨rfl, hb⟩
    refine ⟨ret_bool ?_, hb⟩
    unfold ownB
    rw [hn]
    simp only []
    simp [Bool.and_comm]
  · refine (is_Simple id 10 b neg dg ex u wd s A n c w ho.u).mono ?_
    rintro e w' ⟨rfl, hb⟩
    refine ⟨ret_bool ?_, hb⟩
    unfold ownB
    rw [hn]
    simp only []
    simp [Bool.and_assoc]
  · refine (is_Ext id 11 b neg dg ex u wd s A n c w).mono ?_
    rintro e w' ⟨rfl, hb⟩
    refine ⟨ret_bool ?_, hb⟩
    unfold ownB
    rw [hn]
    simp only []
    simp [Bool.and_assoc]
end Go.Proofs.YtfckekaegjjmkaaGreatDoor
