/- The texts GateO, FlowY, FlowN, put together. -/
import Derived.Test.YtfckekaegjjmkaaGreatDoorPi37
import Derived.Test.YtfckekaegjjmkaaGreatDoorPi19
import Derived.Great.Walk
namespace Go.Proofs.YtfckekaegjjmkaaGreatDoor
open Go.RowKit Go.Shelf

set_option maxHeartbeats 2000000 in
set_option maxRecDepth 100000 in
theorem tree_has (id : Int) (b : Nat) (zs : List Int) (n : Nat) (t : TypeId) (w : World) (hk : Blk w b (zs.map (Value.int .i64)).toArray t) (hn : zs.length = n) (hz : n ≤ 4) :
    Calls Tryz.prog 95 #[.agg #[.int .i64 id], .slice (some ⟨b, 0, none⟩) n n] w fun e w' => e = .returned (.bool (zs.contains id)) ∧ Below w.heap.size w w' := by
  have hb1 : Below w.heap.size w (w.alloc (.cells #[.int .i64 id] 67)) := (Below.refl _ _).alloc (Nat.le_refl _) _
  have hk1 := Blk.new w #[.int .i64 id] 67
  have HC := Lib.hid (show Calls Tryz.prog 137 #[.slice (some ⟨b, 0, none⟩) n n, .int .i64 id] (w.alloc (.cells #[.int .i64 id] 67)) fun e w' => e = .returned (.bool (zs.contains id)) ∧ w' = (w.alloc (.cells #[.int .i64 id] 67)) from by
    have := Tryz.slices_Contains_int b 0 n n zs id (w.alloc (.cells #[.int .i64 id] 67)) (by omega) (by omega) (fun j hj => by
      have hk2 := (hk.alloc (.cells #[.int .i64 id] 67)).cell j
      rw [Nat.zero_add, hk2]
      simp [hj])
    rw [← hn, List.take_length] at this
    rw [← hn]
    exact this)
  obtain ⟨cb, hcb⟩ : ∃ cb, zs.contains id = cb := ⟨_, rfl⟩
  rw [hcb] at HC ⊢
  have z0 := hk1.cell 0
  clear hk hn hk1 hcb
  go_enter Tryz.func95, Tryz.ntmps95
  go_wp2_with fail
  refine HC.out.mono ?_
  rintro e w2 ⟨rfl, rfl⟩
  go_wp2_with fail
  go_ret
  exact ⟨rfl, hb1⟩

set_option maxHeartbeats 4000000 in
set_option maxRecDepth 100000 in
theorem tree_isKey {aT aF : Addr} (id : Int) (o : Own) (A : Option Addr) (n c : Nat) (w : World) (ho : OwnOk o) (h : GW w aT aF) :
    Calls Tryz.prog 93 #[.agg #[.int .i64 id], nodeV o (.slice A n c)] w fun e w' => e = .returned (.bool (keyO id o)) ∧ Below w.heap.size w w' := by
  obtain ⟨kind, b, neg, dg, ex, u, wd, s⟩ := o
  have hdg := ho.dg
  simp only [] at hdg
  unfold nodeV keyO
  simp only []
  obtain ⟨hb2, hk1, hk2⟩ := box2 w #[.int .i64 id] #[.int .i64 kind, .bool b, .bool neg, .string dg, .int .i64 ex, .int .u64 u, .int .i64 wd, .string s, .slice A n c] 69 27
  have HD := Lib.hid (dec_ToInt neg dg ex hdg _ (h.below hb2))
  obtain ⟨ans, hans⟩ : ∃ ans, (if kind = 5 then true else if id = 1 then false else if kind = 3 then (toIntD neg dg ex).isSome else decide (kind = 6) || (decide (kind = 2) || decide (kind = 1))) = ans := ⟨_, rfl⟩
  rw [hans]
  obtain ⟨tv, sb, hv1, hv2⟩ : ∃ (tv : Value × Value) (sb : Bool), toIntV (toIntD neg dg ex) = .tuple #[tv.1, tv.2, .bool sb] ∧ (toIntD neg dg ex).isSome = sb := by
    cases toIntD neg dg ex with
    | none => exact ⟨(_, _), false, rfl, rfl⟩
    | some r => exact ⟨(_, _), true, rfl, rfl⟩
  rw [hv1] at HD
  rw [hv2] at hans
  have HANS := Lib.hid hans
  have z0 := hk2.cell 0
  have z1 := hk2.cell 1
  have z2 := hk2.cell 2
  have z3 := hk2.cell 3
  have z4 := hk2.cell 4
  clear hv1 hv2 hans h ho
  go_enter Tryz.func93, Tryz.ntmps93
  go_wp2_with fail
  refine HD.out.mono ?_
  rintro e w2 ⟨rfl, hb⟩
  have hb3 := hb2.trans (hb.mono hb2.size)
  have hk3 := hk2.below hb hk2.lt
  have hk4 := hk1.below hb hk1.lt
  clear z0 z1 z2 z3 z4 hb hb2 hk1 hk2 HD
  have z0 := hk3.cell 0
  have x0 := hk4.cell 0
  by_cases h5 : kind = 5
  · obtain rfl : true = ans := by
      have := HANS.out
      rw [if_pos h5] at this
      exact this
    subst h5
    go_wp2_with fail
    go_ret
    exact ⟨rfl, hb3⟩
  have y5 : (kind == 5) = false := by rw [beq_eq_false_iff_ne]; exact h5
  have hs1 : Blk (w2.alloc (.cells #[.int .i64 1] 3)) w2.heap.size #[.int .i64 1] 3 := Blk.new _ _ _
  have HF := Lib.hid (tree_has id w2.heap.size [1] 1 3 (w2.alloc (.cells #[.int .i64 1] 3)) hs1 rfl (by decide))
  have hb4 := hb3.alloc hb3.size (.cells #[.int .i64 1] 3)
  have hk5 := hk3.alloc (.cells #[.int .i64 1] 3)
  obtain ⟨fb, hfb⟩ : ∃ fb, ([1] : List Int).contains id = fb := ⟨_, rfl⟩
  rw [hfb] at HF
  have HFB := Lib.hid hfb
  clear hfb hs1
  go_wp2_with fail
  refine HF.out.mono ?_
  rintro e w3 ⟨rfl, hb⟩
  have hb6 := hb4.trans (hb.mono hb4.size)
  have hk6 := hk5.below hb hk5.lt
  clear z0 x0 hb hb4 hb3 hk3 hk4 hk5 HF
  have z0 := hk6.cell 0
  cases fb with
  | true =>
    have h1 : id = 1 := by simpa using HFB.out
    obtain rfl : false = ans := by
      have := HANS.out
      rw [if_neg h5, if_pos h1] at this
      exact this
    go_wp2_with fail
    go_ret
    exact ⟨rfl, hb6⟩
  | false =>
    have h1 : ¬ id = 1 := by
      have := HFB.out
      simpa using this
    by_cases h3 : kind = 3
    · obtain rfl : sb = ans := by
        have := HANS.out
        rw [if_neg h5, if_neg h1, if_pos h3] at this
        exact this
      subst h3
      go_wp2_with fail
      go_ret
      exact ⟨rfl, hb6⟩
    · have y3 : (kind == 3) = false := by rw [beq_eq_false_iff_ne]; exact h3
      obtain rfl : (decide (kind = 6) || (decide (kind = 2) || decide (kind = 1))) = ans := by
        have := HANS.out
        rw [if_neg h5, if_neg h1, if_neg h3] at this
        exact this
      by_cases h6 : kind = 6
      · subst h6
        go_wp2_with fail
        go_ret
        exact ⟨rfl, hb6⟩
      have y6 : (kind == 6) = false := by rw [beq_eq_false_iff_ne]; exact h6
      by_cases h2 : kind = 2
      · subst h2
        go_wp2_with fail
        go_ret
        exact ⟨rfl, hb6⟩
      have y2 : (kind == 2) = false := by rw [beq_eq_false_iff_ne]; exact h2
      by_cases h1 : kind = 1
      · subst h1
        go_wp2_with fail
        go_ret
        exact ⟨rfl, hb6⟩
      have y1 : (kind == 1) = false := by rw [beq_eq_false_iff_ne]; exact h1
      go_wp2_with fail
      go_ret
      exact ⟨ret_bool (by rw [decide_eq_false h6, decide_eq_false h2, decide_eq_false h1]; rfl), hb6⟩

set_option maxHeartbeats 4000000 in
set_option maxRecDepth 100000 in
theorem fits_key {aT aF : Addr} (id : Int) (y : Tr) (vy : Value) (bx : Nat) (w : World) (B d : Nat) (hl : ListAt w B d y.kids vy) (ho : OwnOk y.own) (hbx : Blk w bx #[.int .i64 id] 69) (h : GW w aT aF) :
    Calls Tryz.prog 92 #[nodeV y.own vy, .pointer (some ⟨bx, 0, none⟩)] w fun e w' => e = .returned (.bool (!keyO id y.own)) ∧ Below w.heap.size w w' := by
  obtain ⟨_, A, c, rfl⟩ := hl.slice
  obtain ⟨n, hn⟩ : ∃ n, y.kids.length = n := ⟨_, rfl⟩
  rw [hn]
  have hb1 : Below w.heap.size w (w.alloc (.cells (cellsV y.own (.slice A n c)) 27)) := (Below.refl _ _).alloc (Nat.le_refl _) _
  have HK := tree_isKey id y.own A n c _ ho (h.below hb1)
  have hk1 := Blk.new w (cellsV y.own (.slice A n c)) 27
  have hk2 := hbx.alloc (.cells (cellsV y.own (.slice A n c)) 27)
  obtain ⟨kb, hkb⟩ : ∃ kb, keyO id y.own = kb := ⟨_, rfl⟩
  obtain ⟨⟨kind, b, neg, dg, ex, u, wd, s⟩, ho'⟩ : ∃ o, y.own = o := ⟨_, rfl⟩
  rw [hkb] at HK ⊢
  rw [ho'] at HK hb1 hk1 hk2 ⊢
  unfold nodeV at HK ⊢
  unfold cellsV at HK hb1 hk1 hk2
  simp only [] at HK hb1 hk1 hk2 ⊢
  have HK := Lib.hid HK
  have z0 := hk1.cell 0
  have z1 := hk1.cell 1
  have z2 := hk1.cell 2
  have z3 := hk1.cell 3
  have z4 := hk1.cell 4
  have z5 := hk1.cell 5
  have z6 := hk1.cell 6
  have z7 := hk1.cell 7
  have z8 := hk1.cell 8
  have x0 := hk2.cell 0
  clear hl ho hbx h hn hkb ho' hk1 hk2
  go_enter Tryz.func92, Tryz.ntmps92
  go_wp2_with fail
  refine HK.out.mono ?_
  rintro e w2 ⟨rfl, hb⟩
  have hb3 := hb1.trans (hb.mono hb1.size)
  go_wp2_with fail
  go_ret
  exact ⟨rfl, hb3⟩
end Go.Proofs.YtfckekaegjjmkaaGreatDoor
namespace Go.Proofs.YtfckekaegjjmkaaGreatDoor
open Go.RowKit
section
variable {P : Program} {R : World → World → Prop} {ops : Array Oper}

theorem flow_opY (g : Nat) (b : Bool) (t0 : Tmp) {a : Act} {E : World → Prop} {Φ : Nat → Value → World → Prop} {i : Nat} {o : Oper} (hg : o.guard = some (g, b)) (ht0 : (ops[g]?).bind (·.dst) = some t0) (hsel : (o.op matches .select ..) = false)
    (hz : (o.looksAt ops).all (fun t => decide (t < a.tmps.size)) = true) (hd : (match o.dst with | some d => decide (d < a.tmps.size) | none => false) = true)
    (hy : ∀ (env : Nat → Value) (w : World), E w → (∀ j, waitsFor o j = true → Φ j (env j) w) → ∀ ρ, ρ = readOf ops a (waitsFor o) env → ρ (.tmp t0) = .bool b)
    (h : ∀ (env : Nat → Value) (w : World), E w → (∀ j, waitsFor o j = true → Φ j (env j) w) →
      ∀ ρ, ρ = readOf ops a (waitsFor o) env → (∀ v, ρ (.const v) = v) → (∀ f, ρ (.func f) = .func (.func f) #[] #[]) → (∀ g, ρ (.global g) = .pointer (some ⟨g, 0, none⟩)) →
        ∀ K : Value → World → Prop, (∀ v w', Φ i v w' → R w w' → K v w') → opLands P o ρ w K) :
    FlowOp P R ops a E Φ i o := by
  intro env w hE hn a' ha'
  have hw : Region.wanted o (yielded ops a'.tmps) = true := by
    have h1 := hy env w hE hn _ rfl
    have hm : t0 ∈ o.looksAt ops := List.mem_append_right _ (by rw [hg]; simp [ht0])
    have ht : t0 < a.tmps.size := by simpa using List.all_eq_true.1 hz t0 hm
    have h2 : a'.tmps.getD t0 undef = .bool b := by
      rw [ha', frameOf_read ht]
      exact h1
    have ht' : t0 < a'.tmps.size := by rw [ha', frameOf_size]; exact ht
    have h3 : a'.tmps[t0]? = some (.bool b) := by
      rw [Array.getElem?_eq_getElem ht']
      simpa [Array.getD, ht'] using h2
    have h4 : yielded ops a'.tmps g = some b := by
      unfold yielded
      rw [ht0]
      show (match a'.tmps[t0]? with | some (.bool b) => some b | _ => none) = some b
      rw [h3]
    unfold Region.wanted
    rw [hg]
    simp [h4]
  rw [if_pos hw]
  intro K hK
  have h := h env w hE hn _ rfl (fun _ => rfl) (fun _ => rfl) (fun _ => rfl) (fun v w' => Φ i v w' ∧ R w w') (fun _ _ h1 h2 => ⟨h1, h2⟩)
  have hrun : execOp a'.eval o = execOp (readOf ops a (waitsFor o) env) o := execOp_congr o (fun cs b e => by rw [e] at hsel; cases hsel) (fun x hx => by
    cases x with
    | tmp t =>
      have hm : t ∈ o.looksAt ops := List.mem_append_left _ (List.mem_filterMap.2 ⟨.tmp t, by simpa using hx, rfl⟩)
      have ht : t < a.tmps.size := by simpa using List.all_eq_true.1 hz t hm
      rw [ha']
      exact frameOf_read ht _
    | const v => rfl
    | global g => rfl
    | func f => rfl)
  have hput : ∀ v w', Φ i v w' ∧ R w w' → K (a'.put o.dst v) w' := fun v w' h => by
    refine hK _ _ ?_ ?_ h.2
    · cases o.dst <;> rfl
    · have h1 := h.1
      unfold slotOf
      cases hq : o.dst with
      | none => rw [hq] at hd; cases hd
      | some d =>
        rw [hq] at hd
        have : d < a'.tmps.size := by rw [ha', frameOf_size]; simpa using hd
        simpa [Act.put, this] using h1
  unfold Oper.wp
  rw [hrun]
  unfold opLands at h
  revert h
  cases (execOp (readOf ops a (waitsFor o) env) o).run P w with
  | halt x w' => exact False.elim
  | ok n w' =>
    cases n <;> simp only [Oper.upon]
    case value v => exact hput v w'
    case skip => exact hput undef w'
    case enter f args =>
      intro h
      refine Calls.mono h (fun e w'' he => ?_)
      obtain ⟨v, rfl, hv⟩ := he
      exact hput v w'' hv
    all_goals exact False.elim
end
end Go.Proofs.YtfckekaegjjmkaaGreatDoor
namespace Go.Proofs.YtfckekaegjjmkaaGreatDoor
open Go.RowKit
section
variable {P : Program} {R : World → World → Prop} {ops : Array Oper}

theorem flow_opN (g : Nat) (b : Bool) (t0 : Tmp) {a : Act} {E : World → Prop} {Φ : Nat → Value → World → Prop} {i : Nat} {o : Oper} (hg : o.guard = some (g, b)) (ht0 : (ops[g]?).bind (·.dst) = some t0)
    (hz : (o.looksAt ops).all (fun t => decide (t < a.tmps.size)) = true)
    (hy : ∀ (env : Nat → Value) (w : World), E w → (∀ j, waitsFor o j = true → Φ j (env j) w) → ∀ ρ, ρ = readOf ops a (waitsFor o) env → ρ (.tmp t0) ≠ .bool b)
    (h : ∀ w, E w → Φ i undef w) :
    FlowOp P R ops a E Φ i o := by
  intro env w hE hn a' ha'
  have hw : Region.wanted o (yielded ops a'.tmps) = false := by
    have h1 := hy env w hE hn _ rfl
    have hm : t0 ∈ o.looksAt ops := List.mem_append_right _ (by rw [hg]; simp [ht0])
    have ht : t0 < a.tmps.size := by simpa using List.all_eq_true.1 hz t0 hm
    obtain ⟨v, hv⟩ : ∃ v, readOf ops a (waitsFor o) env (.tmp t0) = v := ⟨_, rfl⟩
    rw [hv] at h1
    have h2 : a'.tmps.getD t0 undef = v := by
      rw [ha', frameOf_read ht]
      exact hv
    have ht' : t0 < a'.tmps.size := by rw [ha', frameOf_size]; exact ht
    have h3 : a'.tmps[t0]? = some v := by
      rw [Array.getElem?_eq_getElem ht']
      simpa [Array.getD, ht'] using h2
    have h4 : yielded ops a'.tmps g ≠ some b := by
      unfold yielded
      rw [ht0]
      show (match a'.tmps[t0]? with | some (.bool b) => some b | _ => none) ≠ some b
      rw [h3]
      intro e
      split at e
      · rename_i b' hb'
        apply h1
        rw [Option.some.inj hb', Option.some.inj e]
      · cases e
    unfold Region.wanted
    rw [hg]
    simpa using h4
  rw [if_neg (by rw [hw]; decide)]
  exact h w hE
end
end Go.Proofs.YtfckekaegjjmkaaGreatDoor
