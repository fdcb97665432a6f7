/- The texts DelB, FlowY, put together. -/
import Derived.Test.YtgfeeakcpojicaaGreatDoorPk31
import Derived.Test.YtgfeeakcpojicaaGreatDoorPk42
import Derived.Test.YtgfeeakcpojicaaGreatDoorPk22
/- path: Delete, where the path is right and leads to something. -/
namespace Go.Proofs.YtgfeeakcpojicaaGreatDoor
open Go.RowKit Go.Shelf

theorem box3d (w : World) (cs cs' cs'' : Array Value) (t t' t'' : TypeId) : Below w.heap.size w (((w.alloc (.cells cs t)).alloc (.cells cs' t')).alloc (.cells cs'' t'')) ∧ Blk (((w.alloc (.cells cs t)).alloc (.cells cs' t')).alloc (.cells cs'' t'')) w.heap.size cs t ∧ Blk (((w.alloc (.cells cs t)).alloc (.cells cs' t')).alloc (.cells cs'' t'')) (w.heap.size + 1) cs' t' ∧ Blk (((w.alloc (.cells cs t)).alloc (.cells cs' t')).alloc (.cells cs'' t'')) (w.heap.size + 2) cs'' t'' := by
  obtain ⟨h1, h2, h3⟩ := box2 w cs cs' t t'
  refine ⟨h1.alloc (by simp; omega) _, h2.alloc _, h3.alloc _, ?_⟩
  have := Blk.new ((w.alloc (.cells cs t)).alloc (.cells cs' t')) cs'' t''
  rw [World.size_alloc, World.size_alloc] at this
  exact this
theorem found_count : ∀ (p : List Stp) (t u : Tr), findT t p = some u → u.count ≤ t.count
  | [], t, u, h => by
    cases h
    exact Nat.le_refl _
  | s :: p, t, u, h => by
    obtain ⟨i, hs⟩ := findT_head h
    have h2 := (findT_cons (p := p) hs).symm.trans h
    have := found_count p _ u h2
    have := kid_count (atO_lt hs)
    omega

set_option maxHeartbeats 4000000 in
set_option maxRecDepth 100000 in
theorem path_Delete {aT aQ : Addr} (t : Tr) (v : Value) (A : Option Addr) (n c : Nat) (p0 : List Stp) (s : Stp) (u x : Tr) (w : World) (h : UW w aT aQ) (B d : Nat) (hl : ListAt w B d t.kids v) (ho : OwnOk t.own) (hc : t.count ≤ 1000) (hp : StepsAt w B A n (p0 ++ [s])) (hnc : n ≤ c) (hB : B ≤ w.heap.size)
    (hr : rightS (p0 ++ [s]) = true) (hu : findT t p0 = some u) (hx : findT u [s] = some x) :
    Calls Tryz.prog 21 #[nodeV t.own v, .slice A n c] w fun e w' => (∃ y D, e = .returned (.tuple #[nodeV (changedT (delT s) p0 t).own y, .int .i64 0]) ∧ ListAt w' w'.heap.size D (changedT (delT s) p0 t).kids y ∧ OwnOk (changedT (delT s) p0 t).own) ∧ Below w.heap.size w w' := by
  have hr16 : (p0 ++ [s]).length ≤ 16 := by
    unfold rightS at hr
    rw [Bool.and_eq_true, decide_eq_true_iff] at hr
    exact hr.1
  have hlen := hp.len
  rw [hlen] at hr16
  rw [List.length_append] at hlen
  have hlen : p0.length + 1 = n := hlen
  obtain ⟨k, hk⟩ : ∃ k, p0.length = k := ⟨_, rfl⟩
  rw [hk] at hlen
  have hkp : k < (p0 ++ [s]).length := by
    rw [hp.len]
    omega
  have hps : (p0 ++ [s])[k] = s := by
    subst hk
    exact List.getElem_concat_length rfl (by simp)
  have htake : (p0 ++ [s]).take k = p0 := by
    subst hk
    exact List.take_left' rfl
  have hf : findR t (p0 ++ [s]) = some x := by
    unfold findR
    rw [if_pos hr, findT_snoc, hu]
    exact hx
  have hus : ∃ i, atO u s = some i := findT_head hx
  have hcu := found_count p0 t u hu
  have hku := kids_count (t := u)
  obtain ⟨_, A0, c0, rfl⟩ := hl.slice
  obtain ⟨m0, hm0⟩ : ∃ m0, t.kids.length = m0 := ⟨_, rfl⟩
  rw [hm0] at hl ⊢
  obtain ⟨⟨kind, b, neg, dg, ex, u0, wd, str⟩, ho'⟩ : ∃ o, t.own = o := ⟨_, rfl⟩
  obtain ⟨hb3, hk1, hk2, hk3⟩ := box3d w #[.int .i64 kind, .bool b, .bool neg, .string dg, .int .i64 ex, .int .u64 u0, .int .i64 wd, .string str, .slice A0 m0 c0] #[.slice A n c] #[.int .i64 0, .bool false, .bool false, .string ⟨#[]⟩, .int .i64 0, .int .u64 0, .int .i64 0, .string ⟨#[]⟩, .slice none 0 0] 38 22 38
  have HF := Lib.hid (fun (w' : World) (hw : Below w.heap.size w w') => path_Find t (.slice A0 m0 c0) A n c (p0 ++ [s]) w' (h.below hw) B d (hl.below hw hB) ho (by omega) (by omega) (hp.below hw hB) (Nat.le_trans hB hw.size))
  rw [hf] at HF
  have HL := Lib.hid hl
  have HP := Lib.hid hp
  have HO := Lib.hid ho
  have HPS := Lib.hid hps
  have HTK := Lib.hid htake
  have HU := Lib.hid hu
  have HUS := Lib.hid hus
  unfold nodeV at HF ⊢
  rw [ho'] at HF ⊢
  simp only [] at HF ⊢
  have HK1 := Lib.hid hk1
  have HK2 := Lib.hid hk2
  have HK3 := Lib.hid hk3
  have hn0 : ((n : Int) == 0) = false := by rw [beq_eq_false_iff_ne]; omega
  have hn00 : ¬ (n : Int) = 0 := by omega
  have k2 := hk2.cell 0
  clear h hl hp ho hr hx hf hk1 hk2 hk3 hus hu hps htake
  go_enter Tryz.func21, Tryz.ntmps21
  go_wp2_with (refine wpList_load_row rfl 38 (.tmp 2) rfl w.heap.size rfl 38 _ (0, 0) _ HK1.out Tryz.underlying38 rfl (by kernel_rfl) ?_)
  refine (HF.out _ hb3).mono ?_
  rintro e w1 ⟨hpost, hb⟩
  obtain ⟨yf, rfl, hlf⟩ := hpost
  obtain ⟨_, Af, cf, rfl⟩ := hlf.slice
  obtain ⟨nf, hnf⟩ : ∃ nf, x.kids.length = nf := ⟨_, rfl⟩
  rw [hnf] at hlf ⊢
  obtain ⟨⟨kindf, bf, negf, dgf, exf, uf, wdf, strf⟩, hof⟩ : ∃ o, x.own = o := ⟨_, rfl⟩
  unfold nodeV
  rw [hof]
  simp only []
  have hb4 := hb3.trans (hb.mono hb3.size)
  have hk1 := HK1.out.below hb HK1.out.lt
  have hk2 := HK2.out.below hb HK2.out.lt
  have hk3 := HK3.out.below hb HK3.out.lt
  have ha : Below w1.heap.size w1 (w1.alloc (.cells #[.int .i64 kindf, .bool bf, .bool negf, .string dgf, .int .i64 exf, .int .u64 uf, .int .i64 wdf, .string strf, .slice Af nf cf] 38)) := (Below.refl _ _).alloc (Nat.le_refl _) _
  have hb5 := hb4.trans (ha.mono hb4.size)
  have hk4 := hk1.below ha hk1.lt
  have hk5 := hk2.below ha hk2.lt
  have hk6 := hk3.below ha hk3.lt
  have k5 := hk5.cell 0
  clear hb hb3 hb4 hk1 hk2 hk3 ha HF HK1 HK2 HK3 hlf k2
  have y7 : wrap64 ((n : Int) - 1) = (k : Int) := wrap_pred n k (by omega) (by omega)
  go_wp2_with fail
  have hk7 : Blk ((w1.alloc (.cells #[.int .i64 kindf, .bool bf, .bool negf, .string dgf, .int .i64 exf, .int .u64 uf, .int .i64 wdf, .string strf, .slice Af nf cf] 38)).alloc (.cells #[.int .i64 ((n : Int) - 1)] 3)) (w1.heap.size + 1) #[.int .i64 ((n : Int) - 1)] 3 := by
    have := Blk.new (w1.alloc (.cells #[.int .i64 kindf, .bool bf, .bool negf, .string dgf, .int .i64 exf, .int .u64 uf, .int .i64 wdf, .string strf, .slice Af nf cf] 38)) #[.int .i64 ((n : Int) - 1)] 3
    rw [World.size_alloc] at this
    exact this
  have ha2 : Below (w1.alloc (.cells #[.int .i64 kindf, .bool bf, .bool negf, .string dgf, .int .i64 exf, .int .u64 uf, .int .i64 wdf, .string strf, .slice Af nf cf] 38)).heap.size (w1.alloc (.cells #[.int .i64 kindf, .bool bf, .bool negf, .string dgf, .int .i64 exf, .int .u64 uf, .int .i64 wdf, .string strf, .slice Af nf cf] 38)) ((w1.alloc (.cells #[.int .i64 kindf, .bool bf, .bool negf, .string dgf, .int .i64 exf, .int .u64 uf, .int .i64 wdf, .string strf, .slice Af nf cf] 38)).alloc (.cells #[.int .i64 ((n : Int) - 1)] 3)) := (Below.refl _ _).alloc (Nat.le_refl _) _
  have hb6 := hb5.trans (ha2.mono hb5.size)
  have hk8 := hk4.below ha2 hk4.lt
  have hk9 := hk5.below ha2 hk5.lt
  have hk10 := hk6.below ha2 hk6.lt
  have hw1 := hk6.lt
  have e1 : (n : Int) - 1 = k := by omega
  rw [World.size_alloc] at hw1
  obtain ⟨WB, hWB⟩ : ∃ WB, ((w1.alloc (.cells #[.int .i64 kindf, .bool bf, .bool negf, .string dgf, .int .i64 exf, .int .u64 uf, .int .i64 wdf, .string strf, .slice Af nf cf] 38)).alloc (.cells #[.int .i64 ((n : Int) - 1)] 3)) = WB := ⟨_, rfl⟩
  rw [hWB] at hk7 hk8 hk9 hk10 hb6 ⊢
  rw [e1] at hk7
  have HK4 := Lib.hid hk8
  have HK5 := Lib.hid hk9
  have HK6 := Lib.hid hk10
  have HK7 := Lib.hid hk7
  have HCL := Lib.hid (fun (W : World) (hE : Below WB.heap.size WB W) => tree_Clone d t (.slice A0 m0 c0) W (fun q => q < B) ((HL.out.below hb6 hB).below hE (Nat.le_trans hB hb6.size)) HO.out (fun q hq => Nat.lt_of_lt_of_le hq (Nat.le_trans (Nat.le_trans hB hb6.size) hE.size)) (by omega))
  have HCH := Lib.hid (fun (W : World) (hE : Below WB.heap.size WB W) (y : Value) (hly : LAt W (fun q => (q < B ∨ WB.heap.size ≤ q) ∧ q < W.heap.size) d t.kids y) =>
    path_changedS 43 #[.pointer (some ⟨w.heap.size + 1, 0, none⟩), .pointer (some ⟨w1.heap.size + 1, 0, none⟩)] (delT s) (fun v => (∃ i, atO v s = some i) ∧ v.kids.length ≤ 1000000) W W.heap.size (fun q => (q < B ∨ WB.heap.size ≤ q) ∧ q < W.heap.size) (fun _ h => h.2)
      (fun W' hW u' x' d' hpre hl' hok' hBW => by
        obtain ⟨⟨i, hi⟩, hlen'⟩ := hpre
        have h1 := hb6.trans ((hE.trans (hW.mono hE.size)).mono hb6.size)
        exact delete_1 u' x' s i hi W' W.heap.size d' _ (fun _ h => h.2) hl' hok' hlen' hBW (w.heap.size + 1) (w1.heap.size + 1) A n c k (p0 ++ [s]) ((HP.out.below h1 hB).more (Nat.le_trans (Nat.le_trans hB hb6.size) hE.size)) ((HK5.out.below hE HK5.out.lt).below hW (HK5.out.below hE HK5.out.lt).lt) ((HK7.out.below hE HK7.out.lt).below hW (HK7.out.below hE HK7.out.lt).lt) hkp HPS.out)
      (enters_of Tryz.func43 (by kernel_rfl) rfl) p0 t y A k c W d (Below.refl _ _) hly HO.out (by
        have h2 := ((HP.out.below (hb6.trans (hE.mono hb6.size)) hB).more (Nat.le_trans (Nat.le_trans hB hb6.size) hE.size)).take (m := k) (by omega)
        rw [HTK.out] at h2
        exact h2) (by omega) ⟨u, HU.out, HUS.out, by omega⟩ (Nat.le_refl _) (by omega))
  unfold nodeV at HCL HCH
  rw [ho'] at HCL HCH
  simp only [] at HCL HCH
  have hkc : (k : Int) ≤ c := by omega
  have HB6 := Lib.hid hb6
  have hz6 := hb6.size
  have hw10 := hk10.lt
  clear hk4 hk5 hk6 hk7 hk8 hk9 hk10 ha2 hb5 hb6 hWB k5 e1 y7
  refine wp_region_tail (R := fun W W' => Below W.heap.size W W') 7 (by kernel_rfl) (by kernel_rfl) (fun _ => Below.refl _ _) (by kernel_rfl) (by kernel_rfl) (fun W => Below WB.heap.size WB W)
    [fun v _ => v = .agg #[.int .i64 kind, .bool b, .bool neg, .string dg, .int .i64 ex, .int .u64 u0, .int .i64 wd, .string str, .slice A0 m0 c0], fun v W => ∃ y, v = .agg #[.int .i64 kind, .bool b, .bool neg, .string dg, .int .i64 ex, .int .u64 u0, .int .i64 wd, .string str, y] ∧ LAt W (fun q => (q < B ∨ WB.heap.size ≤ q) ∧ q < W.heap.size) d t.kids y, fun v _ => v = .slice A n c, fun v _ => v = .int .i64 k, fun v _ => v = .slice A k c, fun v _ => v = .func (.func 43) #[] #[.pointer (some ⟨w.heap.size + 1, 0, none⟩), .pointer (some ⟨w1.heap.size + 1, 0, none⟩)],
     fun v W => ∃ y D, v = nodeV (changedT (delT s) p0 t).own y ∧ LAt W (fun q => (q < B ∨ WB.heap.size ≤ q) ∧ q < W.heap.size) D (changedT (delT s) p0 t).kids y ∧ OwnOk (changedT (delT s) p0 t).own] ?_ ?_ ?_ ?_ ?_
  case refine_1 => exact (Below.refl _ _).drew
  case refine_2 => exact fun W W' he hr => he.trans (hr.mono he.size)
  case refine_3 =>
    intro q hq v W W' _ hv hr
    simp only [List.mem_cons, List.not_mem_nil, or_false] at hq
    rcases hq with rfl | rfl | rfl | rfl | rfl | rfl | rfl
    all_goals first | exact hv | exact (let ⟨y, h1, h2⟩ := hv; ⟨y, h1, (h2.keep (fun q hq => hr.block q hq.2)).mono (fun q hq => ⟨hq.1, Nat.lt_of_lt_of_le hq.2 hr.size⟩)⟩) | exact (let ⟨y, D, h1, h2, h3⟩ := hv; ⟨y, D, h1, (h2.keep (fun q hq => hr.block q hq.2)).mono (fun q hq => ⟨hq.1, Nat.lt_of_lt_of_le hq.2 hr.size⟩), h3⟩)
  case refine_4 =>
    refine flow_cons (flow_op rfl rfl (by kernel_rfl) (by kernel_rfl) ?_) ?_
    · intro env W hE hn ρ hρ hc hf hg K hK
      have r2 : ρ (.tmp 2) = .pointer (some ⟨w.heap.size, 0, none⟩) := by rw [hρ]; kernel_rfl
      clear hρ hn hg
      exact lands_load_row 38 (.tmp 2) rfl w.heap.size r2 38 _ (0, 0) _ (HK4.out.below hE HK4.out.lt) Tryz.underlying38 rfl (by kernel_rfl) (hK _ _ rfl (Below.refl _ _))
    refine flow_cons (flow_op rfl rfl (by kernel_rfl) (by kernel_rfl) ?_) ?_
    · intro env W hE hn ρ hρ hc hf hg K hK
      have r26 := (show ρ (.tmp 26) = env 0 by rw [hρ]; kernel_rfl).trans (hn 0 (by kernel_rfl))
      clear hρ hn hg
      refine lands_call rfl (by kernel_rfl) hf ?_
      rw [show #[Operand.tmp 26].map ρ = #[.agg #[.int .i64 kind, .bool b, .bool neg, .string dg, .int .i64 ex, .int .u64 u0, .int .i64 wd, .string str, .slice A0 m0 c0]] by simp [r26]]
      refine (HCL.out W hE).mono ?_
      rintro e W' ⟨⟨y, rfl, hly⟩, hb⟩
      exact ⟨_, rfl, hK _ _ ⟨y, rfl, hly.mono (fun q hq => ⟨hq.1.imp_right (fun h => Nat.le_trans hE.size h), hq.2⟩)⟩ hb⟩
    refine flow_cons (flow_op rfl rfl (by kernel_rfl) (by kernel_rfl) ?_) ?_
    · intro env W hE hn ρ hρ hc hf hg K hK
      have r3 : ρ (.tmp 3) = .pointer (some ⟨w.heap.size + 1, 0, none⟩) := by rw [hρ]; kernel_rfl
      clear hρ hn hg
      have q0 := (HK5.out.below hE HK5.out.lt).cell 0
      simp [opLands, go_sem, r3, q0]
      exact hK _ _ rfl (Below.refl _ _)
    refine flow_cons (flow_op rfl rfl (by kernel_rfl) (by kernel_rfl) ?_) ?_
    · intro env W hE hn ρ hρ hc hf hg K hK
      have r8 : ρ (.tmp 8) = .pointer (some ⟨w1.heap.size + 1, 0, none⟩) := by rw [hρ]; kernel_rfl
      clear hρ hn hg
      have q0 := (HK7.out.below hE HK7.out.lt).cell 0
      simp [opLands, go_sem, r8, q0]
      exact hK _ _ rfl (Below.refl _ _)
    refine flow_cons (flow_op rfl rfl (by kernel_rfl) (by kernel_rfl) ?_) ?_
    · intro env W hE hn ρ hρ hc hf hg K hK
      have r28 := (show ρ (.tmp 28) = env 2 by rw [hρ]; kernel_rfl).trans (hn 2 (by kernel_rfl))
      have r29 := (show ρ (.tmp 29) = env 3 by rw [hρ]; kernel_rfl).trans (hn 3 (by kernel_rfl))
      clear hρ hn hg
      simp [opLands, go_sem, r28, r29, hkc]
      exact hK _ _ rfl (Below.refl _ _)
    refine flow_cons (flow_op rfl rfl (by kernel_rfl) (by kernel_rfl) ?_) ?_
    · intro env W hE hn ρ hρ hc hf hg K hK
      have r3 : ρ (.tmp 3) = .pointer (some ⟨w.heap.size + 1, 0, none⟩) := by rw [hρ]; kernel_rfl
      have r8 : ρ (.tmp 8) = .pointer (some ⟨w1.heap.size + 1, 0, none⟩) := by rw [hρ]; kernel_rfl
      clear hρ hn hg
      simp [opLands, go_sem, r3, r8]
      exact hK _ _ rfl (Below.refl _ _)
    refine flow_cons (flow_op rfl rfl (by kernel_rfl) (by kernel_rfl) ?_) flow_nil
    · intro env W hE hn ρ hρ hc hf hg K hK
      obtain ⟨y, e27, hly⟩ := hn 1 (by kernel_rfl)
      have r27 := (show ρ (.tmp 27) = env 1 by rw [hρ]; kernel_rfl).trans e27
      have r30 := (show ρ (.tmp 30) = env 4 by rw [hρ]; kernel_rfl).trans (hn 4 (by kernel_rfl))
      have r31 := (show ρ (.tmp 31) = env 5 by rw [hρ]; kernel_rfl).trans (hn 5 (by kernel_rfl))
      clear hρ hn hg
      refine lands_call rfl (by kernel_rfl) hf ?_
      rw [show #[Operand.tmp 27, Operand.tmp 30, Operand.tmp 31].map ρ = #[.agg #[.int .i64 kind, .bool b, .bool neg, .string dg, .int .i64 ex, .int .u64 u0, .int .i64 wd, .string str, y], .slice A k c, .func (.func 43) #[] #[.pointer (some ⟨w.heap.size + 1, 0, none⟩), .pointer (some ⟨w1.heap.size + 1, 0, none⟩)]] by simp [r27, r30, r31]]
      refine (HCH.out W hE y hly).mono ?_
      rintro e W' ⟨⟨y', D, rfl, hly', hoy'⟩, hb⟩
      exact ⟨_, rfl, hK _ _ ⟨y', D, rfl, hly'.mono (fun q hq => ⟨hq.1.elim (fun h => h.1) (fun h => .inr (Nat.le_trans hE.size h)), hq.2⟩), hoy'⟩ hb⟩
  case refine_5 =>
    intro env W hE hn
    obtain ⟨y, D, e6, hly, hoy⟩ := hn 6 (by decide)
    clear hn HCH HCL
    obtain ⟨t3, ht3⟩ : ∃ t3, (changedT (delT s) p0 t) = t3 := ⟨_, rfl⟩
    rw [ht3] at e6 hly hoy
    have HT3 := Lib.hid ht3
    clear ht3
    obtain ⟨_, A5, c5, rfl⟩ := hly.slice
    obtain ⟨n5, hn5⟩ : ∃ n5, t3.kids.length = n5 := ⟨_, rfl⟩
    rw [hn5] at hly e6
    obtain ⟨⟨kind3, b3, neg3, dg3, ex3, u3, wd3, s3⟩, ho3⟩ : ∃ o, t3.own = o := ⟨_, rfl⟩
    unfold nodeV at e6
    rw [ho3] at e6
    simp only [] at e6
    have hb7 := HB6.out.trans (hE.mono HB6.out.size)
    have hk8 := HK6.out.below hE HK6.out.lt
    have hw8 := hk8.lt
    have hb8 := hb7.grown (grown_row W (w.heap.size + 2) #[.int .i64 kind3, .bool b3, .bool neg3, .string dg3, .int .i64 ex3, .int .u64 u3, .int .i64 wd3, .string s3, .slice A5 n5 c5]) hb7.size (fun q e => by cases e; omega)
    have hk9 := blk_row hk8 #[.int .i64 kind3, .bool b3, .bool neg3, .string dg3, .int .i64 ex3, .int .u64 u3, .int .i64 wd3, .string s3, .slice A5 n5 c5]
    have hly4 : ListAt (W.setRow (w.heap.size + 2) #[.int .i64 kind3, .bool b3, .bool neg3, .string dg3, .int .i64 ex3, .int .u64 u3, .int .i64 wd3, .string s3, .slice A5 n5 c5]) (W.setRow (w.heap.size + 2) #[.int .i64 kind3, .bool b3, .bool neg3, .string dg3, .int .i64 ex3, .int .u64 u3, .int .i64 wd3, .string s3, .slice A5 n5 c5]).heap.size D t3.kids (.slice A5 n5 c5) := by
      refine (hly.keep (fun q hq => setRow_other _ _ _ _ ?_)).mono (fun q hq => by rw [setRow_size]; exact hq.2)
      show q ≠ w.heap.size + 2
      have := hq.1
      omega
    have HK8 := Lib.hid hk8
    have HK9 := Lib.hid hk9
    have HB8 := Lib.hid hb8
    have HL4 := Lib.hid hly4
    clear hly hly4 hk8 hk9 hb7 hb8
    simp only [List.take_succ_cons, List.take_zero, List.drop_succ_cons, List.drop_zero, frameAll, e6]
    go_simp
    clear e6 hE
    go_wp2_with (refine wpList_store_row rfl 38 (.tmp 4) (.tmp 32) rfl (w.heap.size + 2) #[.int .i64 kind3, .bool b3, .bool neg3, .string dg3, .int .i64 ex3, .int .u64 u3, .int .i64 wd3, .string s3, .slice A5 n5 c5] rfl rfl 38 _ HK8.out (by kernel_rfl) rfl (by simp [Value.oneCell']) ?_)
    refine bodyPost_ret (v := .tuple #[.agg #[.int .i64 kind3, .bool b3, .bool neg3, .string dg3, .int .i64 ex3, .int .u64 u3, .int .i64 wd3, .string s3, .slice A5 n5 c5], .int .i64 0]) (results_row2 rfl _ _ (w.heap.size + 2) 38 _ (0, 0) _ _ rfl rfl HK9.out Tryz.underlying38 rfl (by kernel_rfl)) rfl ?_
    rw [HT3.out]
    exact ⟨⟨_, D, by rw [ho3], HL4.out, hoy⟩, HB8.out⟩
end Go.Proofs.YtgfeeakcpojicaaGreatDoor
/- A guarded operation of a region that draws its order, whose guard is known to hold. -/
namespace Go.Proofs.YtgfeeakcpojicaaGreatDoor
open Go.RowKit
section
variable {P : Program} {R : World → World → Prop} {ops : Array Oper}

theorem flow_opY (g : Nat) (b : Bool) (t0 : Tmp) {a : Act} {E : World → Prop} {Φ : Nat → Value → World → Prop} {i : Nat} {o : Oper} (hg : o.guard = some (g, b)) (ht0 : (ops[g]?).bind (·.dst) = some t0) (hsel : (o.op matches .select ..) = false)
    (hz : (o.looksAt ops).all (fun t => decide (t < a.tmps.size)) = true) (hd : (match o.dst with | some d => decide (d < a.tmps.size) | none => false) = true)
    (hy : ∀ (env : Nat → Value) (w : World), E w → (∀ j, waitsFor o j = true → Φ j (env j) w) → ∀ ρ, ρ = readOf ops a (waitsFor o) env → ρ (.tmp t0) = .bool b)
    (h : ∀ (env : Nat → Value) (w : World), E w → (∀ j, waitsFor o j = true → Φ j (env j) w) →
      ∀ ρ, ρ = readOf ops a (waitsFor o) env → (∀ v, ρ (.const v) = v) → (∀ f, ρ (.func f) = .func (.func f) #[] #[]) → (∀ g, ρ (.global g) = .pointer (some ⟨g, 0, none⟩)) →
        ∀ K : Value → World → Prop, (∀ v w', Φ i v w' → R w w' → K v w') → opLands P o ρ w K) :
    FlowOp P R ops a E Φ i o := by
  intro env w hE hn a' ha'
  have hw : Region.wanted o (yielded ops a'.tmps) = true := by
    have h1 := hy env w hE hn _ rfl
    have hm : t0 ∈ o.looksAt ops := List.mem_append_right _ (by rw [hg]; simp [ht0])
    have ht : t0 < a.tmps.size := by simpa using List.all_eq_true.1 hz t0 hm
    have h2 : a'.tmps.getD t0 undef = .bool b := by
      rw [ha', frameOf_read ht]
      exact h1
    have ht' : t0 < a'.tmps.size := by rw [ha', frameOf_size]; exact ht
    have h3 : a'.tmps[t0]? = some (.bool b) := by
      rw [Array.getElem?_eq_getElem ht']
      simpa [Array.getD, ht'] using h2
    have h4 : yielded ops a'.tmps g = some b := by
      unfold yielded
      rw [ht0]
      show (match a'.tmps[t0]? with | some (.bool b) => some b | _ => none) = some b
      rw [h3]
    unfold Region.wanted
    rw [hg]
    simp [h4]
  rw [if_pos hw]
  intro K hK
  have h := h env w hE hn _ rfl (fun _ => rfl) (fun _ => rfl) (fun _ => rfl) (fun v w' => Φ i v w' ∧ R w w') (fun _ _ h1 h2 => ⟨h1, h2⟩)
  have hrun : execOp a'.eval o = execOp (readOf ops a (waitsFor o) env) o := execOp_congr o (fun cs b e => by rw [e] at hsel; cases hsel) (fun x hx => by
    cases x with
    | tmp t =>
      have hm : t ∈ o.looksAt ops := List.mem_append_left _ (List.mem_filterMap.2 ⟨.tmp t, by simpa using hx, rfl⟩)
      have ht : t < a.tmps.size := by simpa using List.all_eq_true.1 hz t hm
      rw [ha']
      exact frameOf_read ht _
    | const v => rfl
    | global g => rfl
    | func f => rfl)
  have hput : ∀ v w', Φ i v w' ∧ R w w' → K (a'.put o.dst v) w' := fun v w' h => by
    refine hK _ _ ?_ ?_ h.2
    · cases o.dst <;> rfl
    · have h1 := h.1
      unfold slotOf
      cases hq : o.dst with
      | none => rw [hq] at hd; cases hd
      | some d =>
        rw [hq] at hd
        have : d < a'.tmps.size := by rw [ha', frameOf_size]; simpa using hd
        simpa [Act.put, this] using h1
  unfold Oper.wp
  rw [hrun]
  unfold opLands at h
  revert h
  cases (execOp (readOf ops a (waitsFor o) env) o).run P w with
  | halt x w' => exact False.elim
  | ok n w' =>
    cases n <;> simp only [Oper.upon]
    case value v => exact hput v w'
    case skip => exact hput undef w'
    case enter f args =>
      intro h
      refine Calls.mono h (fun e w'' he => ?_)
      obtain ⟨v, rfl, hv⟩ := he
      exact hput v w'' hv
    all_goals exact False.elim
end
end Go.Proofs.YtgfeeakcpojicaaGreatDoor
