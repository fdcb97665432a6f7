/- The texts NatF, CrU, CrV, put together. -/
import Derived.Test.YtflkmhgbinlfiaaGreatDoorPq39
import Derived.Test.YtflkmhgbinlfiaaGreatDoorPq34
import Derived.Test.YtflkmhgbinlfiaaGreatDoorPq31
namespace Go.Proofs.YtflkmhgbinlfiaaGreatDoor
open Go.RowKit Go.Shelf
attribute [local go_sem] Oper.semAt_some

set_option maxHeartbeats 2000000 in
set_option maxRecDepth 100000 in
theorem nat_ends (g k c N : Nat) (hk0 : 0 < k) (hk1 : k ≤ 20) (hkc : k ≤ c) (w : World) (hg : g < w.heap.size) (hL : LimbsAt w g N k) (h0 : N / 10 ^ (9 * k) = 0) (ht : N / 10 ^ (9 * (k - 1)) ≠ 0) (htab : Lib.TabIs Tryz.prog w "internal/strconv.uint64pow10" .u64 Lib.pow10Tab) :
    Calls Tryz.prog 134 #[.slice (some ⟨g, 0, none⟩) k c] w fun e w' => e = .returned (.tuple #[.string (bs (Lib.decDigits N)), .int .i64 0]) ∧ Below w.heap.size w w' := by
  have hx : lim N (k - 1) ≠ 0 := by
    rw [lim_top (by rw [show k - 1 + 1 = k from by omega]; exact h0)]
    exact ht
  have HT := Lib.hid (trim_same g k c (lim N (k - 1)) hk0 (by omega) hkc hx w (hL _ (by omega)))
  have HX := Lib.hid (nat_text g k k N hk0 (by omega) w hg hL h0 ht htab)
  have hlen := txt_len (N := N) (k := k) ht (Nat.le_refl k) h0
  have hq : txtN N k k = Lib.decDigits N := by
    unfold txtN
    rw [if_neg (by omega), Nat.sub_self, Nat.mul_zero, Nat.pow_zero, Nat.div_one]
  rw [hq] at hlen
  have hsz : (bs (Lib.decDigits N)).size = (Lib.decDigits N).length := rfl
  obtain ⟨s, hs⟩ : ∃ s, bs (Lib.decDigits N) = s := ⟨_, rfl⟩
  rw [hs] at HX hsz ⊢
  have y0 : ¬ (s.size : Int) > 400 := by omega
  clear hq hlen hs hsz hx ht h0 hL htab
  go_enter Tryz.func134, Tryz.ntmps134
  go_wp2_with fail
  refine HT.out.mono ?_
  rintro e w1 ⟨rfl, rfl⟩
  go_wp2_with fail
  refine HX.out.mono ?_
  rintro e w2 ⟨rfl, hb⟩
  go_wp2_with fail
  go_ret2
  exact ⟨rfl, hb⟩

/-- What add of 1 leaves. -/
def AddAt (n : Nat) (W : World) (g k c : Nat) : Prop := g < W.heap.size ∧ 0 < k ∧ k ≤ 10 ∧ k ≤ c ∧ LimbsAt W g (n + 1) k ∧ (n + 1) / 10 ^ (9 * k) = 0 ∧ (n + 1) / 10 ^ (9 * (k - 1)) ≠ 0
theorem AddAt.below {n g k c : Nat} {W W' : World} (h : AddAt n W g k c) (hb : Below W.heap.size W W') : AddAt n W' g k c :=
  ⟨Nat.lt_of_lt_of_le h.1 hb.size, h.2.1, h.2.2.1, h.2.2.2.1, h.2.2.2.2.1.below hb h.1, h.2.2.2.2.2⟩
theorem add_top {n k : Nat} (hk0 : 0 < k) (h2 : car n k = 0) (h3 : max (lenN n) 1 ≤ k) (h4 : max (lenN n) 1 < k → 0 < car n (k - 1)) : (n + 1) / 10 ^ (9 * k) = 0 ∧ (n + 1) / 10 ^ (9 * (k - 1)) ≠ 0 := by
  have he := top_end (len_end n) (j := k) (by omega)
  refine ⟨add_end hk0 he h2, ?_⟩
  by_cases h : max (lenN n) 1 < k
  · have h5 := h4 h
    intro e
    unfold car at h5
    split at h5
    · omega
    · rw [e, Nat.zero_sub] at h5
      exact absurd h5 (by decide)
  · by_cases h0 : n = 0
    · subst h0
      have : k = 1 := by
        have : lenN 0 = 0 := rfl
        omega
      subst this
      simp
    · obtain ⟨t0, t1⟩ := len_top (Nat.pos_of_ne_zero h0)
      have : k = lenN n := by omega
      subst this
      intro e
      have := (car_le n (lenN n - 1)).1
      rw [e] at this
      exact t1 (Nat.le_zero.1 this)
theorem lenN_le {n : Nat} (hn : n < 18446744073709551616) : lenN n ≤ 3 := by
  unfold lenN
  split
  · omega
  · have := dec_len20 hn
    unfold grps
    omega

set_option maxHeartbeats 4000000 in
set_option maxRecDepth 100000 in
theorem nat_Add1 (n : Nat) (hn : n < 18446744073709551616) (w : World) (htab : Lib.TabIs Tryz.prog w "internal/strconv.uint64pow10" .u64 Lib.pow10Tab) :
    Calls Tryz.prog 99 #[.string (bs (Lib.decDigits n)), .string ⟨#[49]⟩] w fun e w' => e = .returned (.tuple #[.string (bs (Lib.decDigits (n + 1))), .int .i64 0]) ∧ Below w.heap.size w w' := by
  have HTB := Lib.hid (Lib.tabBelow_of_tabIs htab)
  have e1 : (⟨#[49]⟩ : ByteArray) = bs (Lib.decDigits 1) := by rw [Lib.decDigits_one (by decide)]; rfl
  rw [e1]
  obtain ⟨sn, hsn⟩ : ∃ sn, bs (Lib.decDigits n) = sn := ⟨_, rfl⟩
  obtain ⟨s1, hs1⟩ : ∃ s1, bs (Lib.decDigits 1) = s1 := ⟨_, rfl⟩
  obtain ⟨sd, hsd⟩ : ∃ sd, bs (Lib.decDigits (n + 1)) = sd := ⟨_, rfl⟩
  have hb1 := (Below.refl w.heap.size w).alloc (Nat.le_refl _) (.cells #[.string sn, .string s1] 9)
  have hk1 := Blk.new w #[.string sn, .string s1] 9
  have HOF := Lib.hid (nat_of2 n 1 hn (by decide) w.heap.size (w.alloc (.cells #[.string sn, .string s1] 9)) (by rw [hsn]; exact hk1.cell 0) (by rw [hs1]; exact hk1.cell 1))
  have hl3 := lenN_le hn
  rw [hsn, hs1, hsd]
  have HSD := Lib.hid hsd
  clear hsn hs1 hsd htab hn e1 hk1
  go_enter Tryz.func99, Tryz.ntmps99
  go_wp2_with fail
  refine HOF.out.mono ?_
  rintro e w2 ⟨hb2, A, cl, v0, v1, rfl, hA, hc0, hc1, ⟨ga, ca, cura, rfl, hga, hha, hLa⟩, ⟨gb, cb, curb, rfl, hgb, hhb, hLb⟩⟩
  have hB2 := hb1.trans (hb2.mono hb1.size)
  have HADD := Lib.hid (fun W (hb : Below w2.heap.size w2 W) => (nat_add1 n ga ca gb cb (lenN n) (lenN 1) (by omega) len_1 W (Nat.lt_of_lt_of_le hga.2 hb.size) (Nat.lt_of_lt_of_le hgb.2 hb.size) (hLa.below hb hga.2) (len_end n) (hLb.below hb hgb.2)).mono (R' := fun e W' => Below W.heap.size W W' ∧ ∃ g k c, e = .returned (.slice (some ⟨g, 0, none⟩) k c) ∧ AddAt n W' g k c) (by
    rintro e W' ⟨q1, g, k, c, q2, q3, q4, q5, q6, q7, q8, q9, q10, q11⟩
    obtain ⟨t1, t2⟩ := add_top q5 q9 q10 q11
    exact ⟨q1, g, k, c, q2, q4, q5, by omega, q7, q8, t1, t2⟩))
  have HEND := Lib.hid (fun W (hb : Below w2.heap.size w2 W) g k c (h : AddAt n W g k c) => (show Calls Tryz.prog 134 #[.slice (some ⟨g, 0, none⟩) k c] W fun e w' => e = .returned (.tuple #[.string sd, .int .i64 0]) ∧ Below W.heap.size W w' from by
    have := nat_ends g k c (n + 1) h.2.1 (by have := h.2.2.1; omega) h.2.2.2.1 W h.1 h.2.2.2.2.1 h.2.2.2.2.2.1 h.2.2.2.2.2.2 (HTB.out W (hB2.trans (hb.mono hB2.size)))
    rw [HSD.out] at this
    exact this))
  clear HOF hLa hLb hha hhb
  go_wp2_with fail
  refine wp_region_tail (R := fun W W' => Below W.heap.size W W') 10 (by kernel_rfl) (by kernel_rfl) (fun _ => Below.refl _ _) (by kernel_rfl) (by kernel_rfl) (fun W => Below w2.heap.size w2 W)
    [fun v _ => v = .slice (some ⟨A, 0, none⟩) 2 cl, fun v _ => v = .pointer (some ⟨A, 0, none⟩), fun v _ => v = .slice (some ⟨ga, 0, none⟩) (lenN n) ca, fun v _ => v = .slice (some ⟨A, 0, none⟩) 2 cl, fun v _ => v = .pointer (some ⟨A, 1, none⟩), fun v _ => v = .slice (some ⟨gb, 0, none⟩) (lenN 1) cb, fun v W => ∃ g k c, v = .slice (some ⟨g, 0, none⟩) k c ∧ AddAt n W g k c, fun v _ => v = .tuple #[.string sd, .int .i64 0], fun v _ => v = .string sd, fun v _ => v = .int .i64 0] ?_ ?_ ?_ ?_ ?_
  case refine_1 => exact (Below.refl _ _).drew
  case refine_2 => exact fun W W' he hr => he.trans (hr.mono he.size)
  case refine_3 =>
    intro q hq v W W' _ hv hr
    simp only [List.mem_cons, List.not_mem_nil, or_false] at hq
    rcases hq with rfl | rfl | rfl | rfl | rfl | rfl | rfl | rfl | rfl | rfl
    all_goals first | exact hv | exact (let ⟨g, k, c, h1, h2⟩ := hv; ⟨g, k, c, h1, h2.below hr⟩)
  case refine_4 =>
    refine flow_cons (flow_op rfl rfl (by kernel_rfl) (by kernel_rfl) ?_) ?_
    · intro env W hE hn ρ hρ hc hf hg K hK
      have r6 : ρ (.tmp 6) = .slice (some ⟨A, 0, none⟩) 2 cl := by rw [hρ]; kernel_rfl
      clear hρ hn hg
      simp [opLands, go_sem, r6]
      exact hK _ _ rfl (Below.refl _ _)
    refine flow_cons (flow_op rfl rfl (by kernel_rfl) (by kernel_rfl) ?_) ?_
    · intro env W hE hn ρ hρ hc hf hg K hK
      have r18 := (show ρ (.tmp 18) = env 0 by rw [hρ]; kernel_rfl).trans (hn 0 (by kernel_rfl))
      clear hρ hn hg
      simp [opLands, go_sem, hc, r18]
      exact hK _ _ rfl (Below.refl _ _)
    refine flow_cons (flow_op rfl rfl (by kernel_rfl) (by kernel_rfl) ?_) ?_
    · intro env W hE hn ρ hρ hc hf hg K hK
      have r19 := (show ρ (.tmp 19) = env 1 by rw [hρ]; kernel_rfl).trans (hn 1 (by kernel_rfl))
      clear hρ hn hg
      have q0 : W.cell? ⟨A, 0, none⟩ = some (.slice (some ⟨ga, 0, none⟩) (lenN n) ca) := (hE.cell (p := ⟨A, 0, none⟩) hA).trans hc0
      simp [opLands, go_sem, r19, q0]
      exact hK _ _ rfl (Below.refl _ _)
    refine flow_cons (flow_op rfl rfl (by kernel_rfl) (by kernel_rfl) ?_) ?_
    · intro env W hE hn ρ hρ hc hf hg K hK
      have r6 : ρ (.tmp 6) = .slice (some ⟨A, 0, none⟩) 2 cl := by rw [hρ]; kernel_rfl
      clear hρ hn hg
      simp [opLands, go_sem, r6]
      exact hK _ _ rfl (Below.refl _ _)
    refine flow_cons (flow_op rfl rfl (by kernel_rfl) (by kernel_rfl) ?_) ?_
    · intro env W hE hn ρ hρ hc hf hg K hK
      have r21 := (show ρ (.tmp 21) = env 3 by rw [hρ]; kernel_rfl).trans (hn 3 (by kernel_rfl))
      clear hρ hn hg
      simp [opLands, go_sem, hc, r21]
      exact hK _ _ rfl (Below.refl _ _)
    refine flow_cons (flow_op rfl rfl (by kernel_rfl) (by kernel_rfl) ?_) ?_
    · intro env W hE hn ρ hρ hc hf hg K hK
      have r22 := (show ρ (.tmp 22) = env 4 by rw [hρ]; kernel_rfl).trans (hn 4 (by kernel_rfl))
      clear hρ hn hg
      have q0 : W.cell? ⟨A, 1, none⟩ = some (.slice (some ⟨gb, 0, none⟩) (lenN 1) cb) := (hE.cell (p := ⟨A, 1, none⟩) hA).trans hc1
      simp [opLands, go_sem, r22, q0]
      exact hK _ _ rfl (Below.refl _ _)
    refine flow_cons (flow_op rfl rfl (by kernel_rfl) (by kernel_rfl) ?_) ?_
    · intro env W hE hn ρ hρ hc hf hg K hK
      have r20 := (show ρ (.tmp 20) = env 2 by rw [hρ]; kernel_rfl).trans (hn 2 (by kernel_rfl))
      have r23 := (show ρ (.tmp 23) = env 5 by rw [hρ]; kernel_rfl).trans (hn 5 (by kernel_rfl))
      clear hρ hn hg
      refine lands_call rfl (by kernel_rfl) hf ?_
      rw [show #[Operand.tmp 20, Operand.tmp 23].map ρ = #[.slice (some ⟨ga, 0, none⟩) (lenN n) ca, .slice (some ⟨gb, 0, none⟩) (lenN 1) cb] by simp [r20, r23]]
      refine (HADD.out W hE).mono ?_
      rintro e W' ⟨hb, g, k, c, rfl, hg, hf⟩
      exact ⟨_, rfl, hK _ _ ⟨g, k, c, rfl, hg, hf⟩ hb⟩
    refine flow_cons (flow_op rfl rfl (by kernel_rfl) (by kernel_rfl) ?_) ?_
    · intro env W hE hn ρ hρ hc hf hg K hK
      obtain ⟨g, k, c, e24, hgf⟩ := hn 6 (by kernel_rfl)
      have r24 := (show ρ (.tmp 24) = env 6 by rw [hρ]; kernel_rfl).trans e24
      clear hρ hn hg
      refine lands_call rfl (by kernel_rfl) hf ?_
      rw [show #[Operand.tmp 24].map ρ = #[.slice (some ⟨g, 0, none⟩) k c] by simp [r24]]
      refine (HEND.out W hE g k c hgf).mono ?_
      rintro e W' ⟨rfl, hb⟩
      exact ⟨_, rfl, hK _ _ rfl hb⟩
    refine flow_cons (flow_op rfl rfl (by kernel_rfl) (by kernel_rfl) ?_) ?_
    · intro env W hE hn ρ hρ hc hf hg K hK
      have r25 := (show ρ (.tmp 25) = env 7 by rw [hρ]; kernel_rfl).trans (hn 7 (by kernel_rfl))
      clear hρ hn hg
      simp [opLands, go_sem, r25]
      exact hK _ _ rfl (Below.refl _ _)
    refine flow_cons (flow_op rfl rfl (by kernel_rfl) (by kernel_rfl) ?_) flow_nil
    · intro env W hE hn ρ hρ hc hf hg K hK
      have r25 := (show ρ (.tmp 25) = env 7 by rw [hρ]; kernel_rfl).trans (hn 7 (by kernel_rfl))
      clear hρ hn hg
      simp [opLands, go_sem, r25]
      exact hK _ _ rfl (Below.refl _ _)
  case refine_5 =>
    intro env W hE hn
    have e8 := hn 8 (by decide)
    have e9 := hn 9 (by decide)
    simp only [phis, List.getD_cons_zero, List.getD_cons_succ] at e8 e9
    clear hn HADD HEND
    simp only [List.take_succ_cons, List.take_zero, List.drop_succ_cons, List.drop_zero, frameAll, e8, e9]
    go_simp
    go_wp2_with fail
    go_ret2
    exact ⟨rfl, hB2.trans (hE.mono hB2.size)⟩
end Go.Proofs.YtflkmhgbinlfiaaGreatDoor
namespace Go.Proofs.YtflkmhgbinlfiaaGreatDoor
open Go.RowKit Go.Shelf
attribute [local go_sem] Oper.semAt_some

set_option maxHeartbeats 4000000 in
set_option maxRecDepth 100000 in
theorem cr_minus (p d hi ha : Nat) (s : ByteArray) (w : World) (hr : RdB w p s d) (hha : ha < 18446744073709551616) (htab : Lib.TabIs Tryz.prog w "internal/strconv.uint64pow10" .u64 Lib.pow10Tab) :
    Calls Tryz.prog 68 #[.pointer (some ⟨p, 0, none⟩), startV (1, hi, ha)] w (ReadN p d 0 w s (.good (numT true (ha + 1)) s.data.toList)) := by
  have hsb := bs_of s
  have HTB := Lib.hid (Lib.tabBelow_of_tabIs htab)
  have hok := ofN_ok true (ha + 1) (by omega)
  have hmk := hok.1
  have hok := hok.2
  unfold numT
  obtain ⟨⟨n, g, e⟩, hx⟩ : ∃ x, ofN true (ha + 1) = x := ⟨_, rfl⟩
  rw [hx] at hok hmk ⊢
  have HO := Lib.hid (fun W (hb : Below w.heap.size w W) => nat_Of ha hha W (HTB.out W hb))
  have HA := Lib.hid (fun W (hb : Below w.heap.size w W) => nat_Add1 ha hha W (HTB.out W hb))
  have HM := Lib.hid (fun W => dec_Make true (bs (Lib.decDigits (ha + 1))) 0 n g e hmk W)
  have HK := Lib.hid (own_n hok)
  have HF := Lib.hid (fun (W : World) (b : Nat) (hk : Blk W b #[.int .i64 0] 29) => (show Calls Tryz.prog 37 #[.slice (some ⟨b, 0, none⟩) 1 1] W fun x w' => x = .returned .nilIface ∧ w' = W from cr_first b 0 W hk))
  obtain ⟨sa, hsa⟩ : ∃ sa, bs (Lib.decDigits ha) = sa := ⟨_, rfl⟩
  obtain ⟨sc, hsc⟩ : ∃ sc, bs (Lib.decDigits (ha + 1)) = sc := ⟨_, rfl⟩
  have hsa' : (⟨(Lib.decDigits ha).toArray⟩ : ByteArray) = sa := hsa
  rw [hsa'] at HO
  rw [hsa, hsc] at HA
  rw [hsc] at HM
  have hb1 := (Below.refl w.heap.size w).alloc (Nat.le_refl _) (.cells #[.int .i64 1, .int .i64 hi, .int .u64 ha] 88)
  have hb2 := hb1.alloc hb1.size (.cells #[.int .i64 0, .bool false, .bool false, .string ⟨#[]⟩, .int .i64 0, .int .u64 0, .int .i64 0, .string ⟨#[]⟩, .slice none 0 0] 28)
  have hk1 := (Blk.new w #[.int .i64 1, .int .i64 hi, .int .u64 ha] 88).alloc (.cells #[.int .i64 0, .bool false, .bool false, .string ⟨#[]⟩, .int .i64 0, .int .u64 0, .int .i64 0, .string ⟨#[]⟩, .slice none 0 0] 28)
  have hk2 := Blk.new (w.alloc (.cells #[.int .i64 1, .int .i64 hi, .int .u64 ha] 88)) #[.int .i64 0, .bool false, .bool false, .string ⟨#[]⟩, .int .i64 0, .int .u64 0, .int .i64 0, .string ⟨#[]⟩, .slice none 0 0] 28
  have hr2 := (hr.alloc (.cells #[.int .i64 1, .int .i64 hi, .int .u64 ha] 88)).alloc (.cells #[.int .i64 0, .bool false, .bool false, .string ⟨#[]⟩, .int .i64 0, .int .u64 0, .int .i64 0, .string ⟨#[]⟩, .slice none 0 0] 28)
  rw [World.size_alloc] at hk2
  have z0 := hk1.cell 0
  have z1 := hk1.cell 1
  have z2 := hk1.cell 2
  have hplt := hr.lt
  clear hb1 hx hok hmk htab hsa hsa' hsc hha
  go_enter Tryz.func68, Tryz.ntmps68
  go_wp2_with fail
  refine (HO.out _ hb2).mono ?_
  rintro x w3 ⟨rfl, hb3⟩
  have hbA := hb2.trans (hb3.mono hb2.size)
  have hk3 := hk2.below hb3 hk2.lt
  have hr3 := hr2.below hb3 hr2.lt
  clear hk2 hr2 hb2 hb3 z0 z1 z2 hk1 HO
  go_wp2_with fail
  refine (HA.out _ hbA).mono ?_
  rintro x w4 ⟨rfl, hb4⟩
  have hbB := hbA.trans (hb4.mono hbA.size)
  have hk4 := hk3.below hb4 hk3.lt
  have hr4 := hr3.below hb4 hr3.lt
  clear hk3 hr3 hbA hb4 HA
  go_wp2_with fail
  refine (HM.out _).mono ?_
  rintro x w5 ⟨rfl, hb5⟩
  have hbC := hbB.trans (hb5.mono hbB.size)
  have hk5 := hk4.below hb5 hk4.lt
  have hr5 := hr4.below hb5 hr4.lt
  clear hk4 hr4 hbB hb5 HM
  have HK5 := Lib.hid (Blk.new w5 #[.bool n, .string g, .int .i64 e] 24)
  have hk6 := hk5.alloc (.cells #[.bool n, .string g, .int .i64 e] 24)
  have hr6 := hr5.alloc (.cells #[.bool n, .string g, .int .i64 e] 24)
  have hbD := hbC.alloc hbC.size (.cells #[.bool n, .string g, .int .i64 e] 24)
  clear hk5 hr5 hbC
  go_wp2_with fail
  refine wp_region_tail (R := fun W W' => Below W.heap.size W W') 5 (by kernel_rfl) (by kernel_rfl) (fun _ => Below.refl _ _) (by kernel_rfl) (by kernel_rfl) (fun W => Below (w5.alloc (.cells #[.bool n, .string g, .int .i64 e] 24)).heap.size (w5.alloc (.cells #[.bool n, .string g, .int .i64 e] 24)) W)
    [fun v _ => v = .agg #[.bool n, .string g, .int .i64 e], fun v _ => v = .agg #[.int .i64 3, .bool false, .bool n, .string g, .int .i64 e, .int .u64 0, .int .i64 0, .string ⟨#[]⟩, .slice none 0 0], fun v _ => v = .int .i64 0, fun v W => ∃ bq, v = .slice (some ⟨bq, 0, none⟩) 1 1 ∧ Blk W bq #[.int .i64 0] 29, fun v _ => v = .nilIface] ?_ ?_ ?_ ?_ ?_
  case refine_1 => exact (Below.refl _ _).drew
  case refine_2 => exact fun W W' he hr => he.trans (hr.mono he.size)
  case refine_3 =>
    intro q hq v W W' _ hv hr
    simp only [List.mem_cons, List.not_mem_nil, or_false] at hq
    rcases hq with rfl | rfl | rfl | rfl | rfl
    all_goals first | exact hv | exact (let ⟨g, h1, h2⟩ := hv; ⟨g, h1, h2.below hr h2.lt⟩)
  case refine_4 =>
    refine flow_cons (flow_op rfl rfl (by kernel_rfl) (by kernel_rfl) ?_) ?_
    · intro env W hE hn ρ hρ hc hf hg K hK
      have r8 : ρ (.tmp 8) = .pointer (some ⟨w5.heap.size, 0, none⟩) := by rw [hρ]; kernel_rfl
      clear hρ hn hg
      exact lands_load_row 24 (.tmp 8) rfl w5.heap.size r8 24 _ (0, 0) _ (HK5.out.below hE HK5.out.lt) Tryz.underlying24 rfl (by kernel_rfl) (hK _ _ rfl (Below.refl _ _))
    refine flow_cons (flow_op rfl rfl (by kernel_rfl) (by kernel_rfl) ?_) ?_
    · intro env W hE hn ρ hρ hc hf hg K hK
      have r22 := (show ρ (.tmp 22) = env 0 by rw [hρ]; kernel_rfl).trans (hn 0 (by kernel_rfl))
      clear hρ hn hg
      simp [opLands, go_sem, hc, r22]
      exact hK _ _ rfl (Below.refl _ _)
    refine flow_cons (flow_op rfl rfl (by kernel_rfl) (by kernel_rfl) ?_) ?_
    · intro env W hE hn ρ hρ hc hf hg K hK
      have r9 : ρ (.tmp 9) = .int .i64 0 := by rw [hρ]; kernel_rfl
      clear hρ hn hg
      simp [opLands, go_sem, r9]
      exact hK _ _ rfl (Below.refl _ _)
    refine flow_cons (flow_op rfl rfl (by kernel_rfl) (by kernel_rfl) ?_) ?_
    · intro env W hE hn ρ hρ hc hf hg K hK
      have r24 := (show ρ (.tmp 24) = env 2 by rw [hρ]; kernel_rfl).trans (hn 2 (by kernel_rfl))
      clear hρ hn hg
      simp [opLands, go_sem, r24]
      exact hK _ _ ⟨W.heap.size, rfl, Blk.new _ _ _⟩ ((Below.refl _ W).alloc (Nat.le_refl _) _)
    refine flow_cons (flow_op rfl rfl (by kernel_rfl) (by kernel_rfl) ?_) flow_nil
    · intro env W hE hn ρ hρ hc hf hg K hK
      obtain ⟨bq, e25, hbq⟩ := hn 3 (by kernel_rfl)
      have r25 := (show ρ (.tmp 25) = env 3 by rw [hρ]; kernel_rfl).trans e25
      clear hρ hn hg
      refine lands_call rfl (by kernel_rfl) hf ?_
      rw [show #[Operand.tmp 25].map ρ = #[.slice (some ⟨bq, 0, none⟩) 1 1] by simp [r25]]
      refine (HF.out W bq hbq).mono ?_
      rintro x W' ⟨rfl, rfl⟩
      exact ⟨_, rfl, hK _ _ rfl (Below.refl _ _)⟩
  case refine_5 =>
    intro env W hE hn
    have e1 := hn 1 (by decide)
    have e4 := hn 4 (by decide)
    simp only [phis, List.getD_cons_zero, List.getD_cons_succ] at e1 e4
    clear hn HF HK5
    have hk7 := hk6.below hE hk6.lt
    have hr7 := hr6.below hE hr6.lt
    have hbE := hbD.trans (hE.mono hbD.size)
    simp only [List.take_succ_cons, List.take_zero, List.drop_succ_cons, List.drop_zero, frameAll, e1, e4]
    go_simp
    go_wp2_with (refine wpList_store_row rfl 28 (.tmp 4) (.tmp 23) rfl (w.heap.size + 1) #[.int .i64 3, .bool false, .bool n, .string g, .int .i64 e, .int .u64 0, .int .i64 0, .string ⟨#[]⟩, .slice none 0 0] rfl rfl 28 _ hk7 (by kernel_rfl) rfl (by simp [Value.oneCell']) ?_)
    refine bodyPost_ret (results_cell (T := 28) (b := w.heap.size + 1) rfl rfl rfl (blk_row hk7 _) Tryz.underlying28 rfl (by kernel_rfl)) rfl ?_
    exact ⟨grown_set_row hbE (by omega) _, ⟨none, 0, 0, rfl, LAt.nil _ _ _ _ _⟩, HK.out, by rw [hsb]; exact blk_row_other hr7 (by omega) _, by rw [hsb]; exact Nat.le_refl _⟩
end Go.Proofs.YtflkmhgbinlfiaaGreatDoor
namespace Go.Proofs.YtflkmhgbinlfiaaGreatDoor
open Go.RowKit Go.Shelf
attribute [local go_sem] Oper.semAt_some

/-- The function that reads what stands behind a head of a major. -/
def rdF (m : Nat) : FuncId := if m = 0 then 67 else if m = 1 then 68 else if m ≤ 3 then 69 else if m ≤ 5 then 70 else if m = 6 then 71 else 72
def rdV (p m : Nat) : Value := .func (.func (rdF m)) #[.pointer (some ⟨p, 0, none⟩)] #[]
abbrev rdAll (p : Nat) : Array Value := #[rdV p 0, rdV p 1, rdV p 2, rdV p 3, rdV p 4, rdV p 5, rdV p 6, rdV p 7]
theorem rdF_called (m : Nat) (h : m ≤ 7) : calledB Tryz.prog (rdF m) = true := by
  rcases (by omega : m = 0 ∨ m = 1 ∨ m = 2 ∨ m = 3 ∨ m = 4 ∨ m = 5 ∨ m = 6 ∨ m = 7) with rfl | rfl | rfl | rfl | rfl | rfl | rfl | rfl <;> kernel_rfl
theorem cr_readers (p : Nat) (w : World) :
    Calls Tryz.prog 40 #[.pointer (some ⟨p, 0, none⟩)] w fun x w' => x = .returned (.agg (rdAll p)) ∧ Below w.heap.size w w' := by
  have hk := Blk.new w (Array.replicate 8 .nilFunc) 92
  have hb := (Below.refl w.heap.size w).alloc (Nat.le_refl _) (.cells (Array.replicate 8 .nilFunc) 92)
  go_enter Tryz.func40, Tryz.ntmps40
  go_wp2_with (refine wpList_store_row rfl 92 (.tmp 2) (.tmp 19) rfl (w.heap.size) (rdAll p) rfl rfl 92 _ hk (by kernel_rfl) rfl (by simp [Value.oneCell', rdV]) ?_)
  exact bodyPost_ret (results_one (T := 92) (b := w.heap.size) rfl rfl (blk_row hk _) Tryz.underlying92 rfl (by kernel_rfl)) rfl ⟨rfl, hb.grown (grown_row _ _ _) hb.size (fun q e => by cases e; omega)⟩

theorem ReadN.up {p d D D' : Nat} {w : World} {s : ByteArray} {r : PR Tr} {x : Ending} {w' : World} (hD : D ≤ D') (h : ReadN p d D w s r x w') : ReadN p d D' w s r x w' := by
  unfold ReadN at h ⊢
  cases r with
  | bad e => exact h
  | good t r =>
    obtain ⟨h1, ⟨A, n, c, h2, h3⟩, h4⟩ := h
    exact ⟨h1, ⟨A, n, c, h2, h3.deeper hD⟩, h4⟩

/-- What stands behind a head, by its major's reader. -/
theorem cr_body {w0 : World} (htab : Lib.TabIs Tryz.prog w0 "internal/strconv.uint64pow10" .u64 Lib.pow10Tab) (F d p : Nat) (h : Nat × Nat × Nat) (hI : ItemC w0 F d) (s : ByteArray) (w : World) (hb0 : Below w0.heap.size w0 w) (hp : w0.heap.size ≤ p)
    (hr : RdB w p s (16 - d)) (hs : s.size ≤ 1000000000) (hF : s.size < F) (h1 : h.1 ≤ 7) (h2 : h.2.1 ≤ 31) (h3 : h.2.2 < 18446744073709551616) (hbare : ¬ ((h.1 < 2 ∨ h.1 = 6) ∧ h.2.1 = 31)) :
    Calls Tryz.prog (rdF h.1) #[.pointer (some ⟨p, 0, none⟩), startV h] w (ReadN p (16 - d) (d + 1) w s (bodyP F (itemP F d) h s.data.toList)) := by
  have htw := Lib.tabBelow_of_tabIs htab w hb0
  obtain ⟨hm, hi, ha⟩ := h
  simp only [] at h1 h2 h3 hbare
  unfold bodyP
  simp only []
  rw [if_neg hbare]
  rcases (by omega : hm = 0 ∨ hm = 1 ∨ hm = 2 ∨ hm = 3 ∨ hm = 4 ∨ hm = 5 ∨ hm = 6 ∨ hm = 7) with rfl | rfl | rfl | rfl | rfl | rfl | rfl | rfl
  · exact (cr_plus p (16 - d) hi ha s w hr h3 htw).mono fun x w' q => q.up (Nat.zero_le _)
  · exact (cr_minus p (16 - d) hi ha s w hr h3 htw).mono fun x w' q => q.up (Nat.zero_le _)
  · exact (cr_str F p (16 - d) 2 hi ha (.inl rfl) s w hr hs hF).mono fun x w' q => q.up (Nat.zero_le _)
  · exact (cr_str F p (16 - d) 3 hi ha (.inr rfl) s w hr hs hF).mono fun x w' q => q.up (Nat.zero_le _)
  · exact cr_list4 F d p hi ha hI s w hb0 hp hr hs hF h3
  · exact cr_list5 F d p hi ha hI s w hb0 hp hr hs hF h3
  · exact cr_tag F d p (6, hi, ha) hI s w hb0 hp hr hs hF h3
  · exact (cr_other p (16 - d) (7, hi, ha) s w hr h2 h3).mono fun x w' q => q.up (Nat.zero_le _)

/-- A call of a function value that bears its receiver. -/
theorem lands_callV {P : Program} {o : Oper} {ρ : Operand → Value} {w : World} {R : Value → World → Prop} {f : FuncId} {t : Tmp} {args : Array Operand} {ats : Array TypeId} {b : Value}
    (hop : o.op = .call { callee := .value (.tmp t), args, argTypes := ats }) (hb : calledB P f = true) (hf : ρ (.tmp t) = .func (.func f) #[b] #[])
    (h : Calls P f (#[b] ++ args.map ρ) w fun e w'' => ∃ v, e = .returned v ∧ R v w'') : opLands P o ρ w R := by
  have hrun : (execOp ρ o).run P w = .ok (.enter f (#[b] ++ args.map ρ)) w := by
    unfold calledB at hb
    cases hq : P.funcs[f]? with
    | none => rw [hq] at hb; cases hb
    | some fn =>
      rw [hq] at hb
      simp only [Bool.and_eq_true, Bool.not_eq_true', beq_eq_false_iff_ne, ne_eq] at hb
      have h2 : ¬ fn.body = none := by cases hx : fn.body <;> simp_all
      unfold execOp
      simp [hop, resolve, Deferred.ofValue, invoke, callFunc, hq, hb.1, h2, hf]
  unfold opLands
  rw [hrun]
  exact h

structure ModI (lo p : Nat) (A B : World) : Prop where
  os : B.os = A.os
  tape : B.tape = A.tape
  output : B.output = A.output
  size : A.heap.size ≤ B.heap.size
  block : ∀ k, k < lo → k ≠ p → B.heap[k]? = A.heap[k]?
theorem ModI.refl (lo p : Nat) (A : World) : ModI lo p A A := ⟨rfl, rfl, rfl, Nat.le_refl _, fun _ _ _ => rfl⟩
theorem ModI.trans {lo p : Nat} {A B C : World} (h : ModI lo p A B) (k : ModI lo p B C) : ModI lo p A C :=
  ⟨k.os.trans h.os, k.tape.trans h.tape, k.output.trans h.output, Nat.le_trans h.size k.size, fun i hi hp => (k.block i hi hp).trans (h.block i hi hp)⟩
theorem ModI.of_grown {lo p : Nat} {A B : World} (h : A.grownBy B (some p)) (hl : lo ≤ A.heap.size) : ModI lo p A B :=
  ⟨h.os, h.tape, h.output, h.size, fun k hk hp => h.block k (by omega) (fun e => hp (by injection e))⟩
theorem ModI.of_below {lo p : Nat} {A B : World} (h : Below A.heap.size A B) (hl : lo ≤ A.heap.size) : ModI lo p A B := .of_grown (below_grown h _) hl
theorem ModI.of_row {lo p g : Nat} (A : World) (cs : Array Value) (hg : lo ≤ g) : ModI lo p A (A.setRow g cs) :=
  ⟨rfl, rfl, rfl, by rw [setRow_size]; exact Nat.le_refl _, fun k hk _ => setRow_other _ _ _ _ (by omega)⟩

/-- What a reader told, the node's lists in blocks of X. -/
def ItemRes (lo p dp D sz : Nat) (res : PR Tr) (X : Nat → Prop) (v : Value) (W : World) : Prop := match res with
  | .good t r => (∃ A n c, v = .tuple #[nodeV t.own (.slice A n c), .nilIface] ∧ LAt W (fun q => (lo ≤ q ∧ q < W.heap.size) ∧ X q) D t.kids (.slice A n c)) ∧ OwnOk t.own ∧ RdB W p (bs r) dp ∧ (bs r).size ≤ sz
  | .bad e => (∃ o A n c, v = .tuple #[nodeV o (.slice A n c), errW e]) ∧ e ≠ 0 ∧ ∃ s', RdB W p s' dp ∧ s'.size ≤ sz
theorem ItemRes.keep {lo p dp D sz : Nat} {res : PR Tr} {X X' : Nat → Prop} {v : Value} {W W' : World} (h : ItemRes lo p dp D sz res X v W) (hz : W.heap.size ≤ W'.heap.size)
    (hk : ∀ q, q < W.heap.size → (q = p ∨ (lo ≤ q ∧ X q)) → W'.heap[q]? = W.heap[q]?) (hX : ∀ q, q < W.heap.size → X q → X' q) : ItemRes lo p dp D sz res X' v W' := by
  unfold ItemRes at h ⊢
  cases res with
  | bad e =>
    obtain ⟨h1, h2, s', h3, h4⟩ := h
    exact ⟨h1, h2, s', (hk p h3.lt (.inl rfl)).trans h3, h4⟩
  | good t r =>
    obtain ⟨⟨A, n, c, h1, h2⟩, h3, h4, h5⟩ := h
    exact ⟨⟨A, n, c, h1, (h2.keep (fun q hq => hk q hq.1.2 (.inr ⟨hq.1.1, hq.2⟩))).mono (fun q hq => ⟨⟨hq.1.1, Nat.lt_of_lt_of_le hq.1.2 hz⟩, hX q hq.1.2 hq.2⟩)⟩, h3, (hk p h4.lt (.inl rfl)).trans h4, h5⟩
theorem ItemRes.of_read {lo p dp D : Nat} {w : World} {s : ByteArray} {res : PR Tr} {v : Value} {w' : World} {X : Nat → Prop} (h : ReadN p dp D w s res (.returned v) w') (hl : lo ≤ w.heap.size) (hX : ∀ q, w.heap.size ≤ q → q < w'.heap.size → X q) : ItemRes lo p dp D s.size res X v w' := by
  unfold ReadN at h
  unfold ItemRes
  cases res with
  | bad e =>
    obtain ⟨_, ⟨o, A, n, c, h1⟩, h2, h3⟩ := h
    exact ⟨⟨o, A, n, c, by injection h1⟩, h2, h3⟩
  | good t r =>
    obtain ⟨_, ⟨A, n, c, h1, h2⟩, h3, h4, h5⟩ := h
    exact ⟨⟨A, n, c, by injection h1, h2.mono (fun q hq => ⟨⟨by have := hq.1; omega, hq.2⟩, hX q hq.1 hq.2⟩)⟩, h3, h4, h5⟩
theorem ItemRes.shape {lo p dp D sz : Nat} {res : PR Tr} {X : Nat → Prop} {v : Value} {W : World} (h : ItemRes lo p dp D sz res X v W) : ∃ o A n c e, v = .tuple #[nodeV o (.slice A n c), e] := by
  unfold ItemRes at h
  cases res with
  | bad e =>
    obtain ⟨⟨o, A, n, c, h1⟩, _⟩ := h
    exact ⟨o, A, n, c, _, h1⟩
  | good t r =>
    obtain ⟨⟨A, n, c, h1, _⟩, _⟩ := h
    exact ⟨_, A, n, c, _, h1⟩
end Go.Proofs.YtflkmhgbinlfiaaGreatDoor
