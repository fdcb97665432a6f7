/- The texts NatE, put together. -/
import Derived.Test.YtflkmhgbinlfiaaGreatDoorPq38
import Derived.Test.YtflkmhgbinlfiaaGreatDoorPq11
namespace Go.Proofs.YtflkmhgbinlfiaaGreatDoor
open Go.RowKit Go.Shelf
attribute [local go_sem] Oper.semAt_some

/-- A limb, or none behind them. -/
theorem limb_at (g c k i x : Nat) (hx : x < 4294967296) (w : World) (hc : i < k → w.cell? ⟨g, i, none⟩ = some (.int .u32 x)) (h0 : k ≤ i → x = 0) :
    Calls Tryz.prog 162 #[.slice (some ⟨g, 0, none⟩) k c, .int .i64 i] w fun e w' => e = .returned (.int .u64 x) ∧ w' = w := by
  by_cases h : i < k
  · exact limb_in g k c i x h hx w (hc h)
  · have := h0 (by omega)
    subst this
    exact limb_out _ k c i (by omega) w
theorem limb_of {W : World} {g n k : Nat} (c i : Nat) (hL : LimbsAt W g n k) (h0 : n / 10 ^ (9 * k) = 0) :
    Calls Tryz.prog 162 #[.slice (some ⟨g, 0, none⟩) k c, .int .i64 i] W fun e w' => e = .returned (.int .u64 (lim n i)) ∧ w' = W :=
  limb_at g c k i (lim n i) (by have := lim_lt n i; omega) W (fun h => hL i h) (fun h => lim_none h0 h)
theorem len_1 : lenN 1 = 1 := by
  unfold lenN
  rw [if_neg (by decide), Lib.decDigits_one (by decide)]
  rfl
theorem one_end : 1 / 10 ^ (9 * 1) = 0 := Nat.div_eq_of_lt (by rw [Nat.mul_one, show (10 : Nat) ^ 9 = 1000000000 from by decide]; omega)
theorem lim_1 (i : Nat) : lim 1 i = one i := by
  unfold one
  split
  · rename_i h
    subst h
    rw [lim_0]
  · exact lim_none (k := 1) one_end (by omega)
theorem limb_b {W : World} {g k : Nat} (c i : Nat) (hk : k = 1) (hL : LimbsAt W g 1 k) :
    Calls Tryz.prog 162 #[.slice (some ⟨g, 0, none⟩) k c, .int .i64 i] W fun e w' => e = .returned (.int .u64 (one i)) ∧ w' = W := by
  have h1 := lim_1 i
  have h2 : one i < 4294967296 := by unfold one; split <;> omega
  refine limb_at g c k i (one i) h2 W (fun h => ?_) (fun h => ?_)
  · have := hL i h
    rw [h1] at this
    exact this
  · unfold one
    rw [if_neg (by omega)]
theorem row_setC {w : World} {n k : Nat} {e : TypeId} {v : Value} {xs : List Value} (h : w.ownsRow (k + 1) e 1 v n xs) (j : Nat) (u : Value) : (w.setCell ⟨k, j, none⟩ u).ownsRow (k + 1) e 1 v n xs :=
  h.kept (grown_set w k j u) (by
    cases hv : v.ownBlock with
    | none => exact .inl rfl
    | some q => exact .inr (fun e => by have := (h.lt q hv).1; simp only [Option.some.injEq] at e; omega))
theorem car_bound {n i : Nat} (h : 0 < car n i) (hn : n / 10 ^ (9 * (i - 1)) = 0) (hi : 1 < i) : False := by
  have h1 := shr_succ n (i - 1)
  have h2 := shr_succ (n + 1) (i - 1)
  have h3 := (car_le n (i - 1)).2
  rw [show i - 1 + 1 = i from by omega] at h1 h2
  unfold car at h
  rw [if_neg (by omega), h1, h2] at h
  generalize (n + 1) / 10 ^ (9 * (i - 1)) = x at h3 h
  generalize n / 10 ^ (9 * (i - 1)) = y at h3 h hn
  omega
theorem top_end {n k : Nat} (h : n / 10 ^ (9 * k) = 0) {j : Nat} (hj : k ≤ j) : n / 10 ^ (9 * j) = 0 := by
  have h1 : n < 10 ^ (9 * k) := (Nat.div_eq_zero_iff_lt (Nat.pow_pos (by decide))).1 h
  have h2 : 10 ^ (9 * k) ≤ 10 ^ (9 * j) := Nat.pow_le_pow_right (by decide) (by omega)
  exact Nat.div_eq_of_lt (by omega)

def atN (W : World) (b : Nat) : Nat := match W.cell? ⟨b, 1, none⟩ with
  | some (.int _ x) => x.toNat
  | _ => 0
set_option maxHeartbeats 8000000 in
set_option maxRecDepth 100000 in
theorem nat_add1 (n ga ca gb cb ka kb : Nat) (hka : ka ≤ 1000) (hkb : kb = 1) (w : World) (hga : ga < w.heap.size) (hgb : gb < w.heap.size) (hA : LimbsAt w ga n ka) (hA0 : n / 10 ^ (9 * ka) = 0) (hB : LimbsAt w gb 1 kb) :
    Calls Tryz.prog 135 #[.slice (some ⟨ga, 0, none⟩) ka ca, .slice (some ⟨gb, 0, none⟩) kb cb] w fun e w' => Below w.heap.size w w' ∧ ∃ g k c, e = .returned (.slice (some ⟨g, 0, none⟩) k c) ∧ w.heap.size ≤ g ∧ g < w'.heap.size ∧ 0 < k ∧ k ≤ max ka 1 + 1 ∧ k ≤ c ∧ LimbsAt w' g (n + 1) k ∧ car n k = 0 ∧ max ka 1 ≤ k ∧ (max ka 1 < k → 0 < car n (k - 1)) := by
  obtain ⟨i0, hi, hz0, hz1, hz2⟩ := info_parts infoU32
  have HI := Lib.hid hi
  have HZ0 := Lib.hid hz0
  have HZ1 := Lib.hid hz1
  have HZ2 := Lib.hid hz2
  have HKB := Lib.hid hkb
  clear hi hz0 hz1 hz2
  have hb1 := (Below.refl w.heap.size w).alloc (Nat.le_refl _) (.cells #[.int .u64 0, .int .i64 0] 237)
  have hk1 := Blk.new w #[.int .u64 0, .int .i64 0] 237
  have HLAW := Lib.hid (fun i W (hb : Below w.heap.size w W) => limb_of ca i (hA.below hb hga) hA0)
  have HLBW := Lib.hid (fun i W (hb : Below w.heap.size w W) => limb_b cb i hkb (hB.below hb hgb))
  have HA0 := Lib.hid hA0
  obtain ⟨M, hM⟩ : ∃ M, max ka 1 = M := ⟨_, rfl⟩
  have y0 : max (ka : Int) (kb : Int) = (M : Int) := by omega
  have HM := Lib.hid hM
  have hM1 : M ≤ 1000 := by omega
  rw [hM]
  clear hA hA0 hB hM hkb
  go_enter Tryz.func135, Tryz.ntmps135
  go_wp2_with fail
  go_loopw [5] (fun v wr => ∃ i : Nat, i ≤ M + 1 ∧ (M < i → 0 < car n (i - 1)) ∧ wr.ownsRow (w.heap.size + 1) 226 1 v i (limVals (n + 1) i) ∧ Blk wr w.heap.size #[.int .u64 (car n i), .int .i64 i] 237 ∧ Below w.heap.size w wr) (fun _ wr => M + 1 - atN wr w.heap.size)
  case atStart => exact ⟨0, by omega, fun h => by omega, World.ownsRow_nil _ _ _ _, hk1, hb1⟩
  case round =>
    obtain ⟨i, hiM, hci, hown, hk, hbw⟩ := hrel
    have hcl := car_lt n i
    obtain ⟨c, hc⟩ : ∃ c, car n i = c := ⟨_, rfl⟩
    rw [hc] at hk hcl
    have z0 : wr.cell? ⟨w.heap.size, 0, none⟩ = some (.int .u64 c) := hk.cell 0
    have z1 : wr.cell? ⟨w.heap.size, 1, none⟩ = some (.int .i64 i) := hk.cell 1
    have hmeas : atN wr w.heap.size = i := by
      unfold atN
      rw [z1]
      simp
    have HMS := Lib.hid hmeas
    have HC := Lib.hid hc
    clear hmeas hc
    by_cases hgo : i < M ∨ 0 < c
    · have hiM2 : i ≤ M := by
        rcases hgo with h | h
        · omega
        · apply Decidable.byContradiction
          intro hne
          have h1 : 1 < i := by have := HM.out; omega
          exact car_bound (n := n) (i := i) (by rw [HC.out]; exact h) (top_end HA0.out (by have := HM.out; omega)) h1
      have hla := lim_lt n i
      have hadd := add_limb n i
      have hcar := add_carry n i
      have hone : one i ≤ 1 := by unfold one; split <;> omega
      have HLA := Lib.hid (HLAW.out i)
      have HLB := Lib.hid (HLBW.out i)
      rw [HC.out] at hadd hcar
      obtain ⟨la, hlaE⟩ : ∃ la, lim n i = la := ⟨_, rfl⟩
      obtain ⟨lb, hlbE⟩ : ∃ lb, one i = lb := ⟨_, rfl⟩
      rw [hlaE] at hla hadd hcar HLA
      rw [hlbE] at hadd hcar hone HLB
      obtain ⟨s1, hs1⟩ : ∃ s1, la + lb = s1 := ⟨_, rfl⟩
      rw [hs1] at hadd hcar
      obtain ⟨s2, hs2⟩ : ∃ s2, c + s1 = s2 := ⟨_, rfl⟩
      rw [hs2] at hadd hcar
      have hlr := lim_lt (n + 1) i
      obtain ⟨r, hr⟩ : ∃ r, lim (n + 1) i = r := ⟨_, rfl⟩
      rw [hr] at hadd hlr
      obtain ⟨c2, hc2⟩ : ∃ c2, car n (i + 1) = c2 := ⟨_, rfl⟩
      rw [hc2] at hcar
      have y1 : (la : Int) + (lb : Int) = s1 := by omega
      have y2 : (c : Int) + (s1 : Int) = s2 := by omega
      have y1' : IntKind.u64.wrap (s1 : Int) = s1 := by rw [IntKind.wrap_u64]; omega
      have y2' : IntKind.u64.wrap (s2 : Int) = s2 := by rw [IntKind.wrap_u64]; omega
      have y3 : (s2 : Int) % 1000000000 = r := by omega
      have y4 : (s2 : Int) / 1000000000 = c2 := by omega
      have y5 : IntKind.u32.wrap (r : Int) = r := by rw [IntKind.wrap_u32]; omega
      have HLV := Lib.hid (show limVals (n + 1) i ++ [.int .u32 r] = limVals (n + 1) (i + 1) by rw [← hr]; exact limVals_succ _ _)
      have hnext : M < i + 1 → 0 < car n i := fun h => by
        rw [HC.out]
        omega
      have HNX := Lib.hid hnext
      have HC2 := Lib.hid hc2
      have y6 : c2 ≤ 1 := by rw [← hc2]; exact car_lt _ _
      have hii : i ≤ 1001 := by omega
      have HIM := Lib.hid hiM2
      have HK := Lib.hid hk
      have HOWN := Lib.hid hown
      have HBW := Lib.hid hbw
      have hgo' : (i < M) ∨ (¬ (i : Int) < (M : Int) ∧ (c : Int) > 0) := by omega
      clear hlaE hlbE hs1 hs2 hr hc2 hadd hcar hla hlr hnext hiM2 hiM hci hgo hown hone hcl
      rcases hgo' with hlt | ⟨hlt, hcp⟩
      · have hlt : (i : Int) < (M : Int) := by omega
        go_wp2_with fail
        refine wp_region_tail (R := fun W W' => W = W') 13 (by kernel_rfl) (by kernel_rfl) (fun _ => rfl) (by kernel_rfl) (by kernel_rfl) (fun W => Blk W w.heap.size #[.int .u64 c, .int .i64 i] 237 ∧ Below w.heap.size w W ∧ Below wr.heap.size wr W)
          [fun v _ => v = .pointer (some ⟨w.heap.size, 0, none⟩), fun v _ => v = .int .u64 c, fun v _ => v = .slice (some ⟨ga, 0, none⟩) ka ca, fun v _ => v = .pointer (some ⟨w.heap.size, 1, none⟩), fun v _ => v = .int .i64 i, fun v _ => v = .int .u64 la, fun v _ => v = .slice (some ⟨gb, 0, none⟩) kb cb, fun v _ => v = .pointer (some ⟨w.heap.size, 1, none⟩), fun v _ => v = .int .i64 i, fun v _ => v = .int .u64 lb, fun v _ => v = .int .u64 s1, fun v _ => v = .int .u64 s2, fun v _ => v = .pointer (some ⟨w.heap.size, 0, none⟩)] ?_ ?_ ?_ ?_ ?_
        case refine_1 => exact ⟨hk, hbw.drew, (Below.refl _ wr).drew⟩
        case refine_2 =>
          rintro W W' he rfl
          exact he
        case refine_3 =>
          intro q hq v W W' _ hv hr
          simp only [List.mem_cons, List.not_mem_nil, or_false] at hq
          rcases hq with rfl | rfl | rfl | rfl | rfl | rfl | rfl | rfl | rfl | rfl | rfl | rfl | rfl <;> exact hv
        case refine_4 =>
          refine flow_cons (flow_op rfl rfl (by kernel_rfl) (by kernel_rfl) ?_) ?_
          · intro env W hE hn ρ hρ hc hf hg K hK
            have r6 : ρ (.tmp 6) = .pointer (some ⟨w.heap.size, 0, none⟩) := by rw [hρ]; kernel_rfl
            clear hρ hn hg
            simp [opLands, go_sem, r6]
            exact hK _ _ rfl (rfl)
          refine flow_cons (flow_op rfl rfl (by kernel_rfl) (by kernel_rfl) ?_) ?_
          · intro env W hE hn ρ hρ hc hf hg K hK
            have r25 := (show ρ (.tmp 25) = env 0 by rw [hρ]; kernel_rfl).trans (hn 0 (by kernel_rfl))
            clear hρ hn hg
            have q0 : W.cell? ⟨w.heap.size, 0, none⟩ = some (.int .u64 c) := hE.1.cell 0
            simp [opLands, go_sem, r25, q0]
            exact hK _ _ rfl rfl
          refine flow_cons (flow_op rfl rfl (by kernel_rfl) (by kernel_rfl) ?_) ?_
          · intro env W hE hn ρ hρ hc hf hg K hK
            have r0 : ρ (.tmp 0) = .slice (some ⟨ga, 0, none⟩) ka ca := by rw [hρ]; kernel_rfl
            clear hρ hn hg
            simp [opLands, go_sem, r0]
            exact hK _ _ rfl (rfl)
          refine flow_cons (flow_op rfl rfl (by kernel_rfl) (by kernel_rfl) ?_) ?_
          · intro env W hE hn ρ hρ hc hf hg K hK
            have r6 : ρ (.tmp 6) = .pointer (some ⟨w.heap.size, 0, none⟩) := by rw [hρ]; kernel_rfl
            clear hρ hn hg
            simp [opLands, go_sem, r6]
            exact hK _ _ rfl (rfl)
          refine flow_cons (flow_op rfl rfl (by kernel_rfl) (by kernel_rfl) ?_) ?_
          · intro env W hE hn ρ hρ hc hf hg K hK
            have r28 := (show ρ (.tmp 28) = env 3 by rw [hρ]; kernel_rfl).trans (hn 3 (by kernel_rfl))
            clear hρ hn hg
            have q0 : W.cell? ⟨w.heap.size, 1, none⟩ = some (.int .i64 i) := hE.1.cell 1
            simp [opLands, go_sem, r28, q0]
            exact hK _ _ rfl rfl
          refine flow_cons (flow_op rfl rfl (by kernel_rfl) (by kernel_rfl) ?_) ?_
          · intro env W hE hn ρ hρ hc hf hg K hK
            have r27 := (show ρ (.tmp 27) = env 2 by rw [hρ]; kernel_rfl).trans (hn 2 (by kernel_rfl))
            have r29 := (show ρ (.tmp 29) = env 4 by rw [hρ]; kernel_rfl).trans (hn 4 (by kernel_rfl))
            clear hρ hn hg
            refine lands_call rfl (by kernel_rfl) hf ?_
            rw [show #[Operand.tmp 27, Operand.tmp 29].map ρ = #[.slice (some ⟨ga, 0, none⟩) ka ca, .int .i64 i] by simp [r27, r29]]
            refine (HLA.out W hE.2.1).mono ?_
            rintro e W' ⟨rfl, rfl⟩
            exact ⟨_, rfl, hK _ _ rfl rfl⟩
          refine flow_cons (flow_op rfl rfl (by kernel_rfl) (by kernel_rfl) ?_) ?_
          · intro env W hE hn ρ hρ hc hf hg K hK
            have r1 : ρ (.tmp 1) = .slice (some ⟨gb, 0, none⟩) kb cb := by rw [hρ]; kernel_rfl
            clear hρ hn hg
            simp [opLands, go_sem, r1]
            exact hK _ _ rfl (rfl)
          refine flow_cons (flow_op rfl rfl (by kernel_rfl) (by kernel_rfl) ?_) ?_
          · intro env W hE hn ρ hρ hc hf hg K hK
            have r6 : ρ (.tmp 6) = .pointer (some ⟨w.heap.size, 0, none⟩) := by rw [hρ]; kernel_rfl
            clear hρ hn hg
            simp [opLands, go_sem, r6]
            exact hK _ _ rfl (rfl)
          refine flow_cons (flow_op rfl rfl (by kernel_rfl) (by kernel_rfl) ?_) ?_
          · intro env W hE hn ρ hρ hc hf hg K hK
            have r32 := (show ρ (.tmp 32) = env 7 by rw [hρ]; kernel_rfl).trans (hn 7 (by kernel_rfl))
            clear hρ hn hg
            have q0 : W.cell? ⟨w.heap.size, 1, none⟩ = some (.int .i64 i) := hE.1.cell 1
            simp [opLands, go_sem, r32, q0]
            exact hK _ _ rfl rfl
          refine flow_cons (flow_op rfl rfl (by kernel_rfl) (by kernel_rfl) ?_) ?_
          · intro env W hE hn ρ hρ hc hf hg K hK
            have r31 := (show ρ (.tmp 31) = env 6 by rw [hρ]; kernel_rfl).trans (hn 6 (by kernel_rfl))
            have r33 := (show ρ (.tmp 33) = env 8 by rw [hρ]; kernel_rfl).trans (hn 8 (by kernel_rfl))
            clear hρ hn hg
            refine lands_call rfl (by kernel_rfl) hf ?_
            rw [show #[Operand.tmp 31, Operand.tmp 33].map ρ = #[.slice (some ⟨gb, 0, none⟩) kb cb, .int .i64 i] by simp [r31, r33]]
            refine (HLB.out W hE.2.1).mono ?_
            rintro e W' ⟨rfl, rfl⟩
            exact ⟨_, rfl, hK _ _ rfl rfl⟩
          refine flow_cons (flow_op rfl rfl (by kernel_rfl) (by kernel_rfl) ?_) ?_
          · intro env W hE hn ρ hρ hc hf hg K hK
            have r30 := (show ρ (.tmp 30) = env 5 by rw [hρ]; kernel_rfl).trans (hn 5 (by kernel_rfl))
            have r34 := (show ρ (.tmp 34) = env 9 by rw [hρ]; kernel_rfl).trans (hn 9 (by kernel_rfl))
            clear hρ hn hg
            simp [opLands, go_sem, r30, r34, y1, y1']
            exact hK _ _ rfl (rfl)
          refine flow_cons (flow_op rfl rfl (by kernel_rfl) (by kernel_rfl) ?_) ?_
          · intro env W hE hn ρ hρ hc hf hg K hK
            have r26 := (show ρ (.tmp 26) = env 1 by rw [hρ]; kernel_rfl).trans (hn 1 (by kernel_rfl))
            have r35 := (show ρ (.tmp 35) = env 10 by rw [hρ]; kernel_rfl).trans (hn 10 (by kernel_rfl))
            clear hρ hn hg
            simp [opLands, go_sem, r26, r35, y2, y2']
            exact hK _ _ rfl (rfl)
          refine flow_cons (flow_op rfl rfl (by kernel_rfl) (by kernel_rfl) ?_) flow_nil
          · intro env W hE hn ρ hρ hc hf hg K hK
            have r6 : ρ (.tmp 6) = .pointer (some ⟨w.heap.size, 0, none⟩) := by rw [hρ]; kernel_rfl
            clear hρ hn hg
            simp [opLands, go_sem, r6]
            exact hK _ _ rfl (rfl)
        case refine_5 =>
          intro env W hE hn
          have e11 := hn 11 (by decide)
          have e12 := hn 12 (by decide)
          simp only [phis, List.getD_cons_zero, List.getD_cons_succ] at e11 e12
          clear hn
          obtain ⟨hkW, hbW, hbR⟩ := hE
          have hk5 := hkW.set 0 (.int .u64 s2)
          have hown5 : (W.setCell ⟨w.heap.size, 0, none⟩ (.int .u64 s2)).ownsRow (w.heap.size + 1) 226 1 u5 i (limVals (n + 1) i) := row_setFar (HOWN.out.kept (below_grown hbR none) (own_none _)) (by omega) _
          have hb5 : Below w.heap.size w (W.setCell ⟨w.heap.size, 0, none⟩ (.int .u64 s2)) := hbW.setCell (p := ⟨w.heap.size, 0, none⟩) (Nat.le_refl _) _
          have f0 := hkW.frozen 0
          have f1 := hkW.cell 0
          have hz5 : w.heap.size + 1 ≤ (W.setCell ⟨w.heap.size, 0, none⟩ (.int .u64 s2)).heap.size := by
            have := hk5.lt
            omega
          simp only [List.take_succ_cons, List.take_zero, List.drop_succ_cons, List.drop_zero, frameAll, e11, e12]
          go_simp
          clear e11 e12 z0 z1 y1 y2 y1' y2' hk
          have q0 := hk5.cell 0
          have q1 := hk5.cell 1
          have hcn := cell_one_new (W.setCell ⟨w.heap.size, 0, none⟩ (.int .u64 s2)) (.int .u32 r) 226
          rw [show (W.setCell ⟨w.heap.size, 0, none⟩ (.int .u64 s2)).heap.size = W.heap.size from by simp [World.setCell]] at hcn hz5
          go_wp2_with (at_builtin; refine wpList_append_own _ rfl _ _ 208 rfl (w.heap.size + 1) 226 i0 (.int .u32 0) 1 4 Tryz.underlying208 HI.out HZ0.out HZ1.out HZ2.out rfl (by decide) _ _ _ rfl (hown5.alloc _) ⟨W.heap.size, 0, none⟩ 1 1 [.int .u32 r] rfl rfl hcn (by simp [Value.oneCell']) (by unfold maxLen; omega) (by omega) (by simp [World.setCell]; omega) ?_; intro v' w6 hown6 hgrow6 _; have hk6 := (hk5.alloc (.cells #[.int .u32 r] 226)).kept hgrow6 (fun e => by have := (hown5.lt w.heap.size e.symm).1; omega); have q2 := hk6.cell 0; have q3 := hk6.cell 1; have q4 := hk6.frozen 0; have q5 := hk6.frozen 1)
          have HW6 := Lib.hid (show Below w.heap.size w w6 from (hb5.alloc hb5.size _).grown hgrow6 (by simp [World.setCell]; omega) (fun q e => by have := (hown5.lt q (by first | exact e.symm | exact e)).1; omega))
          have HOWN6 := Lib.hid hown6
          have HK6 := Lib.hid hk6
          clear hown6 hk6 hgrow6
          have hkN := ((HK6.out.set 0 (.int .u64 c2)).set 1 (.int .i64 ((i : Int) + 1)))
          have hoN := row_setC (row_setC HOWN6.out 0 (.int .u64 c2)) 1 (.int .i64 ((i : Int) + 1))
          rw [HLV.out] at hoN
          have hbN := (HW6.out.setCell (p := ⟨w.heap.size, 0, none⟩) (Nat.le_refl _) (.int .u64 c2)).setCell (p := ⟨w.heap.size, 1, none⟩) (Nat.le_refl _) (.int .i64 ((i : Int) + 1))
          have hmN := hkN.cell 1
          go_roundw
          case rel => exact ⟨i + 1, by have := HIM.out; omega, fun h => HNX.out (by omega), hoN, by rw [HC2.out]; exact hkN, hbN⟩
          case measure =>
            rw [HMS.out]
            unfold atN
            rw [hmN]
            simp
            have := HIM.out
            omega
      · go_wp2_with fail
        refine wp_region_tail (R := fun W W' => W = W') 13 (by kernel_rfl) (by kernel_rfl) (fun _ => rfl) (by kernel_rfl) (by kernel_rfl) (fun W => Blk W w.heap.size #[.int .u64 c, .int .i64 i] 237 ∧ Below w.heap.size w W ∧ Below wr.heap.size wr W)
          [fun v _ => v = .pointer (some ⟨w.heap.size, 0, none⟩), fun v _ => v = .int .u64 c, fun v _ => v = .slice (some ⟨ga, 0, none⟩) ka ca, fun v _ => v = .pointer (some ⟨w.heap.size, 1, none⟩), fun v _ => v = .int .i64 i, fun v _ => v = .int .u64 la, fun v _ => v = .slice (some ⟨gb, 0, none⟩) kb cb, fun v _ => v = .pointer (some ⟨w.heap.size, 1, none⟩), fun v _ => v = .int .i64 i, fun v _ => v = .int .u64 lb, fun v _ => v = .int .u64 s1, fun v _ => v = .int .u64 s2, fun v _ => v = .pointer (some ⟨w.heap.size, 0, none⟩)] ?_ ?_ ?_ ?_ ?_
        case refine_1 => exact ⟨hk, hbw.drew, (Below.refl _ wr).drew⟩
        case refine_2 =>
          rintro W W' he rfl
          exact he
        case refine_3 =>
          intro q hq v W W' _ hv hr
          simp only [List.mem_cons, List.not_mem_nil, or_false] at hq
          rcases hq with rfl | rfl | rfl | rfl | rfl | rfl | rfl | rfl | rfl | rfl | rfl | rfl | rfl <;> exact hv
        case refine_4 =>
          refine flow_cons (flow_op rfl rfl (by kernel_rfl) (by kernel_rfl) ?_) ?_
          · intro env W hE hn ρ hρ hc hf hg K hK
            have r6 : ρ (.tmp 6) = .pointer (some ⟨w.heap.size, 0, none⟩) := by rw [hρ]; kernel_rfl
            clear hρ hn hg
            simp [opLands, go_sem, r6]
            exact hK _ _ rfl (rfl)
          refine flow_cons (flow_op rfl rfl (by kernel_rfl) (by kernel_rfl) ?_) ?_
          · intro env W hE hn ρ hρ hc hf hg K hK
            have r25 := (show ρ (.tmp 25) = env 0 by rw [hρ]; kernel_rfl).trans (hn 0 (by kernel_rfl))
            clear hρ hn hg
            have q0 : W.cell? ⟨w.heap.size, 0, none⟩ = some (.int .u64 c) := hE.1.cell 0
            simp [opLands, go_sem, r25, q0]
            exact hK _ _ rfl rfl
          refine flow_cons (flow_op rfl rfl (by kernel_rfl) (by kernel_rfl) ?_) ?_
          · intro env W hE hn ρ hρ hc hf hg K hK
            have r0 : ρ (.tmp 0) = .slice (some ⟨ga, 0, none⟩) ka ca := by rw [hρ]; kernel_rfl
            clear hρ hn hg
            simp [opLands, go_sem, r0]
            exact hK _ _ rfl (rfl)
          refine flow_cons (flow_op rfl rfl (by kernel_rfl) (by kernel_rfl) ?_) ?_
          · intro env W hE hn ρ hρ hc hf hg K hK
            have r6 : ρ (.tmp 6) = .pointer (some ⟨w.heap.size, 0, none⟩) := by rw [hρ]; kernel_rfl
            clear hρ hn hg
            simp [opLands, go_sem, r6]
            exact hK _ _ rfl (rfl)
          refine flow_cons (flow_op rfl rfl (by kernel_rfl) (by kernel_rfl) ?_) ?_
          · intro env W hE hn ρ hρ hc hf hg K hK
            have r28 := (show ρ (.tmp 28) = env 3 by rw [hρ]; kernel_rfl).trans (hn 3 (by kernel_rfl))
            clear hρ hn hg
            have q0 : W.cell? ⟨w.heap.size, 1, none⟩ = some (.int .i64 i) := hE.1.cell 1
            simp [opLands, go_sem, r28, q0]
            exact hK _ _ rfl rfl
          refine flow_cons (flow_op rfl rfl (by kernel_rfl) (by kernel_rfl) ?_) ?_
          · intro env W hE hn ρ hρ hc hf hg K hK
            have r27 := (show ρ (.tmp 27) = env 2 by rw [hρ]; kernel_rfl).trans (hn 2 (by kernel_rfl))
            have r29 := (show ρ (.tmp 29) = env 4 by rw [hρ]; kernel_rfl).trans (hn 4 (by kernel_rfl))
            clear hρ hn hg
            refine lands_call rfl (by kernel_rfl) hf ?_
            rw [show #[Operand.tmp 27, Operand.tmp 29].map ρ = #[.slice (some ⟨ga, 0, none⟩) ka ca, .int .i64 i] by simp [r27, r29]]
            refine (HLA.out W hE.2.1).mono ?_
            rintro e W' ⟨rfl, rfl⟩
            exact ⟨_, rfl, hK _ _ rfl rfl⟩
          refine flow_cons (flow_op rfl rfl (by kernel_rfl) (by kernel_rfl) ?_) ?_
          · intro env W hE hn ρ hρ hc hf hg K hK
            have r1 : ρ (.tmp 1) = .slice (some ⟨gb, 0, none⟩) kb cb := by rw [hρ]; kernel_rfl
            clear hρ hn hg
            simp [opLands, go_sem, r1]
            exact hK _ _ rfl (rfl)
          refine flow_cons (flow_op rfl rfl (by kernel_rfl) (by kernel_rfl) ?_) ?_
          · intro env W hE hn ρ hρ hc hf hg K hK
            have r6 : ρ (.tmp 6) = .pointer (some ⟨w.heap.size, 0, none⟩) := by rw [hρ]; kernel_rfl
            clear hρ hn hg
            simp [opLands, go_sem, r6]
            exact hK _ _ rfl (rfl)
          refine flow_cons (flow_op rfl rfl (by kernel_rfl) (by kernel_rfl) ?_) ?_
          · intro env W hE hn ρ hρ hc hf hg K hK
            have r32 := (show ρ (.tmp 32) = env 7 by rw [hρ]; kernel_rfl).trans (hn 7 (by kernel_rfl))
            clear hρ hn hg
            have q0 : W.cell? ⟨w.heap.size, 1, none⟩ = some (.int .i64 i) := hE.1.cell 1
            simp [opLands, go_sem, r32, q0]
            exact hK _ _ rfl rfl
          refine flow_cons (flow_op rfl rfl (by kernel_rfl) (by kernel_rfl) ?_) ?_
          · intro env W hE hn ρ hρ hc hf hg K hK
            have r31 := (show ρ (.tmp 31) = env 6 by rw [hρ]; kernel_rfl).trans (hn 6 (by kernel_rfl))
            have r33 := (show ρ (.tmp 33) = env 8 by rw [hρ]; kernel_rfl).trans (hn 8 (by kernel_rfl))
            clear hρ hn hg
            refine lands_call rfl (by kernel_rfl) hf ?_
            rw [show #[Operand.tmp 31, Operand.tmp 33].map ρ = #[.slice (some ⟨gb, 0, none⟩) kb cb, .int .i64 i] by simp [r31, r33]]
            refine (HLB.out W hE.2.1).mono ?_
            rintro e W' ⟨rfl, rfl⟩
            exact ⟨_, rfl, hK _ _ rfl rfl⟩
          refine flow_cons (flow_op rfl rfl (by kernel_rfl) (by kernel_rfl) ?_) ?_
          · intro env W hE hn ρ hρ hc hf hg K hK
            have r30 := (show ρ (.tmp 30) = env 5 by rw [hρ]; kernel_rfl).trans (hn 5 (by kernel_rfl))
            have r34 := (show ρ (.tmp 34) = env 9 by rw [hρ]; kernel_rfl).trans (hn 9 (by kernel_rfl))
            clear hρ hn hg
            simp [opLands, go_sem, r30, r34, y1, y1']
            exact hK _ _ rfl (rfl)
          refine flow_cons (flow_op rfl rfl (by kernel_rfl) (by kernel_rfl) ?_) ?_
          · intro env W hE hn ρ hρ hc hf hg K hK
            have r26 := (show ρ (.tmp 26) = env 1 by rw [hρ]; kernel_rfl).trans (hn 1 (by kernel_rfl))
            have r35 := (show ρ (.tmp 35) = env 10 by rw [hρ]; kernel_rfl).trans (hn 10 (by kernel_rfl))
            clear hρ hn hg
            simp [opLands, go_sem, r26, r35, y2, y2']
            exact hK _ _ rfl (rfl)
          refine flow_cons (flow_op rfl rfl (by kernel_rfl) (by kernel_rfl) ?_) flow_nil
          · intro env W hE hn ρ hρ hc hf hg K hK
            have r6 : ρ (.tmp 6) = .pointer (some ⟨w.heap.size, 0, none⟩) := by rw [hρ]; kernel_rfl
            clear hρ hn hg
            simp [opLands, go_sem, r6]
            exact hK _ _ rfl (rfl)
        case refine_5 =>
          intro env W hE hn
          have e11 := hn 11 (by decide)
          have e12 := hn 12 (by decide)
          simp only [phis, List.getD_cons_zero, List.getD_cons_succ] at e11 e12
          clear hn
          obtain ⟨hkW, hbW, hbR⟩ := hE
          have hk5 := hkW.set 0 (.int .u64 s2)
          have hown5 : (W.setCell ⟨w.heap.size, 0, none⟩ (.int .u64 s2)).ownsRow (w.heap.size + 1) 226 1 u5 i (limVals (n + 1) i) := row_setFar (HOWN.out.kept (below_grown hbR none) (own_none _)) (by omega) _
          have hb5 : Below w.heap.size w (W.setCell ⟨w.heap.size, 0, none⟩ (.int .u64 s2)) := hbW.setCell (p := ⟨w.heap.size, 0, none⟩) (Nat.le_refl _) _
          have f0 := hkW.frozen 0
          have f1 := hkW.cell 0
          have hz5 : w.heap.size + 1 ≤ (W.setCell ⟨w.heap.size, 0, none⟩ (.int .u64 s2)).heap.size := by
            have := hk5.lt
            omega
          simp only [List.take_succ_cons, List.take_zero, List.drop_succ_cons, List.drop_zero, frameAll, e11, e12]
          go_simp
          clear e11 e12 z0 z1 y1 y2 y1' y2' hk
          have q0 := hk5.cell 0
          have q1 := hk5.cell 1
          have hcn := cell_one_new (W.setCell ⟨w.heap.size, 0, none⟩ (.int .u64 s2)) (.int .u32 r) 226
          rw [show (W.setCell ⟨w.heap.size, 0, none⟩ (.int .u64 s2)).heap.size = W.heap.size from by simp [World.setCell]] at hcn hz5
          go_wp2_with (at_builtin; refine wpList_append_own _ rfl _ _ 208 rfl (w.heap.size + 1) 226 i0 (.int .u32 0) 1 4 Tryz.underlying208 HI.out HZ0.out HZ1.out HZ2.out rfl (by decide) _ _ _ rfl (hown5.alloc _) ⟨W.heap.size, 0, none⟩ 1 1 [.int .u32 r] rfl rfl hcn (by simp [Value.oneCell']) (by unfold maxLen; omega) (by omega) (by simp [World.setCell]; omega) ?_; intro v' w6 hown6 hgrow6 _; have hk6 := (hk5.alloc (.cells #[.int .u32 r] 226)).kept hgrow6 (fun e => by have := (hown5.lt w.heap.size e.symm).1; omega); have q2 := hk6.cell 0; have q3 := hk6.cell 1; have q4 := hk6.frozen 0; have q5 := hk6.frozen 1)
          have HW6 := Lib.hid (show Below w.heap.size w w6 from (hb5.alloc hb5.size _).grown hgrow6 (by simp [World.setCell]; omega) (fun q e => by have := (hown5.lt q (by first | exact e.symm | exact e)).1; omega))
          have HOWN6 := Lib.hid hown6
          have HK6 := Lib.hid hk6
          clear hown6 hk6 hgrow6
          have hkN := ((HK6.out.set 0 (.int .u64 c2)).set 1 (.int .i64 ((i : Int) + 1)))
          have hoN := row_setC (row_setC HOWN6.out 0 (.int .u64 c2)) 1 (.int .i64 ((i : Int) + 1))
          rw [HLV.out] at hoN
          have hbN := (HW6.out.setCell (p := ⟨w.heap.size, 0, none⟩) (Nat.le_refl _) (.int .u64 c2)).setCell (p := ⟨w.heap.size, 1, none⟩) (Nat.le_refl _) (.int .i64 ((i : Int) + 1))
          have hmN := hkN.cell 1
          go_roundw
          case rel => exact ⟨i + 1, by have := HIM.out; omega, fun h => HNX.out (by omega), hoN, by rw [HC2.out]; exact hkN, hbN⟩
          case measure =>
            rw [HMS.out]
            unfold atN
            rw [hmN]
            simp
            have := HIM.out
            omega
    · have hx0 : c = 0 := by omega
      subst hx0
      have hx1 : ¬ (i : Int) < (M : Int) := by omega
      have hiMM : i ≤ 1001 := by omega
      have HFIN := Lib.hid (show 0 < i ∧ i ≤ M + 1 ∧ M ≤ i ∧ (M < i → 0 < car n (i - 1)) from ⟨by have := HM.out; omega, by omega, by omega, hci⟩)
      obtain ⟨g, cc, cur, rfl, hcc, hgb', hgh, hL⟩ := row_limbs hown HFIN.out.1
      have HGH := Lib.hid hgh
      have HL := Lib.hid hL
      have HCI := Lib.hid hci
      clear hgo hci hown hgh hL hiM
      go_wp2_with fail
      go_ret
      exact ⟨hbw, g, i, cc, rfl, by omega, (Array.getElem?_eq_some_iff.1 HGH.out).1, HFIN.out.1, HFIN.out.2.1, hcc, HL.out, HC.out, HFIN.out.2.2.1, HFIN.out.2.2.2⟩
end Go.Proofs.YtflkmhgbinlfiaaGreatDoor
