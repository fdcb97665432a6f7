/- The texts WrJ, put together. -/
import Derived.Test.YtfckekaegjjmkaaGreatDoorPd43
import Derived.Test.YtfckekaegjjmkaaGreatDoorPd45
namespace Go.Proofs.YtfckekaegjjmkaaGreatDoor
open Go.RowKit Go.Shelf

theorem len_countL : ∀ l : List Tr, l.length ≤ countL l
  | [] => Nat.zero_le _
  | t :: l => by
    have := len_countL l
    rw [countL, List.length_cons, Tr.count_eq]
    omega
theorem keysFit_drop (f : Int) (l : List Tr) (k : Nat) (h : k < l.length) : keysFit f (l.drop k) = (keyO f l[k].own && keysFit f (l.drop (k + 2))) := by
  rw [List.drop_eq_getElem_cons h]
  rcases Nat.lt_or_ge (k + 1) l.length with h1 | h1
  · rw [List.drop_eq_getElem_cons h1, keysFit]
  · rw [List.drop_eq_nil_of_le h1, List.drop_eq_nil_of_le (show l.length ≤ k + 2 by omega), keysFit, keysFit, Bool.and_true]

set_option maxHeartbeats 16000000 in
set_option maxRecDepth 100000 in
theorem ref_fits1 (d : Nat) : ∀ (t : Tr) (x : Value) (w : World) (B : Nat), ListAt w B d t.kids x → B ≤ w.heap.size → OwnOk t.own → t.count ≤ 1000000000000 →
    Calls Tryz.prog 49 #[nodeV t.own x, .int .i64 1] w fun e w' => e = .returned (.bool (fitT 1 flJ t)) ∧ Below w.heap.size w w' := by
  induction d using Nat.strongRecOn with
  | _ d ih =>
  intro t x w B hl hB hok hc
  rw [Tr.count_eq] at hc
  obtain ⟨hlen, A, c, rfl⟩ := hl.slice
  rw [fitT_eq]
  obtain ⟨l, hkl⟩ : ∃ l, t.kids = l := ⟨_, rfl⟩
  rw [hkl] at hl hlen hc ⊢
  have hlc := len_countL l
  obtain ⟨n, hn⟩ : ∃ n, l.length = n := ⟨_, rfl⟩
  rw [hn] at hl hlen hlc ⊢
  have hnn : n ≤ 1000000000000 := by omega
  have HCL := Lib.hid hc
  obtain ⟨⟨kind, b, neg, dg, ex, u, wd, s⟩, ho⟩ : ∃ o, t.own = o := ⟨_, rfl⟩
  rw [ho] at hok ⊢
  have hdg := hok.dg
  have hu := hok.u
  simp only [] at hdg hu
  have HTI := Lib.hid (ref_ToInt neg dg ex hdg)
  have hwi := ref_Widen u wd hu.1 hu.2
  obtain ⟨ew, hew⟩ : ∃ ew : Int, (if wideOk u wd = true then 0 else 2) = ew := ⟨_, rfl⟩
  simp only [hew] at hwi
  have HWI := Lib.hid hwi
  clear hwi hew
  have HL := Lib.hid hl
  have IH := Lib.hid ih
  obtain ⟨ans, hans⟩ : ∃ ans, (fitO 1 flJ ⟨kind, b, neg, dg, ex, u, wd, s⟩ l && fitL 1 flJ l) = ans := ⟨_, rfl⟩
  rw [hans]
  unfold fitO at hans
  simp only [] at hans
  unfold nodeV
  simp only []
  clear hl ih ho hkl hok hdg hu hc hlc hlen
  by_cases h4 : kind = 4
  · subst h4
    have hbx := (Below.refl w.heap.size w).alloc (Nat.le_refl _) (.cells #[.int .i64 4, .bool b, .bool neg, .string dg, .int .i64 ex, .int .u64 u, .int .i64 wd, .string s, .slice A n c] 27)
    have hkx := Blk.new w #[.int .i64 4, .bool b, .bool neg, .string dg, .int .i64 ex, .int .u64 u, .int .i64 wd, .string s, .slice A n c] 27
    have c0 := hkx.cell 0
    have c1 := hkx.cell 1
    have c2 := hkx.cell 2
    have c3 := hkx.cell 3
    have c4 := hkx.cell 4
    have c5 := hkx.cell 5
    have c6 := hkx.cell 6
    have c7 := hkx.cell 7
    have c8 := hkx.cell 8
    rw [if_pos rfl] at hans
    have hans : (false && fitL 1 flJ l) = ans := hans
    have HANS : Hid ((false && fitL 1 flJ (l.drop 0)) = ans) := Lib.hid hans
    clear hans
    go_enter Tryz.func49, Tryz.ntmps49
    go_wp2_with fail
    refine (HWI.out _).mono ?_
    rintro e w2 ⟨⟨r, rfl⟩, hb⟩
    have hb2 := hbx.trans (hb.mono hbx.size)
    have hk2 := hkx.below hb hkx.lt
    clear hb hbx hkx c0 c1 c2 c3 c4 c5 c6 c7 c8 HWI
    have c0 := hk2.cell 0
    have c1 := hk2.cell 1
    have c2 := hk2.cell 2
    have c3 := hk2.cell 3
    have c4 := hk2.cell 4
    have c5 := hk2.cell 5
    have c6 := hk2.cell 6
    have c7 := hk2.cell 7
    have c8 := hk2.cell 8
    go_wp2_with fail
    go_quiet (fail)
    have hb3 := below_drewN hb2 nq
    have hk3 : Blk (w2.drewN nq) w.heap.size #[.int .i64 4, .bool b, .bool neg, .string dg, .int .i64 ex, .int .u64 u, .int .i64 wd, .string s, .slice A n c] 27 := hk2
    clear hb2 hk2 c0 c1 c2 c3 c4 c5 c6 c7 c8
    have c0 := hk3.cell 0
    have c1 := hk3.cell 1
    have c2 := hk3.cell 2
    have c3 := hk3.cell 3
    have c4 := hk3.cell 4
    have c5 := hk3.cell 5
    have c6 := hk3.cell 6
    have c7 := hk3.cell 7
    have c8 := hk3.cell 8
    go_wp2_with fail
    go_loopw [5, 12] (fun z i wr => ∃ (k : Nat) (b1 : Bool), k ≤ n ∧ i = .int .i64 k ∧ z = .bool b1 ∧ Below w.heap.size w wr ∧ Blk wr w.heap.size #[.int .i64 4, .bool b, .bool neg, .string dg, .int .i64 ex, .int .u64 u, .int .i64 wd, .string s, .slice A n c] 27 ∧ Hid ((b1 && fitL 1 flJ (l.drop k)) = ans)) (fun _ i _ => n - (intOf i).toNat)
    case atStart => exact ⟨0, _, by omega, rfl, rfl, hb3, hk3, HANS⟩
    case round =>
      obtain ⟨k, b1, hk, rfl, rfl, hbw, hbk, hac⟩ := hrel
      clear HANS hb3 hk3
      have hfl : wr.cell? ⟨w.heap.size, 8, none⟩ = some (.slice A n c) := hbk.cell 8
      by_cases hlt : k < n
      · have hkl : k < l.length := by omega
        obtain ⟨d', ad, x', hdd, rfl, hab, hok, hna, hkk⟩ := (HL.out.below hbw hB).at_ hkl
        have hdr := hac.out
        rw [fitL_drop _ _ l k hkl] at hdr
        have HC := IH.out d' (by omega) l[k] x' wr B hkk (Nat.le_trans hB hbw.size) hok (by
          have h1 := countL_take l k hkl
          have h2 := countL_mono l (k + 1)
          have h3 := HCL.out
          omega)
        obtain ⟨bt, hbt⟩ : ∃ bt, fitT 1 flJ l[k] = bt := ⟨_, rfl⟩
        rw [hbt] at HC hdr
        obtain ⟨⟨kind', b', neg', dg', ex', u', wd', s'⟩, ho'⟩ : ∃ o, l[k].own = o := ⟨_, rfl⟩
        rw [ho'] at HC hna
        unfold nodeV at HC
        obtain ⟨k0, k1, k2, k3, k4, k5, k6, k7, k8⟩ := hna
        simp only [] at k0 k1 k2 k3 k4 k5 k6 k7 k8 HC
        have y1 : (k : Int) < n := by omega
        have y0 : (0 : Int) ≤ k := by omega
        rw [← Bool.and_assoc] at hdr
        have HC := Lib.hid HC
        have HD := Lib.hid hdr
        clear hbt ho' hkk hok hdd hac hdr
        cases b1 with
        | false =>
          rw [Bool.false_and] at HD
          go_wp2_with fail
          go_roundw
          case rel => exact ⟨k + 1, false, by omega, by go_num, rfl, hbw, hbk, HD⟩
          case measure => simp [intOf]; omega
        | true =>
          rw [Bool.true_and] at HD
          go_wp2_with fail
          refine HC.out.mono ?_
          rintro e w3 ⟨rfl, hb⟩
          have hb3 := hbw.trans (hb.mono hbw.size)
          have hbk2 := hbk.below hb hbk.lt
          clear hb HC hbk k0 k1 k2 k3 k4 k5 k6 k7 k8 hfl
          go_wp2_with fail
          go_roundw
          case rel => exact ⟨k + 1, _, by omega, by go_num, rfl, hb3, hbk2, HD⟩
          case measure => simp [intOf]; omega
      · obtain rfl : k = n := by omega
        have y1 : ¬ (k : Int) < k := by omega
        have hdr := hac.out
        rw [List.drop_eq_nil_of_le (by omega), fitL, Bool.and_true] at hdr
        subst hdr
        clear hac
        go_wp2_with fail
        go_ret
        exact ⟨rfl, hbw⟩
  · rw [if_neg h4] at hans
    have y4 : (kind == 4) = false := by rw [beq_eq_false_iff_ne]; exact h4
    by_cases h3 : kind = 3
    · subst h3
      have hbx := (Below.refl w.heap.size w).alloc (Nat.le_refl _) (.cells #[.int .i64 3, .bool b, .bool neg, .string dg, .int .i64 ex, .int .u64 u, .int .i64 wd, .string s, .slice A n c] 27)
      have hkx := Blk.new w #[.int .i64 3, .bool b, .bool neg, .string dg, .int .i64 ex, .int .u64 u, .int .i64 wd, .string s, .slice A n c] 27
      have c0 := hkx.cell 0
      have c1 := hkx.cell 1
      have c2 := hkx.cell 2
      have c3 := hkx.cell 3
      have c4 := hkx.cell 4
      have c5 := hkx.cell 5
      have c6 := hkx.cell 6
      have c7 := hkx.cell 7
      have c8 := hkx.cell 8
      rw [if_pos rfl] at hans
      have hans : (true && fitL 1 flJ l) = ans := hans
      have HANS : Hid ((true && fitL 1 flJ (l.drop 0)) = ans) := Lib.hid hans
      clear hans
      obtain ⟨tv0, tv1, tv2, htv⟩ : ∃ (p : Bool) (q : Int) (r : Bool), toIntV (toIntD neg dg ex) = .tuple #[.bool p, .int .u64 q, .bool r] := by
        unfold toIntV
        split
        · exact ⟨_, _, _, rfl⟩
        · exact ⟨_, _, _, rfl⟩
      rw [htv] at HTI
      clear htv
      go_enter Tryz.func49, Tryz.ntmps49
      go_wp2_with fail
      refine (HTI.out _).mono ?_
      rintro e w2 ⟨rfl, hb⟩
      have hb2 := hbx.trans (hb.mono hbx.size)
      have hk2 := hkx.below hb hkx.lt
      clear hb hbx hkx c0 c1 c2 c3 c4 c5 c6 c7 c8 HTI
      go_wp2_with fail
      go_loopw [5, 12] (fun z i wr => ∃ (k : Nat) (b1 : Bool), k ≤ n ∧ i = .int .i64 k ∧ z = .bool b1 ∧ Below w.heap.size w wr ∧ Blk wr w.heap.size #[.int .i64 3, .bool b, .bool neg, .string dg, .int .i64 ex, .int .u64 u, .int .i64 wd, .string s, .slice A n c] 27 ∧ Hid ((b1 && fitL 1 flJ (l.drop k)) = ans)) (fun _ i _ => n - (intOf i).toNat)
      case atStart => exact ⟨0, _, by omega, rfl, rfl, hb2, hk2, HANS⟩
      case round =>
        obtain ⟨k, b1, hk, rfl, rfl, hbw, hbk, hac⟩ := hrel
        clear HANS hb2 hk2
        have hfl : wr.cell? ⟨w.heap.size, 8, none⟩ = some (.slice A n c) := hbk.cell 8
        by_cases hlt : k < n
        · have hkl : k < l.length := by omega
          obtain ⟨d', ad, x', hdd, rfl, hab, hok, hna, hkk⟩ := (HL.out.below hbw hB).at_ hkl
          have hdr := hac.out
          rw [fitL_drop _ _ l k hkl] at hdr
          have HC := IH.out d' (by omega) l[k] x' wr B hkk (Nat.le_trans hB hbw.size) hok (by
            have h1 := countL_take l k hkl
            have h2 := countL_mono l (k + 1)
            have h3 := HCL.out
            omega)
          obtain ⟨bt, hbt⟩ : ∃ bt, fitT 1 flJ l[k] = bt := ⟨_, rfl⟩
          rw [hbt] at HC hdr
          obtain ⟨⟨kind', b', neg', dg', ex', u', wd', s'⟩, ho'⟩ : ∃ o, l[k].own = o := ⟨_, rfl⟩
          rw [ho'] at HC hna
          unfold nodeV at HC
          obtain ⟨k0, k1, k2, k3, k4, k5, k6, k7, k8⟩ := hna
          simp only [] at k0 k1 k2 k3 k4 k5 k6 k7 k8 HC
          have y1 : (k : Int) < n := by omega
          have y0 : (0 : Int) ≤ k := by omega
          rw [← Bool.and_assoc] at hdr
          have HC := Lib.hid HC
          have HD := Lib.hid hdr
          clear hbt ho' hkk hok hdd hac hdr
          cases b1 with
          | false =>
            rw [Bool.false_and] at HD
            go_wp2_with fail
            go_roundw
            case rel => exact ⟨k + 1, false, by omega, by go_num, rfl, hbw, hbk, HD⟩
            case measure => simp [intOf]; omega
          | true =>
            rw [Bool.true_and] at HD
            go_wp2_with fail
            refine HC.out.mono ?_
            rintro e w3 ⟨rfl, hb⟩
            have hb3 := hbw.trans (hb.mono hbw.size)
            have hbk2 := hbk.below hb hbk.lt
            clear hb HC hbk k0 k1 k2 k3 k4 k5 k6 k7 k8 hfl
            go_wp2_with fail
            go_roundw
            case rel => exact ⟨k + 1, _, by omega, by go_num, rfl, hb3, hbk2, HD⟩
            case measure => simp [intOf]; omega
        · obtain rfl : k = n := by omega
          have y1 : ¬ (k : Int) < k := by omega
          have hdr := hac.out
          rw [List.drop_eq_nil_of_le (by omega), fitL, Bool.and_true] at hdr
          subst hdr
          clear hac
          go_wp2_with fail
          go_ret
          exact ⟨rfl, hbw⟩
    · rw [if_neg h3] at hans
      have y3 : (kind == 3) = false := by rw [beq_eq_false_iff_ne]; exact h3
      by_cases h6 : kind = 6
      · subst h6
        have hbx := (Below.refl w.heap.size w).alloc (Nat.le_refl _) (.cells #[.int .i64 6, .bool b, .bool neg, .string dg, .int .i64 ex, .int .u64 u, .int .i64 wd, .string s, .slice A n c] 27)
        have hkx := Blk.new w #[.int .i64 6, .bool b, .bool neg, .string dg, .int .i64 ex, .int .u64 u, .int .i64 wd, .string s, .slice A n c] 27
        have c0 := hkx.cell 0
        have c1 := hkx.cell 1
        have c2 := hkx.cell 2
        have c3 := hkx.cell 3
        have c4 := hkx.cell 4
        have c5 := hkx.cell 5
        have c6 := hkx.cell 6
        have c7 := hkx.cell 7
        have c8 := hkx.cell 8
        have hans : (false && fitL 1 flJ l) = ans := hans
        have HANS : Hid ((false && fitL 1 flJ (l.drop 0)) = ans) := Lib.hid hans
        clear hans
        go_enter Tryz.func49, Tryz.ntmps49
        go_wp2_with fail
        go_loopw [5, 12] (fun z i wr => ∃ (k : Nat) (b1 : Bool), k ≤ n ∧ i = .int .i64 k ∧ z = .bool b1 ∧ Below w.heap.size w wr ∧ Blk wr w.heap.size #[.int .i64 6, .bool b, .bool neg, .string dg, .int .i64 ex, .int .u64 u, .int .i64 wd, .string s, .slice A n c] 27 ∧ Hid ((b1 && fitL 1 flJ (l.drop k)) = ans)) (fun _ i _ => n - (intOf i).toNat)
        case atStart => exact ⟨0, _, by omega, rfl, rfl, hbx, hkx, HANS⟩
        case round =>
          obtain ⟨k, b1, hk, rfl, rfl, hbw, hbk, hac⟩ := hrel
          clear HANS hbx hkx
          have hfl : wr.cell? ⟨w.heap.size, 8, none⟩ = some (.slice A n c) := hbk.cell 8
          by_cases hlt : k < n
          · have hkl : k < l.length := by omega
            obtain ⟨d', ad, x', hdd, rfl, hab, hok, hna, hkk⟩ := (HL.out.below hbw hB).at_ hkl
            have hdr := hac.out
            rw [fitL_drop _ _ l k hkl] at hdr
            have HC := IH.out d' (by omega) l[k] x' wr B hkk (Nat.le_trans hB hbw.size) hok (by
              have h1 := countL_take l k hkl
              have h2 := countL_mono l (k + 1)
              have h3 := HCL.out
              omega)
            obtain ⟨bt, hbt⟩ : ∃ bt, fitT 1 flJ l[k] = bt := ⟨_, rfl⟩
            rw [hbt] at HC hdr
            obtain ⟨⟨kind', b', neg', dg', ex', u', wd', s'⟩, ho'⟩ : ∃ o, l[k].own = o := ⟨_, rfl⟩
            rw [ho'] at HC hna
            unfold nodeV at HC
            obtain ⟨k0, k1, k2, k3, k4, k5, k6, k7, k8⟩ := hna
            simp only [] at k0 k1 k2 k3 k4 k5 k6 k7 k8 HC
            have y1 : (k : Int) < n := by omega
            have y0 : (0 : Int) ≤ k := by omega
            rw [← Bool.and_assoc] at hdr
            have HC := Lib.hid HC
            have HD := Lib.hid hdr
            clear hbt ho' hkk hok hdd hac hdr
            cases b1 with
            | false =>
              rw [Bool.false_and] at HD
              go_wp2_with fail
              go_roundw
              case rel => exact ⟨k + 1, false, by omega, by go_num, rfl, hbw, hbk, HD⟩
              case measure => simp [intOf]; omega
            | true =>
              rw [Bool.true_and] at HD
              go_wp2_with fail
              refine HC.out.mono ?_
              rintro e w3 ⟨rfl, hb⟩
              have hb3 := hbw.trans (hb.mono hbw.size)
              have hbk2 := hbk.below hb hbk.lt
              clear hb HC hbk k0 k1 k2 k3 k4 k5 k6 k7 k8 hfl
              go_wp2_with fail
              go_roundw
              case rel => exact ⟨k + 1, _, by omega, by go_num, rfl, hb3, hbk2, HD⟩
              case measure => simp [intOf]; omega
          · obtain rfl : k = n := by omega
            have y1 : ¬ (k : Int) < k := by omega
            have hdr := hac.out
            rw [List.drop_eq_nil_of_le (by omega), fitL, Bool.and_true] at hdr
            subst hdr
            clear hac
            go_wp2_with fail
            go_ret
            exact ⟨rfl, hbw⟩
      · rw [if_neg h6] at hans
        have y6 : (kind == 6) = false := by rw [beq_eq_false_iff_ne]; exact h6
        by_cases h9 : kind = 9
        · subst h9
          have hbx := (Below.refl w.heap.size w).alloc (Nat.le_refl _) (.cells #[.int .i64 9, .bool b, .bool neg, .string dg, .int .i64 ex, .int .u64 u, .int .i64 wd, .string s, .slice A n c] 27)
          have hkx := Blk.new w #[.int .i64 9, .bool b, .bool neg, .string dg, .int .i64 ex, .int .u64 u, .int .i64 wd, .string s, .slice A n c] 27
          have c0 := hkx.cell 0
          have c1 := hkx.cell 1
          have c2 := hkx.cell 2
          have c3 := hkx.cell 3
          have c4 := hkx.cell 4
          have c5 := hkx.cell 5
          have c6 := hkx.cell 6
          have c7 := hkx.cell 7
          have c8 := hkx.cell 8
          have hans : (false && fitL 1 flJ l) = ans := hans
          have HANS : Hid ((false && fitL 1 flJ (l.drop 0)) = ans) := Lib.hid hans
          clear hans
          go_enter Tryz.func49, Tryz.ntmps49
          go_wp2_with fail
          go_loopw [5, 12] (fun z i wr => ∃ (k : Nat) (b1 : Bool), k ≤ n ∧ i = .int .i64 k ∧ z = .bool b1 ∧ Below w.heap.size w wr ∧ Blk wr w.heap.size #[.int .i64 9, .bool b, .bool neg, .string dg, .int .i64 ex, .int .u64 u, .int .i64 wd, .string s, .slice A n c] 27 ∧ Hid ((b1 && fitL 1 flJ (l.drop k)) = ans)) (fun _ i _ => n - (intOf i).toNat)
          case atStart => exact ⟨0, _, by omega, rfl, rfl, hbx, hkx, HANS⟩
          case round =>
            obtain ⟨k, b1, hk, rfl, rfl, hbw, hbk, hac⟩ := hrel
            clear HANS hbx hkx
            have hfl : wr.cell? ⟨w.heap.size, 8, none⟩ = some (.slice A n c) := hbk.cell 8
            by_cases hlt : k < n
            · have hkl : k < l.length := by omega
              obtain ⟨d', ad, x', hdd, rfl, hab, hok, hna, hkk⟩ := (HL.out.below hbw hB).at_ hkl
              have hdr := hac.out
              rw [fitL_drop _ _ l k hkl] at hdr
              have HC := IH.out d' (by omega) l[k] x' wr B hkk (Nat.le_trans hB hbw.size) hok (by
                have h1 := countL_take l k hkl
                have h2 := countL_mono l (k + 1)
                have h3 := HCL.out
                omega)
              obtain ⟨bt, hbt⟩ : ∃ bt, fitT 1 flJ l[k] = bt := ⟨_, rfl⟩
              rw [hbt] at HC hdr
              obtain ⟨⟨kind', b', neg', dg', ex', u', wd', s'⟩, ho'⟩ : ∃ o, l[k].own = o := ⟨_, rfl⟩
              rw [ho'] at HC hna
              unfold nodeV at HC
              obtain ⟨k0, k1, k2, k3, k4, k5, k6, k7, k8⟩ := hna
              simp only [] at k0 k1 k2 k3 k4 k5 k6 k7 k8 HC
              have y1 : (k : Int) < n := by omega
              have y0 : (0 : Int) ≤ k := by omega
              rw [← Bool.and_assoc] at hdr
              have HC := Lib.hid HC
              have HD := Lib.hid hdr
              clear hbt ho' hkk hok hdd hac hdr
              cases b1 with
              | false =>
                rw [Bool.false_and] at HD
                go_wp2_with fail
                go_roundw
                case rel => exact ⟨k + 1, false, by omega, by go_num, rfl, hbw, hbk, HD⟩
                case measure => simp [intOf]; omega
              | true =>
                rw [Bool.true_and] at HD
                go_wp2_with fail
                refine HC.out.mono ?_
                rintro e w3 ⟨rfl, hb⟩
                have hb3 := hbw.trans (hb.mono hbw.size)
                have hbk2 := hbk.below hb hbk.lt
                clear hb HC hbk k0 k1 k2 k3 k4 k5 k6 k7 k8 hfl
                go_wp2_with fail
                go_roundw
                case rel => exact ⟨k + 1, _, by omega, by go_num, rfl, hb3, hbk2, HD⟩
                case measure => simp [intOf]; omega
            · obtain rfl : k = n := by omega
              have y1 : ¬ (k : Int) < k := by omega
              have hdr := hac.out
              rw [List.drop_eq_nil_of_le (by omega), fitL, Bool.and_true] at hdr
              subst hdr
              clear hac
              go_wp2_with fail
              go_ret
              exact ⟨rfl, hbw⟩
        · skip
          have y9 : (kind == 9) = false := by rw [beq_eq_false_iff_ne]; exact h9
          by_cases h10 : kind = 10
          · subst h10
            have hbx := (Below.refl w.heap.size w).alloc (Nat.le_refl _) (.cells #[.int .i64 10, .bool b, .bool neg, .string dg, .int .i64 ex, .int .u64 u, .int .i64 wd, .string s, .slice A n c] 27)
            have hkx := Blk.new w #[.int .i64 10, .bool b, .bool neg, .string dg, .int .i64 ex, .int .u64 u, .int .i64 wd, .string s, .slice A n c] 27
            have c0 := hkx.cell 0
            have c1 := hkx.cell 1
            have c2 := hkx.cell 2
            have c3 := hkx.cell 3
            have c4 := hkx.cell 4
            have c5 := hkx.cell 5
            have c6 := hkx.cell 6
            have c7 := hkx.cell 7
            have c8 := hkx.cell 8
            have hans : (false && fitL 1 flJ l) = ans := hans
            have HANS : Hid ((false && fitL 1 flJ (l.drop 0)) = ans) := Lib.hid hans
            clear hans
            go_enter Tryz.func49, Tryz.ntmps49
            go_wp2_with fail
            go_loopw [5, 12] (fun z i wr => ∃ (k : Nat) (b1 : Bool), k ≤ n ∧ i = .int .i64 k ∧ z = .bool b1 ∧ Below w.heap.size w wr ∧ Blk wr w.heap.size #[.int .i64 10, .bool b, .bool neg, .string dg, .int .i64 ex, .int .u64 u, .int .i64 wd, .string s, .slice A n c] 27 ∧ Hid ((b1 && fitL 1 flJ (l.drop k)) = ans)) (fun _ i _ => n - (intOf i).toNat)
            case atStart => exact ⟨0, _, by omega, rfl, rfl, hbx, hkx, HANS⟩
            case round =>
              obtain ⟨k, b1, hk, rfl, rfl, hbw, hbk, hac⟩ := hrel
              clear HANS hbx hkx
              have hfl : wr.cell? ⟨w.heap.size, 8, none⟩ = some (.slice A n c) := hbk.cell 8
              by_cases hlt : k < n
              · have hkl : k < l.length := by omega
                obtain ⟨d', ad, x', hdd, rfl, hab, hok, hna, hkk⟩ := (HL.out.below hbw hB).at_ hkl
                have hdr := hac.out
                rw [fitL_drop _ _ l k hkl] at hdr
                have HC := IH.out d' (by omega) l[k] x' wr B hkk (Nat.le_trans hB hbw.size) hok (by
                  have h1 := countL_take l k hkl
                  have h2 := countL_mono l (k + 1)
                  have h3 := HCL.out
                  omega)
                obtain ⟨bt, hbt⟩ : ∃ bt, fitT 1 flJ l[k] = bt := ⟨_, rfl⟩
                rw [hbt] at HC hdr
                obtain ⟨⟨kind', b', neg', dg', ex', u', wd', s'⟩, ho'⟩ : ∃ o, l[k].own = o := ⟨_, rfl⟩
                rw [ho'] at HC hna
                unfold nodeV at HC
                obtain ⟨k0, k1, k2, k3, k4, k5, k6, k7, k8⟩ := hna
                simp only [] at k0 k1 k2 k3 k4 k5 k6 k7 k8 HC
                have y1 : (k : Int) < n := by omega
                have y0 : (0 : Int) ≤ k := by omega
                rw [← Bool.and_assoc] at hdr
                have HC := Lib.hid HC
                have HD := Lib.hid hdr
                clear hbt ho' hkk hok hdd hac hdr
                cases b1 with
                | false =>
                  rw [Bool.false_and] at HD
                  go_wp2_with fail
                  go_roundw
                  case rel => exact ⟨k + 1, false, by omega, by go_num, rfl, hbw, hbk, HD⟩
                  case measure => simp [intOf]; omega
                | true =>
                  rw [Bool.true_and] at HD
                  go_wp2_with fail
                  refine HC.out.mono ?_
                  rintro e w3 ⟨rfl, hb⟩
                  have hb3 := hbw.trans (hb.mono hbw.size)
                  have hbk2 := hbk.below hb hbk.lt
                  clear hb HC hbk k0 k1 k2 k3 k4 k5 k6 k7 k8 hfl
                  go_wp2_with fail
                  go_roundw
                  case rel => exact ⟨k + 1, _, by omega, by go_num, rfl, hb3, hbk2, HD⟩
                  case measure => simp [intOf]; omega
              · obtain rfl : k = n := by omega
                have y1 : ¬ (k : Int) < k := by omega
                have hdr := hac.out
                rw [List.drop_eq_nil_of_le (by omega), fitL, Bool.and_true] at hdr
                subst hdr
                clear hac
                go_wp2_with fail
                go_ret
                exact ⟨rfl, hbw⟩
          · rw [if_neg (fun h => h.elim h9 h10)] at hans
            have y10 : (kind == 10) = false := by rw [beq_eq_false_iff_ne]; exact h10
            by_cases h11 : kind = 11
            · subst h11
              have hbx := (Below.refl w.heap.size w).alloc (Nat.le_refl _) (.cells #[.int .i64 11, .bool b, .bool neg, .string dg, .int .i64 ex, .int .u64 u, .int .i64 wd, .string s, .slice A n c] 27)
              have hkx := Blk.new w #[.int .i64 11, .bool b, .bool neg, .string dg, .int .i64 ex, .int .u64 u, .int .i64 wd, .string s, .slice A n c] 27
              have c0 := hkx.cell 0
              have c1 := hkx.cell 1
              have c2 := hkx.cell 2
              have c3 := hkx.cell 3
              have c4 := hkx.cell 4
              have c5 := hkx.cell 5
              have c6 := hkx.cell 6
              have c7 := hkx.cell 7
              have c8 := hkx.cell 8
              have hans : (false && fitL 1 flJ l) = ans := hans
              have HANS : Hid ((false && fitL 1 flJ (l.drop 0)) = ans) := Lib.hid hans
              clear hans
              go_enter Tryz.func49, Tryz.ntmps49
              go_wp2_with fail
              go_loopw [5, 12] (fun z i wr => ∃ (k : Nat) (b1 : Bool), k ≤ n ∧ i = .int .i64 k ∧ z = .bool b1 ∧ Below w.heap.size w wr ∧ Blk wr w.heap.size #[.int .i64 11, .bool b, .bool neg, .string dg, .int .i64 ex, .int .u64 u, .int .i64 wd, .string s, .slice A n c] 27 ∧ Hid ((b1 && fitL 1 flJ (l.drop k)) = ans)) (fun _ i _ => n - (intOf i).toNat)
              case atStart => exact ⟨0, _, by omega, rfl, rfl, hbx, hkx, HANS⟩
              case round =>
                obtain ⟨k, b1, hk, rfl, rfl, hbw, hbk, hac⟩ := hrel
                clear HANS hbx hkx
                have hfl : wr.cell? ⟨w.heap.size, 8, none⟩ = some (.slice A n c) := hbk.cell 8
                by_cases hlt : k < n
                · have hkl : k < l.length := by omega
                  obtain ⟨d', ad, x', hdd, rfl, hab, hok, hna, hkk⟩ := (HL.out.below hbw hB).at_ hkl
                  have hdr := hac.out
                  rw [fitL_drop _ _ l k hkl] at hdr
                  have HC := IH.out d' (by omega) l[k] x' wr B hkk (Nat.le_trans hB hbw.size) hok (by
                    have h1 := countL_take l k hkl
                    have h2 := countL_mono l (k + 1)
                    have h3 := HCL.out
                    omega)
                  obtain ⟨bt, hbt⟩ : ∃ bt, fitT 1 flJ l[k] = bt := ⟨_, rfl⟩
                  rw [hbt] at HC hdr
                  obtain ⟨⟨kind', b', neg', dg', ex', u', wd', s'⟩, ho'⟩ : ∃ o, l[k].own = o := ⟨_, rfl⟩
                  rw [ho'] at HC hna
                  unfold nodeV at HC
                  obtain ⟨k0, k1, k2, k3, k4, k5, k6, k7, k8⟩ := hna
                  simp only [] at k0 k1 k2 k3 k4 k5 k6 k7 k8 HC
                  have y1 : (k : Int) < n := by omega
                  have y0 : (0 : Int) ≤ k := by omega
                  rw [← Bool.and_assoc] at hdr
                  have HC := Lib.hid HC
                  have HD := Lib.hid hdr
                  clear hbt ho' hkk hok hdd hac hdr
                  cases b1 with
                  | false =>
                    rw [Bool.false_and] at HD
                    go_wp2_with fail
                    go_roundw
                    case rel => exact ⟨k + 1, false, by omega, by go_num, rfl, hbw, hbk, HD⟩
                    case measure => simp [intOf]; omega
                  | true =>
                    rw [Bool.true_and] at HD
                    go_wp2_with fail
                    refine HC.out.mono ?_
                    rintro e w3 ⟨rfl, hb⟩
                    have hb3 := hbw.trans (hb.mono hbw.size)
                    have hbk2 := hbk.below hb hbk.lt
                    clear hb HC hbk k0 k1 k2 k3 k4 k5 k6 k7 k8 hfl
                    go_wp2_with fail
                    go_roundw
                    case rel => exact ⟨k + 1, _, by omega, by go_num, rfl, hb3, hbk2, HD⟩
                    case measure => simp [intOf]; omega
                · obtain rfl : k = n := by omega
                  have y1 : ¬ (k : Int) < k := by omega
                  have hdr := hac.out
                  rw [List.drop_eq_nil_of_le (by omega), fitL, Bool.and_true] at hdr
                  subst hdr
                  clear hac
                  go_wp2_with fail
                  go_ret
                  exact ⟨rfl, hbw⟩
            · rw [if_neg h11] at hans
              have y11 : (kind == 11) = false := by rw [beq_eq_false_iff_ne]; exact h11
              by_cases h8 : kind = 8
              · subst h8
                have hbx := (Below.refl w.heap.size w).alloc (Nat.le_refl _) (.cells #[.int .i64 8, .bool b, .bool neg, .string dg, .int .i64 ex, .int .u64 u, .int .i64 wd, .string s, .slice A n c] 27)
                have hkx := Blk.new w #[.int .i64 8, .bool b, .bool neg, .string dg, .int .i64 ex, .int .u64 u, .int .i64 wd, .string s, .slice A n c] 27
                have c0 := hkx.cell 0
                have c1 := hkx.cell 1
                have c2 := hkx.cell 2
                have c3 := hkx.cell 3
                have c4 := hkx.cell 4
                have c5 := hkx.cell 5
                have c6 := hkx.cell 6
                have c7 := hkx.cell 7
                have c8 := hkx.cell 8
                rw [if_pos rfl] at hans
                have hans : (keysFit 1 l && fitL 1 flJ l) = ans := by rw [← hans]; simp
                have hlz : fitL 1 flJ l = fitL 1 flJ (l.drop 0) := rfl
                obtain ⟨kf, hkf⟩ : ∃ kf, keysFit 1 l = kf := ⟨_, rfl⟩
                rw [hkf] at hans
                have HKF : Hid ((true && keysFit 1 (l.drop 0)) = kf) := Lib.hid hkf
                have HANS : Hid ((kf && fitL 1 flJ (l.drop 0)) = ans) := Lib.hid hans
                clear hans hlz hkf
                go_enter Tryz.func49, Tryz.ntmps49
                go_wp2_with fail
                go_loopw [5, 11] (fun z i wr => ∃ (k : Nat) (b1 : Bool), k ≤ n + 1 ∧ i = .int .i64 k ∧ z = .bool b1 ∧ Below w.heap.size w wr ∧ Blk wr w.heap.size #[.int .i64 8, .bool b, .bool neg, .string dg, .int .i64 ex, .int .u64 u, .int .i64 wd, .string s, .slice A n c] 27 ∧ Hid ((b1 && keysFit 1 (l.drop k)) = kf)) (fun _ i _ => n + 2 - (intOf i).toNat)
                case atStart => exact ⟨0, _, by omega, rfl, rfl, hbx, hkx, HKF⟩
                case round =>
                  obtain ⟨k, b1, hk, rfl, rfl, hbw, hbk, hac⟩ := hrel
                  clear HKF hbx hkx c0 c1 c2 c3 c4 c5 c6 c7 c8
                  have hfl : wr.cell? ⟨w.heap.size, 8, none⟩ = some (.slice A n c) := hbk.cell 8
                  by_cases hlt : k < n
                  · have hkl : k < l.length := by omega
                    obtain ⟨d', ad, x', hdd, rfl, hab, hok, hna, hkk⟩ := (HL.out.below hbw hB).at_ hkl
                    have hdr := hac.out
                    rw [keysFit_drop _ l k hkl] at hdr
                    have HC := ref_Key 1 l[k].own x' wr hok.dg
                    obtain ⟨bt, hbt⟩ : ∃ bt, keyO 1 l[k].own = bt := ⟨_, rfl⟩
                    rw [hbt] at HC hdr
                    obtain ⟨⟨kind', b', neg', dg', ex', u', wd', s'⟩, ho'⟩ : ∃ o, l[k].own = o := ⟨_, rfl⟩
                    rw [ho'] at HC hna
                    unfold nodeV at HC
                    obtain ⟨k0, k1, k2, k3, k4, k5, k6, k7, k8⟩ := hna
                    simp only [] at k0 k1 k2 k3 k4 k5 k6 k7 k8 HC
                    have y1 : (k : Int) < n := by omega
                    have y0 : (0 : Int) ≤ k := by omega
                    rw [← Bool.and_assoc] at hdr
                    have HC := Lib.hid HC
                    have HD := Lib.hid hdr
                    clear hbt ho' hkk hok hdd hac hdr
                    cases b1 with
                    | false =>
                      rw [Bool.false_and] at HD
                      go_wp2_with fail
                      go_roundw
                      case rel => exact ⟨k + 2, false, by omega, by go_num, rfl, hbw, hbk, HD⟩
                      case measure => simp [intOf]; omega
                    | true =>
                      rw [Bool.true_and] at HD
                      go_wp2_with fail
                      refine HC.out.mono ?_
                      rintro e w3 ⟨rfl, hb⟩
                      have hb3 := hbw.trans (hb.mono hbw.size)
                      have hbk2 := hbk.below hb hbk.lt
                      clear hb HC hbk k0 k1 k2 k3 k4 k5 k6 k7 k8 hfl
                      go_wp2_with fail
                      go_roundw
                      case rel => exact ⟨k + 2, _, by omega, by go_num, rfl, hb3, hbk2, HD⟩
                      case measure => simp [intOf]; omega
                  · have y1 : ¬ (k : Int) < n := by omega
                    have hdr := hac.out
                    rw [List.drop_eq_nil_of_le (by omega), keysFit, Bool.and_true] at hdr
                    subst hdr
                    clear hac
                    obtain ⟨wv, hwv⟩ : ∃ wv, wv = wr := ⟨_, rfl⟩
                    subst hwv
                    have hbv := hbw
                    have hkv := hbk
                    clear hbw hbk
                    go_wp2_with fail
                    go_loopw [5, 12] (fun z i wr => ∃ (k : Nat) (b1 : Bool), k ≤ n ∧ i = .int .i64 k ∧ z = .bool b1 ∧ Below w.heap.size w wr ∧ Blk wr w.heap.size #[.int .i64 8, .bool b, .bool neg, .string dg, .int .i64 ex, .int .u64 u, .int .i64 wd, .string s, .slice A n c] 27 ∧ Hid ((b1 && fitL 1 flJ (l.drop k)) = ans)) (fun _ i _ => n - (intOf i).toNat)
                    case atStart => exact ⟨0, _, by omega, rfl, rfl, hbv, hkv, HANS⟩
                    case round =>
                      obtain ⟨k, b1, hk, rfl, rfl, hbw, hbk, hac⟩ := hrel
                      clear HANS hbv hkv
                      have hfl : wr.cell? ⟨w.heap.size, 8, none⟩ = some (.slice A n c) := hbk.cell 8
                      by_cases hlt : k < n
                      · have hkl : k < l.length := by omega
                        obtain ⟨d', ad, x', hdd, rfl, hab, hok, hna, hkk⟩ := (HL.out.below hbw hB).at_ hkl
                        have hdr := hac.out
                        rw [fitL_drop _ _ l k hkl] at hdr
                        have HC := IH.out d' (by omega) l[k] x' wr B hkk (Nat.le_trans hB hbw.size) hok (by
                          have h1 := countL_take l k hkl
                          have h2 := countL_mono l (k + 1)
                          have h3 := HCL.out
                          omega)
                        obtain ⟨bt, hbt⟩ : ∃ bt, fitT 1 flJ l[k] = bt := ⟨_, rfl⟩
                        rw [hbt] at HC hdr
                        obtain ⟨⟨kind', b', neg', dg', ex', u', wd', s'⟩, ho'⟩ : ∃ o, l[k].own = o := ⟨_, rfl⟩
                        rw [ho'] at HC hna
                        unfold nodeV at HC
                        obtain ⟨k0, k1, k2, k3, k4, k5, k6, k7, k8⟩ := hna
                        simp only [] at k0 k1 k2 k3 k4 k5 k6 k7 k8 HC
                        have y1 : (k : Int) < n := by omega
                        have y0 : (0 : Int) ≤ k := by omega
                        rw [← Bool.and_assoc] at hdr
                        have HC := Lib.hid HC
                        have HD := Lib.hid hdr
                        clear hbt ho' hkk hok hdd hac hdr
                        cases b1 with
                        | false =>
                          rw [Bool.false_and] at HD
                          go_wp2_with fail
                          go_roundw
                          case rel => exact ⟨k + 1, false, by omega, by go_num, rfl, hbw, hbk, HD⟩
                          case measure => simp [intOf]; omega
                        | true =>
                          rw [Bool.true_and] at HD
                          go_wp2_with fail
                          refine HC.out.mono ?_
                          rintro e w3 ⟨rfl, hb⟩
                          have hb3 := hbw.trans (hb.mono hbw.size)
                          have hbk2 := hbk.below hb hbk.lt
                          clear hb HC hbk k0 k1 k2 k3 k4 k5 k6 k7 k8 hfl
                          go_wp2_with fail
                          go_roundw
                          case rel => exact ⟨k + 1, _, by omega, by go_num, rfl, hb3, hbk2, HD⟩
                          case measure => simp [intOf]; omega
                      · obtain rfl : k = n := by omega
                        have y1 : ¬ (k : Int) < k := by omega
                        have hdr := hac.out
                        rw [List.drop_eq_nil_of_le (by omega), fitL, Bool.and_true] at hdr
                        subst hdr
                        clear hac
                        go_wp2_with fail
                        go_ret
                        exact ⟨rfl, hbw⟩
              · rw [if_neg h8] at hans
                have y8 : (kind == 8) = false := by rw [beq_eq_false_iff_ne]; exact h8
                have hbx := (Below.refl w.heap.size w).alloc (Nat.le_refl _) (.cells #[.int .i64 kind, .bool b, .bool neg, .string dg, .int .i64 ex, .int .u64 u, .int .i64 wd, .string s, .slice A n c] 27)
                have hkx := Blk.new w #[.int .i64 kind, .bool b, .bool neg, .string dg, .int .i64 ex, .int .u64 u, .int .i64 wd, .string s, .slice A n c] 27
                have c0 := hkx.cell 0
                have c1 := hkx.cell 1
                have c2 := hkx.cell 2
                have c3 := hkx.cell 3
                have c4 := hkx.cell 4
                have c5 := hkx.cell 5
                have c6 := hkx.cell 6
                have c7 := hkx.cell 7
                have c8 := hkx.cell 8
                have hans : (true && fitL 1 flJ l) = ans := by rw [← hans]; rfl
                have HANS : Hid ((true && fitL 1 flJ (l.drop 0)) = ans) := Lib.hid hans
                clear hans
                clear h4 h3 h6 h9 h10 h11 h8
                go_enter Tryz.func49, Tryz.ntmps49
                go_wp2_with fail
                go_loopw [5, 12] (fun z i wr => ∃ (k : Nat) (b1 : Bool), k ≤ n ∧ i = .int .i64 k ∧ z = .bool b1 ∧ Below w.heap.size w wr ∧ Blk wr w.heap.size #[.int .i64 kind, .bool b, .bool neg, .string dg, .int .i64 ex, .int .u64 u, .int .i64 wd, .string s, .slice A n c] 27 ∧ Hid ((b1 && fitL 1 flJ (l.drop k)) = ans)) (fun _ i _ => n - (intOf i).toNat)
                case atStart => exact ⟨0, _, by omega, rfl, rfl, hbx, hkx, HANS⟩
                case round =>
                  obtain ⟨k, b1, hk, rfl, rfl, hbw, hbk, hac⟩ := hrel
                  clear HANS hbx hkx
                  have hfl : wr.cell? ⟨w.heap.size, 8, none⟩ = some (.slice A n c) := hbk.cell 8
                  by_cases hlt : k < n
                  · have hkl : k < l.length := by omega
                    obtain ⟨d', ad, x', hdd, rfl, hab, hok, hna, hkk⟩ := (HL.out.below hbw hB).at_ hkl
                    have hdr := hac.out
                    rw [fitL_drop _ _ l k hkl] at hdr
                    have HC := IH.out d' (by omega) l[k] x' wr B hkk (Nat.le_trans hB hbw.size) hok (by
                      have h1 := countL_take l k hkl
                      have h2 := countL_mono l (k + 1)
                      have h3 := HCL.out
                      omega)
                    obtain ⟨bt, hbt⟩ : ∃ bt, fitT 1 flJ l[k] = bt := ⟨_, rfl⟩
                    rw [hbt] at HC hdr
                    obtain ⟨⟨kind', b', neg', dg', ex', u', wd', s'⟩, ho'⟩ : ∃ o, l[k].own = o := ⟨_, rfl⟩
                    rw [ho'] at HC hna
                    unfold nodeV at HC
                    obtain ⟨k0, k1, k2, k3, k4, k5, k6, k7, k8⟩ := hna
                    simp only [] at k0 k1 k2 k3 k4 k5 k6 k7 k8 HC
                    have y1 : (k : Int) < n := by omega
                    have y0 : (0 : Int) ≤ k := by omega
                    rw [← Bool.and_assoc] at hdr
                    have HC := Lib.hid HC
                    have HD := Lib.hid hdr
                    clear hbt ho' hkk hok hdd hac hdr
                    cases b1 with
                    | false =>
                      rw [Bool.false_and] at HD
                      go_wp2_with fail
                      go_roundw
                      case rel => exact ⟨k + 1, false, by omega, by go_num, rfl, hbw, hbk, HD⟩
                      case measure => simp [intOf]; omega
                    | true =>
                      rw [Bool.true_and] at HD
                      go_wp2_with fail
                      refine HC.out.mono ?_
                      rintro e w3 ⟨rfl, hb⟩
                      have hb3 := hbw.trans (hb.mono hbw.size)
                      have hbk2 := hbk.below hb hbk.lt
                      clear hb HC hbk k0 k1 k2 k3 k4 k5 k6 k7 k8 hfl
                      go_wp2_with fail
                      go_roundw
                      case rel => exact ⟨k + 1, _, by omega, by go_num, rfl, hb3, hbk2, HD⟩
                      case measure => simp [intOf]; omega
                  · obtain rfl : k = n := by omega
                    have y1 : ¬ (k : Int) < k := by omega
                    have hdr := hac.out
                    rw [List.drop_eq_nil_of_le (by omega), fitL, Bool.and_true] at hdr
                    subst hdr
                    clear hac
                    go_wp2_with fail
                    go_ret
                    exact ⟨rfl, hbw⟩

set_option maxHeartbeats 4000000 in
set_option maxRecDepth 100000 in
theorem ref_Check1 (t : Tr) (x : Value) (w : World) (B d : Nat) (hl : ListAt w B d t.kids x) (hB : B ≤ w.heap.size) (hok : OwnOk t.own) (hc : t.count ≤ 1000000000) :
    Calls Tryz.prog 37 #[nodeV t.own x, .int .i64 1] w fun e w' => e = .returned (.int .i64 (checkT 1 flJ t)) ∧ Below w.heap.size w w' := by
  have HR := Lib.hid (fun (W : World) (hW : Below w.heap.size w W) => ref_RightT t x W B d (hl.below hW hB) (Nat.le_trans hB hW.size) hok hc)
  have HF := Lib.hid (fun (W : World) (hW : Below w.heap.size w W) => ref_fits1 d t x W B (hl.below hW hB) (Nat.le_trans hB hW.size) hok (by omega))
  unfold checkT
  obtain ⟨rt, hrt⟩ : ∃ rt, rightT t = rt := ⟨_, rfl⟩
  obtain ⟨ft, hft⟩ : ∃ ft, fitT 1 flJ t = ft := ⟨_, rfl⟩
  simp only [hrt] at HR
  simp only [hft] at HF
  rw [hrt, hft]
  obtain ⟨⟨kind, b, neg, dg, ex, u, wd, s⟩, ho⟩ : ∃ o, t.own = o := ⟨_, rfl⟩
  simp only [ho] at HR HF
  rw [ho]
  unfold nodeV at HR HF ⊢
  simp only [] at HR HF ⊢
  clear hl hok hc hrt hft ho
  have hbx := (Below.refl w.heap.size w).alloc (Nat.le_refl _) (.cells #[.int .i64 kind, .bool b, .bool neg, .string dg, .int .i64 ex, .int .u64 u, .int .i64 wd, .string s, x] 27)
  have hkx := Blk.new w #[.int .i64 kind, .bool b, .bool neg, .string dg, .int .i64 ex, .int .u64 u, .int .i64 wd, .string s, x] 27
  have c0 := hkx.cell 0
  have c1 := hkx.cell 1
  have c2 := hkx.cell 2
  have c3 := hkx.cell 3
  have c4 := hkx.cell 4
  have c5 := hkx.cell 5
  have c6 := hkx.cell 6
  have c7 := hkx.cell 7
  have c8 := hkx.cell 8
  go_enter Tryz.func37, Tryz.ntmps37
  go_wp2_with fail
  refine (HR.out _ hbx).mono ?_
  rintro e w2 ⟨rfl, hb0⟩
  have hb := hbx.trans (hb0.mono hbx.size)
  have hk2 := hkx.below hb0 hkx.lt
  clear hb0 hkx c0 c1 c2 c3 c4 c5 c6 c7 c8
  have c0 := hk2.cell 0
  have c1 := hk2.cell 1
  have c2 := hk2.cell 2
  have c3 := hk2.cell 3
  have c4 := hk2.cell 4
  have c5 := hk2.cell 5
  have c6 := hk2.cell 6
  have c7 := hk2.cell 7
  have c8 := hk2.cell 8
  cases rt with
  | false =>
    go_wp2_with fail
    go_ret
    exact ⟨rfl, hb⟩
  | true =>
    go_wp2_with fail
    refine (HF.out _ hb).mono ?_
    rintro e w3 ⟨rfl, hb'⟩
    have hb3 := hb.trans (hb'.mono hb.size)
    cases ft with
    | false =>
      go_wp2_with fail
      go_ret
      exact ⟨rfl, hb3⟩
    | true =>
      go_wp2_with fail
      go_ret
      exact ⟨rfl, hb3⟩
end Go.Proofs.YtfckekaegjjmkaaGreatDoor
