/- The texts JrS, LaidV, put together. -/
import Derived.Test.YtfckekaegjjmkaaGreatDoorPf47
import Derived.Test.YtfckekaegjjmkaaGreatDoorPf01
import Derived.Test.YtfckekaegjjmkaaGreatDoorRows
import Derived.Test.YtfckekaegjjmkaaGreatDoorPf03
import Derived.Lib.LaidU8T
import Derived.PinnedBridge
import Derived.Stop.LaidErr
import Derived.Stop.Joined
import Derived.LaidMore
import Derived.LaidLaws
import Derived.Lay
import Derived.SevenTiedAt
import Derived.ProofKit
import Derived.OpenShut
import Derived.Lib.LaidTab
namespace Go.Proofs.YtfckekaegjjmkaaGreatDoor
open Go.RowKit Go.Shelf
attribute [local go_sem] Oper.semAt_some

/-- The document: arrays within each other; something behind them. -/
def deepD (n : Nat) (wr : Bool) : List UInt8 := (if n = 0 then [48] else List.replicate n 91 ++ List.replicate n 93) ++ (if wr = true then [93] else [])
theorem arr_all : ∀ n, allB (arrT n) = true ∧ (arrT n).count = n + 1
  | 0 => by
    have h : ownB { zeroO with kind := 7 } [] = true := by simp [ownB, onlyB]
    refine ⟨?_, rfl⟩
    show allB (.nd { zeroO with kind := 7 } []) = true
    rw [allB, h, allL]
    rfl
  | n + 1 => by
    obtain ⟨h1, h2⟩ := arr_all n
    have h : ownB { zeroO with kind := 7 } [arrT n] = true := by simp [ownB, onlyB]
    have he : arrT (n + 1) = .nd { zeroO with kind := 7 } [arrT n] := rfl
    rw [he]
    refine ⟨?_, ?_⟩
    · rw [allB, h, allL, h1, allL]
      rfl
    · rw [Tr.count_eq]
      show 1 + countL [arrT n] = _
      simp only [countL, h2]
      omega
theorem arr_right (n : Nat) (h : n ≤ 15) : rightT (arrT n) = true := by
  unfold rightT
  obtain ⟨h1, h2⟩ := arr_all n
  rw [h1, h2, arr_depth, decide_eq_true (by omega), decide_eq_true (by omega)]
  rfl
theorem zero_right : rightT (decT false ⟨#[48]⟩ 0) = true := by
  unfold rightT
  have h1 : (decT false ⟨#[48]⟩ 0).count ≤ 300 := by decide +kernel
  have h2 : (decT false ⟨#[48]⟩ 0).depth ≤ 16 := by decide +kernel
  have d1 : decOk false ⟨#[48]⟩ 0 = true := by decide +kernel
  have e2 : ownB { zeroO with kind := 3, dg := ⟨#[48]⟩ } [] = true := by
    simp [ownB, onlyB, d1]
  rw [decide_eq_true h1, decide_eq_true h2]
  show (true && (true && allB (.nd { zeroO with kind := 3, dg := ⟨#[48]⟩ } []))) = true
  rw [allB, e2, allL]
  rfl
def deepR (n : Nat) (wr : Bool) : Int × Tr := if 16 < n then (60, .nd zeroO []) else if wr = true then (80, .nd zeroO []) else (0, if n = 0 then decT false ⟨#[48]⟩ 0 else arrT (n - 1))
theorem deep_read (n : Nat) (hn : n ≤ 40) (wr : Bool) : readJ uqJ (deepD n wr) = deepR n wr := by
  have hlen : (deepD n wr).length ≤ 90 := by
    unfold deepD
    rw [List.length_append]
    have h1 : (if n = 0 then [48] else List.replicate n (91 : UInt8) ++ List.replicate n 93).length ≤ 81 := by
      split
      · simp
      · rw [List.length_append, List.length_replicate, List.length_replicate]
        omega
    have h2 : (if wr = true then [(93 : UInt8)] else []).length ≤ 1 := by split <;> simp
    omega
  unfold readJ docJ
  rw [if_neg (by omega)]
  unfold deepR
  cases n with
  | zero =>
    rw [if_neg (by decide)]
    cases wr with
    | true =>
      have hv : valueJ uqJ ((deepD 0 true).length + 1) 16 (spJ (deepD 0 true)) = .good (decT false ⟨#[48]⟩ 0) [93] := by kernel_rfl
      rw [hv]
      simp only []
      rw [if_pos (by decide)]
      rfl
    | false =>
      have hv : valueJ uqJ ((deepD 0 false).length + 1) 16 (spJ (deepD 0 false)) = .good (decT false ⟨#[48]⟩ 0) [] := by kernel_rfl
      rw [hv]
      simp only []
      rw [if_neg (by decide), if_pos zero_right]
      rfl
  | succ n =>
    obtain ⟨m, hm⟩ : ∃ m : List UInt8, (if wr = true then [93] else []) = m := ⟨_, rfl⟩
    have hd : deepD (n + 1) wr = List.replicate (n + 1) 91 ++ (List.replicate (n + 1) 93 ++ m) := by
      unfold deepD
      rw [if_neg (by omega), hm, List.append_assoc]
    have hs : spJ (deepD (n + 1) wr) = deepD (n + 1) wr := by
      rw [hd, List.replicate_succ, List.cons_append]
      exact spJ_no rfl
    rw [hs, hd, arr_read _ (by omega)]
    by_cases h16 : n + 1 ≤ 16
    · rw [if_pos h16, if_neg (by omega)]
      simp only []
      cases wr with
      | true =>
        obtain rfl : [93] = m := hm
        rw [if_pos (by decide)]
        rfl
      | false =>
        obtain rfl : [] = m := hm
        rw [if_neg (by decide), if_pos (arr_right n (by omega))]
        rfl
    · rw [if_neg h16, if_pos (by omega)]
theorem bs_no (x : ByteArray) : x ++ ⟨#[]⟩ = x := ByteArray.ext (by rw [ByteArray.data_append, Array.append_empty])
theorem rep_snoc (k : Nat) (c : UInt8) : bsD (List.replicate k c) ++ ⟨#[c]⟩ = bsD (List.replicate (k + 1) c) := by
  rw [show (⟨#[c]⟩ : ByteArray) = bsD [c] from rfl, bsD_append, List.replicate_succ']
theorem repp_snoc (l : List UInt8) (k : Nat) (c : UInt8) : bsD (l ++ List.replicate k c) ++ ⟨#[c]⟩ = bsD (l ++ List.replicate (k + 1) c) := by
  rw [show (⟨#[c]⟩ : ByteArray) = bsD [c] from rfl, bsD_append, List.replicate_succ', List.append_assoc]

set_option maxHeartbeats 4000000 in
set_option maxRecDepth 100000 in
theorem deep_walk {uT uQ aT aF : Addr} (n : Int) (bad : Bool) (hn : -9223372036854775808 ≤ n ∧ n < 9223372036854775808) (w : World) (h : JRW w uT uQ aT aF) :
    Calls Tryz.prog 9 #[.int .i64 n, .bool bad] w fun e w' => e = .returned (.bool true) ∧ Below w.heap.size w w' := by
  have H1 := Lib.hid (jr_shown w h)
  by_cases h0 : n < 0
  · clear h
    go_enter Tryz.func9, Tryz.ntmps9
    go_wp2_with fail
    refine H1.out.mono ?_
    rintro x w1 ⟨rfl, hb1⟩
    go_wp2_with fail
    go_ret
    exact ⟨rfl, hb1⟩
  by_cases h40 : n > 40
  · clear h
    go_enter Tryz.func9, Tryz.ntmps9
    go_wp2_with fail
    refine H1.out.mono ?_
    rintro x w1 ⟨rfl, hb1⟩
    go_wp2_with fail
    go_ret
    exact ⟨rfl, hb1⟩
  obtain ⟨k, rfl⟩ : ∃ k : Nat, n = k := ⟨n.toNat, by omega⟩
  have hk : k ≤ 40 := by omega
  have HR := Lib.hid (fun (s : ByteArray) (hs : s.data.toList = deepD k bad) (W : World) (hb : Below w.heap.size w W) => jr_Read s (by
    have h1 : s.data.toList.length = s.size := by simp
    rw [hs] at h1
    have : (deepD k bad).length ≤ 90 := by
      unfold deepD
      rw [List.length_append]
      have h1 : (if k = 0 then [48] else List.replicate k (91 : UInt8) ++ List.replicate k 93).length ≤ 81 := by
        split
        · simp
        · rw [List.length_append, List.length_replicate, List.length_replicate]
          omega
      have h2 : (if bad = true then [(93 : UInt8)] else []).length ≤ 1 := by split <;> simp
      omega
    omega) W (h.below hb))
  have HR : Hid (∀ (s : ByteArray) (_ : s.data.toList = deepD k bad) (W : World) (_ : Below w.heap.size w W), Calls Tryz.prog 25 #[.string s] W (ReadP W (deepR k bad))) := Lib.hid (fun s hs W hb => by
    have := HR.out s hs W hb
    rw [hs, deep_read k hk bad] at this
    exact this)
  have HG := Lib.hid (fun W (hb : Below w.heap.size w W) => (h.below hb).g)
  clear h hn
  go_enter Tryz.func9, Tryz.ntmps9
  go_wp2_with fail
  refine H1.out.mono ?_
  rintro x w1 ⟨rfl, hb1⟩
  clear H1
  go_wp2_with fail
  go_loopw [6, 7] (fun s i wr' => ∃ j : Nat, j ≤ k ∧ s = .string (bsD (List.replicate j 91)) ∧ i = .int .i64 j ∧ wr' = w1) (fun _ i _ => k - (intOf i).toNat)
  case atStart => exact ⟨0, by omega, rfl, rfl, rfl⟩
  case round =>
    obtain ⟨j, hj, rfl, rfl, rfl⟩ := hrel
    by_cases hlt : j < k
    · have y1 : (j : Int) < k := by omega
      have z1 := rep_snoc j 91
      have z2 : ¬ 9223372036854775807 < (bsD (List.replicate j (91 : UInt8))).size + 1 := by rw [bsD_size, List.length_replicate]; omega
      obtain ⟨x1, hx1⟩ : ∃ x, bsD (List.replicate j (91 : UInt8)) = x := ⟨_, rfl⟩
      obtain ⟨x2, hx2⟩ : ∃ x, bsD (List.replicate (j + 1) (91 : UInt8)) = x := ⟨_, rfl⟩
      rw [hx1, hx2] at z1
      rw [hx1] at z2 ⊢
      have HX2 := Lib.hid hx2
      clear hx1 hx2
      go_wp2_with fail
      go_roundw
      case rel => exact ⟨j + 1, by omega, by rw [HX2.out], by go_num, trivial⟩
      case measure => simp [intOf]; omega
    · have hjk : j = k := by omega
      have y1 : ¬ (j : Int) < k := by omega
      rw [show List.replicate j (91 : UInt8) = List.replicate k 91 by rw [hjk]]
      clear hj hlt
      go_wp2_with fail
      clear hjk y1
      go_loopw [6, 8] (fun s i wr' => ∃ j : Nat, j ≤ k ∧ s = .string (bsD (List.replicate k 91 ++ List.replicate j 93)) ∧ i = .int .i64 j ∧ wr' = wr) (fun _ i _ => k - (intOf i).toNat)
      case atStart => exact ⟨0, by omega, by simp, rfl, rfl⟩
      case round =>
        obtain ⟨j, hj, rfl, rfl, rfl⟩ := hrel
        by_cases hlt : j < k
        · have y1 : (j : Int) < k := by omega
          have z1 := repp_snoc (List.replicate k 91) j 93
          have z2 : ¬ 9223372036854775807 < (bsD (List.replicate k (91 : UInt8) ++ List.replicate j (93 : UInt8))).size + 1 := by rw [bsD_size, List.length_append, List.length_replicate, List.length_replicate]; omega
          obtain ⟨x1, hx1⟩ : ∃ x, bsD (List.replicate k (91 : UInt8) ++ List.replicate j (93 : UInt8)) = x := ⟨_, rfl⟩
          obtain ⟨x2, hx2⟩ : ∃ x, bsD (List.replicate k (91 : UInt8) ++ List.replicate (j + 1) (93 : UInt8)) = x := ⟨_, rfl⟩
          rw [hx1, hx2] at z1
          rw [hx1] at z2 ⊢
          have HX2 := Lib.hid hx2
          clear hx1 hx2
          go_wp2_with fail
          go_roundw
          case rel => exact ⟨j + 1, by omega, by rw [HX2.out], by go_num, trivial⟩
          case measure => simp [intOf]; omega
        · have hjk : j = k := by omega
          have y1 : ¬ (j : Int) < k := by omega
          rw [show List.replicate j (93 : UInt8) = List.replicate k 93 by rw [hjk]]
          clear hj hlt
          have z2 : ¬ 9223372036854775807 < (bsD (List.replicate k (91 : UInt8) ++ List.replicate k (93 : UInt8))).size + 1 := by rw [bsD_size, List.length_append, List.length_replicate, List.length_replicate]; omega
          have hd : ∀ x : ByteArray, (if k = 0 then (⟨#[48]⟩ : ByteArray) else bsD (List.replicate k 91 ++ List.replicate k 93)) ++ (if bad = true then ⟨#[93]⟩ else ⟨#[]⟩) = x → x.data.toList = deepD k bad := fun x hx => by
            subst hx
            unfold deepD
            by_cases h0 : k = 0 <;> cases bad <;> simp [h0, bsD]
          obtain ⟨x1, hx1⟩ : ∃ x, bsD (List.replicate k (91 : UInt8) ++ List.replicate k (93 : UInt8)) = x := ⟨_, rfl⟩
          rw [hx1] at z2 hd ⊢
          clear hx1
          by_cases hk0 : k = 0
          · have y0 : (k : Int) = 0 := by omega
            rw [if_pos hk0] at hd
            cases bad with
            | true =>
              have hs := hd _ rfl
              rw [if_pos rfl] at hs
              clear hd
              go_wp2_with fail
              refine (HR.out _ hs _ hb1).mono ?_
              rintro x w2 ⟨hb2, A, c0, c, rfl, hl, ho⟩
              have hb2' := hb1.trans (hb2.mono hb1.size)
              clear HR
              unfold deepR at hl ho ⊢
              by_cases h16 : 16 < k
              · omega
              · have y2 : ¬ (16 : Int) < k := by omega
                rw [if_neg h16] at hl ho ⊢
                rw [if_pos rfl] at hl ho ⊢
                unfold nodeV
                simp only [zeroO]
                have hb3 := hb2'.alloc hb2'.size (.cells #[.int .i64 0, .bool false, .bool false, .string ⟨#[]⟩, .int .i64 0, .int .u64 0, .int .i64 0, .string ⟨#[]⟩, .slice A c0 c] 27)
                clear hl ho HG
                go_wp2_with fail
                go_ret
                exact ⟨rfl, hb3⟩
            | false =>
              have hs := hd _ rfl
              rw [if_neg (by decide), bs_no] at hs
              clear hd
              go_wp2_with fail
              refine (HR.out _ hs _ hb1).mono ?_
              rintro x w2 ⟨hb2, A, c0, c, rfl, hl, ho⟩
              have hb2' := hb1.trans (hb2.mono hb1.size)
              clear HR
              unfold deepR at hl ho ⊢
              by_cases h16 : 16 < k
              · omega
              · have y2 : ¬ (16 : Int) < k := by omega
                rw [if_neg h16] at hl ho ⊢
                rw [if_neg (by decide)] at hl ho ⊢
                obtain ⟨t, ht⟩ : ∃ t, (if k = 0 then decT false ⟨#[48]⟩ 0 else arrT (k - 1)) = t := ⟨_, rfl⟩
                have htd : (t.depth : Int) = max 1 (k : Int) ∧ t.count ≤ 100 := by
                  subst ht
                  by_cases h : k = 0
                  · rw [if_pos h]
                    subst h
                    decide +kernel
                  · rw [if_neg h, arr_depth, (arr_all _).2]
                    omega
                simp only [] at hl ho ⊢
                rw [ht] at hl ho ⊢
                clear ht
                have HT := Lib.hid (fun W (hW : Below w2.heap.size w2 W) => tree_Depth 16 t (.slice A c0 c) W w2.heap.size ((hl.mono (S' := fun q => q < w2.heap.size) (fun q hq => hq.2)).below hW (Nat.le_refl _)) hW.size (by omega))
                obtain ⟨⟨kind3, b3, neg3, dg3, ex3, u3, wd3, s3⟩, ho3⟩ : ∃ o, t.own = o := ⟨_, rfl⟩
                obtain ⟨dp, hdp⟩ : ∃ d : Nat, t.depth = d := ⟨_, rfl⟩
                rw [hdp] at HT htd
                have y5 := htd.1
                simp only [ho3] at HT ⊢
                unfold nodeV at HT ⊢
                simp only [] at HT ⊢
                have hm := Blk.new w2 #[.int .i64 kind3, .bool b3, .bool neg3, .string dg3, .int .i64 ex3, .int .u64 u3, .int .i64 wd3, .string s3, .slice A c0 c] 27
                have z0 := hm.cell 0
                have z1 := hm.cell 1
                have z2 := hm.cell 2
                have z3 := hm.cell 3
                have z4 := hm.cell 4
                have z5 := hm.cell 5
                have z6 := hm.cell 6
                have z7 := hm.cell 7
                have z8 := hm.cell 8
                have hb4 := hb2'.alloc hb2'.size (.cells #[.int .i64 kind3, .bool b3, .bool neg3, .string dg3, .int .i64 ex3, .int .u64 u3, .int .i64 wd3, .string s3, .slice A c0 c] 27)
                have hw4 : Below w2.heap.size w2 (w2.alloc (.cells #[.int .i64 kind3, .bool b3, .bool neg3, .string dg3, .int .i64 ex3, .int .u64 u3, .int .i64 wd3, .string s3, .slice A c0 c] 27)) := (Below.refl _ w2).alloc (Nat.le_refl _) _
                clear hl ho ho3 HG htd hdp
                go_wp2_with fail
                refine (HT.out _ hw4).mono ?_
                rintro x w5 ⟨rfl, hb5⟩
                clear z0 z1 z2 z3 z4 z5 z6 z7 z8 HT
                go_wp2_with fail
                go_ret
                refine ⟨?_, hb4.trans (hb5.mono hb4.size)⟩
                show Ending.returned (Value.bool _) = _
                congr 2
          · have y0 : ¬ (k : Int) = 0 := by omega
            rw [if_neg hk0] at hd
            cases bad with
            | true =>
              have hs := hd _ rfl
              rw [if_pos rfl] at hs
              clear hd
              go_wp2_with fail
              refine (HR.out _ hs _ hb1).mono ?_
              rintro x w2 ⟨hb2, A, c0, c, rfl, hl, ho⟩
              have hb2' := hb1.trans (hb2.mono hb1.size)
              clear HR
              unfold deepR at hl ho ⊢
              by_cases h16 : 16 < k
              · have y2 : (16 : Int) < k := by omega
                rw [if_pos h16] at hl ho ⊢
                unfold nodeV
                simp only [zeroO]
                have hb3 := hb2'.alloc hb2'.size (.cells #[.int .i64 0, .bool false, .bool false, .string ⟨#[]⟩, .int .i64 0, .int .u64 0, .int .i64 0, .string ⟨#[]⟩, .slice A c0 c] 27)
                clear hl ho HG
                go_wp2_with fail
                go_ret
                exact ⟨rfl, hb3⟩
              · have y2 : ¬ (16 : Int) < k := by omega
                rw [if_neg h16] at hl ho ⊢
                rw [if_pos rfl] at hl ho ⊢
                unfold nodeV
                simp only [zeroO]
                have hb3 := hb2'.alloc hb2'.size (.cells #[.int .i64 0, .bool false, .bool false, .string ⟨#[]⟩, .int .i64 0, .int .u64 0, .int .i64 0, .string ⟨#[]⟩, .slice A c0 c] 27)
                clear hl ho HG
                go_wp2_with fail
                go_ret
                exact ⟨rfl, hb3⟩
            | false =>
              have hs := hd _ rfl
              rw [if_neg (by decide), bs_no] at hs
              clear hd
              go_wp2_with fail
              refine (HR.out _ hs _ hb1).mono ?_
              rintro x w2 ⟨hb2, A, c0, c, rfl, hl, ho⟩
              have hb2' := hb1.trans (hb2.mono hb1.size)
              clear HR
              unfold deepR at hl ho ⊢
              by_cases h16 : 16 < k
              · have y2 : (16 : Int) < k := by omega
                rw [if_pos h16] at hl ho ⊢
                unfold nodeV
                simp only [zeroO]
                have hb3 := hb2'.alloc hb2'.size (.cells #[.int .i64 0, .bool false, .bool false, .string ⟨#[]⟩, .int .i64 0, .int .u64 0, .int .i64 0, .string ⟨#[]⟩, .slice A c0 c] 27)
                clear hl ho HG
                go_wp2_with fail
                go_ret
                exact ⟨rfl, hb3⟩
              · have y2 : ¬ (16 : Int) < k := by omega
                rw [if_neg h16] at hl ho ⊢
                rw [if_neg (by decide)] at hl ho ⊢
                obtain ⟨t, ht⟩ : ∃ t, (if k = 0 then decT false ⟨#[48]⟩ 0 else arrT (k - 1)) = t := ⟨_, rfl⟩
                have htd : (t.depth : Int) = max 1 (k : Int) ∧ t.count ≤ 100 := by
                  subst ht
                  by_cases h : k = 0
                  · rw [if_pos h]
                    subst h
                    decide +kernel
                  · rw [if_neg h, arr_depth, (arr_all _).2]
                    omega
                simp only [] at hl ho ⊢
                rw [ht] at hl ho ⊢
                clear ht
                have HT := Lib.hid (fun W (hW : Below w2.heap.size w2 W) => tree_Depth 16 t (.slice A c0 c) W w2.heap.size ((hl.mono (S' := fun q => q < w2.heap.size) (fun q hq => hq.2)).below hW (Nat.le_refl _)) hW.size (by omega))
                obtain ⟨⟨kind3, b3, neg3, dg3, ex3, u3, wd3, s3⟩, ho3⟩ : ∃ o, t.own = o := ⟨_, rfl⟩
                obtain ⟨dp, hdp⟩ : ∃ d : Nat, t.depth = d := ⟨_, rfl⟩
                rw [hdp] at HT htd
                have y5 := htd.1
                simp only [ho3] at HT ⊢
                unfold nodeV at HT ⊢
                simp only [] at HT ⊢
                have hm := Blk.new w2 #[.int .i64 kind3, .bool b3, .bool neg3, .string dg3, .int .i64 ex3, .int .u64 u3, .int .i64 wd3, .string s3, .slice A c0 c] 27
                have z0 := hm.cell 0
                have z1 := hm.cell 1
                have z2 := hm.cell 2
                have z3 := hm.cell 3
                have z4 := hm.cell 4
                have z5 := hm.cell 5
                have z6 := hm.cell 6
                have z7 := hm.cell 7
                have z8 := hm.cell 8
                have hb4 := hb2'.alloc hb2'.size (.cells #[.int .i64 kind3, .bool b3, .bool neg3, .string dg3, .int .i64 ex3, .int .u64 u3, .int .i64 wd3, .string s3, .slice A c0 c] 27)
                have hw4 : Below w2.heap.size w2 (w2.alloc (.cells #[.int .i64 kind3, .bool b3, .bool neg3, .string dg3, .int .i64 ex3, .int .u64 u3, .int .i64 wd3, .string s3, .slice A c0 c] 27)) := (Below.refl _ w2).alloc (Nat.le_refl _) _
                clear hl ho ho3 HG htd hdp
                go_wp2_with fail
                refine (HT.out _ hw4).mono ?_
                rintro x w5 ⟨rfl, hb5⟩
                clear z0 z1 z2 z3 z4 z5 z6 z7 z8 HT
                go_wp2_with fail
                go_ret
                refine ⟨?_, hb4.trans (hb5.mono hb4.size)⟩
                show Ending.returned (Value.bool _) = _
                congr 2
end Go.Proofs.YtfckekaegjjmkaaGreatDoor
namespace Go.Proofs.YtfckekaegjjmkaaGreatDoor
open Go.RowKit Go.Shelf Go.Lib

theorem laidMet_drop {P : Program} {W : World} : ∀ (k : Nat) {l : List (String × DataW Unit)}, laidMet P l W → laidMet P (l.drop k) W
  | 0, _, h => h
  | _ + 1, [], h => h
  | k + 1, _ :: _, h => laidMet_drop k h.tail

set_option maxRecDepth 100000 in
/-- A sentinel on the list: its cell, the block behind it, its text. -/
theorem sentinel_of {n : String} {g : Nat} {text : List UInt8} {r : List (String × DataW Unit)} {W : World} (h : laidMet Tryz.prog ((n, .iface "*errors.errorString" (.ptr (.agg [.lit (.string text)]))) :: r) W)
    (hg : Tryz.prog.globalNamed n = some g) (ht : (Tryz.prog.globals[g]?).map (·.type) = some 62)
    (hi : ∃ ms, Tryz.prog.underlying 62 = some (.interface ms)) (hrow : ∀ u, Tryz.prog.typeName? 3 u = some "*errors.errorString" → u = 289)
    (he : ∃ f : Field, Tryz.prog.underlying 291 = some (.struct #[f]) ∧ f.type = 9 ∧ f.offset = 0) (hc : Tryz.prog.cellsOf 291 = 1) (hcs : Tryz.prog.cellsOf 9 = 1) :
    ∃ a : Addr, W.cell? ⟨g, 0, none⟩ = some (.iface 289 (.pointer (some a))) ∧ (∃ c t, W.heap[a.block]? = some (.cells c t (0, 0))) ∧ ∃ s : ByteArray, W.cell? a = some (.string s) ∧ s.data.toList = text := by
  obtain ⟨ms, hi⟩ := hi
  obtain ⟨f, he, hft, hfo⟩ := he
  obtain ⟨ps, ⟨g0, t0, cs0, f0, p0, q0, hg0, ht0, hv0, hd0, _, e0⟩, _, hrows⟩ := h
  obtain rfl := Option.some.inj (hg.symm.trans hg0)
  obtain rfl := Option.some.inj (ht.symm.trans ht0)
  subst e0
  obtain ⟨l0⟩ := cs0
  have ok0 : ∀ u v, l0 = [.iface u v] → Value.okWide Tryz.prog W .any 0 u v := fun u v e => by
    subst e
    exact (hrows g 0 (by simp [MemPlace.row])).2 u v (by simpa using World.var?_cell hg0 hv0 0)
  obtain ⟨a0, s0, rfl, hc0, hs0, hz0, rfl⟩ := errorString_of_trod hi hrow Tryz.underlying289 he hft hfo Tryz.underlying9 hc hcs hd0 ok0
  obtain ⟨c0, t0, hb0⟩ := (hrows a0.block a0.off (by simp [MemPlace.row])).1
  refine ⟨a0, ?_, ⟨c0, t0, hb0⟩, s0, hc0, hs0⟩
  simpa using World.var?_cell hg0 hv0 0

set_option maxRecDepth 100000 in
theorem u8extra : U8Extra Tryz.prog Tryz.lays196_ren := { n3 := by kernel_rfl, n4 := by kernel_rfl, y3 := by kernel_rfl, y4 := by kernel_rfl, c5 := by kernel_rfl, c119 := by kernel_rfl, c138 := by kernel_rfl }
theorem es_star : "*" ++ "errors.errorString" = "*errors.errorString" := by decide
set_option maxRecDepth 100000 in
theorem es_row (u : TypeId) (h : Tryz.prog.typeName? 3 u = some "*errors.errorString") : u = 289 :=
  typeName_ptr_named (nm := "errors.errorString") (by rw [es_star]; kernel_rfl) (by kernel_rfl) (by decide) u (by rw [es_star]; exact h)
theorem es_iface : ∃ ms, Tryz.prog.underlying 62 = some (.interface ms) := ⟨_, Tryz.underlying62⟩
theorem es_struct : ∃ f : Field, Tryz.prog.underlying 291 = some (.struct #[f]) ∧ f.type = 9 ∧ f.offset = 0 := ⟨_, Tryz.underlying291, rfl, rfl⟩
set_option maxRecDepth 100000 in
theorem es_cells : Tryz.prog.cellsOf 291 = 1 := by kernel_rfl
set_option maxRecDepth 100000 in
theorem es_string : Tryz.prog.cellsOf 9 = 1 := by kernel_rfl
theorem wf_i64 {a : Int} (h : (Lit.int .i64 a).wf = true) : -9223372036854775808 ≤ a ∧ a < 9223372036854775808 := by
  simp [Lit.wf, IntKind.min, IntKind.max, IntKind.signed, IntKind.bits] at h
  omega
set_option maxRecDepth 100000 in
/-- A sentinel on the list: its variable holds an interface value. -/
theorem sentinel_var {n : String} {g : Nat} {text : List UInt8} {r : List (String × DataW Unit)} {W : World} (h : laidMet Tryz.prog ((n, .iface "*errors.errorString" (.ptr (.agg [.lit (.string text)]))) :: r) W)
    (hg : Tryz.prog.globalNamed n = some g) (ht : (Tryz.prog.globals[g]?).map (·.type) = some 62) : ∃ tp p, W.var? Tryz.prog n = some #[.iface tp p] := by
  obtain ⟨ms, hi⟩ := es_iface
  obtain ⟨f, he, hft, hfo⟩ := es_struct
  obtain ⟨ps, ⟨g0, t0, cs0, f0, p0, q0, hg0, ht0, hv0, hd0, _, e0⟩, _, hrows⟩ := h
  obtain rfl := Option.some.inj (hg.symm.trans hg0)
  obtain rfl := Option.some.inj (ht.symm.trans ht0)
  subst e0
  obtain ⟨l0⟩ := cs0
  have ok0 : ∀ u v, l0 = [.iface u v] → Value.okWide Tryz.prog W .any 0 u v := fun u v e => by
    subst e
    exact (hrows g 0 (by simp [MemPlace.row])).2 u v (by simpa using World.var?_cell hg0 hv0 0)
  obtain ⟨a0, s0, rfl, hc0, hs0, hz0, rfl⟩ := errorString_of_trod hi es_row Tryz.underlying289 he hft hfo Tryz.underlying9 es_cells es_string hd0 ok0
  exact ⟨_, _, hv0⟩
set_option maxRecDepth 100000 in
theorem gR : Tryz.prog.globalNamed "strconv.ErrRange" = some 8 := by kernel_rfl
set_option maxRecDepth 100000 in
theorem tR : (Tryz.prog.globals[8]?).map (·.type) = some 62 := by kernel_rfl
end Go.Proofs.YtfckekaegjjmkaaGreatDoor
