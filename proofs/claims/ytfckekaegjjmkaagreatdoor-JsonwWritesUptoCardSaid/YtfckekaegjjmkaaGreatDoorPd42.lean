/- The texts WjW, put together. -/
import Derived.Test.YtfckekaegjjmkaaGreatDoorPd38
import Derived.Test.YtfckekaegjjmkaaGreatDoorPd41
namespace Go.Proofs.YtfckekaegjjmkaaGreatDoor
open Go.RowKit Go.Shelf

set_option linter.unusedSimpArgs false in
set_option maxHeartbeats 16000000 in
set_option maxRecDepth 100000 in
theorem rj_write (p : Bool) (d : Nat) : ∀ (t : Tr) (x : Value) (w : World) (B k : Nat), ListAt w B d t.kids x → B ≤ w.heap.size → OwnOk t.own → okJ t → allB t = true → k + t.depth ≤ 100 → t.count ≤ 300 →
    Calls Tryz.prog 38 #[nodeV t.own x, .bool p, .int .i64 k] w fun e w' => e = .returned (.string ⟨(jsT quoteL p k t).toArray⟩) ∧ Below w.heap.size w w' := by
  induction d using Nat.strongRecOn with
  | _ d ih =>
  intro t x w B k hl hB ho hok ha hdp hc
  have hbd := jsT_bound p t k hok ha hdp
  obtain ⟨o, l⟩ := t
  obtain ⟨hlen, A, c, rfl⟩ := hl.slice
  have hl : ListAt w B d l (.slice A l.length c) := hl
  have ho : OwnOk o := ho
  rw [okJ] at hok
  rw [allB, Bool.and_eq_true] at ha
  have hd1 : (Tr.nd o l).depth = 1 + depthL l := depth_node (.nd o l)
  have hc1 : (Tr.nd o l).count = 1 + countL l := Tr.count_eq _
  have hsh := hok.1
  have hokl := hok.2
  have hal := ha.2
  have hcl : countL l ≤ 300 := by omega
  have hdl : k + 1 + depthL l ≤ 100 := by omega
  have hlwv : ∀ q ∈ l, (jsT quoteL p (k + 1) q).length ≤ 3000000 := fun q hq => by
    have h1 := jsT_bound p q (k + 1) (okJL_mem hokl q hq) (allL_memJ hal hq) (by have := depthL_mem hq; omega)
    have h2 := countL_mem hq
    omega
  have hbd : (jsT quoteL p k (.nd o l)).length ≤ 3000000 := by omega
  have hoa := ha.1
  show Calls Tryz.prog 38 #[nodeV o (.slice A l.length c), .bool p, .int .i64 k] w _
  obtain ⟨n, hn⟩ : ∃ n, l.length = n := ⟨_, rfl⟩
  have hlen : l.length ≤ 9223372036854775807 := hlen
  rw [hn] at hl hlen ⊢
  obtain ⟨kind, b, neg, dg, ex, u, wd, s⟩ := o
  unfold nodeV
  simp only []
  rcases hsh with ⟨h, _⟩ | ⟨h, _⟩ | ⟨h, hd, _⟩ | ⟨h, hv, _⟩ | ⟨h⟩ | ⟨h, he, _⟩
  · obtain rfl : kind = 1 := congrArg Own.kind h
    clear h
    have hr : (⟨(jsT quoteL p k (.nd ⟨1, b, neg, dg, ex, u, wd, s⟩ l)).toArray⟩ : ByteArray) = ⟨#[110, 117, 108, 108]⟩ := by
      rw [jsT]
      rw [if_pos rfl]
    rw [hr]
    clear hr hl ih hok ha hdp hc hB ho
    have hbx := (Below.refl w.heap.size w).alloc (Nat.le_refl _) (.cells #[.int .i64 1, .bool b, .bool neg, .string dg, .int .i64 ex, .int .u64 u, .int .i64 wd, .string s, .slice A n c] 27)
    have hkx := Blk.new w #[.int .i64 1, .bool b, .bool neg, .string dg, .int .i64 ex, .int .u64 u, .int .i64 wd, .string s, .slice A n c] 27
    have c0 := hkx.cell 0
    have c1 := hkx.cell 1
    have c2 := hkx.cell 2
    have c3 := hkx.cell 3
    have c4 := hkx.cell 4
    have c5 := hkx.cell 5
    have c6 := hkx.cell 6
    have c7 := hkx.cell 7
    have c8 := hkx.cell 8
    clear hkx
    go_enter Tryz.func38, Tryz.ntmps38
    go_wp2_with fail
    go_ret
    exact ⟨rfl, hbx⟩
  · obtain rfl : kind = 2 := congrArg Own.kind h
    clear h
    cases b
    · skip
      have hr : (⟨(jsT quoteL p k (.nd ⟨2, false, neg, dg, ex, u, wd, s⟩ l)).toArray⟩ : ByteArray) = ⟨#[102, 97, 108, 115, 101]⟩ := by
        rw [jsT]
        rw [if_neg (by simp), if_pos rfl, if_neg (by simp)]
      rw [hr]
      clear hr hl ih hok ha hdp hc hB ho
      have hbx := (Below.refl w.heap.size w).alloc (Nat.le_refl _) (.cells #[.int .i64 2, .bool false, .bool neg, .string dg, .int .i64 ex, .int .u64 u, .int .i64 wd, .string s, .slice A n c] 27)
      have hkx := Blk.new w #[.int .i64 2, .bool false, .bool neg, .string dg, .int .i64 ex, .int .u64 u, .int .i64 wd, .string s, .slice A n c] 27
      have c0 := hkx.cell 0
      have c1 := hkx.cell 1
      have c2 := hkx.cell 2
      have c3 := hkx.cell 3
      have c4 := hkx.cell 4
      have c5 := hkx.cell 5
      have c6 := hkx.cell 6
      have c7 := hkx.cell 7
      have c8 := hkx.cell 8
      clear hkx
      go_enter Tryz.func38, Tryz.ntmps38
      go_wp2_with fail
      go_ret
      exact ⟨rfl, hbx⟩
    · skip
      have hr : (⟨(jsT quoteL p k (.nd ⟨2, true, neg, dg, ex, u, wd, s⟩ l)).toArray⟩ : ByteArray) = ⟨#[116, 114, 117, 101]⟩ := by
        rw [jsT]
        rw [if_neg (by simp), if_pos rfl, if_pos rfl]
      rw [hr]
      clear hr hl ih hok ha hdp hc hB ho
      have hbx := (Below.refl w.heap.size w).alloc (Nat.le_refl _) (.cells #[.int .i64 2, .bool true, .bool neg, .string dg, .int .i64 ex, .int .u64 u, .int .i64 wd, .string s, .slice A n c] 27)
      have hkx := Blk.new w #[.int .i64 2, .bool true, .bool neg, .string dg, .int .i64 ex, .int .u64 u, .int .i64 wd, .string s, .slice A n c] 27
      have c0 := hkx.cell 0
      have c1 := hkx.cell 1
      have c2 := hkx.cell 2
      have c3 := hkx.cell 3
      have c4 := hkx.cell 4
      have c5 := hkx.cell 5
      have c6 := hkx.cell 6
      have c7 := hkx.cell 7
      have c8 := hkx.cell 8
      clear hkx
      go_enter Tryz.func38, Tryz.ntmps38
      go_wp2_with fail
      go_ret
      exact ⟨rfl, hbx⟩
  · obtain rfl : kind = 3 := congrArg Own.kind h
    clear h
    have hr : jsT quoteL p k (.nd ⟨3, b, neg, dg, ex, u, wd, s⟩ l) = fmtD neg dg.data.toList ex := by
      rw [jsT, if_neg (by simp), if_neg (by simp), if_pos rfl]
    rw [hr]
    have HF := Lib.hid (ref_Format neg dg ex hd)
    obtain ⟨r, hr⟩ : ∃ r : ByteArray, (⟨(fmtD neg dg.data.toList ex).toArray⟩ : ByteArray) = r := ⟨_, rfl⟩
    rw [hr] at HF ⊢
    clear hr hl ih hok ha hdp hc hB ho hd hbd
    have hbx := (Below.refl w.heap.size w).alloc (Nat.le_refl _) (.cells #[.int .i64 3, .bool b, .bool neg, .string dg, .int .i64 ex, .int .u64 u, .int .i64 wd, .string s, .slice A n c] 27)
    have hkx := Blk.new w #[.int .i64 3, .bool b, .bool neg, .string dg, .int .i64 ex, .int .u64 u, .int .i64 wd, .string s, .slice A n c] 27
    have c0 := hkx.cell 0
    have c1 := hkx.cell 1
    have c2 := hkx.cell 2
    have c3 := hkx.cell 3
    have c4 := hkx.cell 4
    have c5 := hkx.cell 5
    have c6 := hkx.cell 6
    have c7 := hkx.cell 7
    have c8 := hkx.cell 8
    go_enter Tryz.func38, Tryz.ntmps38
    go_wp2_with fail
    with_reducible refine (HF.out _).mono ?_
    rintro e w2 ⟨rfl, hb⟩
    have hbb := hbx.trans (hb.mono hbx.size)
    clear hb c0 c1 c2 c3 c4 c5 c6 c7 c8
    go_wp2_with fail
    go_ret
    exact ⟨rfl, hbb⟩
  · obtain rfl : kind = 5 := congrArg Own.kind h
    clear h
    have hr : jsT quoteL p k (.nd ⟨5, b, neg, dg, ex, u, wd, s⟩ l) = quoteL s.data.toList := by
      rw [jsT, if_neg (by simp), if_neg (by simp), if_neg (by simp), if_pos rfl]
    rw [hr]
    have hs4 : s.size ≤ 400 := by
      simp [ownB] at hoa
      exact hoa.2.2.1
    have HF := Lib.hid (fun w => ref_Quote_yes s w (by omega) hv)
    obtain ⟨r, hr⟩ : ∃ r : ByteArray, (⟨(quoteL s.data.toList).toArray⟩ : ByteArray) = r := ⟨_, rfl⟩
    rw [hr] at HF ⊢
    clear hr hl ih hok ha hdp hc hB ho hv hbd hoa
    have hbx := (Below.refl w.heap.size w).alloc (Nat.le_refl _) (.cells #[.int .i64 5, .bool b, .bool neg, .string dg, .int .i64 ex, .int .u64 u, .int .i64 wd, .string s, .slice A n c] 27)
    have hkx := Blk.new w #[.int .i64 5, .bool b, .bool neg, .string dg, .int .i64 ex, .int .u64 u, .int .i64 wd, .string s, .slice A n c] 27
    have c0 := hkx.cell 0
    have c1 := hkx.cell 1
    have c2 := hkx.cell 2
    have c3 := hkx.cell 3
    have c4 := hkx.cell 4
    have c5 := hkx.cell 5
    have c6 := hkx.cell 6
    have c7 := hkx.cell 7
    have c8 := hkx.cell 8
    go_enter Tryz.func38, Tryz.ntmps38
    go_wp2_with fail
    with_reducible refine (HF.out _).mono ?_
    rintro e w2 ⟨rfl, hb⟩
    have hbb := hbx.trans (hb.mono hbx.size)
    clear hb c0 c1 c2 c3 c4 c5 c6 c7 c8
    go_wp2_with fail
    go_ret
    exact ⟨rfl, hbb⟩
  · obtain rfl : kind = 7 := congrArg Own.kind h
    clear h hoa
    have hTT : jsT quoteL p k (.nd ⟨7, b, neg, dg, ex, u, wd, s⟩ l) = 91 :: ((if n = 0 then [] else outR false p (k + 1) 0 l ++ lineL p k) ++ [93]) := by
      rw [jsT, if_neg (by simp), if_neg (by simp), if_neg (by simp), if_neg (by simp), if_pos rfl, hn]
      rw [outR_arr]
      rfl
    have hTZ : (outR false p (k + 1) 0 l).length ≤ 3000000 := by
      by_cases h0 : n = 0
      · have : l = [] := List.length_eq_zero_iff.1 (by omega)
        rw [this, outR]
        exact Nat.zero_le _
      · rw [hTT, if_neg h0] at hbd
        simp only [List.length_cons, List.length_append] at hbd
        omega
    have hTE : (outR false p (k + 1) 0 l = []) ↔ n = 0 := by
      constructor
      · intro h
        cases l with
        | nil => rw [← hn]; rfl
        | cons t0 l0 =>
          rw [outR] at h
          obtain ⟨c9, r9, e9, _⟩ : BegJ (jsT quoteL p (k + 1) t0) := jsT_beg quoteL_beg p (k + 1) t0 (okJL_mem hokl t0 (by simp))
          have := congrArg List.length h
          unfold rowR at this
          rw [e9] at this
          simp at this
      · intro h
        have : l = [] := List.length_eq_zero_iff.1 (by omega)
        rw [this, outR]
    rw [hTT]
    have HTE := Lib.hid hTE
    have HYK : Hid (wrap64 ((k : Int) + 1) = (k : Int) + 1) := Lib.hid (by unfold wrap64; omega)
    have HTZ := Lib.hid hTZ
    have HL := Lib.hid hl
    have IH := Lib.hid ih
    have HC := Lib.hid hcl
    have HD := Lib.hid hdl
    have HOK := Lib.hid hokl
    have HA := Lib.hid hal
    have HN := Lib.hid hn
    have HW := Lib.hid hlwv
    have HLN1 := Lib.hid (rj_lines p (k + 1) (by omega))
    have HLN0 := Lib.hid (rj_lines p k (by omega))
    have e1 : ((k + 1 : Nat) : Int) = (k : Int) + 1 := Int.natCast_succ k
    rw [e1] at HLN1
    obtain ⟨ls, hls⟩ : ∃ ls : ByteArray, (⟨(lineL p (k + 1)).toArray⟩ : ByteArray) = ls := ⟨_, rfl⟩
    have hlsl : ls.data.toList = lineL p (k + 1) := by rw [← hls]
    have hlsz : ls.size ≤ 300 := by
      have := lineL_len p (k + 1)
      rw [← hlsl] at this
      simp at this
      omega
    obtain ⟨l0, hl0⟩ : ∃ ls : ByteArray, (⟨(lineL p k).toArray⟩ : ByteArray) = ls := ⟨_, rfl⟩
    have hl0l : l0.data.toList = lineL p k := by rw [← hl0]
    have hl0z : l0.size ≤ 300 := by
      have := lineL_len p k
      rw [← hl0l] at this
      simp at this
      omega
    rw [hls] at HLN1
    rw [hl0] at HLN0
    obtain ⟨r, hr⟩ : ∃ r : ByteArray, ⟨(91 :: ((if n = 0 then [] else outR false p (k + 1) 0 l ++ lineL p k) ++ [93])).toArray⟩ = r := ⟨_, rfl⟩
    rw [hr]
    have HRR := Lib.hid (show r.data.toList = 91 :: ((if n = 0 then [] else outR false p (k + 1) 0 l ++ lineL p k) ++ [93]) by rw [← hr])
    have HLS := Lib.hid hlsl
    have HL0 := Lib.hid hl0l
    clear hl ih hok ha hdp hc hTT hTZ hTE hbd hcl hdl hokl hal hn hls hl0 hlsl hl0l hr ho e1 hlwv
    have hbx := (Below.refl w.heap.size w).alloc (Nat.le_refl _) (.cells #[.int .i64 7, .bool b, .bool neg, .string dg, .int .i64 ex, .int .u64 u, .int .i64 wd, .string s, .slice A n c] 27)
    have hkx := Blk.new w #[.int .i64 7, .bool b, .bool neg, .string dg, .int .i64 ex, .int .u64 u, .int .i64 wd, .string s, .slice A n c] 27
    go_enter Tryz.func38, Tryz.ntmps38
    go_wp2_with fail
    go_loopw [11, 12] (fun z i wr => ∃ (j : Nat) (a : ByteArray), j ≤ n ∧ i = .int .i64 j ∧ z = .string a ∧ Hid (a.data.toList = outR false p (k + 1) 0 (l.take j)) ∧ Below w.heap.size w wr ∧ Blk wr w.heap.size #[.int .i64 7, .bool b, .bool neg, .string dg, .int .i64 ex, .int .u64 u, .int .i64 wd, .string s, .slice A n c] 27) (fun _ i _ => n - (intOf i).toNat)
    case atStart => exact ⟨0, ⟨#[]⟩, by omega, rfl, rfl, Lib.hid rfl, hbx, hkx⟩
    case round =>
      obtain ⟨j, a, hj, rfl, rfl, HA', hbw, hbk⟩ := hrel
      clear hbx hkx
      have haz : a.size ≤ 3000000 := by
        have e1 : a.data.toList.length = a.size := by simp
        have e2 := outR_len false p (k + 1) l 0 j
        rw [HA'.out] at e1
        have := HTZ.out
        omega
      have g0 := hbk.cell 0
      have g1 := hbk.cell 1
      have g2 := hbk.cell 2
      have g3 := hbk.cell 3
      have g4 := hbk.cell 4
      have g5 := hbk.cell 5
      have g6 := hbk.cell 6
      have g7 := hbk.cell 7
      have g8 := hbk.cell 8
      by_cases hlt : j < n
      · have hjl : j < l.length := by have := HN.out; omega
        obtain ⟨d', ad, x', hdd, rfl, hab, hoo, hna, hkk⟩ := (HL.out.below hbw hB).at_ hjl
        replace hna : NodeAt wr (ad.add (j * 9)) l[j].own x' := hna
        have hm := List.getElem_mem hjl
        have HC1 := IH.out d' (by omega) l[j] x' wr B (k + 1) hkk (Nat.le_trans hB hbw.size) hoo (okJL_mem HOK.out _ hm) (allL_memJ HA.out hm) (by have h1 := depthL_mem hm; have h2 := HD.out; omega) (Nat.le_trans (countL_mem hm) HC.out)
        have hbj := HW.out l[j] hm
        obtain ⟨bs, hbs⟩ : ∃ bs : ByteArray, (⟨(jsT quoteL p (k + 1) l[j]).toArray⟩ : ByteArray) = bs := ⟨_, rfl⟩
        have hbl : bs.data.toList = jsT quoteL p (k + 1) l[j] := by rw [← hbs]
        have hbz : bs.size ≤ 3000000 := by
          have e1 : bs.data.toList.length = bs.size := by simp
          rw [hbl] at e1
          omega
        rw [hbs, show ((k + 1 : Nat) : Int) = (k : Int) + 1 from Int.natCast_succ k] at HC1
        have hT := outR_take false p (k + 1) l j hjl
        unfold rowR at hT
        rw [← hbl, ← HLS.out, ← HA'.out] at hT
        obtain ⟨⟨kind', b', neg', dg', ex', u', wd', s'⟩, ho'⟩ : ∃ o, l[j].own = o := ⟨_, rfl⟩
        rw [ho'] at HC1 hna
        unfold nodeV at HC1
        obtain ⟨k0, k1, k2, k3, k4, k5, k6, k7, k8⟩ := hna
        simp only [] at k0 k1 k2 k3 k4 k5 k6 k7 k8 HC1
        have y1 : (j : Int) < n := by omega
        have y0 : (0 : Int) ≤ j := by omega
        have HC1 := Lib.hid HC1
        have HT := Lib.hid hT
        clear ho' hkk hoo hdd hbs hbl hm hbj hT hjl
        by_cases y4 : j = 0
        · have ys0 : ¬ 9223372036854775807 < a.size + ls.size := by omega
          have ys1 : ¬ 9223372036854775807 < a.size + ls.size + bs.size := by omega
          have HT2 := Lib.hid (show (a ++ ls ++ bs).data.toList = outR false p (k + 1) 0 (l.take (j + 1)) by
            rw [HT.out]
            simp only [app_list]
            simp [keyR, gapL, y4])
          have y5 : ¬ (0 : Int) < j := by omega
          have y6 : (j : Int) = 0 := by omega
          clear HT haz hbz y4 y6
          have yk := HYK.out
          go_wp2_with fail
          with_reducible refine (HLN1.out _).mono ?_
          rintro e w2 ⟨rfl, rfl⟩
          go_wp2_with fail
          with_reducible refine HC1.out.mono ?_
          rintro e w3 ⟨rfl, hb⟩
          have hb3 := hbw.trans (hb.mono hbw.size)
          have hbk2 := hbk.below hb hbk.lt
          clear yk hb HC1 hbk k0 k1 k2 k3 k4 k5 k6 k7 k8 g0 g1 g2 g3 g4 g5 g6 g7 g8
          go_wp2_with fail
          go_roundw
          case rel => exact ⟨j + 1, _, by omega, congrArg (Value.int .i64) (Int.natCast_succ j).symm, rfl, HT2, hb3, hbk2⟩
          case measure => simp [intOf]; omega
        · have ys0 : ¬ 9223372036854775807 < a.size + 1 := by omega
          have ys1 : ¬ 9223372036854775807 < a.size + 1 + ls.size := by omega
          have ys2 : ¬ 9223372036854775807 < a.size + 1 + ls.size + bs.size := by omega
          have HT2 := Lib.hid (show (a ++ ⟨#[44]⟩ ++ ls ++ bs).data.toList = outR false p (k + 1) 0 (l.take (j + 1)) by
            rw [HT.out]
            simp only [app_list]
            simp [keyR, gapL, y4])
          have y5 : (0 : Int) < j := by omega
          clear HT haz hbz y4
          have yk := HYK.out
          go_wp2_with fail
          with_reducible refine (HLN1.out _).mono ?_
          rintro e w2 ⟨rfl, rfl⟩
          go_wp2_with fail
          with_reducible refine HC1.out.mono ?_
          rintro e w3 ⟨rfl, hb⟩
          have hb3 := hbw.trans (hb.mono hbw.size)
          have hbk2 := hbk.below hb hbk.lt
          clear yk hb HC1 hbk k0 k1 k2 k3 k4 k5 k6 k7 k8 g0 g1 g2 g3 g4 g5 g6 g7 g8
          go_wp2_with fail
          go_roundw
          case rel => exact ⟨j + 1, _, by omega, congrArg (Value.int .i64) (Int.natCast_succ j).symm, rfl, HT2, hb3, hbk2⟩
          case measure => simp [intOf]; omega
      · obtain rfl : j = n := by omega
        have hal : l.take j = l := by rw [← HN.out, List.take_length]
        have hA2 := HA'.out
        rw [hal] at hA2
        have y1 : ¬ (j : Int) < j := by omega
        by_cases h0 : j = 0
        · have hae : a = ⟨#[]⟩ := str_ext (by rw [hA2, HTE.out.2 h0])
          have hrr := HRR.out
          rw [if_pos h0] at hrr
          have hre : r = ⟨#[91]⟩ ++ ⟨#[]⟩ ++ ⟨#[93]⟩ := str_ext (by rw [hrr]; rfl)
          subst hae
          subst hre
          clear HRR HA' hA2 hal haz HN HTE h0 hrr
          go_wp2_with fail
          go_ret
          exact ⟨rfl, hbw⟩
        · have hrr := HRR.out
          rw [if_neg h0, ← hA2, ← HL0.out] at hrr
          have hre : r = ⟨#[91]⟩ ++ (a ++ l0) ++ ⟨#[93]⟩ := str_ext (by rw [hrr]; simp)
          have hae : a.toList.isEmpty = false := by
            cases hq : a.toList.isEmpty with
            | false => rfl
            | true =>
              have := List.isEmpty_iff.1 hq
              rw [ByteArray.toList_eq, hA2] at this
              exact absurd (HTE.out.1 this) h0
          subst hre
          have y2 : ¬ 9223372036854775807 < a.size + l0.size := by omega
          have y3 : ¬ 9223372036854775807 < 1 + (a.size + l0.size) := by omega
          have y4 : ¬ 9223372036854775807 < 1 + (a.size + l0.size) + 1 := by omega
          clear HRR HA' hA2 hal haz HN HTE h0 hrr
          go_wp2_with fail
          with_reducible refine (HLN0.out _).mono ?_
          rintro e w2 ⟨rfl, rfl⟩
          go_wp2_with fail
          go_ret
          exact ⟨rfl, hbw⟩
  · obtain rfl : kind = 8 := congrArg Own.kind h
    clear h hoa
    have hne : n % 2 = 0 := by omega
    have hTT : jsT quoteL p k (.nd ⟨8, b, neg, dg, ex, u, wd, s⟩ l) = 123 :: ((if n = 0 then [] else outR true p (k + 1) 0 l ++ lineL p k) ++ [125]) := by
      rw [jsT, if_neg (by simp), if_neg (by simp), if_neg (by simp), if_neg (by simp), if_neg (by simp), if_pos rfl, hn]
      rw [outR_map p (k + 1) (n / 2) l 0 (by omega) rfl]
      rfl
    have hTZ : (outR true p (k + 1) 0 l).length ≤ 3000000 := by
      by_cases h0 : n = 0
      · have : l = [] := List.length_eq_zero_iff.1 (by omega)
        rw [this, outR]
        exact Nat.zero_le _
      · rw [hTT, if_neg h0] at hbd
        simp only [List.length_cons, List.length_append] at hbd
        omega
    have hTE : (outR true p (k + 1) 0 l = []) ↔ n = 0 := by
      constructor
      · intro h
        cases l with
        | nil => rw [← hn]; rfl
        | cons t0 l0 =>
          rw [outR] at h
          obtain ⟨c9, r9, e9, _⟩ : BegJ (jsT quoteL p (k + 1) t0) := jsT_beg quoteL_beg p (k + 1) t0 (okJL_mem hokl t0 (by simp))
          have := congrArg List.length h
          unfold rowR at this
          rw [e9] at this
          simp at this
      · intro h
        have : l = [] := List.length_eq_zero_iff.1 (by omega)
        rw [this, outR]
    rw [hTT]
    have HTE := Lib.hid hTE
    have HYK : Hid (wrap64 ((k : Int) + 1) = (k : Int) + 1) := Lib.hid (by unfold wrap64; omega)
    have HTZ := Lib.hid hTZ
    have HL := Lib.hid hl
    have IH := Lib.hid ih
    have HC := Lib.hid hcl
    have HD := Lib.hid hdl
    have HOK := Lib.hid hokl
    have HA := Lib.hid hal
    have HN := Lib.hid hn
    have HW := Lib.hid hlwv
    have HLN1 := Lib.hid (rj_lines p (k + 1) (by omega))
    have HLN0 := Lib.hid (rj_lines p k (by omega))
    have e1 : ((k + 1 : Nat) : Int) = (k : Int) + 1 := Int.natCast_succ k
    rw [e1] at HLN1
    obtain ⟨ls, hls⟩ : ∃ ls : ByteArray, (⟨(lineL p (k + 1)).toArray⟩ : ByteArray) = ls := ⟨_, rfl⟩
    have hlsl : ls.data.toList = lineL p (k + 1) := by rw [← hls]
    have hlsz : ls.size ≤ 300 := by
      have := lineL_len p (k + 1)
      rw [← hlsl] at this
      simp at this
      omega
    obtain ⟨l0, hl0⟩ : ∃ ls : ByteArray, (⟨(lineL p k).toArray⟩ : ByteArray) = ls := ⟨_, rfl⟩
    have hl0l : l0.data.toList = lineL p k := by rw [← hl0]
    have hl0z : l0.size ≤ 300 := by
      have := lineL_len p k
      rw [← hl0l] at this
      simp at this
      omega
    rw [hls] at HLN1
    rw [hl0] at HLN0
    obtain ⟨r, hr⟩ : ∃ r : ByteArray, ⟨(123 :: ((if n = 0 then [] else outR true p (k + 1) 0 l ++ lineL p k) ++ [125])).toArray⟩ = r := ⟨_, rfl⟩
    rw [hr]
    have HRR := Lib.hid (show r.data.toList = 123 :: ((if n = 0 then [] else outR true p (k + 1) 0 l ++ lineL p k) ++ [125]) by rw [← hr])
    have HLS := Lib.hid hlsl
    have HL0 := Lib.hid hl0l
    clear hl ih hok ha hdp hc hTT hTZ hTE hbd hcl hdl hokl hal hn hls hl0 hlsl hl0l hr ho e1 hlwv
    have hbx := (Below.refl w.heap.size w).alloc (Nat.le_refl _) (.cells #[.int .i64 8, .bool b, .bool neg, .string dg, .int .i64 ex, .int .u64 u, .int .i64 wd, .string s, .slice A n c] 27)
    have hkx := Blk.new w #[.int .i64 8, .bool b, .bool neg, .string dg, .int .i64 ex, .int .u64 u, .int .i64 wd, .string s, .slice A n c] 27
    go_enter Tryz.func38, Tryz.ntmps38
    go_wp2_with fail
    go_loopw [11, 12] (fun z i wr => ∃ (j : Nat) (a : ByteArray), j ≤ n ∧ i = .int .i64 j ∧ z = .string a ∧ Hid (a.data.toList = outR true p (k + 1) 0 (l.take j)) ∧ Below w.heap.size w wr ∧ Blk wr w.heap.size #[.int .i64 8, .bool b, .bool neg, .string dg, .int .i64 ex, .int .u64 u, .int .i64 wd, .string s, .slice A n c] 27) (fun _ i _ => n - (intOf i).toNat)
    case atStart => exact ⟨0, ⟨#[]⟩, by omega, rfl, rfl, Lib.hid rfl, hbx, hkx⟩
    case round =>
      obtain ⟨j, a, hj, rfl, rfl, HA', hbw, hbk⟩ := hrel
      clear hbx hkx
      have haz : a.size ≤ 3000000 := by
        have e1 : a.data.toList.length = a.size := by simp
        have e2 := outR_len true p (k + 1) l 0 j
        rw [HA'.out] at e1
        have := HTZ.out
        omega
      have g0 := hbk.cell 0
      have g1 := hbk.cell 1
      have g2 := hbk.cell 2
      have g3 := hbk.cell 3
      have g4 := hbk.cell 4
      have g5 := hbk.cell 5
      have g6 := hbk.cell 6
      have g7 := hbk.cell 7
      have g8 := hbk.cell 8
      by_cases hlt : j < n
      · have hjl : j < l.length := by have := HN.out; omega
        obtain ⟨d', ad, x', hdd, rfl, hab, hoo, hna, hkk⟩ := (HL.out.below hbw hB).at_ hjl
        replace hna : NodeAt wr (ad.add (j * 9)) l[j].own x' := hna
        have hm := List.getElem_mem hjl
        have HC1 := IH.out d' (by omega) l[j] x' wr B (k + 1) hkk (Nat.le_trans hB hbw.size) hoo (okJL_mem HOK.out _ hm) (allL_memJ HA.out hm) (by have h1 := depthL_mem hm; have h2 := HD.out; omega) (Nat.le_trans (countL_mem hm) HC.out)
        have hbj := HW.out l[j] hm
        obtain ⟨bs, hbs⟩ : ∃ bs : ByteArray, (⟨(jsT quoteL p (k + 1) l[j]).toArray⟩ : ByteArray) = bs := ⟨_, rfl⟩
        have hbl : bs.data.toList = jsT quoteL p (k + 1) l[j] := by rw [← hbs]
        have hbz : bs.size ≤ 3000000 := by
          have e1 : bs.data.toList.length = bs.size := by simp
          rw [hbl] at e1
          omega
        rw [hbs, show ((k + 1 : Nat) : Int) = (k : Int) + 1 from Int.natCast_succ k] at HC1
        have hT := outR_take true p (k + 1) l j hjl
        unfold rowR at hT
        rw [← hbl, ← HLS.out, ← HA'.out] at hT
        obtain ⟨⟨kind', b', neg', dg', ex', u', wd', s'⟩, ho'⟩ : ∃ o, l[j].own = o := ⟨_, rfl⟩
        rw [ho'] at HC1 hna
        unfold nodeV at HC1
        obtain ⟨k0, k1, k2, k3, k4, k5, k6, k7, k8⟩ := hna
        simp only [] at k0 k1 k2 k3 k4 k5 k6 k7 k8 HC1
        have y1 : (j : Int) < n := by omega
        have y0 : (0 : Int) ≤ j := by omega
        have HC1 := Lib.hid HC1
        have HT := Lib.hid hT
        clear ho' hkk hoo hdd hbs hbl hm hbj hT hjl
        by_cases hj2 : j % 2 = 0
        · by_cases y4 : j = 0
          · cases p with
            | false =>
              have ys0 : ¬ 9223372036854775807 < a.size + ls.size := by omega
              have ys1 : ¬ 9223372036854775807 < a.size + ls.size + bs.size := by omega
              have ys2 : ¬ 9223372036854775807 < a.size + ls.size + bs.size + 1 := by omega
              have HT2 := Lib.hid (show (a ++ ls ++ bs ++ ⟨#[58]⟩).data.toList = outR true false (k + 1) 0 (l.take (j + 1)) by
                rw [HT.out]
                simp only [app_list]
                simp [keyR, gapL, y4, hj2])
              have y5 : ¬ (0 : Int) < j := by omega
              have y8 : ((j : Int) % 2 == 0) = true := by rw [beq_iff_eq]; omega
              have y7 : ((j : Int).tmod 2 == 0) = true := by rw [Int.tmod_eq_emod_of_nonneg y0]; exact y8
              clear HT haz hbz y4 hj2
              have yk := HYK.out
              go_wp2_with fail
              with_reducible refine (HLN1.out _).mono ?_
              rintro e w2 ⟨rfl, rfl⟩
              go_wp2_with fail
              with_reducible refine HC1.out.mono ?_
              rintro e w3 ⟨rfl, hb⟩
              have hb3 := hbw.trans (hb.mono hbw.size)
              have hbk2 := hbk.below hb hbk.lt
              clear yk hb HC1 hbk k0 k1 k2 k3 k4 k5 k6 k7 k8 g0 g1 g2 g3 g4 g5 g6 g7 g8
              go_wp2_with fail
              go_roundw
              case rel => exact ⟨j + 1, _, by omega, congrArg (Value.int .i64) (Int.natCast_succ j).symm, rfl, HT2, hb3, hbk2⟩
              case measure => simp [intOf]; omega
            | true =>
              have ys0 : ¬ 9223372036854775807 < a.size + ls.size := by omega
              have ys1 : ¬ 9223372036854775807 < a.size + ls.size + bs.size := by omega
              have ys2 : ¬ 9223372036854775807 < a.size + ls.size + bs.size + 1 := by omega
              have ys3 : ¬ 9223372036854775807 < a.size + ls.size + bs.size + 1 + 1 := by omega
              have HT2 := Lib.hid (show (a ++ ls ++ bs ++ ⟨#[58]⟩ ++ ⟨#[32]⟩).data.toList = outR true true (k + 1) 0 (l.take (j + 1)) by
                rw [HT.out]
                simp only [app_list]
                simp [keyR, gapL, y4, hj2])
              have y5 : ¬ (0 : Int) < j := by omega
              have y8 : ((j : Int) % 2 == 0) = true := by rw [beq_iff_eq]; omega
              have y7 : ((j : Int).tmod 2 == 0) = true := by rw [Int.tmod_eq_emod_of_nonneg y0]; exact y8
              clear HT haz hbz y4 hj2
              have yk := HYK.out
              go_wp2_with fail
              with_reducible refine (HLN1.out _).mono ?_
              rintro e w2 ⟨rfl, rfl⟩
              go_wp2_with fail
              with_reducible refine HC1.out.mono ?_
              rintro e w3 ⟨rfl, hb⟩
              have hb3 := hbw.trans (hb.mono hbw.size)
              have hbk2 := hbk.below hb hbk.lt
              clear yk hb HC1 hbk k0 k1 k2 k3 k4 k5 k6 k7 k8 g0 g1 g2 g3 g4 g5 g6 g7 g8
              go_wp2_with fail
              go_roundw
              case rel => exact ⟨j + 1, _, by omega, congrArg (Value.int .i64) (Int.natCast_succ j).symm, rfl, HT2, hb3, hbk2⟩
              case measure => simp [intOf]; omega
          · cases p with
            | false =>
              have ys0 : ¬ 9223372036854775807 < a.size + 1 := by omega
              have ys1 : ¬ 9223372036854775807 < a.size + 1 + ls.size := by omega
              have ys2 : ¬ 9223372036854775807 < a.size + 1 + ls.size + bs.size := by omega
              have ys3 : ¬ 9223372036854775807 < a.size + 1 + ls.size + bs.size + 1 := by omega
              have HT2 := Lib.hid (show (a ++ ⟨#[44]⟩ ++ ls ++ bs ++ ⟨#[58]⟩).data.toList = outR true false (k + 1) 0 (l.take (j + 1)) by
                rw [HT.out]
                simp only [app_list]
                simp [keyR, gapL, y4, hj2])
              have y5 : (0 : Int) < j := by omega
              have y8 : ((j : Int) % 2 == 0) = true := by rw [beq_iff_eq]; omega
              have y7 : ((j : Int).tmod 2 == 0) = true := by rw [Int.tmod_eq_emod_of_nonneg y0]; exact y8
              clear HT haz hbz y4 hj2
              have yk := HYK.out
              go_wp2_with fail
              with_reducible refine (HLN1.out _).mono ?_
              rintro e w2 ⟨rfl, rfl⟩
              go_wp2_with fail
              with_reducible refine HC1.out.mono ?_
              rintro e w3 ⟨rfl, hb⟩
              have hb3 := hbw.trans (hb.mono hbw.size)
              have hbk2 := hbk.below hb hbk.lt
              clear yk hb HC1 hbk k0 k1 k2 k3 k4 k5 k6 k7 k8 g0 g1 g2 g3 g4 g5 g6 g7 g8
              go_wp2_with fail
              go_roundw
              case rel => exact ⟨j + 1, _, by omega, congrArg (Value.int .i64) (Int.natCast_succ j).symm, rfl, HT2, hb3, hbk2⟩
              case measure => simp [intOf]; omega
            | true =>
              have ys0 : ¬ 9223372036854775807 < a.size + 1 := by omega
              have ys1 : ¬ 9223372036854775807 < a.size + 1 + ls.size := by omega
              have ys2 : ¬ 9223372036854775807 < a.size + 1 + ls.size + bs.size := by omega
              have ys3 : ¬ 9223372036854775807 < a.size + 1 + ls.size + bs.size + 1 := by omega
              have ys4 : ¬ 9223372036854775807 < a.size + 1 + ls.size + bs.size + 1 + 1 := by omega
              have HT2 := Lib.hid (show (a ++ ⟨#[44]⟩ ++ ls ++ bs ++ ⟨#[58]⟩ ++ ⟨#[32]⟩).data.toList = outR true true (k + 1) 0 (l.take (j + 1)) by
                rw [HT.out]
                simp only [app_list]
                simp [keyR, gapL, y4, hj2])
              have y5 : (0 : Int) < j := by omega
              have y8 : ((j : Int) % 2 == 0) = true := by rw [beq_iff_eq]; omega
              have y7 : ((j : Int).tmod 2 == 0) = true := by rw [Int.tmod_eq_emod_of_nonneg y0]; exact y8
              clear HT haz hbz y4 hj2
              have yk := HYK.out
              go_wp2_with fail
              with_reducible refine (HLN1.out _).mono ?_
              rintro e w2 ⟨rfl, rfl⟩
              go_wp2_with fail
              with_reducible refine HC1.out.mono ?_
              rintro e w3 ⟨rfl, hb⟩
              have hb3 := hbw.trans (hb.mono hbw.size)
              have hbk2 := hbk.below hb hbk.lt
              clear yk hb HC1 hbk k0 k1 k2 k3 k4 k5 k6 k7 k8 g0 g1 g2 g3 g4 g5 g6 g7 g8
              go_wp2_with fail
              go_roundw
              case rel => exact ⟨j + 1, _, by omega, congrArg (Value.int .i64) (Int.natCast_succ j).symm, rfl, HT2, hb3, hbk2⟩
              case measure => simp [intOf]; omega
        · have hj2 : j % 2 = 1 := by omega
          have y4 : ¬ j = 0 := by omega
          have ys0 : ¬ 9223372036854775807 < a.size + bs.size := by omega
          have HT2 := Lib.hid (show (a ++ bs).data.toList = outR true p (k + 1) 0 (l.take (j + 1)) by
            rw [HT.out]
            simp only [app_list]
            simp [keyR, gapL, hj2])
          have y5 : (0 : Int) < j := by omega
          have y8 : ((j : Int) % 2 == 0) = false := by rw [beq_eq_false_iff_ne]; omega
          have y7 : ((j : Int).tmod 2 == 0) = false := by rw [Int.tmod_eq_emod_of_nonneg y0]; exact y8
          clear HT haz hbz y4 hj2
          have yk := HYK.out
          go_wp2_with fail
          with_reducible refine HC1.out.mono ?_
          rintro e w3 ⟨rfl, hb⟩
          have hb3 := hbw.trans (hb.mono hbw.size)
          have hbk2 := hbk.below hb hbk.lt
          clear yk hb HC1 hbk k0 k1 k2 k3 k4 k5 k6 k7 k8 g0 g1 g2 g3 g4 g5 g6 g7 g8
          go_wp2_with fail
          go_roundw
          case rel => exact ⟨j + 1, _, by omega, congrArg (Value.int .i64) (Int.natCast_succ j).symm, rfl, HT2, hb3, hbk2⟩
          case measure => simp [intOf]; omega
      · obtain rfl : j = n := by omega
        have hal : l.take j = l := by rw [← HN.out, List.take_length]
        have hA2 := HA'.out
        rw [hal] at hA2
        have y1 : ¬ (j : Int) < j := by omega
        by_cases h0 : j = 0
        · have hae : a = ⟨#[]⟩ := str_ext (by rw [hA2, HTE.out.2 h0])
          have hrr := HRR.out
          rw [if_pos h0] at hrr
          have hre : r = ⟨#[123]⟩ ++ ⟨#[]⟩ ++ ⟨#[125]⟩ := str_ext (by rw [hrr]; rfl)
          subst hae
          subst hre
          clear HRR HA' hA2 hal haz HN HTE h0 hrr
          go_wp2_with fail
          go_ret
          exact ⟨rfl, hbw⟩
        · have hrr := HRR.out
          rw [if_neg h0, ← hA2, ← HL0.out] at hrr
          have hre : r = ⟨#[123]⟩ ++ (a ++ l0) ++ ⟨#[125]⟩ := str_ext (by rw [hrr]; simp)
          have hae : a.toList.isEmpty = false := by
            cases hq : a.toList.isEmpty with
            | false => rfl
            | true =>
              have := List.isEmpty_iff.1 hq
              rw [ByteArray.toList_eq, hA2] at this
              exact absurd (HTE.out.1 this) h0
          subst hre
          have y2 : ¬ 9223372036854775807 < a.size + l0.size := by omega
          have y3 : ¬ 9223372036854775807 < 1 + (a.size + l0.size) := by omega
          have y4 : ¬ 9223372036854775807 < 1 + (a.size + l0.size) + 1 := by omega
          clear HRR HA' hA2 hal haz HN HTE h0 hrr
          go_wp2_with fail
          with_reducible refine (HLN0.out _).mono ?_
          rintro e w2 ⟨rfl, rfl⟩
          go_wp2_with fail
          go_ret
          exact ⟨rfl, hbw⟩
end Go.Proofs.YtfckekaegjjmkaaGreatDoor
