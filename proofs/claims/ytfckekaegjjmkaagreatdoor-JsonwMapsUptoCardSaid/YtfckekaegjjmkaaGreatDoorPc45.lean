/- The texts JwMW, put together. -/
import Derived.Test.YtfckekaegjjmkaaGreatDoorPc43
import Derived.Test.YtfckekaegjjmkaaGreatDoorPc44
namespace Go.Proofs.YtfckekaegjjmkaaGreatDoor
open Go.RowKit Go.Shelf

set_option maxHeartbeats 8000000 in
set_option maxRecDepth 100000 in
theorem maps_walk {aT aF : Addr} (A : Option Addr) (n c : Nat) (ls : List ByteArray) (t0 : Tr) (vt : Value) (w : World) (h : SW w aT aF) (D : Nat) (hls : StrsAt w w.heap.size A n ls) (hnm : n ≤ 9223372036854775807) (hl : ListAt w w.heap.size D t0.kids vt) (ho : OwnOk t0.own) (hc : t0.count ≤ 1048576) :
    Calls Tryz.prog 5 #[.slice A n c, nodeV t0.own vt] w fun e w' => e = .returned (.bool true) ∧ Below w.heap.size w w' := by
  obtain ⟨i0, hi, hz0, hz1, hz2⟩ := info_parts infoNode
  have HI := Lib.hid hi
  have HZ0 := Lib.hid hz0
  have HZ1 := Lib.hid hz1
  have HZ2 := Lib.hid hz2
  clear hi hz0 hz1 hz2
  have H0 := Lib.hid (fun w h => j_shown (aT := aT) (aF := aF) w h)
  have HU := Lib.hid (fun (w' : World) (hw : Below w.heap.size w w') => h.below hw)
  have HF := Lib.hid (fun (w' : World) (hw : Below w.heap.size w w') => law_FewT t0 vt w' w.heap.size D (hl.below hw (Nat.le_refl _)) ho hw.size (by omega))
  have HST := Lib.hid hls
  have hto := few_okJ ho
  have htc := few_count t0
  obtain ⟨o0, ho0⟩ : ∃ o, t0.own = o := ⟨_, rfl⟩
  rw [ho0] at HF ⊢
  generalize fewT t0 = t at HF hto htc
  have hb2 : Below w.heap.size w (w.alloc (.cells (cellsV o0 vt) 27)) := (Below.refl _ _).alloc (Nat.le_refl _) _
  have hk1 := Blk.new w (cellsV o0 vt) 27
  obtain ⟨ot, hot⟩ : ∃ o, t.own = o := ⟨_, rfl⟩
  rw [hot] at HF
  have HK1 := Lib.hid hk1
  have HH := Lib.hid (h.below hb2)
  unfold nodeV cellsV at *
  clear hl ho hc h hk1 hls
  go_enter Tryz.func5, Tryz.ntmps5
  go_wp2_with fail
  refine (H0.out _ HH.out).mono ?_
  rintro e w1 ⟨rfl, hb1⟩
  have hb3 := hb2.trans (hb1.mono hb2.size)
  have hk1 := HK1.out.below hb1 HK1.out.lt
  have HK3 := Lib.hid hk1
  clear hb1 HK1 hk1 HH hb2
  go_wp2_with (refine wpList_load_row rfl 27 (.tmp 3) rfl (w.heap.size) rfl 27 _ (0, 0) _ HK3.out Tryz.underlying27 rfl (by kernel_rfl) ?_)
  refine (HF.out _ hb3).mono ?_
  rintro e w2 ⟨⟨y, rfl, hly⟩, hb⟩
  obtain ⟨_, A1, c1, rfl⟩ := hly.slice
  obtain ⟨n1, hn1⟩ : ∃ n1, t.kids.length = n1 := ⟨_, rfl⟩
  rw [hn1] at hly ⊢
  have hb4 := hb3.trans (hb.mono hb3.size)
  have hk1 := HK3.out.below hb HK3.out.lt
  have hz := hb3.size
  have hw1 := HK3.out.lt
  have hb5 := hb4.grown (grown_row w2 w.heap.size #[.int .i64 ot.kind, .bool ot.b, .bool ot.neg, .string ot.dg, .int .i64 ot.ex, .int .u64 ot.u, .int .i64 ot.wd, .string ot.s, .slice A1 n1 c1]) hb4.size (fun q e => by cases e; exact Nat.le_refl _)
  have hk3 := blk_row hk1 #[.int .i64 ot.kind, .bool ot.b, .bool ot.neg, .string ot.dg, .int .i64 ot.ex, .int .u64 ot.u, .int .i64 ot.wd, .string ot.s, .slice A1 n1 c1]
  have hly2 : LAt (w2.setRow w.heap.size #[.int .i64 ot.kind, .bool ot.b, .bool ot.neg, .string ot.dg, .int .i64 ot.ex, .int .u64 ot.u, .int .i64 ot.wd, .string ot.s, .slice A1 n1 c1]) (fun q => w.heap.size + 1 ≤ q ∧ q < (w2.setRow w.heap.size #[.int .i64 ot.kind, .bool ot.b, .bool ot.neg, .string ot.dg, .int .i64 ot.ex, .int .u64 ot.u, .int .i64 ot.wd, .string ot.s, .slice A1 n1 c1]).heap.size) 17 t.kids (.slice A1 n1 c1) := (hly.keep (fun q hq => setRow_other _ _ _ _ (by omega))).mono (fun q hq => ⟨by omega, by rw [setRow_size]; exact hq.2⟩)
  have HK1 := Lib.hid hk1
  have HK5 := Lib.hid hk3
  have HLT := Lib.hid hly2
  clear hb hb3 hb4 hk1 hk3 HK3 hly hly2 HF hz hw1
  go_wp2_with (first | (refine wpList_store_row rfl 27 (.tmp 3) (.tmp 20) rfl (w.heap.size) #[.int .i64 ot.kind, .bool ot.b, .bool ot.neg, .string ot.dg, .int .i64 ot.ex, .int .u64 ot.u, .int .i64 ot.wd, .string ot.s, .slice A1 n1 c1] rfl rfl 27 _ HK1.out (by kernel_rfl) rfl (by simp [Value.oneCell']) ?_) | (refine wpList_load_row rfl 27 (.tmp 3) rfl (w.heap.size) rfl 27 _ (0, 0) _ HK5.out Tryz.underlying27 rfl (by kernel_rfl) ?_))
  obtain ⟨w3, hw3⟩ : ∃ w3, w2.setRow w.heap.size #[.int .i64 ot.kind, .bool ot.b, .bool ot.neg, .string ot.dg, .int .i64 ot.ex, .int .u64 ot.u, .int .i64 ot.wd, .string ot.s, .slice A1 n1 c1] = w3 := ⟨_, rfl⟩
  rw [hw3] at HK5 HLT hb5 ⊢
  clear HK1 hw3
  have hlB : ListAt w3 w3.heap.size 17 t.kids (.slice A1 n1 c1) := HLT.out.mono (fun q hq => hq.2)
  have HLB := Lib.hid hlB
  have HWT := jw_Write t (.slice A1 n1 c1) w3 w3.heap.size 17 aT aF hlB hto (Nat.le_refl _) (by omega) (HU.out _ hb5)
  have HRC := Lib.hid (fun W (hW : Below w3.heap.size w3 W) => ref_Count 17 t (.slice A1 n1 c1) W w3.heap.size (HLB.out.below hW (Nat.le_refl _)) hW.size (by omega))
  have HRD := Lib.hid (fun W (hW : Below w3.heap.size w3 W) => ref_Depth 17 t (.slice A1 n1 c1) W w3.heap.size (HLB.out.below hW (Nat.le_refl _)) hW.size (by omega))
  rw [hot] at HWT HRC HRD
  obtain ⟨cn, hcn⟩ : ∃ cn, t.count = cn := ⟨_, rfl⟩
  obtain ⟨dn, hdn⟩ : ∃ dn, t.depth = dn := ⟨_, rfl⟩
  rw [hcn] at HRC
  rw [hdn] at HRD
  have hdc := depth_count t
  rw [hdn, hcn] at hdc
  rw [hcn] at htc
  have hwl := wrote_len t
  obtain ⟨ck, hck⟩ : ∃ ck, checkT 1 flJ t = ck := ⟨_, rfl⟩
  rw [hck] at HWT hwl
  obtain ⟨sx, hsx⟩ : ∃ s, wroteJ false t ck = s := ⟨_, rfl⟩
  rw [hsx] at HWT hwl
  have HSX := Lib.hid hsx
  have HCK := Lib.hid hck
  have HCN := Lib.hid hcn
  have HDN := Lib.hid hdn
  have HTO := Lib.hid hto
  have HOT := Lib.hid hot
  have HN1 := Lib.hid hn1
  have HWT := Lib.hid HWT
  unfold nodeV at HWT HRC HRD
  clear hlB hck hsx hto hcn hdn hot hn1
  refine HWT.out.mono ?_
  rintro e w4 ⟨rfl, hb6⟩
  have hk6 := HK5.out.below hb6 HK5.out.lt
  have HK6 := Lib.hid hk6
  have hb7 := hb5.trans (hb6.mono hb5.size)
  have HB6 := Lib.hid hb6
  clear hb6 hk6 HWT HK5
  by_cases hck : ck = 0
  case neg =>
    have y1 : (ck != 0) = true := by rw [bne_iff_ne]; exact hck
    clear hck HRC HRD HB6
    go_wp2_with fail
    go_ret
    exact ⟨rfl, hb7⟩
  subst hck
  have z0 := HK6.out.cell 0
  have z1 := HK6.out.cell 1
  have z2 := HK6.out.cell 2
  have z3 := HK6.out.cell 3
  have z4 := HK6.out.cell 4
  have z5 := HK6.out.cell 5
  have z6 := HK6.out.cell 6
  have z7 := HK6.out.cell 7
  have z8 := HK6.out.cell 8
  go_wp2_with fail
  refine (HRC.out _ HB6.out).mono ?_
  rintro e w5 ⟨rfl, hb8⟩
  clear HRC
  have hk7 := HK6.out.below hb8 HK6.out.lt
  have HK7 := Lib.hid hk7
  clear z0 z1 z2 z3 z4 z5 z6 z7 z8
  have hb9 := hb7.trans (hb8.mono hb7.size)
  have hb10 := HB6.out.trans (hb8.mono HB6.out.size)
  have HB7 := Lib.hid hb10
  clear hk7 hb8 hb10 HB6 HK6 hb7
  by_cases hcn : cn ≤ 20
  case neg =>
    have y1 : (20 : Int) < cn := by omega
    clear hcn HRD HB7
    go_wp2_with fail
    go_ret
    exact ⟨rfl, hb9⟩
  have y1 : ¬ (20 : Int) < cn := by omega
  have z0 := HK7.out.cell 0
  have z1 := HK7.out.cell 1
  have z2 := HK7.out.cell 2
  have z3 := HK7.out.cell 3
  have z4 := HK7.out.cell 4
  have z5 := HK7.out.cell 5
  have z6 := HK7.out.cell 6
  have z7 := HK7.out.cell 7
  have z8 := HK7.out.cell 8
  go_wp2_with fail
  refine (HRD.out _ HB7.out).mono ?_
  rintro e w6 ⟨rfl, hb8⟩
  clear HRD
  have hk8 := HK7.out.below hb8 HK7.out.lt
  have HK8 := Lib.hid hk8
  clear z0 z1 z2 z3 z4 z5 z6 z7 z8
  have hb11 := hb9.trans (hb8.mono hb9.size)
  have hb12 := HB7.out.trans (hb8.mono HB7.out.size)
  clear hk8 hb8 HB7 HK7 hb9 y1
  by_cases hdn : dn ≤ 15
  case neg =>
    have y1 : (15 : Int) < dn := by omega
    clear hdn
    go_wp2_with fail
    go_ret
    exact ⟨rfl, hb11⟩
  have y1 : ¬ (15 : Int) < dn := by omega
  have hlt6 : LAt w6 (fun q => w.heap.size + 1 ≤ q ∧ q < w3.heap.size) 17 t.kids (.slice A1 n1 c1) := HLT.out.keep (fun q hq => hb12.block q hq.2)
  have hz3 : w3.heap.size ≤ w6.heap.size := hb12.size
  have HLT6 := Lib.hid hlt6
  clear HLT hlt6 hb12 hb5 HLB
  go_wp2_with fail
  obtain ⟨b1, hb1e⟩ : ∃ b1, w6.heap.size = b1 := ⟨_, rfl⟩
  have hB1 : w.heap.size < b1 := by rw [← hb1e]; exact HK8.out.lt
  have hk0 := Blk.new w6 #[.int .i64 8, .bool false, .bool false, .string ⟨#[]⟩, .int .i64 0, .int .u64 0, .int .i64 0, .string ⟨#[]⟩, .slice none 0 0] 27
  have hbw0 := hb11.alloc hb11.size (.cells #[.int .i64 8, .bool false, .bool false, .string ⟨#[]⟩, .int .i64 0, .int .u64 0, .int .i64 0, .string ⟨#[]⟩, .slice none 0 0] 27)
  have hkt0 : Blk (w6.alloc (.cells #[.int .i64 8, .bool false, .bool false, .string ⟨#[]⟩, .int .i64 0, .int .u64 0, .int .i64 0, .string ⟨#[]⟩, .slice none 0 0] 27)) w.heap.size #[.int .i64 ot.kind, .bool ot.b, .bool ot.neg, .string ot.dg, .int .i64 ot.ex, .int .u64 ot.u, .int .i64 ot.wd, .string ot.s, .slice A1 n1 c1] 27 := HK8.out.below ((Below.refl w6.heap.size w6).alloc (Nat.le_refl _) _) HK8.out.lt
  have hlt0 : LAt (w6.alloc (.cells #[.int .i64 8, .bool false, .bool false, .string ⟨#[]⟩, .int .i64 0, .int .u64 0, .int .i64 0, .string ⟨#[]⟩, .slice none 0 0] 27)) (fun q => w.heap.size + 1 ≤ q ∧ q < b1) 17 t.kids (.slice A1 n1 c1) := (HLT6.out.keep (fun q hq => ((Below.refl w6.heap.size w6).alloc (Nat.le_refl _) _).block q (by omega))).mono (fun q hq => ⟨hq.1, by omega⟩)
  rw [hb1e] at hk0 ⊢
  clear HK8 HLT6 hb11 y1
  go_loopw [9, 10] (fun sw i wr => ∃ (k : Nat) (ks : List (List UInt8)) (xs : List Value) (v : Value) (want : ByteArray), k ≤ n ∧ k ≤ 10 ∧ i = .int .i64 k ∧ sw = .string want ∧ ks.length ≤ k ∧ Hid (KeysOk ks) ∧ Hid (want.data.toList = memJ t ks) ∧ want.size ≤ k * 2000000 ∧ wr.ownsRow w.heap.size 27 9 v (2 * ks.length) xs ∧ RowT wr (fun q => w.heap.size + 1 ≤ q ∧ q ≠ b1 ∧ q < wr.heap.size ∧ v.ownBlock ≠ some q) 17 (rowsK t ks) xs ∧ Below w.heap.size w wr ∧ Blk wr b1 #[.int .i64 8, .bool false, .bool false, .string ⟨#[]⟩, .int .i64 0, .int .u64 0, .int .i64 0, .string ⟨#[]⟩, v] 27 ∧ Blk wr w.heap.size #[.int .i64 ot.kind, .bool ot.b, .bool ot.neg, .string ot.dg, .int .i64 ot.ex, .int .u64 ot.u, .int .i64 ot.wd, .string ot.s, .slice A1 n1 c1] 27 ∧ LAt wr (fun q => w.heap.size + 1 ≤ q ∧ q < b1) 17 t.kids (.slice A1 n1 c1) ∧ v.ownBlock ≠ some b1 ∧ v.ownBlock ≠ some w.heap.size ∧ (∀ q, w.heap.size + 1 ≤ q → q < b1 → v.ownBlock ≠ some q)) (fun _ i _ => n - (intOf i).toNat)
  case atStart => exact ⟨0, [], [], .slice none 0 0, ⟨#[]⟩, by omega, by omega, rfl, rfl, by simp, Lib.hid KeysOk.nil, Lib.hid rfl, by decide, World.ownsRow_nil _ _ _ _, rfl, hbw0, hk0, hkt0, hlt0, by simp [Value.ownBlock], by simp [Value.ownBlock], by simp [Value.ownBlock]⟩
  case round =>
    obtain ⟨k, ks, xs, v, want, hk, hk10, rfl, rfl, hksl, HKS, HW, hwz, hown, hrow, hbw, hbo, hbt, hlt, hv1, hv2, hv3⟩ := hrel
    rename World => wq
    clear hbw0 hk0 hkt0 hlt0
    obtain ⟨A', c', rfl⟩ := own_sliceT hown
    have hzw := hbw.size
    have HOWN := Lib.hid hown
    have HROW := Lib.hid hrow
    have HBO := Lib.hid hbo
    have HBT := Lib.hid hbt
    have HLT := Lib.hid hlt
    have HV3 := Lib.hid hv3
    clear hown hrow hbt hlt hv3
    by_cases hgo : k < n ∧ k < 10
    · obtain ⟨hlt, hlt6⟩ := hgo
      have hkl : k < ls.length := by rw [← HST.out.len]; exact hlt
      obtain ⟨ad, rfl, hab, hcell, hsz⟩ := (HST.out.below hbw (Nat.le_refl _)).at_ k hkl
      obtain ⟨sl, hsl⟩ : ∃ s, ls[k] = s := ⟨_, rfl⟩
      rw [hsl] at hcell hsz
      have y1 : (k : Int) < n := by omega
      have y2 : (k : Int) < 10 := by omega
      have hmn : 0 ≤ min (sl.size : Int) 20 ∧ min (sl.size : Int) 20 ≤ (sl.size : Int) := by omega
      have hcell2 : (wq.alloc (.cells #[.int .i64 0, .bool false, .bool false, .string ⟨#[]⟩, .int .i64 0, .int .u64 0, .int .i64 0, .string ⟨#[]⟩, .slice none 0 0] 27)).cell? (ad.add k) = some (.string sl) := by
        rw [((Below.refl wq.heap.size wq).alloc (Nat.le_refl _) _).cell (by rw [add_block]; omega)]
        exact hcell
      obtain ⟨sk, hsk⟩ : ∃ s, sl.extract 0 (min (sl.size : Int) 20).toNat = s := ⟨_, rfl⟩
      clear hsl hkl HST
      go_wp2_with fail
      go_region
      obtain ⟨wd, hwd⟩ : ∃ wd, (wq.alloc (.cells #[.int .i64 5, .bool false, .bool false, .string ⟨#[]⟩, .int .i64 0, .int .u64 0, .int .i64 0, .string sk, .slice none 0 0] 27)).drew = wd := ⟨_, rfl⟩
      have hbd : Below wq.heap.size wq wd := by
        rw [← hwd]
        exact ((Below.refl wq.heap.size wq).alloc (Nat.le_refl _) _).drew
      have hkK : Blk wd wq.heap.size #[.int .i64 5, .bool false, .bool false, .string ⟨#[]⟩, .int .i64 0, .int .u64 0, .int .i64 0, .string sk, .slice none 0 0] 27 := by
        rw [← hwd]
        exact Blk.new wq _ _
      rw [hwd]
      have hskz : sk.size ≤ 20 := by
        rw [← hsk, ByteArray.size_extract]
        omega
      have hok : OwnOk { zeroO with kind := 5, s := sk } := ⟨by show (⟨#[]⟩ : ByteArray).size ≤ _; decide, by show sk.size ≤ _; omega, by show (-9223372036854775808 : Int) ≤ 5 ∧ (5 : Int) < 9223372036854775808; decide, by show (-9223372036854775808 : Int) ≤ 0 ∧ (0 : Int) < 9223372036854775808; decide, by show (0 : Int) ≤ 0 ∧ (0 : Int) < 18446744073709551616; decide, by show (-9223372036854775808 : Int) ≤ 0 ∧ (0 : Int) < 9223372036854775808; decide⟩ -- { zeroO with kind := 5, s := sk } (by decide) (by decide) (by decide) (by decide) rfl rfl
      have HK := jw_Write (.nd { zeroO with kind := 5, s := sk } []) (.slice none 0 0) wd wd.heap.size 1 aT aF (LAt.nil _ _ _ _ _) hok (Nat.le_refl _) (by rw [Tr.count, countL]; decide) (HU.out _ (hbw.trans (hbd.mono hzw)))
      have hwq := wrote_len (.nd { zeroO with kind := 5, s := sk } [])
      have hkey := key_ok sk
      have hkd := key_doc sk
      obtain ⟨kc, hkc⟩ : ∃ kc, checkT 1 flJ (.nd { zeroO with kind := 5, s := sk } []) = kc := ⟨_, rfl⟩
      rw [hkc] at HK hwq hkey
      obtain ⟨cq, hcq⟩ : ∃ cq, wroteJ false (.nd { zeroO with kind := 5, s := sk } []) kc = cq := ⟨_, rfl⟩
      rw [hcq] at HK hwq
      have hkd2 : kc = 0 → cq.data.toList = quoteL sk.data.toList := fun e => by
        rw [← hcq, e]
        exact hkd
      have HKEY := Lib.hid hkey
      have HKD := Lib.hid hkd2
      have HOK := Lib.hid hok
      have HK := Lib.hid HK
      unfold nodeV at HK
      clear hwd hsk hkey hkd hkd2 hcq hkc hok hmn hcell hcell2 hsz hab
      have z0 := hkK.cell 0
      have z1 := hkK.cell 1
      have z2 := hkK.cell 2
      have z3 := hkK.cell 3
      have z4 := hkK.cell 4
      have z5 := hkK.cell 5
      have z6 := hkK.cell 6
      have z7 := hkK.cell 7
      have z8 := hkK.cell 8
      go_wp2_with fail
      refine HK.out.mono ?_
      rintro e w8 ⟨rfl, hbe⟩
      clear z0 z1 z2 z3 z4 z5 z6 z7 z8 HK
      have hbk : Below wq.heap.size wq w8 := hbd.trans (hbe.mono hbd.size)
      have hzk := hbk.size
      have hkK8 := hkK.below hbe hkK.lt
      have hbo8 := HBO.out.below hbk HBO.out.lt
      have hbt8 := HBT.out.below hbk HBT.out.lt
      have hb18 := HBO.out.lt
      have hlt8 : LAt w8 (fun q => w.heap.size + 1 ≤ q ∧ q < b1) 17 t.kids (.slice A1 n1 c1) := HLT.out.keep (fun q hq => hbk.block q (by omega))
      have hown8 : w8.ownsRow w.heap.size 27 9 (.slice A' (2 * ks.length) c') (2 * ks.length) xs := HOWN.out.kept (below_none hbk) (by cases A' with | none => exact .inl rfl | some a => exact .inr (by simp [Value.ownBlock]))
      have hqb : ∀ q, (Value.slice A' (2 * ks.length) c').ownBlock = some q → w.heap.size ≤ q ∧ q < wq.heap.size := fun q e => ⟨(HOWN.out.lt q e).1, (HOWN.out.lt q e).2⟩
      have hrow8 : RowT w8 (fun q => w.heap.size + 1 ≤ q ∧ q ≠ b1 ∧ q < w8.heap.size ∧ (Value.slice A' (2 * ks.length) c').ownBlock ≠ some q) 17 (rowsK t ks) xs := (HROW.out.keep (fun q hq => hbk.block q hq.2.2.1)).mono (fun q hq => ⟨hq.1, hq.2.1, by omega, hq.2.2.2⟩)
      have hbw8 := hbw.trans (hbk.mono hzw)
      have hls : ListAt w8 w8.heap.size 18 (rowsK t ks) (.slice A' (2 * ks.length) c') := hrow8.list hown8 (rowsK_len t ks).symm (by omega) (fun q hq => hq.2.2.1) (fun a e => by
        subst e
        exact Nat.lt_of_lt_of_le (hqb a.block rfl).2 hzk)
      obtain ⟨gn, hgn⟩ : ∃ gn, 2 * ks.length = gn := ⟨_, rfl⟩
      rw [hgn] at hls hbo8 hown8 hrow8 hqb
      have HLS := Lib.hid hls
      have HB8 := Lib.hid hbo8
      have HT8 := Lib.hid hbt8
      have HL8 := Lib.hid hlt8
      have HO8 := Lib.hid hown8
      have HR8 := Lib.hid hrow8
      have HK8 := Lib.hid hkK8
      have HQB := Lib.hid hqb
      have HBK := Lib.hid hbk
      have HGN := Lib.hid hgn
      have hgz : gn ≤ 40 := by omega
      have hv3 := HV3.out
      rw [hgn] at hv1 hv2 hv3
      have HV1 := Lib.hid hv1
      have HV2 := Lib.hid hv2
      have HV3 := Lib.hid hv3
      have HB0 := Lib.hid hbw8
      clear hbd hkK hbe hbk hzk hkK8 hbo8 hbt8 hlt8 hown8 hqb hrow8 hls hgn hbw hzw HBO HBT HLT HOWN HROW hv1 hv2 hv3 hbw8
      go_wp2_with fail
      go_loopw [14, 15] (fun bs j wr => Hid (Below w8.heap.size w8 wr) ∧ ∃ (m x : Nat) (b : Bool), m ≤ ks.length ∧ Hid (x = 2 * m) ∧ x ≤ gn ∧ j = .int .i64 x ∧ bs = .bool b ∧ Hid (b = true ↔ ¬ kc = 0 ∨ sk.data.toList ∈ ks.take m)) (fun _ j _ => gn - (intOf j).toNat)
      case atStart => exact ⟨Lib.hid (Below.refl _ _), 0, 0, kc != 0, by omega, Lib.hid rfl, by omega, rfl, rfl, Lib.hid (by simp)⟩
      case round =>
        obtain ⟨HBI, m, x, b, hm, HX, hxg, rfl, rfl, HB⟩ := hrel
        have zo8 := (HB8.out.below HBI.out HB8.out.lt).cell 8
        by_cases hxl : x < gn
        · have hxe := HX.out
          have hge := HGN.out
          have hmk : m < ks.length := by omega
          have hrk := rowsK_key t ks m hmk
          obtain ⟨hx2, hrk'⟩ := List.getElem?_eq_some_iff.1 hrk
          obtain ⟨d', a', y', hdd, hA, _, hokk, hna, _⟩ := (HLS.out.below HBI.out (Nat.le_refl _)).at_ hx2
          rw [hrk'] at hna
          have hc7 := hna.c7
          rw [← hxe] at hc7
          subst hA
          have hsr : (strT 5 ks[m]).own.s = ⟨ks[m].toArray⟩ := rfl
          rw [hsr] at hc7
          have hk7 := (HK8.out.below HBI.out HK8.out.lt).cell 7
          have hmem : ∀ b', (b' = true ↔ b = true ∨ sk.data.toList = ks[m]) → (b' = true ↔ ¬ kc = 0 ∨ sk.data.toList ∈ ks.take (m + 1)) := fun b' h => by
            rw [h, HB.out, List.take_succ_eq_append_getElem hmk, List.mem_append, List.mem_singleton, or_assoc]
          obtain ⟨km, hkm⟩ : ∃ km : ByteArray, (⟨ks[m].toArray⟩ : ByteArray) = km := ⟨_, rfl⟩
          have hkl : km.data.toList = ks[m] := by rw [← hkm]
          rw [hkm] at hc7
          rw [← hkl] at hmem
          have HMEM := Lib.hid hmem
          have y5 : (x : Int) < gn := by omega
          have y6 : IntKind.i64.wrap ((x : Int) + 2) = ((x + 2 : Nat) : Int) := by rw [IntKind.wrap_i64]; omega
          have HMK := Lib.hid hmk
          clear hxe hge hrk hrk' hdd hokk hna hsr hmem hkm hkl hmk HB
          cases b with
          | true =>
            go_wp2_with fail
            go_quiet (fail)
            go_wp2_with fail
            go_roundw
            case rel => exact ⟨Lib.hid (HBI.out.trans ⟨rfl, rfl, rfl, Nat.le_refl _, fun _ _ => rfl⟩), m + 1, x + 2, true, HMK.out, Lib.hid (by rw [HX.out]; omega), by have := HX.out; have := HGN.out; have := HMK.out; omega, by first | rfl | (rw [y6]), rfl, Lib.hid (HMEM.out true (by simp))⟩
            case measure => simp [intOf]; omega
          | false =>
            go_wp2_with fail
            go_quiet (fail)
            go_wp2_with fail
            go_roundw
            case rel => exact ⟨Lib.hid (HBI.out.trans ⟨rfl, rfl, rfl, Nat.le_refl _, fun _ _ => rfl⟩), m + 1, x + 2, _, HMK.out, Lib.hid (by rw [HX.out]; omega), by have := HX.out; have := HGN.out; have := HMK.out; omega, by first | rfl | (rw [y6]), rfl, Lib.hid (HMEM.out _ (by rw [beq_iff_eq, ByteArray.toList_eq, ByteArray.toList_eq]; simp [eq_comm]))⟩
            case measure => simp [intOf]; omega
        · have hxe := HX.out
          have hge := HGN.out
          have hmk : m = ks.length := by omega
          have y5 : ¬ (x : Int) < gn := by omega
          have hbb : b = true ↔ ¬ kc = 0 ∨ sk.data.toList ∈ ks := by
            rw [HB.out, hmk, List.take_length]
          have hBI := HBI.out
          have hz9 := hBI.size
          have hbk9 : Below wq.heap.size wq wr := HBK.out.trans (hBI.mono HBK.out.size)
          have hb19 := HB8.out.below hBI HB8.out.lt
          have hbt9 := HT8.out.below hBI HT8.out.lt
          have hkK9 := HK8.out.below hBI HK8.out.lt
          have hlt9 : LAt wr (fun q => w.heap.size + 1 ≤ q ∧ q < b1) 17 t.kids (.slice A1 n1 c1) := HL8.out.keep (fun q hq => hBI.block q (by have := HB8.out.lt; omega))
          have hown9 : wr.ownsRow w.heap.size 27 9 (.slice A' gn c') gn xs := HO8.out.kept (below_none hBI) (by cases A' with | none => exact .inl rfl | some a => exact .inr (by simp [Value.ownBlock]))
          have hrow9 : RowT wr (fun q => w.heap.size + 1 ≤ q ∧ q ≠ b1 ∧ q < wr.heap.size ∧ (Value.slice A' gn c').ownBlock ≠ some q) 17 (rowsK t ks) xs := (HR8.out.keep (fun q hq => hBI.block q hq.2.2.1)).mono (fun q hq => ⟨hq.1, hq.2.1, by omega, hq.2.2.2⟩)
          have hbw9 := HB0.out.trans (hBI.mono HB0.out.size)
          have hlw := HB8.out.lt
          clear hxe HX HB HBI HB8 HT8 HK8 HL8 HO8 HR8 HB0 HLS hmk hBI
          cases b with
          | true =>
            clear hbb
            go_wp2_with fail
            go_roundw
            case rel =>
              refine ⟨k + 1, ks, xs, _, want, by omega, by omega, congrArg (Value.int .i64) (Int.natCast_succ k).symm, rfl, by omega, HKS, HW, Nat.le_trans hwz (Nat.mul_le_mul_right _ (Nat.le_succ k)), ?_, hrow9, hbw9, hb19, hbt9, hlt9, HV1.out, HV2.out, HV3.out⟩
              rw [hge]
              exact hown9
            case measure => simp [intOf]; omega
          | false =>
            have hk0 : kc = 0 := Classical.byContradiction fun h => by have := hbb.2 (.inl h); cases this
            have hns : ¬ sk.data.toList ∈ ks := fun h => by have := hbb.2 (.inr h); cases this
            subst hk0
            have hkv := HKEY.out.1 rfl
            have hks2 := HKS.out.snoc hkv.1 hkv.2 hns
            have hql := HKD.out rfl
            have hsl : sx.data.toList = jsT quoteL false 0 t := by
              rw [← HSX.out, wroteJ, if_pos rfl]
            obtain ⟨w3', hw3'⟩ : ∃ w, wr = w := ⟨_, rfl⟩
            rw [hw3'] at hb19 hbt9 hkK9 hlt9 hown9 hrow9 hbw9 hz9 hbk9 ⊢
            have HB1 := Lib.hid hb19
            have HBT := Lib.hid hbt9
            have HLT := Lib.hid hlt9
            have HR3 := Lib.hid hrow9
            have HBW := Lib.hid hbw9
            have HKS2 := Lib.hid hks2
            have hown3 := hown9
            have c3 : gn + 2 ≤ maxLen := by unfold maxLen; omega
            have zo8 := hb19.cell 8
            have zk0 := hkK9.cell 0
            have zk1 := hkK9.cell 1
            have zk2 := hkK9.cell 2
            have zk3 := hkK9.cell 3
            have zk4 := hkK9.cell 4
            have zk5 := hkK9.cell 5
            have zk6 := hkK9.cell 6
            have zk7 := hkK9.cell 7
            have zk8 := hkK9.cell 8
            have zt0 := hbt9.cell 0
            have zt1 := hbt9.cell 1
            have zt2 := hbt9.cell 2
            have zt3 := hbt9.cell 3
            have zt4 := hbt9.cell 4
            have zt5 := hbt9.cell 5
            have zt6 := hbt9.cell 6
            have zt7 := hbt9.cell 7
            have zt8 := hbt9.cell 8
            clear hbb hns hkv hks2 HKEY HKD hb19 hbt9 hkK9 hlt9 hrow9 hbw9 hown9 hw3' hbk9
            by_cases he : ks = []
            · skip
              obtain ⟨want2, hw2⟩ : ∃ s, want ++ cq ++ ⟨#[58]⟩ ++ sx = s := ⟨_, rfl⟩
              have hw2l : want2.data.toList = memJ t (ks ++ [sk.data.toList]) := by
                rw [memJ_snoc, if_pos he, ← HW.out, ← hsl, ← hql, ← hw2]
                simp
              have hw2z : want2.size ≤ (k + 1) * 2000000 := by
                rw [← hw2]
                simp only [ByteArray.size_append]
                have e1 : (⟨#[44]⟩ : ByteArray).size = 1 := rfl
                have e2 : (⟨#[58]⟩ : ByteArray).size = 1 := rfl
                omega
              have hwe : want = ⟨#[]⟩ := by
                apply ByteArray.ext
                apply Array.toList_inj.1
                rw [HW.out, he]
                rfl
              have HWE := Lib.hid hwe
              have yw : want.toList.isEmpty = true := by rw [hwe, ByteArray.toList_eq]; rfl
              have ys1 : ¬ 9223372036854775807 < want.size + cq.size := by omega
              have ys2 : ¬ 9223372036854775807 < want.size + cq.size + 1 := by omega
              have ys3 : ¬ 9223372036854775807 < want.size + cq.size + 1 + sx.size := by omega
              have HW2 := Lib.hid hw2
              have HW2L := Lib.hid hw2l
              have HW2Z := Lib.hid hw2z
              clear hw2 hw2l hw2z hwe he hql hsl
              go_wp2_with (at_builtin; refine wpList_append_lies _ rfl _ _ 25 rfl w.heap.size 27 i0 (.agg #[.int .i64 0, .bool false, .bool false, .string ⟨#[]⟩, .int .i64 0, .int .u64 0, .int .i64 0, .string ⟨#[]⟩, .slice none 0 0]) 9 104 Tryz.underlying25 HI.out HZ0.out HZ1.out HZ2.out rfl (by decide) _ _ _ rfl (hown3.alloc _) ⟨w3'.heap.size, 0, none⟩ 2 2 [.int .i64 5, .bool false, .bool false, .string ⟨#[]⟩, .int .i64 0, .int .u64 0, .int .i64 0, .string sk, .slice none 0 0, .int .i64 ot.kind, .bool ot.b, .bool ot.neg, .string ot.dg, .int .i64 ot.ex, .int .u64 ot.u, .int .i64 ot.wd, .string ot.s, .slice A1 n1 c1] rfl rfl (cells_newT _ [.int .i64 5, .bool false, .bool false, .string ⟨#[]⟩, .int .i64 0, .int .u64 0, .int .i64 0, .string sk, .slice none 0 0, .int .i64 ot.kind, .bool ot.b, .bool ot.neg, .string ot.dg, .int .i64 ot.ex, .int .u64 ot.u, .int .i64 ot.wd, .string ot.s, .slice A1 n1 c1] _) (by intro u hu; simp at hu; rcases hu with rfl | rfl | rfl | rfl | rfl | rfl | rfl | rfl | rfl | rfl | rfl | rfl | rfl | rfl | rfl | rfl | rfl | rfl <;> rfl) (by decide) (by omega) (by omega) (by simp; omega) (w3'.heap.size + 1) (by simp) ?_; intro g cap w4' hown4 hgrow hat hg4; have hblk4 : Blk w4' b1 #[.int .i64 8, .bool false, .bool false, .string ⟨#[]⟩, .int .i64 0, .int .u64 0, .int .i64 0, .string ⟨#[]⟩, (.slice A' gn c')] 27 := blk_keep HB1.out (by rw [hgrow.block b1 (by simp; omega) (fun e => HV1.out e.symm)]; exact ((Below.refl w3'.heap.size w3').alloc (Nat.le_refl _) _).block b1 (by omega)); have f8 := hblk4.frozen 8; have z8 := hblk4.cell 8)
              have hg0 : (Value.slice A' gn c').ownBlock = some g → w.heap.size ≤ g ∧ g < wq.heap.size := fun e => HQB.out g e
              have hsz4 : w3'.heap.size + 1 ≤ w4'.heap.size := by
                have := hgrow.size
                simpa using this
              have hkeep : ∀ q, q < w3'.heap.size → (Value.slice A' gn c').ownBlock ≠ some q → w4'.heap[q]? = w3'.heap[q]? := fun q hq hne => by
                rw [hgrow.block q (by simp; omega) (fun e => hne e.symm)]
                exact ((Below.refl w3'.heap.size w3').alloc (Nat.le_refl _) _).block q hq
              have hgl : g = w3'.heap.size + 1 ∨ (Value.slice A' gn c').ownBlock = some g := hat.symm
              have hgb : g ≠ b1 := fun e => by
                rcases hgl with h | h
                · omega
                · rw [e] at h
                  exact HV1.out h
              have hgw : g ≠ w.heap.size := fun e => by
                rcases hgl with h | h
                · omega
                · rw [e] at h
                  exact HV2.out h
              have hgk : ∀ q, w.heap.size + 1 ≤ q → q < b1 → g ≠ q := fun q h1 h2 e => by
                rcases hgl with h | h
                · omega
                · rw [e] at h
                  exact HV3.out q h1 h2 h
              have hlt4 : LAt w4' (fun q => w.heap.size + 1 ≤ q ∧ q < b1) 17 t.kids (.slice A1 n1 c1) := HLT.out.keep (fun q hq => hkeep q (by omega) (HV3.out q hq.1 hq.2))
              have hbt4 : Blk w4' w.heap.size #[.int .i64 ot.kind, .bool ot.b, .bool ot.neg, .string ot.dg, .int .i64 ot.ex, .int .u64 ot.u, .int .i64 ot.wd, .string ot.s, .slice A1 n1 c1] 27 := blk_keep HBT.out (hkeep _ (by omega) HV2.out)
              have hse : strT 5 sk.data.toList = .nd { zeroO with kind := 5, s := sk } [] := rfl
              have hrow4 : RowT w4' (fun q => w.heap.size + 1 ≤ q ∧ q ≠ b1 ∧ q < w4'.heap.size ∧ (Value.slice (some ⟨g, 0, none⟩) (gn + 2) cap).ownBlock ≠ some q) 17 (rowsK t (ks ++ [sk.data.toList])) (xs ++ [.int .i64 5, .bool false, .bool false, .string ⟨#[]⟩, .int .i64 0, .int .u64 0, .int .i64 0, .string sk, .slice none 0 0, .int .i64 ot.kind, .bool ot.b, .bool ot.neg, .string ot.dg, .int .i64 ot.ex, .int .u64 ot.u, .int .i64 ot.wd, .string ot.s, .slice A1 n1 c1]) := by
                rw [rowsK_snoc, hse]
                refine RowT.append ?_ ((HR3.out.keep (fun q hq => hkeep q hq.2.2.1 hq.2.2.2)).mono (fun q hq => ⟨hq.1, hq.2.1, by omega, fun e => ?_⟩))
                · have h2 := RowT.one (t := t) (y := .slice A1 n1 c1) HTO.out (hlt4.mono (S' := fun q => w.heap.size + 1 ≤ q ∧ q ≠ b1 ∧ q < w4'.heap.size ∧ (Value.slice (some ⟨g, 0, none⟩) (gn + 2) cap).ownBlock ≠ some q) (fun q hq => ⟨hq.1, by omega, by omega, fun e => hgk q hq.1 hq.2 (by simpa [Value.ownBlock] using e)⟩))
                  have h1 : RowT w4' (fun q => w.heap.size + 1 ≤ q ∧ q ≠ b1 ∧ q < w4'.heap.size ∧ (Value.slice (some ⟨g, 0, none⟩) (gn + 2) cap).ownBlock ≠ some q) 17 [.nd { zeroO with kind := 5, s := sk } []] (nodeCells { zeroO with kind := 5, s := sk } (.slice none 0 0)) := RowT.one (t := .nd { zeroO with kind := 5, s := sk } []) HOK.out (LAt.nil _ _ _ _ _)
                  have h3 := RowT.append h2 h1
                  rw [HOT.out] at h3
                  exact h3
                · have e' : g = q := by simpa [Value.ownBlock] using e
                  subst e'
                  rcases hgl with h | h
                  · omega
                  · exact hq.2.2.2 h
              have hbw4 : Below w.heap.size w w4' := (HBW.out.alloc HBW.out.size _).grown hgrow (by simp; omega) (fun q e => (HQB.out q e).1)
              have hs5 : Blk (w4'.setCell ⟨b1, 8, none⟩ (.slice (some ⟨g, 0, none⟩) (gn + 2) cap)) b1 #[.int .i64 8, .bool false, .bool false, .string ⟨#[]⟩, .int .i64 0, .int .u64 0, .int .i64 0, .string ⟨#[]⟩, (.slice (some ⟨g, 0, none⟩) (gn + 2) cap)] 27 := hblk4.set 8 _
              have hown5 := ownsRow_setCell_other hown4 (a := ⟨b1, 8, none⟩) (by simpa [Value.ownBlock] using hgb) (.slice (some ⟨g, 0, none⟩) (gn + 2) cap)
              have hrow5 := hrow4.keep (W' := w4'.setCell ⟨b1, 8, none⟩ (.slice (some ⟨g, 0, none⟩) (gn + 2) cap)) (fun q hq => Below.heap_setCell w4' ⟨b1, 8, none⟩ _ q hq.2.1)
              have hlt5 := hlt4.keep (W' := w4'.setCell ⟨b1, 8, none⟩ (.slice (some ⟨g, 0, none⟩) (gn + 2) cap)) (fun q hq => Below.heap_setCell w4' ⟨b1, 8, none⟩ _ q (by show q ≠ b1; omega))
              have hbt5 := blk_keep hbt4 (W' := w4'.setCell ⟨b1, 8, none⟩ (.slice (some ⟨g, 0, none⟩) (gn + 2) cap)) (Below.heap_setCell w4' ⟨b1, 8, none⟩ _ _ (by show w.heap.size ≠ b1; omega))
              have hbw5 := hbw4.setCell (p := ⟨b1, 8, none⟩) (Nat.le_of_lt hB1) (.slice (some ⟨g, 0, none⟩) (gn + 2) cap)
              have hsz5 : (w4'.setCell ⟨b1, 8, none⟩ (.slice (some ⟨g, 0, none⟩) (gn + 2) cap)).heap.size = w4'.heap.size := by simp [World.setCell]
              have hln : 2 * (ks ++ [sk.data.toList]).length = gn + 2 := by
                rw [List.length_append, ← HGN.out, Nat.mul_add]
                rfl
              have hks1 : (ks ++ [sk.data.toList]).length ≤ k + 1 := by
                have := HGN.out
                omega
              have HR5 := Lib.hid hrow5
              have HO5 := Lib.hid hown5
              have HK5 := Lib.hid hs5
              have HB5 := Lib.hid hbw5
              have HL5 := Lib.hid hlt5
              have HT5 := Lib.hid hbt5
              have HGB := Lib.hid hgb
              have HGW := Lib.hid hgw
              have HGK := Lib.hid hgk
              have HLN := Lib.hid hln
              clear hgrow hat hgl hg0 hkeep hrow4 hown4 hown3 HR3 hbw4 hblk4 hrow5 hown5 hs5 hbw5 hlt4 hlt5 hbt4 hbt5 hgb hgw hgk hse hln
              rw [HW2.out]
              go_roundw
              case rel =>
                refine ⟨k + 1, ks ++ [sk.data.toList], _, _, want2, by omega, by omega, congrArg (Value.int .i64) (Int.natCast_succ k).symm, rfl, hks1, HKS2, HW2L, HW2Z.out, by rw [HLN.out]; exact HO5.out, by rw [hsz5]; exact HR5.out, HB5.out, HK5.out, HT5.out, HL5.out, ?_, ?_, ?_⟩
                · simpa [Value.ownBlock] using HGB.out
                · simpa [Value.ownBlock] using HGW.out
                · intro q h1 h2
                  simpa [Value.ownBlock] using HGK.out q h1 h2
              case measure => simp [intOf]; omega
            · skip
              obtain ⟨want2, hw2⟩ : ∃ s, want ++ ⟨#[44]⟩ ++ cq ++ ⟨#[58]⟩ ++ sx = s := ⟨_, rfl⟩
              have hw2l : want2.data.toList = memJ t (ks ++ [sk.data.toList]) := by
                rw [memJ_snoc, if_neg he, ← HW.out, ← hsl, ← hql, ← hw2]
                simp
              have hw2z : want2.size ≤ (k + 1) * 2000000 := by
                rw [← hw2]
                simp only [ByteArray.size_append]
                have e1 : (⟨#[44]⟩ : ByteArray).size = 1 := rfl
                have e2 : (⟨#[58]⟩ : ByteArray).size = 1 := rfl
                omega
              have hwe : ¬ want = ⟨#[]⟩ := fun e => by
                have := HW.out
                rw [e] at this
                exact he ((memJ_nil t ks).1 this.symm)
              have yw : want.toList.isEmpty = false := by
                cases hq : want.toList.isEmpty with
                | false => rfl
                | true =>
                  have := List.isEmpty_iff.1 hq
                  rw [ByteArray.toList_eq, HW.out] at this
                  exact absurd ((memJ_nil t ks).1 this) he
              have ys0 : ¬ 9223372036854775807 < want.size + 1 := by omega
              have ys1 : ¬ 9223372036854775807 < want.size + 1 + cq.size := by omega
              have ys2 : ¬ 9223372036854775807 < want.size + 1 + cq.size + 1 := by omega
              have ys3 : ¬ 9223372036854775807 < want.size + 1 + cq.size + 1 + sx.size := by omega
              have HW2 := Lib.hid hw2
              have HW2L := Lib.hid hw2l
              have HW2Z := Lib.hid hw2z
              clear hw2 hw2l hw2z hwe he hql hsl
              go_wp2_with (at_builtin; refine wpList_append_lies _ rfl _ _ 25 rfl w.heap.size 27 i0 (.agg #[.int .i64 0, .bool false, .bool false, .string ⟨#[]⟩, .int .i64 0, .int .u64 0, .int .i64 0, .string ⟨#[]⟩, .slice none 0 0]) 9 104 Tryz.underlying25 HI.out HZ0.out HZ1.out HZ2.out rfl (by decide) _ _ _ rfl (hown3.alloc _) ⟨w3'.heap.size, 0, none⟩ 2 2 [.int .i64 5, .bool false, .bool false, .string ⟨#[]⟩, .int .i64 0, .int .u64 0, .int .i64 0, .string sk, .slice none 0 0, .int .i64 ot.kind, .bool ot.b, .bool ot.neg, .string ot.dg, .int .i64 ot.ex, .int .u64 ot.u, .int .i64 ot.wd, .string ot.s, .slice A1 n1 c1] rfl rfl (cells_newT _ [.int .i64 5, .bool false, .bool false, .string ⟨#[]⟩, .int .i64 0, .int .u64 0, .int .i64 0, .string sk, .slice none 0 0, .int .i64 ot.kind, .bool ot.b, .bool ot.neg, .string ot.dg, .int .i64 ot.ex, .int .u64 ot.u, .int .i64 ot.wd, .string ot.s, .slice A1 n1 c1] _) (by intro u hu; simp at hu; rcases hu with rfl | rfl | rfl | rfl | rfl | rfl | rfl | rfl | rfl | rfl | rfl | rfl | rfl | rfl | rfl | rfl | rfl | rfl <;> rfl) (by decide) (by omega) (by omega) (by simp; omega) (w3'.heap.size + 1) (by simp) ?_; intro g cap w4' hown4 hgrow hat hg4; have hblk4 : Blk w4' b1 #[.int .i64 8, .bool false, .bool false, .string ⟨#[]⟩, .int .i64 0, .int .u64 0, .int .i64 0, .string ⟨#[]⟩, (.slice A' gn c')] 27 := blk_keep HB1.out (by rw [hgrow.block b1 (by simp; omega) (fun e => HV1.out e.symm)]; exact ((Below.refl w3'.heap.size w3').alloc (Nat.le_refl _) _).block b1 (by omega)); have f8 := hblk4.frozen 8; have z8 := hblk4.cell 8)
              have hg0 : (Value.slice A' gn c').ownBlock = some g → w.heap.size ≤ g ∧ g < wq.heap.size := fun e => HQB.out g e
              have hsz4 : w3'.heap.size + 1 ≤ w4'.heap.size := by
                have := hgrow.size
                simpa using this
              have hkeep : ∀ q, q < w3'.heap.size → (Value.slice A' gn c').ownBlock ≠ some q → w4'.heap[q]? = w3'.heap[q]? := fun q hq hne => by
                rw [hgrow.block q (by simp; omega) (fun e => hne e.symm)]
                exact ((Below.refl w3'.heap.size w3').alloc (Nat.le_refl _) _).block q hq
              have hgl : g = w3'.heap.size + 1 ∨ (Value.slice A' gn c').ownBlock = some g := hat.symm
              have hgb : g ≠ b1 := fun e => by
                rcases hgl with h | h
                · omega
                · rw [e] at h
                  exact HV1.out h
              have hgw : g ≠ w.heap.size := fun e => by
                rcases hgl with h | h
                · omega
                · rw [e] at h
                  exact HV2.out h
              have hgk : ∀ q, w.heap.size + 1 ≤ q → q < b1 → g ≠ q := fun q h1 h2 e => by
                rcases hgl with h | h
                · omega
                · rw [e] at h
                  exact HV3.out q h1 h2 h
              have hlt4 : LAt w4' (fun q => w.heap.size + 1 ≤ q ∧ q < b1) 17 t.kids (.slice A1 n1 c1) := HLT.out.keep (fun q hq => hkeep q (by omega) (HV3.out q hq.1 hq.2))
              have hbt4 : Blk w4' w.heap.size #[.int .i64 ot.kind, .bool ot.b, .bool ot.neg, .string ot.dg, .int .i64 ot.ex, .int .u64 ot.u, .int .i64 ot.wd, .string ot.s, .slice A1 n1 c1] 27 := blk_keep HBT.out (hkeep _ (by omega) HV2.out)
              have hse : strT 5 sk.data.toList = .nd { zeroO with kind := 5, s := sk } [] := rfl
              have hrow4 : RowT w4' (fun q => w.heap.size + 1 ≤ q ∧ q ≠ b1 ∧ q < w4'.heap.size ∧ (Value.slice (some ⟨g, 0, none⟩) (gn + 2) cap).ownBlock ≠ some q) 17 (rowsK t (ks ++ [sk.data.toList])) (xs ++ [.int .i64 5, .bool false, .bool false, .string ⟨#[]⟩, .int .i64 0, .int .u64 0, .int .i64 0, .string sk, .slice none 0 0, .int .i64 ot.kind, .bool ot.b, .bool ot.neg, .string ot.dg, .int .i64 ot.ex, .int .u64 ot.u, .int .i64 ot.wd, .string ot.s, .slice A1 n1 c1]) := by
                rw [rowsK_snoc, hse]
                refine RowT.append ?_ ((HR3.out.keep (fun q hq => hkeep q hq.2.2.1 hq.2.2.2)).mono (fun q hq => ⟨hq.1, hq.2.1, by omega, fun e => ?_⟩))
                · have h2 := RowT.one (t := t) (y := .slice A1 n1 c1) HTO.out (hlt4.mono (S' := fun q => w.heap.size + 1 ≤ q ∧ q ≠ b1 ∧ q < w4'.heap.size ∧ (Value.slice (some ⟨g, 0, none⟩) (gn + 2) cap).ownBlock ≠ some q) (fun q hq => ⟨hq.1, by omega, by omega, fun e => hgk q hq.1 hq.2 (by simpa [Value.ownBlock] using e)⟩))
                  have h1 : RowT w4' (fun q => w.heap.size + 1 ≤ q ∧ q ≠ b1 ∧ q < w4'.heap.size ∧ (Value.slice (some ⟨g, 0, none⟩) (gn + 2) cap).ownBlock ≠ some q) 17 [.nd { zeroO with kind := 5, s := sk } []] (nodeCells { zeroO with kind := 5, s := sk } (.slice none 0 0)) := RowT.one (t := .nd { zeroO with kind := 5, s := sk } []) HOK.out (LAt.nil _ _ _ _ _)
                  have h3 := RowT.append h2 h1
                  rw [HOT.out] at h3
                  exact h3
                · have e' : g = q := by simpa [Value.ownBlock] using e
                  subst e'
                  rcases hgl with h | h
                  · omega
                  · exact hq.2.2.2 h
              have hbw4 : Below w.heap.size w w4' := (HBW.out.alloc HBW.out.size _).grown hgrow (by simp; omega) (fun q e => (HQB.out q e).1)
              have hs5 : Blk (w4'.setCell ⟨b1, 8, none⟩ (.slice (some ⟨g, 0, none⟩) (gn + 2) cap)) b1 #[.int .i64 8, .bool false, .bool false, .string ⟨#[]⟩, .int .i64 0, .int .u64 0, .int .i64 0, .string ⟨#[]⟩, (.slice (some ⟨g, 0, none⟩) (gn + 2) cap)] 27 := hblk4.set 8 _
              have hown5 := ownsRow_setCell_other hown4 (a := ⟨b1, 8, none⟩) (by simpa [Value.ownBlock] using hgb) (.slice (some ⟨g, 0, none⟩) (gn + 2) cap)
              have hrow5 := hrow4.keep (W' := w4'.setCell ⟨b1, 8, none⟩ (.slice (some ⟨g, 0, none⟩) (gn + 2) cap)) (fun q hq => Below.heap_setCell w4' ⟨b1, 8, none⟩ _ q hq.2.1)
              have hlt5 := hlt4.keep (W' := w4'.setCell ⟨b1, 8, none⟩ (.slice (some ⟨g, 0, none⟩) (gn + 2) cap)) (fun q hq => Below.heap_setCell w4' ⟨b1, 8, none⟩ _ q (by show q ≠ b1; omega))
              have hbt5 := blk_keep hbt4 (W' := w4'.setCell ⟨b1, 8, none⟩ (.slice (some ⟨g, 0, none⟩) (gn + 2) cap)) (Below.heap_setCell w4' ⟨b1, 8, none⟩ _ _ (by show w.heap.size ≠ b1; omega))
              have hbw5 := hbw4.setCell (p := ⟨b1, 8, none⟩) (Nat.le_of_lt hB1) (.slice (some ⟨g, 0, none⟩) (gn + 2) cap)
              have hsz5 : (w4'.setCell ⟨b1, 8, none⟩ (.slice (some ⟨g, 0, none⟩) (gn + 2) cap)).heap.size = w4'.heap.size := by simp [World.setCell]
              have hln : 2 * (ks ++ [sk.data.toList]).length = gn + 2 := by
                rw [List.length_append, ← HGN.out, Nat.mul_add]
                rfl
              have hks1 : (ks ++ [sk.data.toList]).length ≤ k + 1 := by
                have := HGN.out
                omega
              have HR5 := Lib.hid hrow5
              have HO5 := Lib.hid hown5
              have HK5 := Lib.hid hs5
              have HB5 := Lib.hid hbw5
              have HL5 := Lib.hid hlt5
              have HT5 := Lib.hid hbt5
              have HGB := Lib.hid hgb
              have HGW := Lib.hid hgw
              have HGK := Lib.hid hgk
              have HLN := Lib.hid hln
              clear hgrow hat hgl hg0 hkeep hrow4 hown4 hown3 HR3 hbw4 hblk4 hrow5 hown5 hs5 hbw5 hlt4 hlt5 hbt4 hbt5 hgb hgw hgk hse hln
              rw [HW2.out]
              go_roundw
              case rel =>
                refine ⟨k + 1, ks ++ [sk.data.toList], _, _, want2, by omega, by omega, congrArg (Value.int .i64) (Int.natCast_succ k).symm, rfl, hks1, HKS2, HW2L, HW2Z.out, by rw [HLN.out]; exact HO5.out, by rw [hsz5]; exact HR5.out, HB5.out, HK5.out, HT5.out, HL5.out, ?_, ?_, ?_⟩
                · simpa [Value.ownBlock] using HGB.out
                · simpa [Value.ownBlock] using HGW.out
                · intro q h1 h2
                  simpa [Value.ownBlock] using HGK.out q h1 h2
              case measure => simp [intOf]; omega
    · have hown := HOWN.out
      have hrow := HROW.out
      have hls : ListAt wq wq.heap.size 18 (rowsK t ks) (.slice A' (2 * ks.length) c') := hrow.list hown (rowsK_len t ks).symm (by omega) (fun q hq => hq.2.2.1) (fun a e => by
        subst e
        exact (hown.lt a.block rfl).2)
      have ho8 : OwnOk (outM (rowsK t ks)).own := okOJ { zeroO with kind := 8 } (by decide) (by decide) (by decide) (by decide) rfl rfl
      have hks : ks.length ≤ 10 := by omega
      have hck := map_ok HCK.out (by rw [HCN.out]; exact hcn) (by rw [HDN.out]; exact hdn) hks HKS.out
      have hcm : (outM (rowsK t ks)).count ≤ 1000000000 := Nat.le_trans (checkJ_ok hck).1 (by decide)
      have HK := jw_Write (outM (rowsK t ks)) (.slice A' (2 * ks.length) c') wq wq.heap.size 18 aT aF hls ho8 (Nat.le_refl _) hcm (HU.out _ hbw)
      rw [hck] at HK
      have hdoc : wroteJ false (outM (rowsK t ks)) 0 = ⟨#[123]⟩ ++ want ++ ⟨#[125]⟩ := by
        rw [wroteJ, if_pos rfl]
        apply ByteArray.ext
        apply Array.toList_inj.1
        rw [app_list, app_list, HW.out]
        show (jsT quoteL false 0 (outM (rowsK t ks))) = _
        rw [map_doc]
        rfl
      rw [hdoc] at HK
      have yz1 : ¬ 9223372036854775807 < 1 + want.size := by omega
      have yz2 : ¬ 9223372036854775807 < 1 + want.size + 1 := by omega
      have HK := Lib.hid HK
      unfold nodeV at HK
      simp only [Tr.own] at HK
      have z0 := hbo.cell 0
      have z1 := hbo.cell 1
      have z2 := hbo.cell 2
      have z3 := hbo.cell 3
      have z4 := hbo.cell 4
      have z5 := hbo.cell 5
      have z6 := hbo.cell 6
      have z7 := hbo.cell 7
      have z8 := hbo.cell 8
      clear hls ho8 hck hcm hdoc hown hrow HOWN HROW hbo HBO HBT HLT HKS HW HST
      have y1 : ((k : Int) < n ∧ ¬ (k : Int) < 10) ∨ ¬ (k : Int) < n := by omega
      rcases y1 with ⟨y2, y3⟩ | y2
      all_goals (
        clear hgo
        go_wp2_with fail
        refine HK.out.mono ?_
        rintro e w5 ⟨rfl, hb5⟩
        have hbw5 := hbw.trans (hb5.mono hbw.size)
        clear z0 z1 z2 z3 z4 z5 z6 z7 z8 HK hb5
        go_wp2_with fail
        go_ret
        exact ⟨rfl, hbw5⟩)
end Go.Proofs.YtfckekaegjjmkaaGreatDoor
