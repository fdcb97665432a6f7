/- The texts CbZW, put together. -/
import Derived.Test.YtffaefdnlgfdbaaGreatDoorPk43
import Derived.Test.YtffaefdnlgfdbaaGreatDoorPk44
/- The walk of the law CborwSizes. Printed by gen_cbzw.py. -/
namespace Go.Proofs.YtffaefdnlgfdbaaGreatDoor
open Go.RowKit Go.Shelf

theorem countL_mem : ∀ {l : List Tr} {t : Tr}, t ∈ l → t.count ≤ countL l
  | [], _, h => absurd h (by simp)
  | s :: l, t, h => by
    rw [countL]
    rcases List.mem_cons.1 h with rfl | h
    · omega
    · have := countL_mem h
      omega
theorem goodL_count (l : List Tr) : countL (goodL l) ≤ 400 * l.length := by
  unfold goodL
  induction l with
  | nil => simp [countL]
  | cons t l ih =>
    have := few_count t
    rw [List.map_cons, List.filter_cons]
    split
    · rw [countL, List.length_cons]
      omega
    · rw [List.length_cons]
      omega

set_option maxHeartbeats 8000000 in
set_option maxRecDepth 100000 in
theorem sizes_walk {aT aF : Addr} (l : List Tr) (A : Option Addr) (n c : Nat) (w : World) (h : GW w aT aF) (D : Nat) (hl : ListAt w w.heap.size D l (.slice A n c)) (hn : l.length = n) (hc : countL l ≤ 1048576) :
    Calls Tryz.prog 4 #[.slice A n c] w fun e w' => e = .returned (.bool true) ∧ Below w.heap.size w w' := by
  obtain ⟨i0, hi, hz0, hz1, hz2⟩ := info_parts infoNode
  have HI := Lib.hid hi
  have HZ0 := Lib.hid hz0
  have HZ1 := Lib.hid hz1
  have HZ2 := Lib.hid hz2
  clear hi hz0 hz1 hz2
  have hnn := hl.slice.1
  rw [hn] at hnn
  have HU := Lib.hid (fun (w' : World) (hw : Below w.heap.size w w') => h.below hw)
  have H0 := Lib.hid (cb_shown (aT := aT) (aF := aF) w h)
  have HL := Lib.hid hl
  have HN := Lib.hid hn
  have HC := Lib.hid hc
  clear hl hn hc h
  go_enter Tryz.func4, Tryz.ntmps4
  go_wp2_with fail
  refine H0.out.mono ?_
  rintro e w1 ⟨rfl, hb1⟩
  clear H0
  go_wp2_with fail
  obtain ⟨b1, hb1e⟩ : ∃ b1, w1.heap.size = b1 := ⟨_, rfl⟩
  have hB1 : w.heap.size ≤ b1 := by rw [← hb1e]; exact hb1.size
  have hk0 := Blk.new w1 #[.int .i64 7, .bool false, .bool false, .string ⟨#[]⟩, .int .i64 0, .int .u64 0, .int .i64 0, .string ⟨#[]⟩, .slice none 0 0] 27
  have hbw0 := hb1.alloc hb1.size (.cells #[.int .i64 7, .bool false, .bool false, .string ⟨#[]⟩, .int .i64 0, .int .u64 0, .int .i64 0, .string ⟨#[]⟩, .slice none 0 0] 27)
  rw [hb1e] at hk0 ⊢
  go_loopw [5, 6] (fun s i wr => ∃ (k : Nat) (xs : List Value) (v : Value), k ≤ n ∧ k ≤ 6 ∧ i = .int .i64 k ∧ s = .int .i64 ((1 + (cbL (goodL (l.take k))).length : Nat) : Int) ∧ (cbL (goodL (l.take k))).length ≤ k * 200000 ∧ wr.ownsRow w.heap.size 27 9 v (goodL (l.take k)).length xs ∧ RowT wr (fun q => b1 + 1 ≤ q ∧ q < wr.heap.size ∧ v.ownBlock ≠ some q) 17 (goodL (l.take k)) xs ∧ Below w.heap.size w wr ∧ Blk wr b1 #[.int .i64 7, .bool false, .bool false, .string ⟨#[]⟩, .int .i64 0, .int .u64 0, .int .i64 0, .string ⟨#[]⟩, v] 27 ∧ v.ownBlock ≠ some b1) (fun _ i _ => n - (intOf i).toNat)
  case atStart => exact ⟨0, [], .slice none 0 0, by omega, by omega, rfl, rfl, Nat.zero_le _, World.ownsRow_nil _ _ _ _, rfl, hbw0, hk0, by simp [Value.ownBlock]⟩
  case round =>
    obtain ⟨k, xs, v, hk, hk6, rfl, rfl, hsb, hown, hrow, hbw, hbo, hvb⟩ := hrel
    clear hbw0 hk0 hb1
    obtain ⟨A', c', rfl⟩ := own_sliceT hown
    obtain ⟨sm, hsm⟩ : ∃ sm, (cbL (goodL (l.take k))).length = sm := ⟨_, rfl⟩
    obtain ⟨gn, hgn⟩ : ∃ gn, (goodL (l.take k)).length = gn := ⟨_, rfl⟩
    have hgk : gn ≤ k := by
      rw [← hgn]
      refine Nat.le_trans (goodL_len _) ?_
      rw [List.length_take]
      omega
    rw [hgn] at hown hbo hvb hrow
    rw [hsm] at hsb
    have hzw := hbw.size
    by_cases hgo : k < n ∧ k < 6
    · obtain ⟨hlt, hlt6⟩ := hgo
      have hkl : k < l.length := by rw [HN.out]; exact hlt
      obtain ⟨d', ad, y, hdd, rfl, hab, hok, hna, hkk⟩ := (HL.out.below hbw (Nat.le_refl _)).at_ hkl
      have htk := goodL_take l k hkl
      have hck : l[k].count ≤ 1048576 := Nat.le_trans (countL_mem (List.getElem_mem hkl)) HC.out
      have HF := law_FewT l[k] y wr w.heap.size d' hkk hok hbw.size (by omega)
      have hfo := few_okC hok
      have hfc := few_count l[k]
      obtain ⟨t, ht⟩ : ∃ t, fewT l[k] = t := ⟨_, rfl⟩
      rw [ht] at HF hfo hfc htk
      obtain ⟨o1, ho1⟩ : ∃ o, l[k].own = o := ⟨_, rfl⟩
      rw [ho1] at hna HF
      obtain ⟨kind2, b2, neg2, dg2, ex2, u2, wd2, s2⟩ := o1
      unfold nodeV at HF
      obtain ⟨k0, k1, k2, k3, k4, k5, k6, k7, k8⟩ := hna
      simp only [] at k0 k1 k2 k3 k4 k5 k6 k7 k8 HF
      have HF := Lib.hid HF
      have HT := Lib.hid htk
      have HSM := Lib.hid hsm
      have HGN := Lib.hid hgn
      have HROW := Lib.hid hrow
      have HOWN := Lib.hid hown
      have y1 : (k : Int) < n := by omega
      have y2 : (k : Int) < 6 := by omega
      rw [hsm]
      clear htk hkk hok hdd ho1 hrow hown ht hck hsm hgn
      go_wp2_with fail
      refine HF.out.mono ?_
      rintro e w2 ⟨⟨y', rfl, hly⟩, hbb⟩
      obtain ⟨_, A1, c1, rfl⟩ := hly.slice
      obtain ⟨n1, hn1⟩ : ∃ n1, t.kids.length = n1 := ⟨_, rfl⟩
      rw [hn1] at hly ⊢
      clear HF k0 k1 k2 k3 k4 k5 k6 k7 k8
      have HK := Lib.hid (cb_Size t (.slice A1 n1 c1) (w2.alloc (.cells (cellsV t.own (.slice A1 n1 c1)) 27)) w2.heap.size 17 aT aF)
      unfold cellsV at HK
      obtain ⟨⟨kind3, b3, neg3, dg3, ex3, u3, wd3, s3⟩, ho3⟩ : ∃ o, t.own = o := ⟨_, rfl⟩
      rw [ho3] at HK hfo ⊢
      unfold nodeV at HK
      simp only [] at HK ⊢
      have hb1A := hbb.alloc hbb.size (.cells #[.int .i64 kind3, .bool b3, .bool neg3, .string dg3, .int .i64 ex3, .int .u64 u3, .int .i64 wd3, .string s3, .slice A1 n1 c1] 27)
      have hkN := Blk.new w2 #[.int .i64 kind3, .bool b3, .bool neg3, .string dg3, .int .i64 ex3, .int .u64 u3, .int .i64 wd3, .string s3, .slice A1 n1 c1] 27
      have hbwA := hbw.trans (hb1A.mono hzw)
      have hlyA : ListAt (w2.alloc (.cells #[.int .i64 kind3, .bool b3, .bool neg3, .string dg3, .int .i64 ex3, .int .u64 u3, .int .i64 wd3, .string s3, .slice A1 n1 c1] 27)) w2.heap.size 17 t.kids (.slice A1 n1 c1) := (hly.mono (fun q hq => hq.2)).below ((Below.refl _ w2).alloc (Nat.le_refl _) _) (Nat.le_refl _)
      have HK := HK.out hlyA hfo (by simp) (by omega) (HU.out _ hbwA)
      have hbd : checkT 2 flC t = 0 → (wroteC t (checkT 2 flC t)).size = (cbT t).length ∧ (cbT t).length ≤ 200000 := fun h0 => by
        have h1 := cbT_bound t (check_okC hlyA (by rw [ho3]; exact hfo) h0)
        rw [h0, wroteC, if_pos rfl]
        exact ⟨cb_size _, by omega⟩
      obtain ⟨ck, hck⟩ : ∃ ck, checkT 2 flC t = ck := ⟨_, rfl⟩
      rw [hck] at HK hbd
      replace HT := HT.out
      rw [hck] at HT
      obtain ⟨ct, hct⟩ : ∃ ct, (wroteC t ck).size = ct := ⟨_, rfl⟩
      rw [hct] at HK hbd
      replace HT := Lib.hid HT
      replace HK := Lib.hid HK
      have HO3 := Lib.hid ho3
      have HBD := Lib.hid hbd
      have HLY := Lib.hid hly
      have HFO := Lib.hid hfo
      have zk0 := hkN.cell 0
      have zk1 := hkN.cell 1
      have zk2 := hkN.cell 2
      have zk3 := hkN.cell 3
      have zk4 := hkN.cell 4
      have zk5 := hkN.cell 5
      have zk6 := hkN.cell 6
      have zk7 := hkN.cell 7
      have zk8 := hkN.cell 8
      clear hck hct ho3 hlyA hbd hly hn1 hfo
      go_wp2_with fail
      refine HK.out.mono ?_
      rintro e w3 ⟨rfl, hbc⟩
      clear zk0 zk1 zk2 zk3 zk4 zk5 zk6 zk7 zk8 HK
      have hz3 : wr.heap.size ≤ w2.heap.size := hbb.size
      have hz4 : w2.heap.size + 1 ≤ w3.heap.size := by
        have := hbc.size
        simpa using this
      have hb13 : Below wr.heap.size wr w3 := hb1A.trans (hbc.mono hb1A.size)
      have hbw3 := hbw.trans (hb13.mono hzw)
      have hkN3 : Blk w3 w2.heap.size #[.int .i64 kind3, .bool b3, .bool neg3, .string dg3, .int .i64 ex3, .int .u64 u3, .int .i64 wd3, .string s3, .slice A1 n1 c1] 27 := hkN.below hbc hkN.lt
      have hbo3 := hbo.below hb13 hbo.lt
      have hlt1 := hbo.lt
      have hq : ∀ q, (Value.slice A' gn c').ownBlock = some q → w.heap.size ≤ q ∧ q < wr.heap.size := fun q e => ⟨(HOWN.out.lt q e).1, (HOWN.out.lt q e).2⟩
      have hown3 : w3.ownsRow w.heap.size 27 9 (.slice A' gn c') gn xs := HOWN.out.kept (below_none hb13) (by cases A' with | none => exact .inl rfl | some a => exact .inr (by simp [Value.ownBlock]))
      have hrow3 : RowT w3 (fun q => b1 + 1 ≤ q ∧ q < w3.heap.size ∧ (Value.slice A' gn c').ownBlock ≠ some q) 17 (goodL (l.take k)) xs := (HROW.out.keep (fun q hq => hb13.block q hq.2.1)).mono (fun q hq => ⟨hq.1, by omega, hq.2.2⟩)
      have hly3 : LAt w3 (fun q => wr.heap.size ≤ q ∧ q < w2.heap.size) 17 t.kids (.slice A1 n1 c1) := HLY.out.keep (fun q hq => (((Below.refl w2.heap.size w2).alloc (Nat.le_refl _) (.cells #[.int .i64 kind3, .bool b3, .bool neg3, .string dg3, .int .i64 ex3, .int .u64 u3, .int .i64 wd3, .string s3, .slice A1 n1 c1] 27)).trans (hbc.mono (by simp))).block q hq.2)
      clear hb1A hkN hbwA hbb hbc hbo HOWN HROW HLY
      by_cases h0 : ck = 0
      · subst h0
        obtain ⟨rfl, hct2⟩ := HBD.out rfl
        replace HT := HT.out
        rw [if_pos rfl] at HT
        have hsm1 : (1 + (cbL (goodL (l.take k))).length) + (cbT t).length = 1 + (cbL (goodL (l.take (k + 1)))).length := by
          rw [HT, cbL_append, List.length_append]
          show _ = 1 + (_ + (cbT t ++ []).length)
          rw [List.append_nil]
          omega
        have hgn1 : (goodL (l.take (k + 1))).length = gn + 1 := by
          rw [HT, List.length_append, HGN.out]
          rfl
        rw [HSM.out] at hsm1
        obtain ⟨ct, hct⟩ : ∃ ct, (cbT t).length = ct := ⟨_, rfl⟩
        rw [hct] at hct2 hsm1 ⊢
        have y6 : sm ≤ 1200000 := by omega
        have y5 : ((1 + sm : Nat) : Int) + (ct : Int) ≤ 2000000 := by omega
        have zk0 := hkN3.cell 0
        have zk1 := hkN3.cell 1
        have zk2 := hkN3.cell 2
        have zk3 := hkN3.cell 3
        have zk4 := hkN3.cell 4
        have zk5 := hkN3.cell 5
        have zk6 := hkN3.cell 6
        have zk7 := hkN3.cell 7
        have zk8 := hkN3.cell 8
        have zo8 := hbo3.cell 8
        replace HT := Lib.hid HT
        have HQ := Lib.hid hq
        have HB1 := Lib.hid hbo3
        have HR3 := Lib.hid hrow3
        have HLY := Lib.hid hly3
        have HSM1 := Lib.hid hsm1
        have HSB := Lib.hid (show (cbL (goodL (l.take (k + 1)))).length ≤ (k + 1) * 200000 by omega)
        have HGN1 := Lib.hid hgn1
        have c3 : gn + 1 ≤ maxLen := by unfold maxLen; omega
        clear HBD hct hct2 hkN3 hbo3 hq hrow3 hly3 hsm1 hgn1
        go_wp2_with (at_builtin; refine wpList_append_lies _ rfl _ _ 25 rfl w.heap.size 27 i0 (.agg #[.int .i64 0, .bool false, .bool false, .string ⟨#[]⟩, .int .i64 0, .int .u64 0, .int .i64 0, .string ⟨#[]⟩, .slice none 0 0]) 9 104 Tryz.underlying25 HI.out HZ0.out HZ1.out HZ2.out rfl (by decide) _ _ _ rfl (hown3.alloc _) ⟨w3.heap.size, 0, none⟩ 1 1 [.int .i64 kind3, .bool b3, .bool neg3, .string dg3, .int .i64 ex3, .int .u64 u3, .int .i64 wd3, .string s3, .slice A1 n1 c1] rfl rfl (cells_newT _ [.int .i64 kind3, .bool b3, .bool neg3, .string dg3, .int .i64 ex3, .int .u64 u3, .int .i64 wd3, .string s3, .slice A1 n1 c1] _) (by intro u hu; simp at hu; rcases hu with rfl | rfl | rfl | rfl | rfl | rfl | rfl | rfl | rfl <;> rfl) (by decide) (by omega) (by omega) (by simp; omega) (w3.heap.size + 1) (by simp) ?_; intro g cap w4 hown4 hgrow hat hg4; have hblk4 : Blk w4 b1 #[.int .i64 7, .bool false, .bool false, .string ⟨#[]⟩, .int .i64 0, .int .u64 0, .int .i64 0, .string ⟨#[]⟩, (.slice A' gn c')] 27 := blk_keep HB1.out (by rw [hgrow.block b1 (by simp; omega) (fun e => hvb e.symm)]; exact ((Below.refl w3.heap.size w3).alloc (Nat.le_refl _) _).block b1 (by omega)); have f8 := hblk4.frozen 8; have z8 := hblk4.cell 8)
        have hg0 : (Value.slice A' gn c').ownBlock = some g → w.heap.size ≤ g ∧ g < wr.heap.size := fun e => HQ.out g e
        have hsz4 : w3.heap.size + 1 ≤ w4.heap.size := by
          have := hgrow.size
          simpa using this
        have hkeep : ∀ q, q < w3.heap.size → (Value.slice A' gn c').ownBlock ≠ some q → w4.heap[q]? = w3.heap[q]? := fun q hq hne => by
          rw [hgrow.block q (by simp; omega) (fun e => hne e.symm)]
          exact ((Below.refl w3.heap.size w3).alloc (Nat.le_refl _) _).block q hq
        have hgl : g = w3.heap.size + 1 ∨ (Value.slice A' gn c').ownBlock = some g := hat.symm
        have hgb : g ≠ b1 := fun e => by
          rcases hgl with h | h
          · omega
          · rw [e] at h
            exact hvb h
        have hrow4 : RowT w4 (fun q => b1 + 1 ≤ q ∧ q < w4.heap.size ∧ (Value.slice (some ⟨g, 0, none⟩) (gn + 1) cap).ownBlock ≠ some q) 17 (goodL (l.take (k + 1))) (xs ++ [.int .i64 kind3, .bool b3, .bool neg3, .string dg3, .int .i64 ex3, .int .u64 u3, .int .i64 wd3, .string s3, .slice A1 n1 c1]) := by
          rw [HT.out]
          refine RowT.append ?_ ((HR3.out.keep (fun q hq => hkeep q hq.2.1 hq.2.2)).mono (fun q hq => ⟨hq.1, by omega, fun e => ?_⟩))
          · have h1 : LAt w4 (fun q => b1 + 1 ≤ q ∧ q < w4.heap.size ∧ (Value.slice (some ⟨g, 0, none⟩) (gn + 1) cap).ownBlock ≠ some q) 17 t.kids (.slice A1 n1 c1) := by
              refine (HLY.out.keep (fun q hq => hkeep q (by omega) (fun e => ?_))).mono (fun q hq => ⟨by omega, by omega, fun e => ?_⟩)
              · have := (HQ.out q e).2
                omega
              · have e' : g = q := by simpa [Value.ownBlock] using e
                rcases hgl with h | h
                · omega
                · have := (hg0 h).2
                  omega
            have h2 := RowT.one (t := t) (y := .slice A1 n1 c1) (by rw [HO3.out]; exact HFO.out) h1
            rw [HO3.out] at h2
            exact h2
          · have e' : g = q := by simpa [Value.ownBlock] using e
            subst e'
            rcases hgl with h | h
            · omega
            · exact hq.2.2 h
        have hbw4 : Below w.heap.size w w4 := (hbw3.alloc hbw3.size _).grown hgrow (by simp; omega) (fun q e => (HQ.out q e).1)
        have hs5 : Blk (w4.setCell ⟨b1, 8, none⟩ (.slice (some ⟨g, 0, none⟩) (gn + 1) cap)) b1 #[.int .i64 7, .bool false, .bool false, .string ⟨#[]⟩, .int .i64 0, .int .u64 0, .int .i64 0, .string ⟨#[]⟩, (.slice (some ⟨g, 0, none⟩) (gn + 1) cap)] 27 := hblk4.set 8 _
        have hown5 := ownsRow_setCell_other hown4 (a := ⟨b1, 8, none⟩) (by simpa [Value.ownBlock] using hgb) (.slice (some ⟨g, 0, none⟩) (gn + 1) cap)
        have hrow5 := hrow4.keep (W' := w4.setCell ⟨b1, 8, none⟩ (.slice (some ⟨g, 0, none⟩) (gn + 1) cap)) (fun q hq => Below.heap_setCell w4 ⟨b1, 8, none⟩ _ q (by show q ≠ b1; omega))
        have hbw5 := hbw4.setCell (p := ⟨b1, 8, none⟩) hB1 (.slice (some ⟨g, 0, none⟩) (gn + 1) cap)
        have hsz5 : (w4.setCell ⟨b1, 8, none⟩ (.slice (some ⟨g, 0, none⟩) (gn + 1) cap)).heap.size = w4.heap.size := by simp [World.setCell]
        have HR5 := Lib.hid hrow5
        have HO5 := Lib.hid hown5
        have HK5 := Lib.hid hs5
        have HB5 := Lib.hid hbw5
        clear hgrow hat hgl hg0 hkeep hrow4 hown4 hown3 HR3 HLY HQ HB1 hbw hbw3 hbw4 hblk4 hrow5 hown5 hs5 hbw5
        go_roundw
        case rel => exact ⟨k + 1, _, _, by omega, by omega, by go_num, by rw [← HSM1.out]; go_num, HSB.out, by rw [HGN1.out]; exact HO5.out, by rw [hsz5]; exact HR5.out, HB5.out, HK5.out, by simpa [Value.ownBlock] using hgb⟩
        case measure => simp [intOf]; omega
      · replace HT := HT.out
        rw [if_neg h0, List.append_nil] at HT
        have y5 : (ck != 0) = true := by simpa using h0
        have HR3 := Lib.hid hrow3
        have HO3 := Lib.hid hown3
        have HB3 := Lib.hid hbo3
        replace HT := Lib.hid HT
        clear HBD hkN3 hq hrow3 hown3 hbo3 hly3 hbw hb13
        go_wp2_with fail
        go_roundw
        case rel => exact ⟨k + 1, xs, _, by omega, by omega, by go_num, by rw [HT.out, HSM.out]; go_num, by rw [HT.out, HSM.out]; exact Nat.le_trans hsb (Nat.mul_le_mul_right _ (Nat.le_succ k)), by rw [HT.out, HGN.out]; exact HO3.out, by rw [HT.out]; exact HR3.out, hbw3, by exact HB3.out, hvb⟩
        case measure => simp [intOf]; omega
    · obtain ⟨g, hg⟩ : ∃ g, goodL (l.take k) = g := ⟨_, rfl⟩
      have hgood : ∀ t ∈ g, checkT 2 flC t = 0 := fun t ht => goodL_mem (l := l.take k) (by rw [hg]; exact ht)
      have hgc : countL g ≤ 2400 := by
        have h1 := goodL_count (l.take k)
        have h2 : (l.take k).length ≤ 6 := by
          rw [List.length_take]
          omega
        rw [hg] at h1
        omega
      rw [hg] at hsm hgn hrow
      have hls : ListAt wr wr.heap.size 18 g (.slice A' gn c') := hrow.list hown hgn.symm (by omega) (fun q hq => hq.2.1) (fun a e => by
        subst e
        exact (hown.lt a.block rfl).2)
      have hoc := out_check hgood
      have hos := out_size (g := g) (by omega)
      rw [hsm] at hos
      rw [hg, hsm]
      have ho7 : OwnOk (outT g).own := okO { zeroO with kind := 7 } (by decide) (by decide) (by decide) (by decide) rfl rfl
      have hcn : (outT g).count ≤ 2401 := by
        rw [Tr.count_eq]
        show 1 + countL g ≤ 2401
        omega
      have HK := cb_Size (outT g) (.slice A' gn c') wr wr.heap.size 18 aT aF hls ho7 (Nat.le_refl _) (by omega) (HU.out _ hbw)
      have HRC := Lib.hid (fun W (hW : Below wr.heap.size wr W) => ref_Count 18 (outT g) (.slice A' gn c') W wr.heap.size (hls.below hW (Nat.le_refl _)) hW.size (by omega))
      have HRD := Lib.hid (fun W (hW : Below wr.heap.size wr W) => ref_Depth 18 (outT g) (.slice A' gn c') W wr.heap.size (hls.below hW (Nat.le_refl _)) hW.size (by omega))
      obtain ⟨cn, hcn'⟩ : ∃ cn, (outT g).count = cn := ⟨_, rfl⟩
      obtain ⟨dn, hdn⟩ : ∃ dn, (outT g).depth = dn := ⟨_, rfl⟩
      rw [hcn', hdn] at hoc
      simp only [hcn'] at HRC
      simp only [hdn] at HRD
      have hdc := depth_count (outT g)
      rw [hdn, hcn'] at hdc
      rw [hcn'] at hcn
      have hsz : checkT 2 flC (outT g) = 0 → (wroteC (outT g) (checkT 2 flC (outT g))).size = 1 + sm := fun h0 => by
        rw [h0, wroteC, if_pos rfl, cb_size, hos]
      obtain ⟨ck, hck⟩ : ∃ ck, checkT 2 flC (outT g) = ck := ⟨_, rfl⟩
      rw [hck] at HK hsz hoc
      obtain ⟨ct, hct⟩ : ∃ ct, (wroteC (outT g) ck).size = ct := ⟨_, rfl⟩
      rw [hct] at HK hsz
      unfold nodeV at HK HRC HRD
      simp only [Tr.own] at HK HRC HRD
      have z0 := hbo.cell 0
      have z1 := hbo.cell 1
      have z2 := hbo.cell 2
      have z3 := hbo.cell 3
      have z4 := hbo.cell 4
      have z5 := hbo.cell 5
      have z6 := hbo.cell 6
      have z7 := hbo.cell 7
      have z8 := hbo.cell 8
      have HSZ := Lib.hid hsz
      have HOC := Lib.hid hoc
      have HK := Lib.hid HK
      clear hsz hoc hct hck hcn' hdn ho7 hos hls hgood hg hrow hown hsm hgn hgc
      have y1 : ((k : Int) < n ∧ ¬ (k : Int) < 6) ∨ ¬ (k : Int) < n := by omega
      rcases y1 with ⟨y2, y3⟩ | y2
      all_goals (
        clear hgo
        go_wp2_with fail
        refine HK.out.mono ?_
        rintro e w5 ⟨rfl, hb5⟩
        have hbo5 := hbo.below hb5 hbo.lt
        have HB5 := Lib.hid hb5
        have hbw5 := hbw.trans (hb5.mono hbw.size)
        clear z0 z1 z2 z3 z4 z5 z6 z7 z8
        have z0 := hbo5.cell 0
        have z1 := hbo5.cell 1
        have z2 := hbo5.cell 2
        have z3 := hbo5.cell 3
        have z4 := hbo5.cell 4
        have z5 := hbo5.cell 5
        have z6 := hbo5.cell 6
        have z7 := hbo5.cell 7
        have z8 := hbo5.cell 8
        clear HK hb5 hbo
        replace HOC := HOC.out
        by_cases hq : cn ≤ 300 ∧ dn ≤ 16
        · rw [if_pos hq] at HOC
          subst HOC
          have hct := HSZ.out rfl
          subst hct
          clear hq HRC HRD HSZ
          go_wp2_with fail
          go_ret
          exact ⟨rfl, hbw5⟩
        · rw [if_neg hq] at HOC
          subst HOC
          by_cases hc : cn ≤ 300
          · have y4 : ¬ (300 : Int) < cn := by omega
            have y5 : (16 : Int) < dn := by omega
            clear hq hc HSZ
            go_wp2_with fail
            refine (HRC.out _ HB5.out).mono ?_
            rintro e w6 ⟨rfl, hb6⟩
            have hb56 := HB5.out.trans (hb6.mono HB5.out.size)
            have hbo6 := hbo5.below hb6 hbo5.lt
            have hbw6 := hbw5.trans (hb6.mono hbw5.size)
            clear z0 z1 z2 z3 z4 z5 z6 z7 z8
            have z0 := hbo6.cell 0
            have z1 := hbo6.cell 1
            have z2 := hbo6.cell 2
            have z3 := hbo6.cell 3
            have z4 := hbo6.cell 4
            have z5 := hbo6.cell 5
            have z6 := hbo6.cell 6
            have z7 := hbo6.cell 7
            have z8 := hbo6.cell 8
            have HB6 := Lib.hid hb56
            clear hb6 hb56 hbo5 hbw5 HRC
            go_wp2_with fail
            refine (HRD.out _ HB6.out).mono ?_
            rintro e w7 ⟨rfl, hb7⟩
            have hbw7 := hbw6.trans (hb7.mono hbw6.size)
            clear z0 z1 z2 z3 z4 z5 z6 z7 z8 hb7 hbw6 HRD
            go_wp2_with fail
            go_ret
            exact ⟨rfl, hbw7⟩
          · have y4 : (300 : Int) < cn := by omega
            clear hq hc HSZ
            go_wp2_with fail
            refine (HRC.out _ HB5.out).mono ?_
            rintro e w6 ⟨rfl, hb6⟩
            have hbw6 := hbw5.trans (hb6.mono hbw5.size)
            clear z0 z1 z2 z3 z4 z5 z6 z7 z8 hb6 hbo5 hbw5 HRC HRD
            go_wp2_with fail
            go_ret
            exact ⟨rfl, hbw6⟩)
end Go.Proofs.YtffaefdnlgfdbaaGreatDoor
