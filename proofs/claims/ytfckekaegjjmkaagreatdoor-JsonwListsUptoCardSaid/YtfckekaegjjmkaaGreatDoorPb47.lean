/- The texts JwLW, put together. -/
import Derived.Test.YtfckekaegjjmkaaGreatDoorPb46
namespace Go.Proofs.YtfckekaegjjmkaaGreatDoor
open Go.RowKit Go.Shelf

set_option maxHeartbeats 8000000 in
set_option maxRecDepth 100000 in
theorem lists_walk {aT aF : Addr} (l : List Tr) (A : Option Addr) (n c : Nat) (w : World) (h : SW w aT aF) (D : Nat) (hl : ListAt w w.heap.size D l (.slice A n c)) (hn : l.length = n) (hc : countL l ≤ 1048576) :
    Calls Tryz.prog 4 #[.slice A n c] w fun e w' => e = .returned (.bool true) ∧ Below w.heap.size w w' := by
  obtain ⟨i0, hi, hz0, hz1, hz2⟩ := info_parts infoNode
  have HI := Lib.hid hi
  have HZ0 := Lib.hid hz0
  have HZ1 := Lib.hid hz1
  have HZ2 := Lib.hid hz2
  clear hi hz0 hz1 hz2
  have hnn := hl.slice.1
  rw [hn] at hnn
  have HU := Lib.hid (fun (w' : World) (hw : Below w.heap.size w w') => h.below hw)
  have H0 := Lib.hid (j_shown (aT := aT) (aF := aF) w h)
  have HL := Lib.hid hl
  have HN := Lib.hid hn
  have HC := Lib.hid hc
  clear hl hn hc h
  go_enter Tryz.func4, Tryz.ntmps4
  go_wp2_with fail
  refine H0.out.mono ?_
  rintro e w1 ⟨rfl, hb1⟩
  clear H0
  go_wp2_with fail
  obtain ⟨b1, hb1e⟩ : ∃ b1, w1.heap.size = b1 := ⟨_, rfl⟩
  have hB1 : w.heap.size ≤ b1 := by rw [← hb1e]; exact hb1.size
  have hk0 := Blk.new w1 #[.int .i64 7, .bool false, .bool false, .string ⟨#[]⟩, .int .i64 0, .int .u64 0, .int .i64 0, .string ⟨#[]⟩, .slice none 0 0] 27
  have hbw0 := hb1.alloc hb1.size (.cells #[.int .i64 7, .bool false, .bool false, .string ⟨#[]⟩, .int .i64 0, .int .u64 0, .int .i64 0, .string ⟨#[]⟩, .slice none 0 0] 27)
  rw [hb1e] at hk0 ⊢
  go_loopw [5, 6, 7] (fun s bb i wr => ∃ (k : Nat) (xs : List Value) (v : Value) (want : ByteArray) (b : Bool), k ≤ n ∧ k ≤ 5 ∧ i = .int .i64 k ∧ s = .string want ∧ bb = .bool b ∧ Hid (want.data.toList = 91 :: sepJ true ((l.take k).map fewT)) ∧ want.size ≤ 1 + k * 900001 ∧ Hid (OkAll b ((l.take k).map fewT)) ∧ wr.ownsRow w.heap.size 27 9 v k xs ∧ RowT wr (fun q => b1 + 1 ≤ q ∧ q < wr.heap.size ∧ v.ownBlock ≠ some q) 17 ((l.take k).map fewT) xs ∧ Below w.heap.size w wr ∧ Blk wr b1 #[.int .i64 7, .bool false, .bool false, .string ⟨#[]⟩, .int .i64 0, .int .u64 0, .int .i64 0, .string ⟨#[]⟩, v] 27 ∧ v.ownBlock ≠ some b1) (fun _ _ i _ => n - (intOf i).toNat)
  case atStart => exact ⟨0, [], .slice none 0 0, ⟨#[91]⟩, true, by omega, by omega, rfl, rfl, rfl, Lib.hid rfl, by decide, Lib.hid (by unfold OkAll; simp), World.ownsRow_nil _ _ _ _, rfl, hbw0, hk0, by simp [Value.ownBlock]⟩
  case round =>
    obtain ⟨k, xs, v, want, b, hk, hk6, rfl, rfl, rfl, HWANT, hwl, HOKB, hown, hrow, hbw, hbo, hvb⟩ := hrel
    clear hbw0 hk0 hb1
    obtain ⟨A', c', rfl⟩ := own_sliceT hown
    have hzw := hbw.size
    by_cases hgo : k < n ∧ k < 5
    · obtain ⟨hlt, hlt6⟩ := hgo
      have hkl : k < l.length := by rw [HN.out]; exact hlt
      obtain ⟨d', ad, y, hdd, rfl, hab, hok, hna, hkk⟩ := (HL.out.below hbw (Nat.le_refl _)).at_ hkl
      have htk : (l.take (k + 1)).map fewT = (l.take k).map fewT ++ [fewT l[k]] := by rw [List.take_succ_eq_append_getElem hkl, List.map_append]; rfl
      have hck : l[k].count ≤ 1048576 := Nat.le_trans (countL_mem (List.getElem_mem hkl)) HC.out
      have HF := law_FewT l[k] y wr w.heap.size d' hkk hok hbw.size (by omega)
      have hfo := few_okJ hok
      have hfc := few_count l[k]
      obtain ⟨t, ht⟩ : ∃ t, fewT l[k] = t := ⟨_, rfl⟩
      rw [ht] at HF hfo hfc htk
      obtain ⟨o1, ho1⟩ : ∃ o, l[k].own = o := ⟨_, rfl⟩
      rw [ho1] at hna HF
      obtain ⟨kind2, b2, neg2, dg2, ex2, u2, wd2, s2⟩ := o1
      unfold nodeV at HF
      obtain ⟨k0, k1, k2, k3, k4, k5, k6, k7, k8⟩ := hna
      simp only [] at k0 k1 k2 k3 k4 k5 k6 k7 k8 HF
      have HF := Lib.hid HF
      have HT := Lib.hid htk
      have HROW := Lib.hid hrow
      have HOWN := Lib.hid hown
      have y1 : (k : Int) < n := by omega
      have y2 : (k : Int) < 5 := by omega
      clear htk hkk hok hdd ho1 hrow hown ht hck
      go_wp2_with fail
      refine HF.out.mono ?_
      rintro e w2 ⟨⟨y', rfl, hly⟩, hbb⟩
      obtain ⟨_, A1, c1, rfl⟩ := hly.slice
      obtain ⟨n1, hn1⟩ : ∃ n1, t.kids.length = n1 := ⟨_, rfl⟩
      rw [hn1] at hly ⊢
      clear HF k0 k1 k2 k3 k4 k5 k6 k7 k8
      have HK := Lib.hid (jw_Write t (.slice A1 n1 c1) (w2.alloc (.cells (cellsV t.own (.slice A1 n1 c1)) 27)) w2.heap.size 17 aT aF)
      unfold cellsV at HK
      obtain ⟨⟨kind3, b3, neg3, dg3, ex3, u3, wd3, s3⟩, ho3⟩ : ∃ o, t.own = o := ⟨_, rfl⟩
      rw [ho3] at HK hfo ⊢
      unfold nodeV at HK
      simp only [] at HK ⊢
      have hb1A := hbb.alloc hbb.size (.cells #[.int .i64 kind3, .bool b3, .bool neg3, .string dg3, .int .i64 ex3, .int .u64 u3, .int .i64 wd3, .string s3, .slice A1 n1 c1] 27)
      have hkN := Blk.new w2 #[.int .i64 kind3, .bool b3, .bool neg3, .string dg3, .int .i64 ex3, .int .u64 u3, .int .i64 wd3, .string s3, .slice A1 n1 c1] 27
      have hbwA := hbw.trans (hb1A.mono hzw)
      have hlyA : ListAt (w2.alloc (.cells #[.int .i64 kind3, .bool b3, .bool neg3, .string dg3, .int .i64 ex3, .int .u64 u3, .int .i64 wd3, .string s3, .slice A1 n1 c1] 27)) w2.heap.size 17 t.kids (.slice A1 n1 c1) := (hly.mono (fun q hq => hq.2)).below ((Below.refl _ w2).alloc (Nat.le_refl _) _) (Nat.le_refl _)
      have HK := HK.out hlyA hfo (by simp) (by omega) (HU.out _ hbwA)
      have hwt := wrote_len t
      obtain ⟨ck, hck⟩ : ∃ ck, checkT 1 flJ t = ck := ⟨_, rfl⟩
      obtain ⟨ct, hct⟩ : ∃ ct, wroteJ false t ck = ct := ⟨_, rfl⟩
      rw [hck] at HK hwt
      rw [hct] at HK hwt
      have hwant := HWANT.out
      have hnext : 91 :: sepJ true ((l.take (k + 1)).map fewT) = want.data.toList ++ ((if k = 0 then [] else [44]) ++ ct.data.toList) := by
        rw [hwant, HT.out, sep_snoc, hck, hct]
        have : (true = true ∧ (l.take k).map fewT = []) ↔ k = 0 := by
          rw [List.map_eq_nil_iff, ← List.length_eq_zero_iff, List.length_take]
          constructor
          · rintro ⟨_, h⟩
            omega
          · intro h
            exact ⟨rfl, by omega⟩
        by_cases h0 : k = 0
        · rw [if_pos (this.2 h0), if_pos h0]
          rfl
        · rw [if_neg (fun h => h0 (this.1 h)), if_neg h0]
          rfl
      have hall : OkAll (b && decide (ck = 0)) ((l.take (k + 1)).map fewT) := by
        have ho : b = true ↔ ∀ t ∈ (l.take k).map fewT, checkT 1 flJ t = 0 := HOKB.out
        unfold OkAll
        rw [HT.out, Bool.and_eq_true, decide_eq_true_iff, ho]
        constructor
        · rintro ⟨h1, h2⟩ s hs
          rcases List.mem_append.1 hs with h | h
          · exact h1 s h
          · rw [List.mem_singleton.1 h, hck]
            exact h2
        · intro h
          exact ⟨fun s hs => h s (List.mem_append.2 (.inl hs)), by rw [← hck]; exact h t (by simp)⟩
      have HNEXT := Lib.hid hnext
      have HALL := Lib.hid hall
      have HWT := Lib.hid hwt
      replace HK := Lib.hid HK
      have HO3 := Lib.hid ho3
      have HLY := Lib.hid hly
      have HFO := Lib.hid hfo
      have zk0 := hkN.cell 0
      have zk1 := hkN.cell 1
      have zk2 := hkN.cell 2
      have zk3 := hkN.cell 3
      have zk4 := hkN.cell 4
      have zk5 := hkN.cell 5
      have zk6 := hkN.cell 6
      have zk7 := hkN.cell 7
      have zk8 := hkN.cell 8
      clear hck hct ho3 hlyA hly hn1 hfo hwt hnext hall hwant
      go_wp2_with fail
      refine HK.out.mono ?_
      rintro e w3 ⟨rfl, hbc⟩
      clear zk0 zk1 zk2 zk3 zk4 zk5 zk6 zk7 zk8 HK
      have hz3 : wr.heap.size ≤ w2.heap.size := hbb.size
      have hz4 : w2.heap.size + 1 ≤ w3.heap.size := by
        have := hbc.size
        simpa using this
      have hb13 : Below wr.heap.size wr w3 := hb1A.trans (hbc.mono hb1A.size)
      have hbw3 := hbw.trans (hb13.mono hzw)
      have hkN3 : Blk w3 w2.heap.size #[.int .i64 kind3, .bool b3, .bool neg3, .string dg3, .int .i64 ex3, .int .u64 u3, .int .i64 wd3, .string s3, .slice A1 n1 c1] 27 := hkN.below hbc hkN.lt
      have hbo3 := hbo.below hb13 hbo.lt
      have hlt1 := hbo.lt
      have hq : ∀ q, (Value.slice A' k c').ownBlock = some q → w.heap.size ≤ q ∧ q < wr.heap.size := fun q e => ⟨(HOWN.out.lt q e).1, (HOWN.out.lt q e).2⟩
      have hown3 : w3.ownsRow w.heap.size 27 9 (.slice A' k c') k xs := HOWN.out.kept (below_none hb13) (by cases A' with | none => exact .inl rfl | some a => exact .inr (by simp [Value.ownBlock]))
      have hrow3 : RowT w3 (fun q => b1 + 1 ≤ q ∧ q < w3.heap.size ∧ (Value.slice A' k c').ownBlock ≠ some q) 17 ((l.take k).map fewT) xs := (HROW.out.keep (fun q hq => hb13.block q hq.2.1)).mono (fun q hq => ⟨hq.1, by omega, hq.2.2⟩)
      have hly3 : LAt w3 (fun q => wr.heap.size ≤ q ∧ q < w2.heap.size) 17 t.kids (.slice A1 n1 c1) := HLY.out.keep (fun q hq => (((Below.refl w2.heap.size w2).alloc (Nat.le_refl _) (.cells #[.int .i64 kind3, .bool b3, .bool neg3, .string dg3, .int .i64 ex3, .int .u64 u3, .int .i64 wd3, .string s3, .slice A1 n1 c1] 27)).trans (hbc.mono (by simp))).block q hq.2)
      clear hb1A hkN hbwA hbb hbc hbo HOWN HROW HLY HWANT HOKB
      have zk0 := hkN3.cell 0
      have zk1 := hkN3.cell 1
      have zk2 := hkN3.cell 2
      have zk3 := hkN3.cell 3
      have zk4 := hkN3.cell 4
      have zk5 := hkN3.cell 5
      have zk6 := hkN3.cell 6
      have zk7 := hkN3.cell 7
      have zk8 := hkN3.cell 8
      have zo8 := hbo3.cell 8
      have c3 : k + 1 ≤ maxLen := by unfold maxLen; omega
      have HQ := Lib.hid hq
      have HB1 := Lib.hid hbo3
      have HR3 := Lib.hid hrow3
      have HLY := Lib.hid hly3
      clear hkN3 hbo3 hq hrow3 hly3
      cases b with
      | true =>
        by_cases h1 : ck = 0
        · by_cases h0 : k = 0
          · skip
            obtain ⟨want2, hw2⟩ : ∃ s, want ++ ct = s := ⟨_, rfl⟩
            have hw2l : want2.data.toList = 91 :: sepJ true ((l.take (k + 1)).map fewT) := by
              rw [HNEXT.out, if_pos h0, ← hw2, app_list]
              rfl
            have hw2z : want2.size ≤ 1 + (k + 1) * 900001 := by
              rw [← hw2, ByteArray.size_append]
              have := HWT.out
              
              omega
            have hb2 : OkAll true ((l.take (k + 1)).map fewT) := by
              have := HALL.out
              rw [decide_eq_true h1] at this
              exact this
            have ys : ¬ 9223372036854775807 < want.size + ct.size := by have := HWT.out; omega

            have y7 : ¬ (0 : Int) < k := by omega
            have y8 : (ck == 0) = true := by rw [beq_iff_eq]; exact h1
            have HW2 := Lib.hid hw2
            have HW2L := Lib.hid hw2l
            have HW2Z := Lib.hid hw2z
            have HB2 := Lib.hid hb2
            clear hw2 hw2l hw2z hb2 HNEXT HALL HWT h0 h1
            go_wp2_with (at_builtin; refine wpList_append_lies _ rfl _ _ 25 rfl w.heap.size 27 i0 (.agg #[.int .i64 0, .bool false, .bool false, .string ⟨#[]⟩, .int .i64 0, .int .u64 0, .int .i64 0, .string ⟨#[]⟩, .slice none 0 0]) 9 104 Tryz.underlying25 HI.out HZ0.out HZ1.out HZ2.out rfl (by decide) _ _ _ rfl (hown3.alloc _) ⟨w3.heap.size, 0, none⟩ 1 1 [.int .i64 kind3, .bool b3, .bool neg3, .string dg3, .int .i64 ex3, .int .u64 u3, .int .i64 wd3, .string s3, .slice A1 n1 c1] rfl rfl (cells_newT _ [.int .i64 kind3, .bool b3, .bool neg3, .string dg3, .int .i64 ex3, .int .u64 u3, .int .i64 wd3, .string s3, .slice A1 n1 c1] _) (by intro u hu; simp at hu; rcases hu with rfl | rfl | rfl | rfl | rfl | rfl | rfl | rfl | rfl <;> rfl) (by decide) (by omega) (by omega) (by simp; omega) (w3.heap.size + 1) (by simp) ?_; intro g cap w4 hown4 hgrow hat hg4; have hblk4 : Blk w4 b1 #[.int .i64 7, .bool false, .bool false, .string ⟨#[]⟩, .int .i64 0, .int .u64 0, .int .i64 0, .string ⟨#[]⟩, (.slice A' k c')] 27 := blk_keep HB1.out (by rw [hgrow.block b1 (by simp; omega) (fun e => hvb e.symm)]; exact ((Below.refl w3.heap.size w3).alloc (Nat.le_refl _) _).block b1 (by omega)); have f8 := hblk4.frozen 8; have z8 := hblk4.cell 8)
            have hg0 : (Value.slice A' k c').ownBlock = some g → w.heap.size ≤ g ∧ g < wr.heap.size := fun e => HQ.out g e
            have hsz4 : w3.heap.size + 1 ≤ w4.heap.size := by
              have := hgrow.size
              simpa using this
            have hkeep : ∀ q, q < w3.heap.size → (Value.slice A' k c').ownBlock ≠ some q → w4.heap[q]? = w3.heap[q]? := fun q hq hne => by
              rw [hgrow.block q (by simp; omega) (fun e => hne e.symm)]
              exact ((Below.refl w3.heap.size w3).alloc (Nat.le_refl _) _).block q hq
            have hgl : g = w3.heap.size + 1 ∨ (Value.slice A' k c').ownBlock = some g := hat.symm
            have hgb : g ≠ b1 := fun e => by
              rcases hgl with h | h
              · omega
              · rw [e] at h
                exact hvb h
            have hrow4 : RowT w4 (fun q => b1 + 1 ≤ q ∧ q < w4.heap.size ∧ (Value.slice (some ⟨g, 0, none⟩) (k + 1) cap).ownBlock ≠ some q) 17 ((l.take (k + 1)).map fewT) (xs ++ [.int .i64 kind3, .bool b3, .bool neg3, .string dg3, .int .i64 ex3, .int .u64 u3, .int .i64 wd3, .string s3, .slice A1 n1 c1]) := by
              rw [HT.out]
              refine RowT.append ?_ ((HR3.out.keep (fun q hq => hkeep q hq.2.1 hq.2.2)).mono (fun q hq => ⟨hq.1, by omega, fun e => ?_⟩))
              · have h1 : LAt w4 (fun q => b1 + 1 ≤ q ∧ q < w4.heap.size ∧ (Value.slice (some ⟨g, 0, none⟩) (k + 1) cap).ownBlock ≠ some q) 17 t.kids (.slice A1 n1 c1) := by
                  refine (HLY.out.keep (fun q hq => hkeep q (by omega) (fun e => ?_))).mono (fun q hq => ⟨by omega, by omega, fun e => ?_⟩)
                  · have := (HQ.out q e).2
                    omega
                  · have e' : g = q := by simpa [Value.ownBlock] using e
                    rcases hgl with h | h
                    · omega
                    · have := (hg0 h).2
                      omega
                have h2 := RowT.one (t := t) (y := .slice A1 n1 c1) (by rw [HO3.out]; exact HFO.out) h1
                rw [HO3.out] at h2
                exact h2
              · have e' : g = q := by simpa [Value.ownBlock] using e
                subst e'
                rcases hgl with h | h
                · omega
                · exact hq.2.2 h
            have hbw4 : Below w.heap.size w w4 := (hbw3.alloc hbw3.size _).grown hgrow (by simp; omega) (fun q e => (HQ.out q e).1)
            have hs5 : Blk (w4.setCell ⟨b1, 8, none⟩ (.slice (some ⟨g, 0, none⟩) (k + 1) cap)) b1 #[.int .i64 7, .bool false, .bool false, .string ⟨#[]⟩, .int .i64 0, .int .u64 0, .int .i64 0, .string ⟨#[]⟩, (.slice (some ⟨g, 0, none⟩) (k + 1) cap)] 27 := hblk4.set 8 _
            have hown5 := ownsRow_setCell_other hown4 (a := ⟨b1, 8, none⟩) (by simpa [Value.ownBlock] using hgb) (.slice (some ⟨g, 0, none⟩) (k + 1) cap)
            have hrow5 := hrow4.keep (W' := w4.setCell ⟨b1, 8, none⟩ (.slice (some ⟨g, 0, none⟩) (k + 1) cap)) (fun q hq => Below.heap_setCell w4 ⟨b1, 8, none⟩ _ q (by show q ≠ b1; omega))
            have hbw5 := hbw4.setCell (p := ⟨b1, 8, none⟩) hB1 (.slice (some ⟨g, 0, none⟩) (k + 1) cap)
            have hsz5 : (w4.setCell ⟨b1, 8, none⟩ (.slice (some ⟨g, 0, none⟩) (k + 1) cap)).heap.size = w4.heap.size := by simp [World.setCell]
            have HR5 := Lib.hid hrow5
            have HO5 := Lib.hid hown5
            have HK5 := Lib.hid hs5
            have HB5 := Lib.hid hbw5
            clear hgrow hat hgl hg0 hkeep hrow4 hown4 hown3 HR3 HLY HQ HB1 hbw hbw3 hbw4 hblk4 hrow5 hown5 hs5 hbw5
            rw [HW2.out]
            go_roundw
            case rel => exact ⟨k + 1, _, _, want2, true, by omega, by omega, by go_num, rfl, rfl, HW2L, HW2Z.out, HB2, HO5.out, by rw [hsz5]; exact HR5.out, HB5.out, HK5.out, by simpa [Value.ownBlock] using hgb⟩
            case measure => simp [intOf]; omega
          · skip
            obtain ⟨want2, hw2⟩ : ∃ s, want ++ ⟨#[44]⟩ ++ ct = s := ⟨_, rfl⟩
            have hw2l : want2.data.toList = 91 :: sepJ true ((l.take (k + 1)).map fewT) := by
              rw [HNEXT.out, if_neg h0, ← hw2, app_list, app_list]
              simp
            have hw2z : want2.size ≤ 1 + (k + 1) * 900001 := by
              rw [← hw2, ByteArray.size_append, ByteArray.size_append]
              have := HWT.out
              have e1 : (⟨#[44]⟩ : ByteArray).size = 1 := rfl
              omega
            have hb2 : OkAll true ((l.take (k + 1)).map fewT) := by
              have := HALL.out
              rw [decide_eq_true h1] at this
              exact this
            have ys : ¬ 9223372036854775807 < want.size + 1 + ct.size := by have := HWT.out; omega
            have ys2 : ¬ 9223372036854775807 < want.size + 1 := by omega
            have y7 : (0 : Int) < k := by omega
            have y8 : (ck == 0) = true := by rw [beq_iff_eq]; exact h1
            have HW2 := Lib.hid hw2
            have HW2L := Lib.hid hw2l
            have HW2Z := Lib.hid hw2z
            have HB2 := Lib.hid hb2
            clear hw2 hw2l hw2z hb2 HNEXT HALL HWT h0 h1
            go_wp2_with (at_builtin; refine wpList_append_lies _ rfl _ _ 25 rfl w.heap.size 27 i0 (.agg #[.int .i64 0, .bool false, .bool false, .string ⟨#[]⟩, .int .i64 0, .int .u64 0, .int .i64 0, .string ⟨#[]⟩, .slice none 0 0]) 9 104 Tryz.underlying25 HI.out HZ0.out HZ1.out HZ2.out rfl (by decide) _ _ _ rfl (hown3.alloc _) ⟨w3.heap.size, 0, none⟩ 1 1 [.int .i64 kind3, .bool b3, .bool neg3, .string dg3, .int .i64 ex3, .int .u64 u3, .int .i64 wd3, .string s3, .slice A1 n1 c1] rfl rfl (cells_newT _ [.int .i64 kind3, .bool b3, .bool neg3, .string dg3, .int .i64 ex3, .int .u64 u3, .int .i64 wd3, .string s3, .slice A1 n1 c1] _) (by intro u hu; simp at hu; rcases hu with rfl | rfl | rfl | rfl | rfl | rfl | rfl | rfl | rfl <;> rfl) (by decide) (by omega) (by omega) (by simp; omega) (w3.heap.size + 1) (by simp) ?_; intro g cap w4 hown4 hgrow hat hg4; have hblk4 : Blk w4 b1 #[.int .i64 7, .bool false, .bool false, .string ⟨#[]⟩, .int .i64 0, .int .u64 0, .int .i64 0, .string ⟨#[]⟩, (.slice A' k c')] 27 := blk_keep HB1.out (by rw [hgrow.block b1 (by simp; omega) (fun e => hvb e.symm)]; exact ((Below.refl w3.heap.size w3).alloc (Nat.le_refl _) _).block b1 (by omega)); have f8 := hblk4.frozen 8; have z8 := hblk4.cell 8)
            have hg0 : (Value.slice A' k c').ownBlock = some g → w.heap.size ≤ g ∧ g < wr.heap.size := fun e => HQ.out g e
            have hsz4 : w3.heap.size + 1 ≤ w4.heap.size := by
              have := hgrow.size
              simpa using this
            have hkeep : ∀ q, q < w3.heap.size → (Value.slice A' k c').ownBlock ≠ some q → w4.heap[q]? = w3.heap[q]? := fun q hq hne => by
              rw [hgrow.block q (by simp; omega) (fun e => hne e.symm)]
              exact ((Below.refl w3.heap.size w3).alloc (Nat.le_refl _) _).block q hq
            have hgl : g = w3.heap.size + 1 ∨ (Value.slice A' k c').ownBlock = some g := hat.symm
            have hgb : g ≠ b1 := fun e => by
              rcases hgl with h | h
              · omega
              · rw [e] at h
                exact hvb h
            have hrow4 : RowT w4 (fun q => b1 + 1 ≤ q ∧ q < w4.heap.size ∧ (Value.slice (some ⟨g, 0, none⟩) (k + 1) cap).ownBlock ≠ some q) 17 ((l.take (k + 1)).map fewT) (xs ++ [.int .i64 kind3, .bool b3, .bool neg3, .string dg3, .int .i64 ex3, .int .u64 u3, .int .i64 wd3, .string s3, .slice A1 n1 c1]) := by
              rw [HT.out]
              refine RowT.append ?_ ((HR3.out.keep (fun q hq => hkeep q hq.2.1 hq.2.2)).mono (fun q hq => ⟨hq.1, by omega, fun e => ?_⟩))
              · have h1 : LAt w4 (fun q => b1 + 1 ≤ q ∧ q < w4.heap.size ∧ (Value.slice (some ⟨g, 0, none⟩) (k + 1) cap).ownBlock ≠ some q) 17 t.kids (.slice A1 n1 c1) := by
                  refine (HLY.out.keep (fun q hq => hkeep q (by omega) (fun e => ?_))).mono (fun q hq => ⟨by omega, by omega, fun e => ?_⟩)
                  · have := (HQ.out q e).2
                    omega
                  · have e' : g = q := by simpa [Value.ownBlock] using e
                    rcases hgl with h | h
                    · omega
                    · have := (hg0 h).2
                      omega
                have h2 := RowT.one (t := t) (y := .slice A1 n1 c1) (by rw [HO3.out]; exact HFO.out) h1
                rw [HO3.out] at h2
                exact h2
              · have e' : g = q := by simpa [Value.ownBlock] using e
                subst e'
                rcases hgl with h | h
                · omega
                · exact hq.2.2 h
            have hbw4 : Below w.heap.size w w4 := (hbw3.alloc hbw3.size _).grown hgrow (by simp; omega) (fun q e => (HQ.out q e).1)
            have hs5 : Blk (w4.setCell ⟨b1, 8, none⟩ (.slice (some ⟨g, 0, none⟩) (k + 1) cap)) b1 #[.int .i64 7, .bool false, .bool false, .string ⟨#[]⟩, .int .i64 0, .int .u64 0, .int .i64 0, .string ⟨#[]⟩, (.slice (some ⟨g, 0, none⟩) (k + 1) cap)] 27 := hblk4.set 8 _
            have hown5 := ownsRow_setCell_other hown4 (a := ⟨b1, 8, none⟩) (by simpa [Value.ownBlock] using hgb) (.slice (some ⟨g, 0, none⟩) (k + 1) cap)
            have hrow5 := hrow4.keep (W' := w4.setCell ⟨b1, 8, none⟩ (.slice (some ⟨g, 0, none⟩) (k + 1) cap)) (fun q hq => Below.heap_setCell w4 ⟨b1, 8, none⟩ _ q (by show q ≠ b1; omega))
            have hbw5 := hbw4.setCell (p := ⟨b1, 8, none⟩) hB1 (.slice (some ⟨g, 0, none⟩) (k + 1) cap)
            have hsz5 : (w4.setCell ⟨b1, 8, none⟩ (.slice (some ⟨g, 0, none⟩) (k + 1) cap)).heap.size = w4.heap.size := by simp [World.setCell]
            have HR5 := Lib.hid hrow5
            have HO5 := Lib.hid hown5
            have HK5 := Lib.hid hs5
            have HB5 := Lib.hid hbw5
            clear hgrow hat hgl hg0 hkeep hrow4 hown4 hown3 HR3 HLY HQ HB1 hbw hbw3 hbw4 hblk4 hrow5 hown5 hs5 hbw5
            rw [HW2.out]
            go_roundw
            case rel => exact ⟨k + 1, _, _, want2, true, by omega, by omega, by go_num, rfl, rfl, HW2L, HW2Z.out, HB2, HO5.out, by rw [hsz5]; exact HR5.out, HB5.out, HK5.out, by simpa [Value.ownBlock] using hgb⟩
            case measure => simp [intOf]; omega
        · by_cases h0 : k = 0
          · skip
            obtain ⟨want2, hw2⟩ : ∃ s, want ++ ct = s := ⟨_, rfl⟩
            have hw2l : want2.data.toList = 91 :: sepJ true ((l.take (k + 1)).map fewT) := by
              rw [HNEXT.out, if_pos h0, ← hw2, app_list]
              rfl
            have hw2z : want2.size ≤ 1 + (k + 1) * 900001 := by
              rw [← hw2, ByteArray.size_append]
              have := HWT.out
              
              omega
            have hb2 : OkAll false ((l.take (k + 1)).map fewT) := by
              have := HALL.out
              rw [decide_eq_false h1] at this
              exact this
            have ys : ¬ 9223372036854775807 < want.size + ct.size := by have := HWT.out; omega

            have y7 : ¬ (0 : Int) < k := by omega
            have y8 : (ck == 0) = false := by rw [beq_eq_false_iff_ne]; exact h1
            have HW2 := Lib.hid hw2
            have HW2L := Lib.hid hw2l
            have HW2Z := Lib.hid hw2z
            have HB2 := Lib.hid hb2
            clear hw2 hw2l hw2z hb2 HNEXT HALL HWT h0 h1
            go_wp2_with (at_builtin; refine wpList_append_lies _ rfl _ _ 25 rfl w.heap.size 27 i0 (.agg #[.int .i64 0, .bool false, .bool false, .string ⟨#[]⟩, .int .i64 0, .int .u64 0, .int .i64 0, .string ⟨#[]⟩, .slice none 0 0]) 9 104 Tryz.underlying25 HI.out HZ0.out HZ1.out HZ2.out rfl (by decide) _ _ _ rfl (hown3.alloc _) ⟨w3.heap.size, 0, none⟩ 1 1 [.int .i64 kind3, .bool b3, .bool neg3, .string dg3, .int .i64 ex3, .int .u64 u3, .int .i64 wd3, .string s3, .slice A1 n1 c1] rfl rfl (cells_newT _ [.int .i64 kind3, .bool b3, .bool neg3, .string dg3, .int .i64 ex3, .int .u64 u3, .int .i64 wd3, .string s3, .slice A1 n1 c1] _) (by intro u hu; simp at hu; rcases hu with rfl | rfl | rfl | rfl | rfl | rfl | rfl | rfl | rfl <;> rfl) (by decide) (by omega) (by omega) (by simp; omega) (w3.heap.size + 1) (by simp) ?_; intro g cap w4 hown4 hgrow hat hg4; have hblk4 : Blk w4 b1 #[.int .i64 7, .bool false, .bool false, .string ⟨#[]⟩, .int .i64 0, .int .u64 0, .int .i64 0, .string ⟨#[]⟩, (.slice A' k c')] 27 := blk_keep HB1.out (by rw [hgrow.block b1 (by simp; omega) (fun e => hvb e.symm)]; exact ((Below.refl w3.heap.size w3).alloc (Nat.le_refl _) _).block b1 (by omega)); have f8 := hblk4.frozen 8; have z8 := hblk4.cell 8)
            have hg0 : (Value.slice A' k c').ownBlock = some g → w.heap.size ≤ g ∧ g < wr.heap.size := fun e => HQ.out g e
            have hsz4 : w3.heap.size + 1 ≤ w4.heap.size := by
              have := hgrow.size
              simpa using this
            have hkeep : ∀ q, q < w3.heap.size → (Value.slice A' k c').ownBlock ≠ some q → w4.heap[q]? = w3.heap[q]? := fun q hq hne => by
              rw [hgrow.block q (by simp; omega) (fun e => hne e.symm)]
              exact ((Below.refl w3.heap.size w3).alloc (Nat.le_refl _) _).block q hq
            have hgl : g = w3.heap.size + 1 ∨ (Value.slice A' k c').ownBlock = some g := hat.symm
            have hgb : g ≠ b1 := fun e => by
              rcases hgl with h | h
              · omega
              · rw [e] at h
                exact hvb h
            have hrow4 : RowT w4 (fun q => b1 + 1 ≤ q ∧ q < w4.heap.size ∧ (Value.slice (some ⟨g, 0, none⟩) (k + 1) cap).ownBlock ≠ some q) 17 ((l.take (k + 1)).map fewT) (xs ++ [.int .i64 kind3, .bool b3, .bool neg3, .string dg3, .int .i64 ex3, .int .u64 u3, .int .i64 wd3, .string s3, .slice A1 n1 c1]) := by
              rw [HT.out]
              refine RowT.append ?_ ((HR3.out.keep (fun q hq => hkeep q hq.2.1 hq.2.2)).mono (fun q hq => ⟨hq.1, by omega, fun e => ?_⟩))
              · have h1 : LAt w4 (fun q => b1 + 1 ≤ q ∧ q < w4.heap.size ∧ (Value.slice (some ⟨g, 0, none⟩) (k + 1) cap).ownBlock ≠ some q) 17 t.kids (.slice A1 n1 c1) := by
                  refine (HLY.out.keep (fun q hq => hkeep q (by omega) (fun e => ?_))).mono (fun q hq => ⟨by omega, by omega, fun e => ?_⟩)
                  · have := (HQ.out q e).2
                    omega
                  · have e' : g = q := by simpa [Value.ownBlock] using e
                    rcases hgl with h | h
                    · omega
                    · have := (hg0 h).2
                      omega
                have h2 := RowT.one (t := t) (y := .slice A1 n1 c1) (by rw [HO3.out]; exact HFO.out) h1
                rw [HO3.out] at h2
                exact h2
              · have e' : g = q := by simpa [Value.ownBlock] using e
                subst e'
                rcases hgl with h | h
                · omega
                · exact hq.2.2 h
            have hbw4 : Below w.heap.size w w4 := (hbw3.alloc hbw3.size _).grown hgrow (by simp; omega) (fun q e => (HQ.out q e).1)
            have hs5 : Blk (w4.setCell ⟨b1, 8, none⟩ (.slice (some ⟨g, 0, none⟩) (k + 1) cap)) b1 #[.int .i64 7, .bool false, .bool false, .string ⟨#[]⟩, .int .i64 0, .int .u64 0, .int .i64 0, .string ⟨#[]⟩, (.slice (some ⟨g, 0, none⟩) (k + 1) cap)] 27 := hblk4.set 8 _
            have hown5 := ownsRow_setCell_other hown4 (a := ⟨b1, 8, none⟩) (by simpa [Value.ownBlock] using hgb) (.slice (some ⟨g, 0, none⟩) (k + 1) cap)
            have hrow5 := hrow4.keep (W' := w4.setCell ⟨b1, 8, none⟩ (.slice (some ⟨g, 0, none⟩) (k + 1) cap)) (fun q hq => Below.heap_setCell w4 ⟨b1, 8, none⟩ _ q (by show q ≠ b1; omega))
            have hbw5 := hbw4.setCell (p := ⟨b1, 8, none⟩) hB1 (.slice (some ⟨g, 0, none⟩) (k + 1) cap)
            have hsz5 : (w4.setCell ⟨b1, 8, none⟩ (.slice (some ⟨g, 0, none⟩) (k + 1) cap)).heap.size = w4.heap.size := by simp [World.setCell]
            have HR5 := Lib.hid hrow5
            have HO5 := Lib.hid hown5
            have HK5 := Lib.hid hs5
            have HB5 := Lib.hid hbw5
            clear hgrow hat hgl hg0 hkeep hrow4 hown4 hown3 HR3 HLY HQ HB1 hbw hbw3 hbw4 hblk4 hrow5 hown5 hs5 hbw5
            rw [HW2.out]
            go_roundw
            case rel => exact ⟨k + 1, _, _, want2, false, by omega, by omega, by go_num, rfl, rfl, HW2L, HW2Z.out, HB2, HO5.out, by rw [hsz5]; exact HR5.out, HB5.out, HK5.out, by simpa [Value.ownBlock] using hgb⟩
            case measure => simp [intOf]; omega
          · skip
            obtain ⟨want2, hw2⟩ : ∃ s, want ++ ⟨#[44]⟩ ++ ct = s := ⟨_, rfl⟩
            have hw2l : want2.data.toList = 91 :: sepJ true ((l.take (k + 1)).map fewT) := by
              rw [HNEXT.out, if_neg h0, ← hw2, app_list, app_list]
              simp
            have hw2z : want2.size ≤ 1 + (k + 1) * 900001 := by
              rw [← hw2, ByteArray.size_append, ByteArray.size_append]
              have := HWT.out
              have e1 : (⟨#[44]⟩ : ByteArray).size = 1 := rfl
              omega
            have hb2 : OkAll false ((l.take (k + 1)).map fewT) := by
              have := HALL.out
              rw [decide_eq_false h1] at this
              exact this
            have ys : ¬ 9223372036854775807 < want.size + 1 + ct.size := by have := HWT.out; omega
            have ys2 : ¬ 9223372036854775807 < want.size + 1 := by omega
            have y7 : (0 : Int) < k := by omega
            have y8 : (ck == 0) = false := by rw [beq_eq_false_iff_ne]; exact h1
            have HW2 := Lib.hid hw2
            have HW2L := Lib.hid hw2l
            have HW2Z := Lib.hid hw2z
            have HB2 := Lib.hid hb2
            clear hw2 hw2l hw2z hb2 HNEXT HALL HWT h0 h1
            go_wp2_with (at_builtin; refine wpList_append_lies _ rfl _ _ 25 rfl w.heap.size 27 i0 (.agg #[.int .i64 0, .bool false, .bool false, .string ⟨#[]⟩, .int .i64 0, .int .u64 0, .int .i64 0, .string ⟨#[]⟩, .slice none 0 0]) 9 104 Tryz.underlying25 HI.out HZ0.out HZ1.out HZ2.out rfl (by decide) _ _ _ rfl (hown3.alloc _) ⟨w3.heap.size, 0, none⟩ 1 1 [.int .i64 kind3, .bool b3, .bool neg3, .string dg3, .int .i64 ex3, .int .u64 u3, .int .i64 wd3, .string s3, .slice A1 n1 c1] rfl rfl (cells_newT _ [.int .i64 kind3, .bool b3, .bool neg3, .string dg3, .int .i64 ex3, .int .u64 u3, .int .i64 wd3, .string s3, .slice A1 n1 c1] _) (by intro u hu; simp at hu; rcases hu with rfl | rfl | rfl | rfl | rfl | rfl | rfl | rfl | rfl <;> rfl) (by decide) (by omega) (by omega) (by simp; omega) (w3.heap.size + 1) (by simp) ?_; intro g cap w4 hown4 hgrow hat hg4; have hblk4 : Blk w4 b1 #[.int .i64 7, .bool false, .bool false, .string ⟨#[]⟩, .int .i64 0, .int .u64 0, .int .i64 0, .string ⟨#[]⟩, (.slice A' k c')] 27 := blk_keep HB1.out (by rw [hgrow.block b1 (by simp; omega) (fun e => hvb e.symm)]; exact ((Below.refl w3.heap.size w3).alloc (Nat.le_refl _) _).block b1 (by omega)); have f8 := hblk4.frozen 8; have z8 := hblk4.cell 8)
            have hg0 : (Value.slice A' k c').ownBlock = some g → w.heap.size ≤ g ∧ g < wr.heap.size := fun e => HQ.out g e
            have hsz4 : w3.heap.size + 1 ≤ w4.heap.size := by
              have := hgrow.size
              simpa using this
            have hkeep : ∀ q, q < w3.heap.size → (Value.slice A' k c').ownBlock ≠ some q → w4.heap[q]? = w3.heap[q]? := fun q hq hne => by
              rw [hgrow.block q (by simp; omega) (fun e => hne e.symm)]
              exact ((Below.refl w3.heap.size w3).alloc (Nat.le_refl _) _).block q hq
            have hgl : g = w3.heap.size + 1 ∨ (Value.slice A' k c').ownBlock = some g := hat.symm
            have hgb : g ≠ b1 := fun e => by
              rcases hgl with h | h
              · omega
              · rw [e] at h
                exact hvb h
            have hrow4 : RowT w4 (fun q => b1 + 1 ≤ q ∧ q < w4.heap.size ∧ (Value.slice (some ⟨g, 0, none⟩) (k + 1) cap).ownBlock ≠ some q) 17 ((l.take (k + 1)).map fewT) (xs ++ [.int .i64 kind3, .bool b3, .bool neg3, .string dg3, .int .i64 ex3, .int .u64 u3, .int .i64 wd3, .string s3, .slice A1 n1 c1]) := by
              rw [HT.out]
              refine RowT.append ?_ ((HR3.out.keep (fun q hq => hkeep q hq.2.1 hq.2.2)).mono (fun q hq => ⟨hq.1, by omega, fun e => ?_⟩))
              · have h1 : LAt w4 (fun q => b1 + 1 ≤ q ∧ q < w4.heap.size ∧ (Value.slice (some ⟨g, 0, none⟩) (k + 1) cap).ownBlock ≠ some q) 17 t.kids (.slice A1 n1 c1) := by
                  refine (HLY.out.keep (fun q hq => hkeep q (by omega) (fun e => ?_))).mono (fun q hq => ⟨by omega, by omega, fun e => ?_⟩)
                  · have := (HQ.out q e).2
                    omega
                  · have e' : g = q := by simpa [Value.ownBlock] using e
                    rcases hgl with h | h
                    · omega
                    · have := (hg0 h).2
                      omega
                have h2 := RowT.one (t := t) (y := .slice A1 n1 c1) (by rw [HO3.out]; exact HFO.out) h1
                rw [HO3.out] at h2
                exact h2
              · have e' : g = q := by simpa [Value.ownBlock] using e
                subst e'
                rcases hgl with h | h
                · omega
                · exact hq.2.2 h
            have hbw4 : Below w.heap.size w w4 := (hbw3.alloc hbw3.size _).grown hgrow (by simp; omega) (fun q e => (HQ.out q e).1)
            have hs5 : Blk (w4.setCell ⟨b1, 8, none⟩ (.slice (some ⟨g, 0, none⟩) (k + 1) cap)) b1 #[.int .i64 7, .bool false, .bool false, .string ⟨#[]⟩, .int .i64 0, .int .u64 0, .int .i64 0, .string ⟨#[]⟩, (.slice (some ⟨g, 0, none⟩) (k + 1) cap)] 27 := hblk4.set 8 _
            have hown5 := ownsRow_setCell_other hown4 (a := ⟨b1, 8, none⟩) (by simpa [Value.ownBlock] using hgb) (.slice (some ⟨g, 0, none⟩) (k + 1) cap)
            have hrow5 := hrow4.keep (W' := w4.setCell ⟨b1, 8, none⟩ (.slice (some ⟨g, 0, none⟩) (k + 1) cap)) (fun q hq => Below.heap_setCell w4 ⟨b1, 8, none⟩ _ q (by show q ≠ b1; omega))
            have hbw5 := hbw4.setCell (p := ⟨b1, 8, none⟩) hB1 (.slice (some ⟨g, 0, none⟩) (k + 1) cap)
            have hsz5 : (w4.setCell ⟨b1, 8, none⟩ (.slice (some ⟨g, 0, none⟩) (k + 1) cap)).heap.size = w4.heap.size := by simp [World.setCell]
            have HR5 := Lib.hid hrow5
            have HO5 := Lib.hid hown5
            have HK5 := Lib.hid hs5
            have HB5 := Lib.hid hbw5
            clear hgrow hat hgl hg0 hkeep hrow4 hown4 hown3 HR3 HLY HQ HB1 hbw hbw3 hbw4 hblk4 hrow5 hown5 hs5 hbw5
            rw [HW2.out]
            go_roundw
            case rel => exact ⟨k + 1, _, _, want2, false, by omega, by omega, by go_num, rfl, rfl, HW2L, HW2Z.out, HB2, HO5.out, by rw [hsz5]; exact HR5.out, HB5.out, HK5.out, by simpa [Value.ownBlock] using hgb⟩
            case measure => simp [intOf]; omega
      | false =>
        by_cases h0 : k = 0
        · skip
          obtain ⟨want2, hw2⟩ : ∃ s, want ++ ct = s := ⟨_, rfl⟩
          have hw2l : want2.data.toList = 91 :: sepJ true ((l.take (k + 1)).map fewT) := by
            rw [HNEXT.out, if_pos h0, ← hw2, app_list]
            rfl
          have hw2z : want2.size ≤ 1 + (k + 1) * 900001 := by
            rw [← hw2, ByteArray.size_append]
            have := HWT.out
            
            omega
          have hb2 : OkAll false ((l.take (k + 1)).map fewT) := by
            have := HALL.out
            rw [Bool.false_and] at this
            exact this
          have ys : ¬ 9223372036854775807 < want.size + ct.size := by have := HWT.out; omega

          have y7 : ¬ (0 : Int) < k := by omega

          have HW2 := Lib.hid hw2
          have HW2L := Lib.hid hw2l
          have HW2Z := Lib.hid hw2z
          have HB2 := Lib.hid hb2
          clear hw2 hw2l hw2z hb2 HNEXT HALL HWT h0
          go_wp2_with (at_builtin; refine wpList_append_lies _ rfl _ _ 25 rfl w.heap.size 27 i0 (.agg #[.int .i64 0, .bool false, .bool false, .string ⟨#[]⟩, .int .i64 0, .int .u64 0, .int .i64 0, .string ⟨#[]⟩, .slice none 0 0]) 9 104 Tryz.underlying25 HI.out HZ0.out HZ1.out HZ2.out rfl (by decide) _ _ _ rfl (hown3.alloc _) ⟨w3.heap.size, 0, none⟩ 1 1 [.int .i64 kind3, .bool b3, .bool neg3, .string dg3, .int .i64 ex3, .int .u64 u3, .int .i64 wd3, .string s3, .slice A1 n1 c1] rfl rfl (cells_newT _ [.int .i64 kind3, .bool b3, .bool neg3, .string dg3, .int .i64 ex3, .int .u64 u3, .int .i64 wd3, .string s3, .slice A1 n1 c1] _) (by intro u hu; simp at hu; rcases hu with rfl | rfl | rfl | rfl | rfl | rfl | rfl | rfl | rfl <;> rfl) (by decide) (by omega) (by omega) (by simp; omega) (w3.heap.size + 1) (by simp) ?_; intro g cap w4 hown4 hgrow hat hg4; have hblk4 : Blk w4 b1 #[.int .i64 7, .bool false, .bool false, .string ⟨#[]⟩, .int .i64 0, .int .u64 0, .int .i64 0, .string ⟨#[]⟩, (.slice A' k c')] 27 := blk_keep HB1.out (by rw [hgrow.block b1 (by simp; omega) (fun e => hvb e.symm)]; exact ((Below.refl w3.heap.size w3).alloc (Nat.le_refl _) _).block b1 (by omega)); have f8 := hblk4.frozen 8; have z8 := hblk4.cell 8)
          have hg0 : (Value.slice A' k c').ownBlock = some g → w.heap.size ≤ g ∧ g < wr.heap.size := fun e => HQ.out g e
          have hsz4 : w3.heap.size + 1 ≤ w4.heap.size := by
            have := hgrow.size
            simpa using this
          have hkeep : ∀ q, q < w3.heap.size → (Value.slice A' k c').ownBlock ≠ some q → w4.heap[q]? = w3.heap[q]? := fun q hq hne => by
            rw [hgrow.block q (by simp; omega) (fun e => hne e.symm)]
            exact ((Below.refl w3.heap.size w3).alloc (Nat.le_refl _) _).block q hq
          have hgl : g = w3.heap.size + 1 ∨ (Value.slice A' k c').ownBlock = some g := hat.symm
          have hgb : g ≠ b1 := fun e => by
            rcases hgl with h | h
            · omega
            · rw [e] at h
              exact hvb h
          have hrow4 : RowT w4 (fun q => b1 + 1 ≤ q ∧ q < w4.heap.size ∧ (Value.slice (some ⟨g, 0, none⟩) (k + 1) cap).ownBlock ≠ some q) 17 ((l.take (k + 1)).map fewT) (xs ++ [.int .i64 kind3, .bool b3, .bool neg3, .string dg3, .int .i64 ex3, .int .u64 u3, .int .i64 wd3, .string s3, .slice A1 n1 c1]) := by
            rw [HT.out]
            refine RowT.append ?_ ((HR3.out.keep (fun q hq => hkeep q hq.2.1 hq.2.2)).mono (fun q hq => ⟨hq.1, by omega, fun e => ?_⟩))
            · have h1 : LAt w4 (fun q => b1 + 1 ≤ q ∧ q < w4.heap.size ∧ (Value.slice (some ⟨g, 0, none⟩) (k + 1) cap).ownBlock ≠ some q) 17 t.kids (.slice A1 n1 c1) := by
                refine (HLY.out.keep (fun q hq => hkeep q (by omega) (fun e => ?_))).mono (fun q hq => ⟨by omega, by omega, fun e => ?_⟩)
                · have := (HQ.out q e).2
                  omega
                · have e' : g = q := by simpa [Value.ownBlock] using e
                  rcases hgl with h | h
                  · omega
                  · have := (hg0 h).2
                    omega
              have h2 := RowT.one (t := t) (y := .slice A1 n1 c1) (by rw [HO3.out]; exact HFO.out) h1
              rw [HO3.out] at h2
              exact h2
            · have e' : g = q := by simpa [Value.ownBlock] using e
              subst e'
              rcases hgl with h | h
              · omega
              · exact hq.2.2 h
          have hbw4 : Below w.heap.size w w4 := (hbw3.alloc hbw3.size _).grown hgrow (by simp; omega) (fun q e => (HQ.out q e).1)
          have hs5 : Blk (w4.setCell ⟨b1, 8, none⟩ (.slice (some ⟨g, 0, none⟩) (k + 1) cap)) b1 #[.int .i64 7, .bool false, .bool false, .string ⟨#[]⟩, .int .i64 0, .int .u64 0, .int .i64 0, .string ⟨#[]⟩, (.slice (some ⟨g, 0, none⟩) (k + 1) cap)] 27 := hblk4.set 8 _
          have hown5 := ownsRow_setCell_other hown4 (a := ⟨b1, 8, none⟩) (by simpa [Value.ownBlock] using hgb) (.slice (some ⟨g, 0, none⟩) (k + 1) cap)
          have hrow5 := hrow4.keep (W' := w4.setCell ⟨b1, 8, none⟩ (.slice (some ⟨g, 0, none⟩) (k + 1) cap)) (fun q hq => Below.heap_setCell w4 ⟨b1, 8, none⟩ _ q (by show q ≠ b1; omega))
          have hbw5 := hbw4.setCell (p := ⟨b1, 8, none⟩) hB1 (.slice (some ⟨g, 0, none⟩) (k + 1) cap)
          have hsz5 : (w4.setCell ⟨b1, 8, none⟩ (.slice (some ⟨g, 0, none⟩) (k + 1) cap)).heap.size = w4.heap.size := by simp [World.setCell]
          have HR5 := Lib.hid hrow5
          have HO5 := Lib.hid hown5
          have HK5 := Lib.hid hs5
          have HB5 := Lib.hid hbw5
          clear hgrow hat hgl hg0 hkeep hrow4 hown4 hown3 HR3 HLY HQ HB1 hbw hbw3 hbw4 hblk4 hrow5 hown5 hs5 hbw5
          rw [HW2.out]
          go_roundw
          case rel => exact ⟨k + 1, _, _, want2, false, by omega, by omega, by go_num, rfl, rfl, HW2L, HW2Z.out, HB2, HO5.out, by rw [hsz5]; exact HR5.out, HB5.out, HK5.out, by simpa [Value.ownBlock] using hgb⟩
          case measure => simp [intOf]; omega
        · skip
          obtain ⟨want2, hw2⟩ : ∃ s, want ++ ⟨#[44]⟩ ++ ct = s := ⟨_, rfl⟩
          have hw2l : want2.data.toList = 91 :: sepJ true ((l.take (k + 1)).map fewT) := by
            rw [HNEXT.out, if_neg h0, ← hw2, app_list, app_list]
            simp
          have hw2z : want2.size ≤ 1 + (k + 1) * 900001 := by
            rw [← hw2, ByteArray.size_append, ByteArray.size_append]
            have := HWT.out
            have e1 : (⟨#[44]⟩ : ByteArray).size = 1 := rfl
            omega
          have hb2 : OkAll false ((l.take (k + 1)).map fewT) := by
            have := HALL.out
            rw [Bool.false_and] at this
            exact this
          have ys : ¬ 9223372036854775807 < want.size + 1 + ct.size := by have := HWT.out; omega
          have ys2 : ¬ 9223372036854775807 < want.size + 1 := by omega
          have y7 : (0 : Int) < k := by omega

          have HW2 := Lib.hid hw2
          have HW2L := Lib.hid hw2l
          have HW2Z := Lib.hid hw2z
          have HB2 := Lib.hid hb2
          clear hw2 hw2l hw2z hb2 HNEXT HALL HWT h0
          go_wp2_with (at_builtin; refine wpList_append_lies _ rfl _ _ 25 rfl w.heap.size 27 i0 (.agg #[.int .i64 0, .bool false, .bool false, .string ⟨#[]⟩, .int .i64 0, .int .u64 0, .int .i64 0, .string ⟨#[]⟩, .slice none 0 0]) 9 104 Tryz.underlying25 HI.out HZ0.out HZ1.out HZ2.out rfl (by decide) _ _ _ rfl (hown3.alloc _) ⟨w3.heap.size, 0, none⟩ 1 1 [.int .i64 kind3, .bool b3, .bool neg3, .string dg3, .int .i64 ex3, .int .u64 u3, .int .i64 wd3, .string s3, .slice A1 n1 c1] rfl rfl (cells_newT _ [.int .i64 kind3, .bool b3, .bool neg3, .string dg3, .int .i64 ex3, .int .u64 u3, .int .i64 wd3, .string s3, .slice A1 n1 c1] _) (by intro u hu; simp at hu; rcases hu with rfl | rfl | rfl | rfl | rfl | rfl | rfl | rfl | rfl <;> rfl) (by decide) (by omega) (by omega) (by simp; omega) (w3.heap.size + 1) (by simp) ?_; intro g cap w4 hown4 hgrow hat hg4; have hblk4 : Blk w4 b1 #[.int .i64 7, .bool false, .bool false, .string ⟨#[]⟩, .int .i64 0, .int .u64 0, .int .i64 0, .string ⟨#[]⟩, (.slice A' k c')] 27 := blk_keep HB1.out (by rw [hgrow.block b1 (by simp; omega) (fun e => hvb e.symm)]; exact ((Below.refl w3.heap.size w3).alloc (Nat.le_refl _) _).block b1 (by omega)); have f8 := hblk4.frozen 8; have z8 := hblk4.cell 8)
          have hg0 : (Value.slice A' k c').ownBlock = some g → w.heap.size ≤ g ∧ g < wr.heap.size := fun e => HQ.out g e
          have hsz4 : w3.heap.size + 1 ≤ w4.heap.size := by
            have := hgrow.size
            simpa using this
          have hkeep : ∀ q, q < w3.heap.size → (Value.slice A' k c').ownBlock ≠ some q → w4.heap[q]? = w3.heap[q]? := fun q hq hne => by
            rw [hgrow.block q (by simp; omega) (fun e => hne e.symm)]
            exact ((Below.refl w3.heap.size w3).alloc (Nat.le_refl _) _).block q hq
          have hgl : g = w3.heap.size + 1 ∨ (Value.slice A' k c').ownBlock = some g := hat.symm
          have hgb : g ≠ b1 := fun e => by
            rcases hgl with h | h
            · omega
            · rw [e] at h
              exact hvb h
          have hrow4 : RowT w4 (fun q => b1 + 1 ≤ q ∧ q < w4.heap.size ∧ (Value.slice (some ⟨g, 0, none⟩) (k + 1) cap).ownBlock ≠ some q) 17 ((l.take (k + 1)).map fewT) (xs ++ [.int .i64 kind3, .bool b3, .bool neg3, .string dg3, .int .i64 ex3, .int .u64 u3, .int .i64 wd3, .string s3, .slice A1 n1 c1]) := by
            rw [HT.out]
            refine RowT.append ?_ ((HR3.out.keep (fun q hq => hkeep q hq.2.1 hq.2.2)).mono (fun q hq => ⟨hq.1, by omega, fun e => ?_⟩))
            · have h1 : LAt w4 (fun q => b1 + 1 ≤ q ∧ q < w4.heap.size ∧ (Value.slice (some ⟨g, 0, none⟩) (k + 1) cap).ownBlock ≠ some q) 17 t.kids (.slice A1 n1 c1) := by
                refine (HLY.out.keep (fun q hq => hkeep q (by omega) (fun e => ?_))).mono (fun q hq => ⟨by omega, by omega, fun e => ?_⟩)
                · have := (HQ.out q e).2
                  omega
                · have e' : g = q := by simpa [Value.ownBlock] using e
                  rcases hgl with h | h
                  · omega
                  · have := (hg0 h).2
                    omega
              have h2 := RowT.one (t := t) (y := .slice A1 n1 c1) (by rw [HO3.out]; exact HFO.out) h1
              rw [HO3.out] at h2
              exact h2
            · have e' : g = q := by simpa [Value.ownBlock] using e
              subst e'
              rcases hgl with h | h
              · omega
              · exact hq.2.2 h
          have hbw4 : Below w.heap.size w w4 := (hbw3.alloc hbw3.size _).grown hgrow (by simp; omega) (fun q e => (HQ.out q e).1)
          have hs5 : Blk (w4.setCell ⟨b1, 8, none⟩ (.slice (some ⟨g, 0, none⟩) (k + 1) cap)) b1 #[.int .i64 7, .bool false, .bool false, .string ⟨#[]⟩, .int .i64 0, .int .u64 0, .int .i64 0, .string ⟨#[]⟩, (.slice (some ⟨g, 0, none⟩) (k + 1) cap)] 27 := hblk4.set 8 _
          have hown5 := ownsRow_setCell_other hown4 (a := ⟨b1, 8, none⟩) (by simpa [Value.ownBlock] using hgb) (.slice (some ⟨g, 0, none⟩) (k + 1) cap)
          have hrow5 := hrow4.keep (W' := w4.setCell ⟨b1, 8, none⟩ (.slice (some ⟨g, 0, none⟩) (k + 1) cap)) (fun q hq => Below.heap_setCell w4 ⟨b1, 8, none⟩ _ q (by show q ≠ b1; omega))
          have hbw5 := hbw4.setCell (p := ⟨b1, 8, none⟩) hB1 (.slice (some ⟨g, 0, none⟩) (k + 1) cap)
          have hsz5 : (w4.setCell ⟨b1, 8, none⟩ (.slice (some ⟨g, 0, none⟩) (k + 1) cap)).heap.size = w4.heap.size := by simp [World.setCell]
          have HR5 := Lib.hid hrow5
          have HO5 := Lib.hid hown5
          have HK5 := Lib.hid hs5
          have HB5 := Lib.hid hbw5
          clear hgrow hat hgl hg0 hkeep hrow4 hown4 hown3 HR3 HLY HQ HB1 hbw hbw3 hbw4 hblk4 hrow5 hown5 hs5 hbw5
          rw [HW2.out]
          go_roundw
          case rel => exact ⟨k + 1, _, _, want2, false, by omega, by omega, by go_num, rfl, rfl, HW2L, HW2Z.out, HB2, HO5.out, by rw [hsz5]; exact HR5.out, HB5.out, HK5.out, by simpa [Value.ownBlock] using hgb⟩
          case measure => simp [intOf]; omega
    · obtain ⟨g, hg⟩ : ∃ g, (l.take k).map fewT = g := ⟨_, rfl⟩
      have hgl : g.length = k := by
        rw [← hg, List.length_map, List.length_take]
        have := HN.out
        omega
      have hgc : countL g ≤ 2400 := by
        have : ∀ q : List Tr, countL (q.map fewT) ≤ 400 * q.length := fun q => by
          induction q with
          | nil => simp [countL]
          | cons t q ih =>
            have := few_count t
            rw [List.map_cons, countL, List.length_cons]
            omega
        have h1 := this (l.take k)
        rw [hg, List.length_take] at h1
        omega
      have hwant := HWANT.out
      have hokb : b = true ↔ ∀ t ∈ (l.take k).map fewT, checkT 1 flJ t = 0 := HOKB.out
      rw [hg] at hwant hokb hrow
      clear HWANT HOKB
      have hls : ListAt wr wr.heap.size 18 g (.slice A' k c') := hrow.list hown hgl.symm (by omega) (fun q hq => hq.2.1) (fun a e => by
        subst e
        exact (hown.lt a.block rfl).2)
      have ho7 : OwnOk (outJ g).own := okOJ { zeroO with kind := 7 } (by decide) (by decide) (by decide) (by decide) rfl rfl
      have hcn : (outJ g).count ≤ 2401 := by
        rw [Tr.count_eq]
        show 1 + countL g ≤ 2401
        omega
      have HK := jw_Write (outJ g) (.slice A' k c') wr wr.heap.size 18 aT aF hls ho7 (Nat.le_refl _) (by omega) (HU.out _ hbw)
      have HRC := Lib.hid (fun W (hW : Below wr.heap.size wr W) => ref_Count 18 (outJ g) (.slice A' k c') W wr.heap.size (hls.below hW (Nat.le_refl _)) hW.size (by omega))
      have HRD := Lib.hid (fun W (hW : Below wr.heap.size wr W) => ref_Depth 18 (outJ g) (.slice A' k c') W wr.heap.size (hls.below hW (Nat.le_refl _)) hW.size (by omega))
      obtain ⟨cn, hcn'⟩ : ∃ cn, (outJ g).count = cn := ⟨_, rfl⟩
      obtain ⟨dn, hdn⟩ : ∃ dn, (outJ g).depth = dn := ⟨_, rfl⟩
      simp only [hcn'] at HRC
      simp only [hdn] at HRD
      have hdc := depth_count (outJ g)
      rw [hdn, hcn'] at hdc
      have hyes : b = true → checkT 1 flJ (outJ g) = if cn ≤ 300 ∧ dn ≤ 16 then 0 else 60 := fun hb => by
        rw [out_yes (hokb.1 hb), hcn', hdn]
      have hno : b = false → ¬ checkT 1 flJ (outJ g) = 0 := fun hb h0 => by
        have := hokb.2 (out_no h0)
        rw [hb] at this
        cases this
      have hdoc : b = true → checkT 1 flJ (outJ g) = 0 → wroteJ false (outJ g) (checkT 1 flJ (outJ g)) = want ++ ⟨#[93]⟩ := fun hb h0 => by
        rw [h0, wroteJ, if_pos rfl, out_doc (hokb.1 hb)]
        apply ByteArray.ext
        apply Array.toList_inj.1
        rw [app_list, hwant]
        rfl
      rw [hcn'] at hcn
      obtain ⟨ck, hck⟩ : ∃ ck, checkT 1 flJ (outJ g) = ck := ⟨_, rfl⟩
      rw [hck] at HK hyes hno hdoc
      obtain ⟨ct, hct⟩ : ∃ ct, wroteJ false (outJ g) ck = ct := ⟨_, rfl⟩
      rw [hct] at HK hdoc
      have yz : ¬ 9223372036854775807 < want.size + 1 := by omega
      unfold nodeV at HK HRC HRD
      simp only [Tr.own] at HK HRC HRD
      have z0 := hbo.cell 0
      have z1 := hbo.cell 1
      have z2 := hbo.cell 2
      have z3 := hbo.cell 3
      have z4 := hbo.cell 4
      have z5 := hbo.cell 5
      have z6 := hbo.cell 6
      have z7 := hbo.cell 7
      have z8 := hbo.cell 8
      have HYES := Lib.hid hyes
      have HNO := Lib.hid hno
      have HDOC := Lib.hid hdoc
      have HK := Lib.hid HK
      clear hyes hno hdoc hct hck hcn' hdn ho7 hls hg hrow hown hgc hwant hokb
      have y1 : ((k : Int) < n ∧ ¬ (k : Int) < 5) ∨ ¬ (k : Int) < n := by omega
      rcases y1 with ⟨y2, y3⟩ | y2
      all_goals (
        clear hgo
        go_wp2_with fail
        refine HK.out.mono ?_
        rintro e w5 ⟨rfl, hb5⟩
        have hbo5 := hbo.below hb5 hbo.lt
        have HB5 := Lib.hid hb5
        have hbw5 := hbw.trans (hb5.mono hbw.size)
        clear z0 z1 z2 z3 z4 z5 z6 z7 z8
        have z0 := hbo5.cell 0
        have z1 := hbo5.cell 1
        have z2 := hbo5.cell 2
        have z3 := hbo5.cell 3
        have z4 := hbo5.cell 4
        have z5 := hbo5.cell 5
        have z6 := hbo5.cell 6
        have z7 := hbo5.cell 7
        have z8 := hbo5.cell 8
        clear HK hb5 hbo
        cases b with
        | false =>
          have y9 : (ck != 0) = true := by rw [bne_iff_ne]; exact HNO.out rfl
          clear HYES HNO HDOC HRC HRD
          go_wp2_with fail
          go_ret
          exact ⟨rfl, hbw5⟩
        | true =>
        have HOC := HYES.out rfl
        have hdoc := HDOC.out rfl
        clear HYES HNO HDOC
        by_cases hq : cn ≤ 300 ∧ dn ≤ 16
        · rw [if_pos hq] at HOC
          subst HOC
          have hct := hdoc rfl
          subst hct
          clear hq HRC HRD hdoc
          go_wp2_with fail
          go_ret
          exact ⟨rfl, hbw5⟩
        · rw [if_neg hq] at HOC
          subst HOC
          by_cases hc : cn ≤ 300
          · have y4 : ¬ (300 : Int) < cn := by omega
            have y5 : (16 : Int) < dn := by omega
            clear hq hc hdoc
            go_wp2_with fail
            refine (HRC.out _ HB5.out).mono ?_
            rintro e w6 ⟨rfl, hb6⟩
            have hb56 := HB5.out.trans (hb6.mono HB5.out.size)
            have hbo6 := hbo5.below hb6 hbo5.lt
            have hbw6 := hbw5.trans (hb6.mono hbw5.size)
            clear z0 z1 z2 z3 z4 z5 z6 z7 z8
            have z0 := hbo6.cell 0
            have z1 := hbo6.cell 1
            have z2 := hbo6.cell 2
            have z3 := hbo6.cell 3
            have z4 := hbo6.cell 4
            have z5 := hbo6.cell 5
            have z6 := hbo6.cell 6
            have z7 := hbo6.cell 7
            have z8 := hbo6.cell 8
            have HB6 := Lib.hid hb56
            clear hb6 hb56 hbo5 hbw5 HRC
            go_wp2_with fail
            refine (HRD.out _ HB6.out).mono ?_
            rintro e w7 ⟨rfl, hb7⟩
            have hbw7 := hbw6.trans (hb7.mono hbw6.size)
            clear z0 z1 z2 z3 z4 z5 z6 z7 z8 hb7 hbw6 HRD
            go_wp2_with fail
            go_ret
            exact ⟨rfl, hbw7⟩
          · have y4 : (300 : Int) < cn := by omega
            clear hq hc hdoc
            go_wp2_with fail
            refine (HRC.out _ HB5.out).mono ?_
            rintro e w6 ⟨rfl, hb6⟩
            have hbw6 := hbw5.trans (hb6.mono hbw5.size)
            clear z0 z1 z2 z3 z4 z5 z6 z7 z8 hb6 hbo5 hbw5 HRC HRD
            go_wp2_with fail
            go_ret
            exact ⟨rfl, hbw6⟩)
end Go.Proofs.YtfckekaegjjmkaaGreatDoor
