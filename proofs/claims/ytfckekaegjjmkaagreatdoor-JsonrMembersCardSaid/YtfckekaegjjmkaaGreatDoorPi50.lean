/- The texts JrMW, put together. -/
import Derived.Test.YtfckekaegjjmkaaGreatDoorPi44
import Derived.Test.YtfckekaegjjmkaaGreatDoorPi45
import Derived.Test.YtfckekaegjjmkaaGreatDoorPi48
import Derived.Test.YtfckekaegjjmkaaGreatDoorPi40
import Derived.Test.YtfckekaegjjmkaaGreatDoorPi02
import Derived.Test.YtfckekaegjjmkaaGreatDoorPi49
import Derived.Deep.CutRange
namespace Go.Proofs.YtfckekaegjjmkaaGreatDoor
open Go.RowKit Go.Shelf
attribute [local go_sem] Oper.semAt_some

theorem infoStr : (Tryz.prog.info? 9).map (fun i => (i.zero, i.size, i.bytes)) = some (some (.string ⟨#[]⟩), 1, 16) := by kernel_rfl
/-- A row of texts of one's own. -/
theorem own_strs {W : World} {base n c : Nat} {e : TypeId} {A : Option Addr} {ks : List ByteArray} (h : W.ownsRow base e 1 (.slice A n c) n (ks.map .string)) (hn : 0 < n) :
    ∃ ad : Addr, A = some ad ∧ ∀ j (hj : j < ks.length), W.cell? (ad.add j) = some (.string ks[j]) := by
  obtain ⟨hl, h | ⟨g, cap, cur, hv, _, hg, h1, _, h3, h4⟩⟩ := h
  · omega
  · injection hv with hv
    refine ⟨⟨g, 0, none⟩, hv, fun j hj => ?_⟩
    have ha : (⟨g, 0, none⟩ : Addr).add j = ⟨g, j, none⟩ := by
      unfold Addr.add
      split
      · rename_i e
        rw [e]
      · simp
    have hk : Blk W g cur e := hg
    rw [ha, hk.cell]
    have h5 : (cur.toList.take (n * 1))[j]? = (ks.map Value.string)[j]? := by rw [h4]
    rw [List.length_map, Nat.mul_one] at hl
    rw [List.getElem?_take_of_lt (by omega), List.getElem?_map, List.getElem?_eq_getElem hj] at h5
    simpa using h5

set_option maxHeartbeats 8000000 in
set_option maxRecDepth 100000 in
theorem members_walk {uT uQ aT aF : Addr} (w : World) (A : Option Addr) (n c : Nat) (l : List ByteArray) (hn : n ≤ 9223372036854775807) (hl : StrsAt w w.heap.size A n l) (h : JRW w uT uQ aT aF) :
    Calls Tryz.prog 10 #[.slice A n c] w fun e w' => e = .returned (.bool true) ∧ Below w.heap.size w w' := by
  obtain ⟨i0, hi, hz0, hz1, hz2⟩ := info_parts infoStr
  have HI := Lib.hid hi
  have HZ0 := Lib.hid hz0
  have HZ1 := Lib.hid hz1
  have HZ2 := Lib.hid hz2
  clear hi hz0 hz1 hz2
  have H1 := Lib.hid (jr_shown w h)
  have H2 := Lib.hid (fun (x : ByteArray) (hx : x.size ≤ 100000000) W (hb : Below w.heap.size w W) => jr_Read x hx W (h.below hb))
  have HL := Lib.hid hl
  have HQ := Lib.hid True.intro
  clear h hl
  go_enter Tryz.func10, Tryz.ntmps10
  go_wp2_with fail
  refine H1.out.mono ?_
  rintro x w1 ⟨rfl, hb1⟩
  clear H1
  go_wp2_with fail
  go_loopw [4, 5, 6, 7, 8] (fun sv nv tv kv iv wr => ∃ (k : Nat) (ks : List ByteArray) (v' : Value) (al : ByteArray) (tw : Bool), k ≤ n ∧ k ≤ 20 ∧ sv = .string al ∧ nv = .int .i64 ks.length ∧ tv = .bool tw ∧ kv = v' ∧ iv = .int .i64 k ∧ Hid (MemG ks al tw) ∧ ks.length ≤ k ∧ al.size ≤ 1 + 126 * k ∧ wr.ownsRow w.heap.size 9 1 v' ks.length (ks.map .string) ∧ Below w.heap.size w wr) (fun _ _ _ _ iv _ => n - (intOf iv).toNat)
  case atStart => exact ⟨0, [], _, _, _, by omega, by omega, rfl, rfl, rfl, rfl, rfl, Lib.hid MemG.start, Nat.le_refl _, by decide, World.ownsRow_nil _ _ _ _, hb1⟩
  case round =>
    obtain ⟨k, ks, v', al, tw, hk, hk20, rfl, rfl, rfl, rfl, rfl, HG, hkl, hak, hown, hbw⟩ := hrel
    obtain ⟨A', c', rfl⟩ := own_sliceT hown
    obtain ⟨m, hm⟩ : ∃ m, ks.length = m := ⟨_, rfl⟩
    rw [hm] at hown hkl ⊢
    have HOWN := Lib.hid hown
    have hzw := hbw.size
    clear hown hb1
    by_cases hk1 : k < n
    · have y1 : (k : Int) < n := by omega
      by_cases hk2 : k < 20
      · have y2 : (k : Int) < 20 := by omega
        obtain ⟨ad, rfl, hab, hcell, hsz⟩ := (HL.out.below hbw (Nat.le_refl _)).at_ k (by have := HL.out.len; omega)
        obtain ⟨sk, hsk⟩ : ∃ x, l[k]'(by have := HL.out.len; omega) = x := ⟨_, rfl⟩
        rw [hsk] at hcell hsz
        obtain ⟨ks', hks⟩ : ∃ k, min sk.size 20 = k := ⟨_, rfl⟩
        have y5 : min (sk.size : Int) 20 = (ks' : Int) := by omega
        have y6 : ks' ≤ sk.size := by omega
        have hez : (sk.extract 0 ks').size = ks' := by simp; omega
        obtain ⟨s, hs⟩ : ∃ s, sk.extract 0 ks' = s := ⟨_, rfl⟩
        rw [hs] at hez
        have hs9 : s.size ≤ 20 := by omega
        have HS := Lib.hid hs
        have hab2 : ad.block < wr.heap.size := Nat.lt_of_lt_of_le hab hbw.size
        clear hsk hks hez hs hsz hab HL H2
        go_wp2_with fail
        refine wp_region_tail (R := fun W W' => Below W.heap.size W W') 11 (by kernel_rfl) (by kernel_rfl) (fun _ => Below.refl _ _) (by kernel_rfl) (by kernel_rfl) (fun W => Below wr.heap.size wr W)
          [fun v _ => v = .slice (some ad) n c, fun v _ => v = .int .i64 k, fun v _ => v = .pointer (some (ad.add k)), fun v _ => v = .string sk, fun v _ => v = .slice (some ad) n c, fun v _ => v = .int .i64 k, fun v _ => v = .pointer (some (ad.add k)), fun v _ => v = .string sk, fun v _ => v = .int .i64 sk.size, fun v _ => v = .int .i64 ks', fun v _ => v = .string s] ?_ ?_ ?_ ?_ ?_
        case refine_1 => exact (Below.refl _ _).drew
        case refine_2 => exact fun W W' he hr => he.trans (hr.mono he.size)
        case refine_3 =>
          intro q hq v W W' _ hv hr
          simp only [List.mem_cons, List.not_mem_nil, or_false] at hq
          rcases hq with rfl | rfl | rfl | rfl | rfl | rfl | rfl | rfl | rfl | rfl | rfl <;> exact hv
        case refine_4 =>
          refine flow_cons (flow_op rfl rfl (by kernel_rfl) (by kernel_rfl) ?_) ?_
          · intro env W hE hn ρ hρ hc hf hg K hK
            have r0 : ρ (.tmp 0) = .slice (some ad) n c := by rw [hρ]; kernel_rfl
            clear hρ hn hg
            simp [opLands, go_sem, r0]
            exact hK _ _ rfl (Below.refl _ _)
          refine flow_cons (flow_op rfl rfl (by kernel_rfl) (by kernel_rfl) ?_) ?_
          · intro env W hE hn ρ hρ hc hf hg K hK
            have r8 : ρ (.tmp 8) = .int .i64 k := by rw [hρ]; kernel_rfl
            clear hρ hn hg
            simp [opLands, go_sem, r8]
            exact hK _ _ rfl (Below.refl _ _)
          refine flow_cons (flow_op rfl rfl (by kernel_rfl) (by kernel_rfl) ?_) ?_
          · intro env W hE hn ρ hρ hc hf hg K hK
            have r27 := (show ρ (.tmp 27) = env 0 by rw [hρ]; kernel_rfl).trans (hn 0 (by kernel_rfl))
            have r28 := (show ρ (.tmp 28) = env 1 by rw [hρ]; kernel_rfl).trans (hn 1 (by kernel_rfl))
            clear hρ hn hg
            simp [opLands, go_sem, r27, r28, y1]
            exact hK _ _ rfl (Below.refl _ _)
          refine flow_cons (flow_op rfl rfl (by kernel_rfl) (by kernel_rfl) ?_) ?_
          · intro env W hE hn ρ hρ hc hf hg K hK
            have r29 := (show ρ (.tmp 29) = env 2 by rw [hρ]; kernel_rfl).trans (hn 2 (by kernel_rfl))
            clear hρ hn hg
            have q0 : W.cell? (ad.add k) = some (.string sk) := (Below.cell hE (by rw [add_block]; omega)).trans hcell
            simp [opLands, go_sem, r29, q0]
            exact hK _ _ rfl (Below.refl _ _)
          refine flow_cons (flow_op rfl rfl (by kernel_rfl) (by kernel_rfl) ?_) ?_
          · intro env W hE hn ρ hρ hc hf hg K hK
            have r0 : ρ (.tmp 0) = .slice (some ad) n c := by rw [hρ]; kernel_rfl
            clear hρ hn hg
            simp [opLands, go_sem, r0]
            exact hK _ _ rfl (Below.refl _ _)
          refine flow_cons (flow_op rfl rfl (by kernel_rfl) (by kernel_rfl) ?_) ?_
          · intro env W hE hn ρ hρ hc hf hg K hK
            have r8 : ρ (.tmp 8) = .int .i64 k := by rw [hρ]; kernel_rfl
            clear hρ hn hg
            simp [opLands, go_sem, r8]
            exact hK _ _ rfl (Below.refl _ _)
          refine flow_cons (flow_op rfl rfl (by kernel_rfl) (by kernel_rfl) ?_) ?_
          · intro env W hE hn ρ hρ hc hf hg K hK
            have r31 := (show ρ (.tmp 31) = env 4 by rw [hρ]; kernel_rfl).trans (hn 4 (by kernel_rfl))
            have r32 := (show ρ (.tmp 32) = env 5 by rw [hρ]; kernel_rfl).trans (hn 5 (by kernel_rfl))
            clear hρ hn hg
            simp [opLands, go_sem, r31, r32, y1]
            exact hK _ _ rfl (Below.refl _ _)
          refine flow_cons (flow_op rfl rfl (by kernel_rfl) (by kernel_rfl) ?_) ?_
          · intro env W hE hn ρ hρ hc hf hg K hK
            have r33 := (show ρ (.tmp 33) = env 6 by rw [hρ]; kernel_rfl).trans (hn 6 (by kernel_rfl))
            clear hρ hn hg
            have q0 : W.cell? (ad.add k) = some (.string sk) := (Below.cell hE (by rw [add_block]; omega)).trans hcell
            simp [opLands, go_sem, r33, q0]
            exact hK _ _ rfl (Below.refl _ _)
          refine flow_cons (flow_op rfl rfl (by kernel_rfl) (by kernel_rfl) ?_) ?_
          · intro env W hE hn ρ hρ hc hf hg K hK
            have r34 := (show ρ (.tmp 34) = env 7 by rw [hρ]; kernel_rfl).trans (hn 7 (by kernel_rfl))
            clear hρ hn hg
            simp [opLands, go_sem, r34]
            exact hK _ _ rfl (Below.refl _ _)
          refine flow_cons (flow_op rfl rfl (by kernel_rfl) (by kernel_rfl) ?_) ?_
          · intro env W hE hn ρ hρ hc hf hg K hK
            have r35 := (show ρ (.tmp 35) = env 8 by rw [hρ]; kernel_rfl).trans (hn 8 (by kernel_rfl))
            clear hρ hn hg
            simp [opLands, go_sem, hc, r35, y5]
            exact hK _ _ rfl (Below.refl _ _)
          refine flow_cons (flow_op rfl rfl (by kernel_rfl) (by kernel_rfl) ?_) flow_nil
          · intro env W hE hn ρ hρ hc hf hg K hK
            have r30 := (show ρ (.tmp 30) = env 3 by rw [hρ]; kernel_rfl).trans (hn 3 (by kernel_rfl))
            have r36 := (show ρ (.tmp 36) = env 9 by rw [hρ]; kernel_rfl).trans (hn 9 (by kernel_rfl))
            clear hρ hn hg
            simp [opLands, go_sem, r30, r36, y6, HS.out]
            exact hK _ _ rfl (Below.refl _ _)
        case refine_5 =>
          intro env W hE hn
          have e10 : env 10 = .string s := hn 10 (by decide)
          clear hn
          simp only [List.take_succ_cons, List.take_zero, List.drop_succ_cons, List.drop_zero, frameAll, e10]
          go_simp
          clear e10
          clear y5 y6 HS hcell hab2
          by_cases hv : Lib.validD s.data.toList = true
          · skip
            have HQY := ref_Quote_yes s W (by omega) hv
            have hql := quoteL_len s.data.toList
            have hsl : s.data.toList.length = s.size := by simp
            obtain ⟨cq, hcq⟩ : ∃ x : ByteArray, (⟨(quoteL s.data.toList).toArray⟩ : ByteArray) = x := ⟨_, rfl⟩
            have hcql : cq.data.toList = quoteL s.data.toList := by rw [← hcq]
            have hcqz : cq.size ≤ 122 := by
              have : cq.data.toList.length = cq.size := by simp
              rw [hcql] at this
              omega
            rw [hcq] at HQY
            have hOF := fun W => ref_Of (m + 1) m (Nat.lt_succ_self _) (by omega) W
            obtain ⟨ds, hds⟩ : ∃ x : ByteArray, (⟨(Lib.decDigits m).toArray⟩ : ByteArray) = x := ⟨_, rfl⟩
            have hdsl : ds.data.toList = Lib.decDigits m := by rw [← hds]
            have hdsz : ds.size ≤ 2 := by
              have : ds.data.toList.length = ds.size := by simp
              rw [hdsl] at this
              have := dig_small m (by omega)
              omega
            simp only [hds] at hOF
            have HOF := Lib.hid hOF
            have HCQ := Lib.hid hcql
            have HDS := Lib.hid hdsl
            have yc : IntKind.u64.wrap (m : Int) = (m : Int) := by rw [IntKind.wrap_u64]; omega
            clear hql hsl hcq hcql hds hdsl hOF
            go_wp2_with fail
            refine HQY.mono ?_
            rintro x w2 ⟨rfl, hb2⟩
            have hb2w := hE.trans (hb2.mono hE.size)
            have hbw2 := hbw.trans (hb2w.mono hbw.size)
            have hown2 := HOWN.out.kept (below_none hb2w) (by cases A' with | none => exact .inl rfl | some a => exact .inr (by simp [Value.ownBlock]))
            have HO2 := Lib.hid hown2
            have hz2 := hbw2.size
            clear HQY hb2 hb2w hown2 HOWN hE
            go_wp2_with fail
            go_loopw [6, 12] (fun tv jv wr' => ∃ (j : Nat) (b : Bool), j ≤ m ∧ jv = .int .i64 j ∧ tv = .bool b ∧ Hid (b = true ↔ tw = true ∨ s ∈ ks.take j) ∧ wr' = w2) (fun _ jv _ => m - (intOf jv).toNat)
            case atStart => exact ⟨0, tw, by omega, rfl, rfl, Lib.hid (by simp), by first | rfl | trivial⟩
            case round =>
              obtain ⟨j, b, hj, rfl, rfl, HB, rfl⟩ := hrel
              by_cases hlt : j < m
              · have y3 : (j : Int) < m := by omega
                obtain ⟨ad, rfl, hcells⟩ := own_strs HO2.out (Nat.zero_lt_of_lt hlt)
                have hcell := hcells j (by rw [hm]; exact hlt)
                have htk : ks.take (j + 1) = ks.take j ++ [ks[j]'(by rw [hm]; exact hlt)] := List.take_succ_eq_append_getElem (by rw [hm]; exact hlt)
                obtain ⟨kj, hkj⟩ : ∃ x, ks[j]'(by rw [hm]; exact hlt) = x := ⟨_, rfl⟩
                rw [hkj] at hcell htk
                have HTK := Lib.hid htk
                clear hcells htk hkj
                cases b with
                | true =>
                  go_wp2_with fail
                  go_roundw
                  case rel => exact ⟨j + 1, true, by omega, by go_num, rfl, Lib.hid (by
                    have h1 := HB.out.1 rfl
                    refine ⟨fun _ => h1.imp id (fun h => by rw [HTK.out]; exact List.mem_append_left _ h), fun _ => rfl⟩), by first | rfl | trivial⟩
                  case measure => simp [intOf]; omega
                | false =>
                  by_cases he : kj = s
                  · have z1 : (kj.toList == s.toList) = true := by rw [beq_iff_eq, he]
                    have HEQ := Lib.hid he
                    clear he
                    go_wp2_with fail
                    go_roundw
                    case rel => exact ⟨j + 1, true, by omega, by go_num, rfl, Lib.hid (⟨fun _ => .inr (by rw [HTK.out, HEQ.out]; exact List.mem_append_right _ (by simp)), fun _ => rfl⟩), by first | rfl | trivial⟩
                    case measure => simp [intOf]; omega
                  · have z1 : (kj.toList == s.toList) = false := by
                      rw [beq_eq_false_iff_ne, ByteArray.toList_eq, ByteArray.toList_eq]
                      exact fun e => he (listB_inj e)
                    have HEQ := Lib.hid he
                    clear he
                    go_wp2_with fail
                    go_roundw
                    case rel => exact ⟨j + 1, false, by omega, by go_num, rfl, Lib.hid (by
                      have h1 := HB.out
                      refine ⟨fun h => absurd h (by decide), fun h => h1.2 (Or.imp id (fun h => ?_) h)⟩
                      rw [HTK.out] at h
                      rcases List.mem_append.1 h with h | h
                      · exact h
                      · exact absurd (List.mem_singleton.1 h).symm HEQ.out), by first | rfl | trivial⟩
                    case measure => simp [intOf]; omega
              · have y3 : ¬ (j : Int) < m := by omega
                have HB : Hid (b = true ↔ tw = true ∨ s ∈ ks) := Lib.hid (by
                  have h1 := HB.out
                  rw [List.take_of_length_le (by omega)] at h1
                  exact h1)
                clear hlt
                by_cases h0 : m = 0
                · skip
                  obtain ⟨al2, hal2⟩ : ∃ x, al ++ cq ++ ⟨#[58]⟩ ++ ds = x := ⟨_, rfl⟩
                  have hg2 : MemG (ks ++ [s]) al2 b := HG.out.step (by omega) hs9 hv HB.out (by
                    rw [if_pos (List.length_eq_zero_iff.1 (hm.trans h0)), ← hal2, hm, ← HCQ.out, ← HDS.out]
                    simp)
                  have hal2z : al2.size ≤ 1 + 126 * (k + 1) := by
                    rw [← hal2]
                    simp only [ByteArray.size_append]
                    have e1 : (⟨#[44]⟩ : ByteArray).size = 1 := rfl
                    have e2 : (⟨#[58]⟩ : ByteArray).size = 1 := rfl
                    omega
                  have ys0 : ¬ 9223372036854775807 < al.size + cq.size := by omega
                  have ys1 : ¬ 9223372036854775807 < al.size + cq.size + 1 := by omega
                  have ys2 : ¬ 9223372036854775807 < al.size + cq.size + 1 + ds.size := by omega

                  have y7 : ¬ (0 : Int) < m := by omega
                  have HG2 := Lib.hid hg2
                  have HA2 := Lib.hid hal2
                  have HAZ := Lib.hid hal2z
                  clear hg2 hal2 hal2z HG HB HCQ HDS h0
                  go_wp2_with (at_builtin; refine wpList_append_lies _ rfl _ _ 36 rfl w.heap.size 9 i0 (.string ⟨#[]⟩) 1 16 Tryz.underlying36 HI.out HZ0.out HZ1.out HZ2.out rfl (by decide) _ _ _ rfl (HO2.out.alloc _) ⟨wr.heap.size, 0, none⟩ 1 1 [.string s] rfl rfl (cells_newT _ [.string s] _) (by simp [Value.oneCell']) (by decide) (by unfold maxLen; omega) (by omega) (by simp; omega) (wr.heap.size + 1) (by simp) ?_; intro g cap w4 hown4 hgrow hat hg4)
                  have hg0 : (Value.slice A' m c').ownBlock = some g → w.heap.size ≤ g := fun e => (HO2.out.lt g e).1
                  have hbw4 : Below w.heap.size w w4 := (hbw2.alloc hbw2.size _).grown hgrow (by simp; omega) (fun q e => (HO2.out.lt q e).1)
                  have HO4 := Lib.hid hown4
                  clear hgrow hat hown4 hg0 HO2
                  refine (HOF.out _).mono ?_
                  rintro x w5 ⟨rfl, hb5⟩
                  have hbw5 := hbw4.trans (hb5.mono hbw4.size)
                  have hown5 := HO4.out.kept (below_none hb5) (.inr (by simp [Value.ownBlock]))
                  have HO5 := Lib.hid hown5
                  clear hown5 HO4 hb5 HOF
                  go_wp2_with fail
                  rw [HA2.out]
                  go_roundw
                  case rel => exact ⟨k + 1, ks ++ [s], _, al2, b, by omega, by omega, rfl, by rw [List.length_append, hm]; go_num, rfl, rfl, by go_num, HG2, by rw [List.length_append, hm]; show m + 1 ≤ _; omega, HAZ.out, by rw [List.length_append, hm, List.map_append]; exact HO5.out, hbw5⟩
                  case measure => simp [intOf]; omega
                · skip
                  obtain ⟨al2, hal2⟩ : ∃ x, al ++ ⟨#[44]⟩ ++ cq ++ ⟨#[58]⟩ ++ ds = x := ⟨_, rfl⟩
                  have hg2 : MemG (ks ++ [s]) al2 b := HG.out.step (by omega) hs9 hv HB.out (by
                    rw [if_neg (fun q => h0 (by rw [← hm, q]; rfl)), ← hal2, hm, ← HCQ.out, ← HDS.out]
                    simp)
                  have hal2z : al2.size ≤ 1 + 126 * (k + 1) := by
                    rw [← hal2]
                    simp only [ByteArray.size_append]
                    have e1 : (⟨#[44]⟩ : ByteArray).size = 1 := rfl
                    have e2 : (⟨#[58]⟩ : ByteArray).size = 1 := rfl
                    omega
                  have ys0 : ¬ 9223372036854775807 < al.size + 1 + cq.size := by omega
                  have ys1 : ¬ 9223372036854775807 < al.size + 1 + cq.size + 1 := by omega
                  have ys2 : ¬ 9223372036854775807 < al.size + 1 + cq.size + 1 + ds.size := by omega
                  have ys3 : ¬ 9223372036854775807 < al.size + 1 := by omega
                  have y7 : (0 : Int) < m := by omega
                  have HG2 := Lib.hid hg2
                  have HA2 := Lib.hid hal2
                  have HAZ := Lib.hid hal2z
                  clear hg2 hal2 hal2z HG HB HCQ HDS h0
                  go_wp2_with (at_builtin; refine wpList_append_lies _ rfl _ _ 36 rfl w.heap.size 9 i0 (.string ⟨#[]⟩) 1 16 Tryz.underlying36 HI.out HZ0.out HZ1.out HZ2.out rfl (by decide) _ _ _ rfl (HO2.out.alloc _) ⟨wr.heap.size, 0, none⟩ 1 1 [.string s] rfl rfl (cells_newT _ [.string s] _) (by simp [Value.oneCell']) (by decide) (by unfold maxLen; omega) (by omega) (by simp; omega) (wr.heap.size + 1) (by simp) ?_; intro g cap w4 hown4 hgrow hat hg4)
                  have hg0 : (Value.slice A' m c').ownBlock = some g → w.heap.size ≤ g := fun e => (HO2.out.lt g e).1
                  have hbw4 : Below w.heap.size w w4 := (hbw2.alloc hbw2.size _).grown hgrow (by simp; omega) (fun q e => (HO2.out.lt q e).1)
                  have HO4 := Lib.hid hown4
                  clear hgrow hat hown4 hg0 HO2
                  refine (HOF.out _).mono ?_
                  rintro x w5 ⟨rfl, hb5⟩
                  have hbw5 := hbw4.trans (hb5.mono hbw4.size)
                  have hown5 := HO4.out.kept (below_none hb5) (.inr (by simp [Value.ownBlock]))
                  have HO5 := Lib.hid hown5
                  clear hown5 HO4 hb5 HOF
                  go_wp2_with fail
                  rw [HA2.out]
                  go_roundw
                  case rel => exact ⟨k + 1, ks ++ [s], _, al2, b, by omega, by omega, rfl, by rw [List.length_append, hm]; go_num, rfl, rfl, by go_num, HG2, by rw [List.length_append, hm]; show m + 1 ≤ _; omega, HAZ.out, by rw [List.length_append, hm, List.map_append]; exact HO5.out, hbw5⟩
                  case measure => simp [intOf]; omega
          · have hv : Lib.validD s.data.toList = false := by cases h : Lib.validD s.data.toList <;> simp_all
            have HQN := ref_Quote_no s W (by omega) hv
            clear hv HQ
            go_wp2_with fail
            refine HQN.mono ?_
            rintro x w2 ⟨rfl, hb2⟩
            have hb2w := hE.trans (hb2.mono hE.size)
            have hbw2 := hbw.trans (hb2w.mono hbw.size)
            have hown2 := HOWN.out.kept (below_none hb2w) (by cases A' with | none => exact .inl rfl | some a => exact .inr (by simp [Value.ownBlock]))
            have HO2 := Lib.hid hown2
            clear HQN hb2 hb2w hown2 HOWN hE
            go_wp2_with fail
            go_roundw
            case rel => exact ⟨k + 1, ks, _, al, tw, by omega, by omega, rfl, by rw [hm], rfl, rfl, by go_num, HG, by omega, by omega, by rw [hm]; exact HO2.out, hbw2⟩
            case measure => simp [intOf]; omega
      · have y2 : ¬ (k : Int) < 20 := by omega
        have hread := HG.out.read (by omega) (by omega)
        have ys : ¬ 9223372036854775807 < al.size + 1 := by omega
        have HRD := H2.out (al ++ ⟨#[125]⟩) (by rw [ByteArray.size_append, show (⟨#[125]⟩ : ByteArray).size = 1 from rfl]; omega) wr hbw
        rw [hread] at HRD
        clear hread HG HL HQ
        cases tw with
        | true =>
          rw [if_pos rfl] at HRD
          have HRD : Hid (Calls Tryz.prog 25 #[.string (al ++ ⟨#[125]⟩)] wr fun x w' => Below wr.heap.size wr w' ∧ ∃ A n c, x = .returned (.tuple #[nodeV zeroO (.slice A n c), .int .i64 60]) ∧ LAt w' (fun q => wr.heap.size ≤ q ∧ q < w'.heap.size) 16 [] (.slice A n c) ∧ OwnOk zeroO) := Lib.hid HRD
          clear H2 HOWN
          go_wp2_with fail
          refine HRD.out.mono ?_
          rintro x w5 ⟨hb5, A5, n5, c5, rfl, hl5, _⟩
          have hn5 : n5 = 0 := hl5.lenJ
          subst hn5
          rw [show nodeV zeroO (.slice A5 0 c5) = .agg #[.int .i64 0, .bool false, .bool false, .string ⟨#[]⟩, .int .i64 0, .int .u64 0, .int .i64 0, .string ⟨#[]⟩, .slice A5 0 c5] from rfl]
          have hr6 := hb5.alloc hb5.size (.cells #[.int .i64 0, .bool false, .bool false, .string ⟨#[]⟩, .int .i64 0, .int .u64 0, .int .i64 0, .string ⟨#[]⟩, .slice A5 0 c5] 27)
          have hb6w := hbw.trans (hr6.mono hbw.size)
          clear HRD hb5 hl5 hr6
          go_wp2_with fail
          go_ret
          exact ⟨rfl, hb6w⟩
        | false =>
          rw [if_neg (by decide)] at HRD
          have hkl := pairs_len (ks.map (·.data.toList)) 0
          rw [List.length_map, hm] at hkl
          have hpk := pairs_key (ks.map (·.data.toList)) 0
          obtain ⟨L, hL⟩ : ∃ L, pairsL (ks.map (·.data.toList)) 0 = L := ⟨_, rfl⟩
          rw [hL] at HRD hkl
          simp only [hL] at hpk
          have HPK := Lib.hid hpk
          have HRD : Hid (Calls Tryz.prog 25 #[.string (al ++ ⟨#[125]⟩)] wr fun x w' => Below wr.heap.size wr w' ∧ ∃ A n c, x = .returned (.tuple #[nodeV { zeroO with kind := 8 } (.slice A n c), .int .i64 0]) ∧ LAt w' (fun q => wr.heap.size ≤ q ∧ q < w'.heap.size) 16 L (.slice A n c) ∧ OwnOk { zeroO with kind := 8 }) := Lib.hid HRD
          clear H2 hL hpk
          go_wp2_with fail
          refine HRD.out.mono ?_
          rintro x w5 ⟨hb5, A5, n5, c5, rfl, hl5, _⟩
          have hn5 : n5 = L.length := hl5.lenJ
          rw [hkl] at hn5
          subst hn5
          rw [show nodeV { zeroO with kind := 8 } (.slice A5 (2 * m) c5) = .agg #[.int .i64 8, .bool false, .bool false, .string ⟨#[]⟩, .int .i64 0, .int .u64 0, .int .i64 0, .string ⟨#[]⟩, .slice A5 (2 * m) c5] from rfl]
          have hr6 := hb5.alloc hb5.size (.cells #[.int .i64 8, .bool false, .bool false, .string ⟨#[]⟩, .int .i64 0, .int .u64 0, .int .i64 0, .string ⟨#[]⟩, .slice A5 (2 * m) c5] 27)
          have hm6 := Blk.new w5 #[.int .i64 8, .bool false, .bool false, .string ⟨#[]⟩, .int .i64 0, .int .u64 0, .int .i64 0, .string ⟨#[]⟩, .slice A5 (2 * m) c5] 27
          have hb6w := hbw.trans (hr6.mono hbw.size)
          have hl6 : LAt (w5.alloc (.cells #[.int .i64 8, .bool false, .bool false, .string ⟨#[]⟩, .int .i64 0, .int .u64 0, .int .i64 0, .string ⟨#[]⟩, .slice A5 (2 * m) c5] 27)) (fun q => q < w5.heap.size) 16 L (.slice A5 (2 * m) c5) := (hl5.keep (fun q hq => Below.heap_alloc w5 _ q hq.2)).mono (fun q hq => hq.2)
          have hown6 : (w5.alloc (.cells #[.int .i64 8, .bool false, .bool false, .string ⟨#[]⟩, .int .i64 0, .int .u64 0, .int .i64 0, .string ⟨#[]⟩, .slice A5 (2 * m) c5] 27)).ownsRow w.heap.size 9 1 (.slice A' m c') m (ks.map .string) := HOWN.out.kept (below_none hr6) (by cases A' with | none => exact .inl rfl | some a => exact .inr (by simp [Value.ownBlock]))
          have hz5 := hb5.size
          obtain ⟨b6, hb6⟩ : ∃ b, w5.heap.size = b := ⟨_, rfl⟩
          obtain ⟨w6, hw6⟩ : ∃ w, w5.alloc (.cells #[.int .i64 8, .bool false, .bool false, .string ⟨#[]⟩, .int .i64 0, .int .u64 0, .int .i64 0, .string ⟨#[]⟩, .slice A5 (2 * m) c5] 27) = w := ⟨_, rfl⟩
          have hs6 : w6.heap.size = b6 + 1 := by rw [← hw6, ← hb6]; simp
          rw [hw6] at hr6 hm6 hb6w hl6 hown6
          rw [hb6] at hm6 hl6
          have y9 : ((2 * m : Nat) : Int) = 2 * (m : Int) := by omega
          have z8 := hm6.cell 8
          have HM := Lib.hid hm6
          have HL6 := Lib.hid hl6
          have HO6 := Lib.hid hown6
          have HW6 := Lib.hid hw6
          have HB6 := Lib.hid hb6
          have HR6 := Lib.hid hr6
          clear HRD hb5 hl5 hr6 hm6 hl6 hown6 hw6 HOWN
          go_wp2_with fail
          go_loopw [15] (fun iv wr => ∃ i : Nat, i ≤ m ∧ iv = .int .i64 i ∧ Below w6.heap.size w6 wr) (fun iv _ => m - (intOf iv).toNat)
          case atStart => exact ⟨0, by omega, rfl, by rw [HW6.out]; exact Below.refl _ _⟩
          case round =>
            obtain ⟨i, hi, rfl, hb6z⟩ := hrel
            by_cases hlt : i < m
            · have y3 : (i : Int) < m := by omega
              obtain ⟨ak, rfl, hcells⟩ := own_strs HO6.out (Nat.zero_lt_of_lt hlt)
              have hx1c := hcells i (by rw [hm]; exact hlt)
              obtain ⟨sk, hsk⟩ : ∃ x, ks[i]'(by rw [hm]; exact hlt) = x := ⟨_, rfl⟩
              rw [hsk] at hx1c
              obtain ⟨hk1, hk2⟩ := HPK.out i (by rw [List.length_map, hm]; exact hlt)
              rw [List.getElem_map, hsk] at hk1
              rw [Nat.zero_add] at hk2
              obtain ⟨p, hpe⟩ : ∃ p, 2 * i = p := ⟨_, rfl⟩
              obtain ⟨q, hqe⟩ : ∃ q, 2 * i + 1 = q := ⟨_, rfl⟩
              rw [hpe] at hk1
              rw [hqe] at hk2
              have hpl : p < L.length := by omega
              have hql : q < L.length := by omega
              rw [List.getElem?_eq_getElem hpl] at hk1
              rw [List.getElem?_eq_getElem hql] at hk2
              obtain ⟨d1, a5, x1, hd1, rfl, hab1, hok1, hna1, hkk1⟩ := HL6.out.at_ hpl
              obtain ⟨d2, a5', x2, hd2, hadd, hab2, hok2, hna2, hkk2⟩ := HL6.out.at_ hql
              obtain rfl : a5 = a5' := by injection hadd
              rw [Option.some.inj hk1] at hna1
              rw [Option.some.inj hk2] at hna2
              have hof := fun W => ref_OfInt4 false i (by omega) W
              obtain ⟨⟨ng, dg, ex⟩, hofe⟩ : ∃ x, ofN false i = x := ⟨_, rfl⟩
              simp only [hofe] at hof
              have g7 : w6.cell? ⟨(a5.add (p * 9)).block, (a5.add (p * 9)).off + 7, none⟩ = some (.string sk) := hna1.c7
              have g2 : w6.cell? ⟨(a5.add (q * 9)).block, (a5.add (q * 9)).off + 2, none⟩ = some (.bool (ofN false i).1) := hna2.c2
              have g3 : w6.cell? ⟨(a5.add (q * 9)).block, (a5.add (q * 9)).off + 3, none⟩ = some (.string (ofN false i).2.1) := hna2.c3
              have g4 : w6.cell? ⟨(a5.add (q * 9)).block, (a5.add (q * 9)).off + 4, none⟩ = some (.int .i64 (ofN false i).2.2) := hna2.c4
              rw [hofe] at g2 g3 g4
              have hv1 : (a5.add (p * 9)).block < w6.heap.size := by rw [add_block]; omega
              have hv2 : (a5.add (q * 9)).block < w6.heap.size := by rw [add_block]; omega
              have hv3 : (ak.add i).block < w6.heap.size := by
                rw [add_block]
                have h1 := (HO6.out.lt ak.block rfl).2
                omega
              have hz := hb6z.size
              have HX0 := Lib.hid ((Below.cell (p := ⟨(a5.add (p * 9)).block, (a5.add (p * 9)).off + 7, none⟩) hb6z hv1).trans g7)
              have HX1 := Lib.hid ((Below.cell hb6z hv3).trans hx1c)
              have HX2 := Lib.hid ((Below.cell (p := ⟨(a5.add (q * 9)).block, (a5.add (q * 9)).off + 2, none⟩) hb6z hv2).trans g2)
              have HX3 := Lib.hid ((Below.cell (p := ⟨(a5.add (q * 9)).block, (a5.add (q * 9)).off + 3, none⟩) hb6z hv2).trans g3)
              have HX4 := Lib.hid ((Below.cell (p := ⟨(a5.add (q * 9)).block, (a5.add (q * 9)).off + 4, none⟩) hb6z hv2).trans g4)
              have hx0 : (a5.add (p * 9)).block < wr.heap.size := by omega
              have hx1 : (ak.add i).block < wr.heap.size := by omega
              have hx2 : (a5.add (q * 9)).block < wr.heap.size := by omega
              have HM6 := Lib.hid (HM.out.below hb6z HM.out.lt)
              have HOFI := Lib.hid hof
              have yci : IntKind.u64.wrap (i : Int) = (i : Int) := by rw [IntKind.wrap_u64]; omega
              have hp : (2 : Int) * (i : Int) = (p : Int) := by omega
              have hq1 : (p : Int) + 1 = (q : Int) := by omega
              have hpn : (p : Int) < 2 * (m : Int) := by omega
              have hqn : (q : Int) < 2 * (m : Int) := by omega
              have him : (i : Int) < m := y3
              have hwp : IntKind.i64.wrap (p : Int) = p := (IntWalk.i64_left _).trans (by unfold wrap64; omega)
              have hwq : IntKind.i64.wrap (q : Int) = q := (IntWalk.i64_left _).trans (by unfold wrap64; omega)
              clear hcells hx1c hsk hkk1 hkk2 hok1 hok2 hd1 hd2 hk1 hk2 hpl hql hab1 hab2 hna1 hna2 hadd hof hofe g7 g2 g3 g4 hv1 hv2 hv3 hz hpe hqe HL6 HO6 HPK
              go_wp2_with fail
              refine wp_region_tail (R := fun W W' => Below W.heap.size W W') 25 (by kernel_rfl) (by kernel_rfl) (fun _ => Below.refl _ _) (by kernel_rfl) (by kernel_rfl) (fun W => Below wr.heap.size wr W)
                [fun v _ => v = .pointer (some ⟨b6, 8, none⟩), fun v _ => v = .slice (some a5) (2 * m) c5, fun v _ => v = .int .i64 i, fun v _ => v = .int .i64 p, fun v _ => v = .pointer (some (a5.add (p * 9))), fun v _ => v = .pointer (some ⟨(a5.add (p * 9)).block, (a5.add (p * 9)).off + 7, none⟩), fun v _ => v = .string sk, fun v _ => v = .slice (some ak) m c', fun v _ => v = .int .i64 i, fun v _ => v = .pointer (some (ak.add i)), fun v _ => v = .string sk, fun v _ => v = .bool false, fun v _ => v = .bool false, fun v _ => v = .pointer (some ⟨b6, 8, none⟩), fun v _ => v = .slice (some a5) (2 * m) c5, fun v _ => v = .int .i64 i, fun v _ => v = .int .i64 p, fun v _ => v = .int .i64 q, fun v _ => v = .pointer (some (a5.add (q * 9))), fun v _ => v = .pointer (some ⟨(a5.add (q * 9)).block, (a5.add (q * 9)).off + 2, none⟩), fun v _ => v = .agg #[.bool ng, .string dg, .int .i64 ex], fun v _ => v = .int .i64 i, fun v _ => v = .int .u64 i, fun v _ => v = .agg #[.bool ng, .string dg, .int .i64 ex], fun v _ => v = .bool false] ?_ ?_ ?_ ?_ ?_
              case refine_1 => exact (Below.refl _ _).drew
              case refine_2 => exact fun W W' he hr => he.trans (hr.mono he.size)
              case refine_3 =>
                intro q hq v W W' _ hv hr
                simp only [List.mem_cons, List.not_mem_nil, or_false] at hq
                rcases hq with rfl | rfl | rfl | rfl | rfl | rfl | rfl | rfl | rfl | rfl | rfl | rfl | rfl | rfl | rfl | rfl | rfl | rfl | rfl | rfl | rfl | rfl | rfl | rfl | rfl <;> exact hv
              case refine_4 =>
                refine flow_cons (flow_op rfl rfl (by kernel_rfl) (by kernel_rfl) ?_) ?_
                · intro env W hE hn ρ hρ hc hf hg K hK
                  have r13 : ρ (.tmp 13) = .pointer (some ⟨b6, 0, none⟩) := by rw [hρ]; kernel_rfl
                  clear hρ hn hg
                  simp [opLands, go_sem, r13]
                  exact hK _ _ rfl (Below.refl _ _)
                refine flow_cons (flow_op rfl rfl (by kernel_rfl) (by kernel_rfl) ?_) ?_
                · intro env W hE hn ρ hρ hc hf hg K hK
                  have r105 := (show ρ (.tmp 105) = env 0 by rw [hρ]; kernel_rfl).trans (hn 0 (by kernel_rfl))
                  clear hρ hn hg
                  have q0 := (HM6.out.below hE HM6.out.lt).cell 8
                  simp [opLands, go_sem, r105, q0]
                  exact hK _ _ rfl (Below.refl _ _)
                refine flow_cons (flow_op rfl rfl (by kernel_rfl) (by kernel_rfl) ?_) ?_
                · intro env W hE hn ρ hρ hc hf hg K hK
                  have r15 : ρ (.tmp 15) = .int .i64 i := by rw [hρ]; kernel_rfl
                  clear hρ hn hg
                  simp [opLands, go_sem, r15]
                  exact hK _ _ rfl (Below.refl _ _)
                refine flow_cons (flow_op rfl rfl (by kernel_rfl) (by kernel_rfl) ?_) ?_
                · intro env W hE hn ρ hρ hc hf hg K hK
                  have r107 := (show ρ (.tmp 107) = env 2 by rw [hρ]; kernel_rfl).trans (hn 2 (by kernel_rfl))
                  clear hρ hn hg
                  simp [opLands, go_sem, hc, r107, hp, hwp]
                  exact hK _ _ rfl (Below.refl _ _)
                refine flow_cons (flow_op rfl rfl (by kernel_rfl) (by kernel_rfl) ?_) ?_
                · intro env W hE hn ρ hρ hc hf hg K hK
                  have r106 := (show ρ (.tmp 106) = env 1 by rw [hρ]; kernel_rfl).trans (hn 1 (by kernel_rfl))
                  have r108 := (show ρ (.tmp 108) = env 3 by rw [hρ]; kernel_rfl).trans (hn 3 (by kernel_rfl))
                  clear hρ hn hg
                  simp [opLands, go_sem, r106, r108, hpn]
                  exact hK _ _ rfl (Below.refl _ _)
                refine flow_cons (flow_op rfl rfl (by kernel_rfl) (by kernel_rfl) ?_) ?_
                · intro env W hE hn ρ hρ hc hf hg K hK
                  have r109 := (show ρ (.tmp 109) = env 4 by rw [hρ]; kernel_rfl).trans (hn 4 (by kernel_rfl))
                  clear hρ hn hg
                  simp [opLands, go_sem, r109]
                  exact hK _ _ rfl (Below.refl _ _)
                refine flow_cons (flow_op rfl rfl (by kernel_rfl) (by kernel_rfl) ?_) ?_
                · intro env W hE hn ρ hρ hc hf hg K hK
                  have r110 := (show ρ (.tmp 110) = env 5 by rw [hρ]; kernel_rfl).trans (hn 5 (by kernel_rfl))
                  clear hρ hn hg
                  have q0 : W.cell? ⟨(a5.add (p * 9)).block, (a5.add (p * 9)).off + 7, none⟩ = some (.string sk) := (Below.cell (p := ⟨(a5.add (p * 9)).block, (a5.add (p * 9)).off + 7, none⟩) hE hx0).trans HX0.out
                  simp [opLands, go_sem, r110, q0]
                  exact hK _ _ rfl (Below.refl _ _)
                refine flow_cons (flow_op rfl rfl (by kernel_rfl) (by kernel_rfl) ?_) ?_
                · intro env W hE hn ρ hρ hc hf hg K hK
                  have r7 : ρ (.tmp 7) = .slice (some ak) m c' := by rw [hρ]; kernel_rfl
                  clear hρ hn hg
                  simp [opLands, go_sem, r7]
                  exact hK _ _ rfl (Below.refl _ _)
                refine flow_cons (flow_op rfl rfl (by kernel_rfl) (by kernel_rfl) ?_) ?_
                · intro env W hE hn ρ hρ hc hf hg K hK
                  have r15 : ρ (.tmp 15) = .int .i64 i := by rw [hρ]; kernel_rfl
                  clear hρ hn hg
                  simp [opLands, go_sem, r15]
                  exact hK _ _ rfl (Below.refl _ _)
                refine flow_cons (flow_op rfl rfl (by kernel_rfl) (by kernel_rfl) ?_) ?_
                · intro env W hE hn ρ hρ hc hf hg K hK
                  have r112 := (show ρ (.tmp 112) = env 7 by rw [hρ]; kernel_rfl).trans (hn 7 (by kernel_rfl))
                  have r113 := (show ρ (.tmp 113) = env 8 by rw [hρ]; kernel_rfl).trans (hn 8 (by kernel_rfl))
                  clear hρ hn hg
                  simp [opLands, go_sem, r112, r113, him]
                  exact hK _ _ rfl (Below.refl _ _)
                refine flow_cons (flow_op rfl rfl (by kernel_rfl) (by kernel_rfl) ?_) ?_
                · intro env W hE hn ρ hρ hc hf hg K hK
                  have r114 := (show ρ (.tmp 114) = env 9 by rw [hρ]; kernel_rfl).trans (hn 9 (by kernel_rfl))
                  clear hρ hn hg
                  have q0 : W.cell? (ak.add i) = some (.string sk) := (Below.cell hE hx1).trans HX1.out
                  simp [opLands, go_sem, r114, q0]
                  exact hK _ _ rfl (Below.refl _ _)
                refine flow_cons (flow_op rfl rfl (by kernel_rfl) (by kernel_rfl) ?_) ?_
                · intro env W hE hn ρ hρ hc hf hg K hK
                  have r111 := (show ρ (.tmp 111) = env 6 by rw [hρ]; kernel_rfl).trans (hn 6 (by kernel_rfl))
                  have r115 := (show ρ (.tmp 115) = env 10 by rw [hρ]; kernel_rfl).trans (hn 10 (by kernel_rfl))
                  clear hρ hn hg
                  simp [opLands, go_sem, r111, r115]
                  exact hK _ _ rfl (Below.refl _ _)
                refine flow_cons (flow_op rfl rfl (by kernel_rfl) (by kernel_rfl) ?_) ?_
                · intro env W hE hn ρ hρ hc hf hg K hK
                  have r116 := (show ρ (.tmp 116) = env 11 by rw [hρ]; kernel_rfl).trans (hn 11 (by kernel_rfl))
                  clear hρ hn hg
                  simp [opLands, go_sem, r116]
                  exact hK _ _ rfl (Below.refl _ _)
                refine flow_cons (flow_opY 12 false 117 rfl rfl rfl (by kernel_rfl) (by kernel_rfl) ?_ ?_) ?_
                · intro env W hE hn ρ hρ
                  exact (show ρ (.tmp 117) = env 12 by rw [hρ]; kernel_rfl).trans (hn 12 (by kernel_rfl))
                · intro env W hE hn ρ hρ hc hf hg K hK
                  have r13 : ρ (.tmp 13) = .pointer (some ⟨b6, 0, none⟩) := by rw [hρ]; kernel_rfl
                  clear hρ hn hg
                  simp [opLands, go_sem, r13]
                  exact hK _ _ rfl (Below.refl _ _)
                refine flow_cons (flow_opY 12 false 117 rfl rfl rfl (by kernel_rfl) (by kernel_rfl) ?_ ?_) ?_
                · intro env W hE hn ρ hρ
                  exact (show ρ (.tmp 117) = env 12 by rw [hρ]; kernel_rfl).trans (hn 12 (by kernel_rfl))
                · intro env W hE hn ρ hρ hc hf hg K hK
                  have r118 := (show ρ (.tmp 118) = env 13 by rw [hρ]; kernel_rfl).trans (hn 13 (by kernel_rfl))
                  clear hρ hn hg
                  have q0 := (HM6.out.below hE HM6.out.lt).cell 8
                  simp [opLands, go_sem, r118, q0]
                  exact hK _ _ rfl (Below.refl _ _)
                refine flow_cons (flow_opY 12 false 117 rfl rfl rfl (by kernel_rfl) (by kernel_rfl) ?_ ?_) ?_
                · intro env W hE hn ρ hρ
                  exact (show ρ (.tmp 117) = env 12 by rw [hρ]; kernel_rfl).trans (hn 12 (by kernel_rfl))
                · intro env W hE hn ρ hρ hc hf hg K hK
                  have r15 : ρ (.tmp 15) = .int .i64 i := by rw [hρ]; kernel_rfl
                  clear hρ hn hg
                  simp [opLands, go_sem, r15]
                  exact hK _ _ rfl (Below.refl _ _)
                refine flow_cons (flow_opY 12 false 117 rfl rfl rfl (by kernel_rfl) (by kernel_rfl) ?_ ?_) ?_
                · intro env W hE hn ρ hρ
                  exact (show ρ (.tmp 117) = env 12 by rw [hρ]; kernel_rfl).trans (hn 12 (by kernel_rfl))
                · intro env W hE hn ρ hρ hc hf hg K hK
                  have r120 := (show ρ (.tmp 120) = env 15 by rw [hρ]; kernel_rfl).trans (hn 15 (by kernel_rfl))
                  clear hρ hn hg
                  simp [opLands, go_sem, hc, r120, hp, hwp]
                  exact hK _ _ rfl (Below.refl _ _)
                refine flow_cons (flow_opY 12 false 117 rfl rfl rfl (by kernel_rfl) (by kernel_rfl) ?_ ?_) ?_
                · intro env W hE hn ρ hρ
                  exact (show ρ (.tmp 117) = env 12 by rw [hρ]; kernel_rfl).trans (hn 12 (by kernel_rfl))
                · intro env W hE hn ρ hρ hc hf hg K hK
                  have r121 := (show ρ (.tmp 121) = env 16 by rw [hρ]; kernel_rfl).trans (hn 16 (by kernel_rfl))
                  clear hρ hn hg
                  simp [opLands, go_sem, hc, r121, hq1, hwq]
                  exact hK _ _ rfl (Below.refl _ _)
                refine flow_cons (flow_opY 12 false 117 rfl rfl rfl (by kernel_rfl) (by kernel_rfl) ?_ ?_) ?_
                · intro env W hE hn ρ hρ
                  exact (show ρ (.tmp 117) = env 12 by rw [hρ]; kernel_rfl).trans (hn 12 (by kernel_rfl))
                · intro env W hE hn ρ hρ hc hf hg K hK
                  have r119 := (show ρ (.tmp 119) = env 14 by rw [hρ]; kernel_rfl).trans (hn 14 (by kernel_rfl))
                  have r122 := (show ρ (.tmp 122) = env 17 by rw [hρ]; kernel_rfl).trans (hn 17 (by kernel_rfl))
                  clear hρ hn hg
                  simp [opLands, go_sem, r119, r122, hqn]
                  exact hK _ _ rfl (Below.refl _ _)
                refine flow_cons (flow_opY 12 false 117 rfl rfl rfl (by kernel_rfl) (by kernel_rfl) ?_ ?_) ?_
                · intro env W hE hn ρ hρ
                  exact (show ρ (.tmp 117) = env 12 by rw [hρ]; kernel_rfl).trans (hn 12 (by kernel_rfl))
                · intro env W hE hn ρ hρ hc hf hg K hK
                  have r123 := (show ρ (.tmp 123) = env 18 by rw [hρ]; kernel_rfl).trans (hn 18 (by kernel_rfl))
                  clear hρ hn hg
                  simp [opLands, go_sem, r123]
                  exact hK _ _ rfl (Below.refl _ _)
                refine flow_cons (flow_opY 12 false 117 rfl rfl rfl (by kernel_rfl) (by kernel_rfl) ?_ ?_) ?_
                · intro env W hE hn ρ hρ
                  exact (show ρ (.tmp 117) = env 12 by rw [hρ]; kernel_rfl).trans (hn 12 (by kernel_rfl))
                · intro env W hE hn ρ hρ hc hf hg K hK
                  have r124 := (show ρ (.tmp 124) = env 19 by rw [hρ]; kernel_rfl).trans (hn 19 (by kernel_rfl))
                  clear hρ hn hg
                  have q2 : W.cell? ⟨(a5.add (q * 9)).block, (a5.add (q * 9)).off + 2, none⟩ = some (.bool ng) := (Below.cell (p := ⟨(a5.add (q * 9)).block, (a5.add (q * 9)).off + 2, none⟩) hE hx2).trans HX2.out
                  have q3 : W.cell? ⟨(a5.add (q * 9)).block, (a5.add (q * 9)).off + 3, none⟩ = some (.string dg) := (Below.cell (p := ⟨(a5.add (q * 9)).block, (a5.add (q * 9)).off + 3, none⟩) hE hx2).trans HX3.out
                  have q4 : W.cell? ⟨(a5.add (q * 9)).block, (a5.add (q * 9)).off + 4, none⟩ = some (.int .i64 ex) := (Below.cell (p := ⟨(a5.add (q * 9)).block, (a5.add (q * 9)).off + 4, none⟩) hE hx2).trans HX4.out
                  simp [opLands, go_sem, r124, q2, q3, q4]
                  exact hK _ _ rfl (Below.refl _ _)
                refine flow_cons (flow_opY 12 false 117 rfl rfl rfl (by kernel_rfl) (by kernel_rfl) ?_ ?_) ?_
                · intro env W hE hn ρ hρ
                  exact (show ρ (.tmp 117) = env 12 by rw [hρ]; kernel_rfl).trans (hn 12 (by kernel_rfl))
                · intro env W hE hn ρ hρ hc hf hg K hK
                  have r15 : ρ (.tmp 15) = .int .i64 i := by rw [hρ]; kernel_rfl
                  clear hρ hn hg
                  simp [opLands, go_sem, r15]
                  exact hK _ _ rfl (Below.refl _ _)
                refine flow_cons (flow_opY 12 false 117 rfl rfl rfl (by kernel_rfl) (by kernel_rfl) ?_ ?_) ?_
                · intro env W hE hn ρ hρ
                  exact (show ρ (.tmp 117) = env 12 by rw [hρ]; kernel_rfl).trans (hn 12 (by kernel_rfl))
                · intro env W hE hn ρ hρ hc hf hg K hK
                  have r126 := (show ρ (.tmp 126) = env 21 by rw [hρ]; kernel_rfl).trans (hn 21 (by kernel_rfl))
                  clear hρ hn hg
                  simp [opLands, go_sem, r126, yci]
                  exact hK _ _ rfl (Below.refl _ _)
                refine flow_cons (flow_opY 12 false 117 rfl rfl rfl (by kernel_rfl) (by kernel_rfl) ?_ ?_) ?_
                · intro env W hE hn ρ hρ
                  exact (show ρ (.tmp 117) = env 12 by rw [hρ]; kernel_rfl).trans (hn 12 (by kernel_rfl))
                · intro env W hE hn ρ hρ hc hf hg K hK
                  have r127 := (show ρ (.tmp 127) = env 22 by rw [hρ]; kernel_rfl).trans (hn 22 (by kernel_rfl))
                  clear hρ hn hg
                  refine lands_call rfl (by kernel_rfl) hf ?_
                  rw [show #[Operand.const (Value.bool false), Operand.tmp 127].map ρ = #[.bool false, .int .u64 i] by simp [r127, hc]]
                  refine (HOFI.out W).mono ?_
                  rintro e W' ⟨rfl, hb⟩
                  exact ⟨_, rfl, hK _ _ rfl hb⟩
                refine flow_cons (flow_opY 12 false 117 rfl rfl rfl (by kernel_rfl) (by kernel_rfl) ?_ ?_) flow_nil
                · intro env W hE hn ρ hρ
                  exact (show ρ (.tmp 117) = env 12 by rw [hρ]; kernel_rfl).trans (hn 12 (by kernel_rfl))
                · intro env W hE hn ρ hρ hc hf hg K hK
                  have r125 := (show ρ (.tmp 125) = env 20 by rw [hρ]; kernel_rfl).trans (hn 20 (by kernel_rfl))
                  have r128 := (show ρ (.tmp 128) = env 23 by rw [hρ]; kernel_rfl).trans (hn 23 (by kernel_rfl))
                  clear hρ hn hg
                  simp [opLands, go_sem, r125, r128]
                  exact hK _ _ rfl (Below.refl _ _)
              case refine_5 =>
                intro env W hE hn
                have e12 : env 12 = .bool false := hn 12 (by decide)
                have e24 : env 24 = .bool false := hn 24 (by decide)
                clear hn
                simp only [List.take_succ_cons, List.take_zero, List.drop_succ_cons, List.drop_zero, frameAll, e12, e24]
                go_simp
                clear e12 e24
                have hz6 := hb6z.trans (hE.mono hb6z.size)
                clear HM6 HX0 HX1 HX2 HX3 HX4 hE HOFI
                go_wp2_with fail
                go_roundw
                case rel => exact ⟨i + 1, by omega, by go_num, hz6⟩
                case measure => simp [intOf]; omega
            · have y3 : ¬ (i : Int) < m := by omega
              have hbz := hb6w.trans (hb6z.mono hb6w.size)
              clear hb6z HM HL6 HO6 HPK HW6 HR6
              go_wp2_with fail
              go_ret
              exact ⟨rfl, hbz⟩
    · have y1 : ¬ (k : Int) < n := by omega
      have hread := HG.out.read (by omega) (by omega)
      have ys : ¬ 9223372036854775807 < al.size + 1 := by omega
      have HRD := H2.out (al ++ ⟨#[125]⟩) (by rw [ByteArray.size_append, show (⟨#[125]⟩ : ByteArray).size = 1 from rfl]; omega) wr hbw
      rw [hread] at HRD
      clear hread HG HL HQ
      cases tw with
      | true =>
        rw [if_pos rfl] at HRD
        have HRD : Hid (Calls Tryz.prog 25 #[.string (al ++ ⟨#[125]⟩)] wr fun x w' => Below wr.heap.size wr w' ∧ ∃ A n c, x = .returned (.tuple #[nodeV zeroO (.slice A n c), .int .i64 60]) ∧ LAt w' (fun q => wr.heap.size ≤ q ∧ q < w'.heap.size) 16 [] (.slice A n c) ∧ OwnOk zeroO) := Lib.hid HRD
        clear H2 HOWN
        go_wp2_with fail
        refine HRD.out.mono ?_
        rintro x w5 ⟨hb5, A5, n5, c5, rfl, hl5, _⟩
        have hn5 : n5 = 0 := hl5.lenJ
        subst hn5
        rw [show nodeV zeroO (.slice A5 0 c5) = .agg #[.int .i64 0, .bool false, .bool false, .string ⟨#[]⟩, .int .i64 0, .int .u64 0, .int .i64 0, .string ⟨#[]⟩, .slice A5 0 c5] from rfl]
        have hr6 := hb5.alloc hb5.size (.cells #[.int .i64 0, .bool false, .bool false, .string ⟨#[]⟩, .int .i64 0, .int .u64 0, .int .i64 0, .string ⟨#[]⟩, .slice A5 0 c5] 27)
        have hb6w := hbw.trans (hr6.mono hbw.size)
        clear HRD hb5 hl5 hr6
        go_wp2_with fail
        go_ret
        exact ⟨rfl, hb6w⟩
      | false =>
        rw [if_neg (by decide)] at HRD
        have hkl := pairs_len (ks.map (·.data.toList)) 0
        rw [List.length_map, hm] at hkl
        have hpk := pairs_key (ks.map (·.data.toList)) 0
        obtain ⟨L, hL⟩ : ∃ L, pairsL (ks.map (·.data.toList)) 0 = L := ⟨_, rfl⟩
        rw [hL] at HRD hkl
        simp only [hL] at hpk
        have HPK := Lib.hid hpk
        have HRD : Hid (Calls Tryz.prog 25 #[.string (al ++ ⟨#[125]⟩)] wr fun x w' => Below wr.heap.size wr w' ∧ ∃ A n c, x = .returned (.tuple #[nodeV { zeroO with kind := 8 } (.slice A n c), .int .i64 0]) ∧ LAt w' (fun q => wr.heap.size ≤ q ∧ q < w'.heap.size) 16 L (.slice A n c) ∧ OwnOk { zeroO with kind := 8 }) := Lib.hid HRD
        clear H2 hL hpk
        go_wp2_with fail
        refine HRD.out.mono ?_
        rintro x w5 ⟨hb5, A5, n5, c5, rfl, hl5, _⟩
        have hn5 : n5 = L.length := hl5.lenJ
        rw [hkl] at hn5
        subst hn5
        rw [show nodeV { zeroO with kind := 8 } (.slice A5 (2 * m) c5) = .agg #[.int .i64 8, .bool false, .bool false, .string ⟨#[]⟩, .int .i64 0, .int .u64 0, .int .i64 0, .string ⟨#[]⟩, .slice A5 (2 * m) c5] from rfl]
        have hr6 := hb5.alloc hb5.size (.cells #[.int .i64 8, .bool false, .bool false, .string ⟨#[]⟩, .int .i64 0, .int .u64 0, .int .i64 0, .string ⟨#[]⟩, .slice A5 (2 * m) c5] 27)
        have hm6 := Blk.new w5 #[.int .i64 8, .bool false, .bool false, .string ⟨#[]⟩, .int .i64 0, .int .u64 0, .int .i64 0, .string ⟨#[]⟩, .slice A5 (2 * m) c5] 27
        have hb6w := hbw.trans (hr6.mono hbw.size)
        have hl6 : LAt (w5.alloc (.cells #[.int .i64 8, .bool false, .bool false, .string ⟨#[]⟩, .int .i64 0, .int .u64 0, .int .i64 0, .string ⟨#[]⟩, .slice A5 (2 * m) c5] 27)) (fun q => q < w5.heap.size) 16 L (.slice A5 (2 * m) c5) := (hl5.keep (fun q hq => Below.heap_alloc w5 _ q hq.2)).mono (fun q hq => hq.2)
        have hown6 : (w5.alloc (.cells #[.int .i64 8, .bool false, .bool false, .string ⟨#[]⟩, .int .i64 0, .int .u64 0, .int .i64 0, .string ⟨#[]⟩, .slice A5 (2 * m) c5] 27)).ownsRow w.heap.size 9 1 (.slice A' m c') m (ks.map .string) := HOWN.out.kept (below_none hr6) (by cases A' with | none => exact .inl rfl | some a => exact .inr (by simp [Value.ownBlock]))
        have hz5 := hb5.size
        obtain ⟨b6, hb6⟩ : ∃ b, w5.heap.size = b := ⟨_, rfl⟩
        obtain ⟨w6, hw6⟩ : ∃ w, w5.alloc (.cells #[.int .i64 8, .bool false, .bool false, .string ⟨#[]⟩, .int .i64 0, .int .u64 0, .int .i64 0, .string ⟨#[]⟩, .slice A5 (2 * m) c5] 27) = w := ⟨_, rfl⟩
        have hs6 : w6.heap.size = b6 + 1 := by rw [← hw6, ← hb6]; simp
        rw [hw6] at hr6 hm6 hb6w hl6 hown6
        rw [hb6] at hm6 hl6
        have y9 : ((2 * m : Nat) : Int) = 2 * (m : Int) := by omega
        have z8 := hm6.cell 8
        have HM := Lib.hid hm6
        have HL6 := Lib.hid hl6
        have HO6 := Lib.hid hown6
        have HW6 := Lib.hid hw6
        have HB6 := Lib.hid hb6
        have HR6 := Lib.hid hr6
        clear HRD hb5 hl5 hr6 hm6 hl6 hown6 hw6 HOWN
        go_wp2_with fail
        go_loopw [15] (fun iv wr => ∃ i : Nat, i ≤ m ∧ iv = .int .i64 i ∧ Below w6.heap.size w6 wr) (fun iv _ => m - (intOf iv).toNat)
        case atStart => exact ⟨0, by omega, rfl, by rw [HW6.out]; exact Below.refl _ _⟩
        case round =>
          obtain ⟨i, hi, rfl, hb6z⟩ := hrel
          by_cases hlt : i < m
          · have y3 : (i : Int) < m := by omega
            obtain ⟨ak, rfl, hcells⟩ := own_strs HO6.out (Nat.zero_lt_of_lt hlt)
            have hx1c := hcells i (by rw [hm]; exact hlt)
            obtain ⟨sk, hsk⟩ : ∃ x, ks[i]'(by rw [hm]; exact hlt) = x := ⟨_, rfl⟩
            rw [hsk] at hx1c
            obtain ⟨hk1, hk2⟩ := HPK.out i (by rw [List.length_map, hm]; exact hlt)
            rw [List.getElem_map, hsk] at hk1
            rw [Nat.zero_add] at hk2
            obtain ⟨p, hpe⟩ : ∃ p, 2 * i = p := ⟨_, rfl⟩
            obtain ⟨q, hqe⟩ : ∃ q, 2 * i + 1 = q := ⟨_, rfl⟩
            rw [hpe] at hk1
            rw [hqe] at hk2
            have hpl : p < L.length := by omega
            have hql : q < L.length := by omega
            rw [List.getElem?_eq_getElem hpl] at hk1
            rw [List.getElem?_eq_getElem hql] at hk2
            obtain ⟨d1, a5, x1, hd1, rfl, hab1, hok1, hna1, hkk1⟩ := HL6.out.at_ hpl
            obtain ⟨d2, a5', x2, hd2, hadd, hab2, hok2, hna2, hkk2⟩ := HL6.out.at_ hql
            obtain rfl : a5 = a5' := by injection hadd
            rw [Option.some.inj hk1] at hna1
            rw [Option.some.inj hk2] at hna2
            have hof := fun W => ref_OfInt4 false i (by omega) W
            obtain ⟨⟨ng, dg, ex⟩, hofe⟩ : ∃ x, ofN false i = x := ⟨_, rfl⟩
            simp only [hofe] at hof
            have g7 : w6.cell? ⟨(a5.add (p * 9)).block, (a5.add (p * 9)).off + 7, none⟩ = some (.string sk) := hna1.c7
            have g2 : w6.cell? ⟨(a5.add (q * 9)).block, (a5.add (q * 9)).off + 2, none⟩ = some (.bool (ofN false i).1) := hna2.c2
            have g3 : w6.cell? ⟨(a5.add (q * 9)).block, (a5.add (q * 9)).off + 3, none⟩ = some (.string (ofN false i).2.1) := hna2.c3
            have g4 : w6.cell? ⟨(a5.add (q * 9)).block, (a5.add (q * 9)).off + 4, none⟩ = some (.int .i64 (ofN false i).2.2) := hna2.c4
            rw [hofe] at g2 g3 g4
            have hv1 : (a5.add (p * 9)).block < w6.heap.size := by rw [add_block]; omega
            have hv2 : (a5.add (q * 9)).block < w6.heap.size := by rw [add_block]; omega
            have hv3 : (ak.add i).block < w6.heap.size := by
              rw [add_block]
              have h1 := (HO6.out.lt ak.block rfl).2
              omega
            have hz := hb6z.size
            have HX0 := Lib.hid ((Below.cell (p := ⟨(a5.add (p * 9)).block, (a5.add (p * 9)).off + 7, none⟩) hb6z hv1).trans g7)
            have HX1 := Lib.hid ((Below.cell hb6z hv3).trans hx1c)
            have HX2 := Lib.hid ((Below.cell (p := ⟨(a5.add (q * 9)).block, (a5.add (q * 9)).off + 2, none⟩) hb6z hv2).trans g2)
            have HX3 := Lib.hid ((Below.cell (p := ⟨(a5.add (q * 9)).block, (a5.add (q * 9)).off + 3, none⟩) hb6z hv2).trans g3)
            have HX4 := Lib.hid ((Below.cell (p := ⟨(a5.add (q * 9)).block, (a5.add (q * 9)).off + 4, none⟩) hb6z hv2).trans g4)
            have hx0 : (a5.add (p * 9)).block < wr.heap.size := by omega
            have hx1 : (ak.add i).block < wr.heap.size := by omega
            have hx2 : (a5.add (q * 9)).block < wr.heap.size := by omega
            have HM6 := Lib.hid (HM.out.below hb6z HM.out.lt)
            have HOFI := Lib.hid hof
            have yci : IntKind.u64.wrap (i : Int) = (i : Int) := by rw [IntKind.wrap_u64]; omega
            have hp : (2 : Int) * (i : Int) = (p : Int) := by omega
            have hq1 : (p : Int) + 1 = (q : Int) := by omega
            have hpn : (p : Int) < 2 * (m : Int) := by omega
            have hqn : (q : Int) < 2 * (m : Int) := by omega
            have him : (i : Int) < m := y3
            have hwp : IntKind.i64.wrap (p : Int) = p := (IntWalk.i64_left _).trans (by unfold wrap64; omega)
            have hwq : IntKind.i64.wrap (q : Int) = q := (IntWalk.i64_left _).trans (by unfold wrap64; omega)
            clear hcells hx1c hsk hkk1 hkk2 hok1 hok2 hd1 hd2 hk1 hk2 hpl hql hab1 hab2 hna1 hna2 hadd hof hofe g7 g2 g3 g4 hv1 hv2 hv3 hz hpe hqe HL6 HO6 HPK
            go_wp2_with fail
            refine wp_region_tail (R := fun W W' => Below W.heap.size W W') 25 (by kernel_rfl) (by kernel_rfl) (fun _ => Below.refl _ _) (by kernel_rfl) (by kernel_rfl) (fun W => Below wr.heap.size wr W)
              [fun v _ => v = .pointer (some ⟨b6, 8, none⟩), fun v _ => v = .slice (some a5) (2 * m) c5, fun v _ => v = .int .i64 i, fun v _ => v = .int .i64 p, fun v _ => v = .pointer (some (a5.add (p * 9))), fun v _ => v = .pointer (some ⟨(a5.add (p * 9)).block, (a5.add (p * 9)).off + 7, none⟩), fun v _ => v = .string sk, fun v _ => v = .slice (some ak) m c', fun v _ => v = .int .i64 i, fun v _ => v = .pointer (some (ak.add i)), fun v _ => v = .string sk, fun v _ => v = .bool false, fun v _ => v = .bool false, fun v _ => v = .pointer (some ⟨b6, 8, none⟩), fun v _ => v = .slice (some a5) (2 * m) c5, fun v _ => v = .int .i64 i, fun v _ => v = .int .i64 p, fun v _ => v = .int .i64 q, fun v _ => v = .pointer (some (a5.add (q * 9))), fun v _ => v = .pointer (some ⟨(a5.add (q * 9)).block, (a5.add (q * 9)).off + 2, none⟩), fun v _ => v = .agg #[.bool ng, .string dg, .int .i64 ex], fun v _ => v = .int .i64 i, fun v _ => v = .int .u64 i, fun v _ => v = .agg #[.bool ng, .string dg, .int .i64 ex], fun v _ => v = .bool false] ?_ ?_ ?_ ?_ ?_
            case refine_1 => exact (Below.refl _ _).drew
            case refine_2 => exact fun W W' he hr => he.trans (hr.mono he.size)
            case refine_3 =>
              intro q hq v W W' _ hv hr
              simp only [List.mem_cons, List.not_mem_nil, or_false] at hq
              rcases hq with rfl | rfl | rfl | rfl | rfl | rfl | rfl | rfl | rfl | rfl | rfl | rfl | rfl | rfl | rfl | rfl | rfl | rfl | rfl | rfl | rfl | rfl | rfl | rfl | rfl <;> exact hv
            case refine_4 =>
              refine flow_cons (flow_op rfl rfl (by kernel_rfl) (by kernel_rfl) ?_) ?_
              · intro env W hE hn ρ hρ hc hf hg K hK
                have r13 : ρ (.tmp 13) = .pointer (some ⟨b6, 0, none⟩) := by rw [hρ]; kernel_rfl
                clear hρ hn hg
                simp [opLands, go_sem, r13]
                exact hK _ _ rfl (Below.refl _ _)
              refine flow_cons (flow_op rfl rfl (by kernel_rfl) (by kernel_rfl) ?_) ?_
              · intro env W hE hn ρ hρ hc hf hg K hK
                have r105 := (show ρ (.tmp 105) = env 0 by rw [hρ]; kernel_rfl).trans (hn 0 (by kernel_rfl))
                clear hρ hn hg
                have q0 := (HM6.out.below hE HM6.out.lt).cell 8
                simp [opLands, go_sem, r105, q0]
                exact hK _ _ rfl (Below.refl _ _)
              refine flow_cons (flow_op rfl rfl (by kernel_rfl) (by kernel_rfl) ?_) ?_
              · intro env W hE hn ρ hρ hc hf hg K hK
                have r15 : ρ (.tmp 15) = .int .i64 i := by rw [hρ]; kernel_rfl
                clear hρ hn hg
                simp [opLands, go_sem, r15]
                exact hK _ _ rfl (Below.refl _ _)
              refine flow_cons (flow_op rfl rfl (by kernel_rfl) (by kernel_rfl) ?_) ?_
              · intro env W hE hn ρ hρ hc hf hg K hK
                have r107 := (show ρ (.tmp 107) = env 2 by rw [hρ]; kernel_rfl).trans (hn 2 (by kernel_rfl))
                clear hρ hn hg
                simp [opLands, go_sem, hc, r107, hp, hwp]
                exact hK _ _ rfl (Below.refl _ _)
              refine flow_cons (flow_op rfl rfl (by kernel_rfl) (by kernel_rfl) ?_) ?_
              · intro env W hE hn ρ hρ hc hf hg K hK
                have r106 := (show ρ (.tmp 106) = env 1 by rw [hρ]; kernel_rfl).trans (hn 1 (by kernel_rfl))
                have r108 := (show ρ (.tmp 108) = env 3 by rw [hρ]; kernel_rfl).trans (hn 3 (by kernel_rfl))
                clear hρ hn hg
                simp [opLands, go_sem, r106, r108, hpn]
                exact hK _ _ rfl (Below.refl _ _)
              refine flow_cons (flow_op rfl rfl (by kernel_rfl) (by kernel_rfl) ?_) ?_
              · intro env W hE hn ρ hρ hc hf hg K hK
                have r109 := (show ρ (.tmp 109) = env 4 by rw [hρ]; kernel_rfl).trans (hn 4 (by kernel_rfl))
                clear hρ hn hg
                simp [opLands, go_sem, r109]
                exact hK _ _ rfl (Below.refl _ _)
              refine flow_cons (flow_op rfl rfl (by kernel_rfl) (by kernel_rfl) ?_) ?_
              · intro env W hE hn ρ hρ hc hf hg K hK
                have r110 := (show ρ (.tmp 110) = env 5 by rw [hρ]; kernel_rfl).trans (hn 5 (by kernel_rfl))
                clear hρ hn hg
                have q0 : W.cell? ⟨(a5.add (p * 9)).block, (a5.add (p * 9)).off + 7, none⟩ = some (.string sk) := (Below.cell (p := ⟨(a5.add (p * 9)).block, (a5.add (p * 9)).off + 7, none⟩) hE hx0).trans HX0.out
                simp [opLands, go_sem, r110, q0]
                exact hK _ _ rfl (Below.refl _ _)
              refine flow_cons (flow_op rfl rfl (by kernel_rfl) (by kernel_rfl) ?_) ?_
              · intro env W hE hn ρ hρ hc hf hg K hK
                have r7 : ρ (.tmp 7) = .slice (some ak) m c' := by rw [hρ]; kernel_rfl
                clear hρ hn hg
                simp [opLands, go_sem, r7]
                exact hK _ _ rfl (Below.refl _ _)
              refine flow_cons (flow_op rfl rfl (by kernel_rfl) (by kernel_rfl) ?_) ?_
              · intro env W hE hn ρ hρ hc hf hg K hK
                have r15 : ρ (.tmp 15) = .int .i64 i := by rw [hρ]; kernel_rfl
                clear hρ hn hg
                simp [opLands, go_sem, r15]
                exact hK _ _ rfl (Below.refl _ _)
              refine flow_cons (flow_op rfl rfl (by kernel_rfl) (by kernel_rfl) ?_) ?_
              · intro env W hE hn ρ hρ hc hf hg K hK
                have r112 := (show ρ (.tmp 112) = env 7 by rw [hρ]; kernel_rfl).trans (hn 7 (by kernel_rfl))
                have r113 := (show ρ (.tmp 113) = env 8 by rw [hρ]; kernel_rfl).trans (hn 8 (by kernel_rfl))
                clear hρ hn hg
                simp [opLands, go_sem, r112, r113, him]
                exact hK _ _ rfl (Below.refl _ _)
              refine flow_cons (flow_op rfl rfl (by kernel_rfl) (by kernel_rfl) ?_) ?_
              · intro env W hE hn ρ hρ hc hf hg K hK
                have r114 := (show ρ (.tmp 114) = env 9 by rw [hρ]; kernel_rfl).trans (hn 9 (by kernel_rfl))
                clear hρ hn hg
                have q0 : W.cell? (ak.add i) = some (.string sk) := (Below.cell hE hx1).trans HX1.out
                simp [opLands, go_sem, r114, q0]
                exact hK _ _ rfl (Below.refl _ _)
              refine flow_cons (flow_op rfl rfl (by kernel_rfl) (by kernel_rfl) ?_) ?_
              · intro env W hE hn ρ hρ hc hf hg K hK
                have r111 := (show ρ (.tmp 111) = env 6 by rw [hρ]; kernel_rfl).trans (hn 6 (by kernel_rfl))
                have r115 := (show ρ (.tmp 115) = env 10 by rw [hρ]; kernel_rfl).trans (hn 10 (by kernel_rfl))
                clear hρ hn hg
                simp [opLands, go_sem, r111, r115]
                exact hK _ _ rfl (Below.refl _ _)
              refine flow_cons (flow_op rfl rfl (by kernel_rfl) (by kernel_rfl) ?_) ?_
              · intro env W hE hn ρ hρ hc hf hg K hK
                have r116 := (show ρ (.tmp 116) = env 11 by rw [hρ]; kernel_rfl).trans (hn 11 (by kernel_rfl))
                clear hρ hn hg
                simp [opLands, go_sem, r116]
                exact hK _ _ rfl (Below.refl _ _)
              refine flow_cons (flow_opY 12 false 117 rfl rfl rfl (by kernel_rfl) (by kernel_rfl) ?_ ?_) ?_
              · intro env W hE hn ρ hρ
                exact (show ρ (.tmp 117) = env 12 by rw [hρ]; kernel_rfl).trans (hn 12 (by kernel_rfl))
              · intro env W hE hn ρ hρ hc hf hg K hK
                have r13 : ρ (.tmp 13) = .pointer (some ⟨b6, 0, none⟩) := by rw [hρ]; kernel_rfl
                clear hρ hn hg
                simp [opLands, go_sem, r13]
                exact hK _ _ rfl (Below.refl _ _)
              refine flow_cons (flow_opY 12 false 117 rfl rfl rfl (by kernel_rfl) (by kernel_rfl) ?_ ?_) ?_
              · intro env W hE hn ρ hρ
                exact (show ρ (.tmp 117) = env 12 by rw [hρ]; kernel_rfl).trans (hn 12 (by kernel_rfl))
              · intro env W hE hn ρ hρ hc hf hg K hK
                have r118 := (show ρ (.tmp 118) = env 13 by rw [hρ]; kernel_rfl).trans (hn 13 (by kernel_rfl))
                clear hρ hn hg
                have q0 := (HM6.out.below hE HM6.out.lt).cell 8
                simp [opLands, go_sem, r118, q0]
                exact hK _ _ rfl (Below.refl _ _)
              refine flow_cons (flow_opY 12 false 117 rfl rfl rfl (by kernel_rfl) (by kernel_rfl) ?_ ?_) ?_
              · intro env W hE hn ρ hρ
                exact (show ρ (.tmp 117) = env 12 by rw [hρ]; kernel_rfl).trans (hn 12 (by kernel_rfl))
              · intro env W hE hn ρ hρ hc hf hg K hK
                have r15 : ρ (.tmp 15) = .int .i64 i := by rw [hρ]; kernel_rfl
                clear hρ hn hg
                simp [opLands, go_sem, r15]
                exact hK _ _ rfl (Below.refl _ _)
              refine flow_cons (flow_opY 12 false 117 rfl rfl rfl (by kernel_rfl) (by kernel_rfl) ?_ ?_) ?_
              · intro env W hE hn ρ hρ
                exact (show ρ (.tmp 117) = env 12 by rw [hρ]; kernel_rfl).trans (hn 12 (by kernel_rfl))
              · intro env W hE hn ρ hρ hc hf hg K hK
                have r120 := (show ρ (.tmp 120) = env 15 by rw [hρ]; kernel_rfl).trans (hn 15 (by kernel_rfl))
                clear hρ hn hg
                simp [opLands, go_sem, hc, r120, hp, hwp]
                exact hK _ _ rfl (Below.refl _ _)
              refine flow_cons (flow_opY 12 false 117 rfl rfl rfl (by kernel_rfl) (by kernel_rfl) ?_ ?_) ?_
              · intro env W hE hn ρ hρ
                exact (show ρ (.tmp 117) = env 12 by rw [hρ]; kernel_rfl).trans (hn 12 (by kernel_rfl))
              · intro env W hE hn ρ hρ hc hf hg K hK
                have r121 := (show ρ (.tmp 121) = env 16 by rw [hρ]; kernel_rfl).trans (hn 16 (by kernel_rfl))
                clear hρ hn hg
                simp [opLands, go_sem, hc, r121, hq1, hwq]
                exact hK _ _ rfl (Below.refl _ _)
              refine flow_cons (flow_opY 12 false 117 rfl rfl rfl (by kernel_rfl) (by kernel_rfl) ?_ ?_) ?_
              · intro env W hE hn ρ hρ
                exact (show ρ (.tmp 117) = env 12 by rw [hρ]; kernel_rfl).trans (hn 12 (by kernel_rfl))
              · intro env W hE hn ρ hρ hc hf hg K hK
                have r119 := (show ρ (.tmp 119) = env 14 by rw [hρ]; kernel_rfl).trans (hn 14 (by kernel_rfl))
                have r122 := (show ρ (.tmp 122) = env 17 by rw [hρ]; kernel_rfl).trans (hn 17 (by kernel_rfl))
                clear hρ hn hg
                simp [opLands, go_sem, r119, r122, hqn]
                exact hK _ _ rfl (Below.refl _ _)
              refine flow_cons (flow_opY 12 false 117 rfl rfl rfl (by kernel_rfl) (by kernel_rfl) ?_ ?_) ?_
              · intro env W hE hn ρ hρ
                exact (show ρ (.tmp 117) = env 12 by rw [hρ]; kernel_rfl).trans (hn 12 (by kernel_rfl))
              · intro env W hE hn ρ hρ hc hf hg K hK
                have r123 := (show ρ (.tmp 123) = env 18 by rw [hρ]; kernel_rfl).trans (hn 18 (by kernel_rfl))
                clear hρ hn hg
                simp [opLands, go_sem, r123]
                exact hK _ _ rfl (Below.refl _ _)
              refine flow_cons (flow_opY 12 false 117 rfl rfl rfl (by kernel_rfl) (by kernel_rfl) ?_ ?_) ?_
              · intro env W hE hn ρ hρ
                exact (show ρ (.tmp 117) = env 12 by rw [hρ]; kernel_rfl).trans (hn 12 (by kernel_rfl))
              · intro env W hE hn ρ hρ hc hf hg K hK
                have r124 := (show ρ (.tmp 124) = env 19 by rw [hρ]; kernel_rfl).trans (hn 19 (by kernel_rfl))
                clear hρ hn hg
                have q2 : W.cell? ⟨(a5.add (q * 9)).block, (a5.add (q * 9)).off + 2, none⟩ = some (.bool ng) := (Below.cell (p := ⟨(a5.add (q * 9)).block, (a5.add (q * 9)).off + 2, none⟩) hE hx2).trans HX2.out
                have q3 : W.cell? ⟨(a5.add (q * 9)).block, (a5.add (q * 9)).off + 3, none⟩ = some (.string dg) := (Below.cell (p := ⟨(a5.add (q * 9)).block, (a5.add (q * 9)).off + 3, none⟩) hE hx2).trans HX3.out
                have q4 : W.cell? ⟨(a5.add (q * 9)).block, (a5.add (q * 9)).off + 4, none⟩ = some (.int .i64 ex) := (Below.cell (p := ⟨(a5.add (q * 9)).block, (a5.add (q * 9)).off + 4, none⟩) hE hx2).trans HX4.out
                simp [opLands, go_sem, r124, q2, q3, q4]
                exact hK _ _ rfl (Below.refl _ _)
              refine flow_cons (flow_opY 12 false 117 rfl rfl rfl (by kernel_rfl) (by kernel_rfl) ?_ ?_) ?_
              · intro env W hE hn ρ hρ
                exact (show ρ (.tmp 117) = env 12 by rw [hρ]; kernel_rfl).trans (hn 12 (by kernel_rfl))
              · intro env W hE hn ρ hρ hc hf hg K hK
                have r15 : ρ (.tmp 15) = .int .i64 i := by rw [hρ]; kernel_rfl
                clear hρ hn hg
                simp [opLands, go_sem, r15]
                exact hK _ _ rfl (Below.refl _ _)
              refine flow_cons (flow_opY 12 false 117 rfl rfl rfl (by kernel_rfl) (by kernel_rfl) ?_ ?_) ?_
              · intro env W hE hn ρ hρ
                exact (show ρ (.tmp 117) = env 12 by rw [hρ]; kernel_rfl).trans (hn 12 (by kernel_rfl))
              · intro env W hE hn ρ hρ hc hf hg K hK
                have r126 := (show ρ (.tmp 126) = env 21 by rw [hρ]; kernel_rfl).trans (hn 21 (by kernel_rfl))
                clear hρ hn hg
                simp [opLands, go_sem, r126, yci]
                exact hK _ _ rfl (Below.refl _ _)
              refine flow_cons (flow_opY 12 false 117 rfl rfl rfl (by kernel_rfl) (by kernel_rfl) ?_ ?_) ?_
              · intro env W hE hn ρ hρ
                exact (show ρ (.tmp 117) = env 12 by rw [hρ]; kernel_rfl).trans (hn 12 (by kernel_rfl))
              · intro env W hE hn ρ hρ hc hf hg K hK
                have r127 := (show ρ (.tmp 127) = env 22 by rw [hρ]; kernel_rfl).trans (hn 22 (by kernel_rfl))
                clear hρ hn hg
                refine lands_call rfl (by kernel_rfl) hf ?_
                rw [show #[Operand.const (Value.bool false), Operand.tmp 127].map ρ = #[.bool false, .int .u64 i] by simp [r127, hc]]
                refine (HOFI.out W).mono ?_
                rintro e W' ⟨rfl, hb⟩
                exact ⟨_, rfl, hK _ _ rfl hb⟩
              refine flow_cons (flow_opY 12 false 117 rfl rfl rfl (by kernel_rfl) (by kernel_rfl) ?_ ?_) flow_nil
              · intro env W hE hn ρ hρ
                exact (show ρ (.tmp 117) = env 12 by rw [hρ]; kernel_rfl).trans (hn 12 (by kernel_rfl))
              · intro env W hE hn ρ hρ hc hf hg K hK
                have r125 := (show ρ (.tmp 125) = env 20 by rw [hρ]; kernel_rfl).trans (hn 20 (by kernel_rfl))
                have r128 := (show ρ (.tmp 128) = env 23 by rw [hρ]; kernel_rfl).trans (hn 23 (by kernel_rfl))
                clear hρ hn hg
                simp [opLands, go_sem, r125, r128]
                exact hK _ _ rfl (Below.refl _ _)
            case refine_5 =>
              intro env W hE hn
              have e12 : env 12 = .bool false := hn 12 (by decide)
              have e24 : env 24 = .bool false := hn 24 (by decide)
              clear hn
              simp only [List.take_succ_cons, List.take_zero, List.drop_succ_cons, List.drop_zero, frameAll, e12, e24]
              go_simp
              clear e12 e24
              have hz6 := hb6z.trans (hE.mono hb6z.size)
              clear HM6 HX0 HX1 HX2 HX3 HX4 hE HOFI
              go_wp2_with fail
              go_roundw
              case rel => exact ⟨i + 1, by omega, by go_num, hz6⟩
              case measure => simp [intOf]; omega
          · have y3 : ¬ (i : Int) < m := by omega
            have hbz := hb6w.trans (hb6z.mono hb6w.size)
            clear hb6z HM HL6 HO6 HPK HW6 HR6
            go_wp2_with fail
            go_ret
            exact ⟨rfl, hbz⟩
end Go.Proofs.YtfckekaegjjmkaaGreatDoor
