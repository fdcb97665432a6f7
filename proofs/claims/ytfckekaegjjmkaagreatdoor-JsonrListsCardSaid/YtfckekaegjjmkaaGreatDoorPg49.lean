/- The texts JrZ, put together. -/
import Derived.Test.YtfckekaegjjmkaaGreatDoorPg48
import Derived.Test.YtfckekaegjjmkaaGreatDoorPg02
import Derived.Deep.CutRange
namespace Go.Proofs.YtfckekaegjjmkaaGreatDoor
open Go.RowKit Go.Shelf
attribute [local go_sem] Oper.semAt_some

theorem trees_count : ∀ (l : List Tr), (∀ t ∈ l, t.count ≤ 300) → countL l ≤ 300 * l.length
  | [], _ => Nat.zero_le _
  | t :: l, h => by
    have h1 := h t (by simp)
    have h2 := trees_count l (fun u hu => h u (by simp [hu]))
    rw [countL, List.length_cons]
    omega
/-- What was gathered. -/
structure LsJ (ps : List (List UInt8 × Tr)) (al : ByteArray) : Prop where
  txt : al.data.toList = 91 :: joinD ps
  docs : ∀ y ∈ ps, y.1.length ≤ 100 ∧ readJ uqJ y.1 = (0, y.2)
theorem LsJ.start : LsJ [] ⟨#[91]⟩ := ⟨rfl, fun y hy => by cases hy⟩
theorem LsJ.step0 {al s : ByteArray} {t : Tr} {ps : List (List UInt8 × Tr)} (h : LsJ ps al) (hp : ps = []) (hs : s.size ≤ 100) (hr : readJ uqJ s.data.toList = (0, t)) : LsJ (ps ++ [(s.data.toList, t)]) (al ++ s) := by
  subst hp
  refine ⟨?_, fun y hy => ?_⟩
  · have h1 := h.txt
    simp only [ByteArray.data_append, Array.toList_append, h1]
    rfl
  · rw [List.nil_append] at hy
    rw [List.mem_singleton.1 hy]
    exact ⟨by simpa using hs, hr⟩
theorem LsJ.step1 {ps : List (List UInt8 × Tr)} {al s : ByteArray} {t : Tr} (h : LsJ ps al) (hp : ps ≠ []) (hs : s.size ≤ 100) (hr : readJ uqJ s.data.toList = (0, t)) : LsJ (ps ++ [(s.data.toList, t)]) (al ++ ⟨#[44]⟩ ++ s) := by
  refine ⟨?_, fun y hy => ?_⟩
  · have h1 := h.txt
    rw [join_snoc, if_neg hp]
    simp [h1]
  · rcases List.mem_append.1 hy with hy | hy
    · exact h.docs y hy
    · rw [List.mem_singleton.1 hy]
      exact ⟨by simpa using hs, hr⟩
theorem LsJ.count {ps : List (List UInt8 × Tr)} {al : ByteArray} (h : LsJ ps al) (hp : ps.length ≤ 6) : (treesD ps).count ≤ 10000 := by
  have h1 := trees_count (ps.map (·.2)) (fun t ht => by
    obtain ⟨y, hy, rfl⟩ := List.mem_map.1 ht
    obtain ⟨h1, h2⟩ := h.docs y hy
    exact right_count (doc_parts uqJ_own2 (Nat.lt_succ_self _) (read_good h2 (by omega))).2.1)
  rw [List.length_map] at h1
  rw [Tr.count_eq]
  show 1 + countL (ps.map (·.2)) ≤ _
  omega
theorem LsJ.read {ps : List (List UInt8 × Tr)} {al : ByteArray} (h : LsJ ps al) (hp : ps.length ≤ 6) : readJ uqJ (al ++ ⟨#[93]⟩).data.toList = if (treesD ps).count ≤ 300 ∧ (treesD ps).depth ≤ 16 then (0, treesD ps) else (60, .nd zeroO []) := by
  rw [← lists_read ps hp h.docs]
  have h1 := h.txt
  simp [h1]

set_option maxHeartbeats 8000000 in
set_option maxRecDepth 100000 in
theorem lists_walkJ {uT uQ aT aF : Addr} (w : World) (A : Option Addr) (n c : Nat) (l : List ByteArray) (hn : n ≤ 9223372036854775807) (hl : StrsAt w w.heap.size A n l) (h : JRW w uT uQ aT aF) :
    Calls Tryz.prog 11 #[.slice A n c] w fun e w' => e = .returned (.bool true) ∧ Below w.heap.size w w' := by
  obtain ⟨i0, hi, hz0, hz1, hz2⟩ := info_parts infoNode
  have HI := Lib.hid hi
  have HZ0 := Lib.hid hz0
  have HZ1 := Lib.hid hz1
  have HZ2 := Lib.hid hz2
  clear hi hz0 hz1 hz2
  have H1 := Lib.hid (jr_shown w h)
  have H2 := Lib.hid (fun (x : ByteArray) (hx : x.size ≤ 100000000) W (hb : Below w.heap.size w W) => jr_Read x hx W (h.below hb))
  have HL := Lib.hid hl
  clear h hl
  go_enter Tryz.func11, Tryz.ntmps11
  go_wp2_with fail
  refine H1.out.mono ?_
  rintro x w1 ⟨rfl, hb1⟩
  clear H1
  go_wp2_with fail
  obtain ⟨b1, hb1e⟩ : ∃ b1, w1.heap.size = b1 := ⟨_, rfl⟩
  have hB1 : w.heap.size ≤ b1 := by rw [← hb1e]; exact hb1.size
  have hk0 := Blk.new w1 #[.int .i64 7, .bool false, .bool false, .string ⟨#[]⟩, .int .i64 0, .int .u64 0, .int .i64 0, .string ⟨#[]⟩, .slice none 0 0] 27
  have hbw0 := hb1.alloc hb1.size (.cells #[.int .i64 7, .bool false, .bool false, .string ⟨#[]⟩, .int .i64 0, .int .u64 0, .int .i64 0, .string ⟨#[]⟩, .slice none 0 0] 27)
  rw [hb1e] at hk0 ⊢
  clear hb1e hb1
  go_loopw [4, 6] (fun o i wr => ∃ (k : Nat) (ps : List (List UInt8 × Tr)) (xs : List Value) (v' : Value) (al : ByteArray), k ≤ n ∧ k ≤ 6 ∧ o = .string al ∧ i = .int .i64 k ∧ Hid (LsJ ps al) ∧ ps.length ≤ k ∧ al.size ≤ 1 + 101 * k ∧ Hid (Blk wr b1 #[.int .i64 7, .bool false, .bool false, .string ⟨#[]⟩, .int .i64 0, .int .u64 0, .int .i64 0, .string ⟨#[]⟩, v'] 27) ∧ wr.ownsRow w.heap.size 27 9 v' ps.length xs ∧ RowT wr (fun q => b1 + 1 ≤ q ∧ q < wr.heap.size ∧ (v').ownBlock ≠ some q) 16 (ps.map (·.2)) xs ∧ Below w.heap.size w wr ∧ v'.ownBlock ≠ some b1) (fun _ i _ => n - (intOf i).toNat)
  case atStart => exact ⟨0, [], [], .slice none 0 0, _, by omega, by omega, rfl, rfl, Lib.hid LsJ.start, Nat.le_refl _, Nat.le_refl _, Lib.hid hk0, World.ownsRow_nil _ _ _ _, rfl, hbw0, by simp [Value.ownBlock]⟩
  case round =>
    obtain ⟨k, ps, xs, v', al, hk, hk6, rfl, rfl, HLS, hpk, hak, HBK, hown, hrow, hbw, hvb⟩ := hrel
    clear hbw0 hk0
    obtain ⟨A', c', rfl⟩ := own_sliceT hown
    obtain ⟨m, hm⟩ : ∃ m, ps.length = m := ⟨_, rfl⟩
    rw [hm] at hown hrow hpk hvb HBK
    have HOWN := Lib.hid hown
    have HROW := Lib.hid hrow
    have HVB := Lib.hid hvb
    have hw1 := HBK.out.lt
    have hzw := hbw.size
    clear hown hrow hvb
    by_cases hk1 : k < n
    · have y1 : (k : Int) < n := by omega
      by_cases hk2 : k < 6
      · have y2 : (k : Int) < 6 := by omega
        obtain ⟨ad, rfl, hab, hcell, hsz⟩ := (HL.out.below hbw (Nat.le_refl _)).at_ k (by have := HL.out.len; omega)
        obtain ⟨sk, hsk⟩ : ∃ x, l[k]'(by have := HL.out.len; omega) = x := ⟨_, rfl⟩
        rw [hsk] at hcell hsz
        obtain ⟨ks, hks⟩ : ∃ k, min sk.size 100 = k := ⟨_, rfl⟩
        have y5 : min (sk.size : Int) 100 = (ks : Int) := by omega
        have y6 : ks ≤ sk.size := by omega
        have hez : (sk.extract 0 ks).size = ks := by simp; omega
        obtain ⟨s, hs⟩ : ∃ s, sk.extract 0 ks = s := ⟨_, rfl⟩
        rw [hs] at hez
        have hs9 : s.size ≤ 100 := by omega
        have HS := Lib.hid hs
        have hab2 : ad.block < wr.heap.size := Nat.lt_of_lt_of_le hab hbw.size
        clear hsk hks hez hs hsz hab HL
        go_wp2_with fail
        refine wp_region_tail (R := fun W W' => Below W.heap.size W W') 11 (by kernel_rfl) (by kernel_rfl) (fun _ => Below.refl _ _) (by kernel_rfl) (by kernel_rfl) (fun W => Below wr.heap.size wr W)
          [fun v _ => v = .slice (some ad) n c, fun v _ => v = .int .i64 k, fun v _ => v = .pointer (some (ad.add k)), fun v _ => v = .string sk, fun v _ => v = .slice (some ad) n c, fun v _ => v = .int .i64 k, fun v _ => v = .pointer (some (ad.add k)), fun v _ => v = .string sk, fun v _ => v = .int .i64 sk.size, fun v _ => v = .int .i64 ks, fun v _ => v = .string s] ?_ ?_ ?_ ?_ ?_
        case refine_1 => exact (Below.refl _ _).drew
        case refine_2 => exact fun W W' he hr => he.trans (hr.mono he.size)
        case refine_3 =>
          intro q hq v W W' _ hv hr
          simp only [List.mem_cons, List.not_mem_nil, or_false] at hq
          rcases hq with rfl | rfl | rfl | rfl | rfl | rfl | rfl | rfl | rfl | rfl | rfl <;> exact hv
        case refine_4 =>
          refine flow_cons (flow_op rfl rfl (by kernel_rfl) (by kernel_rfl) ?_) ?_
          · intro env W hE hn ρ hρ hc hf hg K hK
            have r0 : ρ (.tmp 0) = .slice (some ad) n c := by rw [hρ]; kernel_rfl
            clear hρ hn hg
            simp [opLands, go_sem, r0]
            exact hK _ _ rfl (Below.refl _ _)
          refine flow_cons (flow_op rfl rfl (by kernel_rfl) (by kernel_rfl) ?_) ?_
          · intro env W hE hn ρ hρ hc hf hg K hK
            have r6 : ρ (.tmp 6) = .int .i64 k := by rw [hρ]; kernel_rfl
            clear hρ hn hg
            simp [opLands, go_sem, r6]
            exact hK _ _ rfl (Below.refl _ _)
          refine flow_cons (flow_op rfl rfl (by kernel_rfl) (by kernel_rfl) ?_) ?_
          · intro env W hE hn ρ hρ hc hf hg K hK
            have r24 := (show ρ (.tmp 24) = env 0 by rw [hρ]; kernel_rfl).trans (hn 0 (by kernel_rfl))
            have r25 := (show ρ (.tmp 25) = env 1 by rw [hρ]; kernel_rfl).trans (hn 1 (by kernel_rfl))
            clear hρ hn hg
            simp [opLands, go_sem, r24, r25, y1]
            exact hK _ _ rfl (Below.refl _ _)
          refine flow_cons (flow_op rfl rfl (by kernel_rfl) (by kernel_rfl) ?_) ?_
          · intro env W hE hn ρ hρ hc hf hg K hK
            have r26 := (show ρ (.tmp 26) = env 2 by rw [hρ]; kernel_rfl).trans (hn 2 (by kernel_rfl))
            clear hρ hn hg
            have q0 : W.cell? (ad.add k) = some (.string sk) := (Below.cell hE (by rw [add_block]; omega)).trans hcell
            simp [opLands, go_sem, r26, q0]
            exact hK _ _ rfl (Below.refl _ _)
          refine flow_cons (flow_op rfl rfl (by kernel_rfl) (by kernel_rfl) ?_) ?_
          · intro env W hE hn ρ hρ hc hf hg K hK
            have r0 : ρ (.tmp 0) = .slice (some ad) n c := by rw [hρ]; kernel_rfl
            clear hρ hn hg
            simp [opLands, go_sem, r0]
            exact hK _ _ rfl (Below.refl _ _)
          refine flow_cons (flow_op rfl rfl (by kernel_rfl) (by kernel_rfl) ?_) ?_
          · intro env W hE hn ρ hρ hc hf hg K hK
            have r6 : ρ (.tmp 6) = .int .i64 k := by rw [hρ]; kernel_rfl
            clear hρ hn hg
            simp [opLands, go_sem, r6]
            exact hK _ _ rfl (Below.refl _ _)
          refine flow_cons (flow_op rfl rfl (by kernel_rfl) (by kernel_rfl) ?_) ?_
          · intro env W hE hn ρ hρ hc hf hg K hK
            have r28 := (show ρ (.tmp 28) = env 4 by rw [hρ]; kernel_rfl).trans (hn 4 (by kernel_rfl))
            have r29 := (show ρ (.tmp 29) = env 5 by rw [hρ]; kernel_rfl).trans (hn 5 (by kernel_rfl))
            clear hρ hn hg
            simp [opLands, go_sem, r28, r29, y1]
            exact hK _ _ rfl (Below.refl _ _)
          refine flow_cons (flow_op rfl rfl (by kernel_rfl) (by kernel_rfl) ?_) ?_
          · intro env W hE hn ρ hρ hc hf hg K hK
            have r30 := (show ρ (.tmp 30) = env 6 by rw [hρ]; kernel_rfl).trans (hn 6 (by kernel_rfl))
            clear hρ hn hg
            have q0 : W.cell? (ad.add k) = some (.string sk) := (Below.cell hE (by rw [add_block]; omega)).trans hcell
            simp [opLands, go_sem, r30, q0]
            exact hK _ _ rfl (Below.refl _ _)
          refine flow_cons (flow_op rfl rfl (by kernel_rfl) (by kernel_rfl) ?_) ?_
          · intro env W hE hn ρ hρ hc hf hg K hK
            have r31 := (show ρ (.tmp 31) = env 7 by rw [hρ]; kernel_rfl).trans (hn 7 (by kernel_rfl))
            clear hρ hn hg
            simp [opLands, go_sem, r31]
            exact hK _ _ rfl (Below.refl _ _)
          refine flow_cons (flow_op rfl rfl (by kernel_rfl) (by kernel_rfl) ?_) ?_
          · intro env W hE hn ρ hρ hc hf hg K hK
            have r32 := (show ρ (.tmp 32) = env 8 by rw [hρ]; kernel_rfl).trans (hn 8 (by kernel_rfl))
            clear hρ hn hg
            simp [opLands, go_sem, hc, r32, y5]
            exact hK _ _ rfl (Below.refl _ _)
          refine flow_cons (flow_op rfl rfl (by kernel_rfl) (by kernel_rfl) ?_) flow_nil
          · intro env W hE hn ρ hρ hc hf hg K hK
            have r27 := (show ρ (.tmp 27) = env 3 by rw [hρ]; kernel_rfl).trans (hn 3 (by kernel_rfl))
            have r33 := (show ρ (.tmp 33) = env 9 by rw [hρ]; kernel_rfl).trans (hn 9 (by kernel_rfl))
            clear hρ hn hg
            simp [opLands, go_sem, r27, r33, y6, HS.out]
            exact hK _ _ rfl (Below.refl _ _)
        case refine_5 =>
          intro env W hE hn
          have e10 : env 10 = .string s := hn 10 (by decide)
          clear hn
          simp only [List.take_succ_cons, List.take_zero, List.drop_succ_cons, List.drop_zero, frameAll, e10]
          go_simp
          clear e10
          clear y5 y6 HS hcell hab2
          have hWw := hbw.trans (hE.mono hbw.size)
          have HIT := H2.out s (by omega) W hWw
          clear H2 hWw
          obtain ⟨⟨e, t⟩, hres⟩ : ∃ r, readJ uqJ s.data.toList = r := ⟨_, rfl⟩
          have hzt : e ≠ 0 → t = .nd zeroO [] := fun he => by
            rcases rj_cases s with ⟨_, h⟩ | ⟨h, _⟩
            · rw [show RJ s = (e, t) from hres] at h
              exact h
            · rw [show RJ s = (e, t) from hres] at h
              exact absurd h he
          rw [hres] at HIT
          go_wp2_with fail
          by_cases he : e = 0
          · subst he
            clear hzt
            by_cases h0 : m = 0
            · have hps : ps = [] := List.length_eq_zero_iff.1 (hm.trans h0)
              obtain ⟨al2, hal2⟩ : ∃ x, al ++ s = x := ⟨_, rfl⟩
              have hlsn := HLS.out.step0 hps hs9 hres
              rw [hal2] at hlsn
              have hal2z : al2.size ≤ 1 + 101 * (k + 1) := by
                rw [← hal2, ByteArray.size_append]
                
                omega
              have ys : ¬ 9223372036854775807 < al.size + s.size := by omega

              have y7 : ¬ (0 : Int) < m := by omega
              have hln : ps.length + 1 = (ps ++ [(s.data.toList, t)]).length := by simp
              have hmp : (ps ++ [(s.data.toList, t)]).map (·.2) = ps.map (·.2) ++ [t] := by simp
              have HLSN := Lib.hid hlsn
              have HLN := Lib.hid hln
              have HMP := Lib.hid hmp
              have HAL2 := Lib.hid hal2
              have HAZ := Lib.hid hal2z
              clear hres hlsn hln hmp hal2 hal2z HLS hps h0
              refine HIT.mono ?_
              rintro x w2 ⟨hb2, A1, n1, c1, rfl, hl1, ho1⟩
              have ho1 : OwnOk t.own := ho1
              have hl1 : LAt w2 (fun q => W.heap.size ≤ q ∧ q < w2.heap.size) 16 t.kids (.slice A1 n1 c1) := hl1
              have hb2w := hE.trans (hb2.mono hE.size)
              have HRO := Lib.hid (fun W S (hl : LAt W S 16 t.kids (.slice A1 n1 c1)) => RowT.one (t := t) ho1 hl)
              obtain ⟨⟨kind1, bb1, neg1, dg1, ex1, u1, wd1, s1⟩, hoE⟩ : ∃ o, t.own = o := ⟨_, rfl⟩
              simp only [hoE] at HRO ⊢
              unfold nodeCells at HRO
              unfold nodeV
              simp only [] at HRO ⊢
              have hb13 : Below wr.heap.size wr (w2.alloc (.cells #[.int .i64 kind1, .bool bb1, .bool neg1, .string dg1, .int .i64 ex1, .int .u64 u1, .int .i64 wd1, .string s1, .slice A1 n1 c1] 27)) := hb2w.alloc hb2w.size _
              have hkN := Blk.new w2 #[.int .i64 kind1, .bool bb1, .bool neg1, .string dg1, .int .i64 ex1, .int .u64 u1, .int .i64 wd1, .string s1, .slice A1 n1 c1] 27
              have zo8' := (HBK.out.below hb13 HBK.out.lt).cell 8
              have hz2 := hE.size
              have hz3 := hb2.size
              obtain ⟨w3, hw3⟩ : ∃ w3, w2.alloc (.cells #[.int .i64 kind1, .bool bb1, .bool neg1, .string dg1, .int .i64 ex1, .int .u64 u1, .int .i64 wd1, .string s1, .slice A1 n1 c1] 27) = w3 := ⟨_, rfl⟩
              have hz4 : w3.heap.size = w2.heap.size + 1 := by rw [← hw3]; simp
              have hl3 : LAt w3 (fun q => wr.heap.size ≤ q ∧ q < w2.heap.size) 16 t.kids (.slice A1 n1 c1) := by
                rw [← hw3]
                exact (hl1.keep (fun q hq => Below.heap_alloc w2 _ q hq.2)).mono (fun q hq => by omega)
              rw [hw3] at hb13 hkN
              have HW3 := Lib.hid hw3
              have hbw3 := hbw.trans (hb13.mono hbw.size)
              have hbo3 := HBK.out.below hb13 HBK.out.lt
              have hlt1 := HBK.out.lt
              have hq : ∀ q, (Value.slice A' m c').ownBlock = some q → w.heap.size ≤ q ∧ q < wr.heap.size := fun q e => ⟨(HOWN.out.lt q e).1, (HOWN.out.lt q e).2⟩
              have hown3 : w3.ownsRow w.heap.size 27 9 (Value.slice A' m c') m xs := HOWN.out.kept (below_none hb13) (by cases A' with | none => exact .inl rfl | some a => exact .inr (by simp [Value.ownBlock]))
              have hrow3 : RowT w3 (fun q => b1 + 1 ≤ q ∧ q < w3.heap.size ∧ (Value.slice A' m c').ownBlock ≠ some q) 16 (ps.map (·.2)) xs := (HROW.out.keep (fun q hq => hb13.block q hq.2.1)).mono (fun q hq => ⟨hq.1, by omega, hq.2.2⟩)
              have zk0 := hkN.cell 0
              have zk1 := hkN.cell 1
              have zk2 := hkN.cell 2
              have zk3 := hkN.cell 3
              have zk4 := hkN.cell 4
              have zk5 := hkN.cell 5
              have zk6 := hkN.cell 6
              have zk7 := hkN.cell 7
              have zk8 := hkN.cell 8
              have zo8 := hbo3.cell 8
              have HQ := Lib.hid hq
              have HR3 := Lib.hid hrow3
              have HLY := Lib.hid hl3
              have HB1 := Lib.hid hbo3
              have c3 : m + 1 ≤ maxLen := by unfold maxLen; omega
              have hvb := HVB.out
              have hz4a : w2.heap.size + 1 ≤ w3.heap.size := by omega
              have hz4b : w3.heap.size ≤ w2.heap.size + 1 := by omega
              clear HIT hl1 ho1 hoE hw3 hb2 hb2w hq hrow3 hl3 HOWN HROW hE hz4 hbo3 hkN HBK HVB
              go_upto_region 13 with (fail)
              rw [HW3.out]
              clear HW3 zo8'
              go_wp2_with (at_builtin; refine wpList_append_lies _ rfl _ _ 25 rfl w.heap.size 27 i0 (.agg #[.int .i64 0, .bool false, .bool false, .string ⟨#[]⟩, .int .i64 0, .int .u64 0, .int .i64 0, .string ⟨#[]⟩, .slice none 0 0]) 9 104 Tryz.underlying25 HI.out HZ0.out HZ1.out HZ2.out rfl (by decide) _ _ _ rfl (hown3.alloc _) ⟨w3.heap.size, 0, none⟩ 1 1 [.int .i64 kind1, .bool bb1, .bool neg1, .string dg1, .int .i64 ex1, .int .u64 u1, .int .i64 wd1, .string s1, .slice A1 n1 c1] rfl rfl (cells_newT _ [.int .i64 kind1, .bool bb1, .bool neg1, .string dg1, .int .i64 ex1, .int .u64 u1, .int .i64 wd1, .string s1, .slice A1 n1 c1] _) (by intro u hu; simp at hu; rcases hu with rfl | rfl | rfl | rfl | rfl | rfl | rfl | rfl | rfl <;> rfl) (by decide) (by omega) (by omega) (by simp; omega) (w3.heap.size + 1) (by simp) ?_; intro g cap w4 hown4 hgrow hat hg4; have hblk4 : Blk w4 b1 #[.int .i64 7, .bool false, .bool false, .string ⟨#[]⟩, .int .i64 0, .int .u64 0, .int .i64 0, .string ⟨#[]⟩, (.slice A' m c')] 27 := blk_keep HB1.out (by rw [hgrow.block b1 (by simp; omega) (fun e => hvb e.symm)]; exact ((Below.refl w3.heap.size w3).alloc (Nat.le_refl _) _).block b1 (by omega)); have f8 := hblk4.frozen 8; have z8 := hblk4.cell 8)
              have hg0 : (Value.slice A' m c').ownBlock = some g → w.heap.size ≤ g ∧ g < wr.heap.size := fun e => HQ.out g e
              have hsz4 : w3.heap.size + 1 ≤ w4.heap.size := by
                have := hgrow.size
                simpa using this
              have hkeep : ∀ q, q < w3.heap.size → (Value.slice A' m c').ownBlock ≠ some q → w4.heap[q]? = w3.heap[q]? := fun q hq hne => by
                rw [hgrow.block q (by simp; omega) (fun e => hne e.symm)]
                exact ((Below.refl w3.heap.size w3).alloc (Nat.le_refl _) _).block q hq
              have hgl : g = w3.heap.size + 1 ∨ (Value.slice A' m c').ownBlock = some g := hat.symm
              have hgb : g ≠ b1 := fun e => by
                rcases hgl with h | h
                · omega
                · rw [e] at h
                  exact hvb h
              have hrow4 : RowT w4 (fun q => b1 + 1 ≤ q ∧ q < w4.heap.size ∧ (Value.slice (some ⟨g, 0, none⟩) (m + 1) cap).ownBlock ≠ some q) 16 (ps.map (·.2) ++ [t]) (xs ++ [.int .i64 kind1, .bool bb1, .bool neg1, .string dg1, .int .i64 ex1, .int .u64 u1, .int .i64 wd1, .string s1, .slice A1 n1 c1]) := by
                refine RowT.append ?_ ((HR3.out.keep (fun q hq => hkeep q hq.2.1 hq.2.2)).mono (fun q hq => ⟨hq.1, by omega, fun e => ?_⟩))
                · have h1 : LAt w4 (fun q => b1 + 1 ≤ q ∧ q < w4.heap.size ∧ (Value.slice (some ⟨g, 0, none⟩) (m + 1) cap).ownBlock ≠ some q) 16 t.kids (.slice A1 n1 c1) := by
                    refine (HLY.out.keep (fun q hq => hkeep q (by omega) (fun e => ?_))).mono (fun q hq => ⟨by omega, by omega, fun e => ?_⟩)
                    · have := (HQ.out q e).2
                      omega
                    · have e' : g = q := by simpa [Value.ownBlock] using e
                      rcases hgl with h | h
                      · omega
                      · have := (hg0 h).2
                        omega
                  exact HRO.out _ _ h1
                · have e' : g = q := by simpa [Value.ownBlock] using e
                  subst e'
                  rcases hgl with h | h
                  · omega
                  · exact hq.2.2 h
              have hbw4 : Below w.heap.size w w4 := (hbw3.alloc hbw3.size _).grown hgrow (by simp; omega) (fun q e => (HQ.out q e).1)
              have hs5 : Blk (w4.setCell ⟨b1, 8, none⟩ (.slice (some ⟨g, 0, none⟩) (m + 1) cap)) b1 #[.int .i64 7, .bool false, .bool false, .string ⟨#[]⟩, .int .i64 0, .int .u64 0, .int .i64 0, .string ⟨#[]⟩, (.slice (some ⟨g, 0, none⟩) (m + 1) cap)] 27 := hblk4.set 8 _
              have hown5 := ownsRow_setCell_other hown4 (a := ⟨b1, 8, none⟩) (by simpa [Value.ownBlock] using hgb) (.slice (some ⟨g, 0, none⟩) (m + 1) cap)
              have hrow5 := hrow4.keep (W' := w4.setCell ⟨b1, 8, none⟩ (.slice (some ⟨g, 0, none⟩) (m + 1) cap)) (fun q hq => Below.heap_setCell w4 ⟨b1, 8, none⟩ _ q (by show q ≠ b1; omega))
              have hbw5 := hbw4.setCell (p := ⟨b1, 8, none⟩) hB1 (.slice (some ⟨g, 0, none⟩) (m + 1) cap)
              have hsz5 : (w4.setCell ⟨b1, 8, none⟩ (.slice (some ⟨g, 0, none⟩) (m + 1) cap)).heap.size = w4.heap.size := by simp [World.setCell]
              have HR5 := Lib.hid hrow5
              have HO5 := Lib.hid hown5
              have HK5 := Lib.hid hs5
              have HB5 := Lib.hid hbw5
              clear hgrow hat hgl hg0 hkeep hrow4 hown4 hown3 HR3 HLY HQ HB1 hbw hbw3 hbw4 hblk4 hrow5 hown5 hs5 hbw5
              rw [HAL2.out]
              go_roundw
              case rel => exact ⟨k + 1, _, _, _, al2, by omega, by omega, rfl, by go_num, HLSN, by rw [← HLN.out]; omega, HAZ.out, HK5, by rw [← HLN.out, hm]; exact HO5.out, by rw [HMP.out, hsz5]; exact HR5.out, HB5.out, by simpa [Value.ownBlock] using hgb⟩
              case measure => simp [intOf]; omega
            · have hps : ps ≠ [] := fun q => h0 (by rw [← hm, q]; rfl)
              obtain ⟨al2, hal2⟩ : ∃ x, al ++ ⟨#[44]⟩ ++ s = x := ⟨_, rfl⟩
              have hlsn := HLS.out.step1 hps hs9 hres
              rw [hal2] at hlsn
              have hal2z : al2.size ≤ 1 + 101 * (k + 1) := by
                rw [← hal2, ByteArray.size_append, ByteArray.size_append]
                have e1 : (⟨#[44]⟩ : ByteArray).size = 1 := rfl
                omega
              have ys : ¬ 9223372036854775807 < al.size + 1 + s.size := by omega
              have ys2 : ¬ 9223372036854775807 < al.size + 1 := by omega
              have y7 : (0 : Int) < m := by omega
              have hln : ps.length + 1 = (ps ++ [(s.data.toList, t)]).length := by simp
              have hmp : (ps ++ [(s.data.toList, t)]).map (·.2) = ps.map (·.2) ++ [t] := by simp
              have HLSN := Lib.hid hlsn
              have HLN := Lib.hid hln
              have HMP := Lib.hid hmp
              have HAL2 := Lib.hid hal2
              have HAZ := Lib.hid hal2z
              clear hres hlsn hln hmp hal2 hal2z HLS hps h0
              refine HIT.mono ?_
              rintro x w2 ⟨hb2, A1, n1, c1, rfl, hl1, ho1⟩
              have ho1 : OwnOk t.own := ho1
              have hl1 : LAt w2 (fun q => W.heap.size ≤ q ∧ q < w2.heap.size) 16 t.kids (.slice A1 n1 c1) := hl1
              have hb2w := hE.trans (hb2.mono hE.size)
              have HRO := Lib.hid (fun W S (hl : LAt W S 16 t.kids (.slice A1 n1 c1)) => RowT.one (t := t) ho1 hl)
              obtain ⟨⟨kind1, bb1, neg1, dg1, ex1, u1, wd1, s1⟩, hoE⟩ : ∃ o, t.own = o := ⟨_, rfl⟩
              simp only [hoE] at HRO ⊢
              unfold nodeCells at HRO
              unfold nodeV
              simp only [] at HRO ⊢
              have hb13 : Below wr.heap.size wr (w2.alloc (.cells #[.int .i64 kind1, .bool bb1, .bool neg1, .string dg1, .int .i64 ex1, .int .u64 u1, .int .i64 wd1, .string s1, .slice A1 n1 c1] 27)) := hb2w.alloc hb2w.size _
              have hkN := Blk.new w2 #[.int .i64 kind1, .bool bb1, .bool neg1, .string dg1, .int .i64 ex1, .int .u64 u1, .int .i64 wd1, .string s1, .slice A1 n1 c1] 27
              have zo8' := (HBK.out.below hb13 HBK.out.lt).cell 8
              have hz2 := hE.size
              have hz3 := hb2.size
              obtain ⟨w3, hw3⟩ : ∃ w3, w2.alloc (.cells #[.int .i64 kind1, .bool bb1, .bool neg1, .string dg1, .int .i64 ex1, .int .u64 u1, .int .i64 wd1, .string s1, .slice A1 n1 c1] 27) = w3 := ⟨_, rfl⟩
              have hz4 : w3.heap.size = w2.heap.size + 1 := by rw [← hw3]; simp
              have hl3 : LAt w3 (fun q => wr.heap.size ≤ q ∧ q < w2.heap.size) 16 t.kids (.slice A1 n1 c1) := by
                rw [← hw3]
                exact (hl1.keep (fun q hq => Below.heap_alloc w2 _ q hq.2)).mono (fun q hq => by omega)
              rw [hw3] at hb13 hkN
              have HW3 := Lib.hid hw3
              have hbw3 := hbw.trans (hb13.mono hbw.size)
              have hbo3 := HBK.out.below hb13 HBK.out.lt
              have hlt1 := HBK.out.lt
              have hq : ∀ q, (Value.slice A' m c').ownBlock = some q → w.heap.size ≤ q ∧ q < wr.heap.size := fun q e => ⟨(HOWN.out.lt q e).1, (HOWN.out.lt q e).2⟩
              have hown3 : w3.ownsRow w.heap.size 27 9 (Value.slice A' m c') m xs := HOWN.out.kept (below_none hb13) (by cases A' with | none => exact .inl rfl | some a => exact .inr (by simp [Value.ownBlock]))
              have hrow3 : RowT w3 (fun q => b1 + 1 ≤ q ∧ q < w3.heap.size ∧ (Value.slice A' m c').ownBlock ≠ some q) 16 (ps.map (·.2)) xs := (HROW.out.keep (fun q hq => hb13.block q hq.2.1)).mono (fun q hq => ⟨hq.1, by omega, hq.2.2⟩)
              have zk0 := hkN.cell 0
              have zk1 := hkN.cell 1
              have zk2 := hkN.cell 2
              have zk3 := hkN.cell 3
              have zk4 := hkN.cell 4
              have zk5 := hkN.cell 5
              have zk6 := hkN.cell 6
              have zk7 := hkN.cell 7
              have zk8 := hkN.cell 8
              have zo8 := hbo3.cell 8
              have HQ := Lib.hid hq
              have HR3 := Lib.hid hrow3
              have HLY := Lib.hid hl3
              have HB1 := Lib.hid hbo3
              have c3 : m + 1 ≤ maxLen := by unfold maxLen; omega
              have hvb := HVB.out
              have hz4a : w2.heap.size + 1 ≤ w3.heap.size := by omega
              have hz4b : w3.heap.size ≤ w2.heap.size + 1 := by omega
              clear HIT hl1 ho1 hoE hw3 hb2 hb2w hq hrow3 hl3 HOWN HROW hE hz4 hbo3 hkN HBK HVB
              go_upto_region 13 with (fail)
              rw [HW3.out]
              clear HW3 zo8'
              go_wp2_with (at_builtin; refine wpList_append_lies _ rfl _ _ 25 rfl w.heap.size 27 i0 (.agg #[.int .i64 0, .bool false, .bool false, .string ⟨#[]⟩, .int .i64 0, .int .u64 0, .int .i64 0, .string ⟨#[]⟩, .slice none 0 0]) 9 104 Tryz.underlying25 HI.out HZ0.out HZ1.out HZ2.out rfl (by decide) _ _ _ rfl (hown3.alloc _) ⟨w3.heap.size, 0, none⟩ 1 1 [.int .i64 kind1, .bool bb1, .bool neg1, .string dg1, .int .i64 ex1, .int .u64 u1, .int .i64 wd1, .string s1, .slice A1 n1 c1] rfl rfl (cells_newT _ [.int .i64 kind1, .bool bb1, .bool neg1, .string dg1, .int .i64 ex1, .int .u64 u1, .int .i64 wd1, .string s1, .slice A1 n1 c1] _) (by intro u hu; simp at hu; rcases hu with rfl | rfl | rfl | rfl | rfl | rfl | rfl | rfl | rfl <;> rfl) (by decide) (by omega) (by omega) (by simp; omega) (w3.heap.size + 1) (by simp) ?_; intro g cap w4 hown4 hgrow hat hg4; have hblk4 : Blk w4 b1 #[.int .i64 7, .bool false, .bool false, .string ⟨#[]⟩, .int .i64 0, .int .u64 0, .int .i64 0, .string ⟨#[]⟩, (.slice A' m c')] 27 := blk_keep HB1.out (by rw [hgrow.block b1 (by simp; omega) (fun e => hvb e.symm)]; exact ((Below.refl w3.heap.size w3).alloc (Nat.le_refl _) _).block b1 (by omega)); have f8 := hblk4.frozen 8; have z8 := hblk4.cell 8)
              have hg0 : (Value.slice A' m c').ownBlock = some g → w.heap.size ≤ g ∧ g < wr.heap.size := fun e => HQ.out g e
              have hsz4 : w3.heap.size + 1 ≤ w4.heap.size := by
                have := hgrow.size
                simpa using this
              have hkeep : ∀ q, q < w3.heap.size → (Value.slice A' m c').ownBlock ≠ some q → w4.heap[q]? = w3.heap[q]? := fun q hq hne => by
                rw [hgrow.block q (by simp; omega) (fun e => hne e.symm)]
                exact ((Below.refl w3.heap.size w3).alloc (Nat.le_refl _) _).block q hq
              have hgl : g = w3.heap.size + 1 ∨ (Value.slice A' m c').ownBlock = some g := hat.symm
              have hgb : g ≠ b1 := fun e => by
                rcases hgl with h | h
                · omega
                · rw [e] at h
                  exact hvb h
              have hrow4 : RowT w4 (fun q => b1 + 1 ≤ q ∧ q < w4.heap.size ∧ (Value.slice (some ⟨g, 0, none⟩) (m + 1) cap).ownBlock ≠ some q) 16 (ps.map (·.2) ++ [t]) (xs ++ [.int .i64 kind1, .bool bb1, .bool neg1, .string dg1, .int .i64 ex1, .int .u64 u1, .int .i64 wd1, .string s1, .slice A1 n1 c1]) := by
                refine RowT.append ?_ ((HR3.out.keep (fun q hq => hkeep q hq.2.1 hq.2.2)).mono (fun q hq => ⟨hq.1, by omega, fun e => ?_⟩))
                · have h1 : LAt w4 (fun q => b1 + 1 ≤ q ∧ q < w4.heap.size ∧ (Value.slice (some ⟨g, 0, none⟩) (m + 1) cap).ownBlock ≠ some q) 16 t.kids (.slice A1 n1 c1) := by
                    refine (HLY.out.keep (fun q hq => hkeep q (by omega) (fun e => ?_))).mono (fun q hq => ⟨by omega, by omega, fun e => ?_⟩)
                    · have := (HQ.out q e).2
                      omega
                    · have e' : g = q := by simpa [Value.ownBlock] using e
                      rcases hgl with h | h
                      · omega
                      · have := (hg0 h).2
                        omega
                  exact HRO.out _ _ h1
                · have e' : g = q := by simpa [Value.ownBlock] using e
                  subst e'
                  rcases hgl with h | h
                  · omega
                  · exact hq.2.2 h
              have hbw4 : Below w.heap.size w w4 := (hbw3.alloc hbw3.size _).grown hgrow (by simp; omega) (fun q e => (HQ.out q e).1)
              have hs5 : Blk (w4.setCell ⟨b1, 8, none⟩ (.slice (some ⟨g, 0, none⟩) (m + 1) cap)) b1 #[.int .i64 7, .bool false, .bool false, .string ⟨#[]⟩, .int .i64 0, .int .u64 0, .int .i64 0, .string ⟨#[]⟩, (.slice (some ⟨g, 0, none⟩) (m + 1) cap)] 27 := hblk4.set 8 _
              have hown5 := ownsRow_setCell_other hown4 (a := ⟨b1, 8, none⟩) (by simpa [Value.ownBlock] using hgb) (.slice (some ⟨g, 0, none⟩) (m + 1) cap)
              have hrow5 := hrow4.keep (W' := w4.setCell ⟨b1, 8, none⟩ (.slice (some ⟨g, 0, none⟩) (m + 1) cap)) (fun q hq => Below.heap_setCell w4 ⟨b1, 8, none⟩ _ q (by show q ≠ b1; omega))
              have hbw5 := hbw4.setCell (p := ⟨b1, 8, none⟩) hB1 (.slice (some ⟨g, 0, none⟩) (m + 1) cap)
              have hsz5 : (w4.setCell ⟨b1, 8, none⟩ (.slice (some ⟨g, 0, none⟩) (m + 1) cap)).heap.size = w4.heap.size := by simp [World.setCell]
              have HR5 := Lib.hid hrow5
              have HO5 := Lib.hid hown5
              have HK5 := Lib.hid hs5
              have HB5 := Lib.hid hbw5
              clear hgrow hat hgl hg0 hkeep hrow4 hown4 hown3 HR3 HLY HQ HB1 hbw hbw3 hbw4 hblk4 hrow5 hown5 hs5 hbw5
              rw [HAL2.out]
              go_roundw
              case rel => exact ⟨k + 1, _, _, _, al2, by omega, by omega, rfl, by go_num, HLSN, by rw [← HLN.out]; omega, HAZ.out, HK5, by rw [← HLN.out, hm]; exact HO5.out, by rw [HMP.out, hsz5]; exact HR5.out, HB5.out, by simpa [Value.ownBlock] using hgb⟩
              case measure => simp [intOf]; omega
          · skip
            refine HIT.mono ?_
            rintro x w2 ⟨hb2, A1, n1, c1, rfl, hl1, _⟩
            have y7 : (e != 0) = true := by rw [bne_iff_ne]; exact he
            have hz : t = .nd zeroO [] := hzt he
            subst hz
            have hn1 : n1 = 0 := hl1.lenJ
            subst hn1
            rw [show nodeV (Tr.nd zeroO []).own (.slice A1 0 c1) = .agg #[.int .i64 0, .bool false, .bool false, .string ⟨#[]⟩, .int .i64 0, .int .u64 0, .int .i64 0, .string ⟨#[]⟩, .slice A1 0 c1] from rfl]
            have hb2w := hE.trans (hb2.mono hE.size)
            have hb13 : Below wr.heap.size wr (w2.alloc (.cells #[.int .i64 0, .bool false, .bool false, .string ⟨#[]⟩, .int .i64 0, .int .u64 0, .int .i64 0, .string ⟨#[]⟩, .slice A1 0 c1] 27)) := hb2w.alloc hb2w.size _
            have hbw3 := hbw.trans (hb13.mono hbw.size)
            have hown3 : (w2.alloc (.cells #[.int .i64 0, .bool false, .bool false, .string ⟨#[]⟩, .int .i64 0, .int .u64 0, .int .i64 0, .string ⟨#[]⟩, .slice A1 0 c1] 27)).ownsRow w.heap.size 27 9 (Value.slice A' m c') m xs := HOWN.out.kept (below_none hb13) (by cases A' with | none => exact .inl rfl | some a => exact .inr (by simp [Value.ownBlock]))
            have hzz := hb13.size
            have hrow3 : RowT (w2.alloc (.cells #[.int .i64 0, .bool false, .bool false, .string ⟨#[]⟩, .int .i64 0, .int .u64 0, .int .i64 0, .string ⟨#[]⟩, .slice A1 0 c1] 27)) (fun q => b1 + 1 ≤ q ∧ q < (w2.alloc (.cells #[.int .i64 0, .bool false, .bool false, .string ⟨#[]⟩, .int .i64 0, .int .u64 0, .int .i64 0, .string ⟨#[]⟩, .slice A1 0 c1] 27)).heap.size ∧ (Value.slice A' m c').ownBlock ≠ some q) 16 (ps.map (·.2)) xs := (HROW.out.keep (fun q hq => hb13.block q hq.2.1)).mono (fun q hq => ⟨hq.1, by omega, hq.2.2⟩)
            have hbk3 := HBK.out.below hb13 HBK.out.lt
            have HO3 := Lib.hid hown3
            have HR3 := Lib.hid hrow3
            have HK3 := Lib.hid hbk3
            clear HIT he hb2 hb2w hb13 hown3 hrow3 HOWN HROW hE hzz hbk3 HBK hl1 hzt hres
            go_wp2_with fail
            go_roundw
            case rel => exact ⟨k + 1, ps, xs, _, al, by omega, by omega, rfl, by go_num, HLS, by omega, by omega, HK3, by rw [hm]; exact HO3.out, HR3.out, hbw3, HVB.out⟩
            case measure => simp [intOf]; omega
      · have y2 : ¬ (k : Int) < 6 := by omega
        have hls : ListAt wr wr.heap.size 17 (ps.map (·.2)) (Value.slice A' m c') := HROW.out.list HOWN.out (by simp [hm]) (by omega) (fun q hq => hq.2.1) (fun a e => by
          subst e
          exact (HOWN.out.lt a.block rfl).2)
        have hread := HLS.out.read (by omega)
        have hcn := HLS.out.count (by omega)
        have hal : al.size ≤ 1000 := by omega
        have ys : ¬ 9223372036854775807 < al.size + 1 := by omega
        have HRD := H2.out (al ++ ⟨#[93]⟩) (by rw [ByteArray.size_append, show (⟨#[93]⟩ : ByteArray).size = 1 from rfl]; omega) wr hbw
        rw [hread] at HRD
        have hto : (treesD ps).own = { zeroO with kind := 7 } := rfl
        have htk : (treesD ps).kids = ps.map (·.2) := rfl
        rw [← htk] at hls
        clear hread HROW HOWN HLS H2 HL HVB htk
        generalize treesD ps = tt at *
        have HBO := Lib.hid HBK.out
        by_cases hq : tt.count ≤ 300 ∧ tt.depth ≤ 16
        · rw [if_pos hq] at HRD
          have HRD : Hid (Calls Tryz.prog 25 #[.string (al ++ ⟨#[93]⟩)] wr fun x w' => Below wr.heap.size wr w' ∧ ∃ A n c, x = .returned (.tuple #[nodeV tt.own (.slice A n c), .int .i64 0]) ∧ LAt w' (fun q => wr.heap.size ≤ q ∧ q < w'.heap.size) 16 tt.kids (.slice A n c) ∧ OwnOk tt.own) := Lib.hid HRD
          have HSAME := Lib.hid (fun W x x' (hl : ListAt W W.heap.size 16 tt.kids x) (hl' : ListAt W W.heap.size 17 tt.kids x') => ref_SameT 16 tt tt x x' W W.heap.size 17 hl hl' (Nat.le_refl _))
          simp only [sameT_refl, hto] at HSAME HRD
          unfold nodeV at HSAME HRD
          have HLS := Lib.hid hls
          clear hq hcn hls hto
          go_wp2_with fail
          refine HRD.out.mono ?_
          rintro x w5 ⟨hb5, A5, n5, c5, rfl, hl5, _⟩
          have hr6 := hb5.alloc hb5.size (.cells #[.int .i64 7, .bool false, .bool false, .string ⟨#[]⟩, .int .i64 0, .int .u64 0, .int .i64 0, .string ⟨#[]⟩, .slice A5 n5 c5] 27)
          have hm6 := Blk.new w5 #[.int .i64 7, .bool false, .bool false, .string ⟨#[]⟩, .int .i64 0, .int .u64 0, .int .i64 0, .string ⟨#[]⟩, .slice A5 n5 c5] 27
          have hk6 := (HBO.out.below hb5 HBO.out.lt).alloc (.cells #[.int .i64 7, .bool false, .bool false, .string ⟨#[]⟩, .int .i64 0, .int .u64 0, .int .i64 0, .string ⟨#[]⟩, .slice A5 n5 c5] 27)
          have hla : ListAt (w5.alloc (.cells #[.int .i64 7, .bool false, .bool false, .string ⟨#[]⟩, .int .i64 0, .int .u64 0, .int .i64 0, .string ⟨#[]⟩, .slice A5 n5 c5] 27)) (w5.alloc (.cells #[.int .i64 7, .bool false, .bool false, .string ⟨#[]⟩, .int .i64 0, .int .u64 0, .int .i64 0, .string ⟨#[]⟩, .slice A5 n5 c5] 27)).heap.size 16 tt.kids (.slice A5 n5 c5) := (hl5.keep (fun q hq => Below.heap_alloc w5 _ q hq.2)).mono (fun q hq => by rw [World.size_alloc]; omega)
          have hlb : ListAt (w5.alloc (.cells #[.int .i64 7, .bool false, .bool false, .string ⟨#[]⟩, .int .i64 0, .int .u64 0, .int .i64 0, .string ⟨#[]⟩, .slice A5 n5 c5] 27)) (w5.alloc (.cells #[.int .i64 7, .bool false, .bool false, .string ⟨#[]⟩, .int .i64 0, .int .u64 0, .int .i64 0, .string ⟨#[]⟩, .slice A5 n5 c5] 27)).heap.size 17 tt.kids (Value.slice A' m c') := (HLS.out.below hr6 (Nat.le_refl _)).more hr6.size
          have HSM := Lib.hid (HSAME.out _ _ _ hla hlb)
          have hb6w := hbw.trans (hr6.mono hbw.size)
          clear HRD hb5 hl5 hla hlb HSAME HLS HBO HBK
          have p0 := hk6.cell 0
          have p1 := hk6.cell 1
          have p2 := hk6.cell 2
          have p3 := hk6.cell 3
          have p4 := hk6.cell 4
          have p5 := hk6.cell 5
          have p6 := hk6.cell 6
          have p7 := hk6.cell 7
          have p8 := hk6.cell 8
          have q0 := hm6.cell 0
          have q1 := hm6.cell 1
          have q2 := hm6.cell 2
          have q3 := hm6.cell 3
          have q4 := hm6.cell 4
          have q5 := hm6.cell 5
          have q6 := hm6.cell 6
          have q7 := hm6.cell 7
          have q8 := hm6.cell 8
          go_wp2_with fail
          refine HSM.out.mono ?_
          rintro x w7 ⟨rfl, hb7⟩
          have hb7w := hb6w.trans (hb7.mono hb6w.size)
          clear p0 p1 p2 p3 p4 p5 p6 p7 p8 q0 q1 q2 q3 q4 q5 q6 q7 q8 HSM hk6 hm6 hb7
          go_wp2_with fail
          go_ret
          exact ⟨rfl, hb7w⟩
        · rw [if_neg hq] at HRD
          have HRD : Hid (Calls Tryz.prog 25 #[.string (al ++ ⟨#[93]⟩)] wr fun x w' => Below wr.heap.size wr w' ∧ ∃ A n c, x = .returned (.tuple #[nodeV zeroO (.slice A n c), .int .i64 60]) ∧ LAt w' (fun q => wr.heap.size ≤ q ∧ q < w'.heap.size) 16 [] (.slice A n c) ∧ OwnOk zeroO) := Lib.hid HRD
          have HDP := Lib.hid (fun W (hb : Below wr.heap.size wr W) => ref_Depth 17 tt (Value.slice A' m c') W wr.heap.size (hls.below hb (Nat.le_refl _)) hb.size (by omega))
          have HCN := Lib.hid (fun W (hb : Below wr.heap.size wr W) => ref_Count 17 tt (Value.slice A' m c') W wr.heap.size (hls.below hb (Nat.le_refl _)) hb.size (by omega))
          have hdc := depth_count tt
          obtain ⟨dp, hdp⟩ : ∃ dp, tt.depth = dp := ⟨_, rfl⟩
          obtain ⟨cn, hcnt⟩ : ∃ cn, tt.count = cn := ⟨_, rfl⟩
          simp only [hdp, hto] at HDP
          simp only [hcnt, hto] at HCN
          rw [hdp, hcnt] at hq hdc
          rw [hcnt] at hcn
          unfold nodeV at HDP HCN
          clear hls hto hdp hcnt
          go_wp2_with fail
          refine HRD.out.mono ?_
          rintro x w5 ⟨hb5, A5, n5, c5, rfl, hl5, _⟩
          have hn5 : n5 = 0 := hl5.lenJ
          subst hn5
          rw [show nodeV zeroO (.slice A5 0 c5) = .agg #[.int .i64 0, .bool false, .bool false, .string ⟨#[]⟩, .int .i64 0, .int .u64 0, .int .i64 0, .string ⟨#[]⟩, .slice A5 0 c5] from rfl]
          have hr6 := hb5.alloc hb5.size (.cells #[.int .i64 0, .bool false, .bool false, .string ⟨#[]⟩, .int .i64 0, .int .u64 0, .int .i64 0, .string ⟨#[]⟩, .slice A5 0 c5] 27)
          have hk6 := (HBO.out.below hb5 HBO.out.lt).alloc (.cells #[.int .i64 0, .bool false, .bool false, .string ⟨#[]⟩, .int .i64 0, .int .u64 0, .int .i64 0, .string ⟨#[]⟩, .slice A5 0 c5] 27)
          have hb6w := hbw.trans (hr6.mono hbw.size)
          have HDP := Lib.hid (HDP.out _ hr6)
          have HR6 := Lib.hid hr6
          clear HRD hb5 hl5 HBO HBK hr6
          have p0 := hk6.cell 0
          have p1 := hk6.cell 1
          have p2 := hk6.cell 2
          have p3 := hk6.cell 3
          have p4 := hk6.cell 4
          have p5 := hk6.cell 5
          have p6 := hk6.cell 6
          have p7 := hk6.cell 7
          have p8 := hk6.cell 8
          by_cases hd : dp ≤ 16
          · have y5 : ¬ (16 : Int) < dp := by omega
            have y6 : (300 : Int) < cn := by omega
            clear hq
            go_wp2_with fail
            refine HDP.out.mono ?_
            rintro x w7 ⟨rfl, hb7⟩
            have hb7w := hb6w.trans (hb7.mono hb6w.size)
            have hk7 := hk6.below hb7 hk6.lt
            have HCN := Lib.hid (HCN.out _ (HR6.out.trans (hb7.mono HR6.out.size)))
            clear p0 p1 p2 p3 p4 p5 p6 p7 p8 HDP hk6 hb7 HR6
            have p0 := hk7.cell 0
            have p1 := hk7.cell 1
            have p2 := hk7.cell 2
            have p3 := hk7.cell 3
            have p4 := hk7.cell 4
            have p5 := hk7.cell 5
            have p6 := hk7.cell 6
            have p7 := hk7.cell 7
            have p8 := hk7.cell 8
            go_wp2_with fail
            refine HCN.out.mono ?_
            rintro x w8 ⟨rfl, hb8⟩
            have hb8w := hb7w.trans (hb8.mono hb7w.size)
            clear p0 p1 p2 p3 p4 p5 p6 p7 p8 HCN hk7 hb8
            go_wp2_with fail
            go_ret
            exact ⟨rfl, hb8w⟩
          · have y5 : (16 : Int) < dp := by omega
            clear hq HCN
            go_wp2_with fail
            refine HDP.out.mono ?_
            rintro x w7 ⟨rfl, hb7⟩
            have hb7w := hb6w.trans (hb7.mono hb6w.size)
            clear p0 p1 p2 p3 p4 p5 p6 p7 p8 HDP hk6 hb7
            go_wp2_with fail
            go_ret
            exact ⟨rfl, hb7w⟩
    · have y1 : ¬ (k : Int) < n := by omega
      have hls : ListAt wr wr.heap.size 17 (ps.map (·.2)) (Value.slice A' m c') := HROW.out.list HOWN.out (by simp [hm]) (by omega) (fun q hq => hq.2.1) (fun a e => by
        subst e
        exact (HOWN.out.lt a.block rfl).2)
      have hread := HLS.out.read (by omega)
      have hcn := HLS.out.count (by omega)
      have hal : al.size ≤ 1000 := by omega
      have ys : ¬ 9223372036854775807 < al.size + 1 := by omega
      have HRD := H2.out (al ++ ⟨#[93]⟩) (by rw [ByteArray.size_append, show (⟨#[93]⟩ : ByteArray).size = 1 from rfl]; omega) wr hbw
      rw [hread] at HRD
      have hto : (treesD ps).own = { zeroO with kind := 7 } := rfl
      have htk : (treesD ps).kids = ps.map (·.2) := rfl
      rw [← htk] at hls
      clear hread HROW HOWN HLS H2 HL HVB htk
      generalize treesD ps = tt at *
      have HBO := Lib.hid HBK.out
      by_cases hq : tt.count ≤ 300 ∧ tt.depth ≤ 16
      · rw [if_pos hq] at HRD
        have HRD : Hid (Calls Tryz.prog 25 #[.string (al ++ ⟨#[93]⟩)] wr fun x w' => Below wr.heap.size wr w' ∧ ∃ A n c, x = .returned (.tuple #[nodeV tt.own (.slice A n c), .int .i64 0]) ∧ LAt w' (fun q => wr.heap.size ≤ q ∧ q < w'.heap.size) 16 tt.kids (.slice A n c) ∧ OwnOk tt.own) := Lib.hid HRD
        have HSAME := Lib.hid (fun W x x' (hl : ListAt W W.heap.size 16 tt.kids x) (hl' : ListAt W W.heap.size 17 tt.kids x') => ref_SameT 16 tt tt x x' W W.heap.size 17 hl hl' (Nat.le_refl _))
        simp only [sameT_refl, hto] at HSAME HRD
        unfold nodeV at HSAME HRD
        have HLS := Lib.hid hls
        clear hq hcn hls hto
        go_wp2_with fail
        refine HRD.out.mono ?_
        rintro x w5 ⟨hb5, A5, n5, c5, rfl, hl5, _⟩
        have hr6 := hb5.alloc hb5.size (.cells #[.int .i64 7, .bool false, .bool false, .string ⟨#[]⟩, .int .i64 0, .int .u64 0, .int .i64 0, .string ⟨#[]⟩, .slice A5 n5 c5] 27)
        have hm6 := Blk.new w5 #[.int .i64 7, .bool false, .bool false, .string ⟨#[]⟩, .int .i64 0, .int .u64 0, .int .i64 0, .string ⟨#[]⟩, .slice A5 n5 c5] 27
        have hk6 := (HBO.out.below hb5 HBO.out.lt).alloc (.cells #[.int .i64 7, .bool false, .bool false, .string ⟨#[]⟩, .int .i64 0, .int .u64 0, .int .i64 0, .string ⟨#[]⟩, .slice A5 n5 c5] 27)
        have hla : ListAt (w5.alloc (.cells #[.int .i64 7, .bool false, .bool false, .string ⟨#[]⟩, .int .i64 0, .int .u64 0, .int .i64 0, .string ⟨#[]⟩, .slice A5 n5 c5] 27)) (w5.alloc (.cells #[.int .i64 7, .bool false, .bool false, .string ⟨#[]⟩, .int .i64 0, .int .u64 0, .int .i64 0, .string ⟨#[]⟩, .slice A5 n5 c5] 27)).heap.size 16 tt.kids (.slice A5 n5 c5) := (hl5.keep (fun q hq => Below.heap_alloc w5 _ q hq.2)).mono (fun q hq => by rw [World.size_alloc]; omega)
        have hlb : ListAt (w5.alloc (.cells #[.int .i64 7, .bool false, .bool false, .string ⟨#[]⟩, .int .i64 0, .int .u64 0, .int .i64 0, .string ⟨#[]⟩, .slice A5 n5 c5] 27)) (w5.alloc (.cells #[.int .i64 7, .bool false, .bool false, .string ⟨#[]⟩, .int .i64 0, .int .u64 0, .int .i64 0, .string ⟨#[]⟩, .slice A5 n5 c5] 27)).heap.size 17 tt.kids (Value.slice A' m c') := (HLS.out.below hr6 (Nat.le_refl _)).more hr6.size
        have HSM := Lib.hid (HSAME.out _ _ _ hla hlb)
        have hb6w := hbw.trans (hr6.mono hbw.size)
        clear HRD hb5 hl5 hla hlb HSAME HLS HBO HBK
        have p0 := hk6.cell 0
        have p1 := hk6.cell 1
        have p2 := hk6.cell 2
        have p3 := hk6.cell 3
        have p4 := hk6.cell 4
        have p5 := hk6.cell 5
        have p6 := hk6.cell 6
        have p7 := hk6.cell 7
        have p8 := hk6.cell 8
        have q0 := hm6.cell 0
        have q1 := hm6.cell 1
        have q2 := hm6.cell 2
        have q3 := hm6.cell 3
        have q4 := hm6.cell 4
        have q5 := hm6.cell 5
        have q6 := hm6.cell 6
        have q7 := hm6.cell 7
        have q8 := hm6.cell 8
        go_wp2_with fail
        refine HSM.out.mono ?_
        rintro x w7 ⟨rfl, hb7⟩
        have hb7w := hb6w.trans (hb7.mono hb6w.size)
        clear p0 p1 p2 p3 p4 p5 p6 p7 p8 q0 q1 q2 q3 q4 q5 q6 q7 q8 HSM hk6 hm6 hb7
        go_wp2_with fail
        go_ret
        exact ⟨rfl, hb7w⟩
      · rw [if_neg hq] at HRD
        have HRD : Hid (Calls Tryz.prog 25 #[.string (al ++ ⟨#[93]⟩)] wr fun x w' => Below wr.heap.size wr w' ∧ ∃ A n c, x = .returned (.tuple #[nodeV zeroO (.slice A n c), .int .i64 60]) ∧ LAt w' (fun q => wr.heap.size ≤ q ∧ q < w'.heap.size) 16 [] (.slice A n c) ∧ OwnOk zeroO) := Lib.hid HRD
        have HDP := Lib.hid (fun W (hb : Below wr.heap.size wr W) => ref_Depth 17 tt (Value.slice A' m c') W wr.heap.size (hls.below hb (Nat.le_refl _)) hb.size (by omega))
        have HCN := Lib.hid (fun W (hb : Below wr.heap.size wr W) => ref_Count 17 tt (Value.slice A' m c') W wr.heap.size (hls.below hb (Nat.le_refl _)) hb.size (by omega))
        have hdc := depth_count tt
        obtain ⟨dp, hdp⟩ : ∃ dp, tt.depth = dp := ⟨_, rfl⟩
        obtain ⟨cn, hcnt⟩ : ∃ cn, tt.count = cn := ⟨_, rfl⟩
        simp only [hdp, hto] at HDP
        simp only [hcnt, hto] at HCN
        rw [hdp, hcnt] at hq hdc
        rw [hcnt] at hcn
        unfold nodeV at HDP HCN
        clear hls hto hdp hcnt
        go_wp2_with fail
        refine HRD.out.mono ?_
        rintro x w5 ⟨hb5, A5, n5, c5, rfl, hl5, _⟩
        have hn5 : n5 = 0 := hl5.lenJ
        subst hn5
        rw [show nodeV zeroO (.slice A5 0 c5) = .agg #[.int .i64 0, .bool false, .bool false, .string ⟨#[]⟩, .int .i64 0, .int .u64 0, .int .i64 0, .string ⟨#[]⟩, .slice A5 0 c5] from rfl]
        have hr6 := hb5.alloc hb5.size (.cells #[.int .i64 0, .bool false, .bool false, .string ⟨#[]⟩, .int .i64 0, .int .u64 0, .int .i64 0, .string ⟨#[]⟩, .slice A5 0 c5] 27)
        have hk6 := (HBO.out.below hb5 HBO.out.lt).alloc (.cells #[.int .i64 0, .bool false, .bool false, .string ⟨#[]⟩, .int .i64 0, .int .u64 0, .int .i64 0, .string ⟨#[]⟩, .slice A5 0 c5] 27)
        have hb6w := hbw.trans (hr6.mono hbw.size)
        have HDP := Lib.hid (HDP.out _ hr6)
        have HR6 := Lib.hid hr6
        clear HRD hb5 hl5 HBO HBK hr6
        have p0 := hk6.cell 0
        have p1 := hk6.cell 1
        have p2 := hk6.cell 2
        have p3 := hk6.cell 3
        have p4 := hk6.cell 4
        have p5 := hk6.cell 5
        have p6 := hk6.cell 6
        have p7 := hk6.cell 7
        have p8 := hk6.cell 8
        by_cases hd : dp ≤ 16
        · have y5 : ¬ (16 : Int) < dp := by omega
          have y6 : (300 : Int) < cn := by omega
          clear hq
          go_wp2_with fail
          refine HDP.out.mono ?_
          rintro x w7 ⟨rfl, hb7⟩
          have hb7w := hb6w.trans (hb7.mono hb6w.size)
          have hk7 := hk6.below hb7 hk6.lt
          have HCN := Lib.hid (HCN.out _ (HR6.out.trans (hb7.mono HR6.out.size)))
          clear p0 p1 p2 p3 p4 p5 p6 p7 p8 HDP hk6 hb7 HR6
          have p0 := hk7.cell 0
          have p1 := hk7.cell 1
          have p2 := hk7.cell 2
          have p3 := hk7.cell 3
          have p4 := hk7.cell 4
          have p5 := hk7.cell 5
          have p6 := hk7.cell 6
          have p7 := hk7.cell 7
          have p8 := hk7.cell 8
          go_wp2_with fail
          refine HCN.out.mono ?_
          rintro x w8 ⟨rfl, hb8⟩
          have hb8w := hb7w.trans (hb8.mono hb7w.size)
          clear p0 p1 p2 p3 p4 p5 p6 p7 p8 HCN hk7 hb8
          go_wp2_with fail
          go_ret
          exact ⟨rfl, hb8w⟩
        · have y5 : (16 : Int) < dp := by omega
          clear hq HCN
          go_wp2_with fail
          refine HDP.out.mono ?_
          rintro x w7 ⟨rfl, hb7⟩
          have hb7w := hb6w.trans (hb7.mono hb6w.size)
          clear p0 p1 p2 p3 p4 p5 p6 p7 p8 HDP hk6 hb7
          go_wp2_with fail
          go_ret
          exact ⟨rfl, hb7w⟩
end Go.Proofs.YtfckekaegjjmkaaGreatDoor
