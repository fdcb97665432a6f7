/- The texts CsJ, put together. -/
import Derived.Test.YtflkmhgbinlfiaaGreatDoorPq45
import Derived.Test.YtflkmhgbinlfiaaGreatDoorPq43
import Derived.Test.YtflkmhgbinlfiaaGreatDoorPq02
import Derived.Deep.CutRange
namespace Go.Proofs.YtflkmhgbinlfiaaGreatDoor
open Go.RowKit Go.Shelf
attribute [local go_sem] Oper.semAt_some

set_option maxHeartbeats 8000000 in
set_option maxRecDepth 100000 in
theorem lists_walk {aT aF : Addr} (w : World) (A : Option Addr) (n c : Nat) (l : List ByteArray) (hn : n ≤ 9223372036854775807) (hl : StrsAt w w.heap.size A n l) (h : RW w aT aF) :
    Calls Tryz.prog 5 #[.slice A n c] w fun e w' => e = .returned (.bool true) ∧ Below w.heap.size w w' := by
  obtain ⟨i0, hi, hz0, hz1, hz2⟩ := info_parts infoNode
  have HI := Lib.hid hi
  have HZ0 := Lib.hid hz0
  have HZ1 := Lib.hid hz1
  have HZ2 := Lib.hid hz2
  clear hi hz0 hz1 hz2
  have H1 := Lib.hid (cr_shown w h)
  have H2 := Lib.hid (fun (x : ByteArray) (hx : x.size ≤ 1000000000) W (hb : Below w.heap.size w W) => cr_Item x hx W (h.below hb).tab (h.below hb).ty)
  have HMK := Lib.hid (fun (p : Nat) (hp : p ≤ 1000) W => (show Calls Tryz.prog 16 #[.int .i64 4, .int .u64 p] W fun e w' => e = .returned (.tuple #[.string (bs (makeL 4 p)), .int .i64 0]) ∧ Below W.heap.size W w' from head_Make 4 p (by omega) (by omega) W))
  have HL := Lib.hid hl
  clear h hl
  go_enter Tryz.func5, Tryz.ntmps5
  go_wp2_with fail
  refine H1.out.mono ?_
  rintro x w1 ⟨rfl, hb1⟩
  go_wp2_with fail
  go_loopw [4, 5, 6] (fun v o i wr => ∃ (k : Nat) (ps : List (List UInt8 × Tr)) (xs : List Value) (v' : Value) (al : ByteArray), k ≤ n ∧ k ≤ 8 ∧ v = v' ∧ o = .string al ∧ i = .int .i64 k ∧ Hid (LsS ps al) ∧ ps.length ≤ k ∧ al.size ≤ 100 * k ∧ countL (ps.map (·.2)) ≤ 100 * k ∧ wr.ownsRow w.heap.size 28 9 v' ps.length xs ∧ RowT wr (fun q => w.heap.size ≤ q ∧ q < wr.heap.size ∧ v'.ownBlock ≠ some q) 16 (ps.map (·.2)) xs ∧ Below w.heap.size w wr) (fun _ _ i _ => 10 - (intOf i).toNat)
  case atStart => exact ⟨0, [], [], _, _, by omega, by omega, rfl, rfl, rfl, Lib.hid LsS.start, Nat.le_refl _, Nat.le_refl _, by simp [countL], World.ownsRow_nil _ _ _ _, rfl, hb1⟩
  case round =>
    obtain ⟨k, ps, xs, v', al, hk, hk8, rfl, rfl, rfl, HLS, hpk, hak, hcn, hown, hrow, hbw⟩ := hrel
    obtain ⟨A', c', rfl⟩ := own_sliceT hown
    obtain ⟨m, hm⟩ : ∃ m, ps.length = m := ⟨_, rfl⟩
    rw [hm] at hown hrow hpk ⊢
    have HOWN := Lib.hid hown
    have HROW := Lib.hid hrow
    clear hown hrow hb1 H1
    by_cases hk1 : k < n
    · have y1 : (k : Int) < n := by omega
      by_cases hk2 : k < 8
      · have y2 : (k : Int) < 8 := by omega
        obtain ⟨ad, rfl, hab, hcell, hsz⟩ := (HL.out.below hbw (Nat.le_refl _)).at_ k (by have := HL.out.len; omega)
        obtain ⟨sk, hsk⟩ : ∃ x, l[k]'(by have := HL.out.len; omega) = x := ⟨_, rfl⟩
        rw [hsk] at hcell hsz
        obtain ⟨ks, hks⟩ : ∃ k, min sk.size 100 = k := ⟨_, rfl⟩
        have y5 : min (sk.size : Int) 100 = (ks : Int) := by omega
        have y6 : ks ≤ sk.size := by omega
        have hez := ext_size sk ks y6
        obtain ⟨s, hs⟩ : ∃ s, sk.extract 0 ks = s := ⟨_, rfl⟩
        rw [hs] at hez
        have hs9 : s.size ≤ 100 := by omega
        have HS := Lib.hid hs
        have hab2 : ad.block < wr.heap.size := Nat.lt_of_lt_of_le hab hbw.size
        clear hsk hks hez hs hsz hab hn HL
        go_wp2_with fail
        refine wp_region_tail (R := fun W W' => Below W.heap.size W W') 11 (by kernel_rfl) (by kernel_rfl) (fun _ => Below.refl _ _) (by kernel_rfl) (by kernel_rfl) (fun W => Below wr.heap.size wr W)
          [fun v _ => v = .slice (some ad) n c, fun v _ => v = .int .i64 k, fun v _ => v = .pointer (some (ad.add k)), fun v _ => v = .string sk, fun v _ => v = .slice (some ad) n c, fun v _ => v = .int .i64 k, fun v _ => v = .pointer (some (ad.add k)), fun v _ => v = .string sk, fun v _ => v = .int .i64 sk.size, fun v _ => v = .int .i64 ks, fun v _ => v = .string s] ?_ ?_ ?_ ?_ ?_
        case refine_1 => exact (Below.refl _ _).drew
        case refine_2 => exact fun W W' he hr => he.trans (hr.mono he.size)
        case refine_3 =>
          intro q hq v W W' _ hv hr
          simp only [List.mem_cons, List.not_mem_nil, or_false] at hq
          rcases hq with rfl | rfl | rfl | rfl | rfl | rfl | rfl | rfl | rfl | rfl | rfl <;> exact hv
        case refine_4 =>
          refine flow_cons (flow_op rfl rfl (by kernel_rfl) (by kernel_rfl) ?_) ?_
          · intro env W hE hn ρ hρ hc hf hg K hK
            have r0 : ρ (.tmp 0) = .slice (some ad) n c := by rw [hρ]; kernel_rfl
            clear hρ hn hg
            simp [opLands, go_sem, r0]
            exact hK _ _ rfl (Below.refl _ _)
          refine flow_cons (flow_op rfl rfl (by kernel_rfl) (by kernel_rfl) ?_) ?_
          · intro env W hE hn ρ hρ hc hf hg K hK
            have r6 : ρ (.tmp 6) = .int .i64 k := by rw [hρ]; kernel_rfl
            clear hρ hn hg
            simp [opLands, go_sem, r6]
            exact hK _ _ rfl (Below.refl _ _)
          refine flow_cons (flow_op rfl rfl (by kernel_rfl) (by kernel_rfl) ?_) ?_
          · intro env W hE hn ρ hρ hc hf hg K hK
            have r31 := (show ρ (.tmp 31) = env 0 by rw [hρ]; kernel_rfl).trans (hn 0 (by kernel_rfl))
            have r32 := (show ρ (.tmp 32) = env 1 by rw [hρ]; kernel_rfl).trans (hn 1 (by kernel_rfl))
            clear hρ hn hg
            simp [opLands, go_sem, r31, r32, y1]
            exact hK _ _ rfl (Below.refl _ _)
          refine flow_cons (flow_op rfl rfl (by kernel_rfl) (by kernel_rfl) ?_) ?_
          · intro env W hE hn ρ hρ hc hf hg K hK
            have r33 := (show ρ (.tmp 33) = env 2 by rw [hρ]; kernel_rfl).trans (hn 2 (by kernel_rfl))
            clear hρ hn hg
            have q0 : W.cell? (ad.add k) = some (.string sk) := (Below.cell hE (by rw [add_block]; omega)).trans hcell
            simp [opLands, go_sem, r33, q0]
            exact hK _ _ rfl (Below.refl _ _)
          refine flow_cons (flow_op rfl rfl (by kernel_rfl) (by kernel_rfl) ?_) ?_
          · intro env W hE hn ρ hρ hc hf hg K hK
            have r0 : ρ (.tmp 0) = .slice (some ad) n c := by rw [hρ]; kernel_rfl
            clear hρ hn hg
            simp [opLands, go_sem, r0]
            exact hK _ _ rfl (Below.refl _ _)
          refine flow_cons (flow_op rfl rfl (by kernel_rfl) (by kernel_rfl) ?_) ?_
          · intro env W hE hn ρ hρ hc hf hg K hK
            have r6 : ρ (.tmp 6) = .int .i64 k := by rw [hρ]; kernel_rfl
            clear hρ hn hg
            simp [opLands, go_sem, r6]
            exact hK _ _ rfl (Below.refl _ _)
          refine flow_cons (flow_op rfl rfl (by kernel_rfl) (by kernel_rfl) ?_) ?_
          · intro env W hE hn ρ hρ hc hf hg K hK
            have r35 := (show ρ (.tmp 35) = env 4 by rw [hρ]; kernel_rfl).trans (hn 4 (by kernel_rfl))
            have r36 := (show ρ (.tmp 36) = env 5 by rw [hρ]; kernel_rfl).trans (hn 5 (by kernel_rfl))
            clear hρ hn hg
            simp [opLands, go_sem, r35, r36, y1]
            exact hK _ _ rfl (Below.refl _ _)
          refine flow_cons (flow_op rfl rfl (by kernel_rfl) (by kernel_rfl) ?_) ?_
          · intro env W hE hn ρ hρ hc hf hg K hK
            have r37 := (show ρ (.tmp 37) = env 6 by rw [hρ]; kernel_rfl).trans (hn 6 (by kernel_rfl))
            clear hρ hn hg
            have q0 : W.cell? (ad.add k) = some (.string sk) := (Below.cell hE (by rw [add_block]; omega)).trans hcell
            simp [opLands, go_sem, r37, q0]
            exact hK _ _ rfl (Below.refl _ _)
          refine flow_cons (flow_op rfl rfl (by kernel_rfl) (by kernel_rfl) ?_) ?_
          · intro env W hE hn ρ hρ hc hf hg K hK
            have r38 := (show ρ (.tmp 38) = env 7 by rw [hρ]; kernel_rfl).trans (hn 7 (by kernel_rfl))
            clear hρ hn hg
            simp [opLands, go_sem, r38]
            exact hK _ _ rfl (Below.refl _ _)
          refine flow_cons (flow_op rfl rfl (by kernel_rfl) (by kernel_rfl) ?_) ?_
          · intro env W hE hn ρ hρ hc hf hg K hK
            have r39 := (show ρ (.tmp 39) = env 8 by rw [hρ]; kernel_rfl).trans (hn 8 (by kernel_rfl))
            clear hρ hn hg
            simp [opLands, go_sem, hc, r39, y5]
            exact hK _ _ rfl (Below.refl _ _)
          refine flow_cons (flow_op rfl rfl (by kernel_rfl) (by kernel_rfl) ?_) flow_nil
          · intro env W hE hn ρ hρ hc hf hg K hK
            have r34 := (show ρ (.tmp 34) = env 3 by rw [hρ]; kernel_rfl).trans (hn 3 (by kernel_rfl))
            have r40 := (show ρ (.tmp 40) = env 9 by rw [hρ]; kernel_rfl).trans (hn 9 (by kernel_rfl))
            clear hρ hn hg
            simp [opLands, go_sem, r34, r40, y6, HS.out]
            exact hK _ _ rfl (Below.refl _ _)
        case refine_5 =>
          intro env W hE hn
          have e10 : env 10 = .string s := hn 10 (by decide)
          clear hn
          simp only [List.take_succ_cons, List.take_zero, List.drop_succ_cons, List.drop_zero, frameAll, e10]
          go_simp
          clear e10
          clear y5 y6 HS hcell hab2
          have hWw := hbw.trans (hE.mono hbw.size)
          have HIT := H2.out s (by omega) W hWw
          clear H2 HMK hWw
          go_wp2_with fail
          cases hres : itemC s with
          | bad e =>
            rw [hres] at HIT
            have HIT : Calls Tryz.prog 14 #[.string s] W fun x w' => Below W.heap.size W w' ∧ x = .returned (.tuple #[zeroN, .string s, .int .i64 e]) ∧ e ≠ 0 := HIT
            clear hres
            refine HIT.mono ?_
            rintro x w2 ⟨hb2, rfl, he⟩
            have y7 : (e != 0) = true := by rw [bne_iff_ne]; exact he
            have hb2w := hE.trans (hb2.mono hE.size)
            have hb13 : Below wr.heap.size wr (w2.alloc (.cells #[.int .i64 0, .bool false, .bool false, .string ⟨#[]⟩, .int .i64 0, .int .u64 0, .int .i64 0, .string ⟨#[]⟩, .slice none 0 0] 28)) := hb2w.alloc hb2w.size _
            have hbw3 := hbw.trans (hb13.mono hbw.size)
            have hown3 : (w2.alloc (.cells #[.int .i64 0, .bool false, .bool false, .string ⟨#[]⟩, .int .i64 0, .int .u64 0, .int .i64 0, .string ⟨#[]⟩, .slice none 0 0] 28)).ownsRow w.heap.size 28 9 (Value.slice A' m c') m xs := HOWN.out.kept (below_none hb13) (by cases A' with | none => exact .inl rfl | some a => exact .inr (by simp [Value.ownBlock]))
            have hzz := hb13.size
            have hrow3 : RowT (w2.alloc (.cells #[.int .i64 0, .bool false, .bool false, .string ⟨#[]⟩, .int .i64 0, .int .u64 0, .int .i64 0, .string ⟨#[]⟩, .slice none 0 0] 28)) (fun q => w.heap.size ≤ q ∧ q < (w2.alloc (.cells #[.int .i64 0, .bool false, .bool false, .string ⟨#[]⟩, .int .i64 0, .int .u64 0, .int .i64 0, .string ⟨#[]⟩, .slice none 0 0] 28)).heap.size ∧ (Value.slice A' m c').ownBlock ≠ some q) 16 (ps.map (·.2)) xs := (HROW.out.keep (fun q hq => hb13.block q hq.2.1)).mono (fun q hq => ⟨hq.1, by omega, hq.2.2⟩)
            have HO3 := Lib.hid hown3
            have HR3 := Lib.hid hrow3
            rw [zeroN_eq]
            clear HIT he hb2 hb2w hb13 hown3 hrow3 HOWN HROW hE hzz
            go_wp2_with fail
            go_roundw
            case rel => exact ⟨k + 1, ps, xs, _, al, by omega, by omega, rfl, rfl, by go_num, HLS, by omega, by omega, by omega, by rw [hm]; exact HO3.out, HR3.out, hbw3⟩
            case measure => simp [intOf]; omega
          | good t r =>
            rw [hres] at HIT
            have HIT : Calls Tryz.prog 14 #[.string s] W fun x w' => Below W.heap.size W w' ∧ (∃ A n c, x = .returned (.tuple #[nodeV t.own (.slice A n c), .string (bs r), .int .i64 0]) ∧ LAt w' (fun q => W.heap.size ≤ q ∧ q < w'.heap.size) 16 t.kids (.slice A n c)) ∧ OwnOk t.own ∧ r.length + 1 ≤ s.size := HIT
            have hcnt := item_count _ 16 _ _ _ (show itemP (s.size + 1) 16 s.data.toList = .good t r from hres)
            rw [data_len] at hcnt
            obtain ⟨ko, hko⟩ : ∃ k, s.size - r.length = k := ⟨_, rfl⟩
            have hrl := (goodI_of hres hs9).2
            have hlsn := HLS.out.step hres hs9 ko hko
            obtain ⟨R, hR⟩ : ∃ R, bs r = R := ⟨_, rfl⟩
            have hRz : R.size = r.length := by rw [← hR]; rfl
            have y7 : (s.size : Int) - (R.size : Int) = (ko : Int) := by omega
            have y8 : ko ≤ s.size := by omega
            have y9 := ext_size s ko y8
            rw [hR] at HIT
            have hln : ps.length + 1 = (ps ++ [(s.data.toList.take ko, t)]).length := by simp
            have hmp : (ps ++ [(s.data.toList.take ko, t)]).map (·.2) = ps.map (·.2) ++ [t] := by simp
            have hcn2 : countL ((ps ++ [(s.data.toList.take ko, t)]).map (·.2)) ≤ 100 * (k + 1) := by
              rw [hmp, countL_append]
              have h1 : countL [t] = t.count := by rw [countL, countL]; omega
              omega
            have HLSN := Lib.hid hlsn
            have HLN := Lib.hid hln
            have HMP := Lib.hid hmp
            have HCN2 := Lib.hid hcn2
            have HY9 := Lib.hid y9
            clear hres hlsn hln hmp hcn2 hko hrl hR hRz hcnt HLS y9
            refine HIT.mono ?_
            rintro x w2 ⟨hb2, ⟨A1, n1, c1, rfl, hl1⟩, ho1, _⟩
            have hb2w := hE.trans (hb2.mono hE.size)
            have HOT := Lib.hid ho1
            have HRO := Lib.hid (fun W S (hl : LAt W S 16 t.kids (.slice A1 n1 c1)) => RowT.one (t := t) ho1 hl)
            obtain ⟨⟨kind1, b1, neg1, dg1, ex1, u1, wd1, s1⟩, hoE⟩ : ∃ o, t.own = o := ⟨_, rfl⟩
            rw [hoE] at HRO ⊢
            unfold nodeCells at HRO
            unfold nodeV
            simp only [] at HRO ⊢
            have hb13 : Below wr.heap.size wr (w2.alloc (.cells #[.int .i64 kind1, .bool b1, .bool neg1, .string dg1, .int .i64 ex1, .int .u64 u1, .int .i64 wd1, .string s1, .slice A1 n1 c1] 28)) := hb2w.alloc hb2w.size _
            have hkN := Blk.new w2 #[.int .i64 kind1, .bool b1, .bool neg1, .string dg1, .int .i64 ex1, .int .u64 u1, .int .i64 wd1, .string s1, .slice A1 n1 c1] 28
            have hz2 := hE.size
            have hz3 := hb2.size
            obtain ⟨w3, hw3⟩ : ∃ w3, w2.alloc (.cells #[.int .i64 kind1, .bool b1, .bool neg1, .string dg1, .int .i64 ex1, .int .u64 u1, .int .i64 wd1, .string s1, .slice A1 n1 c1] 28) = w3 := ⟨_, rfl⟩
            have hz4 : w3.heap.size = w2.heap.size + 1 := by rw [← hw3]; simp
            have hl3 : LAt w3 (fun q => wr.heap.size ≤ q ∧ q < w2.heap.size) 16 t.kids (.slice A1 n1 c1) := by
              rw [← hw3]
              exact (hl1.keep (fun q hq => Below.heap_alloc w2 _ q hq.2)).mono (fun q hq => by omega)
            rw [hw3] at hb13 hkN
            have HW3 := Lib.hid hw3
            have hbw3 := hbw.trans (hb13.mono hbw.size)
            have hq : ∀ q, (Value.slice A' m c').ownBlock = some q → w.heap.size ≤ q ∧ q < wr.heap.size := fun q e => ⟨(HOWN.out.lt q e).1, (HOWN.out.lt q e).2⟩
            have hown3 : w3.ownsRow w.heap.size 28 9 (Value.slice A' m c') m xs := HOWN.out.kept (below_none hb13) (by cases A' with | none => exact .inl rfl | some a => exact .inr (by simp [Value.ownBlock]))
            have hrow3 : RowT w3 (fun q => w.heap.size ≤ q ∧ q < wr.heap.size ∧ (Value.slice A' m c').ownBlock ≠ some q) 16 (ps.map (·.2)) xs := HROW.out.keep (fun q hq => hb13.block q hq.2.1)
            have zk0 := hkN.cell 0
            have zk1 := hkN.cell 1
            have zk2 := hkN.cell 2
            have zk3 := hkN.cell 3
            have zk4 := hkN.cell 4
            have zk5 := hkN.cell 5
            have zk6 := hkN.cell 6
            have zk7 := hkN.cell 7
            have zk8 := hkN.cell 8
            have HQ := Lib.hid hq
            have HR3 := Lib.hid hrow3
            have HLY := Lib.hid hl3
            have HNODE := Lib.hid hkN
            have c3 : m + 1 ≤ maxLen := by unfold maxLen; omega
            have hzr := hbw.size
            clear HIT hl1 ho1 hoE hw3 hb2 hb2w hkN hq hrow3 hl3 HOWN HROW hE
            have hz4a : w2.heap.size + 1 ≤ w3.heap.size := by omega
            have hz4b : w3.heap.size ≤ w2.heap.size + 1 := by omega
            clear hz4
            go_upto_region 10 with (fail)
            rw [HW3.out]
            clear HW3
            go_wp2_with (at_builtin; refine wpList_append_lies _ rfl _ _ 26 rfl w.heap.size 28 i0 (.agg #[.int .i64 0, .bool false, .bool false, .string ⟨#[]⟩, .int .i64 0, .int .u64 0, .int .i64 0, .string ⟨#[]⟩, .slice none 0 0]) 9 104 Tryz.underlying26 HI.out HZ0.out HZ1.out HZ2.out rfl (by decide) _ _ _ rfl (hown3.alloc _) ⟨w3.heap.size, 0, none⟩ 1 1 [.int .i64 kind1, .bool b1, .bool neg1, .string dg1, .int .i64 ex1, .int .u64 u1, .int .i64 wd1, .string s1, .slice A1 n1 c1] rfl rfl (cells_newT _ [.int .i64 kind1, .bool b1, .bool neg1, .string dg1, .int .i64 ex1, .int .u64 u1, .int .i64 wd1, .string s1, .slice A1 n1 c1] _) (by intro u hu; simp at hu; rcases hu with rfl | rfl | rfl | rfl | rfl | rfl | rfl | rfl | rfl <;> rfl) (by decide) (by omega) (by omega) (by simp; omega) (w3.heap.size + 1) (by simp) ?_; intro g cap w4 hown4 hgrow hat hg4)
            have hg0 : (Value.slice A' m c').ownBlock = some g → w.heap.size ≤ g ∧ g < wr.heap.size := fun e => HQ.out g e
            have hsz4 : w3.heap.size + 1 ≤ w4.heap.size := by
              have := hgrow.size
              simpa using this
            have hkeep : ∀ q, q < w3.heap.size → (Value.slice A' m c').ownBlock ≠ some q → w4.heap[q]? = w3.heap[q]? := fun q hq hne => by
              rw [hgrow.block q (by simp; omega) (fun e => hne e.symm)]
              exact ((Below.refl w3.heap.size w3).alloc (Nat.le_refl _) _).block q hq
            have hgl : g = w3.heap.size + 1 ∨ (Value.slice A' m c').ownBlock = some g := hat.symm
            have hrow4 : RowT w4 (fun q => w.heap.size ≤ q ∧ q < w4.heap.size ∧ (Value.slice (some ⟨g, 0, none⟩) (m + 1) cap).ownBlock ≠ some q) 16 (ps.map (·.2) ++ [t]) (xs ++ [.int .i64 kind1, .bool b1, .bool neg1, .string dg1, .int .i64 ex1, .int .u64 u1, .int .i64 wd1, .string s1, .slice A1 n1 c1]) := by
              refine RowT.append ?_ ((HR3.out.keep (fun q hq => hkeep q (by omega) hq.2.2)).mono (fun q hq => ⟨hq.1, by omega, fun e => ?_⟩))
              · have h1 : LAt w4 (fun q => w.heap.size ≤ q ∧ q < w4.heap.size ∧ (Value.slice (some ⟨g, 0, none⟩) (m + 1) cap).ownBlock ≠ some q) 16 t.kids (.slice A1 n1 c1) := by
                  refine (HLY.out.keep (fun q hq => hkeep q (by omega) (fun e => ?_))).mono (fun q hq => ⟨by omega, by omega, fun e => ?_⟩)
                  · have := (HQ.out q e).2
                    omega
                  · have e' : g = q := by simpa [Value.ownBlock] using e
                    rcases hgl with h | h
                    · omega
                    · have := (hg0 h).2
                      omega
                exact HRO.out _ _ h1
              · have e' : g = q := by simpa [Value.ownBlock] using e
                subst e'
                rcases hgl with h | h
                · omega
                · exact hq.2.2 h
            have hbw4 : Below w.heap.size w w4 := (hbw3.alloc hbw3.size _).grown hgrow (by simp; omega) (fun q e => (HQ.out q e).1)
            have HR5 := Lib.hid hrow4
            have HO5 := Lib.hid hown4
            have HB5 := Lib.hid hbw4
            clear hgrow hat hgl hg0 hkeep hrow4 hown4 hown3 HR3 HLY HQ hbw hbw3 hbw4 hb13 hg4 zk0 zk1 zk2 zk3 zk4 zk5 zk6 zk7 zk8 HNODE HRO hz4a hz4b
            go_wp2_with fail
            go_roundw
            case rel => exact ⟨k + 1, _, _, _, _, by omega, by omega, rfl, rfl, by go_num, HLSN, by rw [← HLN.out]; omega, by rw [ByteArray.size_append, HY9.out]; omega, HCN2.out, by rw [← HLN.out, hm]; exact HO5.out, by rw [HMP.out]; exact HR5.out, HB5.out⟩
            case measure => simp [intOf]; omega
      · have y2 : ¬ (k : Int) < 8 := by omega
        have hls : ListAt wr wr.heap.size 17 (ps.map (·.2)) (Value.slice A' m c') := HROW.out.list HOWN.out (by simp [hm]) (by omega) (fun q hq => hq.2.1) (fun a e => by
          subst e
          exact (HOWN.out.lt a.block rfl).2)
        have hmk := HMK.out m (by omega)
        obtain ⟨hd, hdE⟩ : ∃ hd, bs (makeL 4 m) = hd := ⟨_, rfl⟩
        have hdz : hd.size ≤ 9 := by rw [← hdE]; exact make_small 4 m (by omega)
        have hia := HLS.out.array (by omega)
        have hib := HLS.out.opened (by omega)
        rw [hm, hdE] at hia
        rw [hdE] at hmk
        have HMK1 := Lib.hid hmk
        have HIA := fun W (hb : Below w.heap.size w W) => H2.out (hd ++ al) (by rw [ByteArray.size_append]; omega) W hb
        have HIB := fun W (hb : Below w.heap.size w W) => H2.out (⟨#[159]⟩ ++ al ++ ⟨#[255]⟩) (by rw [ByteArray.size_append, ByteArray.size_append, show (⟨#[159]⟩ : ByteArray).size = 1 from rfl, show (⟨#[255]⟩ : ByteArray).size = 1 from rfl]; omega) W hb
        have hal : al.size ≤ 1000 := by omega
        have hm8 : m ≤ 8 := by omega
        obtain ⟨L, hL⟩ : ∃ L, ps.map (·.2) = L := ⟨_, rfl⟩
        rw [hL] at hls hia hib hcn
        have hcnn : (listT 7 L).count ≤ 1000000000000 := by
          rw [Tr.count_eq]
          show 1 + countL L ≤ 1000000000000
          omega
        clear HROW HOWN HLS hmk hdE HMK H2
        by_cases hdp : depthL L ≤ 15
        · rw [if_pos hdp] at hia hib
          simp only [hia] at HIA
          simp only [hib] at HIB
          have HIA : Hid (∀ W, Below w.heap.size w W → Calls Tryz.prog 14 #[.string (hd ++ al)] W fun x w' => Below W.heap.size W w' ∧ (∃ A n c, x = .returned (.tuple #[.agg #[.int .i64 7, .bool false, .bool false, .string ⟨#[]⟩, .int .i64 0, .int .u64 0, .int .i64 0, .string ⟨#[]⟩, .slice A n c], .string ⟨#[]⟩, .int .i64 0]) ∧ LAt w' (fun q => W.heap.size ≤ q ∧ q < w'.heap.size) 16 L (.slice A n c)) ∧ OwnOk (listT 7 L).own ∧ ([] : List UInt8).length + 1 ≤ ((hd ++ al)).size) := Lib.hid HIA
          have HIB : Hid (∀ W, Below w.heap.size w W → Calls Tryz.prog 14 #[.string (⟨#[159]⟩ ++ al ++ ⟨#[255]⟩)] W fun x w' => Below W.heap.size W w' ∧ (∃ A n c, x = .returned (.tuple #[.agg #[.int .i64 7, .bool false, .bool false, .string ⟨#[]⟩, .int .i64 0, .int .u64 0, .int .i64 0, .string ⟨#[]⟩, .slice A n c], .string ⟨#[]⟩, .int .i64 0]) ∧ LAt w' (fun q => W.heap.size ≤ q ∧ q < w'.heap.size) 16 L (.slice A n c)) ∧ OwnOk (listT 7 L).own ∧ ([] : List UInt8).length + 1 ≤ ((⟨#[159]⟩ ++ al ++ ⟨#[255]⟩)).size) := Lib.hid HIB
          have HSAME := fun W B x x' (hl : ListAt W B 16 (listT 7 L).kids x) (hl' : ListAt W B 17 (listT 7 L).kids x') (hB : B ≤ W.heap.size) => ref_SameT 16 (listT 7 L) (listT 7 L) x x' W B 17 hl hl' hB
          rw [sameT_refl] at HSAME
          have HSAME : Hid (∀ W B x x', ListAt W B 16 L x → ListAt W B 17 L x' → B ≤ W.heap.size → Calls Tryz.prog 15 #[.agg #[.int .i64 7, .bool false, .bool false, .string ⟨#[]⟩, .int .i64 0, .int .u64 0, .int .i64 0, .string ⟨#[]⟩, x], .agg #[.int .i64 7, .bool false, .bool false, .string ⟨#[]⟩, .int .i64 0, .int .u64 0, .int .i64 0, .string ⟨#[]⟩, x']] W fun e w' => e = .returned (.bool true) ∧ Below W.heap.size W w') := Lib.hid HSAME
          have HLSW := Lib.hid (fun W (hb : Below wr.heap.size wr W) => hls.below hb (Nat.le_refl _))
          clear hia hib hls hdp hcn hcnn hm hL
          go_wp2_with fail
          refine (HMK1.out _).mono ?_
          rintro x w4 ⟨rfl, hb4⟩
          have hb4w := hbw.trans (hb4.mono hbw.size)
          clear HMK1
          go_wp2_with fail
          refine (HIA.out _ hb4w).mono ?_
          rintro x w5 ⟨hb5, ⟨A5, n5, c5, rfl, hl5⟩, _, _⟩
          have hr5 := hb4.trans (hb5.mono hb4.size)
          have hr6 := hr5.alloc hr5.size (.cells #[.int .i64 7, .bool false, .bool false, .string ⟨#[]⟩, .int .i64 0, .int .u64 0, .int .i64 0, .string ⟨#[]⟩, .slice A5 n5 c5] 28)
          have hk6 := Blk.new w5 #[.int .i64 7, .bool false, .bool false, .string ⟨#[]⟩, .int .i64 0, .int .u64 0, .int .i64 0, .string ⟨#[]⟩, .slice A5 n5 c5] 28
          have hb6w := hbw.trans (hr6.mono hbw.size)
          have hz4 := hb4.size
          clear HIA hb4 hb4w hr5
          go_wp2_with fail
          refine (HIB.out _ hb6w).mono ?_
          rintro x w7 ⟨hb7, ⟨A7, n7, c7, rfl, hl7⟩, _, _⟩
          have hr7 := hr6.trans (hb7.mono hr6.size)
          have hz7 := hb7.size
          rw [World.size_alloc] at hz7
          have hr8 := hr7.alloc hr7.size (.cells #[.int .i64 7, .bool false, .bool false, .string ⟨#[]⟩, .int .i64 0, .int .u64 0, .int .i64 0, .string ⟨#[]⟩, .slice A7 n7 c7] 28)
          have hr9 := hr8.alloc hr8.size (.cells #[.int .i64 7, .bool false, .bool false, .string ⟨#[]⟩, .int .i64 0, .int .u64 0, .int .i64 0, .string ⟨#[]⟩, (.slice A' m c')] 28)
          have hk8 := ((hk6.below hb7 hk6.lt).alloc (.cells #[.int .i64 7, .bool false, .bool false, .string ⟨#[]⟩, .int .i64 0, .int .u64 0, .int .i64 0, .string ⟨#[]⟩, .slice A7 n7 c7] 28)).alloc (.cells #[.int .i64 7, .bool false, .bool false, .string ⟨#[]⟩, .int .i64 0, .int .u64 0, .int .i64 0, .string ⟨#[]⟩, (.slice A' m c')] 28)
          have hm8 := (Blk.new w7 #[.int .i64 7, .bool false, .bool false, .string ⟨#[]⟩, .int .i64 0, .int .u64 0, .int .i64 0, .string ⟨#[]⟩, .slice A7 n7 c7] 28).alloc (.cells #[.int .i64 7, .bool false, .bool false, .string ⟨#[]⟩, .int .i64 0, .int .u64 0, .int .i64 0, .string ⟨#[]⟩, (.slice A' m c')] 28)
          have hn8 := Blk.new (w7.alloc (.cells #[.int .i64 7, .bool false, .bool false, .string ⟨#[]⟩, .int .i64 0, .int .u64 0, .int .i64 0, .string ⟨#[]⟩, .slice A7 n7 c7] 28)) #[.int .i64 7, .bool false, .bool false, .string ⟨#[]⟩, .int .i64 0, .int .u64 0, .int .i64 0, .string ⟨#[]⟩, (.slice A' m c')] 28
          obtain ⟨w9, hw9⟩ : ∃ w9, (w7.alloc (.cells #[.int .i64 7, .bool false, .bool false, .string ⟨#[]⟩, .int .i64 0, .int .u64 0, .int .i64 0, .string ⟨#[]⟩, .slice A7 n7 c7] 28)).alloc (.cells #[.int .i64 7, .bool false, .bool false, .string ⟨#[]⟩, .int .i64 0, .int .u64 0, .int .i64 0, .string ⟨#[]⟩, (.slice A' m c')] 28) = w9 := ⟨_, rfl⟩
          have hz9 : w9.heap.size = w7.heap.size + 2 := by rw [← hw9]; simp
          have h79 : ∀ q, q < w7.heap.size → w9.heap[q]? = w7.heap[q]? := fun q hq => by rw [← hw9]; exact (Below.heap_alloc _ _ q (by simp; omega)).trans (Below.heap_alloc w7 _ q hq)
          rw [World.size_alloc] at hn8
          rw [hw9] at hr9 hk8 hm8 hn8
          have hla : ListAt w9 w9.heap.size 16 L (.slice A5 n5 c5) := ((hl5.keep (fun q hq => (h79 q (by omega)).trans ((hb7.block q (by rw [World.size_alloc]; omega)).trans (Below.heap_alloc w5 _ q hq.2)))).mono (fun q hq => by omega))
          have hlb : ListAt w9 w9.heap.size 16 L (.slice A7 n7 c7) := ((hl7.keep (fun q hq => h79 q hq.2)).mono (fun q hq => by omega))
          have hln : ListAt w9 w9.heap.size 17 L (Value.slice A' m c') := (HLSW.out w9 hr9).mono (fun q hq => by have := hr9.size; omega)
          have HSM1 := Lib.hid (HSAME.out w9 w9.heap.size _ _ hla hln (Nat.le_refl _))
          have HSM2 := Lib.hid (fun W (hW : Below w9.heap.size w9 W) => HSAME.out W w9.heap.size _ _ (hlb.below hW (Nat.le_refl _)) (hln.below hW (Nat.le_refl _)) hW.size)
          have HW9 := Lib.hid hw9
          have hb9w := hbw.trans (hr9.mono hbw.size)
          clear hl5 hl7 hla hlb hln HSAME HIB hk6 hb7 hr6 hr7 hr8 hb6w hw9 h79 hz4 hz7 hz9 HLSW
          have p0 := hk8.cell 0
          have p1 := hk8.cell 1
          have p2 := hk8.cell 2
          have p3 := hk8.cell 3
          have p4 := hk8.cell 4
          have p5 := hk8.cell 5
          have p6 := hk8.cell 6
          have p7 := hk8.cell 7
          have p8 := hk8.cell 8
          have q0 := hm8.cell 0
          have q1 := hm8.cell 1
          have q2 := hm8.cell 2
          have q3 := hm8.cell 3
          have q4 := hm8.cell 4
          have q5 := hm8.cell 5
          have q6 := hm8.cell 6
          have q7 := hm8.cell 7
          have q8 := hm8.cell 8
          have s0 := hn8.cell 0
          have s1 := hn8.cell 1
          have s2 := hn8.cell 2
          have s3 := hn8.cell 3
          have s4 := hn8.cell 4
          have s5 := hn8.cell 5
          have s6 := hn8.cell 6
          have s7 := hn8.cell 7
          have s8 := hn8.cell 8
          go_upto_region 16 with (fail)
          rw [HW9.out]
          go_wp2_with fail
          refine HSM1.out.mono ?_
          rintro x w10 ⟨rfl, hb10⟩
          have hb10w := hb9w.trans (hb10.mono hb9w.size)
          have hk10 := hk8.below hb10 hk8.lt
          have hm10 := hm8.below hb10 hm8.lt
          have hn10 := hn8.below hb10 hn8.lt
          have HSM3 := Lib.hid (HSM2.out _ hb10)
          clear HSM1 HSM2 hk8 hm8 hn8 hb10 hb9w
          clear p0 p1 p2 p3 p4 p5 p6 p7 p8 q0 q1 q2 q3 q4 q5 q6 q7 q8 s0 s1 s2 s3 s4 s5 s6 s7 s8
          have p0 := hm10.cell 0
          have p1 := hm10.cell 1
          have p2 := hm10.cell 2
          have p3 := hm10.cell 3
          have p4 := hm10.cell 4
          have p5 := hm10.cell 5
          have p6 := hm10.cell 6
          have p7 := hm10.cell 7
          have p8 := hm10.cell 8
          have s0 := hn10.cell 0
          have s1 := hn10.cell 1
          have s2 := hn10.cell 2
          have s3 := hn10.cell 3
          have s4 := hn10.cell 4
          have s5 := hn10.cell 5
          have s6 := hn10.cell 6
          have s7 := hn10.cell 7
          have s8 := hn10.cell 8
          go_wp2_with fail
          refine HSM3.out.mono ?_
          rintro x w11 ⟨rfl, hb11⟩
          have hb12 := hb10w.trans (hb11.mono hb10w.size)
          go_wp2_with fail
          go_ret
          exact ⟨rfl, hb12⟩
        · rw [if_neg hdp] at hia hib
          simp only [hia] at HIA
          simp only [hib] at HIB
          have HIA : Hid (∀ W, Below w.heap.size w W → Calls Tryz.prog 14 #[.string (hd ++ al)] W fun x w' => Below W.heap.size W w' ∧ x = .returned (.tuple #[zeroN, .string (hd ++ al), .int .i64 60]) ∧ (60 : Int) ≠ 0) := Lib.hid HIA
          have HIB : Hid (∀ W, Below w.heap.size w W → Calls Tryz.prog 14 #[.string (⟨#[159]⟩ ++ al ++ ⟨#[255]⟩)] W fun x w' => Below W.heap.size W w' ∧ x = .returned (.tuple #[zeroN, .string (⟨#[159]⟩ ++ al ++ ⟨#[255]⟩), .int .i64 60]) ∧ (60 : Int) ≠ 0) := Lib.hid HIB
          have HDP := Lib.hid (fun W (hb : Below wr.heap.size wr W) => (show Calls Tryz.prog 17 #[.agg #[.int .i64 7, .bool false, .bool false, .string ⟨#[]⟩, .int .i64 0, .int .u64 0, .int .i64 0, .string ⟨#[]⟩, (.slice A' m c')]] W fun e w' => e = .returned (.int .i64 ((listT 7 L).depth : Nat)) ∧ Below W.heap.size W w' from ref_Depth 17 (listT 7 L) (Value.slice A' m c') W wr.heap.size (hls.below hb (Nat.le_refl _)) hb.size hcnn))
          obtain ⟨dp, hdpE⟩ : ∃ dp, (listT 7 L).depth = dp := ⟨_, rfl⟩
          rw [hdpE] at HDP
          have y5 : (dp : Int) > 16 := by
            rw [Tr.depth_eq] at hdpE
            have : depthL L + 1 = dp := hdpE
            omega
          rw [zeroN_eq] at HIA HIB
          clear hia hib hls hdp hcn hcnn hm hL hdpE
          go_wp2_with fail
          refine (HMK1.out _).mono ?_
          rintro x w4 ⟨rfl, hb4⟩
          have hb4w := hbw.trans (hb4.mono hbw.size)
          clear HMK1
          go_wp2_with fail
          refine (HIA.out _ hb4w).mono ?_
          rintro x w5 ⟨hb5, rfl, _⟩
          have hr5 := hb4.trans (hb5.mono hb4.size)
          have hr6 := hr5.alloc hr5.size (.cells #[.int .i64 0, .bool false, .bool false, .string ⟨#[]⟩, .int .i64 0, .int .u64 0, .int .i64 0, .string ⟨#[]⟩, .slice none 0 0] 28)
          have hb6w := hbw.trans (hr6.mono hbw.size)
          clear HIA hb4 hb4w hr5 hb5
          go_wp2_with fail
          refine (HIB.out _ hb6w).mono ?_
          rintro x w7 ⟨hb7, rfl, _⟩
          have hr7 := hr6.trans (hb7.mono hr6.size)
          have hr8 := hr7.alloc hr7.size (.cells #[.int .i64 0, .bool false, .bool false, .string ⟨#[]⟩, .int .i64 0, .int .u64 0, .int .i64 0, .string ⟨#[]⟩, .slice none 0 0] 28)
          have hr9 := hr8.alloc hr8.size (.cells #[.int .i64 7, .bool false, .bool false, .string ⟨#[]⟩, .int .i64 0, .int .u64 0, .int .i64 0, .string ⟨#[]⟩, (.slice A' m c')] 28)
          have hn8 := Blk.new (w7.alloc (.cells #[.int .i64 0, .bool false, .bool false, .string ⟨#[]⟩, .int .i64 0, .int .u64 0, .int .i64 0, .string ⟨#[]⟩, .slice none 0 0] 28)) #[.int .i64 7, .bool false, .bool false, .string ⟨#[]⟩, .int .i64 0, .int .u64 0, .int .i64 0, .string ⟨#[]⟩, (.slice A' m c')] 28
          obtain ⟨w9, hw9⟩ : ∃ w9, (w7.alloc (.cells #[.int .i64 0, .bool false, .bool false, .string ⟨#[]⟩, .int .i64 0, .int .u64 0, .int .i64 0, .string ⟨#[]⟩, .slice none 0 0] 28)).alloc (.cells #[.int .i64 7, .bool false, .bool false, .string ⟨#[]⟩, .int .i64 0, .int .u64 0, .int .i64 0, .string ⟨#[]⟩, (.slice A' m c')] 28) = w9 := ⟨_, rfl⟩
          rw [World.size_alloc] at hn8
          rw [hw9] at hr9 hn8
          have HD := Lib.hid (HDP.out _ hr9)
          have HW9 := Lib.hid hw9
          have hb9w := hbw.trans (hr9.mono hbw.size)
          clear HIB hb7 hr6 hr7 hr8 hb6w hw9 HDP
          have s0 := hn8.cell 0
          have s1 := hn8.cell 1
          have s2 := hn8.cell 2
          have s3 := hn8.cell 3
          have s4 := hn8.cell 4
          have s5 := hn8.cell 5
          have s6 := hn8.cell 6
          have s7 := hn8.cell 7
          have s8 := hn8.cell 8
          go_upto_region 16 with (fail)
          rw [HW9.out]
          go_wp2_with fail
          refine HD.out.mono ?_
          rintro x w10 ⟨rfl, hb10⟩
          have hb10w := hb9w.trans (hb10.mono hb9w.size)
          clear HD hb10
          go_wp2_with fail
          go_ret
          exact ⟨rfl, hb10w⟩
    · have y1 : ¬ (k : Int) < n := by omega
      have hls : ListAt wr wr.heap.size 17 (ps.map (·.2)) (Value.slice A' m c') := HROW.out.list HOWN.out (by simp [hm]) (by omega) (fun q hq => hq.2.1) (fun a e => by
        subst e
        exact (HOWN.out.lt a.block rfl).2)
      have hmk := HMK.out m (by omega)
      obtain ⟨hd, hdE⟩ : ∃ hd, bs (makeL 4 m) = hd := ⟨_, rfl⟩
      have hdz : hd.size ≤ 9 := by rw [← hdE]; exact make_small 4 m (by omega)
      have hia := HLS.out.array (by omega)
      have hib := HLS.out.opened (by omega)
      rw [hm, hdE] at hia
      rw [hdE] at hmk
      have HMK1 := Lib.hid hmk
      have HIA := fun W (hb : Below w.heap.size w W) => H2.out (hd ++ al) (by rw [ByteArray.size_append]; omega) W hb
      have HIB := fun W (hb : Below w.heap.size w W) => H2.out (⟨#[159]⟩ ++ al ++ ⟨#[255]⟩) (by rw [ByteArray.size_append, ByteArray.size_append, show (⟨#[159]⟩ : ByteArray).size = 1 from rfl, show (⟨#[255]⟩ : ByteArray).size = 1 from rfl]; omega) W hb
      have hal : al.size ≤ 1000 := by omega
      have hm8 : m ≤ 8 := by omega
      obtain ⟨L, hL⟩ : ∃ L, ps.map (·.2) = L := ⟨_, rfl⟩
      rw [hL] at hls hia hib hcn
      have hcnn : (listT 7 L).count ≤ 1000000000000 := by
        rw [Tr.count_eq]
        show 1 + countL L ≤ 1000000000000
        omega
      clear HROW HOWN HLS hmk hdE HMK H2
      by_cases hdp : depthL L ≤ 15
      · rw [if_pos hdp] at hia hib
        simp only [hia] at HIA
        simp only [hib] at HIB
        have HIA : Hid (∀ W, Below w.heap.size w W → Calls Tryz.prog 14 #[.string (hd ++ al)] W fun x w' => Below W.heap.size W w' ∧ (∃ A n c, x = .returned (.tuple #[.agg #[.int .i64 7, .bool false, .bool false, .string ⟨#[]⟩, .int .i64 0, .int .u64 0, .int .i64 0, .string ⟨#[]⟩, .slice A n c], .string ⟨#[]⟩, .int .i64 0]) ∧ LAt w' (fun q => W.heap.size ≤ q ∧ q < w'.heap.size) 16 L (.slice A n c)) ∧ OwnOk (listT 7 L).own ∧ ([] : List UInt8).length + 1 ≤ ((hd ++ al)).size) := Lib.hid HIA
        have HIB : Hid (∀ W, Below w.heap.size w W → Calls Tryz.prog 14 #[.string (⟨#[159]⟩ ++ al ++ ⟨#[255]⟩)] W fun x w' => Below W.heap.size W w' ∧ (∃ A n c, x = .returned (.tuple #[.agg #[.int .i64 7, .bool false, .bool false, .string ⟨#[]⟩, .int .i64 0, .int .u64 0, .int .i64 0, .string ⟨#[]⟩, .slice A n c], .string ⟨#[]⟩, .int .i64 0]) ∧ LAt w' (fun q => W.heap.size ≤ q ∧ q < w'.heap.size) 16 L (.slice A n c)) ∧ OwnOk (listT 7 L).own ∧ ([] : List UInt8).length + 1 ≤ ((⟨#[159]⟩ ++ al ++ ⟨#[255]⟩)).size) := Lib.hid HIB
        have HSAME := fun W B x x' (hl : ListAt W B 16 (listT 7 L).kids x) (hl' : ListAt W B 17 (listT 7 L).kids x') (hB : B ≤ W.heap.size) => ref_SameT 16 (listT 7 L) (listT 7 L) x x' W B 17 hl hl' hB
        rw [sameT_refl] at HSAME
        have HSAME : Hid (∀ W B x x', ListAt W B 16 L x → ListAt W B 17 L x' → B ≤ W.heap.size → Calls Tryz.prog 15 #[.agg #[.int .i64 7, .bool false, .bool false, .string ⟨#[]⟩, .int .i64 0, .int .u64 0, .int .i64 0, .string ⟨#[]⟩, x], .agg #[.int .i64 7, .bool false, .bool false, .string ⟨#[]⟩, .int .i64 0, .int .u64 0, .int .i64 0, .string ⟨#[]⟩, x']] W fun e w' => e = .returned (.bool true) ∧ Below W.heap.size W w') := Lib.hid HSAME
        have HLSW := Lib.hid (fun W (hb : Below wr.heap.size wr W) => hls.below hb (Nat.le_refl _))
        clear hia hib hls hdp hcn hcnn hm hL
        go_wp2_with fail
        refine (HMK1.out _).mono ?_
        rintro x w4 ⟨rfl, hb4⟩
        have hb4w := hbw.trans (hb4.mono hbw.size)
        clear HMK1
        go_wp2_with fail
        refine (HIA.out _ hb4w).mono ?_
        rintro x w5 ⟨hb5, ⟨A5, n5, c5, rfl, hl5⟩, _, _⟩
        have hr5 := hb4.trans (hb5.mono hb4.size)
        have hr6 := hr5.alloc hr5.size (.cells #[.int .i64 7, .bool false, .bool false, .string ⟨#[]⟩, .int .i64 0, .int .u64 0, .int .i64 0, .string ⟨#[]⟩, .slice A5 n5 c5] 28)
        have hk6 := Blk.new w5 #[.int .i64 7, .bool false, .bool false, .string ⟨#[]⟩, .int .i64 0, .int .u64 0, .int .i64 0, .string ⟨#[]⟩, .slice A5 n5 c5] 28
        have hb6w := hbw.trans (hr6.mono hbw.size)
        have hz4 := hb4.size
        clear HIA hb4 hb4w hr5
        go_wp2_with fail
        refine (HIB.out _ hb6w).mono ?_
        rintro x w7 ⟨hb7, ⟨A7, n7, c7, rfl, hl7⟩, _, _⟩
        have hr7 := hr6.trans (hb7.mono hr6.size)
        have hz7 := hb7.size
        rw [World.size_alloc] at hz7
        have hr8 := hr7.alloc hr7.size (.cells #[.int .i64 7, .bool false, .bool false, .string ⟨#[]⟩, .int .i64 0, .int .u64 0, .int .i64 0, .string ⟨#[]⟩, .slice A7 n7 c7] 28)
        have hr9 := hr8.alloc hr8.size (.cells #[.int .i64 7, .bool false, .bool false, .string ⟨#[]⟩, .int .i64 0, .int .u64 0, .int .i64 0, .string ⟨#[]⟩, (.slice A' m c')] 28)
        have hk8 := ((hk6.below hb7 hk6.lt).alloc (.cells #[.int .i64 7, .bool false, .bool false, .string ⟨#[]⟩, .int .i64 0, .int .u64 0, .int .i64 0, .string ⟨#[]⟩, .slice A7 n7 c7] 28)).alloc (.cells #[.int .i64 7, .bool false, .bool false, .string ⟨#[]⟩, .int .i64 0, .int .u64 0, .int .i64 0, .string ⟨#[]⟩, (.slice A' m c')] 28)
        have hm8 := (Blk.new w7 #[.int .i64 7, .bool false, .bool false, .string ⟨#[]⟩, .int .i64 0, .int .u64 0, .int .i64 0, .string ⟨#[]⟩, .slice A7 n7 c7] 28).alloc (.cells #[.int .i64 7, .bool false, .bool false, .string ⟨#[]⟩, .int .i64 0, .int .u64 0, .int .i64 0, .string ⟨#[]⟩, (.slice A' m c')] 28)
        have hn8 := Blk.new (w7.alloc (.cells #[.int .i64 7, .bool false, .bool false, .string ⟨#[]⟩, .int .i64 0, .int .u64 0, .int .i64 0, .string ⟨#[]⟩, .slice A7 n7 c7] 28)) #[.int .i64 7, .bool false, .bool false, .string ⟨#[]⟩, .int .i64 0, .int .u64 0, .int .i64 0, .string ⟨#[]⟩, (.slice A' m c')] 28
        obtain ⟨w9, hw9⟩ : ∃ w9, (w7.alloc (.cells #[.int .i64 7, .bool false, .bool false, .string ⟨#[]⟩, .int .i64 0, .int .u64 0, .int .i64 0, .string ⟨#[]⟩, .slice A7 n7 c7] 28)).alloc (.cells #[.int .i64 7, .bool false, .bool false, .string ⟨#[]⟩, .int .i64 0, .int .u64 0, .int .i64 0, .string ⟨#[]⟩, (.slice A' m c')] 28) = w9 := ⟨_, rfl⟩
        have hz9 : w9.heap.size = w7.heap.size + 2 := by rw [← hw9]; simp
        have h79 : ∀ q, q < w7.heap.size → w9.heap[q]? = w7.heap[q]? := fun q hq => by rw [← hw9]; exact (Below.heap_alloc _ _ q (by simp; omega)).trans (Below.heap_alloc w7 _ q hq)
        rw [World.size_alloc] at hn8
        rw [hw9] at hr9 hk8 hm8 hn8
        have hla : ListAt w9 w9.heap.size 16 L (.slice A5 n5 c5) := ((hl5.keep (fun q hq => (h79 q (by omega)).trans ((hb7.block q (by rw [World.size_alloc]; omega)).trans (Below.heap_alloc w5 _ q hq.2)))).mono (fun q hq => by omega))
        have hlb : ListAt w9 w9.heap.size 16 L (.slice A7 n7 c7) := ((hl7.keep (fun q hq => h79 q hq.2)).mono (fun q hq => by omega))
        have hln : ListAt w9 w9.heap.size 17 L (Value.slice A' m c') := (HLSW.out w9 hr9).mono (fun q hq => by have := hr9.size; omega)
        have HSM1 := Lib.hid (HSAME.out w9 w9.heap.size _ _ hla hln (Nat.le_refl _))
        have HSM2 := Lib.hid (fun W (hW : Below w9.heap.size w9 W) => HSAME.out W w9.heap.size _ _ (hlb.below hW (Nat.le_refl _)) (hln.below hW (Nat.le_refl _)) hW.size)
        have HW9 := Lib.hid hw9
        have hb9w := hbw.trans (hr9.mono hbw.size)
        clear hl5 hl7 hla hlb hln HSAME HIB hk6 hb7 hr6 hr7 hr8 hb6w hw9 h79 hz4 hz7 hz9 HLSW
        have p0 := hk8.cell 0
        have p1 := hk8.cell 1
        have p2 := hk8.cell 2
        have p3 := hk8.cell 3
        have p4 := hk8.cell 4
        have p5 := hk8.cell 5
        have p6 := hk8.cell 6
        have p7 := hk8.cell 7
        have p8 := hk8.cell 8
        have q0 := hm8.cell 0
        have q1 := hm8.cell 1
        have q2 := hm8.cell 2
        have q3 := hm8.cell 3
        have q4 := hm8.cell 4
        have q5 := hm8.cell 5
        have q6 := hm8.cell 6
        have q7 := hm8.cell 7
        have q8 := hm8.cell 8
        have s0 := hn8.cell 0
        have s1 := hn8.cell 1
        have s2 := hn8.cell 2
        have s3 := hn8.cell 3
        have s4 := hn8.cell 4
        have s5 := hn8.cell 5
        have s6 := hn8.cell 6
        have s7 := hn8.cell 7
        have s8 := hn8.cell 8
        go_upto_region 16 with (fail)
        rw [HW9.out]
        go_wp2_with fail
        refine HSM1.out.mono ?_
        rintro x w10 ⟨rfl, hb10⟩
        have hb10w := hb9w.trans (hb10.mono hb9w.size)
        have hk10 := hk8.below hb10 hk8.lt
        have hm10 := hm8.below hb10 hm8.lt
        have hn10 := hn8.below hb10 hn8.lt
        have HSM3 := Lib.hid (HSM2.out _ hb10)
        clear HSM1 HSM2 hk8 hm8 hn8 hb10 hb9w
        clear p0 p1 p2 p3 p4 p5 p6 p7 p8 q0 q1 q2 q3 q4 q5 q6 q7 q8 s0 s1 s2 s3 s4 s5 s6 s7 s8
        have p0 := hm10.cell 0
        have p1 := hm10.cell 1
        have p2 := hm10.cell 2
        have p3 := hm10.cell 3
        have p4 := hm10.cell 4
        have p5 := hm10.cell 5
        have p6 := hm10.cell 6
        have p7 := hm10.cell 7
        have p8 := hm10.cell 8
        have s0 := hn10.cell 0
        have s1 := hn10.cell 1
        have s2 := hn10.cell 2
        have s3 := hn10.cell 3
        have s4 := hn10.cell 4
        have s5 := hn10.cell 5
        have s6 := hn10.cell 6
        have s7 := hn10.cell 7
        have s8 := hn10.cell 8
        go_wp2_with fail
        refine HSM3.out.mono ?_
        rintro x w11 ⟨rfl, hb11⟩
        have hb12 := hb10w.trans (hb11.mono hb10w.size)
        go_wp2_with fail
        go_ret
        exact ⟨rfl, hb12⟩
      · rw [if_neg hdp] at hia hib
        simp only [hia] at HIA
        simp only [hib] at HIB
        have HIA : Hid (∀ W, Below w.heap.size w W → Calls Tryz.prog 14 #[.string (hd ++ al)] W fun x w' => Below W.heap.size W w' ∧ x = .returned (.tuple #[zeroN, .string (hd ++ al), .int .i64 60]) ∧ (60 : Int) ≠ 0) := Lib.hid HIA
        have HIB : Hid (∀ W, Below w.heap.size w W → Calls Tryz.prog 14 #[.string (⟨#[159]⟩ ++ al ++ ⟨#[255]⟩)] W fun x w' => Below W.heap.size W w' ∧ x = .returned (.tuple #[zeroN, .string (⟨#[159]⟩ ++ al ++ ⟨#[255]⟩), .int .i64 60]) ∧ (60 : Int) ≠ 0) := Lib.hid HIB
        have HDP := Lib.hid (fun W (hb : Below wr.heap.size wr W) => (show Calls Tryz.prog 17 #[.agg #[.int .i64 7, .bool false, .bool false, .string ⟨#[]⟩, .int .i64 0, .int .u64 0, .int .i64 0, .string ⟨#[]⟩, (.slice A' m c')]] W fun e w' => e = .returned (.int .i64 ((listT 7 L).depth : Nat)) ∧ Below W.heap.size W w' from ref_Depth 17 (listT 7 L) (Value.slice A' m c') W wr.heap.size (hls.below hb (Nat.le_refl _)) hb.size hcnn))
        obtain ⟨dp, hdpE⟩ : ∃ dp, (listT 7 L).depth = dp := ⟨_, rfl⟩
        rw [hdpE] at HDP
        have y5 : (dp : Int) > 16 := by
          rw [Tr.depth_eq] at hdpE
          have : depthL L + 1 = dp := hdpE
          omega
        rw [zeroN_eq] at HIA HIB
        clear hia hib hls hdp hcn hcnn hm hL hdpE
        go_wp2_with fail
        refine (HMK1.out _).mono ?_
        rintro x w4 ⟨rfl, hb4⟩
        have hb4w := hbw.trans (hb4.mono hbw.size)
        clear HMK1
        go_wp2_with fail
        refine (HIA.out _ hb4w).mono ?_
        rintro x w5 ⟨hb5, rfl, _⟩
        have hr5 := hb4.trans (hb5.mono hb4.size)
        have hr6 := hr5.alloc hr5.size (.cells #[.int .i64 0, .bool false, .bool false, .string ⟨#[]⟩, .int .i64 0, .int .u64 0, .int .i64 0, .string ⟨#[]⟩, .slice none 0 0] 28)
        have hb6w := hbw.trans (hr6.mono hbw.size)
        clear HIA hb4 hb4w hr5 hb5
        go_wp2_with fail
        refine (HIB.out _ hb6w).mono ?_
        rintro x w7 ⟨hb7, rfl, _⟩
        have hr7 := hr6.trans (hb7.mono hr6.size)
        have hr8 := hr7.alloc hr7.size (.cells #[.int .i64 0, .bool false, .bool false, .string ⟨#[]⟩, .int .i64 0, .int .u64 0, .int .i64 0, .string ⟨#[]⟩, .slice none 0 0] 28)
        have hr9 := hr8.alloc hr8.size (.cells #[.int .i64 7, .bool false, .bool false, .string ⟨#[]⟩, .int .i64 0, .int .u64 0, .int .i64 0, .string ⟨#[]⟩, (.slice A' m c')] 28)
        have hn8 := Blk.new (w7.alloc (.cells #[.int .i64 0, .bool false, .bool false, .string ⟨#[]⟩, .int .i64 0, .int .u64 0, .int .i64 0, .string ⟨#[]⟩, .slice none 0 0] 28)) #[.int .i64 7, .bool false, .bool false, .string ⟨#[]⟩, .int .i64 0, .int .u64 0, .int .i64 0, .string ⟨#[]⟩, (.slice A' m c')] 28
        obtain ⟨w9, hw9⟩ : ∃ w9, (w7.alloc (.cells #[.int .i64 0, .bool false, .bool false, .string ⟨#[]⟩, .int .i64 0, .int .u64 0, .int .i64 0, .string ⟨#[]⟩, .slice none 0 0] 28)).alloc (.cells #[.int .i64 7, .bool false, .bool false, .string ⟨#[]⟩, .int .i64 0, .int .u64 0, .int .i64 0, .string ⟨#[]⟩, (.slice A' m c')] 28) = w9 := ⟨_, rfl⟩
        rw [World.size_alloc] at hn8
        rw [hw9] at hr9 hn8
        have HD := Lib.hid (HDP.out _ hr9)
        have HW9 := Lib.hid hw9
        have hb9w := hbw.trans (hr9.mono hbw.size)
        clear HIB hb7 hr6 hr7 hr8 hb6w hw9 HDP
        have s0 := hn8.cell 0
        have s1 := hn8.cell 1
        have s2 := hn8.cell 2
        have s3 := hn8.cell 3
        have s4 := hn8.cell 4
        have s5 := hn8.cell 5
        have s6 := hn8.cell 6
        have s7 := hn8.cell 7
        have s8 := hn8.cell 8
        go_upto_region 16 with (fail)
        rw [HW9.out]
        go_wp2_with fail
        refine HD.out.mono ?_
        rintro x w10 ⟨rfl, hb10⟩
        have hb10w := hb9w.trans (hb10.mono hb9w.size)
        clear HD hb10
        go_wp2_with fail
        go_ret
        exact ⟨rfl, hb10w⟩
end Go.Proofs.YtflkmhgbinlfiaaGreatDoor
