/- The texts UtfIs, GateY, HeadA, put together. -/
import Derived.Test.YtffaefdnlgfdbaaGreatDoorChecked
import Derived.WalkKit
import Derived.LaidEql
import Derived.Stop.Asserts
import Derived.RowKitTokens
import Derived.Test.YtffaefdnlgfdbaaGreatDoorPk29
import Derived.Test.YtffaefdnlgfdbaaGreatDoorPk33
import Derived.Test.YtffaefdnlgfdbaaGreatDoorPk01
/- errors.Is at a sentinel, by its contracts (after the guide's worked text for its own program). -/
namespace Go.Proofs.YtffaefdnlgfdbaaGreatDoor
open Go.RowKit Go.Stop Go.Extern

theorem isTypeOf (v : Value) (w : World) : (callFunc 37 #[.iface 197 v]).run Tryz.prog w = .ok (.value (.iface 94 (.agg #[.pointer (some ⟨Tryz.prog.globals.size, 197, none⟩)]))) w := by
  rw [@run_callFunc_extern Tryz.prog 37 _ Extern.ReflectliteType.typeOf Tryz.func37 (by kernel_rfl) (by kernel_rfl) (by kernel_rfl) (by kernel_rfl)]
  kernel_rfl
theorem isComparable (w : World) : (callFunc 206 #[.agg #[.pointer (some ⟨Tryz.prog.globals.size, 197, none⟩)]]).run Tryz.prog w = .ok (.value (.bool true)) w := by
  rw [@run_callFunc_extern Tryz.prog 206 _ (Extern.ReflectliteType.method fun t => do Extern.Rtype.noPackHeld "Comparable" t; pure (.bool (← typeInfo t).comparable)) Tryz.func206 (by kernel_rfl) (by kernel_rfl) (by kernel_rfl) (by kernel_rfl)]
  kernel_rfl
theorem isMethodComparable (n : Nat) (v : Value) (w : World) : (Go.method (n + 1) 94 v "Comparable").run Tryz.prog w = .ok (206, v) w := by kernel_rfl
theorem isComp : (Tryz.prog.info? 197).map (·.comparable) = some true := by kernel_rfl
theorem isSize : (Tryz.prog.info? 199).map (·.size) = some 1 := by kernel_rfl
theorem noIsE (v : Value) (xT : TypeId) (w : World) : (Instr.typeAssert (.iface 197 v) xT 96 true).run Tryz.prog w = .ok (.tuple #[.nilIface, .bool false]) w := run_typeAssert_lacksB Tryz.underlying96 (by kernel_rfl) (by kernel_rfl) v xT w
theorem noUnwrapE (v : Value) (xT : TypeId) (w : World) : (Instr.typeAssert (.iface 197 v) xT 99 true).run Tryz.prog w = .ok (.tuple #[.nilIface, .bool false]) w := run_typeAssert_lacksB Tryz.underlying99 (by kernel_rfl) (by kernel_rfl) v xT w
theorem noUnwrapsE (v : Value) (xT : TypeId) (w : World) : (Instr.typeAssert (.iface 197 v) xT 101 true).run Tryz.prog w = .ok (.tuple #[.nilIface, .bool false]) w := run_typeAssert_lacksB Tryz.underlying101 (by kernel_rfl) (by kernel_rfl) v xT w

set_option maxRecDepth 100000 in
/-- errors.Is(x, x), x a pointer to an errors.errorString. -/
theorem is_same (a : Addr) (w : World) :
    Calls Tryz.prog 24 #[.iface 197 (.pointer (some a)), .iface 197 (.pointer (some a))] w fun e w' => e = .returned (.bool true) ∧ w' = w := by
  obtain ⟨i, hi, hcmp⟩ := Option.map_eq_some_iff.1 isComp
  obtain ⟨j, hj, hjs⟩ := Option.map_eq_some_iff.1 isSize
  have tT := isTypeOf
  have cT := isComparable
  have mR := isMethodComparable
  obtain ⟨G, hG⟩ : ∃ G, Tryz.prog.globals.size = G := ⟨_, rfl⟩
  rw [hG] at tT cT
  clear hG
  have heq := run_eql_iface_ptr_same (P := Tryz.prog) w a Tryz.underlying45 Tryz.underlying197 hi hcmp hj
  go_enter Tryz.func24, Tryz.ntmps24
  go_wp2
  refine wp_loop_rounds 1 ?_
  rw [rounds_succ]
  go_wp2
  go_ret
  exact ⟨rfl, rfl⟩

/-- errors.Is(nil, x). -/
theorem is_nil (b : Addr) (w : World) :
    Calls Tryz.prog 24 #[.nilIface, .iface 197 (.pointer (some b))] w fun e w' => e = .returned (.bool false) ∧ w' = w := by
  have hn := run_eql_iface_nil_left (P := Tryz.prog) w 197 (.pointer (some b)) Tryz.underlying45
  go_enter Tryz.func24, Tryz.ntmps24
  go_wp2
  go_ret
  exact ⟨rfl, rfl⟩

set_option maxRecDepth 100000 in
/-- errors.Is(x, y), two sentinels. -/
theorem is_other (a b : Addr) (ca cb : Array Value) (ta tb : TypeId) (w : World) (hne : a ≠ b) (ha : w.heap[a.block]? = some (.cells ca ta (0, 0))) (hb : w.heap[b.block]? = some (.cells cb tb (0, 0))) :
    Calls Tryz.prog 24 #[.iface 197 (.pointer (some a)), .iface 197 (.pointer (some b))] w fun e w' => e = .returned (.bool false) ∧ w' = w := by
  obtain ⟨i, hi, hcmp⟩ := Option.map_eq_some_iff.1 isComp
  obtain ⟨j, hj, hjs⟩ := Option.map_eq_some_iff.1 isSize
  have tT := isTypeOf
  have cT := isComparable
  have mR := isMethodComparable
  obtain ⟨G, hG⟩ : ∃ G, Tryz.prog.globals.size = G := ⟨_, rfl⟩
  rw [hG] at tT cT
  clear hG
  have nE := noIsE
  have uE := noUnwrapE
  have vE := noUnwrapsE
  have heq := run_eql_iface_ptr_other (P := Tryz.prog) w Tryz.underlying45 Tryz.underlying197 hi hcmp hj (by rw [hjs]; decide) hne ha hb
  go_enter Tryz.func24, Tryz.ntmps24
  go_wp2
  refine wp_loop_rounds 1 ?_
  rw [rounds_succ]
  go_wp2
  go_ret
  exact ⟨rfl, rfl⟩
end Go.Proofs.YtffaefdnlgfdbaaGreatDoor
/- tree: Check, at any form whose nodes' check is known; at the forms of CBOR and of JSON. -/
namespace Go.Proofs.YtffaefdnlgfdbaaGreatDoor
open Go.RowKit Go.Shelf

theorem check_cases (f : Int) (fl : Own → Bool) (t : Tr) : checkT f fl t = 0 ∨ checkT f fl t = 60 ∨ checkT f fl t = 61 := by
  unfold checkT
  split
  · split
    · exact .inl rfl
    · exact .inr (.inr rfl)
  · exact .inr (.inl rfl)

set_option maxHeartbeats 4000000 in
set_option maxRecDepth 100000 in
theorem tree_Check {aT aF : Addr} (f : Int) (fl : Own → Bool) (hfits : FitsC aT aF f fl) (t : Tr) (x : Value) (w : World) (B d : Nat) (hl : ListAt w B d t.kids x) (ho : OwnOk t.own) (hB : B ≤ w.heap.size) (hc : t.count ≤ 1000000000) (h : GW w aT aF) :
    Calls Tryz.prog 18 #[nodeV t.own x, .int .i64 f] w fun e w' => e = .returned (.int .i64 (checkT f fl t)) ∧ Below w.heap.size w w' := by
  have hb1 : Below w.heap.size w (w.alloc (.cells (cellsV t.own x) 27)) := (Below.refl _ _).alloc (Nat.le_refl _) _
  have hk1 := Blk.new w (cellsV t.own x) 27
  have HC := tree_checked f fl hfits t x _ B d (hl.below hb1 hB) ho (Nat.le_trans hB hb1.size) hc (h.below hb1)
  have hcs := check_cases f fl t
  obtain ⟨ck, hck⟩ : ∃ ck, checkT f fl t = ck := ⟨_, rfl⟩
  rw [hck] at HC hcs ⊢
  obtain ⟨_, A, c, rfl⟩ := hl.slice
  obtain ⟨n, hn⟩ : ∃ n, t.kids.length = n := ⟨_, rfl⟩
  obtain ⟨⟨kind, b, neg, dg, ex, u, wd, s⟩, ho'⟩ : ∃ o, t.own = o := ⟨_, rfl⟩
  rw [ho', hn] at HC hk1 hb1 ⊢
  unfold nodeV at HC ⊢
  unfold cellsV at HC hk1 hb1
  simp only [] at HC hk1 hb1 ⊢
  have HC := Lib.hid HC
  have z0 := hk1.cell 0
  have z1 := hk1.cell 1
  have z2 := hk1.cell 2
  have z3 := hk1.cell 3
  have z4 := hk1.cell 4
  have z5 := hk1.cell 5
  have z6 := hk1.cell 6
  have z7 := hk1.cell 7
  have z8 := hk1.cell 8
  have HG := Lib.hid h
  clear hl ho hc hck ho' hn hk1 h hfits
  go_enter Tryz.func18, Tryz.ntmps18
  go_wp2_with fail
  refine HC.out.mono ?_
  rintro e w2 ⟨rfl, hb⟩
  have hb3 := hb1.trans (hb.mono hb1.size)
  have G := HG.out.below hb3
  have hgT := G.hT
  have hgF := G.hF
  obtain ⟨cT, tT, eT⟩ := G.bT
  obtain ⟨cF, tF, eF⟩ := G.bF
  have H1 := Lib.hid (is_nil aT w2)
  have H2 := Lib.hid (is_nil aF w2)
  have H3 := Lib.hid (is_same aT w2)
  have H4 := Lib.hid (is_same aF w2)
  have H5 := Lib.hid (is_other aF aT cF cT tF tT w2 G.ne.symm eF eT)
  clear z0 z1 z2 z3 z4 z5 z6 z7 z8 hb hb1 HC G eT eF
  rcases hcs with rfl | rfl | rfl
  · have he : errR aT aF 0 = .nilIface := rfl
    rw [he]
    clear he
    go_wp2_with fail
    refine H1.out.mono ?_
    rintro e w3 ⟨rfl, rfl⟩
    go_wp2_with fail
    refine H2.out.mono ?_
    rintro e w3 ⟨rfl, rfl⟩
    go_wp2_with fail
    go_ret
    exact ⟨rfl, hb3⟩
  · have he : errR aT aF 60 = errP aT := rfl
    rw [he]
    clear he
    go_wp2_with fail
    refine H3.out.mono ?_
    rintro e w3 ⟨rfl, rfl⟩
    go_wp2_with fail
    go_ret
    exact ⟨rfl, hb3⟩
  · have he : errR aT aF 61 = errP aF := rfl
    rw [he]
    clear he
    go_wp2_with fail
    refine H5.out.mono ?_
    rintro e w3 ⟨rfl, rfl⟩
    go_wp2_with fail
    refine H4.out.mono ?_
    rintro e w3 ⟨rfl, rfl⟩
    go_wp2_with fail
    go_ret
    exact ⟨rfl, hb3⟩

theorem fits_at_C (aT aF : Addr) : FitsC aT aF 2 flC := fun o l A n c w B d hl hB hn hc ho h => fits_C o l A n c w B d hl hB hn hc ho h
theorem fits_at_J (aT aF : Addr) : FitsC aT aF 1 flJ := fun o l A n c w B d hl hB hn hc ho h => fits_J o l A n c w B d hl hB hn hc ho h
end Go.Proofs.YtffaefdnlgfdbaaGreatDoor
/- The walks of package head: sizes, fitting, least. -/
namespace Go.Proofs.YtffaefdnlgfdbaaGreatDoor
open Go.RowKit Go.Shelf

theorem head_sizes (w : World) :
    Calls Tryz.prog 165 #[] w fun e w' => e = .returned (.agg #[.int .i64 24, .int .i64 1, .int .i64 25, .int .i64 2, .int .i64 26, .int .i64 4, .int .i64 27, .int .i64 8]) ∧ Below w.heap.size w w' := by
  go_enter Tryz.func165, Tryz.ntmps165
  go_wp2
  exact bodyPost_ret (v := .agg #[.int .i64 24, .int .i64 1, .int .i64 25, .int .i64 2, .int .i64 26, .int .i64 4, .int .i64 27, .int .i64 8]) (by simp [results, Tryz.results165, go_sem]) rfl ⟨rfl, (Below.refl _ _).alloc (Nat.le_refl _) _⟩

theorem head_fitting (n : Int) (w : World) :
    Calls Tryz.prog 156 #[.int .u64 n] w fun e w' => e = .returned (.func (.func 164) #[] #[.pointer (some ⟨w.heap.size, 0, none⟩)]) ∧ w.alloc (.cells #[.int .u64 n] 24) = w' := by
  go_enter Tryz.func156, Tryz.ntmps156
  go_wp2
  go_ret
  exact ⟨rfl, rfl⟩

attribute [local go_sem] Oper.semAt_some
attribute [local go_sem] wide_fn wide_depth

/-- The sizes, and which of them have room for n. -/
def sizeList : List (Int × Int) := [(24, 1), (25, 2), (26, 4), (27, 8)]
def fitsB (n : Int) (s : Int × Int) : Bool := decide (8 ≤ s.2) || decide (n < 2 ^ (8 * s.2.toNat))
def fitsTo (n : Int) (k : Nat) : List (Int × Int) := (sizeList.take k).filter (fitsB n)

theorem fitsTo_1 {n : Int} (h : n < 256) : fitsTo n 1 = fitsTo n 0 ++ [(24, 1)] := by simp [fitsTo, sizeList, fitsB, List.filter, h]
theorem fitsTo_1n {n : Int} (h : ¬ n < 256) : fitsTo n 1 = fitsTo n 0 := by simp [fitsTo, sizeList, fitsB, List.filter, h]
theorem fitsTo_2 {n : Int} (h : n < 65536) : fitsTo n 2 = fitsTo n 1 ++ [(25, 2)] := by
  by_cases h1 : n < 256 <;> simp [fitsTo, sizeList, fitsB, List.filter, h, h1]
theorem fitsTo_2n {n : Int} (h : ¬ n < 65536) : fitsTo n 2 = fitsTo n 1 := by
  by_cases h1 : n < 256 <;> simp [fitsTo, sizeList, fitsB, List.filter, h, h1]
theorem fitsTo_3 {n : Int} (h : n < 4294967296) : fitsTo n 3 = fitsTo n 2 ++ [(26, 4)] := by
  by_cases h1 : n < 256 <;> by_cases h2 : n < 65536 <;> simp [fitsTo, sizeList, fitsB, List.filter, h, h1, h2]
theorem fitsTo_3n {n : Int} (h : ¬ n < 4294967296) : fitsTo n 3 = fitsTo n 2 := by
  by_cases h1 : n < 256 <;> by_cases h2 : n < 65536 <;> simp [fitsTo, sizeList, fitsB, List.filter, h, h1, h2]
theorem fitsTo_4 (n : Int) : fitsTo n 4 = fitsTo n 3 ++ [(27, 8)] := by
  by_cases h1 : n < 256 <;> by_cases h2 : n < 65536 <;> by_cases h3 : n < 4294967296 <;> simp [fitsTo, sizeList, fitsB, List.filter, h1, h2, h3]
theorem fitsTo_le (n : Int) (k : Nat) (h : k ≤ 4) : fitsTo n k <+: fitsTo n 4 := by
  unfold fitsTo
  exact (List.take_prefix_take_left h).filter _
theorem fitsTo_len (n : Int) (k : Nat) : (fitsTo n k).length ≤ k := Nat.le_trans (List.length_filter_le _ _) (List.length_take_le _ _)

theorem szA0 (w : World) : (Instr.index 194 (.agg #[.int .i64 24, .int .i64 1, .int .i64 25, .int .i64 2, .int .i64 26, .int .i64 4, .int .i64 27, .int .i64 8]) (.int .i64 0)).run Tryz.prog w = .ok (.agg #[.int .i64 24, .int .i64 1]) w := by kernel_rfl
theorem szA1 (w : World) : (Instr.index 194 (.agg #[.int .i64 24, .int .i64 1, .int .i64 25, .int .i64 2, .int .i64 26, .int .i64 4, .int .i64 27, .int .i64 8]) (.int .i64 1)).run Tryz.prog w = .ok (.agg #[.int .i64 25, .int .i64 2]) w := by kernel_rfl
theorem szA2 (w : World) : (Instr.index 194 (.agg #[.int .i64 24, .int .i64 1, .int .i64 25, .int .i64 2, .int .i64 26, .int .i64 4, .int .i64 27, .int .i64 8]) (.int .i64 2)).run Tryz.prog w = .ok (.agg #[.int .i64 26, .int .i64 4]) w := by kernel_rfl
theorem szA3 (w : World) : (Instr.index 194 (.agg #[.int .i64 24, .int .i64 1, .int .i64 25, .int .i64 2, .int .i64 26, .int .i64 4, .int .i64 27, .int .i64 8]) (.int .i64 3)).run Tryz.prog w = .ok (.agg #[.int .i64 27, .int .i64 8]) w := by kernel_rfl

set_option maxRecDepth 100000 in
set_option maxHeartbeats 1000000 in
theorem head_fitting1 (m l Bn n₀ : Nat) (n : Int) (h0n : 0 ≤ n) (hn64 : n < 18446744073709551616) (J Jx : List (Int × Int) → World → Prop)
    (hJ : ∀ s (A B : World), J s A → A.grownBy B none → J s B)
    (hY : ∀ pre x W, J pre W → pre.length < 4 → YieldAt Fence.wide (m - 1) Tryz.prog l #[.agg #[.int .i64 x.1, .int .i64 x.2]] W fun e W' =>
      (e = .returned (.bool true) ∧ J (pre ++ [x]) W' ∧ Below n₀ W W') ∨ (e = .returned (.bool false) ∧ Jx (pre ++ [x]) W'))
    (W : World) (hb : Bn < n₀) (hn₀ : n₀ ≤ W.heap.size) (hBn : W.cell? ⟨Bn, 0, none⟩ = some (.int .u64 n)) (h0 : J [] W) :
    CallsIn Fence.wide m Tryz.prog 164 #[.func (.yield l) #[] #[], .pointer (some ⟨Bn, 0, none⟩)] W fun e W' => (∃ v, e = .returned v) ∧
      ((∃ ys, ys = fitsTo n 4 ∧ J ys W') ∨ (∃ pre, pre <+: fitsTo n 4 ∧ Jx pre W')) := by
  have i0 := szA0
  have i1 := szA1
  have i2 := szA2
  have i3 := szA3
  refine callsIn_of_wp Tryz.func164 rfl trivial ?_ rfl
  simp only [Tryz.ntmps164, List.size_toArray, List.length_cons, List.length_nil, Nat.reduceAdd, Nat.reduceSub, Array.replicate_succ, Array.replicate_zero, List.push_toArray, List.append_toArray, List.nil_append, List.cons_append]
  gi_wp2_with (gi_at_call 165; refine (callsIn_wide.2 (head_sizes _)).mono ?_; rintro e w1 ⟨rfl, hb1⟩)
  gi_loopw [6] (fun i wr => ∃ k : Nat, k ≤ 4 ∧ i = .int .i64 k ∧ J (fitsTo n k) wr ∧ wr.cell? ⟨Bn, 0, none⟩ = some (.int .u64 n)) (fun i _ => 4 - (intOf i).toNat)
  case atStart => exact ⟨0, by omega, rfl, hJ _ _ _ h0 ⟨hb1.os, hb1.tape, hb1.output, hb1.size, fun k hk _ => hb1.block k hk⟩, (hb1.cell (p := ⟨Bn, 0, none⟩) (by simp; omega)).trans hBn⟩
  case round =>
    obtain ⟨k, hk, rfl, hj, hc⟩ := hrel
    by_cases hlt : k < 4
    · have hBw : Bn < wr.heap.size := by
        unfold World.cell? at hc
        rcases Nat.lt_or_ge Bn wr.heap.size with h | h
        · exact h
        · simp [Array.getElem?_eq_none h] at hc
      have hca : ∀ o, (wr.alloc o).cell? ⟨Bn, 0, none⟩ = some (.int .u64 n) := fun o => by
        rw [← hc]; exact World.cell?_of_block (Below.heap_alloc wr o Bn hBw)
      have hja : ∀ o, J (fitsTo n k) (wr.alloc o) := fun o => hJ _ _ _ hj (World.grownBy_alloc wr o none)
      obtain rfl | rfl | rfl | rfl : k = 0 ∨ k = 1 ∨ k = 2 ∨ k = 3 := by omega
      · by_cases hf : n < 256
        · have hb0 : (n / 256 != 0) = false := by rw [bne_eq_false_iff_eq]; omega
          obtain ⟨fn, tmps, assign, body, hy, hR⟩ := hY (fitsTo n 0) (24, 1) _ (hja (Obj.cells #[Value.int IntKind.i64 24, Value.int IntKind.i64 1] 164)) (Nat.lt_of_le_of_lt (fitsTo_len _ _) (by decide))
          gi_wp2
          refine hR.mono ?_
          rintro e W3 (⟨rfl, hJ3, hk3⟩ | ⟨rfl, hJx3⟩)
          · gi_wp2
            go_roundw
            case rel => exact ⟨1, by omega, rfl, by rw [fitsTo_1 hf]; exact hJ3, (hk3.cell (p := ⟨Bn, 0, none⟩) hb).trans (hca _)⟩
            case measure => simp [intOf]
          · gi_wp2
            refine bodyPost_ret (results_none rfl _ _ _) rfl ?_
            exact ⟨⟨_, rfl⟩, .inr ⟨_, by rw [← fitsTo_1 hf]; exact fitsTo_le _ _ (by omega), hJx3⟩⟩
        · have hb0 : (n / 256 != 0) = true := by rw [bne_iff_ne]; omega
          gi_wp2
          go_roundw
          case rel => exact ⟨1, by omega, rfl, by rw [fitsTo_1n hf]; exact hja _, hca _⟩
          case measure => simp [intOf]
      · by_cases hf : n < 65536
        · have hb0 : (n / 65536 != 0) = false := by rw [bne_eq_false_iff_eq]; omega
          obtain ⟨fn, tmps, assign, body, hy, hR⟩ := hY (fitsTo n 1) (25, 2) _ (hja (Obj.cells #[Value.int IntKind.i64 25, Value.int IntKind.i64 2] 164)) (Nat.lt_of_le_of_lt (fitsTo_len _ _) (by decide))
          gi_wp2
          refine hR.mono ?_
          rintro e W3 (⟨rfl, hJ3, hk3⟩ | ⟨rfl, hJx3⟩)
          · gi_wp2
            go_roundw
            case rel => exact ⟨2, by omega, rfl, by rw [fitsTo_2 hf]; exact hJ3, (hk3.cell (p := ⟨Bn, 0, none⟩) hb).trans (hca _)⟩
            case measure => simp [intOf]
          · gi_wp2
            refine bodyPost_ret (results_none rfl _ _ _) rfl ?_
            exact ⟨⟨_, rfl⟩, .inr ⟨_, by rw [← fitsTo_2 hf]; exact fitsTo_le _ _ (by omega), hJx3⟩⟩
        · have hb0 : (n / 65536 != 0) = true := by rw [bne_iff_ne]; omega
          gi_wp2
          go_roundw
          case rel => exact ⟨2, by omega, rfl, by rw [fitsTo_2n hf]; exact hja _, hca _⟩
          case measure => simp [intOf]
      · by_cases hf : n < 4294967296
        · have hb0 : (n / 4294967296 != 0) = false := by rw [bne_eq_false_iff_eq]; omega
          obtain ⟨fn, tmps, assign, body, hy, hR⟩ := hY (fitsTo n 2) (26, 4) _ (hja (Obj.cells #[Value.int IntKind.i64 26, Value.int IntKind.i64 4] 164)) (Nat.lt_of_le_of_lt (fitsTo_len _ _) (by decide))
          gi_wp2
          refine hR.mono ?_
          rintro e W3 (⟨rfl, hJ3, hk3⟩ | ⟨rfl, hJx3⟩)
          · gi_wp2
            go_roundw
            case rel => exact ⟨3, by omega, rfl, by rw [fitsTo_3 hf]; exact hJ3, (hk3.cell (p := ⟨Bn, 0, none⟩) hb).trans (hca _)⟩
            case measure => simp [intOf]
          · gi_wp2
            refine bodyPost_ret (results_none rfl _ _ _) rfl ?_
            exact ⟨⟨_, rfl⟩, .inr ⟨_, by rw [← fitsTo_3 hf]; exact fitsTo_le _ _ (by omega), hJx3⟩⟩
        · have hb0 : (n / 4294967296 != 0) = true := by rw [bne_iff_ne]; omega
          gi_wp2
          go_roundw
          case rel => exact ⟨3, by omega, rfl, by rw [fitsTo_3n hf]; exact hja _, hca _⟩
          case measure => simp [intOf]
      · have _i := i3
        obtain ⟨fn, tmps, assign, body, hy, hR⟩ := hY (fitsTo n 3) (27, 8) _ (hja (Obj.cells #[Value.int IntKind.i64 27, Value.int IntKind.i64 8] 164)) (Nat.lt_of_le_of_lt (fitsTo_len _ _) (by decide))
        gi_wp2
        refine hR.mono ?_
        rintro e W3 (⟨rfl, hJ3, hk3⟩ | ⟨rfl, hJx3⟩)
        · gi_wp2
          go_roundw
          case rel => exact ⟨4, by omega, rfl, by rw [fitsTo_4]; exact hJ3, (hk3.cell (p := ⟨Bn, 0, none⟩) hb).trans (hca _)⟩
          case measure => simp [intOf]
        · gi_wp2
          refine bodyPost_ret (results_none rfl _ _ _) rfl ?_
          exact ⟨⟨_, rfl⟩, .inr ⟨_, by rw [← fitsTo_4]; exact fitsTo_le _ _ (by omega), hJx3⟩⟩
    · obtain rfl : k = 4 := by omega
      gi_wp2
      go_end0
      exact ⟨⟨_, rfl⟩, .inl ⟨_, rfl, hj⟩⟩

/-- What fitting hands back, as an iterator. -/
theorem head_fitting_stops (m Bn n₀ : Nat) (n : Int) (h0n : 0 ≤ n) (hn64 : n < 18446744073709551616) (w : World) (hb : Bn < n₀) (hn₀ : n₀ ≤ w.heap.size) (hc : w.cell? ⟨Bn, 0, none⟩ = some (.int .u64 n)) :
    SeqStopsK Fence.wide m Tryz.prog 164 #[.pointer (some ⟨Bn, 0, none⟩)] (fun x : Int × Int => #[Value.agg #[.int .i64 x.1, .int .i64 x.2]]) (Below n₀) (fun ys => ys = fitsTo n 4) (fun pre => pre <+: fitsTo n 4) 4 w := fun l J Jx W hW hJ _ hY h0 =>
  head_fitting1 m l Bn n₀ n h0n hn64 J Jx (fun s A B hs hg => hJ s A B none hs hg (fun r e => by cases e)) hY W hb (Nat.le_trans hn₀ hW.size) ((hW.cell (p := ⟨Bn, 0, none⟩) (by simp; omega)).trans hc) h0

end Go.Proofs.YtffaefdnlgfdbaaGreatDoor
