/- The texts UtfIs, GateY, put together. -/
import Derived.Test.YtffaefdnlgfdbaaGreatDoorChecked
import Derived.WalkKit
import Derived.LaidEql
import Derived.Stop.Asserts
import Derived.RowKitTokens
import Derived.Test.YtffaefdnlgfdbaaGreatDoorPk25
import Derived.Test.YtffaefdnlgfdbaaGreatDoorPk30
/- errors.Is at a sentinel, by its contracts (after the guide's worked text for its own program). -/
namespace Go.Proofs.YtffaefdnlgfdbaaGreatDoor
open Go.RowKit Go.Stop Go.Extern

theorem isTypeOf (v : Value) (w : World) : (callFunc 37 #[.iface 197 v]).run Tryz.prog w = .ok (.value (.iface 94 (.agg #[.pointer (some ⟨Tryz.prog.globals.size, 197, none⟩)]))) w := by
  rw [@run_callFunc_extern Tryz.prog 37 _ Extern.ReflectliteType.typeOf Tryz.func37 (by kernel_rfl) (by kernel_rfl) (by kernel_rfl) (by kernel_rfl)]
  kernel_rfl
theorem isComparable (w : World) : (callFunc 206 #[.agg #[.pointer (some ⟨Tryz.prog.globals.size, 197, none⟩)]]).run Tryz.prog w = .ok (.value (.bool true)) w := by
  rw [@run_callFunc_extern Tryz.prog 206 _ (Extern.ReflectliteType.method fun t => do Extern.Rtype.noPackHeld "Comparable" t; pure (.bool (← typeInfo t).comparable)) Tryz.func206 (by kernel_rfl) (by kernel_rfl) (by kernel_rfl) (by kernel_rfl)]
  kernel_rfl
theorem isMethodComparable (n : Nat) (v : Value) (w : World) : (Go.method (n + 1) 94 v "Comparable").run Tryz.prog w = .ok (206, v) w := by kernel_rfl
theorem isComp : (Tryz.prog.info? 197).map (·.comparable) = some true := by kernel_rfl
theorem isSize : (Tryz.prog.info? 199).map (·.size) = some 1 := by kernel_rfl
theorem noIsE (v : Value) (xT : TypeId) (w : World) : (Instr.typeAssert (.iface 197 v) xT 96 true).run Tryz.prog w = .ok (.tuple #[.nilIface, .bool false]) w := run_typeAssert_lacksB Tryz.underlying96 (by kernel_rfl) (by kernel_rfl) v xT w
theorem noUnwrapE (v : Value) (xT : TypeId) (w : World) : (Instr.typeAssert (.iface 197 v) xT 99 true).run Tryz.prog w = .ok (.tuple #[.nilIface, .bool false]) w := run_typeAssert_lacksB Tryz.underlying99 (by kernel_rfl) (by kernel_rfl) v xT w
theorem noUnwrapsE (v : Value) (xT : TypeId) (w : World) : (Instr.typeAssert (.iface 197 v) xT 101 true).run Tryz.prog w = .ok (.tuple #[.nilIface, .bool false]) w := run_typeAssert_lacksB Tryz.underlying101 (by kernel_rfl) (by kernel_rfl) v xT w

set_option maxRecDepth 100000 in
/-- errors.Is(x, x), x a pointer to an errors.errorString. -/
theorem is_same (a : Addr) (w : World) :
    Calls Tryz.prog 24 #[.iface 197 (.pointer (some a)), .iface 197 (.pointer (some a))] w fun e w' => e = .returned (.bool true) ∧ w' = w := by
  obtain ⟨i, hi, hcmp⟩ := Option.map_eq_some_iff.1 isComp
  obtain ⟨j, hj, hjs⟩ := Option.map_eq_some_iff.1 isSize
  have tT := isTypeOf
  have cT := isComparable
  have mR := isMethodComparable
  obtain ⟨G, hG⟩ : ∃ G, Tryz.prog.globals.size = G := ⟨_, rfl⟩
  rw [hG] at tT cT
  clear hG
  have heq := run_eql_iface_ptr_same (P := Tryz.prog) w a Tryz.underlying45 Tryz.underlying197 hi hcmp hj
  go_enter Tryz.func24, Tryz.ntmps24
  go_wp2
  refine wp_loop_rounds 1 ?_
  rw [rounds_succ]
  go_wp2
  go_ret
  exact ⟨rfl, rfl⟩

/-- errors.Is(nil, x). -/
theorem is_nil (b : Addr) (w : World) :
    Calls Tryz.prog 24 #[.nilIface, .iface 197 (.pointer (some b))] w fun e w' => e = .returned (.bool false) ∧ w' = w := by
  have hn := run_eql_iface_nil_left (P := Tryz.prog) w 197 (.pointer (some b)) Tryz.underlying45
  go_enter Tryz.func24, Tryz.ntmps24
  go_wp2
  go_ret
  exact ⟨rfl, rfl⟩

set_option maxRecDepth 100000 in
/-- errors.Is(x, y), two sentinels. -/
theorem is_other (a b : Addr) (ca cb : Array Value) (ta tb : TypeId) (w : World) (hne : a ≠ b) (ha : w.heap[a.block]? = some (.cells ca ta (0, 0))) (hb : w.heap[b.block]? = some (.cells cb tb (0, 0))) :
    Calls Tryz.prog 24 #[.iface 197 (.pointer (some a)), .iface 197 (.pointer (some b))] w fun e w' => e = .returned (.bool false) ∧ w' = w := by
  obtain ⟨i, hi, hcmp⟩ := Option.map_eq_some_iff.1 isComp
  obtain ⟨j, hj, hjs⟩ := Option.map_eq_some_iff.1 isSize
  have tT := isTypeOf
  have cT := isComparable
  have mR := isMethodComparable
  obtain ⟨G, hG⟩ : ∃ G, Tryz.prog.globals.size = G := ⟨_, rfl⟩
  rw [hG] at tT cT
  clear hG
  have nE := noIsE
  have uE := noUnwrapE
  have vE := noUnwrapsE
  have heq := run_eql_iface_ptr_other (P := Tryz.prog) w Tryz.underlying45 Tryz.underlying197 hi hcmp hj (by rw [hjs]; decide) hne ha hb
  go_enter Tryz.func24, Tryz.ntmps24
  go_wp2
  refine wp_loop_rounds 1 ?_
  rw [rounds_succ]
  go_wp2
  go_ret
  exact ⟨rfl, rfl⟩
end Go.Proofs.YtffaefdnlgfdbaaGreatDoor
/- tree: Check, at any form whose nodes' check is known; at the forms of CBOR and of JSON. -/
namespace Go.Proofs.YtffaefdnlgfdbaaGreatDoor
open Go.RowKit Go.Shelf

theorem check_cases (f : Int) (fl : Own → Bool) (t : Tr) : checkT f fl t = 0 ∨ checkT f fl t = 60 ∨ checkT f fl t = 61 := by
  unfold checkT
  split
  · split
    · exact .inl rfl
    · exact .inr (.inr rfl)
  · exact .inr (.inl rfl)

set_option maxHeartbeats 4000000 in
set_option maxRecDepth 100000 in
theorem tree_Check {aT aF : Addr} (f : Int) (fl : Own → Bool) (hfits : FitsC aT aF f fl) (t : Tr) (x : Value) (w : World) (B d : Nat) (hl : ListAt w B d t.kids x) (ho : OwnOk t.own) (hB : B ≤ w.heap.size) (hc : t.count ≤ 1000000000) (h : GW w aT aF) :
    Calls Tryz.prog 18 #[nodeV t.own x, .int .i64 f] w fun e w' => e = .returned (.int .i64 (checkT f fl t)) ∧ Below w.heap.size w w' := by
  have hb1 : Below w.heap.size w (w.alloc (.cells (cellsV t.own x) 27)) := (Below.refl _ _).alloc (Nat.le_refl _) _
  have hk1 := Blk.new w (cellsV t.own x) 27
  have HC := tree_checked f fl hfits t x _ B d (hl.below hb1 hB) ho (Nat.le_trans hB hb1.size) hc (h.below hb1)
  have hcs := check_cases f fl t
  obtain ⟨ck, hck⟩ : ∃ ck, checkT f fl t = ck := ⟨_, rfl⟩
  rw [hck] at HC hcs ⊢
  obtain ⟨_, A, c, rfl⟩ := hl.slice
  obtain ⟨n, hn⟩ : ∃ n, t.kids.length = n := ⟨_, rfl⟩
  obtain ⟨⟨kind, b, neg, dg, ex, u, wd, s⟩, ho'⟩ : ∃ o, t.own = o := ⟨_, rfl⟩
  rw [ho', hn] at HC hk1 hb1 ⊢
  unfold nodeV at HC ⊢
  unfold cellsV at HC hk1 hb1
  simp only [] at HC hk1 hb1 ⊢
  have HC := Lib.hid HC
  have z0 := hk1.cell 0
  have z1 := hk1.cell 1
  have z2 := hk1.cell 2
  have z3 := hk1.cell 3
  have z4 := hk1.cell 4
  have z5 := hk1.cell 5
  have z6 := hk1.cell 6
  have z7 := hk1.cell 7
  have z8 := hk1.cell 8
  have HG := Lib.hid h
  clear hl ho hc hck ho' hn hk1 h hfits
  go_enter Tryz.func18, Tryz.ntmps18
  go_wp2_with fail
  refine HC.out.mono ?_
  rintro e w2 ⟨rfl, hb⟩
  have hb3 := hb1.trans (hb.mono hb1.size)
  have G := HG.out.below hb3
  have hgT := G.hT
  have hgF := G.hF
  obtain ⟨cT, tT, eT⟩ := G.bT
  obtain ⟨cF, tF, eF⟩ := G.bF
  have H1 := Lib.hid (is_nil aT w2)
  have H2 := Lib.hid (is_nil aF w2)
  have H3 := Lib.hid (is_same aT w2)
  have H4 := Lib.hid (is_same aF w2)
  have H5 := Lib.hid (is_other aF aT cF cT tF tT w2 G.ne.symm eF eT)
  clear z0 z1 z2 z3 z4 z5 z6 z7 z8 hb hb1 HC G eT eF
  rcases hcs with rfl | rfl | rfl
  · have he : errR aT aF 0 = .nilIface := rfl
    rw [he]
    clear he
    go_wp2_with fail
    refine H1.out.mono ?_
    rintro e w3 ⟨rfl, rfl⟩
    go_wp2_with fail
    refine H2.out.mono ?_
    rintro e w3 ⟨rfl, rfl⟩
    go_wp2_with fail
    go_ret
    exact ⟨rfl, hb3⟩
  · have he : errR aT aF 60 = errP aT := rfl
    rw [he]
    clear he
    go_wp2_with fail
    refine H3.out.mono ?_
    rintro e w3 ⟨rfl, rfl⟩
    go_wp2_with fail
    go_ret
    exact ⟨rfl, hb3⟩
  · have he : errR aT aF 61 = errP aF := rfl
    rw [he]
    clear he
    go_wp2_with fail
    refine H5.out.mono ?_
    rintro e w3 ⟨rfl, rfl⟩
    go_wp2_with fail
    refine H4.out.mono ?_
    rintro e w3 ⟨rfl, rfl⟩
    go_wp2_with fail
    go_ret
    exact ⟨rfl, hb3⟩

theorem fits_at_C (aT aF : Addr) : FitsC aT aF 2 flC := fun o l A n c w B d hl hB hn hc ho h => fits_C o l A n c w B d hl hB hn hc ho h
theorem fits_at_J (aT aF : Addr) : FitsC aT aF 1 flJ := fun o l A n c w B d hl hB hn hc ho h => fits_J o l A n c w B d hl hB hn hc ho h
end Go.Proofs.YtffaefdnlgfdbaaGreatDoor
