/- The texts UtfIs, UtfW, put together. -/
import Derived.Test.YtfckekaegjjmkaaGreatDoorChecked
import Derived.WalkKit
import Derived.LaidEql
import Derived.Stop.Asserts
import Derived.RowKitTokens
import Derived.Test.YtfckekaegjjmkaaGreatDoorPb01
import Derived.Test.YtfckekaegjjmkaaGreatDoorPb04
import Derived.Shelf.Unicode.ValidAny
namespace Go.Proofs.YtfckekaegjjmkaaGreatDoor
open Go.RowKit Go.Stop Go.Extern

theorem isTypeOf (v : Value) (w : World) : (callFunc 59 #[.iface 289 v]).run Tryz.prog w = .ok (.value (.iface 134 (.agg #[.pointer (some ⟨Tryz.prog.globals.size, 289, none⟩)]))) w := by
  rw [@run_callFunc_extern Tryz.prog 59 _ Extern.ReflectliteType.typeOf Tryz.func59 (by kernel_rfl) (by kernel_rfl) (by kernel_rfl) (by kernel_rfl)]
  kernel_rfl
theorem isComparable (w : World) : (callFunc 283 #[.agg #[.pointer (some ⟨Tryz.prog.globals.size, 289, none⟩)]]).run Tryz.prog w = .ok (.value (.bool true)) w := by
  rw [@run_callFunc_extern Tryz.prog 283 _ (Extern.ReflectliteType.method fun t => do Extern.Rtype.noPackHeld "Comparable" t; pure (.bool (← typeInfo t).comparable)) Tryz.func283 (by kernel_rfl) (by kernel_rfl) (by kernel_rfl) (by kernel_rfl)]
  kernel_rfl
theorem isMethodComparable (n : Nat) (v : Value) (w : World) : (Go.method (n + 1) 134 v "Comparable").run Tryz.prog w = .ok (283, v) w := by kernel_rfl
theorem isComp : (Tryz.prog.info? 289).map (·.comparable) = some true := by kernel_rfl
theorem isSize : (Tryz.prog.info? 291).map (·.size) = some 1 := by kernel_rfl
theorem noIsE (v : Value) (xT : TypeId) (w : World) : (Instr.typeAssert (.iface 289 v) xT 136 true).run Tryz.prog w = .ok (.tuple #[.nilIface, .bool false]) w := run_typeAssert_lacksB Tryz.underlying136 (by kernel_rfl) (by kernel_rfl) v xT w
theorem noUnwrapE (v : Value) (xT : TypeId) (w : World) : (Instr.typeAssert (.iface 289 v) xT 139 true).run Tryz.prog w = .ok (.tuple #[.nilIface, .bool false]) w := run_typeAssert_lacksB Tryz.underlying139 (by kernel_rfl) (by kernel_rfl) v xT w
theorem noUnwrapsE (v : Value) (xT : TypeId) (w : World) : (Instr.typeAssert (.iface 289 v) xT 140 true).run Tryz.prog w = .ok (.tuple #[.nilIface, .bool false]) w := run_typeAssert_lacksB Tryz.underlying140 (by kernel_rfl) (by kernel_rfl) v xT w

set_option maxRecDepth 100000 in
/-- errors.Is(x, x), x a pointer to an errors.errorString. -/
theorem is_same (a : Addr) (w : World) :
    Calls Tryz.prog 42 #[.iface 289 (.pointer (some a)), .iface 289 (.pointer (some a))] w fun e w' => e = .returned (.bool true) ∧ w' = w := by
  obtain ⟨i, hi, hcmp⟩ := Option.map_eq_some_iff.1 isComp
  obtain ⟨j, hj, hjs⟩ := Option.map_eq_some_iff.1 isSize
  have tT := isTypeOf
  have cT := isComparable
  have mR := isMethodComparable
  obtain ⟨G, hG⟩ : ∃ G, Tryz.prog.globals.size = G := ⟨_, rfl⟩
  rw [hG] at tT cT
  clear hG
  have heq := run_eql_iface_ptr_same (P := Tryz.prog) w a Tryz.underlying62 Tryz.underlying289 hi hcmp hj
  go_enter Tryz.func42, Tryz.ntmps42
  go_wp2
  refine wp_loop_rounds 1 ?_
  rw [rounds_succ]
  go_wp2
  go_ret
  exact ⟨rfl, rfl⟩

/-- errors.Is(nil, x). -/
theorem is_nil (b : Addr) (w : World) :
    Calls Tryz.prog 42 #[.nilIface, .iface 289 (.pointer (some b))] w fun e w' => e = .returned (.bool false) ∧ w' = w := by
  have hn := run_eql_iface_nil_left (P := Tryz.prog) w 289 (.pointer (some b)) Tryz.underlying62
  go_enter Tryz.func42, Tryz.ntmps42
  go_wp2
  go_ret
  exact ⟨rfl, rfl⟩

set_option maxRecDepth 100000 in
/-- errors.Is(x, y), two sentinels. -/
theorem is_other (a b : Addr) (ca cb : Array Value) (ta tb : TypeId) (w : World) (hne : a ≠ b) (ha : w.heap[a.block]? = some (.cells ca ta (0, 0))) (hb : w.heap[b.block]? = some (.cells cb tb (0, 0))) :
    Calls Tryz.prog 42 #[.iface 289 (.pointer (some a)), .iface 289 (.pointer (some b))] w fun e w' => e = .returned (.bool false) ∧ w' = w := by
  obtain ⟨i, hi, hcmp⟩ := Option.map_eq_some_iff.1 isComp
  obtain ⟨j, hj, hjs⟩ := Option.map_eq_some_iff.1 isSize
  have tT := isTypeOf
  have cT := isComparable
  have mR := isMethodComparable
  obtain ⟨G, hG⟩ : ∃ G, Tryz.prog.globals.size = G := ⟨_, rfl⟩
  rw [hG] at tT cT
  clear hG
  have nE := noIsE
  have uE := noUnwrapE
  have vE := noUnwrapsE
  have heq := run_eql_iface_ptr_other (P := Tryz.prog) w Tryz.underlying62 Tryz.underlying289 hi hcmp hj (by rw [hjs]; decide) hne ha hb
  go_enter Tryz.func42, Tryz.ntmps42
  go_wp2
  refine wp_loop_rounds 1 ?_
  rw [rounds_succ]
  go_wp2
  go_ret
  exact ⟨rfl, rfl⟩
end Go.Proofs.YtfckekaegjjmkaaGreatDoor
namespace Go.Proofs.YtfckekaegjjmkaaGreatDoor
open Go.RowKit Go.Shelf

/-- The two sentinels lie where they were laid, and Go's two tables. -/
structure UW (w : World) (aT aQ : Addr) : Prop where
  hT : w.cell? ⟨6, 0, none⟩ = some (.iface 289 (.pointer (some aT)))
  hQ : w.cell? ⟨3, 0, none⟩ = some (.iface 289 (.pointer (some aQ)))
  ne : aT ≠ aQ
  bT : ∃ c t, w.heap[aT.block]? = some (.cells c t (0, 0))
  bQ : ∃ c t, w.heap[aQ.block]? = some (.cells c t (0, 0))
  tabs : Lib.Utf8Tabs 4 5 w

theorem UW.below {w w' : World} {aT aQ : Addr} (h : UW w aT aQ) (hb : Below w.heap.size w w') : UW w' aT aQ where
  hT := cell_below hb h.hT
  hQ := cell_below hb h.hQ
  ne := h.ne
  bT := let ⟨c, t, e⟩ := h.bT; ⟨c, t, block_below hb e⟩
  bQ := let ⟨c, t, e⟩ := h.bQ; ⟨c, t, block_below hb e⟩
  tabs := Utf8Tabs_below h.tabs hb



end Go.Proofs.YtfckekaegjjmkaaGreatDoor
