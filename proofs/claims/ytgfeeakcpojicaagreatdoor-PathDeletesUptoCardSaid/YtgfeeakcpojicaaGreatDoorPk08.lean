/- The texts UtfA, UtfIs, UtfW, put together. -/
import Derived.Test.YtgfeeakcpojicaaGreatDoorPk01
import Derived.Test.YtgfeeakcpojicaaGreatDoorChecked
import Derived.IntWalk
import Derived.Laws.BitsLemmas
import Derived.Outline
import Derived.WalkKit
import Derived.LaidEql
import Derived.Stop.Asserts
import Derived.RowKitTokens
import Derived.Shelf.Unicode.ValidAny
/- utf: halves and pairs, the program's and the document's. -/
namespace Go.Proofs.YtgfeeakcpojicaaGreatDoor
open Go.RowKit Go.Shelf

def pairOk (hi lo : Int) : Bool := decide (55296 ≤ hi ∧ hi < 56320 ∧ 56320 ≤ lo ∧ lo ≤ 57343)
def pairOf (hi lo : Int) : Int := if pairOk hi lo then 65536 + (hi - 55296) * 1024 + lo - 56320 else 0
def halfOk (r : Int) : Bool := decide (65536 ≤ r ∧ r ≤ 1114111)
def halfHi (r : Int) : Int := if halfOk r then 55296 + (r - 65536) / 1024 else 0
def halfLo (r : Int) : Int := if halfOk r then 56320 + (r - 65536) % 1024 else 0

theorem wraps_i32 : ∀ n : Int, 0 ≤ n → n < 2 ^ 31 → IntKind.i32.wrap n = n := fun n h0 h1 => IntWalk.i32_in n (by omega)
theorem i32_and1023 (x : Int) (h0 : 0 ≤ x) (h1 : x < 2147483648) : bits .and .i32 x 1023 = x % 1024 := bits_mask .i32 31 (by decide) wraps_i32 10 (by decide) x h0 h1
theorem i32_and15 (x : Int) (h0 : 0 ≤ x) (h1 : x < 2147483648) : bits .and .i32 x 15 = x % 16 := bits_mask .i32 31 (by decide) wraps_i32 4 (by decide) x h0 h1

set_option maxRecDepth 100000 in
set_option maxHeartbeats 1000000 in
theorem utf_Pair (hi lo : Int) (h0 : 0 ≤ hi ∧ hi < 65536) (l0 : 0 ≤ lo ∧ lo < 65536) (w : World) :
    Calls Tryz.prog 121 #[.int .u16 hi, .int .u16 lo] w fun e w' => e = .returned (.tuple #[.int .i32 (pairOf hi lo), .bool (pairOk hi lo)]) ∧ w = w' := by
  unfold pairOf
  by_cases h : pairOk hi lo = true
  · rw [if_pos h, h]
    simp only [pairOk, decide_eq_true_eq] at h
    obtain ⟨h1, h2, h3, h4⟩ := h
    go_enter Tryz.func121, Tryz.ntmps121
    go_wp2
    go_ret2
    exact ⟨rfl, rfl⟩
  · rw [if_neg h, Bool.eq_false_iff.2 h]
    simp only [pairOk, decide_eq_true_eq] at h
    by_cases h1 : hi < 55296
    · clear h
      go_enter Tryz.func121, Tryz.ntmps121
      go_wp2
      go_ret2
      exact ⟨rfl, rfl⟩
    · by_cases h2 : 56320 ≤ hi
      · clear h
        go_enter Tryz.func121, Tryz.ntmps121
        go_wp2
        go_ret2
        exact ⟨rfl, rfl⟩
      · by_cases h3 : lo < 56320
        · clear h
          go_enter Tryz.func121, Tryz.ntmps121
          go_wp2
          go_ret2
          exact ⟨rfl, rfl⟩
        · have h4 : 57343 < lo := by omega
          clear h
          go_enter Tryz.func121, Tryz.ntmps121
          go_wp2
          go_ret2
          exact ⟨rfl, rfl⟩
end Go.Proofs.YtgfeeakcpojicaaGreatDoor
/- errors.Is at a sentinel, by its contracts (after the guide's worked text for its own program). -/
namespace Go.Proofs.YtgfeeakcpojicaaGreatDoor
open Go.RowKit Go.Stop Go.Extern

theorem isTypeOf (v : Value) (w : World) : (callFunc 112 #[.iface 167 v]).run Tryz.prog w = .ok (.value (.iface 171 (.agg #[.pointer (some ⟨Tryz.prog.globals.size, 167, none⟩)]))) w := by
  rw [@run_callFunc_extern Tryz.prog 112 _ Extern.ReflectliteType.typeOf Tryz.func112 (by kernel_rfl) (by kernel_rfl) (by kernel_rfl) (by kernel_rfl)]
  kernel_rfl
theorem isComparable (w : World) : (callFunc 145 #[.agg #[.pointer (some ⟨Tryz.prog.globals.size, 167, none⟩)]]).run Tryz.prog w = .ok (.value (.bool true)) w := by
  rw [@run_callFunc_extern Tryz.prog 145 _ (Extern.ReflectliteType.method fun t => do Extern.Rtype.noPackHeld "Comparable" t; pure (.bool (← typeInfo t).comparable)) Tryz.func145 (by kernel_rfl) (by kernel_rfl) (by kernel_rfl) (by kernel_rfl)]
  kernel_rfl
theorem isMethodComparable (n : Nat) (v : Value) (w : World) : (Go.method (n + 1) 171 v "Comparable").run Tryz.prog w = .ok (145, v) w := by kernel_rfl
theorem isComp : (Tryz.prog.info? 167).map (·.comparable) = some true := by kernel_rfl
theorem isSize : (Tryz.prog.info? 169).map (·.size) = some 1 := by kernel_rfl
theorem noIsE (v : Value) (xT : TypeId) (w : World) : (Instr.typeAssert (.iface 167 v) xT 173 true).run Tryz.prog w = .ok (.tuple #[.nilIface, .bool false]) w := run_typeAssert_lacksB Tryz.underlying173 (by kernel_rfl) (by kernel_rfl) v xT w
theorem noUnwrapE (v : Value) (xT : TypeId) (w : World) : (Instr.typeAssert (.iface 167 v) xT 176 true).run Tryz.prog w = .ok (.tuple #[.nilIface, .bool false]) w := run_typeAssert_lacksB Tryz.underlying176 (by kernel_rfl) (by kernel_rfl) v xT w
theorem noUnwrapsE (v : Value) (xT : TypeId) (w : World) : (Instr.typeAssert (.iface 167 v) xT 178 true).run Tryz.prog w = .ok (.tuple #[.nilIface, .bool false]) w := run_typeAssert_lacksB Tryz.underlying178 (by kernel_rfl) (by kernel_rfl) v xT w

set_option maxRecDepth 100000 in
/-- errors.Is(x, x), x a pointer to an errors.errorString. -/
theorem is_same (a : Addr) (w : World) :
    Calls Tryz.prog 98 #[.iface 167 (.pointer (some a)), .iface 167 (.pointer (some a))] w fun e w' => e = .returned (.bool true) ∧ w' = w := by
  obtain ⟨i, hi, hcmp⟩ := Option.map_eq_some_iff.1 isComp
  obtain ⟨j, hj, hjs⟩ := Option.map_eq_some_iff.1 isSize
  have tT := isTypeOf
  have cT := isComparable
  have mR := isMethodComparable
  obtain ⟨G, hG⟩ : ∃ G, Tryz.prog.globals.size = G := ⟨_, rfl⟩
  rw [hG] at tT cT
  clear hG
  have heq := run_eql_iface_ptr_same (P := Tryz.prog) w a Tryz.underlying63 Tryz.underlying167 hi hcmp hj
  go_enter Tryz.func98, Tryz.ntmps98
  go_wp2
  refine wp_loop_rounds 1 ?_
  rw [rounds_succ]
  go_wp2
  go_ret
  exact ⟨rfl, rfl⟩

/-- errors.Is(nil, x). -/
theorem is_nil (b : Addr) (w : World) :
    Calls Tryz.prog 98 #[.nilIface, .iface 167 (.pointer (some b))] w fun e w' => e = .returned (.bool false) ∧ w' = w := by
  have hn := run_eql_iface_nil_left (P := Tryz.prog) w 167 (.pointer (some b)) Tryz.underlying63
  go_enter Tryz.func98, Tryz.ntmps98
  go_wp2
  go_ret
  exact ⟨rfl, rfl⟩

set_option maxRecDepth 100000 in
/-- errors.Is(x, y), two sentinels. -/
theorem is_other (a b : Addr) (ca cb : Array Value) (ta tb : TypeId) (w : World) (hne : a ≠ b) (ha : w.heap[a.block]? = some (.cells ca ta (0, 0))) (hb : w.heap[b.block]? = some (.cells cb tb (0, 0))) :
    Calls Tryz.prog 98 #[.iface 167 (.pointer (some a)), .iface 167 (.pointer (some b))] w fun e w' => e = .returned (.bool false) ∧ w' = w := by
  obtain ⟨i, hi, hcmp⟩ := Option.map_eq_some_iff.1 isComp
  obtain ⟨j, hj, hjs⟩ := Option.map_eq_some_iff.1 isSize
  have tT := isTypeOf
  have cT := isComparable
  have mR := isMethodComparable
  obtain ⟨G, hG⟩ : ∃ G, Tryz.prog.globals.size = G := ⟨_, rfl⟩
  rw [hG] at tT cT
  clear hG
  have nE := noIsE
  have uE := noUnwrapE
  have vE := noUnwrapsE
  have heq := run_eql_iface_ptr_other (P := Tryz.prog) w Tryz.underlying63 Tryz.underlying167 hi hcmp hj (by rw [hjs]; decide) hne ha hb
  go_enter Tryz.func98, Tryz.ntmps98
  go_wp2
  refine wp_loop_rounds 1 ?_
  rw [rounds_succ]
  go_wp2
  go_ret
  exact ⟨rfl, rfl⟩
end Go.Proofs.YtgfeeakcpojicaaGreatDoor
/- utf: the world that its functions ask for; told. -/
namespace Go.Proofs.YtgfeeakcpojicaaGreatDoor
open Go.RowKit Go.Shelf

/-- The two sentinels lie where they were laid, and Go's two tables. -/
structure UW (w : World) (aT aQ : Addr) : Prop where
  hT : w.cell? ⟨3, 0, none⟩ = some (.iface 167 (.pointer (some aT)))
  hQ : w.cell? ⟨0, 0, none⟩ = some (.iface 167 (.pointer (some aQ)))
  ne : aT ≠ aQ
  bT : ∃ c t, w.heap[aT.block]? = some (.cells c t (0, 0))
  bQ : ∃ c t, w.heap[aQ.block]? = some (.cells c t (0, 0))
  tabs : Lib.Utf8Tabs 1 2 w

theorem cell_below {w w' : World} (hb : Below w.heap.size w w') {b i : Nat} {v : Value} (h : w.cell? ⟨b, i, none⟩ = some v) : w'.cell? ⟨b, i, none⟩ = some v := by
  have hlt : b < w.heap.size := by
    apply Decidable.byContradiction
    intro hn
    have : w.heap[b]? = none := Array.getElem?_eq_none (by omega)
    simp [World.cell?, this] at h
  rw [← h]
  simp only [World.cell?, hb.block b hlt]

theorem block_below {w w' : World} (hb : Below w.heap.size w w') {b : Nat} {o : Obj} (h : w.heap[b]? = some o) : w'.heap[b]? = some o :=
  (hb.block b (Array.getElem?_eq_some_iff.1 h).1).trans h

theorem UW.below {w w' : World} {aT aQ : Addr} (h : UW w aT aQ) (hb : Below w.heap.size w w') : UW w' aT aQ where
  hT := cell_below hb h.hT
  hQ := cell_below hb h.hQ
  ne := h.ne
  bT := let ⟨c, t, e⟩ := h.bT; ⟨c, t, block_below hb e⟩
  bQ := let ⟨c, t, e⟩ := h.bQ; ⟨c, t, block_below hb e⟩
  tabs := Utf8Tabs_below h.tabs hb

set_option maxRecDepth 100000 in
theorem told_nil {aT aQ : Addr} (w : World) (h : UW w aT aQ) : Calls Tryz.prog 78 #[.nilIface] w fun e w' => e = .returned (.int .i64 0) ∧ w = w' := by
  have hT := h.hT
  have hQ := h.hQ
  have H1 := Lib.hid (is_nil aT)
  have H2 := Lib.hid (is_nil aQ)
  clear h
  go_enter Tryz.func78, Tryz.ntmps78
  go_wp2_with fail
  refine (H1.out _).mono ?_
  rintro e w1 ⟨rfl, rfl⟩
  go_wp2_with fail
  refine (H2.out _).mono ?_
  rintro e w1 ⟨rfl, rfl⟩
  go_wp2_with fail
  go_ret
  exact ⟨rfl, rfl⟩

set_option maxRecDepth 100000 in
theorem told_text {aT aQ : Addr} (w : World) (h : UW w aT aQ) : Calls Tryz.prog 78 #[.iface 167 (.pointer (some aT))] w fun e w' => e = .returned (.int .i64 20) ∧ w = w' := by
  have hT := h.hT
  have H1 := Lib.hid (is_same aT)
  clear h
  go_enter Tryz.func78, Tryz.ntmps78
  go_wp2_with fail
  refine (H1.out _).mono ?_
  rintro e w1 ⟨rfl, rfl⟩
  go_wp2_with fail
  go_ret
  exact ⟨rfl, rfl⟩

set_option maxRecDepth 100000 in
theorem told_quote {aT aQ : Addr} (w : World) (h : UW w aT aQ) : Calls Tryz.prog 78 #[.iface 167 (.pointer (some aQ))] w fun e w' => e = .returned (.int .i64 21) ∧ w = w' := by
  have hT := h.hT
  have hQ := h.hQ
  obtain ⟨c1, t1, e1⟩ := h.bT
  obtain ⟨c2, t2, e2⟩ := h.bQ
  have H1 := Lib.hid (is_other aQ aT c2 c1 t2 t1 w h.ne.symm e2 e1)
  have H2 := Lib.hid (is_same aQ)
  clear h e1 e2
  go_enter Tryz.func78, Tryz.ntmps78
  go_wp2_with fail
  refine H1.out.mono ?_
  rintro e w1 ⟨rfl, rfl⟩
  go_wp2_with fail
  refine (H2.out _).mono ?_
  rintro e w1 ⟨rfl, rfl⟩
  go_wp2_with fail
  go_ret
  exact ⟨rfl, rfl⟩
end Go.Proofs.YtgfeeakcpojicaaGreatDoor
