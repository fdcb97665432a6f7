/- The texts JrT, GateK, put together. -/
import Derived.Test.YtfckekaegjjmkaaGreatDoorPi30
import Derived.Stop.Asserts
import Derived.Test.YtfckekaegjjmkaaGreatDoorPi02
import Derived.Test.YtfckekaegjjmkaaGreatDoorPi07
namespace Go.Proofs.YtfckekaegjjmkaaGreatDoor
open Go.RowKit Go.Shelf Go.Extern.Stop Go.Stop Go.Extern
attribute [local go_sem] Oper.semAt_some

theorem asJ_valueOfP (t : Addr) (w : World) : (ReflectliteValue.unpack (.iface 93 (.pointer (some t)))).run Tryz.prog w
    = .ok (.agg #[.pointer (some ⟨13, 93, none⟩), .pointer (some ⟨w.heap.size, 0, none⟩), .int .u64 150]) (w.alloc (.cells #[.pointer (some t)] 93)) := by kernel_rfl
theorem asJ_typeP (a : Addr) (w : World) : (ReflectliteValue.methodAny (ReflectliteValue.valueError "reflectlite.Value.Type" 0) (fun t _ _ _ => ReflectliteType.toType t) #[.agg #[.pointer (some ⟨13, 93, none⟩), .pointer (some a), .int .u64 150]]).run Tryz.prog w
    = .ok (.iface 134 (.agg #[.pointer (some ⟨13, 93, none⟩)])) w := by kernel_rfl
theorem asJ_methodKind (h : Value) (w : World) : (Go.method 426 134 (.agg #[h]) "Kind").run Tryz.prog w = .ok (273, h) w := by kernel_rfl
theorem asJ_kindP (w : World) : ((ReflectliteType.abiMethod fun t => (fun a : Nat => Value.int IntKind.u8 (a : Int)) <$> Rtype.kind t) #[.pointer (some ⟨13, 93, none⟩)]).run Tryz.prog w = .ok (.int .u8 22) w := by kernel_rfl
theorem asJ_kindW (w : World) : ((ReflectliteType.abiMethod fun t => (fun a : Nat => Value.int IntKind.u8 (a : Int)) <$> Rtype.kind t) #[.pointer (some ⟨13, 91, none⟩)]).run Tryz.prog w = .ok (.int .u8 25) w := by kernel_rfl
theorem asJ_rlm (z : Sem Value) (f : TypeId → Addr → Nat → Nat → Sem Value) (v : Value) :
    ReflectliteValue.method z f #[v] = (do match ← ReflectliteValue.parts v with | none => z | some (t, a, fl) => f t a fl (fl % 32)) := rfl
theorem asJ_partsP (a : Addr) (w : World) : (ReflectliteValue.parts (.agg #[.pointer (some ⟨13, 93, none⟩), .pointer (some a), .int .u64 150])).run Tryz.prog w = .ok (some (93, a, 150)) w := by kernel_rfl
theorem asJ_isNil (a p : Addr) (W : World) (ha : W.cell? a = some (.pointer (some p))) :
    (ReflectliteValue.method (ReflectliteValue.valueError "reflectlite.Value.IsNil" 0) ReflectliteValue.isNil #[.agg #[.pointer (some ⟨13, 93, none⟩), .pointer (some a), .int .u64 150]]).run Tryz.prog W = .ok (.bool false) W := by
  rw [asJ_rlm]
  simp only [Sem.run_bind, asJ_partsP, Result.andThen]
  simp [ReflectliteValue.isNil, loadVar, isAgg, underlying, Tryz.underlying93, ha, Result.andThen]
theorem asJ_methodElem (h : Value) (w : World) : (Go.method 426 134 (.agg #[h]) "Elem").run Tryz.prog w = .ok (284, .agg #[h]) w := by kernel_rfl
theorem asJ_methodImplements (h : Value) (w : World) : (Go.method 426 134 (.agg #[h]) "Implements").run Tryz.prog w = .ok (285, .agg #[h]) w := by kernel_rfl
theorem asJ_methodAssignableTo (h : Value) (w : World) : (Go.method 426 134 (.agg #[h]) "AssignableTo").run Tryz.prog w = .ok (282, .agg #[h]) w := by kernel_rfl
theorem asJ_elemP (w : World) : (ReflectliteType.method ReflectliteType.elem #[.agg #[.pointer (some ⟨13, 93, none⟩)]]).run Tryz.prog w = .ok (.iface 134 (.agg #[.pointer (some ⟨13, 91, none⟩)])) w := by kernel_rfl
theorem asJ_implements (w : World) : (ReflectliteType.relation "Implements" ReflectliteType.implements_ #[.agg #[.pointer (some ⟨13, 91, none⟩)], .iface 134 (.agg #[.pointer (some ⟨13, 62, none⟩)])]).run Tryz.prog w = .ok (.bool true) w := by kernel_rfl
theorem asJ_typeOf (v : Value) (w : World) : (ReflectliteType.typeOf #[.iface 91 v]).run Tryz.prog w = .ok (.iface 134 (.agg #[.pointer (some ⟨13, 91, none⟩)])) w := by kernel_rfl
theorem asJ_assignable (w : World) : (ReflectliteType.relation "AssignableTo" ReflectliteType.assignableTo #[.agg #[.pointer (some ⟨13, 91, none⟩)], .iface 134 (.agg #[.pointer (some ⟨13, 91, none⟩)])]).run Tryz.prog w = .ok (.bool true) w := by kernel_rfl
theorem asJ_valueOfW (e : Int) (w : World) : (ReflectliteValue.unpack (.iface 91 (.agg #[.int .i64 e]))).run Tryz.prog w
    = .ok (.agg #[.pointer (some ⟨13, 91, none⟩), .pointer (some ⟨w.heap.size, 0, none⟩), .int .u64 153]) (w.alloc (.cells #[.int .i64 e] 91)) := by kernel_rfl
theorem asJ_elemOf (w : World) : (Rtype.elem? 93).run Tryz.prog w = .ok (some 91) w := by kernel_rfl
theorem asJ_mk (p : Addr) (w : World) : (ReflectliteValue.mk 91 p ReflectliteValue.flagAddr).run Tryz.prog w = .ok (.agg #[.pointer (some ⟨13, 91, none⟩), .pointer (some p), .int .u64 409]) w := by kernel_rfl
theorem asJ_elemV (a p : Addr) (W : World) (ha : W.cell? a = some (.pointer (some p))) :
    (ReflectliteValue.method (ReflectliteValue.valueError "reflectlite.Value.Elem" 0) ReflectliteValue.elem #[.agg #[.pointer (some ⟨13, 93, none⟩), .pointer (some a), .int .u64 150]]).run Tryz.prog W
      = .ok (.agg #[.pointer (some ⟨13, 91, none⟩), .pointer (some p), .int .u64 409]) W := by
  rw [asJ_rlm]
  simp only [Sem.run_bind, asJ_partsP, Result.andThen]
  simp [ReflectliteValue.elem, loadVar, isAgg, underlying, Tryz.underlying93, ha, Result.andThen, asJ_elemOf, asJ_mk]
theorem asJ_rls (v x : Value) : ReflectliteValue.set #[v, x] = (do
    let (some (dst, a, fl), some (src, b, _)) := (← ReflectliteValue.parts v, ← ReflectliteValue.parts x)
      | unsupported (.noEntry "extern/(internal/reflectlite.Value).Set.zeroValue")
    if fl / ReflectliteValue.flagAddr % 2 == 0 then unsupported (.noEntry "extern/(internal/reflectlite.Value).Set.unaddressable")
    let val ← loadVar src b
    if ← Rtype.directlyAssignable dst src then storeVar dst a val
    else if ← Rtype.implements dst src then
      if (← Rtype.kind src) == 20 then
        match val with
        | .nilIface => unsupported (.noEntry "extern/reflectlite: a nil value of one interface type handed on as a value of another")
        | _ => storeVar dst a val
      else storeVar dst a (.iface src val)
    else panicString ("reflectlite.Set: value of type " ++ (← Rtype.spelt src) ++ " is not assignable to type " ++ (← Rtype.spelt dst))
    pure (.tuple #[])) := rfl
theorem asJ_partsA (a : Addr) (w : World) : (ReflectliteValue.parts (.agg #[.pointer (some ⟨13, 91, none⟩), .pointer (some a), .int .u64 409])).run Tryz.prog w = .ok (some (91, a, 409)) w := by kernel_rfl
theorem asJ_partsW (a : Addr) (w : World) : (ReflectliteValue.parts (.agg #[.pointer (some ⟨13, 91, none⟩), .pointer (some a), .int .u64 153])).run Tryz.prog w = .ok (some (91, a, 153)) w := by kernel_rfl
theorem asJ_direct (w : World) : (Rtype.directlyAssignable 91 91).run Tryz.prog w = .ok true w := by kernel_rfl
/-- (Value).Set: the variable at 'tb' gets what the Value's own variable 'b' holds. -/
theorem asJ_set (tb b : Nat) (e old : Int) (W : World) (hb : Blk W b #[.int .i64 e] 91) (ht : Blk W tb #[.int .i64 old] 91) :
    (ReflectliteValue.set #[.agg #[.pointer (some ⟨13, 91, none⟩), .pointer (some ⟨tb, 0, none⟩), .int .u64 409], .agg #[.pointer (some ⟨13, 91, none⟩), .pointer (some ⟨b, 0, none⟩), .int .u64 153]]).run Tryz.prog W
      = .ok (.tuple #[]) (W.setRow tb #[.int .i64 e]) := by
  rw [asJ_rls]
  have h1 := run_loadVar_row (P := Tryz.prog) W b 91 91 #[.int .i64 e] (0, 0) _ hb Tryz.underlying91 rfl (by kernel_rfl)
  have h2 := run_storeVar_row (P := Tryz.prog) W tb 91 91 #[.int .i64 old] #[.int .i64 e] ht (by kernel_rfl) rfl (by simp [Value.oneCell'])
  simp only [Sem.run_bind, asJ_partsA, asJ_partsW, Result.andThen]
  simp [ReflectliteValue.flagAddr, h1, asJ_direct, h2, Result.andThen]

set_option maxHeartbeats 4000000 in
set_option maxRecDepth 100000 in
theorem asJ_in (e : Int) (tb : Nat) (w : World) (v : Addr) (hv : w.cell? v = some (.pointer (some ⟨tb, 0, none⟩))) (ht : Blk w tb #[.int .i64 0] 91) :
    Calls Tryz.prog 80 #[.iface 91 (.agg #[.int .i64 e]), .iface 93 (.pointer (some ⟨tb, 0, none⟩)), .agg #[.pointer (some ⟨13, 93, none⟩), .pointer (some v), .int .u64 150], .iface 134 (.agg #[.pointer (some ⟨13, 91, none⟩)])] w fun x w' => x = .returned (.bool true) ∧ w.grownBy w' (some tb) ∧ Blk w' tb #[.int .i64 e] 91 := by
  have h35 := @run_callFunc_extern Tryz.prog 59 _ (ReflectliteType.typeOf) Tryz.func59 (by kernel_rfl) (by kernel_rfl) (by kernel_rfl) (by kernel_rfl)
  have h73 := @run_callFunc_extern Tryz.prog 77 _ (fun args => ReflectliteValue.unpack (args.getD 0 (.tuple #[]))) Tryz.func77 (by kernel_rfl) (by kernel_rfl) (by kernel_rfl) (by kernel_rfl)
  have h104 := @run_callFunc_extern Tryz.prog 124 _ (ReflectliteValue.method (ReflectliteValue.valueError "reflectlite.Value.Elem" 0) ReflectliteValue.elem) Tryz.func124 (by kernel_rfl) (by kernel_rfl) (by kernel_rfl) (by kernel_rfl)
  have h105 := @run_callFunc_extern Tryz.prog 125 _ (ReflectliteValue.set) Tryz.func125 (by kernel_rfl) (by kernel_rfl) (by kernel_rfl) (by kernel_rfl)
  have hA := @run_callFunc_extern Tryz.prog 282 _ (ReflectliteType.relation "AssignableTo" ReflectliteType.assignableTo) Tryz.func282 (by kernel_rfl) (by kernel_rfl) (by kernel_rfl) (by kernel_rfl)
  have tO := asJ_typeOf
  have mA := asJ_methodAssignableTo
  have aW := asJ_assignable
  have vW := asJ_valueOfW
  have hvl : v.block < w.heap.size := World.block_lt_of_cell? w v hv
  have el := asJ_elemV v ⟨tb, 0, none⟩ (w.alloc (.cells #[.pointer (some ⟨13, 93, none⟩), .pointer (some v), .int .u64 150] 123)) (by rw [World.cell?_alloc_lt _ _ v hvl]; exact hv)
  have hk1 := Blk.new (w.alloc (.cells #[.pointer (some ⟨13, 93, none⟩), .pointer (some v), .int .u64 150] 123)) #[.int .i64 e] 91
  rw [World.size_alloc] at hk1
  have ht2 := (ht.alloc (.cells #[.pointer (some ⟨13, 93, none⟩), .pointer (some v), .int .u64 150] 123)).alloc (.cells #[.int .i64 e] 91)
  have st := asJ_set tb (w.heap.size + 1) e 0 ((w.alloc (.cells #[.pointer (some ⟨13, 93, none⟩), .pointer (some v), .int .u64 150] 123)).alloc (.cells #[.int .i64 e] 91)) hk1 ht2
  have hb := ((Below.refl w.heap.size w).alloc (Nat.le_refl _) (.cells #[.pointer (some ⟨13, 93, none⟩), .pointer (some v), .int .u64 150] 123)).alloc (by simp) (.cells #[.int .i64 e] 91)
  go_enter Tryz.func80, Tryz.ntmps80
  go_wp2
  refine wp_loop_rounds 1 ?_
  rw [rounds_succ]
  go_wp2
  go_ret
  exact ⟨rfl, grown_trans (below_grown hb (some tb)) (grown_row _ _ _), blk_row ht2 _⟩

set_option maxHeartbeats 4000000 in
set_option maxRecDepth 100000 in
theorem asJ_hit (e : Int) (tb : Nat) (w : World) (hg : w.cell? ⟨2, 0, none⟩ = some (.iface 134 (.agg #[.pointer (some ⟨13, 62, none⟩)]))) (ht : Blk w tb #[.int .i64 0] 91) :
    Calls Tryz.prog 56 #[.iface 91 (.agg #[.int .i64 e]), .iface 93 (.pointer (some ⟨tb, 0, none⟩))] w fun x w' => x = .returned (.bool true) ∧ w.grownBy w' (some tb) ∧ Blk w' tb #[.int .i64 e] 91 := by
  have h6 := @run_callFunc_extern Tryz.prog 77 _ (fun args => ReflectliteValue.unpack (args.getD 0 (.tuple #[]))) Tryz.func77 (by kernel_rfl) (by kernel_rfl) (by kernel_rfl) (by kernel_rfl)
  have h7 := @run_callFunc_extern Tryz.prog 78 _ (ReflectliteValue.methodAny (ReflectliteValue.valueError "reflectlite.Value.Type" 0) (fun t _ _ _ => ReflectliteType.toType t)) Tryz.func78 (by kernel_rfl) (by kernel_rfl) (by kernel_rfl) (by kernel_rfl)
  have h8 := @run_callFunc_extern Tryz.prog 79 _ (ReflectliteValue.method (ReflectliteValue.valueError "reflectlite.Value.IsNil" 0) ReflectliteValue.isNil) Tryz.func79 (by kernel_rfl) (by kernel_rfl) (by kernel_rfl) (by kernel_rfl)
  have h27 := @run_callFunc_extern Tryz.prog 273 _ (ReflectliteType.abiMethod fun t => do pure (.int .u8 (← Rtype.kind t))) Tryz.func273 (by kernel_rfl) (by kernel_rfl) (by kernel_rfl) (by kernel_rfl)
  have h37 := @run_callFunc_extern Tryz.prog 284 _ (ReflectliteType.method ReflectliteType.elem) Tryz.func284 (by kernel_rfl) (by kernel_rfl) (by kernel_rfl) (by kernel_rfl)
  have h38 := @run_callFunc_extern Tryz.prog 285 _ (ReflectliteType.relation "Implements" ReflectliteType.implements_) Tryz.func285 (by kernel_rfl) (by kernel_rfl) (by kernel_rfl) (by kernel_rfl)
  have f6 := asJ_valueOfP
  have f7 := asJ_typeP
  have mK := asJ_methodKind
  have mE := asJ_methodElem
  have mI := asJ_methodImplements
  have kP := asJ_kindP
  have kW := asJ_kindW
  have eP := asJ_elemP
  have iW := asJ_implements
  have hk0 := Blk.new w #[.pointer (some ⟨tb, 0, none⟩)] 93
  have hk1 := hk0.alloc (.cells #[.pointer (some ⟨13, 93, none⟩), .pointer (some ⟨w.heap.size, 0, none⟩), .int .u64 150] 123)
  have n8 := asJ_isNil ⟨w.heap.size, 0, none⟩ ⟨tb, 0, none⟩ ((w.alloc (.cells #[.pointer (some ⟨tb, 0, none⟩)] 93)).alloc (.cells #[.pointer (some ⟨13, 93, none⟩), .pointer (some ⟨w.heap.size, 0, none⟩), .int .u64 150] 123)) (hk1.cell 0)
  have hlt : 2 < w.heap.size := World.block_lt_of_cell? w ⟨2, 0, none⟩ hg
  have hg2 : ((w.alloc (.cells #[.pointer (some ⟨tb, 0, none⟩)] 93)).alloc (.cells #[.pointer (some ⟨13, 93, none⟩), .pointer (some ⟨w.heap.size, 0, none⟩), .int .u64 150] 123)).cell? ⟨2, 0, none⟩ = some (.iface 134 (.agg #[.pointer (some ⟨13, 62, none⟩)])) := by
    rw [World.cell?_alloc_lt _ _ ⟨2, 0, none⟩ (by simp; omega), World.cell?_alloc_lt _ _ ⟨2, 0, none⟩ hlt]; exact hg
  have ht2 := (ht.alloc (.cells #[.pointer (some ⟨tb, 0, none⟩)] 93)).alloc (.cells #[.pointer (some ⟨13, 93, none⟩), .pointer (some ⟨w.heap.size, 0, none⟩), .int .u64 150] 123)
  have HIN := Lib.hid (asJ_in e tb ((w.alloc (.cells #[.pointer (some ⟨tb, 0, none⟩)] 93)).alloc (.cells #[.pointer (some ⟨13, 93, none⟩), .pointer (some ⟨w.heap.size, 0, none⟩), .int .u64 150] 123)) ⟨w.heap.size, 0, none⟩ (hk1.cell 0) ht2)
  have hb := ((Below.refl w.heap.size w).alloc (Nat.le_refl _) (.cells #[.pointer (some ⟨tb, 0, none⟩)] 93)).alloc (by simp) (.cells #[.pointer (some ⟨13, 93, none⟩), .pointer (some ⟨w.heap.size, 0, none⟩), .int .u64 150] 123)
  go_enter Tryz.func56, Tryz.ntmps56
  go_wp2_with fail
  refine HIN.out.mono ?_
  rintro x w3 ⟨rfl, hg3, hk3⟩
  go_wp2_with fail
  go_ret
  exact ⟨rfl, grown_trans (below_grown hb (some tb)) hg3, hk3⟩

set_option maxHeartbeats 2000000 in
set_option maxRecDepth 100000 in
/-- told: a wrong's number. -/
theorem jr_told (e : Int) (w : World) (hg : w.cell? ⟨2, 0, none⟩ = some (.iface 134 (.agg #[.pointer (some ⟨13, 62, none⟩)]))) :
    Calls Tryz.prog 40 #[errJ e] w fun x w' => x = .returned (.int .i64 e) ∧ Below w.heap.size w w' := by
  unfold errJ
  have hlt : 2 < w.heap.size := World.block_lt_of_cell? w ⟨2, 0, none⟩ hg
  have hk := Blk.new w #[.int .i64 0] 91
  have hb := (Below.refl w.heap.size w).alloc (Nat.le_refl _) (.cells #[.int .i64 0] 91)
  have HA := Lib.hid (asJ_hit e w.heap.size (w.alloc (.cells #[.int .i64 0] 91)) (by rw [World.cell?_alloc_lt _ _ ⟨2, 0, none⟩ hlt]; exact hg) hk)
  go_enter Tryz.func40, Tryz.ntmps40
  go_wp2_with fail
  refine HA.out.mono ?_
  rintro x w2 ⟨rfl, hg2, hk2⟩
  have z0 := hk2.cell 0
  go_wp2_with fail
  go_ret
  exact ⟨rfl, hb.trans (grown_below hg2 (Nat.le_refl _) hk.lt)⟩
set_option maxHeartbeats 2000000 in
set_option maxRecDepth 100000 in
/-- told: no wrong. -/
theorem jr_told0 (w : World) : Calls Tryz.prog 40 #[.nilIface] w fun x w' => x = .returned (.int .i64 0) ∧ Below w.heap.size w w' := by
  have hb := (Below.refl w.heap.size w).alloc (Nat.le_refl _) (.cells #[.int .i64 0] 91)
  have HA : Hid (∀ w : World, Calls Tryz.prog 56 #[.nilIface, .iface 93 (.pointer (some ⟨w.heap.size, 0, none⟩))] (w.alloc (.cells #[.int .i64 0] 91)) fun x w' => x = .returned (.bool false) ∧ w' = w.alloc (.cells #[.int .i64 0] 91)) := Lib.hid (fun w => by
    go_enter Tryz.func56, Tryz.ntmps56
    go_wp2
    go_ret
    exact ⟨rfl, rfl⟩)
  go_enter Tryz.func40, Tryz.ntmps40
  go_wp2_with fail
  refine (HA.out w).mono ?_
  rintro x w2 ⟨rfl, rfl⟩
  go_wp2_with fail
  go_ret
  exact ⟨rfl, hb⟩
end Go.Proofs.YtfckekaegjjmkaaGreatDoor
namespace Go.Proofs.YtfckekaegjjmkaaGreatDoor
open Go.RowKit Go.Shelf

/-- Every second one. -/
def evens : List Tr → List Tr
  | [] => []
  | [k] => [k]
  | k :: _ :: r => k :: evens r
theorem evens_drop (l : List Tr) (k : Nat) (h : k < l.length) : evens (l.drop k) = l[k] :: evens (l.drop (k + 2)) := by
  rw [List.drop_eq_getElem_cons h]
  by_cases h1 : k + 1 < l.length
  · rw [List.drop_eq_getElem_cons h1]
    rfl
  · rw [List.drop_eq_nil_of_le (by omega), List.drop_eq_nil_of_le (by omega)]
    rfl
theorem evens_length : ∀ l : List Tr, (evens l).length = (l.length + 1) / 2
  | [] => by simp [evens]
  | [k] => by simp [evens]
  | k :: k' :: r => by
    show (evens r).length + 1 = _
    rw [evens_length r]
    simp only [List.length_cons]
    omega
theorem evens_get : ∀ (l : List Tr) (i : Nat) (h : i < (evens l).length), ∃ h' : 2 * i < l.length, (evens l)[i] = l[2 * i]
  | [], i, h => absurd h (by simp [evens])
  | [k], i, h => by
    have : i = 0 := by simp [evens] at h; exact h
    subst this
    exact ⟨by simp, rfl⟩
  | k :: k' :: r, 0, h => ⟨by simp, rfl⟩
  | k :: k' :: r, i + 1, h => by
    have h1 : i < (evens r).length := by
      have : i + 1 < (evens r).length + 1 := h
      omega
    obtain ⟨h2, e⟩ := evens_get r i h1
    have h3 : 2 * (i + 1) < (k :: k' :: r).length := by
      simp only [List.length_cons]
      omega
    refine ⟨h3, ?_⟩
    show (evens r)[i] = _
    rw [e]
    simp only [Nat.mul_add, Nat.mul_one, List.getElem_cons_succ]

set_option maxHeartbeats 8000000 in
set_option maxRecDepth 100000 in
theorem tree_keys (l : List Tr) (A : Option Addr) (n c : Nat) (w : World) (B d : Nat) (hl : ListAt w B d l (.slice A n c)) (hB : B ≤ w.heap.size) (hn : l.length = n) (hc : n ≤ 1000000000000) :
    Calls Tryz.prog 99 #[.slice A n c] w fun e w' => (∃ A' n' c', e = .returned (.slice A' n' c') ∧ (evens l).length = n' ∧ ListAt w' w'.heap.size (d + 1) (evens l) (.slice A' n' c')) ∧ Below w.heap.size w w' := by
  obtain ⟨i0, hi, hz0, hz1, hz2⟩ := info_parts infoNode
  have HI := Lib.hid hi
  have HZ0 := Lib.hid hz0
  have HZ1 := Lib.hid hz1
  have HZ2 := Lib.hid hz2
  clear hi hz0 hz1 hz2
  have HL := Lib.hid hl
  have HN := Lib.hid hn
  have H0 := Lib.hid (show evens l = [] ++ evens (l.drop (2 * 0)) by simp)
  have hcI : (n : Int) ≤ 1000000000000 := by omega
  have hlen := hl.slice.1
  rw [hn] at hlen
  clear hl hn hc
  go_enter Tryz.func99, Tryz.ntmps99
  go_wp2_with fail
  go_loopw [3, 4] (fun v i wr => ∃ (j : Nat) (acc : List Tr) (xs : List Value), 2 * j ≤ n + 1 ∧ acc.length = j ∧ i = .int .i64 ((2 * j : Nat) : Int) ∧ wr.ownsRow w.heap.size 27 9 v j xs ∧ RowT wr (fun q => q < B) d acc xs ∧ Below w.heap.size w wr ∧ Hid (evens l = acc ++ evens (l.drop (2 * j)))) (fun _ i _ => n + 2 - (intOf i).toNat)
  case atStart => exact ⟨0, [], [], by omega, rfl, rfl, World.ownsRow_nil _ _ _ _, rfl, Below.refl _ _, H0⟩
  case round =>
    obtain ⟨j, acc, xs, hj, hacc, rfl, hown, hrow, hbw, hev⟩ := hrel
    clear H0
    obtain ⟨A', c', rfl⟩ := own_sliceT hown
    have hzw := hbw.size
    obtain ⟨k, hk⟩ : ∃ k, 2 * j = k := ⟨_, rfl⟩
    rw [hk] at hev hj ⊢
    by_cases hlt : k < n
    · have hkl : k < l.length := by rw [HN.out]; exact hlt
      obtain ⟨d', ad, y, hdd, rfl, hab, hok, hna, hkk⟩ := (HL.out.below hbw hB).at_ hkl
      have hev2 : evens l = (acc ++ [l[k]]) ++ evens (l.drop (k + 2)) := by
        rw [hev.out, evens_drop l k hkl, List.append_assoc]
        rfl
      obtain ⟨_, A1, c1, rfl⟩ := hkk.slice
      obtain ⟨n1, hn1⟩ : ∃ n1, l[k].kids.length = n1 := ⟨_, rfl⟩
      rw [hn1] at hkk hna
      have hone : RowT wr (fun q => q < B) d [l[k]] (nodeCells l[k].own (.slice A1 n1 c1)) := RowT.one hok (hkk.deeper (by omega))
      have hrow2 := RowT.append hone hrow
      obtain ⟨o1, ho1⟩ : ∃ o, l[k].own = o := ⟨_, rfl⟩
      rw [ho1] at hna hrow2
      obtain ⟨kind3, b3, neg3, dg3, ex3, u3, wd3, s3⟩ := o1
      unfold nodeCells at hrow2
      obtain ⟨k0, k1, k2, k3, k4, k5, k6, k7, k8⟩ := hna
      simp only [] at k0 k1 k2 k3 k4 k5 k6 k7 k8 hrow2
      have HR2 := Lib.hid hrow2
      have HE2 := Lib.hid hev2
      have HOWN := Lib.hid hown
      have y1 : (k : Int) < n := by omega
      have y2 : (k : Int) + 2 ≤ 2000000000000 := by omega
      have hq : ∀ q, (Value.slice A' j c').ownBlock = some q → w.heap.size ≤ q ∧ q < wr.heap.size := fun q e => ⟨(hown.lt q e).1, (hown.lt q e).2⟩
      have HQ := Lib.hid hq
      have hown2 : (wr.alloc (.cells #[.int .i64 kind3, .bool b3, .bool neg3, .string dg3, .int .i64 ex3, .int .u64 u3, .int .i64 wd3, .string s3, .slice A1 n1 c1] 27)).ownsRow w.heap.size 27 9 (.slice A' j c') j xs := hown.alloc _
      have c3 : j + 1 ≤ maxLen := by unfold maxLen; omega
      clear hlen
      have yj : (j : Int) ≤ 1000000000000 := by omega
      have HK := Lib.hid hk
      have HACC := Lib.hid hacc
      clear hev hev2 hkk hok hdd ho1 hn1 hone hrow hrow2 hown hq hk hacc
      go_wp2_with (at_builtin; refine wpList_append_lies _ rfl _ _ 25 rfl w.heap.size 27 i0 (.agg #[.int .i64 0, .bool false, .bool false, .string ⟨#[]⟩, .int .i64 0, .int .u64 0, .int .i64 0, .string ⟨#[]⟩, .slice none 0 0]) 9 104 Tryz.underlying25 HI.out HZ0.out HZ1.out HZ2.out rfl (by decide) _ _ _ rfl hown2 ⟨wr.heap.size, 0, none⟩ 1 1 [.int .i64 kind3, .bool b3, .bool neg3, .string dg3, .int .i64 ex3, .int .u64 u3, .int .i64 wd3, .string s3, .slice A1 n1 c1] rfl rfl (cells_newT _ [.int .i64 kind3, .bool b3, .bool neg3, .string dg3, .int .i64 ex3, .int .u64 u3, .int .i64 wd3, .string s3, .slice A1 n1 c1] _) (by intro u hu; simp at hu; rcases hu with rfl | rfl | rfl | rfl | rfl | rfl | rfl | rfl | rfl <;> rfl) (by decide) (by omega) (by omega) (by simp; omega) (wr.heap.size + 1) (by simp) ?_; intro g cap w4 hown4 hgrow hat hg4)
      have hbw4 : Below w.heap.size w w4 := (hbw.alloc hbw.size _).grown hgrow (by simp; omega) (fun q e => (HQ.out q e).1)
      have hkp : ∀ q, q < w.heap.size → w4.heap[q]? = wr.heap[q]? := fun q hq => (hbw4.block q hq).trans (hbw.block q hq).symm
      have hrow4 := HR2.out.keep (W' := w4) (fun q hq => hkp q (by omega))
      have HR4 := Lib.hid hrow4
      have HO4 := Lib.hid hown4
      clear hgrow hat hg4 hkp hrow4 hown4 hown2 HR2 HOWN HQ hbw k0 k1 k2 k3 k4 k5 k6 k7 k8
      go_wp2_with fail
      go_roundw
      case rel => exact ⟨j + 1, _, _, by have := HK.out; omega, by rw [List.length_append, HACC.out]; rfl, by have := HK.out; rw [show 2 * (j + 1) = k + 2 by omega]; go_num, HO4.out, HR4.out, hbw4, by have := HK.out; rw [show 2 * (j + 1) = k + 2 by omega]; exact HE2⟩
      case measure => simp [intOf]; omega
    · have y1 : ¬ (k : Int) < n := by omega
      have hfin : evens l = acc := by
        rw [hev.out, List.drop_eq_nil_of_le (by rw [HN.out]; omega)]
        exact List.append_nil _
      have hres : ListAt wr wr.heap.size (d + 1) acc (.slice A' j c') := hrow.list hown hacc.symm (by omega) (fun q hq => by omega) (fun a e => by
        subst e
        exact (hown.lt a.block rfl).2)
      have HFIN := Lib.hid hfin
      have HRES := Lib.hid hres
      have HACC := Lib.hid hacc
      clear hlen
      clear hown hrow hev hfin hres hk hacc
      go_wp2_with fail
      go_ret
      exact ⟨⟨_, _, _, rfl, by rw [HFIN.out]; exact HACC.out, by rw [HFIN.out]; exact HRES.out⟩, hbw⟩
end Go.Proofs.YtfckekaegjjmkaaGreatDoor
