/- The texts CrX, CrT, put together. -/
import Derived.Test.YtflkmhgbinlfiaaGreatDoorPq41
import Derived.Test.YtflkmhgbinlfiaaGreatDoorPq08
import Derived.Stop.Asserts
namespace Go.Proofs.YtflkmhgbinlfiaaGreatDoor
open Go.RowKit Go.Shelf
attribute [local go_sem] Oper.semAt_some

set_option maxHeartbeats 4000000 in
set_option maxRecDepth 100000 in
theorem cr_item_zero {w0 : World} (F : Nat) : ItemC w0 F 0 := by
  intro p s w hb0 hp hr hs hF
  have hb1 := (Below.refl w.heap.size w).alloc (Nat.le_refl _) (.cells #[.int .i64 0, .bool false, .bool false, .string ⟨#[]⟩, .int .i64 0, .int .u64 0, .int .i64 0, .string ⟨#[]⟩, .slice none 0 0] 28)
  have hk1 := Blk.new w #[.int .i64 0, .bool false, .bool false, .string ⟨#[]⟩, .int .i64 0, .int .u64 0, .int .i64 0, .string ⟨#[]⟩, .slice none 0 0] 28
  have hr1 := hr.alloc (.cells #[.int .i64 0, .bool false, .bool false, .string ⟨#[]⟩, .int .i64 0, .int .u64 0, .int .i64 0, .string ⟨#[]⟩, .slice none 0 0] 28)
  have hplt := hr.lt
  have zr0 := hr1.cell 0
  have zr1 := hr1.cell 1
  by_cases h0 : s.size = 0
  · have e0 := str_empty h0
    subst e0
    show Calls _ _ _ _ (ReadN p 16 0 w ⟨#[]⟩ (.bad 100))
    have HS := Lib.hid (show Calls Tryz.prog 38 #[.pointer (some ⟨p, 0, none⟩)] (w.alloc (.cells #[.int .i64 0, .bool false, .bool false, .string ⟨#[]⟩, .int .i64 0, .int .u64 0, .int .i64 0, .string ⟨#[]⟩, .slice none 0 0] 28)) fun x w' => (w.alloc (.cells #[.int .i64 0, .bool false, .bool false, .string ⟨#[]⟩, .int .i64 0, .int .u64 0, .int .i64 0, .string ⟨#[]⟩, .slice none 0 0] 28)).grownBy w' (some p) ∧ x = .returned (.tuple #[startV (0, 0, 0), errW 100]) ∧ RdB w' p ⟨#[]⟩ 16 from by
      have := cr_start p 16 ⟨#[]⟩ _ hr1 hs
      exact this)
    obtain ⟨ex, hex⟩ : ∃ x, errW 100 = .iface 95 x := ⟨_, errW_ne (by decide)⟩
    rw [hex] at HS
    have HEX := Lib.hid hex
    clear hex hF h0
    go_enter Tryz.func24, Tryz.ntmps24
    go_wp2_with fail
    refine HS.out.mono ?_
    rintro x w3 ⟨hg3, rfl, hr3⟩
    have hk3 := (RdB.grown hk1 hg3 (by omega)).alloc (.cells #[.int .i64 0, .int .i64 0, .int .u64 0] 88)
    have hr4 := hr3.alloc (.cells #[.int .i64 0, .int .i64 0, .int .u64 0] 88)
    go_wp2_with (refine wpList_store_row rfl 28 (.tmp 2) (.tmp 32) rfl (w.heap.size) #[.int .i64 0, .bool false, .bool false, .string ⟨#[]⟩, .int .i64 0, .int .u64 0, .int .i64 0, .string ⟨#[]⟩, .slice none 0 0] rfl rfl 28 _ hk3 (by kernel_rfl) rfl (by simp [Value.oneCell']) ?_)
    refine bodyPost_ret (results_cell (T := 28) rfl rfl rfl (blk_row hk3 #[.int .i64 0, .bool false, .bool false, .string ⟨#[]⟩, .int .i64 0, .int .u64 0, .int .i64 0, .string ⟨#[]⟩, .slice none 0 0]) Tryz.underlying28 rfl (by kernel_rfl)) rfl ?_
    have hgA := grown_of (grown_trans (below_grown hb1 (some p)) hg3) ((Below.refl w3.heap.size w3).alloc (Nat.le_refl _) (.cells #[.int .i64 0, .int .i64 0, .int .u64 0] 88))
    have hgB := grown_at hgA (grown_row _ w.heap.size #[.int .i64 0, .bool false, .bool false, .string ⟨#[]⟩, .int .i64 0, .int .u64 0, .int .i64 0, .string ⟨#[]⟩, .slice none 0 0]) (Nat.le_refl _)
    exact ⟨hgB, ⟨zeroO, none, 0, 0, by rw [HEX.out]; rfl⟩, by decide, _, blk_row_other hr4 (by omega) _, Nat.le_refl _⟩
  · have hne := str_noneQ h0
    have hl : s.data.toList ≠ [] := fun e => h0 (by
      have : s.data.toList.length = s.size := by simp
      rw [e] at this
      exact this.symm)
    show Calls _ _ _ _ (ReadN p 16 0 w s (if s.data.toList = [] then .bad 100 else .bad 60))
    rw [if_neg hl]
    have HF := Lib.hid (fun (W : World) (b : Nat) (hk : Blk W b #[.int .i64 60] 29) => cr_first b 60 W hk)
    rw [if_neg (by decide)] at HF
    obtain ⟨ev, hev⟩ : ∃ ev, errW 60 = ev := ⟨_, rfl⟩
    rw [hev] at HF
    have HEV := Lib.hid hev
    have hk5 := hk1.alloc (.cells #[.int .i64 60] 29)
    have hr5 := hr1.alloc (.cells #[.int .i64 60] 29)
    have hkE := Blk.new (w.alloc (.cells #[.int .i64 0, .bool false, .bool false, .string ⟨#[]⟩, .int .i64 0, .int .u64 0, .int .i64 0, .string ⟨#[]⟩, .slice none 0 0] 28)) #[.int .i64 60] 29
    rw [World.size_alloc] at hkE
    clear hev hl h0 hF
    go_enter Tryz.func24, Tryz.ntmps24
    go_wp2_with fail
    refine (HF.out _ _ hkE).mono ?_
    rintro x w6 ⟨rfl, rfl⟩
    go_wp2_with (refine wpList_store_row rfl 28 (.tmp 2) (.tmp 22) rfl (w.heap.size) #[.int .i64 0, .bool false, .bool false, .string ⟨#[]⟩, .int .i64 0, .int .u64 0, .int .i64 0, .string ⟨#[]⟩, .slice none 0 0] rfl rfl 28 _ hk5 (by kernel_rfl) rfl (by simp [Value.oneCell']) ?_)
    refine bodyPost_ret (results_cell (T := 28) rfl rfl rfl (blk_row hk5 #[.int .i64 0, .bool false, .bool false, .string ⟨#[]⟩, .int .i64 0, .int .u64 0, .int .i64 0, .string ⟨#[]⟩, .slice none 0 0]) Tryz.underlying28 rfl (by kernel_rfl)) rfl ?_
    have hb6 := hb1.alloc hb1.size (.cells #[.int .i64 60] 29)
    exact ⟨grown_at (below_grown hb6 (some p)) (grown_row _ w.heap.size _) (Nat.le_refl _), ⟨zeroO, none, 0, 0, by rw [HEV.out]; rfl⟩, by decide, s, blk_row_other hr5 (by omega) _, Nat.le_refl _⟩
/-- item: the contract, however deep (sixteen at most). -/
theorem cr_item {w0 : World} (htab : Lib.TabIs Tryz.prog w0 "internal/strconv.uint64pow10" .u64 Lib.pow10Tab) (F : Nat) : ∀ d, d ≤ 16 → ItemC w0 F d
  | 0, _ => cr_item_zero F
  | d + 1, h => cr_item_step htab F d h (cr_item htab F d (by omega))
end Go.Proofs.YtflkmhgbinlfiaaGreatDoor
namespace Go.Proofs.YtflkmhgbinlfiaaGreatDoor
open Go.RowKit Go.Shelf Go.Extern.Stop Go.Stop Go.Extern
attribute [local go_sem] Oper.semAt_some

theorem as_valueOfP (t : Addr) (w : World) : (ReflectliteValue.unpack (.iface 97 (.pointer (some t)))).run Tryz.prog w
    = .ok (.agg #[.pointer (some ⟨11, 97, none⟩), .pointer (some ⟨w.heap.size, 0, none⟩), .int .u64 150]) (w.alloc (.cells #[.pointer (some t)] 97)) := by kernel_rfl
theorem as_typeP (a : Addr) (w : World) : (ReflectliteValue.methodAny (ReflectliteValue.valueError "reflectlite.Value.Type" 0) (fun t _ _ _ => ReflectliteType.toType t) #[.agg #[.pointer (some ⟨11, 97, none⟩), .pointer (some a), .int .u64 150]]).run Tryz.prog w
    = .ok (.iface 119 (.agg #[.pointer (some ⟨11, 97, none⟩)])) w := by kernel_rfl
theorem as_methodKind (h : Value) (w : World) : (Go.method 412 119 (.agg #[h]) "Kind").run Tryz.prog w = .ok (226, h) w := by kernel_rfl
theorem as_kindP (w : World) : ((ReflectliteType.abiMethod fun t => (fun a : Nat => Value.int IntKind.u8 (a : Int)) <$> Rtype.kind t) #[.pointer (some ⟨11, 97, none⟩)]).run Tryz.prog w = .ok (.int .u8 22) w := by kernel_rfl
theorem as_kindW (w : World) : ((ReflectliteType.abiMethod fun t => (fun a : Nat => Value.int IntKind.u8 (a : Int)) <$> Rtype.kind t) #[.pointer (some ⟨11, 95, none⟩)]).run Tryz.prog w = .ok (.int .u8 25) w := by kernel_rfl
theorem as_rlm (z : Sem Value) (f : TypeId → Addr → Nat → Nat → Sem Value) (v : Value) :
    ReflectliteValue.method z f #[v] = (do match ← ReflectliteValue.parts v with | none => z | some (t, a, fl) => f t a fl (fl % 32)) := rfl
theorem as_partsP (a : Addr) (w : World) : (ReflectliteValue.parts (.agg #[.pointer (some ⟨11, 97, none⟩), .pointer (some a), .int .u64 150])).run Tryz.prog w = .ok (some (97, a, 150)) w := by kernel_rfl
theorem as_isNil (a p : Addr) (W : World) (ha : W.cell? a = some (.pointer (some p))) :
    (ReflectliteValue.method (ReflectliteValue.valueError "reflectlite.Value.IsNil" 0) ReflectliteValue.isNil #[.agg #[.pointer (some ⟨11, 97, none⟩), .pointer (some a), .int .u64 150]]).run Tryz.prog W = .ok (.bool false) W := by
  rw [as_rlm]
  simp only [Sem.run_bind, as_partsP, Result.andThen]
  simp [ReflectliteValue.isNil, loadVar, isAgg, underlying, Tryz.underlying97, ha, Result.andThen]
theorem as_methodElem (h : Value) (w : World) : (Go.method 412 119 (.agg #[h]) "Elem").run Tryz.prog w = .ok (234, .agg #[h]) w := by kernel_rfl
theorem as_methodImplements (h : Value) (w : World) : (Go.method 412 119 (.agg #[h]) "Implements").run Tryz.prog w = .ok (235, .agg #[h]) w := by kernel_rfl
theorem as_methodAssignableTo (h : Value) (w : World) : (Go.method 412 119 (.agg #[h]) "AssignableTo").run Tryz.prog w = .ok (232, .agg #[h]) w := by kernel_rfl
theorem as_elemP (w : World) : (ReflectliteType.method ReflectliteType.elem #[.agg #[.pointer (some ⟨11, 97, none⟩)]]).run Tryz.prog w = .ok (.iface 119 (.agg #[.pointer (some ⟨11, 95, none⟩)])) w := by kernel_rfl
theorem as_implements (w : World) : (ReflectliteType.relation "Implements" ReflectliteType.implements_ #[.agg #[.pointer (some ⟨11, 95, none⟩)], .iface 119 (.agg #[.pointer (some ⟨11, 53, none⟩)])]).run Tryz.prog w = .ok (.bool true) w := by kernel_rfl
theorem as_typeOf (v : Value) (w : World) : (ReflectliteType.typeOf #[.iface 95 v]).run Tryz.prog w = .ok (.iface 119 (.agg #[.pointer (some ⟨11, 95, none⟩)])) w := by kernel_rfl
theorem as_assignable (w : World) : (ReflectliteType.relation "AssignableTo" ReflectliteType.assignableTo #[.agg #[.pointer (some ⟨11, 95, none⟩)], .iface 119 (.agg #[.pointer (some ⟨11, 95, none⟩)])]).run Tryz.prog w = .ok (.bool true) w := by kernel_rfl
theorem as_valueOfW (e : Int) (w : World) : (ReflectliteValue.unpack (.iface 95 (.agg #[.int .i64 e]))).run Tryz.prog w
    = .ok (.agg #[.pointer (some ⟨11, 95, none⟩), .pointer (some ⟨w.heap.size, 0, none⟩), .int .u64 153]) (w.alloc (.cells #[.int .i64 e] 95)) := by kernel_rfl
theorem as_elemOf (w : World) : (Rtype.elem? 97).run Tryz.prog w = .ok (some 95) w := by kernel_rfl
theorem as_mk (p : Addr) (w : World) : (ReflectliteValue.mk 95 p ReflectliteValue.flagAddr).run Tryz.prog w = .ok (.agg #[.pointer (some ⟨11, 95, none⟩), .pointer (some p), .int .u64 409]) w := by kernel_rfl
theorem as_elemV (a p : Addr) (W : World) (ha : W.cell? a = some (.pointer (some p))) :
    (ReflectliteValue.method (ReflectliteValue.valueError "reflectlite.Value.Elem" 0) ReflectliteValue.elem #[.agg #[.pointer (some ⟨11, 97, none⟩), .pointer (some a), .int .u64 150]]).run Tryz.prog W
      = .ok (.agg #[.pointer (some ⟨11, 95, none⟩), .pointer (some p), .int .u64 409]) W := by
  rw [as_rlm]
  simp only [Sem.run_bind, as_partsP, Result.andThen]
  simp [ReflectliteValue.elem, loadVar, isAgg, underlying, Tryz.underlying97, ha, Result.andThen, as_elemOf, as_mk]
theorem as_rls (v x : Value) : ReflectliteValue.set #[v, x] = (do
    let (some (dst, a, fl), some (src, b, _)) := (← ReflectliteValue.parts v, ← ReflectliteValue.parts x)
      | unsupported (.noEntry "extern/(internal/reflectlite.Value).Set.zeroValue")
    if fl / ReflectliteValue.flagAddr % 2 == 0 then unsupported (.noEntry "extern/(internal/reflectlite.Value).Set.unaddressable")
    let val ← loadVar src b
    if ← Rtype.directlyAssignable dst src then storeVar dst a val
    else if ← Rtype.implements dst src then
      if (← Rtype.kind src) == 20 then
        match val with
        | .nilIface => unsupported (.noEntry "extern/reflectlite: a nil value of one interface type handed on as a value of another")
        | _ => storeVar dst a val
      else storeVar dst a (.iface src val)
    else panicString ("reflectlite.Set: value of type " ++ (← Rtype.spelt src) ++ " is not assignable to type " ++ (← Rtype.spelt dst))
    pure (.tuple #[])) := rfl
theorem as_partsA (a : Addr) (w : World) : (ReflectliteValue.parts (.agg #[.pointer (some ⟨11, 95, none⟩), .pointer (some a), .int .u64 409])).run Tryz.prog w = .ok (some (95, a, 409)) w := by kernel_rfl
theorem as_partsW (a : Addr) (w : World) : (ReflectliteValue.parts (.agg #[.pointer (some ⟨11, 95, none⟩), .pointer (some a), .int .u64 153])).run Tryz.prog w = .ok (some (95, a, 153)) w := by kernel_rfl
theorem as_direct (w : World) : (Rtype.directlyAssignable 95 95).run Tryz.prog w = .ok true w := by kernel_rfl
/-- (Value).Set: the variable at 'tb' gets what the Value's own variable 'b' holds. -/
theorem as_set (tb b : Nat) (e old : Int) (W : World) (hb : Blk W b #[.int .i64 e] 95) (ht : Blk W tb #[.int .i64 old] 95) :
    (ReflectliteValue.set #[.agg #[.pointer (some ⟨11, 95, none⟩), .pointer (some ⟨tb, 0, none⟩), .int .u64 409], .agg #[.pointer (some ⟨11, 95, none⟩), .pointer (some ⟨b, 0, none⟩), .int .u64 153]]).run Tryz.prog W
      = .ok (.tuple #[]) (W.setRow tb #[.int .i64 e]) := by
  rw [as_rls]
  have h1 := run_loadVar_row (P := Tryz.prog) W b 95 95 #[.int .i64 e] (0, 0) _ hb Tryz.underlying95 rfl (by kernel_rfl)
  have h2 := run_storeVar_row (P := Tryz.prog) W tb 95 95 #[.int .i64 old] #[.int .i64 e] ht (by kernel_rfl) rfl (by simp [Value.oneCell'])
  simp only [Sem.run_bind, as_partsA, as_partsW, Result.andThen]
  simp [ReflectliteValue.flagAddr, h1, as_direct, h2, Result.andThen]

set_option maxHeartbeats 4000000 in
set_option maxRecDepth 100000 in
theorem as_in (e : Int) (tb : Nat) (w : World) (v : Addr) (hv : w.cell? v = some (.pointer (some ⟨tb, 0, none⟩))) (ht : Blk w tb #[.int .i64 0] 95) :
    Calls Tryz.prog 76 #[.iface 95 (.agg #[.int .i64 e]), .iface 97 (.pointer (some ⟨tb, 0, none⟩)), .agg #[.pointer (some ⟨11, 97, none⟩), .pointer (some v), .int .u64 150], .iface 119 (.agg #[.pointer (some ⟨11, 95, none⟩)])] w fun x w' => x = .returned (.bool true) ∧ w.grownBy w' (some tb) ∧ Blk w' tb #[.int .i64 e] 95 := by
  have h35 := @run_callFunc_extern Tryz.prog 35 _ (ReflectliteType.typeOf) Tryz.func35 (by kernel_rfl) (by kernel_rfl) (by kernel_rfl) (by kernel_rfl)
  have h73 := @run_callFunc_extern Tryz.prog 73 _ (fun args => ReflectliteValue.unpack (args.getD 0 (.tuple #[]))) Tryz.func73 (by kernel_rfl) (by kernel_rfl) (by kernel_rfl) (by kernel_rfl)
  have h104 := @run_callFunc_extern Tryz.prog 104 _ (ReflectliteValue.method (ReflectliteValue.valueError "reflectlite.Value.Elem" 0) ReflectliteValue.elem) Tryz.func104 (by kernel_rfl) (by kernel_rfl) (by kernel_rfl) (by kernel_rfl)
  have h105 := @run_callFunc_extern Tryz.prog 105 _ (ReflectliteValue.set) Tryz.func105 (by kernel_rfl) (by kernel_rfl) (by kernel_rfl) (by kernel_rfl)
  have hA := @run_callFunc_extern Tryz.prog 232 _ (ReflectliteType.relation "AssignableTo" ReflectliteType.assignableTo) Tryz.func232 (by kernel_rfl) (by kernel_rfl) (by kernel_rfl) (by kernel_rfl)
  have tO := as_typeOf
  have mA := as_methodAssignableTo
  have aW := as_assignable
  have vW := as_valueOfW
  have hvl : v.block < w.heap.size := World.block_lt_of_cell? w v hv
  have el := as_elemV v ⟨tb, 0, none⟩ (w.alloc (.cells #[.pointer (some ⟨11, 97, none⟩), .pointer (some v), .int .u64 150] 135)) (by rw [World.cell?_alloc_lt _ _ v hvl]; exact hv)
  have hk1 := Blk.new (w.alloc (.cells #[.pointer (some ⟨11, 97, none⟩), .pointer (some v), .int .u64 150] 135)) #[.int .i64 e] 95
  rw [World.size_alloc] at hk1
  have ht2 := (ht.alloc (.cells #[.pointer (some ⟨11, 97, none⟩), .pointer (some v), .int .u64 150] 135)).alloc (.cells #[.int .i64 e] 95)
  have st := as_set tb (w.heap.size + 1) e 0 ((w.alloc (.cells #[.pointer (some ⟨11, 97, none⟩), .pointer (some v), .int .u64 150] 135)).alloc (.cells #[.int .i64 e] 95)) hk1 ht2
  have hb := ((Below.refl w.heap.size w).alloc (Nat.le_refl _) (.cells #[.pointer (some ⟨11, 97, none⟩), .pointer (some v), .int .u64 150] 135)).alloc (by simp) (.cells #[.int .i64 e] 95)
  go_enter Tryz.func76, Tryz.ntmps76
  go_wp2
  refine wp_loop_rounds 1 ?_
  rw [rounds_succ]
  go_wp2
  go_ret
  exact ⟨rfl, grown_trans (below_grown hb (some tb)) (grown_row _ _ _), blk_row ht2 _⟩

set_option maxHeartbeats 4000000 in
set_option maxRecDepth 100000 in
theorem as_hit (e : Int) (tb : Nat) (w : World) (hg : w.cell? ⟨2, 0, none⟩ = some (.iface 119 (.agg #[.pointer (some ⟨11, 53, none⟩)]))) (ht : Blk w tb #[.int .i64 0] 95) :
    Calls Tryz.prog 41 #[.iface 95 (.agg #[.int .i64 e]), .iface 97 (.pointer (some ⟨tb, 0, none⟩))] w fun x w' => x = .returned (.bool true) ∧ w.grownBy w' (some tb) ∧ Blk w' tb #[.int .i64 e] 95 := by
  have h6 := @run_callFunc_extern Tryz.prog 73 _ (fun args => ReflectliteValue.unpack (args.getD 0 (.tuple #[]))) Tryz.func73 (by kernel_rfl) (by kernel_rfl) (by kernel_rfl) (by kernel_rfl)
  have h7 := @run_callFunc_extern Tryz.prog 74 _ (ReflectliteValue.methodAny (ReflectliteValue.valueError "reflectlite.Value.Type" 0) (fun t _ _ _ => ReflectliteType.toType t)) Tryz.func74 (by kernel_rfl) (by kernel_rfl) (by kernel_rfl) (by kernel_rfl)
  have h8 := @run_callFunc_extern Tryz.prog 75 _ (ReflectliteValue.method (ReflectliteValue.valueError "reflectlite.Value.IsNil" 0) ReflectliteValue.isNil) Tryz.func75 (by kernel_rfl) (by kernel_rfl) (by kernel_rfl) (by kernel_rfl)
  have h27 := @run_callFunc_extern Tryz.prog 226 _ (ReflectliteType.abiMethod fun t => do pure (.int .u8 (← Rtype.kind t))) Tryz.func226 (by kernel_rfl) (by kernel_rfl) (by kernel_rfl) (by kernel_rfl)
  have h37 := @run_callFunc_extern Tryz.prog 234 _ (ReflectliteType.method ReflectliteType.elem) Tryz.func234 (by kernel_rfl) (by kernel_rfl) (by kernel_rfl) (by kernel_rfl)
  have h38 := @run_callFunc_extern Tryz.prog 235 _ (ReflectliteType.relation "Implements" ReflectliteType.implements_) Tryz.func235 (by kernel_rfl) (by kernel_rfl) (by kernel_rfl) (by kernel_rfl)
  have f6 := as_valueOfP
  have f7 := as_typeP
  have mK := as_methodKind
  have mE := as_methodElem
  have mI := as_methodImplements
  have kP := as_kindP
  have kW := as_kindW
  have eP := as_elemP
  have iW := as_implements
  have hk0 := Blk.new w #[.pointer (some ⟨tb, 0, none⟩)] 97
  have hk1 := hk0.alloc (.cells #[.pointer (some ⟨11, 97, none⟩), .pointer (some ⟨w.heap.size, 0, none⟩), .int .u64 150] 135)
  have n8 := as_isNil ⟨w.heap.size, 0, none⟩ ⟨tb, 0, none⟩ ((w.alloc (.cells #[.pointer (some ⟨tb, 0, none⟩)] 97)).alloc (.cells #[.pointer (some ⟨11, 97, none⟩), .pointer (some ⟨w.heap.size, 0, none⟩), .int .u64 150] 135)) (hk1.cell 0)
  have hlt : 2 < w.heap.size := World.block_lt_of_cell? w ⟨2, 0, none⟩ hg
  have hg2 : ((w.alloc (.cells #[.pointer (some ⟨tb, 0, none⟩)] 97)).alloc (.cells #[.pointer (some ⟨11, 97, none⟩), .pointer (some ⟨w.heap.size, 0, none⟩), .int .u64 150] 135)).cell? ⟨2, 0, none⟩ = some (.iface 119 (.agg #[.pointer (some ⟨11, 53, none⟩)])) := by
    rw [World.cell?_alloc_lt _ _ ⟨2, 0, none⟩ (by simp; omega), World.cell?_alloc_lt _ _ ⟨2, 0, none⟩ hlt]; exact hg
  have ht2 := (ht.alloc (.cells #[.pointer (some ⟨tb, 0, none⟩)] 97)).alloc (.cells #[.pointer (some ⟨11, 97, none⟩), .pointer (some ⟨w.heap.size, 0, none⟩), .int .u64 150] 135)
  have HIN := Lib.hid (as_in e tb ((w.alloc (.cells #[.pointer (some ⟨tb, 0, none⟩)] 97)).alloc (.cells #[.pointer (some ⟨11, 97, none⟩), .pointer (some ⟨w.heap.size, 0, none⟩), .int .u64 150] 135)) ⟨w.heap.size, 0, none⟩ (hk1.cell 0) ht2)
  have hb := ((Below.refl w.heap.size w).alloc (Nat.le_refl _) (.cells #[.pointer (some ⟨tb, 0, none⟩)] 97)).alloc (by simp) (.cells #[.pointer (some ⟨11, 97, none⟩), .pointer (some ⟨w.heap.size, 0, none⟩), .int .u64 150] 135)
  go_enter Tryz.func41, Tryz.ntmps41
  go_wp2_with fail
  refine HIN.out.mono ?_
  rintro x w3 ⟨rfl, hg3, hk3⟩
  go_wp2_with fail
  go_ret
  exact ⟨rfl, grown_trans (below_grown hb (some tb)) hg3, hk3⟩

set_option maxHeartbeats 2000000 in
set_option maxRecDepth 100000 in
/-- told: a wrong's number. -/
theorem cr_told (e : Int) (he : e ≠ 0) (w : World) (hg : w.cell? ⟨2, 0, none⟩ = some (.iface 119 (.agg #[.pointer (some ⟨11, 53, none⟩)]))) :
    Calls Tryz.prog 25 #[errW e] w fun x w' => x = .returned (.int .i64 e) ∧ Below w.heap.size w w' := by
  rw [errW_ne he]
  have hlt : 2 < w.heap.size := World.block_lt_of_cell? w ⟨2, 0, none⟩ hg
  have hk := Blk.new w #[.int .i64 0] 95
  have hb := (Below.refl w.heap.size w).alloc (Nat.le_refl _) (.cells #[.int .i64 0] 95)
  have HA := Lib.hid (as_hit e w.heap.size (w.alloc (.cells #[.int .i64 0] 95)) (by rw [World.cell?_alloc_lt _ _ ⟨2, 0, none⟩ hlt]; exact hg) hk)
  go_enter Tryz.func25, Tryz.ntmps25
  go_wp2_with fail
  refine HA.out.mono ?_
  rintro x w2 ⟨rfl, hg2, hk2⟩
  have z0 := hk2.cell 0
  go_wp2_with fail
  go_ret
  exact ⟨rfl, hb.trans (grown_below hg2 (Nat.le_refl _) hk.lt)⟩
end Go.Proofs.YtflkmhgbinlfiaaGreatDoor
