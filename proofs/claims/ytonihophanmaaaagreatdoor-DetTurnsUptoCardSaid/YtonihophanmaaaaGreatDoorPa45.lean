/- The texts CrX, CrT, CrY, put together. -/
import Derived.Test.YtonihophanmaaaaGreatDoorPa44
import Derived.Test.YtonihophanmaaaaGreatDoorPa34
import Derived.Stop.Asserts
import Derived.Test.YtonihophanmaaaaGreatDoorPa19
import Derived.Lib.AppendIntMem
namespace Go.Proofs.YtonihophanmaaaaGreatDoor
open Go.RowKit Go.Shelf
attribute [local go_sem] Oper.semAt_some
set_option maxHeartbeats 4000000 in
set_option maxRecDepth 100000 in
theorem cr_item_zero {w0:World} (F:Nat):ItemC w0 F 0:=by
 intro p s w hb0 hp hr hs hF _
 have hb1:=(Below.refl w.heap.size w).alloc (Nat.le_refl _) (.cells #[.int .i64 0,.bool false,.bool false,.string ⟨#[]⟩,.int .i64 0,.int .u64 0,.int .i64 0,.string ⟨#[]⟩,.slice none 0 0] 28)
 have hk1:=Blk.new w #[.int .i64 0,.bool false,.bool false,.string ⟨#[]⟩,.int .i64 0,.int .u64 0,.int .i64 0,.string ⟨#[]⟩,.slice none 0 0] 28
 have hr1:=hr.alloc (.cells #[.int .i64 0,.bool false,.bool false,.string ⟨#[]⟩,.int .i64 0,.int .u64 0,.int .i64 0,.string ⟨#[]⟩,.slice none 0 0] 28)
 have hplt:=hr.lt
 have zr0:=hr1.cell 0
 have zr1:=hr1.cell 1
 by_cases h0:s.size=0
 ·have e0:=str_empty h0
  subst e0
  show Calls _ _ _ _ (ReadN p 16 0 w ⟨#[]⟩ (.bad 100))
  have HS:=Lib.hid (show Calls Tryz.prog 105 #[.pointer (some ⟨p,0,none⟩)] (w.alloc (.cells #[.int .i64 0,.bool false,.bool false,.string ⟨#[]⟩,.int .i64 0,.int .u64 0,.int .i64 0,.string ⟨#[]⟩,.slice none 0 0] 28)) fun x w'=>(w.alloc (.cells #[.int .i64 0,.bool false,.bool false,.string ⟨#[]⟩,.int .i64 0,.int .u64 0,.int .i64 0,.string ⟨#[]⟩,.slice none 0 0] 28)).grownBy w' (some p)∧x=.returned (.tuple #[startV (0,0,0),errW 100])∧RdB w' p ⟨#[]⟩ 16 from by
   have:=cr_start p 16 ⟨#[]⟩ _ hr1 hs
   exact this)
  obtain ⟨ex,hex⟩:∃ x,errW 100=.iface 144 x:=⟨_,errW_ne (by decide)⟩
  rw [hex]at HS
  have HEX:=Lib.hid hex
  clear hex hF h0
  go_enter Tryz.func68,Tryz.ntmps68
  go_wp2_with fail
  refine HS.out.mono ?_
  rintro x w3 ⟨hg3,rfl,hr3⟩
  have hk3:=(RdB.grown hk1 hg3 (by omega)).alloc (.cells #[.int .i64 0,.int .i64 0,.int .u64 0] 137)
  have hr4:=hr3.alloc (.cells #[.int .i64 0,.int .i64 0,.int .u64 0] 137)
  go_wp2_with (refine wpList_store_row rfl 28 (.tmp 2) (.tmp 32) rfl (w.heap.size) #[.int .i64 0,.bool false,.bool false,.string ⟨#[]⟩,.int .i64 0,.int .u64 0,.int .i64 0,.string ⟨#[]⟩,.slice none 0 0] rfl rfl 28 _ hk3 (by kernel_rfl) rfl (by simp [Value.oneCell']) ?_)
  refine bodyPost_ret (results_cell (T:=28) rfl rfl rfl (blk_row hk3 #[.int .i64 0,.bool false,.bool false,.string ⟨#[]⟩,.int .i64 0,.int .u64 0,.int .i64 0,.string ⟨#[]⟩,.slice none 0 0]) Tryz.underlying28 rfl (by kernel_rfl)) rfl ?_
  have hgA:=grown_of (grown_trans (below_grown hb1 (some p)) hg3) ((Below.refl w3.heap.size w3).alloc (Nat.le_refl _) (.cells #[.int .i64 0,.int .i64 0,.int .u64 0] 137))
  have hgB:=grown_at hgA (grown_row _ w.heap.size #[.int .i64 0,.bool false,.bool false,.string ⟨#[]⟩,.int .i64 0,.int .u64 0,.int .i64 0,.string ⟨#[]⟩,.slice none 0 0]) (Nat.le_refl _)
  exact ⟨hgB,⟨zeroO,none,0,0,by rw [HEX.out]; rfl⟩,by decide,_,blk_row_other hr4 (by omega) _,Nat.le_refl _⟩
 ·have hne:=str_noneQ h0
  have hl:s.data.toList≠[]:=fun e=>h0 (by
   have:s.data.toList.length=s.size:=by simp
   rw [e]at this
   exact this.symm)
  show Calls _ _ _ _ (ReadN p 16 0 w s (if s.data.toList=[] then .bad 100 else .bad 60))
  rw [if_neg hl]
  have HF:=Lib.hid (fun (W:World) (b:Nat) (hk:Blk W b #[.int .i64 60] 29)=>cr_first b 60 W hk)
  rw [if_neg (by decide)]at HF
  obtain ⟨ev,hev⟩:∃ ev,errW 60=ev:=⟨_,rfl⟩
  rw [hev]at HF
  have HEV:=Lib.hid hev
  have hk5:=hk1.alloc (.cells #[.int .i64 60] 29)
  have hr5:=hr1.alloc (.cells #[.int .i64 60] 29)
  have hkE:=Blk.new (w.alloc (.cells #[.int .i64 0,.bool false,.bool false,.string ⟨#[]⟩,.int .i64 0,.int .u64 0,.int .i64 0,.string ⟨#[]⟩,.slice none 0 0] 28)) #[.int .i64 60] 29
  rw [World.size_alloc]at hkE
  clear hev hl h0 hF
  go_enter Tryz.func68,Tryz.ntmps68
  go_wp2_with fail
  refine (HF.out _ _ hkE).mono ?_
  rintro x w6 ⟨rfl,rfl⟩
  go_wp2_with (refine wpList_store_row rfl 28 (.tmp 2) (.tmp 22) rfl (w.heap.size) #[.int .i64 0,.bool false,.bool false,.string ⟨#[]⟩,.int .i64 0,.int .u64 0,.int .i64 0,.string ⟨#[]⟩,.slice none 0 0] rfl rfl 28 _ hk5 (by kernel_rfl) rfl (by simp [Value.oneCell']) ?_)
  refine bodyPost_ret (results_cell (T:=28) rfl rfl rfl (blk_row hk5 #[.int .i64 0,.bool false,.bool false,.string ⟨#[]⟩,.int .i64 0,.int .u64 0,.int .i64 0,.string ⟨#[]⟩,.slice none 0 0]) Tryz.underlying28 rfl (by kernel_rfl)) rfl ?_
  have hb6:=hb1.alloc hb1.size (.cells #[.int .i64 60] 29)
  exact ⟨grown_at (below_grown hb6 (some p)) (grown_row _ w.heap.size _) (Nat.le_refl _),⟨zeroO,none,0,0,by rw [HEV.out]; rfl⟩,by decide,s,blk_row_other hr5 (by omega) _,Nat.le_refl _⟩
theorem cr_item {w0:World} (htab:Lib.TabIs Tryz.prog w0 "internal/strconv.uint64pow10" .u64 Lib.pow10Tab) (F:Nat):∀ d,d≤16→ItemC w0 F d
 | 0,_=>cr_item_zero F
 | d+1,h=>cr_item_step htab F d h (cr_item htab F d (by omega))
end Go.Proofs.YtonihophanmaaaaGreatDoor
namespace Go.Proofs.YtonihophanmaaaaGreatDoor
open Go.RowKit Go.Shelf Go.Extern.Stop Go.Stop Go.Extern
attribute [local go_sem] Oper.semAt_some
theorem as_valueOfP (t:Addr) (w:World):(ReflectliteValue.unpack (.iface 146 (.pointer (some t)))).run Tryz.prog w
  = .ok (.agg #[.pointer (some ⟨11,146,none⟩),.pointer (some ⟨w.heap.size,0,none⟩),.int .u64 150]) (w.alloc (.cells #[.pointer (some t)] 146)):=by kernel_rfl
theorem as_typeP (a:Addr) (w:World):(ReflectliteValue.methodAny (ReflectliteValue.valueError "reflectlite.Value.Type" 0) (fun t _ _ _=>ReflectliteType.toType t) #[.agg #[.pointer (some ⟨11,146,none⟩),.pointer (some a),.int .u64 150]]).run Tryz.prog w
  = .ok (.iface 107 (.agg #[.pointer (some ⟨11,146,none⟩)])) w:=by kernel_rfl
theorem as_methodKind (h:Value) (w:World):(Go.method 459 107 (.agg #[h]) "Kind").run Tryz.prog w=.ok (316,h) w:=by kernel_rfl
theorem as_kindP (w:World):((ReflectliteType.abiMethod fun t=>(fun a:Nat=>Value.int IntKind.u8 (a:Int)) <$> Rtype.kind t) #[.pointer (some ⟨11,146,none⟩)]).run Tryz.prog w=.ok (.int .u8 22) w:=by kernel_rfl
theorem as_kindW (w:World):((ReflectliteType.abiMethod fun t=>(fun a:Nat=>Value.int IntKind.u8 (a:Int)) <$> Rtype.kind t) #[.pointer (some ⟨11,144,none⟩)]).run Tryz.prog w=.ok (.int .u8 25) w:=by kernel_rfl
theorem as_rlm (z:Sem Value) (f:TypeId→Addr→Nat→Nat→Sem Value) (v:Value) :
  ReflectliteValue.method z f #[v]=(do match ← ReflectliteValue.parts v with | none=>z | some (t,a,fl)=>f t a fl (fl % 32)):=rfl
theorem as_partsP (a:Addr) (w:World):(ReflectliteValue.parts (.agg #[.pointer (some ⟨11,146,none⟩),.pointer (some a),.int .u64 150])).run Tryz.prog w=.ok (some (146,a,150)) w:=by kernel_rfl
theorem as_isNil (a p:Addr) (W:World) (ha:W.cell? a=some (.pointer (some p))) :
  (ReflectliteValue.method (ReflectliteValue.valueError "reflectlite.Value.IsNil" 0) ReflectliteValue.isNil #[.agg #[.pointer (some ⟨11,146,none⟩),.pointer (some a),.int .u64 150]]).run Tryz.prog W=.ok (.bool false) W:=by
 rw [as_rlm]
 simp only [Sem.run_bind,as_partsP,Result.andThen]
 simp [ReflectliteValue.isNil,loadVar,isAgg,underlying,Tryz.underlying146,ha,Result.andThen]
theorem as_methodElem (h:Value) (w:World):(Go.method 459 107 (.agg #[h]) "Elem").run Tryz.prog w=.ok (323,.agg #[h]) w:=by kernel_rfl
theorem as_methodImplements (h:Value) (w:World):(Go.method 459 107 (.agg #[h]) "Implements").run Tryz.prog w=.ok (324,.agg #[h]) w:=by kernel_rfl
theorem as_methodAssignableTo (h:Value) (w:World):(Go.method 459 107 (.agg #[h]) "AssignableTo").run Tryz.prog w=.ok (321,.agg #[h]) w:=by kernel_rfl
theorem as_elemP (w:World):(ReflectliteType.method ReflectliteType.elem #[.agg #[.pointer (some ⟨11,146,none⟩)]]).run Tryz.prog w=.ok (.iface 107 (.agg #[.pointer (some ⟨11,144,none⟩)])) w:=by kernel_rfl
theorem as_implements (w:World):(ReflectliteType.relation "Implements" ReflectliteType.implements_ #[.agg #[.pointer (some ⟨11,144,none⟩)],.iface 107 (.agg #[.pointer (some ⟨11,48,none⟩)])]).run Tryz.prog w=.ok (.bool true) w:=by kernel_rfl
theorem as_typeOf (v:Value) (w:World):(ReflectliteType.typeOf #[.iface 144 v]).run Tryz.prog w=.ok (.iface 107 (.agg #[.pointer (some ⟨11,144,none⟩)])) w:=by kernel_rfl
theorem as_assignable (w:World):(ReflectliteType.relation "AssignableTo" ReflectliteType.assignableTo #[.agg #[.pointer (some ⟨11,144,none⟩)],.iface 107 (.agg #[.pointer (some ⟨11,144,none⟩)])]).run Tryz.prog w=.ok (.bool true) w:=by kernel_rfl
theorem as_valueOfW (e:Int) (w:World):(ReflectliteValue.unpack (.iface 144 (.agg #[.int .i64 e]))).run Tryz.prog w
  = .ok (.agg #[.pointer (some ⟨11,144,none⟩),.pointer (some ⟨w.heap.size,0,none⟩),.int .u64 153]) (w.alloc (.cells #[.int .i64 e] 144)):=by kernel_rfl
theorem as_elemOf (w:World):(Rtype.elem? 146).run Tryz.prog w=.ok (some 144) w:=by kernel_rfl
theorem as_mk (p:Addr) (w:World):(ReflectliteValue.mk 144 p ReflectliteValue.flagAddr).run Tryz.prog w=.ok (.agg #[.pointer (some ⟨11,144,none⟩),.pointer (some p),.int .u64 409]) w:=by kernel_rfl
theorem as_elemV (a p:Addr) (W:World) (ha:W.cell? a=some (.pointer (some p))) :
  (ReflectliteValue.method (ReflectliteValue.valueError "reflectlite.Value.Elem" 0) ReflectliteValue.elem #[.agg #[.pointer (some ⟨11,146,none⟩),.pointer (some a),.int .u64 150]]).run Tryz.prog W
   = .ok (.agg #[.pointer (some ⟨11,144,none⟩),.pointer (some p),.int .u64 409]) W:=by
 rw [as_rlm]
 simp only [Sem.run_bind,as_partsP,Result.andThen]
 simp [ReflectliteValue.elem,loadVar,isAgg,underlying,Tryz.underlying146,ha,Result.andThen,as_elemOf,as_mk]
theorem as_rls (v x:Value):ReflectliteValue.set #[v,x]=(do
  let (some (dst,a,fl),some (src,b,_)):=(← ReflectliteValue.parts v,← ReflectliteValue.parts x)
   | unsupported (.noEntry "extern/(internal/reflectlite.Value).Set.zeroValue")
  if fl / ReflectliteValue.flagAddr % 2 == 0 then unsupported (.noEntry "extern/(internal/reflectlite.Value).Set.unaddressable")
  let val ← loadVar src b
  if ← Rtype.directlyAssignable dst src then storeVar dst a val
  else if ← Rtype.implements dst src then
   if (← Rtype.kind src) == 20 then
    match val with
    | .nilIface=>unsupported (.noEntry "extern/reflectlite: a nil value of one interface type handed on as a value of another")
    | _=>storeVar dst a val
   else storeVar dst a (.iface src val)
  else panicString ("reflectlite.Set: value of type " ++ (← Rtype.spelt src) ++ " is not assignable to type " ++ (← Rtype.spelt dst))
  pure (.tuple #[])):=rfl
theorem as_partsA (a:Addr) (w:World):(ReflectliteValue.parts (.agg #[.pointer (some ⟨11,144,none⟩),.pointer (some a),.int .u64 409])).run Tryz.prog w=.ok (some (144,a,409)) w:=by kernel_rfl
theorem as_partsW (a:Addr) (w:World):(ReflectliteValue.parts (.agg #[.pointer (some ⟨11,144,none⟩),.pointer (some a),.int .u64 153])).run Tryz.prog w=.ok (some (144,a,153)) w:=by kernel_rfl
theorem as_direct (w:World):(Rtype.directlyAssignable 144 144).run Tryz.prog w=.ok true w:=by kernel_rfl
theorem as_set (tb b:Nat) (e old:Int) (W:World) (hb:Blk W b #[.int .i64 e] 144) (ht:Blk W tb #[.int .i64 old] 144) :
  (ReflectliteValue.set #[.agg #[.pointer (some ⟨11,144,none⟩),.pointer (some ⟨tb,0,none⟩),.int .u64 409],.agg #[.pointer (some ⟨11,144,none⟩),.pointer (some ⟨b,0,none⟩),.int .u64 153]]).run Tryz.prog W
   = .ok (.tuple #[]) (W.setRow tb #[.int .i64 e]):=by
 rw [as_rls]
 have h1:=run_loadVar_row (P:=Tryz.prog) W b 144 144 #[.int .i64 e] (0,0) _ hb Tryz.underlying144 rfl (by kernel_rfl)
 have h2:=run_storeVar_row (P:=Tryz.prog) W tb 144 144 #[.int .i64 old] #[.int .i64 e] ht (by kernel_rfl) rfl (by simp [Value.oneCell'])
 simp only [Sem.run_bind,as_partsA,as_partsW,Result.andThen]
 simp [ReflectliteValue.flagAddr,h1,as_direct,h2,Result.andThen]
set_option maxHeartbeats 4000000 in
set_option maxRecDepth 100000 in
theorem as_in (e:Int) (tb:Nat) (w:World) (v:Addr) (hv:w.cell? v=some (.pointer (some ⟨tb,0,none⟩))) (ht:Blk w tb #[.int .i64 0] 144) :
  Calls Tryz.prog 153 #[.iface 144 (.agg #[.int .i64 e]),.iface 146 (.pointer (some ⟨tb,0,none⟩)),.agg #[.pointer (some ⟨11,146,none⟩),.pointer (some v),.int .u64 150],.iface 107 (.agg #[.pointer (some ⟨11,144,none⟩)])] w fun x w'=>x=.returned (.bool true)∧w.grownBy w' (some tb)∧Blk w' tb #[.int .i64 e] 144:=by
 have h35:=@run_callFunc_extern Tryz.prog 52 _ (ReflectliteType.typeOf) Tryz.func52 (by kernel_rfl) (by kernel_rfl) (by kernel_rfl) (by kernel_rfl)
 have h73:=@run_callFunc_extern Tryz.prog 150 _ (fun args=>ReflectliteValue.unpack (args.getD 0 (.tuple #[]))) Tryz.func150 (by kernel_rfl) (by kernel_rfl) (by kernel_rfl) (by kernel_rfl)
 have h104:=@run_callFunc_extern Tryz.prog 208 _ (ReflectliteValue.method (ReflectliteValue.valueError "reflectlite.Value.Elem" 0) ReflectliteValue.elem) Tryz.func208 (by kernel_rfl) (by kernel_rfl) (by kernel_rfl) (by kernel_rfl)
 have h105:=@run_callFunc_extern Tryz.prog 209 _ (ReflectliteValue.set) Tryz.func209 (by kernel_rfl) (by kernel_rfl) (by kernel_rfl) (by kernel_rfl)
 have hA:=@run_callFunc_extern Tryz.prog 321 _ (ReflectliteType.relation "AssignableTo" ReflectliteType.assignableTo) Tryz.func321 (by kernel_rfl) (by kernel_rfl) (by kernel_rfl) (by kernel_rfl)
 have tO:=as_typeOf
 have mA:=as_methodAssignableTo
 have aW:=as_assignable
 have vW:=as_valueOfW
 have hvl:v.block<w.heap.size:=World.block_lt_of_cell? w v hv
 have el:=as_elemV v ⟨tb,0,none⟩ (w.alloc (.cells #[.pointer (some ⟨11,146,none⟩),.pointer (some v),.int .u64 150] 194)) (by rw [World.cell?_alloc_lt _ _ v hvl]; exact hv)
 have hk1:=Blk.new (w.alloc (.cells #[.pointer (some ⟨11,146,none⟩),.pointer (some v),.int .u64 150] 194)) #[.int .i64 e] 144
 rw [World.size_alloc]at hk1
 have ht2:=(ht.alloc (.cells #[.pointer (some ⟨11,146,none⟩),.pointer (some v),.int .u64 150] 194)).alloc (.cells #[.int .i64 e] 144)
 have st:=as_set tb (w.heap.size+1) e 0 ((w.alloc (.cells #[.pointer (some ⟨11,146,none⟩),.pointer (some v),.int .u64 150] 194)).alloc (.cells #[.int .i64 e] 144)) hk1 ht2
 have hb:=((Below.refl w.heap.size w).alloc (Nat.le_refl _) (.cells #[.pointer (some ⟨11,146,none⟩),.pointer (some v),.int .u64 150] 194)).alloc (by simp) (.cells #[.int .i64 e] 144)
 go_enter Tryz.func153,Tryz.ntmps153
 go_wp2
 refine wp_loop_rounds 1 ?_
 rw [rounds_succ]
 go_wp2
 go_ret
 exact ⟨rfl,grown_trans (below_grown hb (some tb)) (grown_row _ _ _),blk_row ht2 _⟩
set_option maxHeartbeats 4000000 in
set_option maxRecDepth 100000 in
theorem as_hit (e:Int) (tb:Nat) (w:World) (hg:w.cell? ⟨2,0,none⟩=some (.iface 107 (.agg #[.pointer (some ⟨11,48,none⟩)]))) (ht:Blk w tb #[.int .i64 0] 144) :
  Calls Tryz.prog 108 #[.iface 144 (.agg #[.int .i64 e]),.iface 146 (.pointer (some ⟨tb,0,none⟩))] w fun x w'=>x=.returned (.bool true)∧w.grownBy w' (some tb)∧Blk w' tb #[.int .i64 e] 144:=by
 have h6:=@run_callFunc_extern Tryz.prog 150 _ (fun args=>ReflectliteValue.unpack (args.getD 0 (.tuple #[]))) Tryz.func150 (by kernel_rfl) (by kernel_rfl) (by kernel_rfl) (by kernel_rfl)
 have h7:=@run_callFunc_extern Tryz.prog 151 _ (ReflectliteValue.methodAny (ReflectliteValue.valueError "reflectlite.Value.Type" 0) (fun t _ _ _=>ReflectliteType.toType t)) Tryz.func151 (by kernel_rfl) (by kernel_rfl) (by kernel_rfl) (by kernel_rfl)
 have h8:=@run_callFunc_extern Tryz.prog 152 _ (ReflectliteValue.method (ReflectliteValue.valueError "reflectlite.Value.IsNil" 0) ReflectliteValue.isNil) Tryz.func152 (by kernel_rfl) (by kernel_rfl) (by kernel_rfl) (by kernel_rfl)
 have h27:=@run_callFunc_extern Tryz.prog 316 _ (ReflectliteType.abiMethod fun t=>do pure (.int .u8 (← Rtype.kind t))) Tryz.func316 (by kernel_rfl) (by kernel_rfl) (by kernel_rfl) (by kernel_rfl)
 have h37:=@run_callFunc_extern Tryz.prog 323 _ (ReflectliteType.method ReflectliteType.elem) Tryz.func323 (by kernel_rfl) (by kernel_rfl) (by kernel_rfl) (by kernel_rfl)
 have h38:=@run_callFunc_extern Tryz.prog 324 _ (ReflectliteType.relation "Implements" ReflectliteType.implements_) Tryz.func324 (by kernel_rfl) (by kernel_rfl) (by kernel_rfl) (by kernel_rfl)
 have f6:=as_valueOfP
 have f7:=as_typeP
 have mK:=as_methodKind
 have mE:=as_methodElem
 have mI:=as_methodImplements
 have kP:=as_kindP
 have kW:=as_kindW
 have eP:=as_elemP
 have iW:=as_implements
 have hk0:=Blk.new w #[.pointer (some ⟨tb,0,none⟩)] 146
 have hk1:=hk0.alloc (.cells #[.pointer (some ⟨11,146,none⟩),.pointer (some ⟨w.heap.size,0,none⟩),.int .u64 150] 194)
 have n8:=as_isNil ⟨w.heap.size,0,none⟩ ⟨tb,0,none⟩ ((w.alloc (.cells #[.pointer (some ⟨tb,0,none⟩)] 146)).alloc (.cells #[.pointer (some ⟨11,146,none⟩),.pointer (some ⟨w.heap.size,0,none⟩),.int .u64 150] 194)) (hk1.cell 0)
 have hlt:2<w.heap.size:=World.block_lt_of_cell? w ⟨2,0,none⟩ hg
 have hg2:((w.alloc (.cells #[.pointer (some ⟨tb,0,none⟩)] 146)).alloc (.cells #[.pointer (some ⟨11,146,none⟩),.pointer (some ⟨w.heap.size,0,none⟩),.int .u64 150] 194)).cell? ⟨2,0,none⟩=some (.iface 107 (.agg #[.pointer (some ⟨11,48,none⟩)])):=by
  rw [World.cell?_alloc_lt _ _ ⟨2,0,none⟩ (by simp; omega),World.cell?_alloc_lt _ _ ⟨2,0,none⟩ hlt]; exact hg
 have ht2:=(ht.alloc (.cells #[.pointer (some ⟨tb,0,none⟩)] 146)).alloc (.cells #[.pointer (some ⟨11,146,none⟩),.pointer (some ⟨w.heap.size,0,none⟩),.int .u64 150] 194)
 have HIN:=Lib.hid (as_in e tb ((w.alloc (.cells #[.pointer (some ⟨tb,0,none⟩)] 146)).alloc (.cells #[.pointer (some ⟨11,146,none⟩),.pointer (some ⟨w.heap.size,0,none⟩),.int .u64 150] 194)) ⟨w.heap.size,0,none⟩ (hk1.cell 0) ht2)
 have hb:=((Below.refl w.heap.size w).alloc (Nat.le_refl _) (.cells #[.pointer (some ⟨tb,0,none⟩)] 146)).alloc (by simp) (.cells #[.pointer (some ⟨11,146,none⟩),.pointer (some ⟨w.heap.size,0,none⟩),.int .u64 150] 194)
 go_enter Tryz.func108,Tryz.ntmps108
 go_wp2_with fail
 refine HIN.out.mono ?_
 rintro x w3 ⟨rfl,hg3,hk3⟩
 go_wp2_with fail
 go_ret
 exact ⟨rfl,grown_trans (below_grown hb (some tb)) hg3,hk3⟩
set_option maxHeartbeats 2000000 in
set_option maxRecDepth 100000 in
theorem cr_told (e:Int) (he:e≠0) (w:World) (hg:w.cell? ⟨2,0,none⟩=some (.iface 107 (.agg #[.pointer (some ⟨11,48,none⟩)]))) :
  Calls Tryz.prog 69 #[errW e] w fun x w'=>x=.returned (.int .i64 e)∧Below w.heap.size w w':=by
 rw [errW_ne he]
 have hlt:2<w.heap.size:=World.block_lt_of_cell? w ⟨2,0,none⟩ hg
 have hk:=Blk.new w #[.int .i64 0] 144
 have hb:=(Below.refl w.heap.size w).alloc (Nat.le_refl _) (.cells #[.int .i64 0] 144)
 have HA:=Lib.hid (as_hit e w.heap.size (w.alloc (.cells #[.int .i64 0] 144)) (by rw [World.cell?_alloc_lt _ _ ⟨2,0,none⟩ hlt]; exact hg) hk)
 go_enter Tryz.func69,Tryz.ntmps69
 go_wp2_with fail
 refine HA.out.mono ?_
 rintro x w2 ⟨rfl,hg2,hk2⟩
 have z0:=hk2.cell 0
 go_wp2_with fail
 go_ret
 exact ⟨rfl,hb.trans (grown_below hg2 (Nat.le_refl _) hk.lt)⟩
end Go.Proofs.YtonihophanmaaaaGreatDoor
namespace Go.Proofs.YtonihophanmaaaaGreatDoor
open Go.RowKit Go.Shelf
attribute [local go_sem] Oper.semAt_some
abbrev ErrTy (w:World):Prop:=w.cell? ⟨2,0,none⟩=some (.iface 107 (.agg #[.pointer (some ⟨11,48,none⟩)]))
abbrev Pow10 (w:World):Prop:=Lib.TabIs Tryz.prog w "internal/strconv.uint64pow10" .u64 Lib.pow10Tab
structure RW (w:World) (aT aF:Addr):Prop where
 g:GW w aT aF
 tab:Pow10 w
 ty:ErrTy w
theorem RW.below {w w':World} {aT aF:Addr} (h:RW w aT aF) (hb:Below w.heap.size w w'):RW w' aT aF where
 g:=h.g.below hb
 tab:=Lib.tabBelow_of_tabIs h.tab w' hb
 ty:=cell_below hb h.ty
def itemC (s:ByteArray):PR Tr:=itemP (s.size+1) 16 s.data.toList
def ItemPost (w:World) (s:ByteArray) (res:PR Tr) (x:Ending) (w':World):Prop:=Below w.heap.size w w'∧match res with
 | .good t r=>(∃ A n c,x=.returned (.tuple #[nodeV t.own (.slice A n c),.string (bs r),.int .i64 0])∧LAt w' (fun q=>w.heap.size≤q∧q<w'.heap.size) 16 t.kids (.slice A n c))∧OwnOk t.own∧r.length+1≤s.size
 | .bad e=>x=.returned (.tuple #[zeroN,.string s,.int .i64 e])∧e≠0
set_option maxHeartbeats 8000000 in
set_option maxRecDepth 100000 in
theorem cr_Item (s:ByteArray) (hs:s.size≤1000000000) (w:World) (htab:Pow10 w) (hty:ErrTy w) (hq:OkS s:=by exact okS_all _) :
  Calls Tryz.prog 45 #[.string s] w (ItemPost w s (itemC s)):=by
 have hit:=cr_item (w0:=w) htab (s.size+1) 16 (Nat.le_refl _)
 have HTY:=Lib.hid (fun W (hb:Below w.heap.size w W)=>(show ErrTy W from (hb.cell (p:=⟨2,0,none⟩) (World.block_lt_of_cell? w ⟨2,0,none⟩ hty)).trans hty))
 have hb1:=(Below.refl w.heap.size w).alloc (Nat.le_refl _) (.cells #[.int .i64 0,.bool false,.bool false,.string ⟨#[]⟩,.int .i64 0,.int .u64 0,.int .i64 0,.string ⟨#[]⟩,.slice none 0 0] 28)
 have hb2:=hb1.alloc hb1.size (.cells #[.string s,.int .i64 0] 88)
 have hk2:=(Blk.new w #[.int .i64 0,.bool false,.bool false,.string ⟨#[]⟩,.int .i64 0,.int .u64 0,.int .i64 0,.string ⟨#[]⟩,.slice none 0 0] 28).alloc (.cells #[.string s,.int .i64 0] 88)
 have hr2:=Blk.new (w.alloc (.cells #[.int .i64 0,.bool false,.bool false,.string ⟨#[]⟩,.int .i64 0,.int .u64 0,.int .i64 0,.string ⟨#[]⟩,.slice none 0 0] 28)) #[.string s,.int .i64 0] 88
 rw [World.size_alloc]at hr2
 have HI:=Lib.hid (hit (w.heap.size+1) s _ hb2 (by omega) hr2 hs (Nat.lt_succ_self _) hq)
 have HI:Hid (Calls Tryz.prog 68 #[.pointer (some ⟨w.heap.size+1,0,none⟩)] ((w.alloc (.cells #[.int .i64 0,.bool false,.bool false,.string ⟨#[]⟩,.int .i64 0,.int .u64 0,.int .i64 0,.string ⟨#[]⟩,.slice none 0 0] 28)).alloc (.cells #[.string s,.int .i64 0] 88)) (ReadN (w.heap.size+1) 0 16 ((w.alloc (.cells #[.int .i64 0,.bool false,.bool false,.string ⟨#[]⟩,.int .i64 0,.int .u64 0,.int .i64 0,.string ⟨#[]⟩,.slice none 0 0] 28)).alloc (.cells #[.string s,.int .i64 0] 88)) s (itemC s))):=HI
 have hsz2:((w.alloc (.cells #[.int .i64 0,.bool false,.bool false,.string ⟨#[]⟩,.int .i64 0,.int .u64 0,.int .i64 0,.string ⟨#[]⟩,.slice none 0 0] 28)).alloc (.cells #[.string s,.int .i64 0] 88)).heap.size=w.heap.size+2:=by simp
 have hless:∀ t r,itemC s=.good t r→r.length+1≤s.size:=fun t r h=>by
  have:=item_less h
  have hl:s.data.toList.length=s.size:=by simp
  omega
 have HLESS:=Lib.hid hless
 clear htab hty hit hless hq
 cases hres:itemC s with
 | bad e =>
  rw [hres]at HI
  have HI:Hid (Calls Tryz.prog 68 #[.pointer (some ⟨w.heap.size+1,0,none⟩)] ((w.alloc (.cells #[.int .i64 0,.bool false,.bool false,.string ⟨#[]⟩,.int .i64 0,.int .u64 0,.int .i64 0,.string ⟨#[]⟩,.slice none 0 0] 28)).alloc (.cells #[.string s,.int .i64 0] 88)) fun x w'=>((w.alloc (.cells #[.int .i64 0,.bool false,.bool false,.string ⟨#[]⟩,.int .i64 0,.int .u64 0,.int .i64 0,.string ⟨#[]⟩,.slice none 0 0] 28)).alloc (.cells #[.string s,.int .i64 0] 88)).grownBy w' (some (w.heap.size+1))∧(∃ o A n c,x=.returned (.tuple #[nodeV o (.slice A n c),errW e]))∧e≠0∧∃ s',RdB w' (w.heap.size+1) s' 0∧s'.size≤s.size):=HI
  show Calls _ _ _ _ fun x w'=>Below w.heap.size w w'∧x=.returned (.tuple #[zeroN,.string s,.int .i64 e])∧e≠0
  have he:e≠0:=errP_item _ _ _ _ hres
  clear hres
  skip
  ·have HT:=Lib.hid (fun W hb=>cr_told e he W (HTY.out W hb))
   obtain ⟨ex,hex⟩:∃ x,errW e=.iface 144 x:=⟨_,errW_ne he⟩
   rw [hex]at HI HT
   have HE:=Lib.hid he
   clear hex he
   go_enter Tryz.func45,Tryz.ntmps45
   go_wp2_with fail
   refine HI.out.mono ?_
   rintro x w3 ⟨hg3,⟨⟨kind3,b3,neg3,dg3,ex3,u3,wd3,s3⟩,A,n,c,rfl⟩,_,s',hr3,hs3⟩
   unfold nodeV
   simp only []
   have hk4:=(RdB.grown hk2 hg3 (by omega)).alloc (.cells #[.int .i64 kind3,.bool b3,.bool neg3,.string dg3,.int .i64 ex3,.int .u64 u3,.int .i64 wd3,.string s3,.slice A n c] 28)
   have hb3:Below w.heap.size w w3:=hb2.trans (grown_below hg3 (by omega) (by rw [hsz2]; omega))
   have hb4:=hb3.alloc hb3.size (.cells #[.int .i64 kind3,.bool b3,.bool neg3,.string dg3,.int .i64 ex3,.int .u64 u3,.int .i64 wd3,.string s3,.slice A n c] 28)
   go_wp2_with fail
   refine (HT.out _ hb4).mono ?_
   rintro x w5 ⟨rfl,hb5⟩
   have hk5:=hk4.below hb5 hk4.lt
   have hb6:=hb4.trans (hb5.mono hb4.size)
   go_wp2_with (refine wpList_store_row rfl 28 (.tmp 2) (.tmp 19) rfl (w.heap.size) #[.int .i64 0,.bool false,.bool false,.string ⟨#[]⟩,.int .i64 0,.int .u64 0,.int .i64 0,.string ⟨#[]⟩,.slice none 0 0] rfl rfl 28 _ hk5 (by kernel_rfl) rfl (by simp [Value.oneCell']) ?_)
   refine bodyPost_ret (results_cell3 (T:=28) rfl rfl rfl rfl (blk_row hk5 #[.int .i64 0,.bool false,.bool false,.string ⟨#[]⟩,.int .i64 0,.int .u64 0,.int .i64 0,.string ⟨#[]⟩,.slice none 0 0]) Tryz.underlying28 rfl (by kernel_rfl)) rfl ?_
   exact ⟨hb6.grown (grown_row _ w.heap.size _) hb6.size (fun q e=>by cases e; omega),rfl,HE.out⟩
 | good t r =>
  rw [hres]at HI
  have hle:=HLESS.out t r hres
  have HI:Hid (Calls Tryz.prog 68 #[.pointer (some ⟨w.heap.size+1,0,none⟩)] ((w.alloc (.cells #[.int .i64 0,.bool false,.bool false,.string ⟨#[]⟩,.int .i64 0,.int .u64 0,.int .i64 0,.string ⟨#[]⟩,.slice none 0 0] 28)).alloc (.cells #[.string s,.int .i64 0] 88)) fun x w'=>((w.alloc (.cells #[.int .i64 0,.bool false,.bool false,.string ⟨#[]⟩,.int .i64 0,.int .u64 0,.int .i64 0,.string ⟨#[]⟩,.slice none 0 0] 28)).alloc (.cells #[.string s,.int .i64 0] 88)).grownBy w' (some (w.heap.size+1))∧(∃ A n c,x=.returned (.tuple #[nodeV t.own (.slice A n c),.nilIface])∧LAt w' (fun q=>((w.alloc (.cells #[.int .i64 0,.bool false,.bool false,.string ⟨#[]⟩,.int .i64 0,.int .u64 0,.int .i64 0,.string ⟨#[]⟩,.slice none 0 0] 28)).alloc (.cells #[.string s,.int .i64 0] 88)).heap.size≤q∧q<w'.heap.size) 16 t.kids (.slice A n c))∧OwnOk t.own∧RdB w' (w.heap.size+1) (bs r) 0∧(bs r).size≤s.size):=HI
  clear hres
  show Calls _ _ _ _ fun x w'=>Below w.heap.size w w'∧(∃ A n c,x=.returned (.tuple #[nodeV t.own (.slice A n c),.string (bs r),.int .i64 0])∧LAt w' (fun q=>w.heap.size≤q∧q<w'.heap.size) 16 t.kids (.slice A n c))∧OwnOk t.own∧r.length+1≤s.size
  obtain ⟨rb,hrb⟩:∃ rb,bs r=rb:=⟨_,rfl⟩
  rw [hrb]at HI ⊢
  have HLE:=Lib.hid hle
  clear hrb hle
  go_enter Tryz.func45,Tryz.ntmps45
  go_wp2_with fail
  refine HI.out.mono ?_
  rintro x w3 ⟨hg3,⟨A,n,c,rfl,hly⟩,hot,hr3,hs3⟩
  obtain ⟨⟨kind3,b3,neg3,dg3,ex3,u3,wd3,s3⟩,ho3⟩:∃ o,t.own=o:=⟨_,rfl⟩
  have HO3:=Lib.hid ho3
  rw [ho3]
  unfold nodeV
  simp only []
  have hz3:w.heap.size+2≤w3.heap.size:=by have:=hg3.size; omega
  have hk4:=(RdB.grown hk2 hg3 (by omega)).alloc (.cells #[.int .i64 kind3,.bool b3,.bool neg3,.string dg3,.int .i64 ex3,.int .u64 u3,.int .i64 wd3,.string s3,.slice A n c] 28)
  have hb3:Below w.heap.size w w3:=hb2.trans (grown_below hg3 (by omega) (by rw [hsz2]; omega))
  have hb4:=hb3.alloc hb3.size (.cells #[.int .i64 kind3,.bool b3,.bool neg3,.string dg3,.int .i64 ex3,.int .u64 u3,.int .i64 wd3,.string s3,.slice A n c] 28)
  have HX4:=Lib.hid (Blk.new w3 #[.int .i64 kind3,.bool b3,.bool neg3,.string dg3,.int .i64 ex3,.int .u64 u3,.int .i64 wd3,.string s3,.slice A n c] 28)
  have HR4:=Lib.hid (hr3.alloc (.cells #[.int .i64 kind3,.bool b3,.bool neg3,.string dg3,.int .i64 ex3,.int .u64 u3,.int .i64 wd3,.string s3,.slice A n c] 28))
  have HLY:=Lib.hid hly
  clear hly ho3 hs3
  go_wp2_with fail
  refine wp_region_tailG (R:=fun W W'=>W.grownBy W' (some w.heap.size)) 7 (by kernel_rfl) (by kernel_rfl) (fun _=>grown_refl _ _) (by kernel_rfl) (by kernel_rfl) (fun W=>(w3.alloc (.cells #[.int .i64 kind3,.bool b3,.bool neg3,.string dg3,.int .i64 ex3,.int .u64 u3,.int .i64 wd3,.string s3,.slice A n c] 28)).grownBy W (some w.heap.size))
   [fun env _=>env 0=.agg #[.int .i64 kind3,.bool b3,.bool neg3,.string dg3,.int .i64 ex3,.int .u64 u3,.int .i64 wd3,.string s3,.slice A n c],fun env _=>env 1=.pointer (some ⟨w.heap.size+1,0,none⟩),fun env _=>env 2=.pointer (some ⟨w.heap.size+1,0,none⟩),fun env _=>env 3=.pointer (some ⟨w.heap.size+1,0,none⟩),fun env _=>env 4=.pointer (some ⟨w.heap.size+1,0,none⟩),fun env _=>env 5=.string rb]
   (fun sel _ W=>Blk W w.heap.size (if sel 6=true then #[.int .i64 kind3,.bool b3,.bool neg3,.string dg3,.int .i64 ex3,.int .u64 u3,.int .i64 wd3,.string s3,.slice A n c] else #[.int .i64 0,.bool false,.bool false,.string ⟨#[]⟩,.int .i64 0,.int .u64 0,.int .i64 0,.string ⟨#[]⟩,.slice none 0 0]) 28) ?_ ?_ ?_ ?_ ?_ ?_
  case refine_1=>exact grown_drew _ _ 1
  case refine_2=>exact fun _=>hk4
  case refine_3=>exact fun W W' he hr=>grown_trans he hr
  case refine_4 =>
   intro i o' env env' W W' ho hk _ hp _
   match i,ho with
   | 0,ho=>exact (hk 0 (.inl rfl)).symm.trans hp
   | 1,ho=>exact (hk 1 (.inl rfl)).symm.trans hp
   | 2,ho=>exact (hk 2 (.inl rfl)).symm.trans hp
   | 3,ho=>exact (hk 3 (.inl rfl)).symm.trans hp
   | 4,ho=>exact (hk 4 (.inl rfl)).symm.trans hp
   | 5,ho=>exact (hk 5 (.inl rfl)).symm.trans hp
   | n+6,ho=>exact (show True from trivial)
  case refine_5 =>
   refine flow_consG (flow_opG rfl rfl (by kernel_rfl) (by kernel_rfl) ?_) ?_
   ·intro sel env W hE hn hx hs hwt ρ hρ hc hf hg K hK
    have r6:ρ (.tmp 6)=.pointer (some ⟨w3.heap.size,0,none⟩):=by rw [hρ]; kernel_rfl
    clear hρ hg
    exact lands_load_row 28 (.tmp 6) rfl w3.heap.size r6 28 _ (0,0) _ (RdB.grown HX4.out hE (by omega)) Tryz.underlying28 rfl (by kernel_rfl) (hK _ _ (updV_self _ _ _) (by rw [updB_ne sel (show (6:Nat)≠0 by decide)]; exact hx) (grown_refl _ _))
   refine flow_consG (flow_opG rfl rfl (by kernel_rfl) (by kernel_rfl) ?_) ?_
   ·intro sel env W hE hn hx hs hwt ρ hρ hc hf hg K hK
    have r5:ρ (.tmp 5)=.pointer (some ⟨w.heap.size+1,0,none⟩):=by rw [hρ]; kernel_rfl
    clear hρ hg
    simp [opLands,go_sem,r5]
    exact hK _ _ (updV_self _ _ _) (by rw [updB_ne sel (show (6:Nat)≠1 by decide)]; exact hx) (grown_refl _ _)
   refine flow_consG (flow_opG rfl rfl (by kernel_rfl) (by kernel_rfl) ?_) ?_
   ·intro sel env W hE hn hx hs hwt ρ hρ hc hf hg K hK
    have r24:=(show ρ (.tmp 24)=env 1 by rw [hρ]; kernel_rfl).trans (hn 1 (hwt 1 (by kernel_rfl)))
    clear hρ hg
    simp [opLands,go_sem,r24]
    exact hK _ _ (updV_self _ _ _) (by rw [updB_ne sel (show (6:Nat)≠2 by decide)]; exact hx) (grown_refl _ _)
   refine flow_consG (flow_opG rfl rfl (by kernel_rfl) (by kernel_rfl) ?_) ?_
   ·intro sel env W hE hn hx hs hwt ρ hρ hc hf hg K hK
    have r25:=(show ρ (.tmp 25)=env 2 by rw [hρ]; kernel_rfl).trans (hn 2 (hwt 2 (by kernel_rfl)))
    clear hρ hg
    simp [opLands,go_sem,r25]
    exact hK _ _ (updV_self _ _ _) (by rw [updB_ne sel (show (6:Nat)≠3 by decide)]; exact hx) (grown_refl _ _)
   refine flow_consG (flow_opG rfl rfl (by kernel_rfl) (by kernel_rfl) ?_) ?_
   ·intro sel env W hE hn hx hs hwt ρ hρ hc hf hg K hK
    have r26:=(show ρ (.tmp 26)=env 3 by rw [hρ]; kernel_rfl).trans (hn 3 (hwt 3 (by kernel_rfl)))
    clear hρ hg
    simp [opLands,go_sem,r26]
    exact hK _ _ (updV_self _ _ _) (by rw [updB_ne sel (show (6:Nat)≠4 by decide)]; exact hx) (grown_refl _ _)
   refine flow_consG (flow_opG rfl rfl (by kernel_rfl) (by kernel_rfl) ?_) ?_
   ·intro sel env W hE hn hx hs hwt ρ hρ hc hf hg K hK
    have r27:=(show ρ (.tmp 27)=env 4 by rw [hρ]; kernel_rfl).trans (hn 4 (hwt 4 (by kernel_rfl)))
    clear hρ hg
    have q0:W.cell? ⟨w.heap.size+1,0,none⟩=some (.string rb):=(RdB.grown HR4.out hE (by omega)).cell 0
    simp [opLands,go_sem,r27,q0]
    exact hK _ _ (updV_self _ _ _) (by rw [updB_ne sel (show (6:Nat)≠5 by decide)]; exact hx) (grown_refl _ _)
   refine flow_consG (flow_op0G rfl rfl (by kernel_rfl) rfl ?_) flow_nilG
   ·intro sel env W hE hn hx hs hwt ρ hρ hc hf hg K hK
    have r2:ρ (.tmp 2)=.pointer (some ⟨w.heap.size,0,none⟩):=by rw [hρ]; kernel_rfl
    have r23:=(show ρ (.tmp 23)=env 0 by rw [hρ]; kernel_rfl).trans (hn 0 (hwt 0 (by kernel_rfl)))
    clear hρ hg
    rw [hs,if_neg (by decide)]at hx
    exact lands_store_row 28 (.tmp 2) (.tmp 23) rfl w.heap.size #[.int .i64 kind3,.bool b3,.bool neg3,.string dg3,.int .i64 ex3,.int .u64 u3,.int .i64 wd3,.string s3,.slice A n c] r2 r23 28 _ hx (by kernel_rfl) rfl (by simp [Value.oneCell']) (hK undef _ trivial (by rw [updB_self,if_pos rfl]; exact blk_row hx _) (grown_row _ _ _))
  case refine_6 =>
   intro env W hE hn hx
   have e0:env 0=.agg #[.int .i64 kind3,.bool b3,.bool neg3,.string dg3,.int .i64 ex3,.int .u64 u3,.int .i64 wd3,.string s3,.slice A n c]:=hn 0 (by decide)
   have e5:env 5=.string rb:=hn 5 (by decide)
   have hk7:Blk W w.heap.size #[.int .i64 kind3,.bool b3,.bool neg3,.string dg3,.int .i64 ex3,.int .u64 u3,.int .i64 wd3,.string s3,.slice A n c] 28:=hx
   clear hn HX4 HR4 hx
   have hgE:=grown_trans (below_grown hb4 (some w.heap.size)) hE
   have hzE:=hE.size
   rw [World.size_alloc]at hzE
   have hl7:LAt W (fun q=>w.heap.size+2≤q∧q<w3.heap.size) 16 t.kids (.slice A n c):=(HLY.out.keep (fun q hq=>(hE.block q (by rw [World.size_alloc]; omega) (fun e=>by have:=hq.1; injection e with e; omega)).trans (Below.heap_alloc w3 _ q hq.2))).mono (fun q hq=>by rw [hsz2]at hq; exact hq)
   have HL7:=Lib.hid hl7
   have hbF:Below w.heap.size w W:=⟨hgE.os,hgE.tape,hgE.output,hgE.size,fun q hq=>hgE.block q hq (fun e=>by injection e with e; omega)⟩
   simp only [List.take_succ_cons,List.take_zero,List.drop_succ_cons,List.drop_zero,frameAll,e0,e5]
   go_simp
   clear e0 e5 hE hl7 hgE
   go_wp2_with fail
   refine bodyPost_ret (results_cell3 (T:=28) rfl rfl rfl rfl hk7 Tryz.underlying28 rfl (by kernel_rfl)) rfl ?_
   exact ⟨hbF,⟨A,n,c,by rw [HO3.out]; rfl,HL7.out.mono (fun q hq=>⟨by omega,by omega⟩)⟩,hot,HLE.out⟩
end Go.Proofs.YtonihophanmaaaaGreatDoor
