/- The texts CrX, CrT, CrY, put together. -/
import Derived.Test.YtonihophanmaaaaGreatDoorPc44
import Derived.Test.YtonihophanmaaaaGreatDoorPc34
import Derived.Stop.Asserts
import Derived.Test.YtonihophanmaaaaGreatDoorPc18
import Derived.Lib.AppendIntMem
set_option maxHeartbeats 8000000
set_option maxRecDepth 100000
namespace Go.Proofs.YtonihophanmaaaaGreatDoor
open Go.RowKit Go.Shelf
attribute [local go_sem] Oper.semAt_some
theorem zfo {w0:World} (F:Nat):wm w0 F 0:=by
 intro p s w J N y I hF _
 have d:=(Below.refl w.heap.size w).alloc (Nat.le_refl _) (.cells #[.int .i64 0,.bool false,.bool false,.string ⟨#[]⟩,.int .i64 0,.int .u64 0,.int .i64 0,.string ⟨#[]⟩,.slice none 0 0] 28)
 have i:=Blk.new w #[.int .i64 0,.bool false,.bool false,.string ⟨#[]⟩,.int .i64 0,.int .u64 0,.int .i64 0,.string ⟨#[]⟩,.slice none 0 0] 28
 have a:=y.alloc (.cells #[.int .i64 0,.bool false,.bool false,.string ⟨#[]⟩,.int .i64 0,.int .u64 0,.int .i64 0,.string ⟨#[]⟩,.slice none 0 0] 28)
 have H:=y.lt
 have L:=a.cell 0
 have M:=a.cell 1
 by_cases c:s.size=0
 ·have E:=wa c
  subst E
  show Calls _ _ _ _ (jc p 16 0 w ⟨#[]⟩ (.bad 100))
  have q:=Lib.hid (show Calls Tryz.prog 105 #[.pointer (some ⟨p,0,none⟩)] (w.alloc (.cells #[.int .i64 0,.bool false,.bool false,.string ⟨#[]⟩,.int .i64 0,.int .u64 0,.int .i64 0,.string ⟨#[]⟩,.slice none 0 0] 28)) fun x C=>(w.alloc (.cells #[.int .i64 0,.bool false,.bool false,.string ⟨#[]⟩,.int .i64 0,.int .u64 0,.int .i64 0,.string ⟨#[]⟩,.slice none 0 0] 28)).grownBy C (some p)∧x=.returned (.tuple #[qu (0,0,0),jD 100])∧RdB C p ⟨#[]⟩ 16 from by
   have:=zcj p 16 ⟨#[]⟩ _ a I
   exact this)
  obtain ⟨ex,g⟩:∃ x,jD 100=.iface 144 x:=⟨_,xA (by decide)⟩
  rw [g]at q
  have o:=Lib.hid g
  clear g hF c
  go_enter Tryz.func68,Tryz.ntmps68
  go_wp2_with fail
  refine q.out.mono ?_
  rintro x D ⟨h,rfl,z⟩
  have j:=(RdB.grown i h (by omega)).alloc (.cells #[.int .i64 0,.int .i64 0,.int .u64 0] 137)
  have A:=z.alloc (.cells #[.int .i64 0,.int .i64 0,.int .u64 0] 137)
  go_wp2_with (refine wpList_store_row rfl 28 (.tmp 2) (.tmp 32) rfl (w.heap.size) #[.int .i64 0,.bool false,.bool false,.string ⟨#[]⟩,.int .i64 0,.int .u64 0,.int .i64 0,.string ⟨#[]⟩,.slice none 0 0] rfl rfl 28 _ j (by kernel_rfl) rfl (by simp [Value.oneCell']) ?_)
  refine bodyPost_ret (zo (T:=28) rfl rfl rfl (zB j #[.int .i64 0,.bool false,.bool false,.string ⟨#[]⟩,.int .i64 0,.int .u64 0,.int .i64 0,.string ⟨#[]⟩,.slice none 0 0]) Tryz.underlying28 rfl (by kernel_rfl)) rfl ?_
  have t:=grown_of (zu (below_grown d (some p)) h) ((Below.refl D.heap.size D).alloc (Nat.le_refl _) (.cells #[.int .i64 0,.int .i64 0,.int .u64 0] 137))
  have u:=jE t (zx _ w.heap.size #[.int .i64 0,.bool false,.bool false,.string ⟨#[]⟩,.int .i64 0,.int .u64 0,.int .i64 0,.string ⟨#[]⟩,.slice none 0 0]) (Nat.le_refl _)
  exact ⟨u,⟨zv,none,0,0,by rw [o.out]; rfl⟩,by decide,_,zH A (by omega) _,Nat.le_refl _⟩
 ·have K:=wb c
  have v:s.data.toList≠[]:=fun e=>c (by
   have:s.data.toList.length=s.size:=by simp
   rw [e]at this
   exact this.symm)
  show Calls _ _ _ _ (jc p 16 0 w s (if s.data.toList=[] then .bad 100 else .bad 60))
  rw [if_neg v]
  have m:=Lib.hid (fun (W:World) (b:Nat) (G:Blk W b #[.int .i64 60] 29)=>xj b 60 W G)
  rw [if_neg (by decide)]at m
  obtain ⟨ev,f⟩:∃ ev,jD 60=ev:=⟨_,rfl⟩
  rw [f]at m
  have n:=Lib.hid f
  have k:=i.alloc (.cells #[.int .i64 60] 29)
  have B:=a.alloc (.cells #[.int .i64 60] 29)
  have l:=Blk.new (w.alloc (.cells #[.int .i64 0,.bool false,.bool false,.string ⟨#[]⟩,.int .i64 0,.int .u64 0,.int .i64 0,.string ⟨#[]⟩,.slice none 0 0] 28)) #[.int .i64 60] 29
  rw [World.size_alloc]at l
  clear f v c hF
  go_enter Tryz.func68,Tryz.ntmps68
  go_wp2_with fail
  refine (m.out _ _ l).mono ?_
  rintro x O ⟨rfl,rfl⟩
  go_wp2_with (refine wpList_store_row rfl 28 (.tmp 2) (.tmp 22) rfl (w.heap.size) #[.int .i64 0,.bool false,.bool false,.string ⟨#[]⟩,.int .i64 0,.int .u64 0,.int .i64 0,.string ⟨#[]⟩,.slice none 0 0] rfl rfl 28 _ k (by kernel_rfl) rfl (by simp [Value.oneCell']) ?_)
  refine bodyPost_ret (zo (T:=28) rfl rfl rfl (zB k #[.int .i64 0,.bool false,.bool false,.string ⟨#[]⟩,.int .i64 0,.int .u64 0,.int .i64 0,.string ⟨#[]⟩,.slice none 0 0]) Tryz.underlying28 rfl (by kernel_rfl)) rfl ?_
  have r:=d.alloc d.size (.cells #[.int .i64 60] 29)
  exact ⟨jE (below_grown r (some p)) (zx _ w.heap.size _) (Nat.le_refl _),⟨zv,none,0,0,by rw [n.out]; rfl⟩,by decide,s,zH B (by omega) _,Nat.le_refl _⟩
theorem zhq {w0:World} (a:Lib.TabIs Tryz.prog w0 "internal/strconv.uint64pow10" .u64 Lib.pow10Tab) (F:Nat):∀ d,d≤16→wm w0 F d
 | 0,_=>zfo F
 | d+1,h=>zfn a F d h (zhq a F d (by omega))
end Go.Proofs.YtonihophanmaaaaGreatDoor
namespace Go.Proofs.YtonihophanmaaaaGreatDoor
open Go.RowKit Go.Shelf Go.Extern.Stop Go.Stop Go.Extern
attribute [local go_sem] Oper.semAt_some
theorem zgP (t:Addr) (w:World):(ReflectliteValue.unpack (.iface 146 (.pointer (some t)))).run Tryz.prog w
  = .ok (.agg #[.pointer (some ⟨11,146,none⟩),.pointer (some ⟨w.heap.size,0,none⟩),.int .u64 150]) (w.alloc (.cells #[.pointer (some t)] 146)):=by kernel_rfl
theorem zkP (a:Addr) (w:World):(ReflectliteValue.methodAny (ReflectliteValue.valueError "reflectlite.Value.Type" 0) (fun t _ _ _=>ReflectliteType.toType t) #[.agg #[.pointer (some ⟨11,146,none⟩),.pointer (some a),.int .u64 150]]).run Tryz.prog w
  = .ok (.iface 107 (.agg #[.pointer (some ⟨11,146,none⟩)])) w:=by kernel_rfl
theorem zeM (h:Value) (w:World):(Go.method 459 107 (.agg #[h]) "Kind").run Tryz.prog w=.ok (316,h) w:=by kernel_rfl
theorem zkN (w:World):((ReflectliteType.abiMethod fun t=>(fun a:Nat=>Value.int IntKind.u8 (a:Int)) <$> Rtype.kind t) #[.pointer (some ⟨11,146,none⟩)]).run Tryz.prog w=.ok (.int .u8 22) w:=by kernel_rfl
theorem zkO (w:World):((ReflectliteType.abiMethod fun t=>(fun a:Nat=>Value.int IntKind.u8 (a:Int)) <$> Rtype.kind t) #[.pointer (some ⟨11,144,none⟩)]).run Tryz.prog w=.ok (.int .u8 25) w:=by kernel_rfl
theorem zjf (z:Sem Value) (f:TypeId→Addr→Nat→Nat→Sem Value) (v:Value) :
  ReflectliteValue.method z f #[v]=(do match ← ReflectliteValue.parts v with | none=>z | some (t,a,b)=>f t a b (b % 32)):=rfl
theorem zd3 (a:Addr) (w:World):(ReflectliteValue.parts (.agg #[.pointer (some ⟨11,146,none⟩),.pointer (some a),.int .u64 150])).run Tryz.prog w=.ok (some (146,a,150)) w:=by kernel_rfl
theorem zkM (a p:Addr) (W:World) (b:W.cell? a=some (.pointer (some p))) :
  (ReflectliteValue.method (ReflectliteValue.valueError "reflectlite.Value.IsNil" 0) ReflectliteValue.isNil #[.agg #[.pointer (some ⟨11,146,none⟩),.pointer (some a),.int .u64 150]]).run Tryz.prog W=.ok (.bool false) W:=by
 rw [zjf]
 simp only [Sem.run_bind,zd3,Result.andThen]
 simp [ReflectliteValue.isNil,loadVar,isAgg,underlying,Tryz.underlying146,b,Result.andThen]
theorem zeL (h:Value) (w:World):(Go.method 459 107 (.agg #[h]) "Elem").run Tryz.prog w=.ok (323,.agg #[h]) w:=by kernel_rfl
theorem zaW (h:Value) (w:World):(Go.method 459 107 (.agg #[h]) "Implements").run Tryz.prog w=.ok (324,.agg #[h]) w:=by kernel_rfl
theorem yV (h:Value) (w:World):(Go.method 459 107 (.agg #[h]) "AssignableTo").run Tryz.prog w=.ok (321,.agg #[h]) w:=by kernel_rfl
theorem zkK (w:World):(ReflectliteType.method ReflectliteType.elem #[.agg #[.pointer (some ⟨11,146,none⟩)]]).run Tryz.prog w=.ok (.iface 107 (.agg #[.pointer (some ⟨11,144,none⟩)])) w:=by kernel_rfl
theorem zeK (w:World):(ReflectliteType.relation "Implements" ReflectliteType.implements_ #[.agg #[.pointer (some ⟨11,144,none⟩)],.iface 107 (.agg #[.pointer (some ⟨11,48,none⟩)])]).run Tryz.prog w=.ok (.bool true) w:=by kernel_rfl
theorem zjg (v:Value) (w:World):(ReflectliteType.typeOf #[.iface 144 v]).run Tryz.prog w=.ok (.iface 107 (.agg #[.pointer (some ⟨11,144,none⟩)])) w:=by kernel_rfl
theorem zeJ (w:World):(ReflectliteType.relation "AssignableTo" ReflectliteType.assignableTo #[.agg #[.pointer (some ⟨11,144,none⟩)],.iface 107 (.agg #[.pointer (some ⟨11,144,none⟩)])]).run Tryz.prog w=.ok (.bool true) w:=by kernel_rfl
theorem zgQ (e:Int) (w:World):(ReflectliteValue.unpack (.iface 144 (.agg #[.int .i64 e]))).run Tryz.prog w
  = .ok (.agg #[.pointer (some ⟨11,144,none⟩),.pointer (some ⟨w.heap.size,0,none⟩),.int .u64 153]) (w.alloc (.cells #[.int .i64 e] 144)):=by kernel_rfl
theorem zjc (w:World):(Rtype.elem? 146).run Tryz.prog w=.ok (some 144) w:=by kernel_rfl
theorem znM (p:Addr) (w:World):(ReflectliteValue.mk 144 p ReflectliteValue.flagAddr).run Tryz.prog w=.ok (.agg #[.pointer (some ⟨11,144,none⟩),.pointer (some p),.int .u64 409]) w:=by kernel_rfl
theorem zkL (a p:Addr) (W:World) (b:W.cell? a=some (.pointer (some p))) :
  (ReflectliteValue.method (ReflectliteValue.valueError "reflectlite.Value.Elem" 0) ReflectliteValue.elem #[.agg #[.pointer (some ⟨11,146,none⟩),.pointer (some a),.int .u64 150]]).run Tryz.prog W
   = .ok (.agg #[.pointer (some ⟨11,144,none⟩),.pointer (some p),.int .u64 409]) W:=by
 rw [zjf]
 simp only [Sem.run_bind,zd3,Result.andThen]
 simp [ReflectliteValue.elem,loadVar,isAgg,underlying,Tryz.underlying146,b,Result.andThen,zjc,znM]
theorem zne (v x:Value):ReflectliteValue.set #[v,x]=(do
  let (some (dst,a,fl),some (src,b,_)):=(← ReflectliteValue.parts v,← ReflectliteValue.parts x)
   | unsupported (.noEntry "extern/(internal/reflectlite.Value).Set.zeroValue")
  if fl / ReflectliteValue.flagAddr % 2 == 0 then unsupported (.noEntry "extern/(internal/reflectlite.Value).Set.unaddressable")
  let c ← loadVar src b
  if ← Rtype.directlyAssignable dst src then storeVar dst a c
  else if ← Rtype.implements dst src then
   if (← Rtype.kind src) == 20 then
    match c with
    | .nilIface=>unsupported (.noEntry "extern/reflectlite: a nil value of one interface type handed on as a value of another")
    | _=>storeVar dst a c
   else storeVar dst a (.iface src c)
  else panicString ("reflectlite.Set: value of type " ++ (← Rtype.spelt src) ++ " is not assignable to type " ++ (← Rtype.spelt dst))
  pure (.tuple #[])):=rfl
theorem zjd (a:Addr) (w:World):(ReflectliteValue.parts (.agg #[.pointer (some ⟨11,144,none⟩),.pointer (some a),.int .u64 409])).run Tryz.prog w=.ok (some (144,a,409)) w:=by kernel_rfl
theorem zje (a:Addr) (w:World):(ReflectliteValue.parts (.agg #[.pointer (some ⟨11,144,none⟩),.pointer (some a),.int .u64 153])).run Tryz.prog w=.ok (some (144,a,153)) w:=by kernel_rfl
theorem zjb (w:World):(Rtype.directlyAssignable 144 144).run Tryz.prog w=.ok true w:=by kernel_rfl
theorem znf (a b:Nat) (e c:Int) (W:World) (g:Blk W b #[.int .i64 e] 144) (h:Blk W a #[.int .i64 c] 144) :
  (ReflectliteValue.set #[.agg #[.pointer (some ⟨11,144,none⟩),.pointer (some ⟨a,0,none⟩),.int .u64 409],.agg #[.pointer (some ⟨11,144,none⟩),.pointer (some ⟨b,0,none⟩),.int .u64 153]]).run Tryz.prog W
   = .ok (.tuple #[]) (W.setRow a #[.int .i64 e]):=by
 rw [zne]
 have d:=run_loadVar_row (P:=Tryz.prog) W b 144 144 #[.int .i64 e] (0,0) _ g Tryz.underlying144 rfl (by kernel_rfl)
 have f:=run_storeVar_row (P:=Tryz.prog) W a 144 144 #[.int .i64 c] #[.int .i64 e] h (by kernel_rfl) rfl (by simp [Value.oneCell'])
 simp only [Sem.run_bind,zjd,zje,Result.andThen]
 simp [ReflectliteValue.flagAddr,d,zjb,f,Result.andThen]
theorem znL (e:Int) (a:Nat) (w:World) (v:Addr) (f:w.cell? v=some (.pointer (some ⟨a,0,none⟩))) (l:Blk w a #[.int .i64 0] 144) :
  Calls Tryz.prog 153 #[.iface 144 (.agg #[.int .i64 e]),.iface 146 (.pointer (some ⟨a,0,none⟩)),.agg #[.pointer (some ⟨11,146,none⟩),.pointer (some v),.int .u64 150],.iface 107 (.agg #[.pointer (some ⟨11,144,none⟩)])] w fun x h=>x=.returned (.bool true)∧w.grownBy h (some a)∧Blk h a #[.int .i64 e] 144:=by
 have m:=@run_callFunc_extern Tryz.prog 52 _ (ReflectliteType.typeOf) Tryz.func52 (by kernel_rfl) (by kernel_rfl) (by kernel_rfl) (by kernel_rfl)
 have n:=@run_callFunc_extern Tryz.prog 150 _ (fun d=>ReflectliteValue.unpack (d.getD 0 (.tuple #[]))) Tryz.func150 (by kernel_rfl) (by kernel_rfl) (by kernel_rfl) (by kernel_rfl)
 have i:=@run_callFunc_extern Tryz.prog 208 _ (ReflectliteValue.method (ReflectliteValue.valueError "reflectlite.Value.Elem" 0) ReflectliteValue.elem) Tryz.func208 (by kernel_rfl) (by kernel_rfl) (by kernel_rfl) (by kernel_rfl)
 have j:=@run_callFunc_extern Tryz.prog 209 _ (ReflectliteValue.set) Tryz.func209 (by kernel_rfl) (by kernel_rfl) (by kernel_rfl) (by kernel_rfl)
 have hA:=@run_callFunc_extern Tryz.prog 321 _ (ReflectliteType.relation "AssignableTo" ReflectliteType.assignableTo) Tryz.func321 (by kernel_rfl) (by kernel_rfl) (by kernel_rfl) (by kernel_rfl)
 have s:=zjg
 have q:=yV
 have o:=zeJ
 have t:=zgQ
 have g:v.block<w.heap.size:=World.block_lt_of_cell? w v f
 have p:=zkL v ⟨a,0,none⟩ (w.alloc (.cells #[.pointer (some ⟨11,146,none⟩),.pointer (some v),.int .u64 150] 194)) (by rw [World.cell?_alloc_lt _ _ v g]; exact f)
 have b:=Blk.new (w.alloc (.cells #[.pointer (some ⟨11,146,none⟩),.pointer (some v),.int .u64 150] 194)) #[.int .i64 e] 144
 rw [World.size_alloc]at b
 have c:=(l.alloc (.cells #[.pointer (some ⟨11,146,none⟩),.pointer (some v),.int .u64 150] 194)).alloc (.cells #[.int .i64 e] 144)
 have r:=znf a (w.heap.size+1) e 0 ((w.alloc (.cells #[.pointer (some ⟨11,146,none⟩),.pointer (some v),.int .u64 150] 194)).alloc (.cells #[.int .i64 e] 144)) b c
 have k:=((Below.refl w.heap.size w).alloc (Nat.le_refl _) (.cells #[.pointer (some ⟨11,146,none⟩),.pointer (some v),.int .u64 150] 194)).alloc (by simp) (.cells #[.int .i64 e] 144)
 go_enter Tryz.func153,Tryz.ntmps153
 go_wp2
 refine wp_loop_rounds 1 ?_
 rw [rounds_succ]
 go_wp2
 go_ret
 exact ⟨rfl,zu (below_grown k (some a)) (zx _ _ _),zB c _⟩
theorem znd (e:Int) (a:Nat) (w:World) (f:w.cell? ⟨2,0,none⟩=some (.iface 107 (.agg #[.pointer (some ⟨11,48,none⟩)]))) (n:Blk w a #[.int .i64 0] 144) :
  Calls Tryz.prog 108 #[.iface 144 (.agg #[.int .i64 e]),.iface 146 (.pointer (some ⟨a,0,none⟩))] w fun x l=>x=.returned (.bool true)∧w.grownBy l (some a)∧Blk l a #[.int .i64 e] 144:=by
 have y:=@run_callFunc_extern Tryz.prog 150 _ (fun c=>ReflectliteValue.unpack (c.getD 0 (.tuple #[]))) Tryz.func150 (by kernel_rfl) (by kernel_rfl) (by kernel_rfl) (by kernel_rfl)
 have z:=@run_callFunc_extern Tryz.prog 151 _ (ReflectliteValue.methodAny (ReflectliteValue.valueError "reflectlite.Value.Type" 0) (fun t _ _ _=>ReflectliteType.toType t)) Tryz.func151 (by kernel_rfl) (by kernel_rfl) (by kernel_rfl) (by kernel_rfl)
 have A:=@run_callFunc_extern Tryz.prog 152 _ (ReflectliteValue.method (ReflectliteValue.valueError "reflectlite.Value.IsNil" 0) ReflectliteValue.isNil) Tryz.func152 (by kernel_rfl) (by kernel_rfl) (by kernel_rfl) (by kernel_rfl)
 have o:=@run_callFunc_extern Tryz.prog 316 _ (ReflectliteType.abiMethod fun t=>do pure (.int .u8 (← Rtype.kind t))) Tryz.func316 (by kernel_rfl) (by kernel_rfl) (by kernel_rfl) (by kernel_rfl)
 have p:=@run_callFunc_extern Tryz.prog 323 _ (ReflectliteType.method ReflectliteType.elem) Tryz.func323 (by kernel_rfl) (by kernel_rfl) (by kernel_rfl) (by kernel_rfl)
 have q:=@run_callFunc_extern Tryz.prog 324 _ (ReflectliteType.relation "Implements" ReflectliteType.implements_) Tryz.func324 (by kernel_rfl) (by kernel_rfl) (by kernel_rfl) (by kernel_rfl)
 have u:=zgP
 have v:=zkP
 have G:=zeM
 have E:=zeL
 have F:=zaW
 have C:=zkN
 have D:=zkO
 have s:=zkK
 have B:=zeK
 have h:=Blk.new w #[.pointer (some ⟨a,0,none⟩)] 146
 have b:=h.alloc (.cells #[.pointer (some ⟨11,146,none⟩),.pointer (some ⟨w.heap.size,0,none⟩),.int .u64 150] 194)
 have H:=zkM ⟨w.heap.size,0,none⟩ ⟨a,0,none⟩ ((w.alloc (.cells #[.pointer (some ⟨a,0,none⟩)] 146)).alloc (.cells #[.pointer (some ⟨11,146,none⟩),.pointer (some ⟨w.heap.size,0,none⟩),.int .u64 150] 194)) (b.cell 0)
 have j:2<w.heap.size:=World.block_lt_of_cell? w ⟨2,0,none⟩ f
 have r:((w.alloc (.cells #[.pointer (some ⟨a,0,none⟩)] 146)).alloc (.cells #[.pointer (some ⟨11,146,none⟩),.pointer (some ⟨w.heap.size,0,none⟩),.int .u64 150] 194)).cell? ⟨2,0,none⟩=some (.iface 107 (.agg #[.pointer (some ⟨11,48,none⟩)])):=by
  rw [World.cell?_alloc_lt _ _ ⟨2,0,none⟩ (by simp; omega),World.cell?_alloc_lt _ _ ⟨2,0,none⟩ j]; exact f
 have k:=(n.alloc (.cells #[.pointer (some ⟨a,0,none⟩)] 146)).alloc (.cells #[.pointer (some ⟨11,146,none⟩),.pointer (some ⟨w.heap.size,0,none⟩),.int .u64 150] 194)
 have d:=Lib.hid (znL e a ((w.alloc (.cells #[.pointer (some ⟨a,0,none⟩)] 146)).alloc (.cells #[.pointer (some ⟨11,146,none⟩),.pointer (some ⟨w.heap.size,0,none⟩),.int .u64 150] 194)) ⟨w.heap.size,0,none⟩ (b.cell 0) k)
 have m:=((Below.refl w.heap.size w).alloc (Nat.le_refl _) (.cells #[.pointer (some ⟨a,0,none⟩)] 146)).alloc (by simp) (.cells #[.pointer (some ⟨11,146,none⟩),.pointer (some ⟨w.heap.size,0,none⟩),.int .u64 150] 194)
 go_enter Tryz.func108,Tryz.ntmps108
 go_wp2_with fail
 refine d.out.mono ?_
 rintro x I ⟨rfl,g,i⟩
 go_wp2_with fail
 go_ret
 exact ⟨rfl,zu (below_grown m (some a)) g,i⟩
theorem zmA (e:Int) (i:e≠0) (w:World) (a:w.cell? ⟨2,0,none⟩=some (.iface 107 (.agg #[.pointer (some ⟨11,48,none⟩)]))) :
  Calls Tryz.prog 69 #[jD e] w fun x w'=>x=.returned (.int .i64 e)∧Below w.heap.size w w':=by
 rw [xA i]
 have f:2<w.heap.size:=World.block_lt_of_cell? w ⟨2,0,none⟩ a
 have c:=Blk.new w #[.int .i64 0] 144
 have h:=(Below.refl w.heap.size w).alloc (Nat.le_refl _) (.cells #[.int .i64 0] 144)
 have g:=Lib.hid (znd e w.heap.size (w.alloc (.cells #[.int .i64 0] 144)) (by rw [World.cell?_alloc_lt _ _ ⟨2,0,none⟩ f]; exact a) c)
 go_enter Tryz.func69,Tryz.ntmps69
 go_wp2_with fail
 refine g.out.mono ?_
 rintro x j ⟨rfl,b,d⟩
 have k:=d.cell 0
 go_wp2_with fail
 go_ret
 exact ⟨rfl,h.trans (vP b (Nat.le_refl _) c.lt)⟩
end Go.Proofs.YtonihophanmaaaaGreatDoor
namespace Go.Proofs.YtonihophanmaaaaGreatDoor
open Go.RowKit Go.Shelf
attribute [local go_sem] Oper.semAt_some
abbrev zeZ (w:World):Prop:=w.cell? ⟨2,0,none⟩=some (.iface 107 (.agg #[.pointer (some ⟨11,48,none⟩)]))
abbrev zmd (w:World):Prop:=Lib.TabIs Tryz.prog w "internal/strconv.uint64pow10" .u64 Lib.pow10Tab
structure RW (w:World) (aT aF:Addr):Prop where
 g:GW w aT aF
 tab:zmd w
 ty:zeZ w
theorem RW.below {w b:World} {aT aF:Addr} (h:RW w aT aF) (a:Below w.heap.size w b):RW b aT aF where
 g:=h.g.below a
 tab:=Lib.tabBelow_of_tabIs h.tab b a
 ty:=cell_below a h.ty
def xL (s:ByteArray):PR Tr:=zE (s.size+1) 16 s.data.toList
def zkE (w:World) (s:ByteArray) (res:PR Tr) (x:Ending) (w':World):Prop:=Below w.heap.size w w'∧match res with
 | .good t r=>(∃ A n c,x=.returned (.tuple #[ze t.own (.slice A n c),.string (bs r),.int .i64 0])∧LAt w' (fun q=>w.heap.size≤q∧q<w'.heap.size) 16 t.kids (.slice A n c))∧zt t.own∧r.length+1≤s.size
 | .bad e=>x=.returned (.tuple #[zdz,.string s,.int .i64 e])∧e≠0
theorem zmx (s:ByteArray) (I:s.size≤1000000000) (w:World) (Z:zmd w) (aa:zeZ w) (F:OkS s:=by exact zbV _) :
  Calls Tryz.prog 45 #[.string s] w (zkE w s (xL s)):=by
 have ai:=zhq (w0:=w) Z (s.size+1) 16 (Nat.le_refl _)
 have aC:=Lib.hid (fun W (hb:Below w.heap.size w W)=>(show zeZ W from (hb.cell (p:=⟨2,0,none⟩) (World.block_lt_of_cell? w ⟨2,0,none⟩ aa)).trans aa))
 have ae:=(Below.refl w.heap.size w).alloc (Nat.le_refl _) (.cells #[.int .i64 0,.bool false,.bool false,.string ⟨#[]⟩,.int .i64 0,.int .u64 0,.int .i64 0,.string ⟨#[]⟩,.slice none 0 0] 28)
 have X:=ae.alloc ae.size (.cells #[.string s,.int .i64 0] 88)
 have aj:=(Blk.new w #[.int .i64 0,.bool false,.bool false,.string ⟨#[]⟩,.int .i64 0,.int .u64 0,.int .i64 0,.string ⟨#[]⟩,.slice none 0 0] 28).alloc (.cells #[.string s,.int .i64 0] 88)
 have ao:=Blk.new (w.alloc (.cells #[.int .i64 0,.bool false,.bool false,.string ⟨#[]⟩,.int .i64 0,.int .u64 0,.int .i64 0,.string ⟨#[]⟩,.slice none 0 0] 28)) #[.string s,.int .i64 0] 88
 rw [World.size_alloc]at ao
 have E:=Lib.hid (ai (w.heap.size+1) s _ X (by omega) ao I (Nat.lt_succ_self _) F)
 have E:Hid (Calls Tryz.prog 68 #[.pointer (some ⟨w.heap.size+1,0,none⟩)] ((w.alloc (.cells #[.int .i64 0,.bool false,.bool false,.string ⟨#[]⟩,.int .i64 0,.int .u64 0,.int .i64 0,.string ⟨#[]⟩,.slice none 0 0] 28)).alloc (.cells #[.string s,.int .i64 0] 88)) (jc (w.heap.size+1) 0 16 ((w.alloc (.cells #[.int .i64 0,.bool false,.bool false,.string ⟨#[]⟩,.int .i64 0,.int .u64 0,.int .i64 0,.string ⟨#[]⟩,.slice none 0 0] 28)).alloc (.cells #[.string s,.int .i64 0] 88)) s (xL s))):=E
 have N:((w.alloc (.cells #[.int .i64 0,.bool false,.bool false,.string ⟨#[]⟩,.int .i64 0,.int .u64 0,.int .i64 0,.string ⟨#[]⟩,.slice none 0 0] 28)).alloc (.cells #[.string s,.int .i64 0] 88)).heap.size=w.heap.size+2:=by simp
 have P:∀ t r,xL s=.good t r→r.length+1≤s.size:=fun t r h=>by
  have:=yr h
  have hl:s.data.toList.length=s.size:=by simp
  omega
 have ab:=Lib.hid P
 clear Z aa ai P F
 cases hres:xL s with
 | bad e =>
  rw [hres]at E
  have E:Hid (Calls Tryz.prog 68 #[.pointer (some ⟨w.heap.size+1,0,none⟩)] ((w.alloc (.cells #[.int .i64 0,.bool false,.bool false,.string ⟨#[]⟩,.int .i64 0,.int .u64 0,.int .i64 0,.string ⟨#[]⟩,.slice none 0 0] 28)).alloc (.cells #[.string s,.int .i64 0] 88)) fun x D=>((w.alloc (.cells #[.int .i64 0,.bool false,.bool false,.string ⟨#[]⟩,.int .i64 0,.int .u64 0,.int .i64 0,.string ⟨#[]⟩,.slice none 0 0] 28)).alloc (.cells #[.string s,.int .i64 0] 88)).grownBy D (some (w.heap.size+1))∧(∃ o A n c,x=.returned (.tuple #[ze o (.slice A n c),jD e]))∧e≠0∧∃ s',RdB D (w.heap.size+1) s' 0∧s'.size≤s.size):=E
  show Calls _ _ _ _ fun x D=>Below w.heap.size w D∧x=.returned (.tuple #[zdz,.string s,.int .i64 e])∧e≠0
  have Q:e≠0:=yl _ _ _ _ hres
  clear hres
  skip
  ·have HT:=Lib.hid (fun W hb=>zmA e Q W (aC.out W hb))
   obtain ⟨ex,ah⟩:∃ x,jD e=.iface 144 x:=⟨_,xA Q⟩
   rw [ah]at E HT
   have HE:=Lib.hid Q
   clear ah Q
   go_enter Tryz.func45,Tryz.ntmps45
   go_wp2_with fail
   refine E.out.mono ?_
   rintro x w3 ⟨G,⟨⟨b,b3,d,j,k,C,l,B⟩,A,n,c,rfl⟩,_,s',ap,ar⟩
   unfold ze
   simp only []
   have O:=(RdB.grown aj G (by omega)).alloc (.cells #[.int .i64 b,.bool b3,.bool d,.string j,.int .i64 k,.int .u64 C,.int .i64 l,.string B,.slice A n c] 28)
   have J:Below w.heap.size w w3:=X.trans (vP G (by omega) (by rw [N]; omega))
   have L:=J.alloc J.size (.cells #[.int .i64 b,.bool b3,.bool d,.string j,.int .i64 k,.int .u64 C,.int .i64 l,.string B,.slice A n c] 28)
   go_wp2_with fail
   refine (HT.out _ L).mono ?_
   rintro x w5 ⟨rfl,af⟩
   have ak:=O.below af O.lt
   have ag:=L.trans (af.mono L.size)
   go_wp2_with (refine wpList_store_row rfl 28 (.tmp 2) (.tmp 19) rfl (w.heap.size) #[.int .i64 0,.bool false,.bool false,.string ⟨#[]⟩,.int .i64 0,.int .u64 0,.int .i64 0,.string ⟨#[]⟩,.slice none 0 0] rfl rfl 28 _ ak (by kernel_rfl) rfl (by simp [Value.oneCell']) ?_)
   refine bodyPost_ret (zaU (T:=28) rfl rfl rfl rfl (zB ak #[.int .i64 0,.bool false,.bool false,.string ⟨#[]⟩,.int .i64 0,.int .u64 0,.int .i64 0,.string ⟨#[]⟩,.slice none 0 0]) Tryz.underlying28 rfl (by kernel_rfl)) rfl ?_
   exact ⟨ag.grown (zx _ w.heap.size _) ag.size (fun q e=>by cases e; omega),rfl,HE.out⟩
 | good t r =>
  rw [hres]at E
  have am:=ab.out t r hres
  have E:Hid (Calls Tryz.prog 68 #[.pointer (some ⟨w.heap.size+1,0,none⟩)] ((w.alloc (.cells #[.int .i64 0,.bool false,.bool false,.string ⟨#[]⟩,.int .i64 0,.int .u64 0,.int .i64 0,.string ⟨#[]⟩,.slice none 0 0] 28)).alloc (.cells #[.string s,.int .i64 0] 88)) fun x D=>((w.alloc (.cells #[.int .i64 0,.bool false,.bool false,.string ⟨#[]⟩,.int .i64 0,.int .u64 0,.int .i64 0,.string ⟨#[]⟩,.slice none 0 0] 28)).alloc (.cells #[.string s,.int .i64 0] 88)).grownBy D (some (w.heap.size+1))∧(∃ A n c,x=.returned (.tuple #[ze t.own (.slice A n c),.nilIface])∧LAt D (fun q=>((w.alloc (.cells #[.int .i64 0,.bool false,.bool false,.string ⟨#[]⟩,.int .i64 0,.int .u64 0,.int .i64 0,.string ⟨#[]⟩,.slice none 0 0] 28)).alloc (.cells #[.string s,.int .i64 0] 88)).heap.size≤q∧q<D.heap.size) 16 t.kids (.slice A n c))∧zt t.own∧RdB D (w.heap.size+1) (bs r) 0∧(bs r).size≤s.size):=E
  clear hres
  show Calls _ _ _ _ fun x D=>Below w.heap.size w D∧(∃ A n c,x=.returned (.tuple #[ze t.own (.slice A n c),.string (bs r),.int .i64 0])∧LAt D (fun q=>w.heap.size≤q∧q<D.heap.size) 16 t.kids (.slice A n c))∧zt t.own∧r.length+1≤s.size
  obtain ⟨rb,aq⟩:∃ rb,bs r=rb:=⟨_,rfl⟩
  rw [aq]at E ⊢
  have ay:=Lib.hid am
  clear aq am
  go_enter Tryz.func45,Tryz.ntmps45
  go_wp2_with fail
  refine E.out.mono ?_
  rintro x w3 ⟨G,⟨A,n,c,rfl,an⟩,aH,ap,ar⟩
  obtain ⟨⟨b,b3,d,j,k,C,l,B⟩,Y⟩:∃ o,t.own=o:=⟨_,rfl⟩
  have aA:=Lib.hid Y
  rw [Y]
  unfold ze
  simp only []
  have aV:w.heap.size+2≤w3.heap.size:=by have:=G.size; omega
  have O:=(RdB.grown aj G (by omega)).alloc (.cells #[.int .i64 b,.bool b3,.bool d,.string j,.int .i64 k,.int .u64 C,.int .i64 l,.string B,.slice A n c] 28)
  have J:Below w.heap.size w w3:=X.trans (vP G (by omega) (by rw [N]; omega))
  have L:=J.alloc J.size (.cells #[.int .i64 b,.bool b3,.bool d,.string j,.int .i64 k,.int .u64 C,.int .i64 l,.string B,.slice A n c] 28)
  have ad:=Lib.hid (Blk.new w3 #[.int .i64 b,.bool b3,.bool d,.string j,.int .i64 k,.int .u64 C,.int .i64 l,.string B,.slice A n c] 28)
  have ac:=Lib.hid (ap.alloc (.cells #[.int .i64 b,.bool b3,.bool d,.string j,.int .i64 k,.int .u64 C,.int .i64 l,.string B,.slice A n c] 28))
  have az:=Lib.hid an
  clear an Y ar
  go_wp2_with fail
  refine xe (R:=fun W W'=>W.grownBy W' (some w.heap.size)) 7 (by kernel_rfl) (by kernel_rfl) (fun _=>jB _ _) (by kernel_rfl) (by kernel_rfl) (fun W=>(w3.alloc (.cells #[.int .i64 b,.bool b3,.bool d,.string j,.int .i64 k,.int .u64 C,.int .i64 l,.string B,.slice A n c] 28)).grownBy W (some w.heap.size))
   [fun a _=>a 0=.agg #[.int .i64 b,.bool b3,.bool d,.string j,.int .i64 k,.int .u64 C,.int .i64 l,.string B,.slice A n c],fun a _=>a 1=.pointer (some ⟨w.heap.size+1,0,none⟩),fun a _=>a 2=.pointer (some ⟨w.heap.size+1,0,none⟩),fun a _=>a 3=.pointer (some ⟨w.heap.size+1,0,none⟩),fun a _=>a 4=.pointer (some ⟨w.heap.size+1,0,none⟩),fun a _=>a 5=.string rb]
   (fun f _ W=>Blk W w.heap.size (if f 6=true then #[.int .i64 b,.bool b3,.bool d,.string j,.int .i64 k,.int .u64 C,.int .i64 l,.string B,.slice A n c] else #[.int .i64 0,.bool false,.bool false,.string ⟨#[]⟩,.int .i64 0,.int .u64 0,.int .i64 0,.string ⟨#[]⟩,.slice none 0 0]) 28) ?_ ?_ ?_ ?_ ?_ ?_
  case refine_1=>exact vk _ _ 1
  case refine_2=>exact fun _=>O
  case refine_3=>exact fun W W' Q hr=>zu Q hr
  case refine_4 =>
   intro i o' a aP W W' M U _ V _
   match i,M with
   | 0,M=>exact (U 0 (.inl rfl)).symm.trans V
   | 1,M=>exact (U 1 (.inl rfl)).symm.trans V
   | 2,M=>exact (U 2 (.inl rfl)).symm.trans V
   | 3,M=>exact (U 3 (.inl rfl)).symm.trans V
   | 4,M=>exact (U 4 (.inl rfl)).symm.trans V
   | 5,M=>exact (U 5 (.inl rfl)).symm.trans V
   | n+6,M=>exact (show True from trivial)
  case refine_5 =>
   refine zg (zw rfl rfl (by kernel_rfl) (by kernel_rfl) ?_) ?_
   ·intro f a W v hn m I u ρ g hc S z K y
    have r6:ρ (.tmp 6)=.pointer (some ⟨w3.heap.size,0,none⟩):=by rw [g]; kernel_rfl
    clear g z
    exact jh 28 (.tmp 6) rfl w3.heap.size r6 28 _ (0,0) _ (RdB.grown ad.out v (by omega)) Tryz.underlying28 rfl (by kernel_rfl) (y _ _ (zi _ _ _) (by rw [zr f (show (6:Nat)≠0 by decide)]; exact m) (jB _ _))
   refine zg (zw rfl rfl (by kernel_rfl) (by kernel_rfl) ?_) ?_
   ·intro f a W v hn m I u ρ g hc S z K y
    have r5:ρ (.tmp 5)=.pointer (some ⟨w.heap.size+1,0,none⟩):=by rw [g]; kernel_rfl
    clear g z
    simp [zd,go_sem,r5]
    exact y _ _ (zi _ _ _) (by rw [zr f (show (6:Nat)≠1 by decide)]; exact m) (jB _ _)
   refine zg (zw rfl rfl (by kernel_rfl) (by kernel_rfl) ?_) ?_
   ·intro f a W v hn m I u ρ g hc S z K y
    have aK:=(show ρ (.tmp 24)=a 1 by rw [g]; kernel_rfl).trans (hn 1 (u 1 (by kernel_rfl)))
    clear g z
    simp [zd,go_sem,aK]
    exact y _ _ (zi _ _ _) (by rw [zr f (show (6:Nat)≠2 by decide)]; exact m) (jB _ _)
   refine zg (zw rfl rfl (by kernel_rfl) (by kernel_rfl) ?_) ?_
   ·intro f a W v hn m I u ρ g hc S z K y
    have aL:=(show ρ (.tmp 25)=a 2 by rw [g]; kernel_rfl).trans (hn 2 (u 2 (by kernel_rfl)))
    clear g z
    simp [zd,go_sem,aL]
    exact y _ _ (zi _ _ _) (by rw [zr f (show (6:Nat)≠3 by decide)]; exact m) (jB _ _)
   refine zg (zw rfl rfl (by kernel_rfl) (by kernel_rfl) ?_) ?_
   ·intro f a W v hn m I u ρ g hc S z K y
    have aM:=(show ρ (.tmp 26)=a 3 by rw [g]; kernel_rfl).trans (hn 3 (u 3 (by kernel_rfl)))
    clear g z
    simp [zd,go_sem,aM]
    exact y _ _ (zi _ _ _) (by rw [zr f (show (6:Nat)≠4 by decide)]; exact m) (jB _ _)
   refine zg (zw rfl rfl (by kernel_rfl) (by kernel_rfl) ?_) ?_
   ·intro f a W v hn m I u ρ g hc S z K y
    have aN:=(show ρ (.tmp 27)=a 4 by rw [g]; kernel_rfl).trans (hn 4 (u 4 (by kernel_rfl)))
    clear g z
    have q0:W.cell? ⟨w.heap.size+1,0,none⟩=some (.string rb):=(RdB.grown ac.out v (by omega)).cell 0
    simp [zd,go_sem,aN,q0]
    exact y _ _ (zi _ _ _) (by rw [zr f (show (6:Nat)≠5 by decide)]; exact m) (jB _ _)
   refine zg (kK rfl rfl (by kernel_rfl) rfl ?_) xp
   ·intro f a W v hn m I u ρ g hc S z K y
    have r2:ρ (.tmp 2)=.pointer (some ⟨w.heap.size,0,none⟩):=by rw [g]; kernel_rfl
    have aJ:=(show ρ (.tmp 23)=a 0 by rw [g]; kernel_rfl).trans (hn 0 (u 0 (by kernel_rfl)))
    clear g z
    rw [I,if_neg (by decide)]at m
    exact qK 28 (.tmp 2) (.tmp 23) rfl w.heap.size #[.int .i64 b,.bool b3,.bool d,.string j,.int .i64 k,.int .u64 C,.int .i64 l,.string B,.slice A n c] r2 aJ 28 _ m (by kernel_rfl) rfl (by simp [Value.oneCell']) (y undef _ trivial (by rw [kN,if_pos rfl]; exact zB m _) (zx _ _ _))
  case refine_6 =>
   intro a W v hn m
   have e0:a 0=.agg #[.int .i64 b,.bool b3,.bool d,.string j,.int .i64 k,.int .u64 C,.int .i64 l,.string B,.slice A n c]:=hn 0 (by decide)
   have e5:a 5=.string rb:=hn 5 (by decide)
   have aG:Blk W w.heap.size #[.int .i64 b,.bool b3,.bool d,.string j,.int .i64 k,.int .u64 C,.int .i64 l,.string B,.slice A n c] 28:=m
   clear hn ad ac m
   have H:=zu (below_grown L (some w.heap.size)) v
   have aI:=v.size
   rw [World.size_alloc]at aI
   have al:LAt W (fun q=>w.heap.size+2≤q∧q<w3.heap.size) 16 t.kids (.slice A n c):=(az.out.keep (fun q F=>(v.block q (by rw [World.size_alloc]; omega) (fun e=>by have:=F.1; injection e with e; omega)).trans (Below.heap_alloc w3 _ q F.2))).mono (fun q F=>by rw [N]at F; exact F)
   have ax:=Lib.hid al
   have aF:Below w.heap.size w W:=⟨H.os,H.tape,H.output,H.size,fun q F=>H.block q F (fun e=>by injection e with e; omega)⟩
   simp only [List.take_succ_cons,List.take_zero,List.drop_succ_cons,List.drop_zero,jM,e0,e5]
   go_simp
   clear e0 e5 v al H
   go_wp2_with fail
   refine bodyPost_ret (zaU (T:=28) rfl rfl rfl rfl aG Tryz.underlying28 rfl (by kernel_rfl)) rfl ?_
   exact ⟨aF,⟨A,n,c,by rw [aA.out]; rfl,ax.out.mono (fun q F=>⟨by omega,by omega⟩)⟩,aH,ay.out⟩
end Go.Proofs.YtonihophanmaaaaGreatDoor
