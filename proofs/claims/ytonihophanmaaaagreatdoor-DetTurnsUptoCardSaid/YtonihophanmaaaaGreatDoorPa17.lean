/- The texts GateO, FlowR, put together. -/
import Derived.Test.YtonihophanmaaaaGreatDoorPa15
import Derived.Test.YtonihophanmaaaaGreatDoorPa01
import Derived.Orders
import Derived.Still
import Derived.Laws.Rows
import Derived.Laws.Tables
import Derived.Deep.MidRow
namespace Go.Proofs.YtonihophanmaaaaGreatDoor
open Go.RowKit Go.Shelf
set_option maxHeartbeats 2000000 in
set_option maxRecDepth 100000 in
theorem tree_has (id:Int) (b:Nat) (zs:List Int) (n:Nat) (t:TypeId) (w:World) (hk:Blk w b (zs.map (Value.int .i64)).toArray t) (hn:zs.length=n) (hz:n≤4) :
  Calls Tryz.prog 88 #[.agg #[.int .i64 id],.slice (some ⟨b,0,none⟩) n n] w fun e w'=>e=.returned (.bool (zs.contains id))∧Below w.heap.size w w':=by
 have hb1:Below w.heap.size w (w.alloc (.cells #[.int .i64 id] 50)):=(Below.refl _ _).alloc (Nat.le_refl _) _
 have hk1:=Blk.new w #[.int .i64 id] 50
 have HC:=Lib.hid (show Calls Tryz.prog 130 #[.slice (some ⟨b,0,none⟩) n n,.int .i64 id] (w.alloc (.cells #[.int .i64 id] 50)) fun e w'=>e=.returned (.bool (zs.contains id))∧w'=(w.alloc (.cells #[.int .i64 id] 50)) from by
  have:=Tryz.slices_Contains_int b 0 n n zs id (w.alloc (.cells #[.int .i64 id] 50)) (by omega) (by omega) (fun j hj=>by
   have hk2:=(hk.alloc (.cells #[.int .i64 id] 50)).cell j
   rw [Nat.zero_add,hk2]
   simp [hj])
  rw [← hn,List.take_length]at this
  rw [← hn]
  exact this)
 obtain ⟨cb,hcb⟩:∃ cb,zs.contains id=cb:=⟨_,rfl⟩
 rw [hcb]at HC ⊢
 have z0:=hk1.cell 0
 clear hk hn hk1 hcb
 go_enter Tryz.func88,Tryz.ntmps88
 go_wp2_with fail
 refine HC.out.mono ?_
 rintro e w2 ⟨rfl,rfl⟩
 go_wp2_with fail
 go_ret
 exact ⟨rfl,hb1⟩
set_option maxHeartbeats 4000000 in
set_option maxRecDepth 100000 in
theorem tree_isKey {aT aF:Addr} (id:Int) (o:Own) (A:Option Addr) (n c:Nat) (w:World) (ho:OwnOk o) (h:GW w aT aF) :
  Calls Tryz.prog 86 #[.agg #[.int .i64 id],nodeV o (.slice A n c)] w fun e w'=>e=.returned (.bool (keyO id o))∧Below w.heap.size w w':=by
 obtain ⟨kind,b,neg,dg,ex,u,wd,s⟩:=o
 have hdg:=ho.dg
 simp only []at hdg
 unfold nodeV keyO
 simp only []
 obtain ⟨hb2,hk1,hk2⟩:=box2 w #[.int .i64 id] #[.int .i64 kind,.bool b,.bool neg,.string dg,.int .i64 ex,.int .u64 u,.int .i64 wd,.string s,.slice A n c] 52 28
 have HD:=Lib.hid (dec_ToInt neg dg ex hdg _ (h.below hb2))
 obtain ⟨ans,hans⟩:∃ ans,(if kind=5 then true else if id=1 then false else if kind=3 then (toIntD neg dg ex).isSome else decide (kind=6) || (decide (kind=2) || decide (kind=1)))=ans:=⟨_,rfl⟩
 rw [hans]
 obtain ⟨tv,sb,hv1,hv2⟩:∃ (tv:Value×Value) (sb:Bool),toIntV (toIntD neg dg ex)=.tuple #[tv.1,tv.2,.bool sb]∧(toIntD neg dg ex).isSome=sb:=by
  cases toIntD neg dg ex with
  | none=>exact ⟨(_,_),false,rfl,rfl⟩
  | some r=>exact ⟨(_,_),true,rfl,rfl⟩
 rw [hv1]at HD
 rw [hv2]at hans
 have HANS:=Lib.hid hans
 have z0:=hk2.cell 0
 have z1:=hk2.cell 1
 have z2:=hk2.cell 2
 have z3:=hk2.cell 3
 have z4:=hk2.cell 4
 clear hv1 hv2 hans h ho
 go_enter Tryz.func86,Tryz.ntmps86
 go_wp2_with fail
 refine HD.out.mono ?_
 rintro e w2 ⟨rfl,hb⟩
 have hb3:=hb2.trans (hb.mono hb2.size)
 have hk3:=hk2.below hb hk2.lt
 have hk4:=hk1.below hb hk1.lt
 clear z0 z1 z2 z3 z4 hb hb2 hk1 hk2 HD
 have z0:=hk3.cell 0
 have x0:=hk4.cell 0
 by_cases h5:kind=5
 ·obtain rfl:true=ans:=by
   have:=HANS.out
   rw [if_pos h5]at this
   exact this
  subst h5
  go_wp2_with fail
  go_ret
  exact ⟨rfl,hb3⟩
 have y5:(kind == 5)=false:=by rw [beq_eq_false_iff_ne]; exact h5
 have hs1:Blk (w2.alloc (.cells #[.int .i64 1] 3)) w2.heap.size #[.int .i64 1] 3:=Blk.new _ _ _
 have HF:=Lib.hid (tree_has id w2.heap.size [1] 1 3 (w2.alloc (.cells #[.int .i64 1] 3)) hs1 rfl (by decide))
 have hb4:=hb3.alloc hb3.size (.cells #[.int .i64 1] 3)
 have hk5:=hk3.alloc (.cells #[.int .i64 1] 3)
 obtain ⟨fb,hfb⟩:∃ fb,([1]:List Int).contains id=fb:=⟨_,rfl⟩
 rw [hfb]at HF
 have HFB:=Lib.hid hfb
 clear hfb hs1
 go_wp2_with fail
 refine HF.out.mono ?_
 rintro e w3 ⟨rfl,hb⟩
 have hb6:=hb4.trans (hb.mono hb4.size)
 have hk6:=hk5.below hb hk5.lt
 clear z0 x0 hb hb4 hb3 hk3 hk4 hk5 HF
 have z0:=hk6.cell 0
 cases fb with
 | true =>
  have h1:id=1:=by simpa using HFB.out
  obtain rfl:false=ans:=by
   have:=HANS.out
   rw [if_neg h5,if_pos h1]at this
   exact this
  go_wp2_with fail
  go_ret
  exact ⟨rfl,hb6⟩
 | false =>
  have h1:¬ id=1:=by
   have:=HFB.out
   simpa using this
  by_cases h3:kind=3
  ·obtain rfl:sb=ans:=by
    have:=HANS.out
    rw [if_neg h5,if_neg h1,if_pos h3]at this
    exact this
   subst h3
   go_wp2_with fail
   go_ret
   exact ⟨rfl,hb6⟩
  ·have y3:(kind == 3)=false:=by rw [beq_eq_false_iff_ne]; exact h3
   obtain rfl:(decide (kind=6) || (decide (kind=2) || decide (kind=1)))=ans:=by
    have:=HANS.out
    rw [if_neg h5,if_neg h1,if_neg h3]at this
    exact this
   by_cases h6:kind=6
   ·subst h6
    go_wp2_with fail
    go_ret
    exact ⟨rfl,hb6⟩
   have y6:(kind == 6)=false:=by rw [beq_eq_false_iff_ne]; exact h6
   by_cases h2:kind=2
   ·subst h2
    go_wp2_with fail
    go_ret
    exact ⟨rfl,hb6⟩
   have y2:(kind == 2)=false:=by rw [beq_eq_false_iff_ne]; exact h2
   by_cases h1:kind=1
   ·subst h1
    go_wp2_with fail
    go_ret
    exact ⟨rfl,hb6⟩
   have y1:(kind == 1)=false:=by rw [beq_eq_false_iff_ne]; exact h1
   go_wp2_with fail
   go_ret
   exact ⟨ret_bool (by rw [decide_eq_false h6,decide_eq_false h2,decide_eq_false h1]; rfl),hb6⟩
set_option maxHeartbeats 4000000 in
set_option maxRecDepth 100000 in
theorem fits_key {aT aF:Addr} (id:Int) (y:Tr) (vy:Value) (bx:Nat) (w:World) (B d:Nat) (hl:ListAt w B d y.kids vy) (ho:OwnOk y.own) (hbx:Blk w bx #[.int .i64 id] 52) (h:GW w aT aF) :
  Calls Tryz.prog 85 #[nodeV y.own vy,.pointer (some ⟨bx,0,none⟩)] w fun e w'=>e=.returned (.bool (!keyO id y.own))∧Below w.heap.size w w':=by
 obtain ⟨_,A,c,rfl⟩:=hl.slice
 obtain ⟨n,hn⟩:∃ n,y.kids.length=n:=⟨_,rfl⟩
 rw [hn]
 have hb1:Below w.heap.size w (w.alloc (.cells (cellsV y.own (.slice A n c)) 28)):=(Below.refl _ _).alloc (Nat.le_refl _) _
 have HK:=tree_isKey id y.own A n c _ ho (h.below hb1)
 have hk1:=Blk.new w (cellsV y.own (.slice A n c)) 28
 have hk2:=hbx.alloc (.cells (cellsV y.own (.slice A n c)) 28)
 obtain ⟨kb,hkb⟩:∃ kb,keyO id y.own=kb:=⟨_,rfl⟩
 obtain ⟨⟨kind,b,neg,dg,ex,u,wd,s⟩,ho'⟩:∃ o,y.own=o:=⟨_,rfl⟩
 rw [hkb]at HK ⊢
 rw [ho']at HK hb1 hk1 hk2 ⊢
 unfold nodeV at HK ⊢
 unfold cellsV at HK hb1 hk1 hk2
 simp only []at HK hb1 hk1 hk2 ⊢
 have HK:=Lib.hid HK
 have z0:=hk1.cell 0
 have z1:=hk1.cell 1
 have z2:=hk1.cell 2
 have z3:=hk1.cell 3
 have z4:=hk1.cell 4
 have z5:=hk1.cell 5
 have z6:=hk1.cell 6
 have z7:=hk1.cell 7
 have z8:=hk1.cell 8
 have x0:=hk2.cell 0
 clear hl ho hbx h hn hkb ho' hk1 hk2
 go_enter Tryz.func85,Tryz.ntmps85
 go_wp2_with fail
 refine HK.out.mono ?_
 rintro e w2 ⟨rfl,hb⟩
 have hb3:=hb1.trans (hb.mono hb1.size)
 go_wp2_with fail
 go_ret
 exact ⟨rfl,hb3⟩
end Go.Proofs.YtonihophanmaaaaGreatDoor
namespace Go.Proofs.YtonihophanmaaaaGreatDoor
open Go.RowKit
def waitsFor (o:Oper) (j:Nat):Bool:=o.after.any fun e=>Region.binds .any e && e.on == j
def looksB (ops:Array Oper) (o:Oper) (d:Option Tmp):Bool:=
 match d with
 | some d=>(o.looksAt ops).contains d
 | none=>false
def flowB (ops:Array Oper):Bool:=
 (List.range ops.size).all fun i =>
  match ops[i]? with
  | none=>true
  | some o =>
   (o.op matches .select .. ) == false &&
   (o.after.all fun e=>!Region.binds .any e || decide (e.on<i)) &&
   (List.range ops.size).all fun j =>
    match ops[j]? with
    | none=>true
    | some p=>i == j || ((!(looksB ops o p.dst) || waitsFor o j || waitsFor p i) && (p.dst.isNone || !(p.dst == o.dst)))
def frameOf (ops:Array Oper) (a:Act) (sel:Nat→Bool) (env:Nat→Value):List Nat→Act
 | []=>a
 | i::r=>if sel i then (frameOf ops a sel env r).put ((ops[i]?).bind (·.dst)) (env i) else frameOf ops a sel env r
section
variable {P:Program} {R:World→World→Prop} {ops:Array Oper}
theorem frameOf_congr {a:Act} {sel sel':Nat→Bool} {env env':Nat→Value}:∀ (l:List Nat),(∀ i∈l,sel i=sel' i∧(sel i=true→env i=env' i))→frameOf ops a sel env l=frameOf ops a sel' env' l
 | [],_=>rfl
 | i::r,h=>by
  have h1:=h i (List.mem_cons_self ..)
  have h2:=frameOf_congr (a:=a) r (fun j hj=>h j (List.mem_cons_of_mem _ hj))
  unfold frameOf
  rw [← h1.1,h2]
  by_cases hs:sel i=true
  ·rw [if_pos hs,if_pos hs,h1.2 hs]
  ·rw [if_neg hs,if_neg hs]
theorem frameOf_put {a:Act} {sel:Nat→Bool} {env:Nat→Value} {i:Nat} (v:Value)
  (hap:∀ j,j≠i→sel j=true→∀ d,(ops[i]?).bind (·.dst)=some d→(ops[j]?).bind (·.dst)≠some d) :
  ∀ (l:List Nat),l.Nodup→i∈l→sel i=false →
   frameOf ops a (fun j=>j == i || sel j) (fun j=>if j=i then v else env j) l=(frameOf ops a sel env l).put ((ops[i]?).bind (·.dst)) v
 | [],_,h,_=>by cases h
 | k::r,hn,hm,hs=>by
  rw [List.nodup_cons]at hn
  unfold frameOf
  by_cases hk:k=i
  ·subst hk
   have e1:(k == k || sel k)=true:=by simp
   rw [if_pos e1,hs]
   simp only [if_true,Bool.false_eq_true,if_false]
   congr 1
   refine frameOf_congr r (fun j hj=>?_)
   have:j≠k:=fun e=>hn.1 (e▸hj)
   exact ⟨by simp [this],fun _=>by rw [if_neg this]⟩
  ·have hmr:i∈r:=by
    rcases List.mem_cons.1 hm with h | h
    ·exact absurd h.symm hk
    ·exact h
   have ih:=frameOf_put (a:=a) (env:=env) v hap r hn.2 hmr hs
   rw [ih]
   by_cases hsk:sel k=true
   ·rw [if_pos (by simp [hsk]),if_pos hsk,if_neg hk]
    exact Act.put_comm _ _ _ (fun d hd=>hap k hk hsk d hd)
   ·rw [if_neg (by simp [hsk,hk]),if_neg hsk]
theorem frameOf_size {a:Act} {sel:Nat→Bool} {env:Nat→Value}:∀ (l:List Nat),(frameOf ops a sel env l).tmps.size=a.tmps.size
 | []=>rfl
 | k::r=>by
  have ih:=frameOf_size (a:=a) (sel:=sel) (env:=env) r
  unfold frameOf
  split
  ·cases (ops[k]?).bind (·.dst) with
   | none=>exact ih
   | some d=>simp [Act.put,ih]
  ·exact ih
theorem frameOf_same {a:Act} {sel sel':Nat→Bool} {env:Nat→Value} {t:Tmp}:∀ (l:List Nat),
  (∀ j∈l,sel j≠sel' j→(ops[j]?).bind (·.dst)≠some t)→(frameOf ops a sel env l).tmps[t]? = (frameOf ops a sel' env l).tmps[t]?
 | [],_=>rfl
 | k::r,h=>by
  have ih:=frameOf_same (a:=a) (env:=env) r (fun j hj=>h j (List.mem_cons_of_mem _ hj))
  have hput:∀ (b:Act) (v:Value),(ops[k]?).bind (·.dst)≠some t→(b.put ((ops[k]?).bind (·.dst)) v).tmps[t]? = b.tmps[t]? := fun b v hne=>by
   cases hq:(ops[k]?).bind (·.dst) with
   | none=>rfl
   | some d =>
    rw [hq]at hne
    exact Array.getElem?_setIfInBounds_ne (fun e=>hne (by rw [e]))
  have hk:=h k (List.mem_cons_self ..)
  unfold frameOf
  by_cases he:sel k=sel' k
  ·rw [he]
   by_cases hs:sel' k=true
   ·rw [if_pos hs,if_pos hs]
    by_cases hq:(ops[k]?).bind (·.dst)=some t
    ·have z1:=frameOf_size (ops:=ops) (a:=a) (sel:=sel) (env:=env) r
     have z2:=frameOf_size (ops:=ops) (a:=a) (sel:=sel') (env:=env) r
     rw [hq]
     simp [Act.put,Array.getElem?_setIfInBounds,z1,z2]
    ·rw [hput _ _ hq,hput _ _ hq,ih]
   ·rw [if_neg hs,if_neg hs,ih]
  ·have hne:=hk he
   by_cases hs:sel k=true
   ·have hs':sel' k=false:=by cases h2:sel' k; rfl; exact absurd (hs.trans h2.symm) he
    rw [if_pos hs,hs',hput _ _ hne]
    simpa using ih
   ·have hs0:sel k=false:=by simpa using hs
    have hs':sel' k=true:=by cases h2:sel' k; exact absurd (hs0.trans h2.symm) he; rfl
    rw [hs0,if_pos hs',hput _ _ hne]
    simpa using ih
def slotOf (o:Oper) (x:Act):Value:=
 match o.dst with
 | some d=>x.tmps.getD d undef
 | none=>undef
def FlowOp (P:Program) (R:World→World→Prop) (ops:Array Oper) (a:Act) (E:World→Prop) (Φ:Nat→Value→World→Prop) (i:Nat) (o:Oper):Prop:=
 ∀ (env:Nat→Value) (w:World),E w→(∀ j,waitsFor o j=true→Φ j (env j) w) →
  ∀ a',a'=frameOf ops a (fun j=>waitsFor o j) env (List.range ops.size) →
   if Region.wanted o (yielded ops a'.tmps) then
    ∀ K:Act→World→Prop,(∀ x w',x.defers=a'.defers→Φ i (slotOf o x) w'→R w w'→K x w')→o.wp P a' w K (fun _ _ _=>False)
   else Φ i undef w
theorem upon_flow {o:Oper} {a A:Act} {K next:Act→World→Prop} {Q:Exit→Act→World→Prop} (r:Result Next)
  (hv:∀ v w',K (a.put o.dst v) w'→next (A.put o.dst v) w') (hd:∀ d w',K (({ a with defers:=d::a.defers }:Act).put o.dst undef) w'→False)
  (h:o.upon P a K (fun _ _ _=>False) r):o.upon P A next Q r:=by
 cases r with
 | ok n w' =>
  cases n <;> simp only [Oper.upon]at h ⊢
  case value v=>exact hv _ _ h
  case skip=>exact hv _ _ h
  case defer d=>exact (hd _ _ h).elim
  case enter f args =>
   refine Calls.mono h (fun e w'' he=>?_)
   cases e with
   | returned v=>exact hv _ _ he
   | panicked c=>exact he.elim
   | outgrown=>obtain ⟨_,_,hf⟩:=he; exact hf.elim
  case row row args=>exact Rows.mono h (fun _ _ he=>hv _ _ he)
 | halt x w'=>cases x <;> simp only [Oper.upon]at h
theorem yielded_same {t t':Array Value} {j:Nat} (h:∀ d,(ops[j]?).bind (·.dst)=some d→t[d]? = t'[d]?):yielded ops t j=yielded ops t' j:=by
 unfold yielded
 cases hq:(ops[j]?).bind (·.dst) with
 | none=>simp
 | some d=>simp [h d hq]
theorem flowB_out (h:flowB ops=true) {i:Nat} {o:Oper} (hi:ops[i]? = some o) :
  (∀ cs b,o.op≠.select cs b)∧(∀ e∈o.after,Region.binds .any e=true→e.on<i) ∧
  (∀ j p,ops[j]? = some p→j≠i→(∀ d,p.dst=some d→d∈o.looksAt ops→waitsFor o j=true∨waitsFor p i=true)∧(∀ d,p.dst=some d→o.dst≠some d)):=by
 have hlt:i<ops.size:=(Array.getElem?_eq_some_iff.1 hi).1
 have h1:=List.all_eq_true.1 h i (List.mem_range.2 hlt)
 rw [hi]at h1
 simp only [Bool.and_eq_true]at h1
 obtain ⟨⟨h2,h3⟩,h4⟩:=h1
 refine ⟨fun cs b e=>?_,fun e he hb=>?_,fun j p hj hne=>?_⟩
 ·rw [e]at h2
  cases h2
 ·have h5:=Array.all_eq_true'.1 h3 e he
  rw [hb]at h5
  simpa using h5
 ·have hjlt:j<ops.size:=(Array.getElem?_eq_some_iff.1 hj).1
  have h5:=List.all_eq_true.1 h4 j (List.mem_range.2 hjlt)
  rw [hj]at h5
  simp only [Bool.or_eq_true,beq_iff_eq,Bool.and_eq_true,Bool.not_eq_true',Option.isNone_iff_eq_none]at h5
  rcases h5 with h5 | ⟨h5,h6⟩
  ·exact absurd h5.symm hne
  ·refine ⟨fun d hd hl=>?_,fun d hd e=>?_⟩
   ·rcases h5 with (h5 | h5) | h5
    ·rw [hd]at h5
     simp only [looksB]at h5
     have:(o.looksAt ops).contains d=true:=by simpa using hl
     rw [this]at h5
     cases h5
    ·exact .inl h5
    ·exact .inr h5
   ·rcases h6 with h6 | h6
    ·rw [hd]at h6; cases h6
    ·rw [hd,e]at h6; simp at h6
theorem waitsFor_mem {o:Oper} {j:Nat} (h:waitsFor o j=true):∃ e∈o.after,Region.binds .any e=true∧e.on=j:=by
 unfold waitsFor at h
 obtain ⟨e,he,h2⟩:=Array.any_eq_true'.1 h
 simp only [Bool.and_eq_true,beq_iff_eq]at h2
 exact ⟨e,he,h2.1,h2.2⟩
theorem ready_out {listed:Array Bool} {i:Nat} (h:i∈Region.ready .any ops listed) :
  ∃ o,ops[i]? = some o∧listed.getD i true=false∧∀ j,waitsFor o j=true→listed.getD j false=true:=by
 unfold Region.ready at h
 obtain ⟨hlt,h2⟩:=List.mem_filter.1 h
 have hlt:=List.mem_range.1 hlt
 obtain ⟨o,ho⟩:∃ o,ops[i]? = some o:=⟨ops[i],Array.getElem?_eq_getElem hlt⟩
 rw [ho]at h2
 simp only [Bool.and_eq_true,Bool.not_eq_true',Option.map_some,Option.getD_some]at h2
 refine ⟨o,ho,h2.1,fun j hj=>?_⟩
 obtain ⟨e,he,hb,rfl⟩:=waitsFor_mem hj
 have h3:=Array.all_eq_true'.1 h2.2 e he
 rw [hb]at h3
 simpa using h3
theorem all_listed (hB:flowB ops=true) {listed:Array Bool} (hs:listed.size=ops.size) (h:Region.ready .any ops listed=[]):∀ i,i<ops.size→listed.getD i false=true:=by
 intro i
 induction i using Nat.strongRecOn with
 | _ i ih =>
  intro hi
  apply Decidable.byContradiction
  intro hn
  obtain ⟨o,ho⟩:∃ o,ops[i]? = some o:=⟨ops[i],Array.getElem?_eq_getElem hi⟩
  have hout:=(flowB_out hB ho).2.1
  have hmem:i∈Region.ready .any ops listed:=by
   unfold Region.ready
   refine List.mem_filter.2 ⟨List.mem_range.2 hi,?_⟩
   rw [ho]
   simp only [Bool.and_eq_true,Bool.not_eq_true',Option.map_some,Option.getD_some]
   refine ⟨?_,Array.all_eq_true'.2 fun e he=>?_⟩
   ·have h1:i<listed.size:=by omega
    simp only [Array.getD,h1,dif_pos]at hn ⊢
    simpa using hn
   ·by_cases hb:Region.binds .any e=true
    ·have hlt:=hout e he hb
     have:=ih e.on hlt (by omega)
     simp [this]
    ·have hb':Region.binds .any e=false:=by simpa using hb
     simp [hb']
  rw [h]at hmem
  cases hmem
theorem count_set:∀ (l:List Bool) (i:Nat),l[i]? = some false→((l.set i true).filter (! ·)).length+1=(l.filter (! ·)).length
 | [],_,h=>by cases h
 | b::l,0,h=>by
  simp at h
  subst h
  simp
 | b::l,i+1,h=>by
  simp at h
  have:=count_set l i h
  cases b <;> simp at this ⊢ <;> omega
def FlowInv (ops:Array Oper) (a:Act) (E:World→Prop) (Φ:Nat→Value→World→Prop) (listed:Array Bool) (A:Act) (w:World):Prop:=
 E w∧listed.size=ops.size∧(∀ j p,ops[j]? = some p→listed.getD j false=true→∀ i,waitsFor p i=true→listed.getD i false=true) ∧
 ∃ env:Nat→Value,(∀ i,listed.getD i false=true→Φ i (env i) w)∧A=frameOf ops a (fun j=>listed.getD j false) env (List.range ops.size)
def readSlot (ops:Array Oper) (sel:Nat→Bool) (env:Nat→Value) (t:Tmp) (dflt:Value):List Nat→Value
 | []=>dflt
 | k::r=>if sel k && (ops[k]?).bind (·.dst) == some t then env k else readSlot ops sel env t dflt r
theorem frameOf_read {a:Act} {sel:Nat→Bool} {env:Nat→Value} {t:Tmp} (ht:t<a.tmps.size):∀ (l:List Nat),
  (frameOf ops a sel env l).tmps.getD t undef=readSlot ops sel env t (a.tmps.getD t undef) l
 | []=>rfl
 | k::r=>by
  have ih:=frameOf_read (a:=a) (sel:=sel) (env:=env) ht r
  have hz:=frameOf_size (ops:=ops) (a:=a) (sel:=sel) (env:=env) r
  unfold frameOf readSlot
  by_cases hs:sel k=true
  ·rw [if_pos hs,hs]
   by_cases hq:(ops[k]?).bind (·.dst)=some t
   ·have e1:((ops[k]?).bind (·.dst) == some t)=true:=by simp [hq]
    rw [hq]
    simp [Act.put,hz,ht]
   ·have e1:((ops[k]?).bind (·.dst) == some t)=false:=by simp [hq]
    rw [e1,Bool.and_false,if_neg (by decide),← ih]
    cases hq2:(ops[k]?).bind (·.dst) with
    | none=>rfl
    | some d =>
     rw [hq2]at hq
     have hne:d≠t:=fun e=>hq (by rw [e])
     simp only [Array.getD_eq_getD_getElem?,Act.put,Array.getElem?_setIfInBounds_ne hne]
  ·have hs0:sel k=false:=by simpa using hs
   rw [if_neg hs,hs0,Bool.false_and,if_neg (by decide),ih]
def readOf (ops:Array Oper) (a:Act) (sel:Nat→Bool) (env:Nat→Value):Operand→Value
 | .tmp t=>readSlot ops sel env t (a.eval (.tmp t)) (List.range ops.size)
 | x=>a.eval x
def opLands (P:Program) (o:Oper) (ρ:Operand→Value) (w:World) (R:Value→World→Prop):Prop:=
 match (execOp ρ o).run P w with
 | .ok (.value v) w'=>R v w'
 | .ok .skip w'=>R undef w'
 | .ok (.enter f args) w'=>Calls P f args w' fun e w''=>∃ v,e=.returned v∧R v w''
 | _=>False
theorem lands_val {o:Oper} {ρ:Operand→Value} {w w':World} {R:Value→World→Prop} (v:Value) (h:(execOp ρ o).run P w=.ok (.value v) w') (hR:R v w'):opLands P o ρ w R:=by
 unfold opLands
 rw [h]
 exact hR
theorem lands_load_row {o:Oper} {ρ:Operand→Value} {w:World} {R:Value→World→Prop} (ty:TypeId) (x:Operand) (ho:o.op=.load ty x)
  (g:Nat) (hx:ρ x=.pointer (some ⟨g,0,none⟩)) (t:TypeId) (cs:Array Value) (fr:Nat×Nat) (d:TypeDesc) (hg:w.heap[g]? = some (.cells cs t fr))
  (hu:P.underlying ty=some d) (hd:(match d with | .struct _ | .array _ _=>true | _=>false)=true) (hi:(P.info? ty).map (·.size)=some cs.size) (hR:R (.agg cs) w):opLands P o ρ w R:=by
 refine lands_val (.agg cs) ?_ hR
 unfold execOp
 simp only [ho,hx,Instr.loadAt,Instr.sureAddr,Sem.run_bind,Sem.run_pure,Result.andThen_ok,run_loadVar_row w g t ty cs fr d hg hu hd hi]
theorem lands_store_mid {o:Oper} {ρ:Operand→Value} {w:World} {R:Value→World→Prop} (ty:TypeId) (x y:Operand) (ho:o.op=.store ty x y)
  (b i:Nat) (cells:Array Value) (hx:ρ x=.pointer (some ⟨b,i,none⟩)) (hy:ρ y=.agg cells) (ht:w.there b i cells.size) (hi:(P.info? ty).map (·.size)=some cells.size) (h1:cells.all (·.oneCell')=true)
  (hR:R undef (w.setCells b i cells.toList)):opLands P o ρ w R:=by
 unfold opLands
 have hrun:(execOp ρ o).run P w=.ok .skip (w.setCells b i cells.toList):=by
  unfold execOp
  simp only [ho,hx,hy,Instr.storeAt,Instr.sureAddr,Sem.run_bind,Sem.run_pure,Result.andThen_ok,run_storeVar_mid w b i ty cells ht hi h1]
 rw [hrun]
 exact hR
def calledB (P:Program) (f:FuncId):Bool:=
 match P.funcs[f]? with
 | some fn=>!(fn.name == "runtime.NumGoroutine") && fn.body.isSome
 | none=>false
theorem lands_call {o:Oper} {ρ:Operand→Value} {w:World} {R:Value→World→Prop} {f:FuncId} {args:Array Operand} {ats:Array TypeId}
  (hop:o.op=.call { callee:=.value (.func f),args,argTypes:=ats }) (hb:calledB P f=true) (hf:∀ f,ρ (.func f)=.func (.func f) #[] #[])
  (h:Calls P f (args.map ρ) w fun e w''=>∃ v,e=.returned v∧R v w''):opLands P o ρ w R:=by
 have hrun:(execOp ρ o).run P w=.ok (.enter f (args.map ρ)) w:=by
  unfold calledB at hb
  cases hq:P.funcs[f]? with
  | none=>rw [hq]at hb; cases hb
  | some fn =>
   rw [hq]at hb
   simp only [Bool.and_eq_true,Bool.not_eq_true',beq_eq_false_iff_ne,ne_eq]at hb
   have h2:¬ fn.body=none:=by cases hx:fn.body <;> simp_all
   unfold execOp
   simp [hop,resolve,Deferred.ofValue,invoke,callFunc,hq,hb.1,h2,hf]
 unfold opLands
 rw [hrun]
 exact h
theorem flow_op {a:Act} {E:World→Prop} {Φ:Nat→Value→World→Prop} {i:Nat} {o:Oper} (hg:o.guard=none) (hsel:(o.op matches .select ..)=false)
  (hz:(o.looksAt ops).all (fun t=>decide (t<a.tmps.size))=true) (hd:(match o.dst with | some d=>decide (d<a.tmps.size) | none=>false)=true)
  (h:∀ (env:Nat→Value) (w:World),E w→(∀ j,waitsFor o j=true→Φ j (env j) w) →
   ∀ ρ,ρ=readOf ops a (waitsFor o) env→(∀ v,ρ (.const v)=v)→(∀ f,ρ (.func f)=.func (.func f) #[] #[])→(∀ g,ρ (.global g)=.pointer (some ⟨g,0,none⟩)) →
    ∀ K:Value→World→Prop,(∀ v w',Φ i v w'→R w w'→K v w')→opLands P o ρ w K) :
  FlowOp P R ops a E Φ i o:=by
 intro env w hE hn a' ha'
 have hw:Region.wanted o (yielded ops a'.tmps)=true:=by unfold Region.wanted; rw [hg]
 rw [if_pos hw]
 intro K hK
 have h:=h env w hE hn _ rfl (fun _=>rfl) (fun _=>rfl) (fun _=>rfl) (fun v w'=>Φ i v w'∧R w w') (fun _ _ h1 h2=>⟨h1,h2⟩)
 have hrun:execOp a'.eval o=execOp (readOf ops a (waitsFor o) env) o:=execOp_congr o (fun cs b e=>by rw [e]at hsel; cases hsel) (fun x hx=>by
  cases x with
  | tmp t =>
   have hm:t∈o.looksAt ops:=List.mem_append_left _ (List.mem_filterMap.2 ⟨.tmp t,by simpa using hx,rfl⟩)
   have ht:t<a.tmps.size:=by simpa using List.all_eq_true.1 hz t hm
   rw [ha']
   exact frameOf_read ht _
  | const v=>rfl
  | global g=>rfl
  | func f=>rfl)
 have hput:∀ v w',Φ i v w'∧R w w'→K (a'.put o.dst v) w':=fun v w' h=>by
  refine hK _ _ ?_ ?_ h.2
  ·cases o.dst <;> rfl
  ·have h1:=h.1
   unfold slotOf
   cases hq:o.dst with
   | none=>rw [hq]at hd; cases hd
   | some d =>
    rw [hq]at hd
    have:d<a'.tmps.size:=by rw [ha',frameOf_size]; simpa using hd
    simpa [Act.put,this] using h1
 unfold Oper.wp
 rw [hrun]
 unfold opLands at h
 revert h
 cases (execOp (readOf ops a (waitsFor o) env) o).run P w with
 | halt x w'=>exact False.elim
 | ok n w' =>
  cases n <;> simp only [Oper.upon]
  case value v=>exact hput v w'
  case skip=>exact hput undef w'
  case enter f args =>
   intro h
   refine Calls.mono h (fun e w'' he=>?_)
   obtain ⟨v,rfl,hv⟩:=he
   exact hput v w'' hv
  all_goals exact False.elim
def FlowOps (P:Program) (R:World→World→Prop) (ops:Array Oper) (a:Act) (E:World→Prop) (Φ:Nat→Value→World→Prop) (k:Nat) (l:List Oper):Prop:=
 ∀ i o,l[i]? = some o→FlowOp P R ops a E Φ (k+i) o
theorem flow_nil {a:Act} {E:World→Prop} {Φ:Nat→Value→World→Prop} {k:Nat}:FlowOps P R ops a E Φ k []:=fun i o h=>by simp at h
theorem flow_cons {a:Act} {E:World→Prop} {Φ:Nat→Value→World→Prop} {k:Nat} {o:Oper} {r:List Oper} (h:FlowOp P R ops a E Φ k o) (hr:FlowOps P R ops a E Φ (k+1) r) :
  FlowOps P R ops a E Φ k (o::r)
 | 0,p,hp=>by simp at hp; subst hp; exact h
 | i+1,p,hp=>by
  have:=hr i p (by simpa using hp)
  rwa [show k+(i+1)=k+1+i by omega]
def phis (l:List (Value→World→Prop)) (i:Nat):Value→World→Prop:=l.getD i fun _ _=>True
def frameAll (env:Nat→Value) (a:Act):Nat→List Oper→Act
 | _,[]=>a
 | k,o::r=>(frameAll env a (k+1) r).put o.dst (env k)
theorem frameOf_all {l:List Oper} {a:Act} {env:Nat→Value}:∀ (r:List Oper) (k:Nat),(∀ i,l[k+i]? = r[i]?) →
  frameOf l.toArray a (fun _=>true) env (List.range' k r.length)=frameAll env a k r
 | [],_,_=>rfl
 | o::r,k,h=>by
  have h0:l[k]? = some o:=by simpa using h 0
  have ih:=frameOf_all (a:=a) (env:=env) r (k+1) (fun i=>by
   have:=h (i+1)
   rw [show k+(i+1)=k+1+i by omega]at this
   simpa using this)
  rw [List.length_cons,List.range'_succ]
  unfold frameOf frameAll
  rw [if_pos rfl,ih]
  simp [h0]
end
end Go.Proofs.YtonihophanmaaaaGreatDoor
