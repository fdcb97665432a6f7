/- The texts CbI, DsB, DsG, put together. -/
import Derived.Test.YtonihophanmaaaaGreatDoorPa22
import Derived.Test.YtonihophanmaaaaGreatDoorPa08
import Derived.Sort.Walk0
import Derived.Test.YtonihophanmaaaaGreatDoorPa06
namespace Go.Proofs.YtonihophanmaaaaGreatDoor
open Go.RowKit Go.Shelf
theorem listAt_two {W:World} {B d:Nat} {t t2:Tr} {x x2:Value} (hl:ListAt W B d t.kids x) (ho:OwnOk t.own) (hl2:ListAt W B d t2.kids x2) (ho2:OwnOk t2.own) {k:Nat} (hk:Blk W k (cellsV t.own x++cellsV t2.own x2) 28) (hB:B≤k+1):ListAt W (k+1) (d+1) [t,t2] (.slice (some ⟨k,0,none⟩) 2 2):=by
 have ha:∀ m,(⟨k,0,none⟩:Addr).add m=⟨k,m,none⟩:=fun m=>by
  unfold Addr.add
  split
  ·rename_i e
   rw [e]
  ·simp
 refine ⟨_,_,rfl,⟨by simp,by simp⟩,fun i hi=>?_⟩
 have:i=0∨i=1:=by
  simp only [List.length_cons,List.length_nil]at hi
  omega
 rcases this with rfl|rfl
 ·refine ⟨_,x,rfl,Nat.lt_succ_self k,ho,fun j u hu=>?_,hl.mono (fun q hq=>Nat.lt_of_lt_of_le hq hB)⟩
  rw [ha,hk.cell]
  have hj:j<9:=by
   have:=(List.getElem?_eq_some_iff.1 hu).1
   simpa [nodeCells] using this
  have he:(cellsV t.own x)[j]? = some u:=by
   rw [← hu]
   unfold cellsV nodeCells
   simp
  rw [Array.getElem?_append_left (by simpa [cellsV] using hj),Nat.zero_mul,Nat.zero_add,he]
 ·refine ⟨_,x2,rfl,Nat.lt_succ_self k,ho2,fun j u hu=>?_,hl2.mono (fun q hq=>Nat.lt_of_lt_of_le hq hB)⟩
  rw [ha,hk.cell]
  have hs:(cellsV t.own x).size=9:=rfl
  rw [Array.getElem?_append_right (by omega),hs,show 1*9+j - 9=j by omega]
  rw [← hu]
  unfold cellsV nodeCells
  simp
abbrev nullT:Tr:=.nd { zeroO with kind:=1 } []
abbrev keyOf (t:Tr):Tr:=.nd { zeroO with kind:=8 } [t,nullT]
theorem keyOf_parts {t:Tr} (h:checkT 2 flC (keyOf t)=0):allB t=true∧fitT 2 flC t=true∧t.count≤300:=by
 obtain ⟨h1,_,h3,h4⟩:=check_ok h
 rw [allB_eq,Bool.and_eq_true]at h3
 rw [fitT_eq,Bool.and_eq_true]at h4
 refine ⟨allL_mem h3.2 (by simp [Tr.kids]),fitL_mem h4.2 (by simp [Tr.kids]),?_⟩
 rw [Tr.count,countL]at h1
 omega
set_option maxHeartbeats 4000000 in
set_option maxRecDepth 100000 in
theorem cb_Key (t:Tr) (x:Value) (w:World) (B d:Nat) (aT aF:Addr) (hl:ListAt w B d t.kids x) (ho:OwnOk t.own) (hB:B≤w.heap.size) (hc:t.count≤1000000) (h:GW w aT aF) :
  Calls Tryz.prog 32 #[nodeV t.own x] w fun e w'=>e=.returned (.tuple #[.string (wroteC t (checkT 2 flC (keyOf t))),.int .i64 (if checkT 2 flC (keyOf t)=0 then 0 else 61)])∧Below w.heap.size w w':=by
 have hb1:Below w.heap.size w (w.alloc (.cells (cellsV t.own x) 28)):=(Below.refl _ _).alloc (Nat.le_refl _) _
 have hk1:=Blk.new w (cellsV t.own x) 28
 have hoN:OwnOk { zeroO with kind:=1 }:=⟨by decide,by decide,by decide,by decide,by decide,by decide⟩
 have hoM:OwnOk { zeroO with kind:=8 }:=⟨by decide,by decide,by decide,by decide,by decide,by decide⟩
 have HC:=Lib.hid (fun W k (hW:Below w.heap.size w W) (hk:Blk W k (cellsV t.own x++cellsV { zeroO with kind:=1 } (.slice none 0 0)) 28) (hBk:B≤k+1) =>
  tree_Check 2 flC (fits_at_C aT aF) (keyOf t) (.slice (some ⟨k,0,none⟩) 2 2) W (k+1) (d+1) (listAt_two (t2:=nullT) (hl.below hW hB) ho (LAt.nil _ _ _ _ _) hoN hk hBk) hoM hk.lt (by rw [keyOf,Tr.count,countL,countL,countL,Tr.count,countL]; omega) (h.below hW))
 have HW:=Lib.hid (fun W (hW:Below w.heap.size w W) (h0:checkT 2 flC (keyOf t)=0)=>cb_written [t] (some ⟨W.heap.size,0,none⟩) 1 1 (W.alloc (.cells (cellsV t.own x) 28)) (W.heap.size+1) (d+1) aT aF
  (listAt_one ((hl.below hW hB).below ((Below.refl _ W).alloc (Nat.le_refl _) _) (Nat.le_trans hB hW.size)) ho (Blk.new _ _ _) (by have:=hW.size; omega)) (by simp) ((h.below hW).below ((Below.refl _ W).alloc (Nat.le_refl _) _))
  (okCL_of (fun s hs=>by
   rw [List.mem_singleton.1 hs]
   obtain ⟨h3,h4,_⟩:=keyOf_parts h0
   exact okC_of_at t d x hl ho h3 h4)) (by
   obtain ⟨h3,h4,h2⟩:=keyOf_parts h0
   have:=cbT_bound t (okC_of_at t d x hl ho h3 h4)
   show (cbT t++[]).length≤_
   rw [List.append_nil]
   omega) rfl (by simp))
 have hcc:∀ s,cbL [s]=cbT s:=fun s=>by
  show cbT s++[]=_
  rw [List.append_nil]
 simp only [hcc]at HW
 have HB:=Lib.hid hB
 have HCC:=Lib.hid (check_cases 2 flC (keyOf t))
 unfold wroteC
 obtain ⟨ct,hct⟩:∃ ct,cbT t=ct:=⟨_,rfl⟩
 obtain ⟨ck,hck⟩:∃ ck,checkT 2 flC (keyOf t)=ck:=⟨_,rfl⟩
 simp only [hck]at HC
 rw [hck]at HCC ⊢
 simp only [hct,hck]at HW
 rw [hct]
 have HCT:Hid (∀ (W:World) (k:Nat),Below w.heap.size w W→Blk W k (cellsV t.own x++cellsV { zeroO with kind:=1 } (.slice none 0 0)) 28→B≤k+1 →
   Calls Tryz.prog 16 #[nodeV { zeroO with kind:=8 } (.slice (some ⟨k,0,none⟩) 2 2),.int .i64 2] W fun e w'=>e=.returned (.int .i64 ck)∧Below W.heap.size W w'):=HC
 clear HC hl ho hB hc h hct hck hcc hoN hoM
 obtain ⟨⟨kind,b,neg,dg,ex,u,wd,s⟩,ho'⟩:∃ o,t.own=o:=⟨_,rfl⟩
 simp only [ho']at HCT HW hk1 hb1
 rw [ho']
 unfold nodeV at HCT ⊢
 unfold cellsV at HCT HW hk1 hb1
 simp only [List.append_toArray,List.cons_append,List.nil_append]at HCT HW hk1 hb1 ⊢
 have z0:=hk1.cell 0
 have z1:=hk1.cell 1
 have z2:=hk1.cell 2
 have z3:=hk1.cell 3
 have z4:=hk1.cell 4
 have z5:=hk1.cell 5
 have z6:=hk1.cell 6
 have z7:=hk1.cell 7
 have z8:=hk1.cell 8
 clear ho'
 go_enter Tryz.func32,Tryz.ntmps32
 go_wp2_with fail
 apply wp_scope_forward 0 rfl
 go_wp2_with fail
 have hb3:Below w.heap.size w (((w.alloc (.cells #[.int .i64 kind,.bool b,.bool neg,.string dg,.int .i64 ex,.int .u64 u,.int .i64 wd,.string s,x] 28)).alloc (.cells #[.int .i64 kind,.bool b,.bool neg,.string dg,.int .i64 ex,.int .u64 u,.int .i64 wd,.string s,x,.int .i64 1,.bool false,.bool false,.string ⟨#[]⟩,.int .i64 0,.int .u64 0,.int .i64 0,.string ⟨#[]⟩,.slice none 0 0] 28)).alloc (.cells #[.int .i64 8,.bool false,.bool false,.string ⟨#[]⟩,.int .i64 0,.int .u64 0,.int .i64 0,.string ⟨#[]⟩,.slice (some ⟨w.heap.size+1,0,none⟩) 2 2] 28)):=(hb1.alloc hb1.size _).alloc (by simp; omega) _
 have hk2:Blk (((w.alloc (.cells #[.int .i64 kind,.bool b,.bool neg,.string dg,.int .i64 ex,.int .u64 u,.int .i64 wd,.string s,x] 28)).alloc (.cells #[.int .i64 kind,.bool b,.bool neg,.string dg,.int .i64 ex,.int .u64 u,.int .i64 wd,.string s,x,.int .i64 1,.bool false,.bool false,.string ⟨#[]⟩,.int .i64 0,.int .u64 0,.int .i64 0,.string ⟨#[]⟩,.slice none 0 0] 28)).alloc (.cells #[.int .i64 8,.bool false,.bool false,.string ⟨#[]⟩,.int .i64 0,.int .u64 0,.int .i64 0,.string ⟨#[]⟩,.slice (some ⟨w.heap.size+1,0,none⟩) 2 2] 28)) (w.heap.size+1) #[.int .i64 kind,.bool b,.bool neg,.string dg,.int .i64 ex,.int .u64 u,.int .i64 wd,.string s,x,.int .i64 1,.bool false,.bool false,.string ⟨#[]⟩,.int .i64 0,.int .u64 0,.int .i64 0,.string ⟨#[]⟩,.slice none 0 0] 28:=by
  have:=Blk.new (w.alloc (.cells #[.int .i64 kind,.bool b,.bool neg,.string dg,.int .i64 ex,.int .u64 u,.int .i64 wd,.string s,x] 28)) #[.int .i64 kind,.bool b,.bool neg,.string dg,.int .i64 ex,.int .u64 u,.int .i64 wd,.string s,x,.int .i64 1,.bool false,.bool false,.string ⟨#[]⟩,.int .i64 0,.int .u64 0,.int .i64 0,.string ⟨#[]⟩,.slice none 0 0] 28
  rw [World.size_alloc]at this
  exact this.alloc _
 have hk3:Blk (((w.alloc (.cells #[.int .i64 kind,.bool b,.bool neg,.string dg,.int .i64 ex,.int .u64 u,.int .i64 wd,.string s,x] 28)).alloc (.cells #[.int .i64 kind,.bool b,.bool neg,.string dg,.int .i64 ex,.int .u64 u,.int .i64 wd,.string s,x,.int .i64 1,.bool false,.bool false,.string ⟨#[]⟩,.int .i64 0,.int .u64 0,.int .i64 0,.string ⟨#[]⟩,.slice none 0 0] 28)).alloc (.cells #[.int .i64 8,.bool false,.bool false,.string ⟨#[]⟩,.int .i64 0,.int .u64 0,.int .i64 0,.string ⟨#[]⟩,.slice (some ⟨w.heap.size+1,0,none⟩) 2 2] 28)) w.heap.size #[.int .i64 kind,.bool b,.bool neg,.string dg,.int .i64 ex,.int .u64 u,.int .i64 wd,.string s,x] 28:=(hk1.alloc _).alloc _
 refine (HCT.out _ (w.heap.size+1) hb3 hk2 (by have:=HB.out; omega)).mono ?_
 rintro e w4 ⟨rfl,hb⟩
 have hb4:=hb3.trans (hb.mono hb3.size)
 have hk4:=hk3.below hb hk3.lt
 clear z0 z1 z2 z3 z4 z5 z6 z7 z8 hb hk1 hb1 hk2 hk3 hb3 HCT
 have z0:=hk4.cell 0
 have z1:=hk4.cell 1
 have z2:=hk4.cell 2
 have z3:=hk4.cell 3
 have z4:=hk4.cell 4
 have z5:=hk4.cell 5
 have z6:=hk4.cell 6
 have z7:=hk4.cell 7
 have z8:=hk4.cell 8
 by_cases h0:ck=0
 ·have HW2:=Lib.hid (HW.out w4 hb4 h0)
  have HB2:=Lib.hid (hb4.trans (((Below.refl _ w4).alloc (o:=.cells #[.int .i64 kind,.bool b,.bool neg,.string dg,.int .i64 ex,.int .u64 u,.int .i64 wd,.string s,x] 28) (Nat.le_refl _)).mono hb4.size))
  subst h0
  clear HW hb4 hk4
  go_wp2_with fail
  refine HW2.out.mono ?_
  rintro e w5 ⟨rfl,hb⟩
  have hb5:=HB2.out.trans (hb.mono HB2.out.size)
  clear z0 z1 z2 z3 z4 z5 z6 z7 z8 hb HW2 HB2
  go_wp2_with fail
  rw [jump_ret]
  refine bodyPost_ret (v:=.tuple #[.string ⟨ct.toArray⟩,.int .i64 0]) (by simp [results,Tryz.results32,go_sem]) rfl ⟨by simp,hb5⟩
 ·have y1:¬ ck=0:=h0
  clear HW
  go_wp2_with fail
  go_step3
  simp +zetaDelta only [Exit.then,jump_goto]
  go_wp2_with fail
  refine bodyPost_ret (v:=.tuple #[.string ⟨#[]⟩,.int .i64 61]) (by simp [results,Tryz.results32,go_sem]) rfl ⟨rfl,hb4⟩
theorem less_keys (a b:Tr):lessT cbT a b=(([(if checkT 2 flC (keyOf a)=0 then (0:Int) else 61),if checkT 2 flC (keyOf b)=0 then (0:Int) else 61].all isOkE) && Op.bytesLess (wroteC a (checkT 2 flC (keyOf a))).toList (wroteC b (checkT 2 flC (keyOf b))).toList):=by
 have ea:keyOf a=key1T a:=rfl
 have eb:keyOf b=key1T b:=rfl
 rw [ea,eb,Go.Proofs.bytesLess_eq]
 unfold lessT
 by_cases h1:checkT 2 flC (key1T a)=0
 ·by_cases h2:checkT 2 flC (key1T b)=0
  ·rw [if_pos h1,if_pos h2,h1,h2]
   unfold wroteC
   rw [if_pos rfl,if_pos rfl]
   simp [isOkE,ByteArray.toList_eq]
  ·rw [if_neg h2,decide_eq_false h2]
   simp [isOkE]
 ·rw [if_neg h1,decide_eq_false h1]
  simp [isOkE]
theorem lies_blk {W:World} {bk:Nat} {cs:Array Value} {t:TypeId} (h:Blk W bk cs t):Lies W (bk+1) 1 (some ⟨bk,0,none⟩) cs.size cs.toList:=by
 refine ⟨by simp,fun _=>⟨_,rfl,Nat.lt_succ_self _,fun j u hu=>?_⟩⟩
 have e:(⟨bk,0,none⟩:Addr).add j=⟨bk,j,none⟩:=by
  unfold Addr.add
  split
  ·rename_i h0
   rw [h0]
  ·simp
 rw [e,h.cell]
 simpa using hu
theorem det_isOK2 (e f:Int) (bk:Nat) (t:TypeId) (W:World) (h:Blk W bk #[.int .i64 e,.int .i64 f] t) :
  Calls Tryz.prog 33 #[.slice (some ⟨bk,0,none⟩) 2 2] W fun x w'=>x=.returned (.bool ([e,f].all isOkE))∧Below W.heap.size W w':=
 det_isOK (some ⟨bk,0,none⟩) 2 2 [e,f] (bk+1) W (by omega) (lies_blk h) h.lt
set_option maxHeartbeats 4000000 in
set_option maxRecDepth 100000 in
theorem det_Less (a b:Tr) (Aa Ab:Option Addr) (na nb ca cb:Nat) (w:World) (B d:Nat) (aT aF:Addr) (hla:ListAt w B d a.kids (.slice Aa na ca)) (hlb:ListAt w B d b.kids (.slice Ab nb cb)) (hoa:OwnOk a.own) (hob:OwnOk b.own)
  (hB:B≤w.heap.size) (hca:a.count≤1000000) (hcb:b.count≤1000000) (h:GW w aT aF) :
  Calls Tryz.prog 15 #[nodeV a.own (.slice Aa na ca),nodeV b.own (.slice Ab nb cb)] w fun e w'=>e=.returned (.bool (lessT cbT a b))∧Below w.heap.size w w':=by
 rw [less_keys]
 have HA:=fun W (hW:Below w.heap.size w W)=>cb_Key a (.slice Aa na ca) W B d aT aF (hla.below hW hB) hoa (Nat.le_trans hB hW.size) hca (h.below hW)
 have HC:=fun W (hW:Below w.heap.size w W)=>cb_Key b (.slice Ab nb cb) W B d aT aF (hlb.below hW hB) hob (Nat.le_trans hB hW.size) hcb (h.below hW)
 obtain ⟨s,hs⟩:∃ s,wroteC a (checkT 2 flC (keyOf a))=s:=⟨_,rfl⟩
 obtain ⟨t,ht⟩:∃ t,wroteC b (checkT 2 flC (keyOf b))=t:=⟨_,rfl⟩
 obtain ⟨e,he⟩:∃ e:Int,(if checkT 2 flC (keyOf a)=0 then (0:Int) else 61)=e:=⟨_,rfl⟩
 obtain ⟨f,hf⟩:∃ e:Int,(if checkT 2 flC (keyOf b)=0 then (0:Int) else 61)=e:=⟨_,rfl⟩
 simp only [hs,he]at HA
 simp only [ht,hf]at HC
 rw [hs,ht,he,hf]
 obtain ⟨⟨kind,b0,neg,dg,ex,u,wd,s0⟩,ho1⟩:∃ o,a.own=o:=⟨_,rfl⟩
 obtain ⟨⟨kind',b0',neg',dg',ex',u',wd',s0'⟩,ho2⟩:∃ o,b.own=o:=⟨_,rfl⟩
 rw [ho1]at HA ⊢
 rw [ho2]at HC ⊢
 unfold nodeV at HA HC ⊢
 simp only []at HA HC ⊢
 have HA:=Lib.hid HA
 have HC:=Lib.hid HC
 have HB2:=Lib.hid (box2 w #[.int .i64 kind,.bool b0,.bool neg,.string dg,.int .i64 ex,.int .u64 u,.int .i64 wd,.string s0,.slice Aa na ca] #[.int .i64 kind',.bool b0',.bool neg',.string dg',.int .i64 ex',.int .u64 u',.int .i64 wd',.string s0',.slice Ab nb cb] 28 28)
 obtain ⟨q,hq⟩:∃ q,[e,f].all isOkE=q:=⟨_,rfl⟩
 have HI:=fun bk t W h=>det_isOK2 e f bk t W h
 rw [hq]at HI ⊢
 have HI:=Lib.hid HI
 clear hs ht he hf ho1 ho2 hla hlb hoa hob hB hca hcb h hq
 go_enter Tryz.func15,Tryz.ntmps15
 obtain ⟨hb0,hk0,hr0⟩:=HB2.out
 go_wp2_with fail
 refine (HA.out _ hb0).mono ?_
 rintro x w1 ⟨rfl,hb1⟩
 have hbw1:=hb0.trans (hb1.mono hb0.size)
 have hr1:=hr0.below hb1 hr0.lt
 clear hb0 hk0 hr0 hb1 HA HB2
 have kk:=fun i=>hr1.cell i
 go_wp2_with fail
 refine (HC.out _ hbw1).mono ?_
 rintro x w2 ⟨rfl,hb2⟩
 have hbw2:=hbw1.trans (hb2.mono hbw1.size)
 clear hb2 hbw1 hr1 kk HC
 have hbw3:=hbw2.alloc hbw2.size (.cells #[.int .i64 e,.int .i64 f] 29)
 have hn:=Blk.new w2 #[.int .i64 e,.int .i64 f] 29
 go_wp2_with fail
 refine (HI.out _ _ _ hn).mono ?_
 rintro x w4 ⟨rfl,hb4⟩
 have hbw4:=hbw3.trans (hb4.mono hbw3.size)
 clear hb4 hbw3 hbw2 hn HI
 cases q with
 | true =>
  go_wp2_with fail
  go_ret
  exact ⟨by simp,hbw4⟩
 | false =>
  go_wp2_with fail
  go_ret
  exact ⟨by simp,hbw4⟩
end Go.Proofs.YtonihophanmaaaaGreatDoor
namespace Go.Proofs.YtonihophanmaaaaGreatDoor
open Go.RowKit Go.Shelf
attribute [local go_sem] Oper.semAt_some wide_fn wide_depth
noncomputable def itemS (k:Tr):ByteArray:=wroteC k (checkT 2 flC (keyOf k))
noncomputable def itemN (l:List Tr) (i:Nat):ByteArray:=itemS (l.getD (2*i) (.nd zeroO []))
def risesTo (it:Nat→ByteArray):Nat→Bool
 | 0=>true
 | 1=>true
 | k+2=>risesTo it (k+1) && Op.bytesLess (it k).toList (it (k+1)).toList
theorem risesTo_mono (it:Nat→ByteArray) {a:Nat} (h:risesTo it a=false):∀ b,a≤b→risesTo it b=false
 | 0,hb=>by
  rw [show a=0 from by omega]at h
  exact h
 | 1,hb=>by
  rcases (by omega:a=0∨a=1) with e | e <;> (rw [e]at h; exact absurd h (by simp [risesTo]))
 | b+2,hb=>by
  rcases (by omega:a=b+2∨a≤b+1) with e | e
  ·rw [← e]; exact h
  ·rw [risesTo,risesTo_mono it h (b+1) e,Bool.false_and]
def LastAt (it:Nat→ByteArray) (bL m j:Nat) (W:World):Prop:=
 (j=0∧Blk W bL #[.pointer none] 133)∨(∃ i k cs,j=i+1∧Blk W bL #[.pointer (some ⟨k,0,none⟩)] 133∧m≤k∧Blk W k cs 122∧cs[9]? = some (.string (it i)))
theorem lastAt_own {it:Nat→ByteArray} {bL m j:Nat} {X Y:World} {row:Option Nat} (h:LastAt it bL m j X) (hg:X.grownBy Y row) (hr:∀ r,row=some r→∃ o:Obj,X.heap[r]? = some o∧o.isCells=false):LastAt it bL m j Y:=by
 rcases h with ⟨h1,h2⟩ | ⟨i,k,cs,h1,h2,h3,h4,h5⟩
 ·exact .inl ⟨h1,blkC h2 hg hr⟩
 ·exact .inr ⟨i,k,cs,h1,blkC h2 hg hr,h3,blkC h4 hg hr,h5⟩
theorem lastAt_grown {it:Nat→ByteArray} {bL m j b:Nat} {X Y:World} (h:LastAt it bL m j X) (hg:X.grownBy Y (some b)) (hb:b≠bL) (hm:b<m):LastAt it bL m j Y:=by
 rcases h with ⟨h1,h2⟩ | ⟨i,k,cs,h1,h2,h3,h4,h5⟩
 ·exact .inl ⟨h1,h2.kept hg (fun e=>by cases e; omega)⟩
 ·exact .inr ⟨i,k,cs,h1,h2.kept hg (fun e=>by cases e; omega),h3,h4.kept hg (fun e=>by cases e; omega),h5⟩
def RisI (N:Nat) (it:Nat→ByteArray) (w:World) (pre:List Nat) (W:World):Prop:=
 (Blk W (N+1) #[.bool true] 4∧LastAt it N (N+4) pre.length W∧risesTo it pre.length=true)∧Below N w W
def RisX (N n:Nat) (it:Nat→ByteArray) (w:World) (c:Code) (_:List Nat) (W:World):Prop:=
 (c=.exit 0∧Blk W (N+1) #[.bool false] 4∧risesTo it (n / 2)=false)∧Below N w W
def RisA (A:Option Addr) (n:Nat) (T:Array Value) (pre:List Nat) (x:Nat) (a':Act) (_:World):Prop:=
 (x=pre.length∧pre.length<n / 2)∧a'={ tmps:=(T.setIfInBounds 10 (.slice (partA A x) 2 2)).setIfInBounds 5 (.slice (partA A x) 2 2),defers:=[] }
theorem risI_own (N:Nat) (it:Nat→ByteArray) (w:World) {m:Nat} (hm:N≤m) (hw:N≤w.heap.size):OwnFrom m (RisI N it w):=by
 refine fun s X Y row hs hg hr=>⟨⟨blkC hs.1.1 hg (fun r e=>(hr r e).2),lastAt_own hs.1.2.1 hg (fun r e=>(hr r e).2),hs.1.2.2⟩,?_⟩
 exact ownFrom_below (β:=Unit) hw hm () X Y row hs.2 hg hr
theorem risX_own (N n:Nat) (it:Nat→ByteArray) (w:World) {m:Nat} (hm:N≤m) (hw:N≤w.heap.size) (c:Code):OwnFrom m (RisX N n it w c):=by
 refine fun s X Y row hs hg hr=>⟨⟨hs.1.1,blkC hs.1.2.1 hg (fun r e=>(hr r e).2),hs.1.2.2⟩,?_⟩
 exact ownFrom_below (β:=Unit) hw hm () X Y row hs.2 hg hr
theorem ris_next {N:Nat} {it:Nat→ByteArray} {w W w6:World} {pre:List Nat} {x m0:Nat} {cs:Array Value} {pt:Value} (hkf:KeepsFrom m0 W w6) (hkd:KpD N (N+2) (N+3) W w6) (hn0:Blk w6 N #[pt] 133)
  (h1:Blk w6 (N+1) #[.bool true] 4) (hb:Below N w w6) (hW:N+4≤W.heap.size) (hs:cs[9]? = some (.string (it x))) (hr:risesTo it (x+1)=true) (hl:(pre++[x]).length=x+1) :
  KeepsFrom m0 W ((w6.setCell ⟨N,0,none⟩ (.pointer (some ⟨w6.heap.size,0,none⟩))).alloc (.cells cs 122))∧KpD N (N+2) (N+3) W ((w6.setCell ⟨N,0,none⟩ (.pointer (some ⟨w6.heap.size,0,none⟩))).alloc (.cells cs 122)) ∧
   RisI N it w (pre++[x]) ((w6.setCell ⟨N,0,none⟩ (.pointer (some ⟨w6.heap.size,0,none⟩))).alloc (.cells cs 122)):=by
 have hz:=hkf.size
 have hg:=grown_setT w6 N 0 (.pointer (some ⟨w6.heap.size,0,none⟩))
 obtain ⟨W6,hW6⟩:∃ W6,w6.setCell ⟨N,0,none⟩ (.pointer (some ⟨w6.heap.size,0,none⟩))=W6:=⟨_,rfl⟩
 have hz6:W6.heap.size=w6.heap.size:=by rw [← hW6]; simp [World.setCell]
 have hk0:Blk W6 N #[.pointer (some ⟨w6.heap.size,0,none⟩)] 133:=by rw [← hW6]; exact hn0.set 0 _
 have hkf6:KeepsFrom m0 W W6:=by rw [← hW6]; exact hkf.trans ((KeepsOthers.setCell _ _ _).from _)
 rw [hW6]at hg ⊢
 have ha:Below W6.heap.size W6 (W6.alloc (.cells cs 122)):=(Below.refl _ _).alloc (Nat.le_refl _) _
 have hB6:Below N w W6:=hb.grown hg (by omega) (fun q e=>by cases e; omega)
 have hN6:Below N w6 W6:=(Below.refl _ _).grown hg (by omega) (fun q e=>by cases e; omega)
 refine ⟨hkf6.trans (keeps_below ha),⟨(hkd.1.trans hN6).trans (ha.mono (by omega)),fun _=>?_,fun _=>?_⟩,⟨⟨?_,?_,?_⟩,?_⟩⟩
 ·rw [ha.block _ (by omega),hg.block _ (by omega) (fun e=>absurd (Option.some.inj e) (by omega))]
  exact hkd.2.1 (by omega)
 ·rw [ha.block _ (by omega),hg.block _ (by omega) (fun e=>absurd (Option.some.inj e) (by omega))]
  exact hkd.2.2 (by omega)
 ·exact (h1.kept hg (by simp)).alloc _
 ·rw [hl]
  exact .inr ⟨x,w6.heap.size,cs,rfl,hk0.alloc _,by omega,blk_at hz6 _ _,hs⟩
 ·rw [hl]; exact hr
 ·exact hB6.trans (ha.mono (by omega))
set_option maxHeartbeats 8000000 in
set_option maxRecDepth 100000 in
theorem det_rises (l:List Tr) (A:Option Addr) (n c:Nat) (w:World) (B d:Nat) (aT aF:Addr) (hl:ListAt w B d l (.slice A n c)) (hn:l.length=n) (hB:B≤w.heap.size) (hc:∀ t∈l,t.count≤1000000) (h:GW w aT aF) (hn1:n≤1000000) :
  Calls Tryz.prog 64 #[.slice A n c] w fun e w'=>e=.returned (.bool (risesTo (itemN l) (n / 2)))∧Below w.heap.size w w':=by
 have hnc:=hl.cap
 have hA:0<n→∃ a,A=some a:=fun h0=>by
  obtain ⟨_,ad,_,_,hd,_⟩:=hl.at_ (k:=0) (by omega)
  exact ⟨ad,hd⟩
 obtain ⟨N,hN⟩:∃ N,w.heap.size=N:=⟨_,rfl⟩
 have HL:=Lib.hid hl
 have HG:=Lib.hid h
 have HN:=Lib.hid hn
 have HC:=Lib.hid hc
 have hb0:Below N w (w.alloc (.cells #[.pointer none] 133)):=(Below.refl _ w).alloc (by omega) _
 clear hl h hn hc
 refine calls_of_marks Tryz.func64 rfl ?_
 simp only [Tryz.ntmps64,List.size_toArray,List.length_cons,List.length_nil,Nat.reduceAdd,Nat.reduceSub,Array.replicate_succ,Array.replicate_zero,List.push_toArray,List.append_toArray,List.nil_append,List.cons_append]
 go_wp2_with fail
 go_step3
 go_wp2_with fail
 go_step3
 go_wp2_with fail
 refine (det_chunks A n c _).mono ?_
 rintro e w5 ⟨rfl,hw5⟩
 simp only [World.size_alloc]at hw5 ⊢
 rw [hN]
 have hz5:w5.heap.size=N+4:=by rw [← hw5]; simp [hN]
 have hB5:Below N w w5:=by
  rw [← hw5]
  exact ((hb0.alloc (by simp; omega) _).alloc (by simp; omega) _).alloc (by simp; omega) _
 have hK0:Blk w5 N #[.pointer none] 133:=by
  rw [← hw5]
  exact (((blk_at hN _ _).alloc _).alloc _).alloc _
 have hK1:Blk w5 (N+1) #[.bool true] 4:=by
  rw [← hw5]
  exact ((blk_at (by simp [hN]) _ _).alloc _).alloc _
 have hK2:Blk w5 (N+2) #[.slice A n c] 26:=by
  rw [← hw5]
  exact (blk_at (by simp [hN]) _ _).alloc _
 have hK3:Blk w5 (N+3) #[.int .i64 2] 3:=by
  rw [← hw5]
  exact blk_at (by simp [hN]) _ _
 clear hw5 hb0
 go_wp2_with fail
 refine wp_rangeFuncW (gf:=134) (lb:=#[.pointer (some ⟨N+2,0,none⟩),.pointer (some ⟨N+3,0,none⟩)]) rfl (enters_of Tryz.func134 (by kernel_rfl) rfl)
  (chunks_seq N (N+2) (N+3) n c A (by omega) (by have:=HN.out; omega) hA (by omega)) ?hMv ?hA0 ?hKt ?hKb ?hps (RisI N (itemN l) w) (RisX N n (itemN l) w) ?hI ?hIx ?hIM ?hIxM ?h0 ?hCt
  (RisA A n) ?hAx ?assign ?body ?hS ?hSp ?done ?stop
 case hMv =>
  intro X Y k o hM hk ho _
  exact (hM.block k (Array.getElem?_eq_some_iff.1 ho).1 (fun e=>by cases e; omega)).trans ho
 case hA0 =>
  intro o o'
  exact ⟨(hK2.alloc o).alloc o',(hK3.alloc o).alloc o'⟩
 case hKt =>
  intro X Y Z h1 h2
  exact kpD_trans h1 h2
 case hKb =>
  intro W k o o' hl ho hc
  exact kpD_put W k o o' (by omega:N≤w5.heap.size) (by omega) (by omega) hl ho
 case hps=>intro x; rfl
 case hI=>exact risI_own _ _ _ (by omega) (by omega)
 case hIx=>exact fun c'=>risX_own _ _ _ _ (by omega) (by omega) c'
 case hIM =>
  rintro s X Y ⟨⟨h1,h2,h3⟩,h4⟩ hg
  exact ⟨⟨h1.kept hg (by simp),lastAt_grown h2 hg (by omega) (by omega),h3⟩,h4.grown hg (by have:=h4.size; omega) (fun q e=>by cases e; omega)⟩
 case hIxM =>
  rintro c' s X Y ⟨⟨h1,h2,h3⟩,h4⟩ hg
  exact ⟨⟨h1,h2.kept hg (by simp),h3⟩,h4.grown hg (by have:=h4.size; omega) (fun q e=>by cases e; omega)⟩
 case h0=>exact ⟨⟨hK1,.inl ⟨rfl,hK0⟩,rfl⟩,hB5⟩
 case hCt=>intros; trivial
 case hAx =>
  intro pre x a' _ X Y row hs _ _
  exact hs
 case hS =>
  intro s' X Y row hs _ _
  exact hs
 case hSp =>
  intro s' X Y row hs _ _
  exact hs
 case assign =>
  rintro k pre x W K hI hT hK
  have HK:=Lib.hid hK
  have HI:=Lib.hid hI
  rw [List.length_append,List.length_singleton,List.range_succ]at hT
  obtain ⟨hT1,hT2⟩:=hT
  obtain ⟨hT1,hT3⟩:=List.append_inj' hT1 rfl
  have hT3:x=pre.length:=by injection hT3
  have HT2:=Lib.hid (show pre.length<n / 2 by omega)
  have HT3:=Lib.hid hT3
  clear hK hI hT1 hT2 hT3
  simp only [cEnc]
  gi_wp2
  exact HK.out _ _ (KeepsFrom.refl _ _) ⟨Below.refl _ _,fun _=>rfl,fun _=>rfl⟩ HI.out ⟨⟨HT3.out,HT2.out⟩,rfl⟩
 case body =>
  rintro k pre x a' W hk ⟨rr,hrr⟩ ⟨⟨h1,h2,h3⟩,h4⟩ ⟨⟨hx,hlt⟩,rfl⟩
  have hap:(pre++[x]).length=pre.length+1:=by simp
  obtain ⟨j,hj⟩:∃ j,pre.length=j:=⟨_,rfl⟩
  rw [hj]at hx h2 h3 hlt hap
  have HAP:=Lib.hid hap
  clear hj hap
  subst hx
  obtain ⟨a,rfl⟩:=hA (by omega)
  have hb4:Below w.heap.size w W:=by rw [hN]; exact h4
  have hkl:2*x<l.length:=by have:=HN.out; omega
  obtain ⟨d1,ad,y,hd1,had,hab,hok,hna,hkk⟩:=(HL.out.below hb4 hB).at_ hkl
  obtain rfl:a=ad:=by injection had
  obtain ⟨_,A2,c2,rfl⟩:=hkk.slice
  obtain ⟨n2,hn2⟩:∃ n2,l[2*x].kids.length=n2:=⟨_,rfl⟩
  rw [hn2]at hna hkk
  have hcnt:=HC.out l[2*x] (List.getElem_mem hkl)
  have HK:=fun W2 (hW2:Below W.heap.size W W2)=>cb_Key l[2*x] (.slice A2 n2 c2) W2 B d1 aT aF (hkk.below hW2 (Nat.le_trans hB hb4.size)) hok (Nat.le_trans hB (Nat.le_trans hb4.size hW2.size)) hcnt (HG.out.below (hb4.trans (hW2.mono hb4.size)))
  have hit:itemN l x=wroteC l[2*x] (checkT 2 flC (keyOf l[2*x])):=by
   unfold itemN itemS
   rw [List.getD_eq_getElem?_getD,List.getElem?_eq_getElem hkl]
   rfl
  rw [← hit]at HK
  obtain ⟨e0,he0⟩:∃ e0:Int,(if checkT 2 flC (keyOf l[2*x])=0 then (0:Int) else 61)=e0:=⟨_,rfl⟩
  simp only [he0]at HK
  obtain ⟨⟨kind,b,neg,dg,ex,u,wd,s⟩,ho1⟩:∃ o,l[2*x].own=o:=⟨_,rfl⟩
  rw [ho1]at HK hna
  unfold nodeV at HK
  simp only []at HK
  obtain ⟨k0,k1,k2,k3,k4,k5,k6,k7,k8⟩:=hna
  simp only [show 2*x*9=x*18 from by omega]at k0 k1 k2 k3 k4 k5 k6 k7 k8
  unfold partA
  rw [Option.map_some]
  have hab0:(a.add (x*18)).block<B:=by rw [add_block]; exact hab
  obtain ⟨a0,ha0⟩:∃ a0,a.add (x*18)=a0:=⟨_,rfl⟩
  rw [ha0]at k0 k1 k2 k3 k4 k5 k6 k7 k8 hab0 ⊢
  clear ha0
  simp only [List.setIfInBounds_toArray,List.set_cons_zero,List.set_cons_succ]
  have HK:=Lib.hid HK
  have hz4:=hb4.size
  have hbW:=Below.refl W.heap.size W
  clear he0 hit ho1 hn2 hok hkk hd1 hcnt
  gi_wp2_with fail
  refine (callsIn_wide.2 (HK.out _ hbW)).mono ?_
  rintro e w6 ⟨rfl,hb6⟩
  have hz6:=hb6.size
  have hkp:w6.heap[a0.block]? = W.heap[a0.block]? := hb6.block _ (by omega)
  have mk:∀ o,w6.cell? ⟨a0.block,o,none⟩=W.cell? ⟨a0.block,o,none⟩:=fun o=>cell_keep (a:=⟨a0.block,o,none⟩) hkp
  have m0:=(cell_keep (a:=a0) hkp).trans k0
  have m1:=(mk _).trans k1
  have m2:=(mk _).trans k2
  have m3:=(mk _).trans k3
  have m4:=(mk _).trans k4
  have m5:=(mk _).trans k5
  have m6:=(mk _).trans k6
  have m7:=(mk _).trans k7
  have m8:=(mk _).trans k8
  have h16:=h1.below hb6 h1.lt
  have h26:=lastAt_own h2 (below_grown hb6 none) (fun r e=>nomatch e)
  have hb46:=h4.trans (hb6.mono (by omega))
  have hkf6:KeepsFrom w5.heap.size W w6:=KeepsFrom.of_grownBy (below_grown hb6 none) (fun j e=>nomatch e)
  have hkd6:KpD N (N+2) (N+3) W w6:=⟨hb6.mono (by omega),fun h=>hb6.block _ h,fun h=>hb6.block _ h⟩
  clear h2 k0 k1 k2 k3 k4 k5 k6 k7 k8 hb6 HK hbW hkp mk
  obtain ⟨s2,hs2⟩:∃ s2,itemN l x=s2:=⟨_,rfl⟩
  rw [hs2]
  have HS2:=Lib.hid hs2
  clear hs2
  have hW4:N+4≤W.heap.size:=by
   have:=(Array.getElem?_eq_some_iff.1 hrr).1
   omega
  rcases h26 with ⟨rfl,hn0⟩ | ⟨i,bk,cs,rfl,hn0,hbk,hcs,hc9⟩
  ·have c0:=hn0.cell 0
   have f0:=hn0.frozen 0
   have H16:=Lib.hid h16
   have hlt0:=hn0.lt
   have hlt1:=h16.lt
   have HN0:=Lib.hid hn0
   have HX:=Lib.hid hkf6
   have HY:=Lib.hid hkd6
   have HB:=Lib.hid hb46
   clear h16 hn0 h1 h3 hkf6 hkd6 hb46
   gi_wp2_with fail
   exact ris_next HX.out HY.out HN0.out H16.out HB.out hW4 (by rw [HS2.out]; rfl) rfl HAP.out
  ·have c0:=hn0.cell 0
   have f0:=hn0.frozen 0
   have c9:=(hcs.cell 9).trans hc9
   obtain ⟨s1,hs1⟩:∃ s1,itemN l i=s1:=⟨_,rfl⟩
   rw [hs1]at c9
   have HS1:=Lib.hid hs1
   obtain ⟨q,hq⟩:∃ q,Op.bytesLess s1.toList s2.toList=q:=⟨_,rfl⟩
   have hnl:Value.pointer (some (⟨bk,0,none⟩:Addr))≠.pointer none:=by simp
   have b1:=h16.cell 0
   have g1:=h16.frozen 0
   have hris:risesTo (itemN l) (i+1+1)=q:=by
    rw [risesTo,h3,HS1.out,HS2.out,hq,Bool.true_and]
   have HRIS:=Lib.hid hris
   have H16:=Lib.hid h16
   have hlt0:=hn0.lt
   have hlt1:=h16.lt
   have HN0:=Lib.hid hn0
   have HX:=Lib.hid hkf6
   have HY:=Lib.hid hkd6
   have HB:=Lib.hid hb46
   clear h1 h3 hs1 h16 hn0 hris hkf6 hkd6 hb46
   cases q with
   | true =>
    gi_wp2_with fail
    exact ris_next HX.out HY.out HN0.out H16.out HB.out hW4 (by rw [HS2.out]; rfl) HRIS.out HAP.out
   | false =>
    gi_wp2_with fail
    exact ⟨HX.out.trans ((KeepsOthers.setCell _ _ _).from _),⟨rfl,H16.out.set 0 _,risesTo_mono _ HRIS.out _ (by omega)⟩,HB.out.grown (grown_setT w6 (N+1) 0 _) (by omega) (fun q e=>by cases e; omega)⟩
 case done =>
  rintro D xs W hD rfl ⟨⟨h1,h2,h3⟩,h4⟩ hK
  rw [List.length_range]at h3
  have hf0:=h1.cell 0
  have hz:=h4.size
  have H3:=Lib.hid h3
  clear h3
  go_wp2_with fail
  rw [Exit.noGoto_ret]
  exact leave1 (v:=.bool true) hK (by simp [results,Tryz.results64,go_sem]) rfl ⟨by rw [H3.out],by rw [hN]; exact below_shut h4 (by omega) (by omega) _⟩
 case stop =>
  rintro D c' pre W hD _ ⟨⟨rfl,h2,h3⟩,h4⟩ hK
  have hf0:=h2.cell 0
  have hz:=h4.size
  have H3:=Lib.hid h3
  clear h3
  go_wp2_with fail
  rw [Exit.noGoto_ret]
  exact leave1 (v:=.bool false) hK (by simp [results,Tryz.results64,go_sem]) rfl ⟨by rw [H3.out],by rw [hN]; exact below_shut h4 (by omega) (by omega) _⟩
end Go.Proofs.YtonihophanmaaaaGreatDoor
