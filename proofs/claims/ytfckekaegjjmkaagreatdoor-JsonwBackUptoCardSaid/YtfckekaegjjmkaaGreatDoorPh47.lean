/- The texts JwTu, LaidV, CbV, UtfV, JwV, JrV, JwTjA, put together. -/
import Derived.Test.YtfckekaegjjmkaaGreatDoorPh46
import Derived.Test.YtfckekaegjjmkaaGreatDoorPh01
import Derived.Test.YtfckekaegjjmkaaGreatDoorRows
import Derived.Test.YtfckekaegjjmkaaGreatDoorPh04
import Derived.Lib.LaidU8T
import Derived.PinnedBridge
import Derived.Stop.LaidErr
import Derived.Stop.Joined
import Derived.LaidMore
import Derived.LaidLaws
import Derived.Lay
import Derived.SevenTiedAt
import Derived.ProofKit
import Derived.OpenShut
import Derived.Lib.LaidTab
import Derived.Test.YtfckekaegjjmkaaGreatDoorPh31
import Derived.Test.YtfckekaegjjmkaaGreatDoorPh03
import Derived.Test.YtfckekaegjjmkaaGreatDoorPh44
import Derived.Test.YtfckekaegjjmkaaGreatDoorPh41
import Derived.LaidHandle
namespace Go.Proofs.YtfckekaegjjmkaaGreatDoor
open Go.RowKit Go.Shelf
attribute [local go_sem] Oper.semAt_some

set_option maxHeartbeats 8000000 in
set_option maxRecDepth 100000 in
theorem turns_walkJ {uT uQ aT aF bT bF:Addr} (s0:ByteArray) (hs0:s0.size ≤ 9223372036854775807) (w:World) (h:JRW w uT uQ aT aF) (hw:SW w bT bF) :
  Calls Tryz.prog 12 #[.string s0] w fun e w'=>e=.returned (.bool true) ∧ Below w.heap.size w w':=by
 have H1:=Lib.hid (j_shown w hw)
 obtain ⟨ks,hks⟩:∃ k,min s0.size 900=k:=⟨_,rfl⟩
 have y0:min (s0.size:Int) 900=(ks:Int):=by omega
 have y2:ks ≤ s0.size:=by omega
 have hsz:(s0.extract 0 ks).size=ks:=by simp; omega
 obtain ⟨s,hs⟩:∃ s,s0.extract 0 ks=s:=⟨_,rfl⟩
 rw [hs] at hsz
 have hs9:s.size ≤ 900:=by omega
 have HS:=Lib.hid hs
 have H2:=Lib.hid (fun (x:ByteArray) (hx:x.size ≤ 100000000) W (hb:Below w.heap.size w W)=>jr_Read x hx W (h.below hb))
 have HG:=Lib.hid (fun W (hb:Below w.heap.size w W)=>hw.below hb)
 have hc:=rj_cases s
 clear h hw hs hks hsz hs0
 go_enter Tryz.func12,Tryz.ntmps12
 go_wp2_with fail
 refine H1.out.mono ?_
 rintro x w1 ⟨rfl,hb1⟩
 go_wp2_with fail
 rw [HS.out]
 have HR:=H2.out s (by omega) w1 hb1
 obtain ⟨⟨e,t⟩,hrc⟩:∃ x,RJ s=x:=⟨_,rfl⟩
 rw [hrc] at hc
 rw [show readJ uqJ s.data.toList=(e,t) from hrc] at HR
 simp only [] at hc
 rcases hc with ⟨hc1,hc2⟩ | ⟨hc1,hc2,hc3⟩
 ·subst hc2
  clear hrc y0 y2
  refine HR.mono ?_
  rintro x w3 ⟨hb3,A1,n1,c1,rfl,hl,ho⟩
  have hn:n1=0:=hl.lenJ
  subst hn
  rw [show nodeV (Tr.nd zeroO []).own (.slice A1 0 c1)=.agg #[.int .i64 0,.bool false,.bool false,.string ⟨#[]⟩,.int .i64 0,.int .u64 0,.int .i64 0,.string ⟨#[]⟩,.slice A1 0 c1] from rfl]
  have hb3':=hb1.trans (hb3.mono hb1.size)
  have hb4:=hb3'.alloc hb3'.size (.cells #[.int .i64 0,.bool false,.bool false,.string ⟨#[]⟩,.int .i64 0,.int .u64 0,.int .i64 0,.string ⟨#[]⟩,.slice A1 0 c1] 27)
  have hm:=Blk.new w3 #[.int .i64 0,.bool false,.bool false,.string ⟨#[]⟩,.int .i64 0,.int .u64 0,.int .i64 0,.string ⟨#[]⟩,.slice A1 0 c1] 27
  have HW:=Lib.hid (jw_Write (.nd zeroO []) (.slice A1 0 c1) _ 0 16 bT bF (LAt.nil (w3.alloc (.cells #[.int .i64 0,.bool false,.bool false,.string ⟨#[]⟩,.int .i64 0,.int .u64 0,.int .i64 0,.string ⟨#[]⟩,.slice A1 0 c1] 27)) _ _ _ _) own_zero (Nat.zero_le _) (by decide +kernel) (HG.out _ hb4))
  rw [zero_checkJ,wroteJ_none _ _ (by decide)] at HW
  have HW:Hid (Calls Tryz.prog 16 #[.agg #[.int .i64 0,.bool false,.bool false,.string ⟨#[]⟩,.int .i64 0,.int .u64 0,.int .i64 0,.string ⟨#[]⟩,.slice A1 0 c1]] (w3.alloc (.cells #[.int .i64 0,.bool false,.bool false,.string ⟨#[]⟩,.int .i64 0,.int .u64 0,.int .i64 0,.string ⟨#[]⟩,.slice A1 0 c1] 27)) fun e w'=>e=.returned (.tuple #[.string ⟨#[]⟩,.int .i64 60]) ∧ Below (w3.alloc (.cells #[.int .i64 0,.bool false,.bool false,.string ⟨#[]⟩,.int .i64 0,.int .u64 0,.int .i64 0,.string ⟨#[]⟩,.slice A1 0 c1] 27)).heap.size (w3.alloc (.cells #[.int .i64 0,.bool false,.bool false,.string ⟨#[]⟩,.int .i64 0,.int .u64 0,.int .i64 0,.string ⟨#[]⟩,.slice A1 0 c1] 27)) w'):=HW
  have y1:(e != 0)=true:=by
   rw [bne_iff_ne]
   rcases hc1 with h | h | ⟨h,_⟩ <;> rw [h] <;> decide
  clear H1 H2 HG HR hc1 hl ho
  have z0:=hm.cell 0
  have z1:=hm.cell 1
  have z2:=hm.cell 2
  have z3:=hm.cell 3
  have z4:=hm.cell 4
  have z5:=hm.cell 5
  have z6:=hm.cell 6
  have z7:=hm.cell 7
  have z8:=hm.cell 8
  go_wp2_with fail
  refine HW.out.mono ?_
  rintro x w5 ⟨rfl,hb5⟩
  have hb6:=hb4.trans (hb5.mono hb4.size)
  go_wp2_with fail
  go_ret
  exact ⟨rfl,hb6⟩
 ·subst hc1
  have hwl:=wjw_len false t hc2
  have hbk:=rjw_back false t hc2
  clear hrc y0 y2
  refine HR.mono ?_
  rintro x w3 ⟨hb3,A1,n1,c1,rfl,hl1,ho1⟩
  have ho1:OwnOk t.own:=ho1
  have hl1:LAt w3 (fun q=>w1.heap.size ≤ q ∧ q < w3.heap.size) 16 t.kids (.slice A1 n1 c1):=hl1
  have hb3':=hb1.trans (hb3.mono hb1.size)
  have hl1s:=hl1.mono (S':=fun q=>q < w3.heap.size) (fun q hq=>hq.2)
  have HWR:=Lib.hid (fun W (hW:Below w.heap.size w W) B x (hl:ListAt W B 16 t.kids x) (hB:B ≤ W.heap.size)=>jw_Write t x W B 16 bT bF hl ho1 hB (by omega) (HG.out W hW))
  rw [hc2] at HWR
  have HWZ:=Lib.hid (fun W (hW:Below w.heap.size w W) A c=>jw_Write (.nd zeroO []) (.slice A 0 c) W 0 16 bT bF (LAt.nil W _ _ _ _) own_zero (Nat.zero_le _) (by decide +kernel) (HG.out _ hW))
  rw [zero_checkJ,wroteJ_none _ _ (by decide)] at HWZ
  have HSAME:=Lib.hid (fun W B x x' (hl:ListAt W B 16 t.kids x) (hl':ListAt W B 16 t.kids x') (hB:B ≤ W.heap.size)=>ref_SameT 16 t t x x' W B 16 hl hl' hB)
  rw [sameT_refl] at HSAME
  obtain ⟨a,ha⟩:∃ a,wroteJ false t 0=a:=⟨_,rfl⟩
  rw [ha] at HWR hwl hbk
  obtain ⟨⟨kind1,b1,neg1,dg1,ex1,u1,wd1,s1⟩,hoE⟩:∃ o,t.own=o:=⟨_,rfl⟩
  simp only [hoE] at HSAME HWR ⊢
  unfold nodeV at HSAME HWR ⊢
  simp only [] at HSAME HWR ⊢
  have hk4:=Blk.new w3 #[.int .i64 kind1,.bool b1,.bool neg1,.string dg1,.int .i64 ex1,.int .u64 u1,.int .i64 wd1,.string s1,.slice A1 n1 c1] 27
  have hb4:=hb3'.alloc hb3'.size (.cells #[.int .i64 kind1,.bool b1,.bool neg1,.string dg1,.int .i64 ex1,.int .u64 u1,.int .i64 wd1,.string s1,.slice A1 n1 c1] 27)
  have hw4:Below w3.heap.size w3 (w3.alloc (.cells #[.int .i64 kind1,.bool b1,.bool neg1,.string dg1,.int .i64 ex1,.int .u64 u1,.int .i64 wd1,.string s1,.slice A1 n1 c1] 27)):=(Below.refl _ w3).alloc (Nat.le_refl _) _
  have HL1:=Lib.hid hl1s
  have HW1:=Lib.hid (HWR.out _ hb4 w3.heap.size _ (hl1s.below hw4 (Nat.le_refl _)) (by simp))
  clear H1 HG HR hl1 hl1s ho1 hc2 hc3 ha hb3
  have z0:=hk4.cell 0
  have z1:=hk4.cell 1
  have z2:=hk4.cell 2
  have z3:=hk4.cell 3
  have z4:=hk4.cell 4
  have z5:=hk4.cell 5
  have z6:=hk4.cell 6
  have z7:=hk4.cell 7
  have z8:=hk4.cell 8
  go_wp2_with fail
  refine HW1.out.mono ?_
  rintro x w5 ⟨rfl,hb5⟩
  have hk5:=hk4.below hb5 hk4.lt
  have hb6:=hb4.trans (hb5.mono hb4.size)
  have hw5:=hw4.trans (hb5.mono hw4.size)
  clear z0 z1 z2 z3 z4 z5 z6 z7 z8 HW1 hk4 hb5
  go_wp2_with fail
  by_cases h4:a.size ≤ 4000
  ·have HR2:=H2.out a (by omega) w5 hb6
   rw [hbk h4] at HR2
   refine HR2.mono ?_
   rintro x w7 ⟨hb7,A2,n2,c2,rfl,hl2,_⟩
   have hl2:LAt w7 (fun q=>w5.heap.size ≤ q ∧ q < w7.heap.size) 16 t.kids (.slice A2 n2 c2):=hl2
   simp only [hoE]
   unfold nodeV
   simp only []
   have hk8:=(hk5.below hb7 hk5.lt).alloc (.cells #[.int .i64 kind1,.bool b1,.bool neg1,.string dg1,.int .i64 ex1,.int .u64 u1,.int .i64 wd1,.string s1,.slice A2 n2 c2] 27)
   have hm8:=Blk.new w7 #[.int .i64 kind1,.bool b1,.bool neg1,.string dg1,.int .i64 ex1,.int .u64 u1,.int .i64 wd1,.string s1,.slice A2 n2 c2] 27
   have hbA:=hb6.trans (hb7.mono hb6.size)
   have hb8:=hbA.alloc hbA.size (.cells #[.int .i64 kind1,.bool b1,.bool neg1,.string dg1,.int .i64 ex1,.int .u64 u1,.int .i64 wd1,.string s1,.slice A2 n2 c2] 27)
   have hw7:=hw5.trans (hb7.mono hw5.size)
   have hw8:=hw7.alloc hw7.size (.cells #[.int .i64 kind1,.bool b1,.bool neg1,.string dg1,.int .i64 ex1,.int .u64 u1,.int .i64 wd1,.string s1,.slice A2 n2 c2] 27)
   have hla:ListAt (w7.alloc (.cells #[.int .i64 kind1,.bool b1,.bool neg1,.string dg1,.int .i64 ex1,.int .u64 u1,.int .i64 wd1,.string s1,.slice A2 n2 c2] 27)) w7.heap.size 16 t.kids (.slice A1 n1 c1):=(HL1.out.below hw8 (Nat.le_refl _)).more (by have:=hw7.size; omega)
   have hlb:ListAt (w7.alloc (.cells #[.int .i64 kind1,.bool b1,.bool neg1,.string dg1,.int .i64 ex1,.int .u64 u1,.int .i64 wd1,.string s1,.slice A2 n2 c2] 27)) w7.heap.size 16 t.kids (.slice A2 n2 c2):=(hl2.keep (fun q hq=>Below.heap_alloc w7 _ q hq.2)).mono (fun q hq=>hq.2)
   have HW2:=Lib.hid (HWR.out _ hb8 w7.heap.size _ hlb (by simp))
   have HSM:=Lib.hid (fun W (hW:Below (w7.alloc (.cells #[.int .i64 kind1,.bool b1,.bool neg1,.string dg1,.int .i64 ex1,.int .u64 u1,.int .i64 wd1,.string s1,.slice A2 n2 c2] 27)).heap.size (w7.alloc (.cells #[.int .i64 kind1,.bool b1,.bool neg1,.string dg1,.int .i64 ex1,.int .u64 u1,.int .i64 wd1,.string s1,.slice A2 n2 c2] 27)) W)=>HSAME.out W w7.heap.size _ _ (hla.below hW (by simp)) (hlb.below hW (by simp)) (by have:=hW.size; simp at this; omega))
   clear hl2 hla hlb HSAME HR2 hk5 hb7 HWR HWZ hbk hoE
   have q0:=hm8.cell 0
   have q1:=hm8.cell 1
   have q2:=hm8.cell 2
   have q3:=hm8.cell 3
   have q4:=hm8.cell 4
   have q5:=hm8.cell 5
   have q6:=hm8.cell 6
   have q7:=hm8.cell 7
   have q8:=hm8.cell 8
   go_wp2_with fail
   refine HW2.out.mono ?_
   rintro x w9 ⟨rfl,hb9⟩
   have hb10:=hb8.trans (hb9.mono hb8.size)
   have hk9:=hk8.below hb9 hk8.lt
   have hm9:=hm8.below hb9 hm8.lt
   have HSN:=Lib.hid (HSM.out _ hb9)
   clear HSM q0 q1 q2 q3 q4 q5 q6 q7 q8 hk8 hm8 hb9 HW2
   have p0:=hk9.cell 0
   have p1:=hk9.cell 1
   have p2:=hk9.cell 2
   have p3:=hk9.cell 3
   have p4:=hk9.cell 4
   have p5:=hk9.cell 5
   have p6:=hk9.cell 6
   have p7:=hk9.cell 7
   have p8:=hk9.cell 8
   have q0:=hm9.cell 0
   have q1:=hm9.cell 1
   have q2:=hm9.cell 2
   have q3:=hm9.cell 3
   have q4:=hm9.cell 4
   have q5:=hm9.cell 5
   have q6:=hm9.cell 6
   have q7:=hm9.cell 7
   have q8:=hm9.cell 8
   go_wp2_with fail
   refine HSN.out.mono ?_
   rintro x w11 ⟨rfl,hb11⟩
   have hb12:=hb10.trans (hb11.mono hb10.size)
   clear p0 p1 p2 p3 p4 p5 p6 p7 p8 q0 q1 q2 q3 q4 q5 q6 q7 q8 hk9 hm9
   go_wp2_with fail
   go_ret
   exact ⟨by simp,hb12⟩
  ·have HR2:=H2.out a (by omega) w5 hb6
   rw [rjw_big (by omega)] at HR2
   refine HR2.mono ?_
   rintro x w7 ⟨hb7,A2,n2,c2,rfl,hl2,_⟩
   have hn:n2=0:=hl2.lenJ
   subst hn
   rw [show nodeV (Tr.nd zeroO []).own (.slice A2 0 c2)=.agg #[.int .i64 0,.bool false,.bool false,.string ⟨#[]⟩,.int .i64 0,.int .u64 0,.int .i64 0,.string ⟨#[]⟩,.slice A2 0 c2] from rfl]
   have hm8:=Blk.new w7 #[.int .i64 0,.bool false,.bool false,.string ⟨#[]⟩,.int .i64 0,.int .u64 0,.int .i64 0,.string ⟨#[]⟩,.slice A2 0 c2] 27
   have hbA:=hb6.trans (hb7.mono hb6.size)
   have hb8:=hbA.alloc hbA.size (.cells #[.int .i64 0,.bool false,.bool false,.string ⟨#[]⟩,.int .i64 0,.int .u64 0,.int .i64 0,.string ⟨#[]⟩,.slice A2 0 c2] 27)
   have HW2:=HWZ.out _ hb8 A2 c2
   have HW2:Hid (Calls Tryz.prog 16 #[.agg #[.int .i64 0,.bool false,.bool false,.string ⟨#[]⟩,.int .i64 0,.int .u64 0,.int .i64 0,.string ⟨#[]⟩,.slice A2 0 c2]] (w7.alloc (.cells #[.int .i64 0,.bool false,.bool false,.string ⟨#[]⟩,.int .i64 0,.int .u64 0,.int .i64 0,.string ⟨#[]⟩,.slice A2 0 c2] 27)) fun e w'=>e=.returned (.tuple #[.string ⟨#[]⟩,.int .i64 60]) ∧ Below (w7.alloc (.cells #[.int .i64 0,.bool false,.bool false,.string ⟨#[]⟩,.int .i64 0,.int .u64 0,.int .i64 0,.string ⟨#[]⟩,.slice A2 0 c2] 27)).heap.size (w7.alloc (.cells #[.int .i64 0,.bool false,.bool false,.string ⟨#[]⟩,.int .i64 0,.int .u64 0,.int .i64 0,.string ⟨#[]⟩,.slice A2 0 c2] 27)) w'):=Lib.hid HW2
   have y4:(4000:Int) < a.size:=by omega
   clear hl2 HSAME HR2 hk5 hb7 HWR HWZ hbk hoE
   have q0:=hm8.cell 0
   have q1:=hm8.cell 1
   have q2:=hm8.cell 2
   have q3:=hm8.cell 3
   have q4:=hm8.cell 4
   have q5:=hm8.cell 5
   have q6:=hm8.cell 6
   have q7:=hm8.cell 7
   have q8:=hm8.cell 8
   go_wp2_with fail
   refine HW2.out.mono ?_
   rintro x w9 ⟨rfl,hb9⟩
   have hb10:=hb8.trans (hb9.mono hb8.size)
   clear q0 q1 q2 q3 q4 q5 q6 q7 q8 hm8 hb9 HW2
   go_wp2_with fail
   go_ret
   exact ⟨by simp,hb10⟩
end Go.Proofs.YtfckekaegjjmkaaGreatDoor
namespace Go.Proofs.YtfckekaegjjmkaaGreatDoor
open Go.RowKit Go.Shelf Go.Lib

theorem laidMet_drop {P:Program} {W:World}:∀ (k:Nat) {l:List (String × DataW Unit)},laidMet P l W → laidMet P (l.drop k) W
 | 0,_,h=>h
 | _ + 1,[],h=>h
 | k + 1,_ :: _,h=>laidMet_drop k h.tail

set_option maxRecDepth 100000 in
theorem sentinel_of {n:String} {g:Nat} {text:List UInt8} {r:List (String × DataW Unit)} {W:World} (h:laidMet Tryz.prog ((n,.iface "*errors.errorString" (.ptr (.agg [.lit (.string text)]))) :: r) W)
  (hg:Tryz.prog.globalNamed n=some g) (ht:(Tryz.prog.globals[g]?).map (·.type)=some 62)
  (hi:∃ ms,Tryz.prog.underlying 62=some (.interface ms)) (hrow:∀ u,Tryz.prog.typeName? 3 u=some "*errors.errorString" → u=289)
  (he:∃ f:Field,Tryz.prog.underlying 291=some (.struct #[f]) ∧ f.type=9 ∧ f.offset=0) (hc:Tryz.prog.cellsOf 291=1) (hcs:Tryz.prog.cellsOf 9=1) :
  ∃ a:Addr,W.cell? ⟨g,0,none⟩=some (.iface 289 (.pointer (some a))) ∧ (∃ c t,W.heap[a.block]? = some (.cells c t (0,0))) ∧ ∃ s:ByteArray,W.cell? a=some (.string s) ∧ s.data.toList=text:=by
 obtain ⟨ms,hi⟩:=hi
 obtain ⟨f,he,hft,hfo⟩:=he
 obtain ⟨ps,⟨g0,t0,cs0,f0,p0,q0,hg0,ht0,hv0,hd0,_,e0⟩,_,hrows⟩:=h
 obtain rfl:=Option.some.inj (hg.symm.trans hg0)
 obtain rfl:=Option.some.inj (ht.symm.trans ht0)
 subst e0
 obtain ⟨l0⟩:=cs0
 have ok0:∀ u v,l0=[.iface u v] → Value.okWide Tryz.prog W .any 0 u v:=fun u v e=>by
  subst e
  exact (hrows g 0 (by simp [MemPlace.row])).2 u v (by simpa using World.var?_cell hg0 hv0 0)
 obtain ⟨a0,s0,rfl,hc0,hs0,hz0,rfl⟩:=errorString_of_trod hi hrow Tryz.underlying289 he hft hfo Tryz.underlying9 hc hcs hd0 ok0
 obtain ⟨c0,t0,hb0⟩:=(hrows a0.block a0.off (by simp [MemPlace.row])).1
 refine ⟨a0,?_,⟨c0,t0,hb0⟩,s0,hc0,hs0⟩
 simpa using World.var?_cell hg0 hv0 0

set_option maxRecDepth 100000 in
theorem u8extra:U8Extra Tryz.prog Tryz.lays196_ren:={ n3:=by kernel_rfl,n4:=by kernel_rfl,y3:=by kernel_rfl,y4:=by kernel_rfl,c5:=by kernel_rfl,c119:=by kernel_rfl,c138:=by kernel_rfl }
theorem es_star : "*" ++ "errors.errorString" = "*errors.errorString" := by decide
set_option maxRecDepth 100000 in
theorem es_row (u:TypeId) (h:Tryz.prog.typeName? 3 u=some "*errors.errorString"):u=289:=
 typeName_ptr_named (nm := "errors.errorString") (by rw [es_star]; kernel_rfl) (by kernel_rfl) (by decide) u (by rw [es_star]; exact h)
theorem es_iface:∃ ms,Tryz.prog.underlying 62=some (.interface ms):=⟨_,Tryz.underlying62⟩
theorem es_struct:∃ f:Field,Tryz.prog.underlying 291=some (.struct #[f]) ∧ f.type=9 ∧ f.offset=0:=⟨_,Tryz.underlying291,rfl,rfl⟩
set_option maxRecDepth 100000 in
theorem es_cells:Tryz.prog.cellsOf 291=1:=by kernel_rfl
set_option maxRecDepth 100000 in
theorem es_string:Tryz.prog.cellsOf 9=1:=by kernel_rfl
theorem wf_i64 {a:Int} (h:(Lit.int .i64 a).wf=true) : -9223372036854775808 ≤ a ∧ a < 9223372036854775808:=by
 simp [Lit.wf,IntKind.min,IntKind.max,IntKind.signed,IntKind.bits] at h
 omega
theorem cell_block_lt {w:World} {a:Addr} {v:Value} (h:w.cell? a=some v):a.block < w.heap.size:=by
 unfold World.cell? at h
 cases hh:w.heap[a.block]? with
 | none=>rw [hh] at h; cases h
 | some o=>exact (Array.getElem?_eq_some_iff.1 hh).1
set_option maxRecDepth 100000 in
theorem sentinel_var {n:String} {g:Nat} {text:List UInt8} {r:List (String × DataW Unit)} {W:World} (h:laidMet Tryz.prog ((n,.iface "*errors.errorString" (.ptr (.agg [.lit (.string text)]))) :: r) W)
  (hg:Tryz.prog.globalNamed n=some g) (ht:(Tryz.prog.globals[g]?).map (·.type)=some 62):∃ tp p,W.var? Tryz.prog n=some #[.iface tp p]:=by
 obtain ⟨ms,hi⟩:=es_iface
 obtain ⟨f,he,hft,hfo⟩:=es_struct
 obtain ⟨ps,⟨g0,t0,cs0,f0,p0,q0,hg0,ht0,hv0,hd0,_,e0⟩,_,hrows⟩:=h
 obtain rfl:=Option.some.inj (hg.symm.trans hg0)
 obtain rfl:=Option.some.inj (ht.symm.trans ht0)
 subst e0
 obtain ⟨l0⟩:=cs0
 have ok0:∀ u v,l0=[.iface u v] → Value.okWide Tryz.prog W .any 0 u v:=fun u v e=>by
  subst e
  exact (hrows g 0 (by simp [MemPlace.row])).2 u v (by simpa using World.var?_cell hg0 hv0 0)
 obtain ⟨a0,s0,rfl,hc0,hs0,hz0,rfl⟩:=errorString_of_trod hi es_row Tryz.underlying289 he hft hfo Tryz.underlying9 es_cells es_string hd0 ok0
 exact ⟨_,_,hv0⟩
set_option maxRecDepth 100000 in
theorem gR:Tryz.prog.globalNamed "strconv.ErrRange" = some 8:=by kernel_rfl
set_option maxRecDepth 100000 in
theorem tR:(Tryz.prog.globals[8]?).map (·.type)=some 62:=by kernel_rfl
end Go.Proofs.YtfckekaegjjmkaaGreatDoor
namespace Go.Proofs.YtfckekaegjjmkaaGreatDoor
open Go.RowKit Go.Shelf Go.Lib

set_option maxRecDepth 100000 in
theorem gTr:Tryz.prog.globalNamed "targum/tree.errTree" = some 0:=by kernel_rfl
set_option maxRecDepth 100000 in
theorem gFo:Tryz.prog.globalNamed "targum/tree.errForm" = some 1:=by kernel_rfl
set_option maxRecDepth 100000 in
theorem tTr:(Tryz.prog.globals[0]?).map (·.type)=some 62:=by kernel_rfl
set_option maxRecDepth 100000 in
theorem tFo:(Tryz.prog.globals[1]?).map (·.type)=some 62:=by kernel_rfl

structure GateLaid (l:List (String × DataW Unit)):Prop where
 eT:∃ k r,l.drop k=("targum/tree.errTree",.iface "*errors.errorString" (.ptr (.agg [.lit (.string [110,111,32,116,114,101,101])]))) :: r
 eF:∃ k r,l.drop k=("targum/tree.errForm",.iface "*errors.errorString" (.ptr (.agg [.lit (.string [110,111,32,115,117,99,104,32,102,111,114,109])]))) :: r
 ra:("unicode/utf8.acceptRanges",acceptData) ∈ l
 fi:("unicode/utf8.first",firstData) ∈ l
 eR:∃ k r,l.drop k=("strconv.ErrRange",.iface "*errors.errorString" (.ptr (.agg [.lit (.string [118,97,108,117,101,32,111,117,116,32,111,102,32,114,97,110,103,101])]))) :: r

theorem gw_of_laid {l:List (String × DataW Unit)} (hl:GateLaid l) {W:World} (h:laidMet Tryz.prog l W):∃ aT aF,GW W aT aF:=by
 obtain ⟨kT,rT,eT⟩:=hl.eT
 obtain ⟨kF,rF,eF⟩:=hl.eF
 obtain ⟨kR,rR,eR⟩:=hl.eR
 have hT:=laidMet_drop kT h
 have hF:=laidMet_drop kF h
 have hR:=laidMet_drop kR h
 rw [eT] at hT
 rw [eF] at hF
 rw [eR] at hR
 obtain ⟨aT,cT,bT,sT,dT,xT⟩:=sentinel_of hT gTr tTr es_iface es_row es_struct es_cells es_string
 obtain ⟨aF,cF,bF,sF,dF,xF⟩:=sentinel_of hF gFo tFo es_iface es_row es_struct es_cells es_string
 refine ⟨aT,aF,cT,cF,?_,bT,bF,?_,sentinel_var hR gR tR⟩
 ·rintro rfl
  rw [dT] at dF
  cases dF
  rw [xT] at xF
  cases xF
 ·obtain ⟨ps,hv,_,_⟩:=h
  exact utf8Tabs_of_readsT (U8Types.of196 Tryz.lays196) u8extra (LaidVars_reads hv _ _ hl.fi) (LaidVars_reads hv _ _ hl.ra)
end Go.Proofs.YtfckekaegjjmkaaGreatDoor
namespace Go.Proofs.YtfckekaegjjmkaaGreatDoor
open Go.RowKit Go.Shelf Go.Lib

set_option maxRecDepth 100000 in
theorem gT:Tryz.prog.globalNamed "targum/utf.errText" = some 6:=by kernel_rfl
set_option maxRecDepth 100000 in
theorem gQ:Tryz.prog.globalNamed "targum/utf.errQuote" = some 3:=by kernel_rfl
set_option maxRecDepth 100000 in
theorem tT:(Tryz.prog.globals[6]?).map (·.type)=some 62:=by kernel_rfl
set_option maxRecDepth 100000 in
theorem tQ:(Tryz.prog.globals[3]?).map (·.type)=some 62:=by kernel_rfl

structure UtfLaid (l:List (String × DataW Unit)):Prop where
 eT:∃ k r,l.drop k=("targum/utf.errText",.iface "*errors.errorString" (.ptr (.agg [.lit (.string [110,111,32,116,101,120,116])]))) :: r
 eQ:∃ k r,l.drop k=("targum/utf.errQuote",.iface "*errors.errorString" (.ptr (.agg [.lit (.string [110,111,32,113,117,111,116,97,116,105,111,110])]))) :: r
 ra:("unicode/utf8.acceptRanges",acceptData) ∈ l
 fi:("unicode/utf8.first",firstData) ∈ l

theorem uw_of_laid {l:List (String × DataW Unit)} (hl:UtfLaid l) {W:World} (h:laidMet Tryz.prog l W):∃ aT aQ,UW W aT aQ:=by
 obtain ⟨kT,rT,eT⟩:=hl.eT
 obtain ⟨kQ,rQ,eQ⟩:=hl.eQ
 have hT:=laidMet_drop kT h
 have hQ:=laidMet_drop kQ h
 rw [eT] at hT
 rw [eQ] at hQ
 obtain ⟨aT,cT,bT,sT,dT,xT⟩:=sentinel_of hT gT tT es_iface es_row es_struct es_cells es_string
 obtain ⟨aQ,cQ,bQ,sQ,dQ,xQ⟩:=sentinel_of hQ gQ tQ es_iface es_row es_struct es_cells es_string
 refine ⟨aT,aQ,cT,cQ,?_,bT,bQ,?_⟩
 ·rintro rfl
  rw [dT] at dQ
  cases dQ
  rw [xT] at xQ
  cases xQ
 ·obtain ⟨ps,hv,_,_⟩:=h
  exact utf8Tabs_of_readsT (U8Types.of196 Tryz.lays196) u8extra (LaidVars_reads hv _ _ hl.fi) (LaidVars_reads hv _ _ hl.ra)

end Go.Proofs.YtfckekaegjjmkaaGreatDoor
namespace Go.Proofs.YtfckekaegjjmkaaGreatDoor
open Go.RowKit Go.Shelf Go.Lib

set_option maxRecDepth 100000 in
theorem powJ_g:Tryz.prog.globalNamed "internal/strconv.uint64pow10" = some 10:=by kernel_rfl
set_option maxRecDepth 100000 in
theorem powJ_t:(Tryz.prog.globals[10]?).map (·.type)=some 295:=by kernel_rfl
set_option maxRecDepth 100000 in
theorem powJ_u:Tryz.prog.cellsOf 24=1:=by kernel_rfl
set_option maxRecDepth 100000 in
theorem powJ_c:Tryz.prog.cellsOf 295=20:=by kernel_rfl
theorem sw_of_laid {l r:List (String × DataW Unit)} (hl:GateLaid l) (hd:l.drop 2=("internal/strconv.uint64pow10",Rows.laid_internal_strconv_uint64pow10) :: r) {W:World} (h:laidMet Tryz.prog l W):∃ aT aF,SW W aT aF:=by
 obtain ⟨aT,aF,hg⟩:=gw_of_laid hl h
 have h3:=laidMet_drop 2 h
 rw [hd] at h3
 exact ⟨aT,aF,hg,tabIs_of_head powJ_g powJ_t Tryz.underlying295 Tryz.underlying24 powJ_u powJ_c h3⟩
end Go.Proofs.YtfckekaegjjmkaaGreatDoor
namespace Go.Proofs.YtfckekaegjjmkaaGreatDoor
open Go.RowKit Go.Shelf Go.Lib

noncomputable abbrev plainJ:List (String × DataW Unit):=[("math/bits.deBruijn32tab",Rows.laid_math_bits_deBruijn32tab),("math/bits.deBruijn64tab",Rows.laid_math_bits_deBruijn64tab),("internal/strconv.uint64pow10",Rows.laid_internal_strconv_uint64pow10),("unicode/utf8.acceptRanges",Rows.laid_unicode_utf8_acceptRanges),("strconv.ErrRange",Rows.laid_strconv_ErrRange),("strconv.ErrSyntax",Rows.laid_strconv_ErrSyntax),("targum/utf.errText",Rows.laid_targum_utf_errText),("targum/utf.errQuote",Rows.laid_targum_utf_errQuote),("targum/tree.errTree",Rows.laid_targum_tree_errTree),("targum/tree.errForm",Rows.laid_targum_tree_errForm),("unicode/utf8.first",Rows.laid_unicode_utf8_first)]
noncomputable abbrev allJ:List (String × DataW Unit):=[("math/bits.deBruijn32tab",Rows.laid_math_bits_deBruijn32tab),("math/bits.deBruijn64tab",Rows.laid_math_bits_deBruijn64tab),("internal/strconv.uint64pow10",Rows.laid_internal_strconv_uint64pow10),("unicode/utf8.acceptRanges",Rows.laid_unicode_utf8_acceptRanges),("errors.errorType",Rows.laid_errors_errorType),("strconv.ErrRange",Rows.laid_strconv_ErrRange),("strconv.ErrSyntax",Rows.laid_strconv_ErrSyntax),("targum/utf.errText",Rows.laid_targum_utf_errText),("targum/utf.errQuote",Rows.laid_targum_utf_errQuote),("targum/tree.errTree",Rows.laid_targum_tree_errTree),("targum/tree.errForm",Rows.laid_targum_tree_errForm),("unicode/utf8.first",Rows.laid_unicode_utf8_first)]
set_option maxRecDepth 100000 in
theorem hand_partsJ {W:World} (h:laidMetH Tryz.prog allJ W):laidMet Tryz.prog plainJ W ∧ handlesMet Tryz.prog [("errors.errorType",Rows.laid_errors_errorType)] W:=by
 have e1:(allJ.filter fun x=>x.2.handleName?.isSome)=[("errors.errorType",Rows.laid_errors_errorType)]:=by kernel_rfl
 have e2:(allJ.filter fun x=>x.2.handleName?.isNone)=plainJ:=by kernel_rfl
 unfold laidMetH at h
 rw [e1,e2] at h
 exact h
set_option maxRecDepth 100000 in
theorem hand_etJ:Tryz.prog.globalNamed "errors.errorType" = some 2:=by kernel_rfl
set_option maxRecDepth 100000 in
theorem hand_rtJ:(Tryz.prog.cutTypes.find? (·.1 == "internal/reflectlite.rtype")).map (·.2)=some 134:=by kernel_rfl
set_option maxRecDepth 100000 in
theorem hand_sizeJ:Tryz.prog.types.size=326:=by kernel_rfl
set_option maxRecDepth 100000 in
theorem hand_rowJ:((List.range 326).filter fun t=>Tryz.prog.rowNamed t [101,114,114,111,114])=[62]:=by kernel_rfl
set_option maxRecDepth 100000 in
theorem hand_tyJ {W:World} (h:handlesMet Tryz.prog [("errors.errorType",Rows.laid_errors_errorType)] W):ErrTyJ W:=by
 obtain ⟨name,u,ty,e1,e2,e3,e4,e5⟩:=h _ (List.mem_singleton.2 rfl)
 have en:name=[101,114,114,111,114]:=(Option.some.inj e1).symm
 subst en
 obtain rfl:=Option.some.inj (hand_rtJ.symm.trans e2)
 have hm:ty ∈ (List.range 326).filter fun t=>Tryz.prog.rowNamed t [101,114,114,111,114]:=List.mem_filter.2 ⟨List.mem_range.2 (by rw [← hand_sizeJ]; exact e3),e4⟩
 rw [hand_rowJ] at hm
 obtain rfl:=List.mem_singleton.1 hm
 have hh:typeHandle Tryz.prog 62=.pointer (some ⟨13,62,none⟩):=by kernel_rfl
 rw [hh] at e5
 simpa using World.var?_cell hand_etJ e5 0
set_option maxRecDepth 100000 in
theorem plain_gateJ:GateLaid plainJ where
 eT:=⟨8,_,rfl⟩
 eF:=⟨9,_,rfl⟩
 ra:=by
  rw [show (acceptData:DataW Unit)=Rows.laid_unicode_utf8_acceptRanges from by kernel_rfl]
  exact .tail _ (.tail _ (.tail _ (.head _)))
 fi:=by
  rw [show (firstData:DataW Unit)=Rows.laid_unicode_utf8_first from by kernel_rfl]
  exact .tail _ (.tail _ (.tail _ (.tail _ (.tail _ (.tail _ (.tail _ (.tail _ (.tail _ (.tail _ (.head _))))))))))
 eR:=⟨4,_,rfl⟩
set_option maxRecDepth 100000 in
theorem plain_utfJ:UtfLaid plainJ where
 eT:=⟨6,_,rfl⟩
 eQ:=⟨7,_,rfl⟩
 ra:=plain_gateJ.ra
 fi:=plain_gateJ.fi
set_option maxRecDepth 100000 in
theorem gSyn:Tryz.prog.globalNamed "strconv.ErrSyntax" = some 7:=by kernel_rfl
set_option maxRecDepth 100000 in
theorem tSyn:(Tryz.prog.globals[7]?).map (·.type)=some 62:=by kernel_rfl
set_option maxRecDepth 100000 in
theorem jrw_of_laid {W:World} (h:laidMetH Tryz.prog allJ W):∃ uT uQ aT aF,JRW W uT uQ aT aF:=by
 obtain ⟨h1,h2⟩:=hand_partsJ h
 obtain ⟨aT,aF,hg⟩:=gw_of_laid plain_gateJ h1
 obtain ⟨uT,uQ,hu⟩:=uw_of_laid plain_utfJ h1
 have h3:=laidMet_drop 5 h1
 obtain ⟨aS,cS,_,_,_,_⟩:=sentinel_of h3 gSyn tSyn es_iface es_row es_struct es_cells es_string
 exact ⟨uT,uQ,aT,aF,hu,hg,⟨⟨_,_,cS⟩,hg.rng⟩,hand_tyJ h2⟩
set_option maxRecDepth 100000 in
theorem sw_of_laidJ {W:World} (h:laidMetH Tryz.prog allJ W):∃ aT aF,SW W aT aF:=sw_of_laid plain_gateJ rfl (hand_partsJ h).1

noncomputable def handWJ (os:Os):World:=
 let w0:=World.holding Tryz.prog os ⟨#[],#[],[]⟩
 { w0 with heap:=w0.heap.modify 2 fun
   | .cells _ t frozen=>.cells #[.iface 134 (.agg #[.pointer (some ⟨13,62,none⟩)])] t frozen
   | o=>o }
noncomputable def laidHJ (os:Os):World:=(handWJ os).layVars Tryz.prog plainJ
theorem laidH_osJ (os:Os):(laidHJ os).os=os:=World.layVars_os _ _ _
set_option maxRecDepth 100000 in
theorem laidH_metJ (os:Os) (args:Array Value):laidMetH Tryz.prog allJ ((laidHJ os).forCall (fun _ _=>0) ⟨#[],args,[]⟩).memory:=by
 refine laidMetH_of_parts ?_ ?_
 ·have e2:(allJ.filter fun x=>x.2.handleName?.isNone)=plainJ:=by kernel_rfl
  rw [e2]
  have e3:(plainJ.filter fun x=>(plainJ.map (·.1)).contains x.1)=plainJ:=List.filter_eq_self.2 fun x hx=>List.contains_iff_mem.2 (List.mem_map.2 ⟨x,hx,rfl⟩)
  have e4:(plainJ.filter fun x=>!(plainJ.map (·.1)).contains x.1)=[]:=List.filter_eq_nil_iff.2 fun x hx=>by rw [List.contains_iff_mem.2 (List.mem_map.2 ⟨x,hx,rfl⟩)]; simp
  have h:laidMet Tryz.prog plainJ (laidHJ os):=laidMet_layVars (w0:=handWJ os) (plainJ.map (·.1)) [] (by rw [e3]; rfl) (by rw [e3]; kernel_rfl) (by rw [e3]; kernel_rfl) (by rw [e4]; exact LaidIn.none)
  exact h.of_heap (by simp [World.memory,World.forCall,Input.heap])
 ·kernel_rfl
set_option maxRecDepth 100000 in
theorem laidH_shapedJ (os:Os) (args:Array Value):((laidHJ os).forCall (fun _ _=>0) ⟨#[],args,[]⟩).Shaped Tryz.prog:=World.shaped_of_ZipB (by kernel_rfl) (by kernel_rfl)
end Go.Proofs.YtfckekaegjjmkaaGreatDoor
namespace Go.Proofs.YtfckekaegjjmkaaGreatDoor.jsonwTurns
open Go.ChangeShapes Go.WideShapes Go.ChangeAt Go.RowKit Go.Lib
open Go.ChangeMaps (open_string shut_string)

theorem own:ownKnob Tryz.prog.godebug=none:=by kernel_rfl
theorem laidOut:laidOutB Tryz.prog=true:=by kernel_rfl
theorem listed:Rows.jsonwTurnsRow.laid=allJ:=rfl

set_option maxRecDepth 100000 in
theorem lifted (os:Os) (started:os.Started) (H:Type) (enc:TypeId × Value → H) :
  ReturnsInHanded {} Tryz.checked os 12 .any (fun w args=>(Rows.jsonwTurnsSpec.pre enc Tryz.prog Tryz.f12 Rows.jsonwTurnsRow.domain false w args ∧ laidMetH Tryz.prog Rows.jsonwTurnsRow.laid w) ∧ sizedMet enc Tryz.prog Tryz.f12 (OpenSpec.ofChange Rows.jsonwTurnsSpec) false w args)
   (Rows.jsonwTurnsSpec.post enc Tryz.prog Tryz.f12 false true false false):=by
 refine returnsInHanded_of_change_and (C:=Tryz.checked) (X:=fun w _=>laidMetH Tryz.prog Rows.jsonwTurnsRow.laid w) (fun _ _ _ hh h=>h.of_heap hh) own started (by kernel_rfl) Tryz.func12
  (ChangeSpec.witness_shaped (enc:=enc) (C:=Tryz.checked) (os:=os) (X:=fun w _=>laidMetH Tryz.prog Rows.jsonwTurnsRow.laid w) false (laidHJ os) #[.string ByteArray.empty] 8 (laidH_osJ os)
   (laidH_shapedJ os _) (by kernel_rfl) (by kernel_rfl) (by kernel_rfl)
   (by rw [listed]; exact laidH_metJ os _)) ?_
 intro W base args ds gs before hval0 hW _ _ hL _
 have hval:∀ (j:Nat) t v,Tryz.f12.params[j]? = some t → args[j]? = some v → Value.okWide Tryz.prog W .any base t v:=hval0
 have hW':=hW
 obtain ⟨p,q,hA0,hV,rfl,_,_⟩:=hW
 have hA:DataW.TrodAll enc Tryz.prog W 0 (fun _=>true) true Tryz.f12.params.toList args.toList ds p:=hA0
 rw [Tryz.params12] at hA hval
 obtain ⟨v0,vs0,d0,ds0,p0,q0,hargs,rfl,rfl,h0,r0⟩:=trodAll_cons hA
 obtain ⟨rfl,rfl,rfl⟩:=trodAll_nil r0
 obtain rfl:args = #[v0]:=by cases args; simp_all
 obtain ⟨rfl,rfl⟩:=trodVars_none hV
 obtain ⟨a0,rfl,rfl,rfl,w0⟩:=open_string Tryz.underlying9 (hval 0 9 v0 rfl rfl) h0
 rw [listed] at hL
 obtain ⟨uT,uQ,aT,aF,hU⟩:=jrw_of_laid hL
 obtain ⟨bT,bF,hS⟩:=sw_of_laidJ hL
 refine (turns_walkJ a0 w0 W hU hS).mono fun e W' ⟨he,hb⟩=>?_
 subst he
 exact ⟨_,rfl,law_post laidOut (by kernel_rfl) rfl Tryz.underlying4 rfl rfl rfl rfl hW' hb⟩

end Go.Proofs.YtfckekaegjjmkaaGreatDoor.jsonwTurns
