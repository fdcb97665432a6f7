/- The texts DsP, HeadQ, put together. -/
import Derived.Test.YtonihophanmaaaaGreatDoorPa32
import Derived.BigQuiet
import Derived.Deep.QuietTactic
import Derived.Lib.Strings
import Derived.Outline
import Derived.Test.YtonihophanmaaaaGreatDoorPa05
import Derived.Test.YtonihophanmaaaaGreatDoorPa06
namespace Go.Proofs.YtonihophanmaaaaGreatDoor
open Go.RowKit Go.Shelf
noncomputable def detS (t:Tr):Tr:=if checkT 2 flC t=0 then setT cbT narR t else .nd zeroO []
noncomputable def detW (t:Tr):ByteArray:=if checkT 2 flC t=0 then bs (cbT (setT cbT narR t)) else ⟨#[]⟩
theorem setOk_of {W:World} {S:Nat→Prop} {d:Nat} {t:Tr} {x:Value} (hl:LAt W S d t.kids x) (ho:OwnOk t.own) (h:checkT 2 flC t=0):SetOk t:=by
 obtain ⟨_,_,h3,h4⟩:=check_zero.1 h
 exact ⟨h3,h4,okC_of_at t d x hl ho h3 h4⟩
theorem set_count {t:Tr} (h:SetOk t):(setT cbT narR t).count=t.count:=(set_inv (it:=cbT) narR_ok t h.all).1
set_option maxHeartbeats 4000000 in
set_option maxRecDepth 100000 in
theorem det_Settle (t:Tr) (x:Value) (w:World) (S:Nat→Prop) (d:Nat) (aT aF:Addr) (hl:LAt w S d t.kids x) (ho:OwnOk t.own) (hS:∀ q,S q→q<w.heap.size) (hc:t.count≤1000000) (h:GW w aT aF) :
  Calls Tryz.prog 21 #[nodeV t.own x] w fun e w'=>(∃ A c,e=.returned (.tuple #[nodeV (detS t).own (.slice A (detS t).kids.length c),.int .i64 (checkT 2 flC t)])∧LAt w' (fun q=>(S q∨w.heap.size≤q)∧q<w'.heap.size) d (detS t).kids (.slice A (detS t).kids.length c))∧Below w.heap.size w w':=by
 have HC:=fun (W:World) (hW:Below w.heap.size w W)=>tree_Check 2 flC (fits_at_C aT aF) t x W w.heap.size d ((hl.keep (fun q hq=>hW.block q (hS q hq))).mono hS) ho hW.size (by omega) (h.below hW)
 have HT:=fun (W:World) (hW:Below w.heap.size w W) (h0:checkT 2 flC t=0)=>det_settled t.count t x W S d aT aF (Nat.le_refl _) (hl.keep (fun q hq=>hW.block q (hS q hq))) ho (fun q hq=>Nat.lt_of_lt_of_le (hS q hq) hW.size) (h.below hW) hc (setOk_of hl ho h0)
 unfold SetPost at HT
 unfold detS
 obtain ⟨e0,he0⟩:∃ e0,checkT 2 flC t=e0:=⟨_,rfl⟩
 simp only [he0]at HC HT ⊢
 obtain ⟨hlen,A,c,rfl⟩:=hl.slice
 obtain ⟨n,hn⟩:∃ n,t.kids.length=n:=⟨_,rfl⟩
 obtain ⟨st,hst⟩:∃ st,setT cbT narR t=st:=⟨_,rfl⟩
 simp only [hst]at HT ⊢
 obtain ⟨⟨kind,b,neg,dg,ex,u,wd,s⟩,ho'⟩:∃ o,t.own=o:=⟨_,rfl⟩
 rw [ho',hn]at HC HT ⊢
 unfold nodeV at HC HT ⊢
 simp only []at HC HT ⊢
 have HB2:=Lib.hid (box2 w #[.int .i64 kind,.bool b,.bool neg,.string dg,.int .i64 ex,.int .u64 u,.int .i64 wd,.string s,.slice A n c] #[.int .i64 0,.bool false,.bool false,.string ⟨#[]⟩,.int .i64 0,.int .u64 0,.int .i64 0,.string ⟨#[]⟩,.slice none 0 0] 28 28)
 obtain ⟨hb2,hk1,hk2⟩:=HB2.out
 have HK1:=Lib.hid hk1
 have HK2:=Lib.hid hk2
 have HB:=Lib.hid hb2
 have HC:=Lib.hid HC
 have HT:=Lib.hid HT
 have HS:=Lib.hid hS
 clear hl ho hc h he0 hn hst ho' hb2 hk1 hk2 HB2 hS hlen
 go_enter Tryz.func21,Tryz.ntmps21
 go_wp2_with (refine wpList_load_row rfl 28 (.tmp 1) rfl w.heap.size rfl 28 _ (0,0) _ HK1.out Tryz.underlying28 rfl (by kernel_rfl) ?_)
 refine (HC.out _ HB.out).mono ?_
 rintro e w3 ⟨rfl,hb3⟩
 have hk13:=HK1.out.below hb3 HK1.out.lt
 have hk23:=HK2.out.below hb3 HK2.out.lt
 have hbw:=HB.out.trans (hb3.mono (by simp; omega))
 have HK13:=Lib.hid hk13
 have HK23:=Lib.hid hk23
 have HBW:=Lib.hid hbw
 clear hk13 hk23 hbw hb3 HB HK1 HK2 HC
 by_cases h0:e0=0
 ·subst h0
  go_wp2_with (refine wpList_load_row rfl 28 (.tmp 1) rfl w.heap.size rfl 28 _ (0,0) _ HK13.out Tryz.underlying28 rfl (by kernel_rfl) ?_)
  refine (HT.out _ HBW.out (by trivial)).mono ?_
  rintro e w4 ⟨⟨A2,c2,rfl,hly⟩,hb4⟩
  obtain ⟨n2,hn2⟩:∃ n2,st.kids.length=n2:=⟨_,rfl⟩
  obtain ⟨⟨kind2,b2,neg2,dg2,ex2,u2,wd2,s2⟩,ho2⟩:∃ o,st.own=o:=⟨_,rfl⟩
  rw [hn2]at hly
  rw [hn2,ho2]
  simp only []
  have hk24:=HK23.out.below hb4 HK23.out.lt
  have hz3:=HBW.out.size
  have hz4:=hb4.size
  have hbw4:=HBW.out.trans (hb4.mono HBW.out.size)
  have hlt:=HK23.out.lt
  have hg5:=grown_row w4 (w.heap.size+1) #[.int .i64 kind2,.bool b2,.bool neg2,.string dg2,.int .i64 ex2,.int .u64 u2,.int .i64 wd2,.string s2,.slice A2 n2 c2]
  have hb5:Below w.heap.size w (w4.setRow (w.heap.size+1) #[.int .i64 kind2,.bool b2,.bool neg2,.string dg2,.int .i64 ex2,.int .u64 u2,.int .i64 wd2,.string s2,.slice A2 n2 c2]):=hbw4.grown hg5 hbw4.size (fun q e=>by cases e; omega)
  have hl5:LAt (w4.setRow (w.heap.size+1) #[.int .i64 kind2,.bool b2,.bool neg2,.string dg2,.int .i64 ex2,.int .u64 u2,.int .i64 wd2,.string s2,.slice A2 n2 c2]) (fun q=>(S q∨w.heap.size≤q)∧q<(w4.setRow (w.heap.size+1) #[.int .i64 kind2,.bool b2,.bool neg2,.string dg2,.int .i64 ex2,.int .u64 u2,.int .i64 wd2,.string s2,.slice A2 n2 c2]).heap.size) d st.kids (.slice A2 n2 c2):=by
   refine (hly.keep (fun q hq=>setRow_other _ _ _ _ (fun e=>?_))).mono (fun q hq=>⟨hq.1.imp id (by omega),by rw [setRow_size]; exact hq.2⟩)
   rcases hq.1 with hh | hh
   ·have:=HS.out q hh
    omega
   ·omega
  have HK24:=Lib.hid hk24
  have HB5:=Lib.hid hb5
  have HL5:=Lib.hid hl5
  have HN2:=Lib.hid hn2
  have HO2:=Lib.hid ho2
  clear hn2 ho2 hk24 hg5 hb5 hl5 hbw4 hb4 hly HK13 HK23 HBW HT
  go_wp2_with (refine wpList_store_row rfl 28 (.tmp 2) (.tmp 12) rfl (w.heap.size+1) #[.int .i64 kind2,.bool b2,.bool neg2,.string dg2,.int .i64 ex2,.int .u64 u2,.int .i64 wd2,.string s2,.slice A2 n2 c2] rfl rfl 28 _ HK24.out (by kernel_rfl) rfl (by simp [Value.oneCell']) ?_)
  refine bodyPost_ret (results_cell (T:=28) (u:=.int .i64 0) rfl rfl rfl (blk_row HK24.out #[.int .i64 kind2,.bool b2,.bool neg2,.string dg2,.int .i64 ex2,.int .u64 u2,.int .i64 wd2,.string s2,.slice A2 n2 c2]) Tryz.underlying28 rfl (by kernel_rfl)) rfl ?_
  exact ⟨⟨A2,c2,by simp only [HN2.out,HO2.out],by simp only [HN2.out]; exact HL5.out⟩,HB5.out⟩
 ·have y0:(e0 == 0)=false:=by rw [beq_eq_false_iff_ne]; exact h0
  have hb5:Below w.heap.size w (w3.setRow (w.heap.size+1) #[.int .i64 0,.bool false,.bool false,.string ⟨#[]⟩,.int .i64 0,.int .u64 0,.int .i64 0,.string ⟨#[]⟩,.slice none 0 0]):=HBW.out.grown (grown_row w3 (w.heap.size+1) #[.int .i64 0,.bool false,.bool false,.string ⟨#[]⟩,.int .i64 0,.int .u64 0,.int .i64 0,.string ⟨#[]⟩,.slice none 0 0]) HBW.out.size (fun q e=>by cases e; omega)
  have HB5:=Lib.hid hb5
  have hf2:=HK23.out.frozen
  have hc2:=HK23.out.cell
  clear hb5 HBW HT HK13
  go_wp2_with (refine wpList_store_row rfl 28 (.tmp 2) (.tmp 9) rfl (w.heap.size+1) #[.int .i64 0,.bool false,.bool false,.string ⟨#[]⟩,.int .i64 0,.int .u64 0,.int .i64 0,.string ⟨#[]⟩,.slice none 0 0] rfl rfl 28 _ HK23.out (by kernel_rfl) rfl (by simp [Value.oneCell']) ?_)
  refine bodyPost_ret (results_cell (T:=28) (u:=.int .i64 e0) rfl rfl rfl (blk_row HK23.out #[.int .i64 0,.bool false,.bool false,.string ⟨#[]⟩,.int .i64 0,.int .u64 0,.int .i64 0,.string ⟨#[]⟩,.slice none 0 0]) Tryz.underlying28 rfl (by kernel_rfl)) rfl ?_
  exact ⟨⟨none,0,by first | rfl | (rw [if_neg h0]; rfl),by first | exact LAt.nil _ _ _ _ _ | (rw [if_neg h0]; exact LAt.nil _ _ _ _ _)⟩,HB5.out⟩
set_option maxHeartbeats 4000000 in
set_option maxRecDepth 100000 in
theorem det_Write (t:Tr) (x:Value) (w:World) (S:Nat→Prop) (d:Nat) (aT aF:Addr) (hl:LAt w S d t.kids x) (ho:OwnOk t.own) (hS:∀ q,S q→q<w.heap.size) (hc:t.count≤1000000) (h:GW w aT aF) :
  Calls Tryz.prog 18 #[nodeV t.own x] w fun e w'=>e=.returned (.tuple #[.string (detW t),.int .i64 (checkT 2 flC t)])∧Below w.heap.size w w':=by
 have HC:=fun (W:World) (hW:Below w.heap.size w W)=>det_Settle t x W S d aT aF (hl.keep (fun q hq=>hW.block q (hS q hq))) ho (fun q hq=>Nat.lt_of_lt_of_le (hS q hq) hW.size) hc (h.below hW)
 have HW:=fun (h0:checkT 2 flC t=0) (W:World) (hW:Below w.heap.size w W) (x':Value) (hx:LAt W (fun q=>q<W.heap.size) d (setT cbT narR t).kids x')=>cb_Write (setT cbT narR t) x' W W.heap.size d aT aF hx (set_ownok ho) (Nat.le_refl _) (by rw [set_count (setOk_of hl ho h0)]; omega) (h.below hW)
 have HZ:=fun (h0:checkT 2 flC t=0)=>set_check (it:=cbT) narR_ok t h0
 unfold detW
 unfold detS at HC
 obtain ⟨e0,he0⟩:∃ e0,checkT 2 flC t=e0:=⟨_,rfl⟩
 simp only [he0]at HC HW HZ ⊢
 obtain ⟨hlen,A,c,rfl⟩:=hl.slice
 obtain ⟨n,hn⟩:∃ n,t.kids.length=n:=⟨_,rfl⟩
 obtain ⟨st,hst⟩:∃ st,setT cbT narR t=st:=⟨_,rfl⟩
 simp only [hst]at HC HW HZ ⊢
 obtain ⟨⟨kind,b,neg,dg,ex,u,wd,s⟩,ho'⟩:∃ o,t.own=o:=⟨_,rfl⟩
 rw [ho',hn]at HC ⊢
 unfold nodeV at HC HW ⊢
 simp only []at HC HW ⊢
 have hb1:Below w.heap.size w (w.alloc (.cells #[.int .i64 kind,.bool b,.bool neg,.string dg,.int .i64 ex,.int .u64 u,.int .i64 wd,.string s,.slice A n c] 28)):=(Below.refl _ _).alloc (Nat.le_refl _) _
 have hk1:=Blk.new w #[.int .i64 kind,.bool b,.bool neg,.string dg,.int .i64 ex,.int .u64 u,.int .i64 wd,.string s,.slice A n c] 28
 have HK1:=Lib.hid hk1
 have HB:=Lib.hid hb1
 have HC:=Lib.hid HC
 have HW:=Lib.hid HW
 have HZ:=Lib.hid HZ
 have HS:=Lib.hid hS
 clear hl ho hc h he0 hn hst ho' hb1 hk1 hS hlen
 go_enter Tryz.func18,Tryz.ntmps18
 go_wp2_with (refine wpList_load_row rfl 28 (.tmp 1) rfl w.heap.size rfl 28 _ (0,0) _ HK1.out Tryz.underlying28 rfl (by kernel_rfl) ?_)
 refine (HC.out _ HB.out).mono ?_
 rintro e w3 ⟨⟨A2,c2,rfl,hly⟩,hb3⟩
 obtain ⟨r,hr⟩:∃ r,(if e0=0 then st else Tr.nd zeroO [])=r:=⟨_,rfl⟩
 simp only [hr]at hly ⊢
 obtain ⟨n2,hn2⟩:∃ n2,r.kids.length=n2:=⟨_,rfl⟩
 obtain ⟨⟨kind2,b2,neg2,dg2,ex2,u2,wd2,s2⟩,ho2⟩:∃ o,r.own=o:=⟨_,rfl⟩
 rw [hn2]at hly
 rw [hn2,ho2]
 simp only []
 have hbw:=HB.out.trans (hb3.mono HB.out.size)
 have hbn:=Blk.new w3 #[.int .i64 0,.bool false,.bool false,.string ⟨#[]⟩,.int .i64 0,.int .u64 0,.int .i64 0,.string ⟨#[]⟩,.slice none 0 0] 28
 have hbl:=blk_row hbn #[.int .i64 kind2,.bool b2,.bool neg2,.string dg2,.int .i64 ex2,.int .u64 u2,.int .i64 wd2,.string s2,.slice A2 n2 c2]
 obtain ⟨W5,hW5⟩:∃ W5,(w3.alloc (.cells #[.int .i64 0,.bool false,.bool false,.string ⟨#[]⟩,.int .i64 0,.int .u64 0,.int .i64 0,.string ⟨#[]⟩,.slice none 0 0] 28)).setRow w3.heap.size #[.int .i64 kind2,.bool b2,.bool neg2,.string dg2,.int .i64 ex2,.int .u64 u2,.int .i64 wd2,.string s2,.slice A2 n2 c2]=W5:=⟨_,rfl⟩
 have hb35:Below w3.heap.size w3 W5:=by
  rw [← hW5]
  exact ((Below.refl _ w3).alloc (Nat.le_refl _) _).grown (grown_row _ w3.heap.size #[.int .i64 kind2,.bool b2,.bool neg2,.string dg2,.int .i64 ex2,.int .u64 u2,.int .i64 wd2,.string s2,.slice A2 n2 c2]) (by simp) (fun q e=>by cases e; exact Nat.le_refl _)
 have hl5:LAt W5 (fun q=>q<W5.heap.size) d r.kids (.slice A2 n2 c2):=(hly.keep (fun q hq=>hb35.block q hq.2)).mono (fun q hq=>Nat.lt_of_lt_of_le hq.2 hb35.size)
 have hbw5:=hbw.trans (hb35.mono hbw.size)
 rw [hW5]at hbl
 have HBN:=Lib.hid hbn
 have HBL:=Lib.hid hbl
 have HW5:=Lib.hid hW5
 have HL5:=Lib.hid hl5
 have HBW5:=Lib.hid hbw5
 have HR:=Lib.hid hr
 have HN2:=Lib.hid hn2
 have HO2:=Lib.hid ho2
 clear hbw hb35 hl5 hbw5 hW5 hbn hbl hly hb3 HB HK1 HC hr hn2 ho2
 go_upto_region 2 with (refine wpList_store_row rfl 28 (.tmp 4) (.tmp 9) rfl w3.heap.size #[.int .i64 kind2,.bool b2,.bool neg2,.string dg2,.int .i64 ex2,.int .u64 u2,.int .i64 wd2,.string s2,.slice A2 n2 c2] rfl rfl 28 _ HBN.out (by kernel_rfl) rfl (by simp [Value.oneCell']) ?_)
 rw [HW5.out]
 by_cases h0:e0=0
 ·subst h0
  have hr:=HR.out
  rw [if_pos rfl]at hr
  subst hr
  have hcw:=HW.out rfl W5 HBW5.out (.slice A2 n2 c2) HL5.out
  have hz:=HZ.out rfl
  rw [hz,HO2.out]at hcw
  have hwr:wroteC st 0=bs (cbT st):=rfl
  rw [hwr]at hcw
  obtain ⟨str,hstr⟩:∃ str,bs (cbT st)=str:=⟨_,rfl⟩
  rw [hstr]at hcw
  have HCW:=Lib.hid hcw
  have HSTR:=Lib.hid hstr
  clear hcw hstr hwr hz HZ HW HL5
  go_wp2_with (refine wpList_load_row rfl 28 (.tmp 4) rfl w3.heap.size rfl 28 _ (0,0) _ HBL.out Tryz.underlying28 rfl (by kernel_rfl) ?_)
  refine HCW.out.mono ?_
  rintro e w6 ⟨rfl,hb6⟩
  have hbw6:=HBW5.out.trans (hb6.mono HBW5.out.size)
  clear hb6
  go_wp2_with fail
  go_ret2
  exact ⟨by first | (rw [HSTR.out]; rfl) | simp [HSTR.out],hbw6⟩
 ·have y0:(e0 == 0)=false:=by rw [beq_eq_false_iff_ne]; exact h0
  have hbw6:=HBW5.out
  clear HW HZ HL5
  go_wp2_with fail
  go_ret2
  exact ⟨by first | rfl | simp,hbw6⟩
end Go.Proofs.YtonihophanmaaaaGreatDoor
namespace Go.Proofs.YtonihophanmaaaaGreatDoor
open Go.RowKit Go.Shelf
attribute [local go_sem] jump_normal jump_exit jump_ret jump_panic jump_goto
def readV (r:ReadR):Value:=.tuple #[.int .i64 r.maj,.int .i64 r.info,.int .u64 r.arg,.string ⟨r.rest.toArray⟩,.int .i64 r.err]
theorem bits_info (b:UInt8):bits BinOp.and IntKind.u8 (b.toNat:Int) 31=((b.toNat % 32:Nat):Int):=by
 have:∀ n:Fin 256,bits BinOp.and IntKind.u8 ((n.val:Nat):Int) 31=((n.val % 32:Nat):Int):=by decide +kernel
 exact this ⟨b.toNat,b.toNat_lt⟩
set_option maxRecDepth 100000 in
set_option maxHeartbeats 400000 in
theorem head_Read_nil (w:World) :
  Calls Tryz.prog 143 #[.string ⟨#[]⟩] w fun e w'=>e=.returned (.tuple #[.int .i64 0,.int .i64 0,.int .u64 0,.string ⟨#[]⟩,.int .i64 100])∧Below w.heap.size w w':=by
 go_enter Tryz.func143,Tryz.ntmps143
 go_wp2
 apply wp_scope_forward 0 rfl
 go_wp2
 go_step3
 simp +zetaDelta only [Exit.then,jump_goto]
 go_wp2
 rw [Exit.noGoto_ret]
 refine bodyPost_ret (v:=.tuple #[.int .i64 0,.int .i64 0,.int .u64 0,.string ⟨#[]⟩,.int .i64 100]) (by simp [results,Tryz.results143,go_sem]) rfl ⟨rfl,Below.refl _ _⟩
set_option maxRecDepth 100000 in
set_option maxHeartbeats 400000 in
theorem head_Read_small (s:ByteArray) (h0:0<s.size) (hs:s.size≤9223372036854775807) (maj info:Nat) (hb:bits BinOp.and IntKind.u8 (s[0].toNat:Int) 31=(info:Int)) (hm:(s[0].toNat:Int) / 32=(maj:Int)) (hmaj:maj≤7) (h:info<24) (hne:s.toList.isEmpty=false) (w:World) :
  Calls Tryz.prog 143 #[.string s] w fun e w'=>e=.returned (.tuple #[.int .i64 maj,.int .i64 info,.int .u64 info,.string (s.extract 1 s.size),.int .i64 0])∧Below w.heap.size w w':=by
 go_enter Tryz.func143,Tryz.ntmps143
 go_wp2
 apply wp_scope_forward 0 rfl
 go_wp2
 go_quiet (fail)
 go_wp2
 rw [jump_ret]
 refine bodyPost_ret (v:=.tuple #[.int .i64 maj,.int .i64 info,.int .u64 info,.string (s.extract 1 s.size),.int .i64 0]) (by simp [results,Tryz.results143,go_sem]) rfl ⟨rfl,Go.below_drewN (Below.refl _ _) _⟩
set_option maxRecDepth 100000 in
set_option maxHeartbeats 400000 in
theorem head_Read_open (s:ByteArray) (h0:0<s.size) (hs:s.size≤9223372036854775807) (maj:Nat) (hb:bits BinOp.and IntKind.u8 (s[0].toNat:Int) 31=31) (hm:(s[0].toNat:Int) / 32=(maj:Int)) (hmaj:maj≤7) (hne:s.toList.isEmpty=false) (w:World) :
  Calls Tryz.prog 143 #[.string s] w fun e w'=>e=.returned (.tuple #[.int .i64 maj,.int .i64 31,.int .u64 0,.string (s.extract 1 s.size),.int .i64 0])∧Below w.heap.size w w':=by
 go_enter Tryz.func143,Tryz.ntmps143
 go_wp2
 apply wp_scope_forward 0 rfl
 go_wp2
 go_quiet (fail)
 go_wp2
 rw [jump_ret]
 refine bodyPost_ret (v:=.tuple #[.int .i64 maj,.int .i64 31,.int .u64 0,.string (s.extract 1 s.size),.int .i64 0]) (by simp [results,Tryz.results143,go_sem]) rfl ⟨rfl,Go.below_drewN (Below.refl _ _) _⟩
def argOf (s:ByteArray) (j:Nat):Nat:=beVal ((s.data.toList.drop 1).take j)
theorem argOf_zero (s:ByteArray):argOf s 0=0:=by simp [argOf,beVal]
theorem argOf_succ (s:ByteArray) (j:Nat) (h:j+1<s.size):argOf s (j+1)=argOf s j*256+((s.extract 1 s.size)[j]'(by simp; omega)).toNat:=by
 unfold argOf
 rw [List.take_succ_eq_append_getElem (by simp; omega),beVal_snoc]
 congr 2
 simp [ByteArray.getElem_eq_getElem_data,Nat.add_comm]
theorem argOf_le (s:ByteArray) (j:Nat) (h:j<s.size):argOf s j<256 ^ j:=by
 induction j with
 | zero=>rw [argOf_zero]; decide
 | succ j ih =>
  have h1:=ih (by omega)
  rw [argOf_succ s j (by omega),Nat.pow_succ]
  have h2:((s.extract 1 s.size)[j]'(by simp; omega)).toNat<256:=UInt8.toNat_lt _
  omega
theorem argOf_lt (s:ByteArray) (j:Nat) (h:j<s.size∧j≤7):argOf s j<72057594037927936:=
 Nat.lt_of_lt_of_le (argOf_le s j h.1) (Nat.pow_le_pow_right (by decide) h.2)
theorem bits_shift_byte (a:Nat) (b:UInt8) (ha:a<72057594037927936):bits BinOp.or IntKind.u64 ((a:Int)*256) (b.toNat:Int)=((a*256+b.toNat:Nat):Int):=by
 have hb:=b.toNat_lt
 have e1:((a:Int)*256)=((a*256:Nat):Int):=by omega
 rw [e1,u64_or_nat _ _ (by omega) (by omega)]
 congr 1
 have:=Nat.shiftLeft_add_eq_or_of_lt (b:=b.toNat) (i:=8) (by omega) a
 rw [Nat.shiftLeft_eq]at this
 rw [← this]
theorem argOf_bits (s:ByteArray) (j:Nat) (h:j+1<s.size) (h7:j≤7):bits BinOp.or IntKind.u64 ((argOf s j:Int)*256) (((s.extract 1 s.size)[j]'(by simp; omega)).toNat:Int)=(argOf s (j+1):Int):=by
 rw [bits_shift_byte _ _ (argOf_lt s j ⟨by omega,h7⟩),argOf_succ s j h]
def ReadLong (s:ByteArray) (maj info:Nat) (w:World) (e:Ending) (w':World):Prop:=
 ((info≤27∧2 ^ (info - 24)+1≤s.size∧e=.returned (.tuple #[.int .i64 maj,.int .i64 info,.int .u64 (argOf s (2 ^ (info - 24)):Nat),.string ((s.extract 1 s.size).extract (2 ^ (info - 24)) (s.size - 1)),.int .i64 0])) ∨
 (e=.returned (.tuple #[.int .i64 0,.int .i64 0,.int .u64 0,.string s,.int .i64 100])∧info≤27∧s.size<2 ^ (info - 24)+1) ∨
 (e=.returned (.tuple #[.int .i64 0,.int .i64 0,.int .u64 0,.string s,.int .i64 101])∧27<info))∧Below w.heap.size w w'
set_option maxRecDepth 100000 in
set_option maxHeartbeats 4000000 in
theorem head_Read_long (s:ByteArray) (h0:0<s.size) (hs:s.size≤9223372036854775807) (maj info:Nat) (hb:bits BinOp.and IntKind.u8 (s[0].toNat:Int) 31=(info:Int)) (hm:(s[0].toNat:Int) / 32=(maj:Int)) (hmaj:maj≤7) (h1:24≤info) (h2:info≤30) (hne:s.toList.isEmpty=false) (w:World) :
  Calls Tryz.prog 143 #[.string s] w (ReadLong s maj info w):=by
 have i0:=szA0
 have i1:=szA1
 have i2:=szA2
 have i3:=szA3
 go_enter Tryz.func143,Tryz.ntmps143
 go_wp2
 apply wp_scope_forward 0 rfl
 go_wp2
 go_quiet (fail)
 go_wp2_with (go_at_call 201; refine (head_sizes _).mono ?_; rintro e w1 ⟨rfl,hb1⟩)
 go_loopw [9,10,43] (fun s9 s10 i wr=>∃ k:Nat,k≤4∧24+k≤info∧i=.int .i64 k∧s9=.int .u64 0∧s10=.int .i64 101∧Below w.heap.size w wr) (fun _ _ i _=>4 - (intOf i).toNat)
 case atStart=>exact ⟨0,by omega,by omega,rfl,rfl,rfl,(Go.below_drewN (Below.refl _ _) _).trans hb1⟩
 case round =>
  obtain ⟨k,hk,hki,rfl,rfl,rfl,hbw⟩:=hrel
  by_cases hk4:k<4
  ·obtain rfl|rfl|rfl|rfl:k=0∨k=1∨k=2∨k=3:=by omega
   all_goals simp only [Int.cast_ofNat_Int]
   ·by_cases he:info=24
    ·have hq:((24:Int) != (info:Int))=false:=by rw [bne_eq_false_iff_eq]; omega
     have HE:=Lib.hid he
     have he1:info≤24:=by omega
     have he2:24≤info:=by omega
     clear he
     by_cases hsh:s.size<1+1
     ·go_wp2
      go_step3
      simp +zetaDelta only [Exit.then,Exit.inBlock,jump_goto]
      go_wp2
      rw [Exit.noGoto_ret]
      refine bodyPost_ret (v:=.tuple #[.int .i64 0,.int .i64 0,.int .u64 0,.string s,.int .i64 100]) (by simp [results,Tryz.results143,go_sem]) rfl ⟨.inr (.inl ⟨rfl,by omega,by rw [HE.out]; exact hsh⟩),hbw.alloc hbw.size _⟩
     ·go_wp2
      go_loop [9,57] (fun s9 i=>∃ j:Nat,j≤1∧i=.int .i64 j∧s9=.int .u64 (argOf s j:Nat)) (fun _ i=>1 - (intOf i).toNat)
      case atStart=>exact ⟨0,by omega,rfl,by rw [argOf_zero]; rfl⟩
      case round =>
       obtain ⟨j,hj,rfl,rfl⟩:=hrel
       by_cases hlt:j<1
       ·have hv:=argOf_lt s j (by omega)
        have hbb:(((s.extract 1 s.size)[j]'(by simp; omega)).toNat:Int)<256:=by have:=((s.extract 1 s.size)[j]'(by simp; omega)).toNat_lt; omega
        have HB:=Lib.hid (argOf_bits s j (by omega) (by omega))
        go_wp2
        go_round
        case rel=>exact ⟨j+1,by omega,by go_num,by rw [HB.out]⟩
        case measure=>simp [intOf]; omega
       ·obtain rfl:j=1:=by omega
        go_wp2
        go_quiet (fail)
        go_wp2
        rw [jump_ret]
        refine bodyPost_ret (v:=.tuple #[.int .i64 maj,.int .i64 info,.int .u64 (argOf s 1:Nat),.string ((s.extract 1 s.size).extract 1 (s.size - 1)),.int .i64 0]) (by simp [results,Tryz.results143,go_sem]) rfl ⟨.inl ⟨by omega,by rw [HE.out]; omega,by rw [HE.out] <;> rfl⟩,Go.below_drewN (hbw.alloc hbw.size _) _⟩
    ·have hq:((24:Int) != (info:Int))=true:=by rw [bne_iff_ne]; omega
     go_wp2
     go_roundw
     case rel=>exact ⟨1,by omega,by omega,rfl,rfl,rfl,hbw.alloc hbw.size _⟩
     case measure=>simp [intOf]
   ·by_cases he:info=25
    ·have hq:((25:Int) != (info:Int))=false:=by rw [bne_eq_false_iff_eq]; omega
     have HE:=Lib.hid he
     have he1:info≤25:=by omega
     have he2:25≤info:=by omega
     clear he
     by_cases hsh:s.size<2+1
     ·go_wp2
      go_step3
      simp +zetaDelta only [Exit.then,Exit.inBlock,jump_goto]
      go_wp2
      rw [Exit.noGoto_ret]
      refine bodyPost_ret (v:=.tuple #[.int .i64 0,.int .i64 0,.int .u64 0,.string s,.int .i64 100]) (by simp [results,Tryz.results143,go_sem]) rfl ⟨.inr (.inl ⟨rfl,by omega,by rw [HE.out]; exact hsh⟩),hbw.alloc hbw.size _⟩
     ·go_wp2
      go_loop [9,57] (fun s9 i=>∃ j:Nat,j≤2∧i=.int .i64 j∧s9=.int .u64 (argOf s j:Nat)) (fun _ i=>2 - (intOf i).toNat)
      case atStart=>exact ⟨0,by omega,rfl,by rw [argOf_zero]; rfl⟩
      case round =>
       obtain ⟨j,hj,rfl,rfl⟩:=hrel
       by_cases hlt:j<2
       ·have hv:=argOf_lt s j (by omega)
        have hbb:(((s.extract 1 s.size)[j]'(by simp; omega)).toNat:Int)<256:=by have:=((s.extract 1 s.size)[j]'(by simp; omega)).toNat_lt; omega
        have HB:=Lib.hid (argOf_bits s j (by omega) (by omega))
        go_wp2
        go_round
        case rel=>exact ⟨j+1,by omega,by go_num,by rw [HB.out]⟩
        case measure=>simp [intOf]; omega
       ·obtain rfl:j=2:=by omega
        go_wp2
        go_quiet (fail)
        go_wp2
        rw [jump_ret]
        refine bodyPost_ret (v:=.tuple #[.int .i64 maj,.int .i64 info,.int .u64 (argOf s 2:Nat),.string ((s.extract 1 s.size).extract 2 (s.size - 1)),.int .i64 0]) (by simp [results,Tryz.results143,go_sem]) rfl ⟨.inl ⟨by omega,by rw [HE.out]; omega,by rw [HE.out] <;> rfl⟩,Go.below_drewN (hbw.alloc hbw.size _) _⟩
    ·have hq:((25:Int) != (info:Int))=true:=by rw [bne_iff_ne]; omega
     go_wp2
     go_roundw
     case rel=>exact ⟨2,by omega,by omega,rfl,rfl,rfl,hbw.alloc hbw.size _⟩
     case measure=>simp [intOf]
   ·by_cases he:info=26
    ·have hq:((26:Int) != (info:Int))=false:=by rw [bne_eq_false_iff_eq]; omega
     have HE:=Lib.hid he
     have he1:info≤26:=by omega
     have he2:26≤info:=by omega
     clear he
     by_cases hsh:s.size<4+1
     ·go_wp2
      go_step3
      simp +zetaDelta only [Exit.then,Exit.inBlock,jump_goto]
      go_wp2
      rw [Exit.noGoto_ret]
      refine bodyPost_ret (v:=.tuple #[.int .i64 0,.int .i64 0,.int .u64 0,.string s,.int .i64 100]) (by simp [results,Tryz.results143,go_sem]) rfl ⟨.inr (.inl ⟨rfl,by omega,by rw [HE.out]; exact hsh⟩),hbw.alloc hbw.size _⟩
     ·go_wp2
      go_loop [9,57] (fun s9 i=>∃ j:Nat,j≤4∧i=.int .i64 j∧s9=.int .u64 (argOf s j:Nat)) (fun _ i=>4 - (intOf i).toNat)
      case atStart=>exact ⟨0,by omega,rfl,by rw [argOf_zero]; rfl⟩
      case round =>
       obtain ⟨j,hj,rfl,rfl⟩:=hrel
       by_cases hlt:j<4
       ·have hv:=argOf_lt s j (by omega)
        have hbb:(((s.extract 1 s.size)[j]'(by simp; omega)).toNat:Int)<256:=by have:=((s.extract 1 s.size)[j]'(by simp; omega)).toNat_lt; omega
        have HB:=Lib.hid (argOf_bits s j (by omega) (by omega))
        go_wp2
        go_round
        case rel=>exact ⟨j+1,by omega,by go_num,by rw [HB.out]⟩
        case measure=>simp [intOf]; omega
       ·obtain rfl:j=4:=by omega
        go_wp2
        go_quiet (fail)
        go_wp2
        rw [jump_ret]
        refine bodyPost_ret (v:=.tuple #[.int .i64 maj,.int .i64 info,.int .u64 (argOf s 4:Nat),.string ((s.extract 1 s.size).extract 4 (s.size - 1)),.int .i64 0]) (by simp [results,Tryz.results143,go_sem]) rfl ⟨.inl ⟨by omega,by rw [HE.out]; omega,by rw [HE.out] <;> rfl⟩,Go.below_drewN (hbw.alloc hbw.size _) _⟩
    ·have hq:((26:Int) != (info:Int))=true:=by rw [bne_iff_ne]; omega
     go_wp2
     go_roundw
     case rel=>exact ⟨3,by omega,by omega,rfl,rfl,rfl,hbw.alloc hbw.size _⟩
     case measure=>simp [intOf]
   ·by_cases he:info=27
    ·have hq:((27:Int) != (info:Int))=false:=by rw [bne_eq_false_iff_eq]; omega
     have HE:=Lib.hid he
     have he1:info≤27:=by omega
     have he2:27≤info:=by omega
     clear he
     by_cases hsh:s.size<8+1
     ·go_wp2
      go_step3
      simp +zetaDelta only [Exit.then,Exit.inBlock,jump_goto]
      go_wp2
      rw [Exit.noGoto_ret]
      refine bodyPost_ret (v:=.tuple #[.int .i64 0,.int .i64 0,.int .u64 0,.string s,.int .i64 100]) (by simp [results,Tryz.results143,go_sem]) rfl ⟨.inr (.inl ⟨rfl,by omega,by rw [HE.out]; exact hsh⟩),hbw.alloc hbw.size _⟩
     ·go_wp2
      go_loop [9,57] (fun s9 i=>∃ j:Nat,j≤8∧i=.int .i64 j∧s9=.int .u64 (argOf s j:Nat)) (fun _ i=>8 - (intOf i).toNat)
      case atStart=>exact ⟨0,by omega,rfl,by rw [argOf_zero]; rfl⟩
      case round =>
       obtain ⟨j,hj,rfl,rfl⟩:=hrel
       by_cases hlt:j<8
       ·have hv:=argOf_lt s j (by omega)
        have hbb:(((s.extract 1 s.size)[j]'(by simp; omega)).toNat:Int)<256:=by have:=((s.extract 1 s.size)[j]'(by simp; omega)).toNat_lt; omega
        have HB:=Lib.hid (argOf_bits s j (by omega) (by omega))
        go_wp2
        go_round
        case rel=>exact ⟨j+1,by omega,by go_num,by rw [HB.out]⟩
        case measure=>simp [intOf]; omega
       ·obtain rfl:j=8:=by omega
        go_wp2
        go_quiet (fail)
        go_wp2
        rw [jump_ret]
        refine bodyPost_ret (v:=.tuple #[.int .i64 maj,.int .i64 info,.int .u64 (argOf s 8:Nat),.string ((s.extract 1 s.size).extract 8 (s.size - 1)),.int .i64 0]) (by simp [results,Tryz.results143,go_sem]) rfl ⟨.inl ⟨by omega,by rw [HE.out]; omega,by rw [HE.out] <;> rfl⟩,Go.below_drewN (hbw.alloc hbw.size _) _⟩
    ·have hq:((27:Int) != (info:Int))=true:=by rw [bne_iff_ne]; omega
     go_wp2
     go_roundw
     case rel=>exact ⟨4,by omega,by omega,rfl,rfl,rfl,hbw.alloc hbw.size _⟩
     case measure=>simp [intOf]
  ·obtain rfl:k=4:=by omega
   go_wp2
   go_step3
   go_wp2
   rw [jump_ret]
   refine bodyPost_ret (v:=.tuple #[.int .i64 0,.int .i64 0,.int .u64 0,.string s,.int .i64 101]) (by simp [results,Tryz.results143,go_sem]) rfl ⟨.inr (.inr ⟨rfl,by omega⟩),hbw⟩
theorem str_extract (s:ByteArray) (a b:Nat):s.extract a b=⟨((s.data.toList.drop a).take (b - a)).toArray⟩:=by
 apply ByteArray.ext
 apply Array.toList_inj.1
 rw [Lib.extract_data]
theorem str_from (s:ByteArray) (a:Nat):s.extract a s.size=⟨(s.data.toList.drop a).toArray⟩:=by
 rw [str_extract]
 congr 2
 exact List.take_of_length_le (by simp)
theorem readL_consQ (b:UInt8) (r:List UInt8):readL (b::r) =
  if b.toNat % 32<24 then ⟨b.toNat / 32,b.toNat % 32,b.toNat % 32,r,0⟩
  else if b.toNat % 32=31 then ⟨b.toNat / 32,31,0,r,0⟩
  else if 27<b.toNat % 32 then ⟨0,0,0,b::r,101⟩
  else if r.length<2 ^ (b.toNat % 32 - 24) then ⟨0,0,0,b::r,100⟩
  else ⟨b.toNat / 32,b.toNat % 32,beVal (r.take (2 ^ (b.toNat % 32 - 24))),r.drop (2 ^ (b.toNat % 32 - 24)),0⟩:=rfl
theorem head_Read (s:ByteArray) (hs:s.size≤9223372036854775807) (w:World) :
  Calls Tryz.prog 143 #[.string s] w fun e w'=>e=.returned (readV (readL s.data.toList))∧Below w.heap.size w w':=by
 by_cases h0:0<s.size
 ·obtain ⟨b,r,hl⟩:∃ b r,s.data.toList=b::r:=by
   cases h:s.data.toList with
   | nil =>
    have:s.data.toList.length=s.size:=by simp
    rw [h]at this
    simp at this
    omega
   | cons b r=>exact ⟨b,r,rfl⟩
  have hlen:s.size=r.length+1:=by
   have:s.data.toList.length=s.size:=by simp
   rw [hl]at this
   simpa using this.symm
  have hb0:s[0]=b:=by
   have:s.data.toList[0]? = some b:=by rw [hl]; rfl
   rw [ByteArray.getElem_eq_getElem_data]
   have h2:s.data[0]? = some b:=by simpa using this
   exact (Array.getElem?_eq_some_iff.1 h2).2
  have hb:bits BinOp.and IntKind.u8 (s[0].toNat:Int) 31=((b.toNat % 32:Nat):Int):=by rw [hb0]; exact bits_info b
  have hm:(s[0].toNat:Int) / 32=((b.toNat / 32:Nat):Int):=by rw [hb0]; omega
  have hb256:=b.toNat_lt
  have hmaj:b.toNat / 32≤7:=by omega
  have hne:s.toList.isEmpty=false:=by
   rw [ByteArray.toList_eq,hl]
   rfl
  have e1:s.extract 1 s.size=⟨r.toArray⟩:=by rw [str_from,hl]; rfl
  rw [hl,readL_consQ]
  by_cases c1:b.toNat % 32<24
  ·refine (head_Read_small s h0 hs _ _ hb hm hmaj c1 hne w).mono fun e w' h=>?_
   rw [if_pos c1]
   rw [e1]at h
   exact h
  ·rw [if_neg c1]
   by_cases c2:b.toNat % 32=31
   ·rw [c2]at hb
    refine (head_Read_open s h0 hs _ hb hm hmaj hne w).mono fun e w' h=>?_
    rw [if_pos c2]
    rw [e1]at h
    exact h
   ·rw [if_neg c2]
    refine (head_Read_long s h0 hs _ _ hb hm hmaj (by omega) (by omega) hne w).mono fun e w' h=>?_
    have es:(⟨(b::r).toArray⟩:ByteArray)=s:=by rw [← hl]
    obtain ⟨h | h | h,hw⟩:=h
    ·obtain ⟨h27,hsz,rfl⟩:=h
     rw [if_neg (by omega),if_neg (by omega)]
     refine ⟨?_,hw⟩
     have e2:(s.extract 1 s.size).extract (2 ^ (b.toNat % 32 - 24)) (s.size - 1)=⟨(r.drop (2 ^ (b.toNat % 32 - 24))).toArray⟩:=by
      rw [e1,str_extract]
      congr 2
      exact List.take_of_length_le (by simp; omega)
     rw [e2]
     have e3:argOf s (2 ^ (b.toNat % 32 - 24))=beVal (r.take (2 ^ (b.toNat % 32 - 24))):=by
      unfold argOf
      rw [hl]
      rfl
     rw [e3]
     rfl
    ·obtain ⟨rfl,h27,hsz⟩:=h
     refine ⟨?_,hw⟩
     rw [if_neg (by omega),if_pos (by omega)]
     unfold readV
     rw [es]
     rfl
    ·obtain ⟨rfl,h27⟩:=h
     rw [if_pos h27]
     refine ⟨?_,hw⟩
     unfold readV
     rw [es]
     rfl
 ·have h1:s=⟨#[]⟩:=by
   apply ByteArray.ext
   apply Array.eq_empty_of_size_eq_zero
   have:s.data.size=s.size:=rfl
   omega
  subst h1
  exact head_Read_nil w
end Go.Proofs.YtonihophanmaaaaGreatDoor
