/- The texts CbE, CbF, CbG, CbH, put together. -/
import Derived.Test.YtonihophanmaaaaGreatDoorPa21
import Derived.Test.YtonihophanmaaaaGreatDoorPa20
import Derived.Test.YtonihophanmaaaaGreatDoorPa16
import Derived.Test.YtonihophanmaaaaGreatDoorPa19
namespace Go.Proofs.YtonihophanmaaaaGreatDoor
open Go.RowKit Go.Shelf
set_option maxHeartbeats 4000000 in
set_option maxRecDepth 100000 in
theorem wn_array (B p:Nat) (l tl:List UInt8) (kind:Int) (b neg:Bool) (dg:ByteArray) (ex u wd:Int) (s:ByteArray) (A:Option Addr) (n c:Nat) (W:World) (h:IsW B p (Lib.byteCells l) W) (hB:B≤W.heap.size) (hlen:l.length≤900000000) (hn:n≤1000000000000)
  (hall:∀ W2,WP B p (l++makeL 4 (n)) W W2→Calls Tryz.prog 71 #[.pointer (some ⟨p,0,none⟩),.slice A n c] W2 fun e W'=>e=.returned (.tuple #[])∧WP B p (l++makeL 4 (n)++tl) W2 W') :
  Calls Tryz.prog 165 #[.pointer (some ⟨p,0,none⟩),.agg #[.int .i64 kind,.bool b,.bool neg,.string dg,.int .i64 ex,.int .u64 u,.int .i64 wd,.string s,.slice A n c]] W fun e W'=>e=.returned (.tuple #[])∧WP B p (l++makeL 4 (n)++tl) W W':=by
 have hb1:Below W.heap.size W (W.alloc (.cells #[.int .i64 kind,.bool b,.bool neg,.string dg,.int .i64 ex,.int .u64 u,.int .i64 wd,.string s,.slice A n c] 28)):=(Below.refl _ _).alloc (Nat.le_refl _) _
 have hk1:=Blk.new W #[.int .i64 kind,.bool b,.bool neg,.string dg,.int .i64 ex,.int .u64 u,.int .i64 wd,.string s,.slice A n c] 28
 have z5:=hk1.cell 5
 have z8:=hk1.cell 8
 have hw1:=WP.step h hb1 hB
 have hpb:p<W.heap.size:=by
  rcases h with ⟨_,_,hb,_⟩ | ⟨_,_,hb,_⟩ <;> exact (Array.getElem?_eq_some_iff.1 hb).1
 have HHD:=Lib.hid (w_head B p l 4 (n) (by decide) (by omega) _ hw1.is (Nat.le_trans hB hb1.size) (by omega))
 obtain ⟨mk,hmk⟩:∃ mk,makeL 4 (n)=mk:=⟨_,rfl⟩
 rw [hmk]at HHD ⊢
 simp only [hmk]at hall
 have HA:=Lib.hid hall
 have HW1:=Lib.hid hw1
 have HK1:=Lib.hid hk1
 have y2:IntKind.u64.wrap (n:Int)=(n:Int):=by rw [IntKind.wrap_u64]; omega
 clear h hmk hw1 hk1 hall
 go_enter Tryz.func165,Tryz.ntmps165
 go_wp2_with fail
 refine HHD.out.mono ?_
 rintro e W2 ⟨rfl,h2⟩
 have hw2:=HW1.out.trans h2
 have hk2:=h2.blk HK1.out (by omega) (by decide)
 have q8:=hk2.cell 8
 clear h2 HHD HW1 HK1 hb1 z5 z8
 go_wp2_with fail
 refine (HA.out W2 hw2).mono ?_
 rintro e W3 ⟨rfl,h3⟩
 have hw3:=hw2.trans h3
 clear h3 hw2 hk2 q8 HA
 go_wp2_with fail
 go_end0
 exact ⟨rfl,hw3⟩
set_option maxHeartbeats 4000000 in
set_option maxRecDepth 100000 in
theorem wn_pairs (B p:Nat) (l tl:List UInt8) (kind:Int) (b neg:Bool) (dg:ByteArray) (ex u wd:Int) (s:ByteArray) (A:Option Addr) (n c:Nat) (W:World) (h:IsW B p (Lib.byteCells l) W) (hB:B≤W.heap.size) (hlen:l.length≤900000000) (hn:n≤1000000000000)
  (hall:∀ W2,WP B p (l++makeL 5 (n / 2)) W W2→Calls Tryz.prog 71 #[.pointer (some ⟨p,0,none⟩),.slice A n c] W2 fun e W'=>e=.returned (.tuple #[])∧WP B p (l++makeL 5 (n / 2)++tl) W2 W') :
  Calls Tryz.prog 166 #[.pointer (some ⟨p,0,none⟩),.agg #[.int .i64 kind,.bool b,.bool neg,.string dg,.int .i64 ex,.int .u64 u,.int .i64 wd,.string s,.slice A n c]] W fun e W'=>e=.returned (.tuple #[])∧WP B p (l++makeL 5 (n / 2)++tl) W W':=by
 have hb1:Below W.heap.size W (W.alloc (.cells #[.int .i64 kind,.bool b,.bool neg,.string dg,.int .i64 ex,.int .u64 u,.int .i64 wd,.string s,.slice A n c] 28)):=(Below.refl _ _).alloc (Nat.le_refl _) _
 have hk1:=Blk.new W #[.int .i64 kind,.bool b,.bool neg,.string dg,.int .i64 ex,.int .u64 u,.int .i64 wd,.string s,.slice A n c] 28
 have z5:=hk1.cell 5
 have z8:=hk1.cell 8
 have hw1:=WP.step h hb1 hB
 have hpb:p<W.heap.size:=by
  rcases h with ⟨_,_,hb,_⟩ | ⟨_,_,hb,_⟩ <;> exact (Array.getElem?_eq_some_iff.1 hb).1
 have HHD:=Lib.hid (w_head B p l 5 (n / 2) (by decide) (by omega) _ hw1.is (Nat.le_trans hB hb1.size) (by omega))
 obtain ⟨mk,hmk⟩:∃ mk,makeL 5 (n / 2)=mk:=⟨_,rfl⟩
 rw [hmk]at HHD ⊢
 simp only [hmk]at hall
 have HA:=Lib.hid hall
 have HW1:=Lib.hid hw1
 have HK1:=Lib.hid hk1
 have y2:IntKind.u64.wrap ((n / 2:Nat):Int)=((n / 2:Nat):Int):=by rw [IntKind.wrap_u64]; omega
 have y3:Int.tdiv (n:Int) 2=((n / 2:Nat):Int):=by rw [Int.tdiv_eq_ediv_of_nonneg (by omega)]; omega
 clear h hmk hw1 hk1 hall
 go_enter Tryz.func166,Tryz.ntmps166
 go_wp2_with fail
 refine HHD.out.mono ?_
 rintro e W2 ⟨rfl,h2⟩
 have hw2:=HW1.out.trans h2
 have hk2:=h2.blk HK1.out (by omega) (by decide)
 have q8:=hk2.cell 8
 clear h2 HHD HW1 HK1 hb1 z5 z8
 go_wp2_with fail
 refine (HA.out W2 hw2).mono ?_
 rintro e W3 ⟨rfl,h3⟩
 have hw3:=hw2.trans h3
 clear h3 hw2 hk2 q8 HA
 go_wp2_with fail
 go_end0
 exact ⟨rfl,hw3⟩
set_option maxHeartbeats 4000000 in
set_option maxRecDepth 100000 in
theorem wn_tag (B p:Nat) (l tl:List UInt8) (kind:Int) (b neg:Bool) (dg:ByteArray) (ex u wd:Int) (s:ByteArray) (A:Option Addr) (n c:Nat) (W:World) (h:IsW B p (Lib.byteCells l) W) (hB:B≤W.heap.size) (hlen:l.length≤900000000) (un:Nat) (hu:u=un) (hun:un<18446744073709551616)
  (hall:∀ W2,WP B p (l++makeL 6 (un)) W W2→Calls Tryz.prog 71 #[.pointer (some ⟨p,0,none⟩),.slice A n c] W2 fun e W'=>e=.returned (.tuple #[])∧WP B p (l++makeL 6 (un)++tl) W2 W') :
  Calls Tryz.prog 167 #[.pointer (some ⟨p,0,none⟩),.agg #[.int .i64 kind,.bool b,.bool neg,.string dg,.int .i64 ex,.int .u64 u,.int .i64 wd,.string s,.slice A n c]] W fun e W'=>e=.returned (.tuple #[])∧WP B p (l++makeL 6 (un)++tl) W W':=by
 have hb1:Below W.heap.size W (W.alloc (.cells #[.int .i64 kind,.bool b,.bool neg,.string dg,.int .i64 ex,.int .u64 u,.int .i64 wd,.string s,.slice A n c] 28)):=(Below.refl _ _).alloc (Nat.le_refl _) _
 have hk1:=Blk.new W #[.int .i64 kind,.bool b,.bool neg,.string dg,.int .i64 ex,.int .u64 u,.int .i64 wd,.string s,.slice A n c] 28
 have z5:=hk1.cell 5
 have z8:=hk1.cell 8
 have hw1:=WP.step h hb1 hB
 have hpb:p<W.heap.size:=by
  rcases h with ⟨_,_,hb,_⟩ | ⟨_,_,hb,_⟩ <;> exact (Array.getElem?_eq_some_iff.1 hb).1
 have HHD:=Lib.hid (w_head B p l 6 (un) (by decide) (by omega) _ hw1.is (Nat.le_trans hB hb1.size) (by omega))
 obtain ⟨mk,hmk⟩:∃ mk,makeL 6 (un)=mk:=⟨_,rfl⟩
 rw [hmk]at HHD ⊢
 simp only [hmk]at hall
 have HA:=Lib.hid hall
 have HW1:=Lib.hid hw1
 have HK1:=Lib.hid hk1
 subst hu
 clear h hmk hw1 hk1 hall
 go_enter Tryz.func167,Tryz.ntmps167
 go_wp2_with fail
 refine HHD.out.mono ?_
 rintro e W2 ⟨rfl,h2⟩
 have hw2:=HW1.out.trans h2
 have hk2:=h2.blk HK1.out (by omega) (by decide)
 have q8:=hk2.cell 8
 clear h2 HHD HW1 HK1 hb1 z5 z8
 go_wp2_with fail
 refine (HA.out W2 hw2).mono ?_
 rintro e W3 ⟨rfl,h3⟩
 have hw3:=hw2.trans h3
 clear h3 hw2 hk2 q8 HA
 go_wp2_with fail
 go_end0
 exact ⟨rfl,hw3⟩
def AllC (l:List Tr):Prop:=∀ (B0 B p d:Nat) (bs:List UInt8) (A:Option Addr) (n c:Nat) (w0 W:World) (aT aF:Addr),ListAt w0 B0 d l (.slice A n c)→B0≤w0.heap.size→w0.heap.size≤B→Below w0.heap.size w0 W→IsW B p (Lib.byteCells bs) W→GW w0 aT aF→okCL l→bs.length+(cbL l).length≤900000000→l.length=n→n≤1000000000000 →
  Calls Tryz.prog 71 #[.pointer (some ⟨p,0,none⟩),.slice A n c] W fun e W'=>e=.returned (.tuple #[])∧WP B p (bs++cbL l) W W'
theorem okC_node {t:Tr} (h:okC t):NodeC t.own t.kids∧okCL t.kids:=by
 cases t
 rw [okC]at h
 exact h
theorem cb_leaf {t:Tr} (h:t.kids.length=0):cbT t=itemL (hdO t.own 0)++txO t.own:=by
 have:t.kids=[]:=List.length_eq_zero_iff.1 h
 rw [cbT_eq,this]
 show itemL (hdO t.own 0)++(txO t.own++[])=_
 rw [List.append_nil]
theorem txO_nil {o:Own} (h5:o.kind≠5) (h6:o.kind≠6):txO o=[]:=by
 unfold txO
 rw [if_neg (by omega)]
set_option maxHeartbeats 4000000 in
set_option maxRecDepth 100000 in
theorem w_node (t:Tr) (hok:okC t) (hkids:AllC t.kids) (B0 B p d:Nat) (bs:List UInt8) (A:Option Addr) (n c:Nat) (w0 W:World) (aT aF:Addr) (hl:ListAt w0 B0 d t.kids (.slice A n c)) (hB0:B0≤w0.heap.size) (hB:w0.heap.size≤B) (hb:Below w0.heap.size w0 W) (hI:IsW B p (Lib.byteCells bs) W) (hG:GW w0 aT aF) (hlen:bs.length+(cbT t).length≤900000000) (hn:t.kids.length=n) (hn2:n≤1000000000000) :
  Calls Tryz.prog (wrF t.own.kind) #[.pointer (some ⟨p,0,none⟩),nodeV t.own (.slice A n c)] W fun e W'=>e=.returned (.tuple #[])∧WP B p (bs++cbT t) W W':=by
 obtain ⟨hnode,hkok⟩:=okC_node hok
 have ho:=hnode.ok
 have hBW:=(isW_size hI).1
 have hle:bs.length≤900000000:=by omega
 have hu:=ho.u
 have hlist:∀ {maj arg:Nat} (_:cbT t=makeL maj arg++cbL t.kids) (W2:World),WP B p (bs++makeL maj arg) W W2→Calls Tryz.prog 71 #[.pointer (some ⟨p,0,none⟩),.slice A n c] W2 fun e W'=>e=.returned (.tuple #[])∧WP B p (bs++makeL maj arg++cbL t.kids) W2 W':=by
  intro maj arg he W2 h2
  rw [he,List.length_append]at hlen
  exact hkids B0 B p d (bs++makeL maj arg) A n c w0 W2 aT aF hl hB0 hB (hb.trans (h2.below.mono hB)) h2.is hG hkok (by rw [List.length_append]; omega) hn hn2
 rcases hnode.shape with ⟨h,h0⟩ | ⟨h,h0⟩ | ⟨neg,m,h,hm,h0⟩ | ⟨h,hw,h0⟩ | ⟨h,hs,_,h0⟩ | ⟨h,hs,h0⟩ | ⟨h⟩ | ⟨h,_,_,_⟩ | ⟨h,_⟩ | ⟨h,_,h0⟩
 ·have e:t.own.kind=1:=by rw [h]
  have hc:cbT t=[246]:=by
   rw [cb_leaf h0,hdO_1 _ e,txO_nil (by omega) (by omega)]
   decide
  rw [hc]
  have hf:wrF t.own.kind=159:=by rw [e]; rfl
  rw [hf]
  exact wn_null B p bs _ _ _ _ _ _ _ _ _ W hI hBW hle
 ·have e:t.own.kind=2:=by rw [h]
  have hc:cbT t=[if t.own.b=true then 245 else 244]:=by
   rw [cb_leaf h0,hdO_2 _ e,txO_nil (by omega) (by omega)]
   cases t.own.b <;> decide
  rw [hc]
  have hf:wrF t.own.kind=160:=by rw [e]; rfl
  rw [hf]
  exact wn_truth B p bs _ _ _ _ _ _ _ _ _ W hI hBW hle
 ·have e:t.own.kind=3:=by rw [h]
  obtain ⟨hm1,hm2⟩:=toInt_lt hm
  have hc:cbT t=if neg=true then makeL 1 (m - 1) else makeL 0 m:=by
   rw [cb_leaf h0,hdO_3 _ e,txO_nil (by omega) (by omega),hm,List.append_nil]
   cases neg with
   | true =>
    rw [if_pos rfl,makeL_item 1 (m - 1) (by omega)]
   | false =>
    rw [if_neg (by decide),makeL_item 0 m hm1]
  rw [hc]
  have hf:wrF t.own.kind=161:=by rw [e]; rfl
  rw [hf]
  exact wn_num B p bs _ _ _ _ _ _ _ _ _ W hI hBW hle ho.dg neg m hm (hG.below hb)
 ·have e:t.own.kind=4:=by rw [h]
  have hf:wrF t.own.kind=162:=by rw [e]; rfl
  rw [hf]
  obtain ⟨un,hun⟩:∃ un:Nat,t.own.u=un:=⟨t.own.u.toNat,by omega⟩
  have hunn:un<18446744073709551616:=by omega
  have hc:cbT t=itemL (7,infoW t.own.wd,un):=by
   rw [cb_leaf h0,hdO_4 _ e,txO_nil (by omega) (by omega),List.append_nil,hun]
   rfl
  rw [hc]
  unfold nodeV
  rw [hun]
  rcases hw with ⟨hw,_⟩ | ⟨hw,_⟩ | hw
  ·rw [hw]
   exact wn_float16 B p bs _ _ _ _ _ un _ _ W hI hBW hle hunn
  ·rw [hw]
   exact wn_float32 B p bs _ _ _ _ _ un _ _ W hI hBW hle hunn
  ·rw [hw]
   exact wn_float64 B p bs _ _ _ _ _ un _ _ W hI hBW hle hunn
 ·have e:t.own.kind=5:=by rw [h]
  have hc:cbT t=makeL 3 t.own.s.size++t.own.s.data.toList:=by
   rw [cb_leaf h0,hdO_5 _ e,makeL_item 3 _ (by omega)]
   unfold txO
   rw [if_pos (.inl e)]
  rw [hc]
  have hf:wrF t.own.kind=163:=by rw [e]; rfl
  rw [hf]
  exact wn_text B p bs _ _ _ _ _ _ _ _ _ W hI hBW hle (by omega)
 ·have e:t.own.kind=6:=by rw [h]
  have hc:cbT t=makeL 2 t.own.s.size++t.own.s.data.toList:=by
   rw [cb_leaf h0,hdO_6 _ e,makeL_item 2 _ (by omega)]
   unfold txO
   rw [if_pos (.inr e)]
  rw [hc]
  have hf:wrF t.own.kind=164:=by rw [e]; rfl
  rw [hf]
  exact wn_raw B p bs _ _ _ _ _ _ _ _ _ W hI hBW hle (by omega)
 ·have e:t.own.kind=7:=by rw [h]
  have hc:cbT t=makeL 4 n++cbL t.kids:=by
   rw [cbT_eq,hdO_7 _ e,makeL_item 4 _ (by omega),hn,txO_nil (by omega) (by omega)]
   rfl
  rw [hc,← List.append_assoc]
  have hf:wrF t.own.kind=165:=by rw [e]; rfl
  rw [hf]
  exact wn_array B p bs _ _ _ _ _ _ _ _ _ A n c W hI hBW hle hn2 (hlist hc)
 ·have e:t.own.kind=8:=by rw [h]
  have hc:cbT t=makeL 5 (n / 2)++cbL t.kids:=by
   rw [cbT_eq,hdO_8 _ e,makeL_item 5 _ (by omega),hn,txO_nil (by omega) (by omega)]
   rfl
  rw [hc,← List.append_assoc]
  have hf:wrF t.own.kind=166:=by rw [e]; rfl
  rw [hf]
  exact wn_pairs B p bs _ _ _ _ _ _ _ _ _ A n c W hI hBW hle hn2 (hlist hc)
 ·have e:t.own.kind=9:=by rw [h]
  obtain ⟨un,hun⟩:∃ un:Nat,t.own.u=un:=⟨t.own.u.toNat,by omega⟩
  have hunn:un<18446744073709551616:=by omega
  have hc:cbT t=makeL 6 un++cbL t.kids:=by
   rw [cbT_eq,hdO_9 _ e,makeL_item 6 _ hunn,hun,txO_nil (by omega) (by omega)]
   rfl
  rw [hc,← List.append_assoc]
  have hf:wrF t.own.kind=167:=by rw [e]; rfl
  rw [hf]
  exact wn_tag B p bs _ _ _ _ _ _ _ _ _ A n c W hI hBW hle un hun hunn (hlist hc)
 ·have e:t.own.kind=10:=by rw [h]
  obtain ⟨un,hun⟩:∃ un:Nat,t.own.u=un:=⟨t.own.u.toNat,by omega⟩
  have hunn:un<18446744073709551616:=by omega
  have hc:cbT t=makeL 7 un:=by
   rw [cb_leaf h0,hdO_10 _ e,makeL_item 7 _ hunn,hun,txO_nil (by omega) (by omega),List.append_nil]
   rfl
  rw [hc]
  have hf:wrF t.own.kind=168:=by rw [e]; rfl
  rw [hf]
  exact wn_simple B p bs _ _ _ _ _ _ _ _ _ W hI hBW hle un hun hunn
end Go.Proofs.YtonihophanmaaaaGreatDoor
namespace Go.Proofs.YtonihophanmaaaaGreatDoor
open Go.RowKit Go.Shelf
theorem okCL_mem:∀ {l:List Tr} {t:Tr},okCL l→t∈l→okC t
 | [],_,_,h=>absurd h (by simp)
 | s::l,t,h,hm=>by
  rw [okCL]at h
  rcases List.mem_cons.1 hm with rfl | hm
  ·exact h.1
  ·exact okCL_mem h.2 hm
theorem cbL_pre {a l:List Tr} {t:Tr} (h:a++[t] <+: l):(cbL a).length+(cbT t).length≤(cbL l).length:=by
 obtain ⟨s,rfl⟩:=h
 rw [cbL_append,cbL_append,List.length_append,List.length_append]
 show (cbL a).length+(cbT t).length≤(cbL a).length+(cbT t++[]).length+_
 rw [List.append_nil]
 omega
theorem cbT_pos (t:Tr):1≤(cbT t).length:=by
 rw [cbT_eq]
 unfold itemL
 rw [List.cons_append,List.length_cons]
 omega
theorem cbL_len:∀ l:List Tr,l.length≤(cbL l).length
 | []=>Nat.zero_le _
 | t::l=>by
  have h1:=cbL_len l
  have h2:=cbT_pos t
  show l.length+1≤(cbT t++cbL l).length
  rw [List.length_append]
  omega
theorem kids_len (t:Tr):t.kids.length≤(cbT t).length:=by
 have h1:=cbL_len t.kids
 rw [cbT_eq,List.length_append,List.length_append]
 omega
theorem wp_grown {B p:Nat} {bs:List UInt8} {W A A':World} {row:Option Nat} (hB:B≤W.heap.size) (h:WP B p bs W A) (hg:A.grownBy A' row) (hr:∀ r,row=some r→W.heap.size≤r∧∃ o:Obj,A.heap[r]? = some o∧o.isCells=false):WP B p bs W A':=
 ⟨isW_grown h.is hg (fun r e=>.inr (hr r e).2),h.below.grown hg (Nat.le_trans hB h.below.size) (fun k e=>Nat.le_trans hB (hr k e).1),
  fun k o hk h1 h2=>(hg.block k (Nat.lt_of_lt_of_le (Array.getElem?_eq_some_iff.1 hk).1 h.below.size) (fun e=>by have:=(hr k e.symm).1; have:=(Array.getElem?_eq_some_iff.1 hk).1; omega)).trans (h.others k o hk h1 h2)⟩
section
attribute [local go_sem] Oper.semAt_some wide_fn wide_depth
set_option maxHeartbeats 8000000 in
set_option maxRecDepth 100000 in
theorem w_all (l:List Tr) (ih:∀ t∈l,AllC t.kids):AllC l:=by
 intro B0 B p d bs A n c w0 W aT aF hl hB0 hB hb hI hG hok hlen hn hn2
 have hpb:=(isW_size hI).2
 have hBW:=(isW_size hI).1
 obtain ⟨Wm,hWm⟩:∃ Wm,W.alloc (.map (formsE p) 10)=Wm:=⟨_,rfl⟩
 obtain ⟨Wn,hWn⟩:∃ Wn,(Wm.alloc (.cells #[.map (some W.heap.size)] 159)).alloc (.cells #[.slice A n c] 26)=Wn:=⟨_,rfl⟩
 have hsm:Wm.heap.size=W.heap.size+1:=by rw [← hWm]; simp
 have hsn:Wn.heap.size=W.heap.size+3:=by rw [← hWn]; simp [hsm]
 have hM0:Wm.heap[W.heap.size]? = some (.map (formsE p) 10):=by rw [← hWm]; exact heap_alloc_new W _
 have hbm:Below W.heap.size W Wm:=by rw [← hWm]; exact (Below.refl _ _).alloc (Nat.le_refl _) _
 have hmn:Below Wm.heap.size Wm Wn:=by rw [← hWn]; exact ((Below.refl _ _).alloc (Nat.le_refl _) _).alloc (by simp) _
 have hbn:Below W.heap.size W Wn:=hbm.trans (hmn.mono hbm.size)
 have hMn:Wn.heap[W.heap.size]? = some (.map (formsE p) 10):=(hmn.block _ (by omega)).trans hM0
 obtain ⟨_,hkx,hky⟩:=box2 Wm #[.map (some W.heap.size)] #[.slice A n c] 159 26
 rw [hWn,hsm]at hkx hky
 have hstep:=WP.step hI hbn hBW
 have HN:=Lib.hid (w_nodes (.pointer (some ⟨p,0,none⟩)) A n c (Wm.alloc (.cells #[.map (some W.heap.size)] 159)))
 rw [hWn]at HN
 have HF:=Lib.hid (w_forms p W)
 simp only [hWm]at HF
 have HWN:=Lib.hid hWn
 have HKX:=Lib.hid hkx
 have HKY:=Lib.hid hky
 have HMN:=Lib.hid hMn
 have HST:=Lib.hid hstep
 have HL:=Lib.hid hl
 have HB:=Lib.hid (hb.trans (hbn.mono (Nat.le_trans hB hBW)))
 have HG:=Lib.hid hG
 have HOK:=Lib.hid hok
 have HIH:=Lib.hid ih
 have HBN:=Lib.hid hbn
 clear hWm hWn hkx hky hMn hstep hl hb hG hok ih hM0 hbm hmn hbn hI
 refine calls_of_marks Tryz.func71 rfl ?_
 simp only [Tryz.ntmps71,List.size_toArray,List.length_cons,List.length_nil,Nat.reduceAdd,Nat.reduceSub,Array.replicate_succ,Array.replicate_zero,List.push_toArray,List.append_toArray,List.nil_append,List.cons_append]
 go_wp2_with fail
 go_step3
 go_wp2_with fail
 refine HF.out.mono ?_
 rintro e W1 ⟨rfl,rfl⟩
 clear HF
 go_wp2_with fail
 go_step3
 go_wp2_with fail
 refine HN.out.mono ?_
 rintro e W4 ⟨rfl,rfl⟩
 simp only [World.size_alloc,hsm]
 clear HN HWN
 go_wp2_with fail
 have HSN:=Lib.hid hsn
 refine wp_rangeFuncW (gf:=169) (lb:=#[.pointer (some ⟨W.heap.size+1+1,0,none⟩)]) rfl (enters_of Tryz.func169 (by kernel_rfl) rfl)
  (wnodes_seq (W.heap.size+1+1) p B B0 d l A n c Wn (by omega) (by omega) HKY.out (HL.out.below HB.out hB0) hn)
  ?hMv ?hA0 ?hKt ?hKb ?hps
  (fun pre V=>WP B p (bs++cbL (pre.map Prod.fst)) Wn V)
  (fun _ _ _=>False)
  ?hI ?hIx ?hIM ?hIxM ?h0 ?hCt
  (fun tm pre y a' V=>∃ Bx,Blk V Bx (cellsV y.1.own y.2) 28∧p≠Bx∧(pre++[y]).map Prod.fst <+: l∧GoodN Wn B0 y∧a'={ tmps:=(tm.setIfInBounds 13 (nodeV y.1.own y.2)).setIfInBounds 5 (.pointer (some ⟨Bx,0,none⟩)),defers:=[] })
  ?hAx ?assign ?body ?hS ?hSp ?done ?stop
 case hMv=>exact fun A B k o hM hk ho _=>(hM.block k (Array.getElem?_eq_some_iff.1 ho).1).trans ho
 case hA0=>exact fun o o'=>((Below.refl _ Wn).alloc (Nat.le_refl _) o).alloc (by simp) o'
 case hKt=>exact fun h1 h2=>h1.trans h2
 case hKb=>exact fun V l o o' hl h ho=>KpW.putObj V l o o' (by omega) h ho
 case hps=>exact fun _=>rfl
 case hI=>exact fun s A A' row h hg hr=>wp_grown (by omega) h hg hr
 case hIx=>exact fun _ _ _ _ _ h _ _=>h.elim
 case hIM=>exact fun s A A' h hM=>wp_grown (by omega) h (below_none hM) (fun r e=>by cases e)
 case hIxM=>exact fun _ _ _ _ h _=>h.elim
 case h0 =>
  show WP B p (bs++[]) Wn Wn
  rw [List.append_nil]
  exact ⟨HST.out.is,Below.refl _ _,Lib.OthersKept.refl _ _ _⟩
 case hCt=>exact fun _ _ _ _=>trivial
 case hAx =>
  rintro pre y a' _ A B' row ⟨Bx,h1,h2,h3⟩ hg hr
  exact ⟨Bx,blk_own _ _ (fun _:Unit=>_) () A B' row h1 hg (fun r e=>(hr r e).2),h2,h3⟩
 case assign =>
  rintro l1 pre ⟨ty,vy⟩ V K hI hT hK
  have hgood:GoodN Wn B0 (ty,vy):=hT.2 (ty,vy) (by simp)
  have hpre:=hT.1
  have hpv:=(isW_size hI.is).2
  have hzv:=hI.below.size
  obtain ⟨_,dg',hgl⟩:=id hgood
  have hgl:ListAt Wn B0 dg' ty.kids vy:=hgl
  obtain ⟨_,A2,c2,rfl⟩:=hgl.slice
  obtain ⟨n2,hn2'⟩:∃ n2,ty.kids.length=n2:=⟨_,rfl⟩
  have HN2:=Lib.hid hn2'
  have HKK:=Lib.hid hK
  have HGD:=Lib.hid hgood
  have HPR:=Lib.hid hpre
  have HI:=Lib.hid hI
  obtain ⟨⟨kind2,b2,neg2,dg2,ex2,u2,wd2,s2⟩,ho2⟩:∃ o,ty.own=o:=⟨_,rfl⟩
  have HO2:=Lib.hid ho2
  unfold encN
  simp only [ho2,hn2']
  unfold nodeV
  simp only []
  clear hK hT hgood hpre ho2 hgl hn2' hI
  gi_wp2
  have hbv:Below V.heap.size V (V.alloc (.cells #[.int .i64 kind2,.bool b2,.bool neg2,.string dg2,.int .i64 ex2,.int .u64 u2,.int .i64 wd2,.string s2,.slice A2 n2 c2] 28)):=(Below.refl _ _).alloc (Nat.le_refl _) _
  refine HKK.out _ _ ((KeepsOthers.alloc _ _).from _) (KpW.below hbv (by have:=HSN.out; omega)) (wp_grown (by have:=HSN.out; omega) HI.out (below_none hbv) (fun r e=>by cases e)) ⟨V.heap.size,?_,by omega,HPR.out,HGD.out,?_⟩
  ·simp only [HO2.out,HN2.out]
   exact Blk.new _ _ _
  ·simp only [HO2.out,HN2.out]
   rfl
 case body =>
  rintro l1 pre ⟨ty,vy⟩ a' V hl hlo hI ⟨Bx,hbx,hpx,hpre,hgood,rfl⟩
  obtain ⟨_,dg',hgl⟩:=hgood.back HB.out hB0
  have hgl:ListAt w0 B0 dg' ty.kids vy:=hgl
  obtain ⟨_,A2,c2,rfl⟩:=hgl.slice
  obtain ⟨n2,hn2'⟩:∃ n2,ty.kids.length=n2:=⟨_,rfl⟩
  have hmem:ty∈l:=hpre.subset (by simp)
  have hokt:=okCL_mem HOK.out hmem
  have hpre':pre.map Prod.fst++[ty] <+: l:=by
   rw [List.map_append]at hpre
   exact hpre
  have hlp:=cbL_pre hpre'
  have hzv:=hI.below.size
  have hk1:=okC_node hokt
  have hlen2:(cbT ty).length+(bs++cbL (pre.map Prod.fst)).length≤900000000:=by
   rw [List.length_append]
   omega
  have hkl:=kids_len ty
  have hn3:n2≤1000000000000:=by
   rw [List.length_append]at hlen2
   omega
  have HND:=w_node ty hokt (HIH.out ty hmem) B0 B p dg' (bs++cbL (pre.map Prod.fst)) A2 n2 c2 w0 V aT aF (by rw [← hn2']; exact hgl) hB0 hB (HB.out.trans (hI.below.mono hB)) hI.is HG.out (by omega) hn2' hn3
  have hkk:1≤ty.own.kind∧ty.own.kind≤10:=by
   rcases hk1.1.shape with ⟨h,_⟩ | ⟨h,_⟩ | ⟨_,_,h,_,_⟩ | ⟨h,_,_⟩ | ⟨h,_,_,_⟩ | ⟨h,_,_⟩ | ⟨h⟩ | ⟨h,_,_,_⟩ | ⟨h,_⟩ | ⟨h,_,_⟩ <;> rw [h] <;> simp
  have hMV:V.heap[W.heap.size]? = some (.map (formsE p) 10):=hI.others _ _ HMN.out (fun e=>by injection e with e; omega) (fun c fz e=>by cases e)
  have hbox:=hI.blk HKX.out (by omega) (by decide)
  have hlk:=forms_look p V W.heap.size hMV ty.own.kind hkk.1 hkk.2
  have heg:=wrF_enters ty.own.kind hkk.1 hkk.2
  have HI:=Lib.hid hI
  have hfin:bs++cbL (pre.map Prod.fst)++cbT ty=bs++cbL ((pre++[(ty,Value.slice A2 n2 c2)]).map Prod.fst):=by
   rw [List.map_append,cbL_append,List.append_assoc]
   show _=bs++(cbL (pre.map Prod.fst)++(cbT ty++[]))
   rw [List.append_nil]
  have HFIN:=Lib.hid hfin
  obtain ⟨rs,hrs⟩:∃ rs,bs++cbL (pre.map Prod.fst)++cbT ty=rs:=⟨_,rfl⟩
  rw [hrs]at HFIN HND
  clear hrs hfin
  simp only [hn2']at hbx
  obtain ⟨⟨kind2,b2,neg2,dg2,ex2,u2,wd2,s2⟩,ho2⟩:∃ o,ty.own=o:=⟨_,rfl⟩
  simp only [ho2]at HND hlk heg hbx hkk
  simp only [ho2,hn2']
  unfold nodeV at HND ⊢
  unfold cellsV at hbx
  simp only []at HND hbx hlk heg hkk ⊢
  have k0:=hbx.cell 0
  have k1:=hbx.cell 1
  have k2:=hbx.cell 2
  have k3:=hbx.cell 3
  have k4:=hbx.cell 4
  have k5:=hbx.cell 5
  have k6:=hbx.cell 6
  have k7:=hbx.cell 7
  have k8:=hbx.cell 8
  have m0:=hbox.cell 0
  have HND:=Lib.hid HND
  clear hI hgl hokt hmem hpre hpre' hk1 hMV hbox hbx ho2 hn2' hlp hlen2 hkl hgood hkk
  simp only [List.setIfInBounds_toArray,List.set_cons_zero,List.set_cons_succ]
  gi_wp2_with fail
  refine (show CallsIn (Fence.wide.inRound l1) 6 _ _ _ _ _ from (callsIn_wide.2 HND.out:CallsIn Fence.wide 6 _ _ _ _ _)).mono ?_
  rintro e V5 ⟨rfl,h5⟩
  have hz5:=h5.below.size
  have hall:=HI.out.trans h5
  have hKF:KeepsFrom Wn.heap.size V V5:=othersW_from h5.others hz5 HI.out.is
  have hKP:KpW p B V V5:=KpW.of h5 hz5
  clear k0 k1 k2 k3 k4 k5 k6 k7 k8 m0 h5 hlk heg HND
  gi_wp2_with fail
  refine ⟨hKF,hKP,?_⟩
  show WP B p (bs++cbL ((pre++[(ty,Value.slice A2 n2 c2)]).map Prod.fst)) Wn V5
  rw [← HFIN.out]
  exact hall
 case hS=>exact fun _ _ _ _ h _ _=>h
 case hSp=>exact fun _ _ _ _ h _ _=>h
 case done =>
  rintro D xs V hD ⟨hS,_⟩ hI hdf
  rw [hS]at hI
  have hBD:W.heap.size≤D:=by have:=HSN.out; omega
  have hsh:WP B p (bs++cbL l) W (V.putObj D (.deferred none)):=by
   have h1:WP B p (bs++cbL l) W V:=HST.out.trans hI
   refine wp_grown hBW h1 (grownBy_putObj' V D _) (fun r e=>?_)
   cases e
   exact ⟨hBD,_,hdf,rfl⟩
  clear hS hI
  go_wp2_with fail
  refine leave1n (v:=.tuple #[]) hdf (by simp [results,Tryz.results71,go_sem]) rfl ⟨rfl,hsh⟩
 case stop=>exact fun _ _ _ _ _ _ h _=>h.elim
end
theorem all_C (l:List Tr):AllC l:=
 w_all l (fun t _=>Tr.rec (motive_1:=fun t=>AllC t.kids) (motive_2:=fun l=>∀ t∈l,AllC t.kids)
  (fun _ l ih=>w_all l ih) (fun _ h=>absurd h (by simp)) (fun _ _ h1 h2 s hs=>(List.mem_cons.1 hs).elim (fun e=>by rw [e]; exact h1) (h2 s)) t)
end Go.Proofs.YtonihophanmaaaaGreatDoor
namespace Go.Proofs.YtonihophanmaaaaGreatDoor
open Go.RowKit Go.Shelf
theorem okCL_of:∀ {l:List Tr},(∀ t∈l,okC t)→okCL l
 | [],_=>by
  rw [okCL]
  trivial
 | t::l,h=>by
  rw [okCL]
  exact ⟨h t (by simp),okCL_of (fun s hs=>h s (by simp [hs]))⟩
theorem allL_mem:∀ {l:List Tr} {t:Tr},allL l=true→t∈l→allB t=true
 | [],_,_,h=>absurd h (by simp)
 | s::l,t,h,hm=>by
  rw [allL,Bool.and_eq_true]at h
  rcases List.mem_cons.1 hm with rfl | hm
  ·exact h.1
  ·exact allL_mem h.2 hm
theorem fitL_mem {f:Int} {fl:Own→Bool}:∀ {l:List Tr} {t:Tr},fitL f fl l=true→t∈l→fitT f fl t=true
 | [],_,_,h=>absurd h (by simp)
 | s::l,t,h,hm=>by
  rw [fitL,Bool.and_eq_true]at h
  rcases List.mem_cons.1 hm with rfl | hm
  ·exact h.1
  ·exact fitL_mem h.2 hm
theorem okC_of_at {W:World} {S:Nat→Prop} (t:Tr):∀ (d:Nat) (x:Value),LAt W S d t.kids x→OwnOk t.own→allB t=true→fitT 2 flC t=true→okC t:=
 Tr.rec (motive_1:=fun t=>∀ (d:Nat) (x:Value),LAt W S d t.kids x→OwnOk t.own→allB t=true→fitT 2 flC t=true→okC t)
  (motive_2:=fun l=>∀ t∈l,∀ (d:Nat) (x:Value),LAt W S d t.kids x→OwnOk t.own→allB t=true→fitT 2 flC t=true→okC t)
  (fun o l ih d x hl ho ha hf=>by
   rw [allB,Bool.and_eq_true]at ha
   rw [fitT,Bool.and_eq_true]at hf
   rw [okC]
   refine ⟨⟨ha.1,hf.1,ho,by have:=hl.slice.1; exact Nat.lt_of_le_of_lt this (by decide)⟩,okCL_of (fun s hs=>?_)⟩
   obtain ⟨i,hi,rfl⟩:=List.mem_iff_getElem.1 hs
   obtain ⟨_,A,c,rfl⟩:=hl.slice
   obtain ⟨d',a,x',_,_,_,hoi,_,hli⟩:=hl.at_ hi
   exact ih _ hs d' x' hli hoi (allL_mem ha.2 hs) (fitL_mem hf.2 hs))
  (fun _ h=>absurd h (by simp))
  (fun _ _ h1 h2 s hs=>(List.mem_cons.1 hs).elim (fun e=>by rw [e]; exact h1) (h2 s)) t
theorem item_len {x:Nat×Nat×Nat} (h:HdOk x):(itemL x).length≤9:=by
 unfold itemL extraN
 rw [List.length_cons,beBytes_length]
 have:=h.info
 split
 ·omega
 ·have:∀ m,m≤3→2 ^ m≤8:=fun m hm=>Nat.pow_le_pow_right (show 0<2 by decide) hm
  have:=this (x.2.1 - 24) (by omega)
  omega
theorem tx_len {o:Own} {l:List Tr} (h:NodeC o l):(txO o).length≤400:=by
 unfold txO
 split
 ·rename_i hk
  rcases h.shape with ⟨h,_⟩ | ⟨h,_⟩ | ⟨neg,m,h,hm,_⟩ | ⟨h,hw,_⟩ | ⟨h,hs,_,_⟩ | ⟨h,hs,_⟩ | ⟨h⟩ | ⟨h,_,_,_⟩ | ⟨h,_⟩ | ⟨h,_,_⟩
  all_goals first | exact hs | (rw [h]at hk; simp at hk)
 ·exact Nat.zero_le _
mutual
theorem cbT_bound:∀ t:Tr,okC t→(cbT t).length≤409*t.count
 | .nd o l,h=>by
  rw [okC]at h
  have h1:=item_len (hd_facts h.1).1
  have h2:=tx_len h.1
  have h3:=cbL_bound l h.2
  rw [cbT,List.length_append,List.length_append,Tr.count]
  omega
theorem cbL_bound:∀ l:List Tr,okCL l→(cbL l).length≤409*countL l
 | [],_=>by simp [cbL]
 | t::l,h=>by
  rw [okCL]at h
  have h1:=cbT_bound t h.1
  have h2:=cbL_bound l h.2
  rw [cbL,List.length_append,countL]
  omega
end
theorem listAt_one {W:World} {B d:Nat} {t:Tr} {x:Value} (hl:ListAt W B d t.kids x) (ho:OwnOk t.own) {k:Nat} (hk:Blk W k (cellsV t.own x) 28) (hB:B≤k+1):ListAt W (k+1) (d+1) [t] (.slice (some ⟨k,0,none⟩) 1 1):=by
 refine ⟨_,_,rfl,⟨by simp,by simp⟩,fun i hi=>?_⟩
 have:i=0:=by simpa using hi
 subst this
 refine ⟨_,x,rfl,Nat.lt_succ_self k,ho,fun j u hu=>?_,hl.mono (fun q hq=>Nat.lt_of_lt_of_le hq hB)⟩
 have hc:=hk.cell j
 have he:(cellsV t.own x)[j]? = some u:=by
  rw [← hu]
  unfold cellsV nodeCells
  simp
 rw [← he,← hc]
 have ha:(⟨k,0,none⟩:Addr).add (0*9+j)=⟨k,j,none⟩:=by
  unfold Addr.add
  split
  ·have:j=0:=by omega
   rw [this]
  ·simp
 rw [ha]
set_option maxHeartbeats 4000000 in
set_option maxRecDepth 100000 in
theorem cb_written (l:List Tr) (A:Option Addr) (n c:Nat) (w:World) (B d:Nat) (aT aF:Addr) (hl:ListAt w B d l (.slice A n c)) (hB:B≤w.heap.size) (hG:GW w aT aF) (hok:okCL l) (hlen:(cbL l).length≤900000000) (hn:l.length=n) (hne:l≠[]) :
  Calls Tryz.prog 47 #[.slice A n c] w fun e w'=>e=.returned (.string ⟨(cbL l).toArray⟩)∧Below w.heap.size w w':=by
 have hb1:Below w.heap.size w (w.alloc (.cells #[.pointer none,.slice none 0 0] 99)):=(Below.refl _ _).alloc (Nat.le_refl _) _
 have hI0:IsW w.heap.size w.heap.size (Lib.byteCells []) (w.alloc (.cells #[.pointer none,.slice none 0 0] 99)):=Lib.IsBuilderF.of (Lib.fresh_isBuilder 99 5 w)
 have hll:=cbL_len l
 have hne':cbL l≠[]:=fun e=>by
  rw [e]at hll
  exact hne (List.length_eq_zero_iff.1 (Nat.le_zero.1 hll))
 have HA:=Lib.hid (all_C l B w.heap.size w.heap.size d [] A n c w _ aT aF hl hB (Nat.le_refl _) hb1 hI0 hG hok (by simpa using hlen) hn (by omega))
 have HS:=Lib.hid (fun W (h:WP w.heap.size w.heap.size ([]++cbL l) (w.alloc (.cells #[.pointer none,.slice none 0 0] 99)) W)=>wb_String w.heap.size w.heap.size (cbL l) W h.is hne')
 obtain ⟨out,hout⟩:∃ out,cbL l=out:=⟨_,rfl⟩
 rw [hout]at HA ⊢
 simp only [hout]at HS
 clear hI0 hne' hl hG hok hlen hll hne hout
 go_enter Tryz.func47,Tryz.ntmps47
 go_wp2_with fail
 refine HA.out.mono ?_
 rintro e W1 ⟨rfl,h1⟩
 go_wp2_with fail
 refine (HS.out W1 h1).mono ?_
 rintro e W2 ⟨rfl,h2⟩
 have hb3:=(hb1.trans h1.below).trans h2
 go_wp2_with fail
 go_ret
 exact ⟨rfl,hb3⟩
theorem check_ok {f:Int} {fl:Own→Bool} {t:Tr} (h:checkT f fl t=0):t.count≤300∧t.depth≤16∧allB t=true∧fitT f fl t=true:=by
 unfold checkT at h
 split at h
 ·rename_i hr
  split at h
  ·rename_i hf
   unfold rightT at hr
   simp only [Bool.and_eq_true,decide_eq_true_iff]at hr
   exact ⟨hr.1,hr.2.1,hr.2.2,hf⟩
  ·cases h
 ·cases h
def wroteC (t:Tr) (e:Int):ByteArray:=if e=0 then ⟨(cbT t).toArray⟩ else ⟨#[]⟩
set_option maxHeartbeats 4000000 in
set_option maxRecDepth 100000 in
theorem cb_Write (t:Tr) (x:Value) (w:World) (B d:Nat) (aT aF:Addr) (hl:ListAt w B d t.kids x) (ho:OwnOk t.own) (hB:B≤w.heap.size) (hc:t.count≤1000000000) (h:GW w aT aF) :
  Calls Tryz.prog 37 #[nodeV t.own x] w fun e w'=>e=.returned (.tuple #[.string (wroteC t (checkT 2 flC t)),.int .i64 (checkT 2 flC t)])∧Below w.heap.size w w':=by
 have hb1:Below w.heap.size w (w.alloc (.cells (cellsV t.own x) 28)):=(Below.refl _ _).alloc (Nat.le_refl _) _
 have hk1:=Blk.new w (cellsV t.own x) 28
 have HC:=Lib.hid (tree_Check 2 flC (fits_at_C aT aF) t x _ B d (hl.below hb1 hB) ho (Nat.le_trans hB hb1.size) hc (h.below hb1))
 have HW:=Lib.hid (fun W (hW:Below w.heap.size w W) (h0:checkT 2 flC t=0)=>cb_written [t] (some ⟨W.heap.size,0,none⟩) 1 1 (W.alloc (.cells (cellsV t.own x) 28)) (W.heap.size+1) (d+1) aT aF
  (listAt_one ((hl.below hW hB).below ((Below.refl _ W).alloc (Nat.le_refl _) _) (Nat.le_trans hB hW.size)) ho (Blk.new _ _ _) (by have:=hW.size; omega)) (by simp) ((h.below hW).below ((Below.refl _ W).alloc (Nat.le_refl _) _))
  (okCL_of (fun s hs=>by
   rw [List.mem_singleton.1 hs]
   obtain ⟨_,_,h3,h4⟩:=check_ok h0
   exact okC_of_at t d x hl ho h3 h4)) (by
   obtain ⟨h2,_,h3,h4⟩:=check_ok h0
   have:=cbT_bound t (okC_of_at t d x hl ho h3 h4)
   show (cbT t++[]).length≤_
   rw [List.append_nil]
   omega) rfl (by simp))
 have hcc:∀ s,cbL [s]=cbT s:=fun s=>by
  show cbT s++[]=_
  rw [List.append_nil]
 simp only [hcc]at HW
 have HCC:=Lib.hid (check_cases 2 flC t)
 unfold wroteC
 obtain ⟨ct,hct⟩:∃ ct,cbT t=ct:=⟨_,rfl⟩
 obtain ⟨ck,hck⟩:∃ ck,checkT 2 flC t=ck:=⟨_,rfl⟩
 rw [hck]at HC HCC ⊢
 simp only [hct,hck]at HW
 rw [hct]
 clear hl ho hB hc h hct hck hcc
 obtain ⟨⟨kind,b,neg,dg,ex,u,wd,s⟩,ho'⟩:∃ o,t.own=o:=⟨_,rfl⟩
 simp only [ho']at HC HW hk1 hb1
 rw [ho']
 unfold nodeV at HC ⊢
 unfold cellsV at HC HW hk1 hb1
 simp only []at HC HW hk1 hb1 ⊢
 have z0:=hk1.cell 0
 have z1:=hk1.cell 1
 have z2:=hk1.cell 2
 have z3:=hk1.cell 3
 have z4:=hk1.cell 4
 have z5:=hk1.cell 5
 have z6:=hk1.cell 6
 have z7:=hk1.cell 7
 have z8:=hk1.cell 8
 clear ho'
 go_enter Tryz.func37,Tryz.ntmps37
 go_wp2_with fail
 refine HC.out.mono ?_
 rintro e w2 ⟨rfl,hb⟩
 have hb2:=hb1.trans (hb.mono hb1.size)
 have hk2:=hk1.below hb hk1.lt
 clear z0 z1 z2 z3 z4 z5 z6 z7 z8 hb hk1 hb1 HC
 have z0:=hk2.cell 0
 have z1:=hk2.cell 1
 have z2:=hk2.cell 2
 have z3:=hk2.cell 3
 have z4:=hk2.cell 4
 have z5:=hk2.cell 5
 have z6:=hk2.cell 6
 have z7:=hk2.cell 7
 have z8:=hk2.cell 8
 by_cases h0:ck=0
 ·have HW2:=Lib.hid (HW.out w2 hb2 h0)
  have HB2:=Lib.hid (hb2.trans (((Below.refl _ w2).alloc (o:=.cells #[.int .i64 kind,.bool b,.bool neg,.string dg,.int .i64 ex,.int .u64 u,.int .i64 wd,.string s,x] 28) (Nat.le_refl _)).mono hb2.size))
  subst h0
  clear HW hb2 hk2
  go_wp2_with fail
  refine HW2.out.mono ?_
  rintro e w3 ⟨rfl,hb⟩
  have hb3:=HB2.out.trans (hb.mono HB2.out.size)
  clear z0 z1 z2 z3 z4 z5 z6 z7 z8 hb HW2 HB2
  go_wp2_with fail
  refine bodyPost_ret (v:=.tuple #[.string ⟨ct.toArray⟩,.int .i64 0]) (by simp [results,Tryz.results37,go_sem]) rfl ⟨by simp,hb3⟩
 ·have y1:¬ ck=0:=h0
  clear HW
  go_wp2_with fail
  refine bodyPost_ret (v:=.tuple #[.string ⟨#[]⟩,.int .i64 ck]) (by simp [results,Tryz.results37,go_sem]) rfl ⟨rfl,hb2⟩
end Go.Proofs.YtonihophanmaaaaGreatDoor
