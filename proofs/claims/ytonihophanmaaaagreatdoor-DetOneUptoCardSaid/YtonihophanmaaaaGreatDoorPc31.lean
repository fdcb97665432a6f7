/- The texts DsL, ResC, put together. -/
import Derived.Test.YtonihophanmaaaaGreatDoorPc29
import Derived.Test.YtonihophanmaaaaGreatDoorPc30
import Derived.Test.YtonihophanmaaaaGreatDoorPc03
import Derived.Deep.MidRow
set_option maxHeartbeats 8000000
set_option maxRecDepth 100000
namespace Go.Proofs.YtonihophanmaaaaGreatDoor
open Go.RowKit Go.Shelf
theorem yt:xT cbT okC where
 kids o l h t ht:=by
  rw [okC]at h
  exact zcv h.2 ht
 inj a b ha hb e:=(zho a b [] [] ha hb (by rw [e])).1
structure ki (t:Tr):Prop where
 all:jk t=true
 fit:jf 2 flC t=true
 ok:okC t
theorem ki.kid {t u:Tr} (h:ki t) (hu:u∈t.kids):ki u:=by
 cases t with
 | nd o l =>
  exact ⟨wL (js h.all).2 hu,vE (qh h.fit).2 hu,yt.kids o l h.ok u hu⟩
theorem ki.keys {t:Tr} (h:ki t) (h8:t.own.kind=8) (i:Nat) (k:Tr) (hi:2*i+1<t.kids.length) (hk:t.kids[2*i]? = some k):zj 2 flC (keyOf k)=0:=by
 have hm:k∈t.kids:=List.mem_of_getElem? hk
 have hs:=h.kid hm
 cases t with
 | nd o l =>
  refine (wy k).2 ⟨hs.all,hs.fit,?_⟩
  have h1:=yG 2 l i (by simp only [Tr.kids]at hi; omega) (fit_keys (qh h.fit).1 h8)
  have h2:l[2*i]? = some k:=hk
  rw [List.getElem?_eq_getElem (by simp only [Tr.kids]at hi; omega)]at h2
  rw [Option.some.inj h2]at h1
  exact h1
theorem ki.apart {t:Tr} (h:ki t) (h8:t.own.kind=8):jP cbT (zM cbT zD t.kids):=by
 cases t with
 | nd o l =>
  exact zaI yt l ((qU l).1 (vJ (js h.all).1 h8).2) (fun u hu=>(h.kid (t:=.nd o l) hu).ok)
theorem zgp (it:Tr→List UInt8) (nar:Own→Own):∀ l:List Tr,jL it nar l=l.map (zz it nar)
 | []=>by rw [jL]; rfl
 | t::l=>by rw [jL,zgp it nar l]; rfl
def km (l:List Tr) (k:Nat):List Tr:=(l.take k).map (zz cbT zD)++l.drop k
theorem ziz (l:List Tr):km l 0=l:=by simp [km]
theorem zjV (l:List Tr):km l l.length=jL cbT zD l:=by simp [km,zgp]
theorem zjX (l:List Tr) (k:Nat) (hk:k≤l.length):(km l k).length=l.length:=by
 simp [km]
 omega
theorem zjW (l:List Tr) (k:Nat) (hk:k<l.length) (h:k<(km l k).length):(km l k)[k]=l[k]:=by
 have e:(km l k)[k]? = l[k]? := by
  unfold km
  rw [List.getElem?_append_right (by simp; omega)]
  simp [Nat.min_eq_left (Nat.le_of_lt hk)]
 rw [List.getElem?_eq_getElem h,List.getElem?_eq_getElem hk]at e
 exact Option.some.inj e
theorem zjY (l:List Tr) (k:Nat) (hk:k<l.length):(km l k).set k (zz cbT zD l[k])=km l (k+1):=by
 unfold km
 rw [List.set_append_right _ _ (by simp; omega)]
 rw [List.length_map,List.length_take,Nat.min_eq_left (Nat.le_of_lt hk),Nat.sub_self,List.take_succ_eq_append_getElem hk,List.map_append,List.append_assoc]
 rw [List.drop_eq_getElem_cons hk]
 rfl
theorem zcH (w:World) {ops:Array Oper} {rest:List Oper} {o:Oper} {a:Act} {Q:Exit→Act→World→Prop}
  (hg:o.guard=none) (x y:Operand) (hop:o.op=.call { callee:=.builtin .copy,args:=#[x,y],argTypes:=#[26,26] }) (p:Addr) (c c':Nat) (A:Option Addr)
  (hx:a.eval x=.slice (some p) 0 c) (hy:a.eval y=.slice A 0 c')
  (hK:wpList Tryz.prog ops Q rest (a.put o.dst (.int .i64 0)) w):wpList Tryz.prog ops Q (o::rest) a w:=by
 obtain ⟨i0,hi,hz0,hz1,hz2⟩:=info_parts xQ
 refine wpList_plain hg fun K hK'=>?_
 have hrun:(Builtin.copy_ #[26,26] o.type #[.slice (some p) 0 c,.slice A 0 c']).run Tryz.prog w=.ok (.int .i64 0) w:=by
  cases A <;> simp [Builtin.copy_,run_underlying Tryz.underlying26,Builtin.lenOf,Builtin.firstCells,sizeOf,typeInfo,hi,goInt,loadCells,loadCellsFrom,storeCells]
 unfold Oper.wp execOp
 simp only [hop,resolve,invoke,builtin,Sem.run_bind,Sem.run_pure,Result.andThen_ok,List.map_toArray,List.map_cons,List.map_nil,hx,hy,hrun]
 exact hK' _ _ hK
theorem zgW (m:Nat):∀ (t:Tr) (x:Value) (w:World) (S:Nat→Prop) (d:Nat) (aT aF:Addr),t.count≤m→LAt w S d t.kids x→zt t.own→(∀ q,S q→q<w.heap.size)→GW w aT aF→t.count≤1000000→ki t →
  Calls Tryz.prog 38 #[ze t.own x] w (xU S d t w):=by
 induction m with
 | zero =>
  intro t x w S d aT aF hm
  have:=wz (t:=t)
  omega
 | succ m ih =>
 intro t x w S d aT aF hm hl ho hS h hc hset
 have hkc:=wz (t:=t)
 have hkid:∀ u∈t.kids,u.count<t.count:=fun u hu=>zhC hu
 obtain ⟨o,l⟩:=t
 simp only [Tr.own,Tr.kids]at hl ho hkc hkid ⊢
 obtain ⟨hlen,A,c,rfl⟩:=hl.slice
 obtain ⟨n,hn⟩:∃ n,l.length=n:=⟨_,rfl⟩
 rw [hn]at hl hlen hkc ⊢
 by_cases h4:o.kind=4
 ·have hst:zz cbT zD (.nd o l)=.nd (jw o) l:=by rw [zz,if_pos h4,zdT ho]
  unfold xU
  rw [hst]
  simp only [Tr.own,Tr.kids]
  have HN:=fun W=>zfw o A n c W ho
  obtain ⟨N,hN⟩:∃ N,w.heap.size=N:=⟨_,rfl⟩
  have hlB:∀ W,Below N w W→LAt W (fun q=>(S q∨N≤q)∧q<W.heap.size) d l (.slice A n c):=fun W hW=>(hl.keep (fun q hq=>hW.block q (by have:=hS q hq; omega))).mono (fun q hq=>⟨.inl hq,by have:=hS q hq; have:=hW.size; omega⟩)
  obtain ⟨⟨kind5,b5,neg5,dg5,ex5,u5,wd5,s5⟩,ho5⟩:∃ o',jw o=o':=⟨_,rfl⟩
  simp only [ho5]at HN
  rw [ho5]
  obtain ⟨kind,b,neg,dg,ex,u,wd,s⟩:=o
  simp only []at h4
  subst h4
  unfold ze at HN ⊢
  simp only []at HN ⊢
  have HB2:=Lib.hid (qa w #[.int .i64 4,.bool b,.bool neg,.string dg,.int .i64 ex,.int .u64 u,.int .i64 wd,.string s,.slice A n c] #[.int .i64 0,.bool false,.bool false,.string ⟨#[]⟩,.int .i64 0,.int .u64 0,.int .i64 0,.string ⟨#[]⟩,.slice none 0 0] 28 28)
  obtain ⟨hb2,hk1,hk2⟩:=HB2.out
  rw [hN]at hb2 hk1 hk2
  have k0:=hk1.cell 0
  have HK1:=Lib.hid hk1
  have HK2:=Lib.hid hk2
  have HN:=Lib.hid HN
  have HLB:=Lib.hid hlB
  have HB:=Lib.hid hb2
  have HLN:=Lib.hid hn
  clear hl hset ih h hkid ho hS hn hst ho5 hb2 hk1 hk2 hlB HB2
  go_enter Tryz.func38,Tryz.ntmps38
  go_wp2_with (refine wpList_load_row rfl 28 (.tmp 1) rfl N rfl 28 _ (0,0) _ HK1.out Tryz.underlying28 rfl (by kernel_rfl) ?_)
  refine (HN.out _).mono ?_
  rintro e w3 ⟨rfl,hb3⟩
  have hk3:=HK2.out.below hb3 HK2.out.lt
  have hbw:=HB.out.trans (hb3.mono (by simp; omega))
  have hs3:=zB hk3 #[.int .i64 kind5,.bool b5,.bool neg5,.string dg5,.int .i64 ex5,.int .u64 u5,.int .i64 wd5,.string s5,.slice A n c]
  have hb4:=hbw.grown (zx w3 (N+1) #[.int .i64 kind5,.bool b5,.bool neg5,.string dg5,.int .i64 ex5,.int .u64 u5,.int .i64 wd5,.string s5,.slice A n c]) (by have:=hbw.size; omega) (fun q e=>by cases e; omega)
  have HK3:=Lib.hid hk3
  have HS3:=Lib.hid hs3
  have HB4:=Lib.hid hb4
  clear hk3 hs3 hb4 hbw hb3 HK1 HK2 HB HN k0
  go_wp2_with (refine wpList_store_row rfl 28 (.tmp 2) (.tmp 11) rfl (N+1) #[.int .i64 kind5,.bool b5,.bool neg5,.string dg5,.int .i64 ex5,.int .u64 u5,.int .i64 wd5,.string s5,.slice A n c] rfl rfl 28 _ HK3.out (by kernel_rfl) rfl (by simp [Value.oneCell']) ?_)
  refine bodyPost_ret (v:=.agg #[.int .i64 kind5,.bool b5,.bool neg5,.string dg5,.int .i64 ex5,.int .u64 u5,.int .i64 wd5,.string s5,.slice A n c]) (results_cell_row rfl _ _ (N+1) 28 _ (0,0) _ rfl HS3.out Tryz.underlying28 rfl (by kernel_rfl)) rfl ?_
  exact ⟨⟨A,c,by rw [HLN.out],by rw [HLN.out,hN]; exact HLB.out _ HB4.out⟩,by rw [hN]; exact HB4.out⟩
 ·by_cases h8:o.kind=8
  ·have hst:zz cbT zD (.nd o l)=.nd o (unp (j8 cbT (zM cbT zD l))):=by rw [zz,if_neg h4,if_pos h8]
   unfold xU
   rw [hst]
   simp only [Tr.own,Tr.kids]
   obtain ⟨N,hN⟩:∃ N,w.heap.size=N:=⟨_,rfl⟩
   have hhk:=fun i k hi hk=>hset.keys (t:=.nd o l) h8 i k hi hk
   have hha:=hset.apart (t:=.nd o l) h8
   obtain ⟨d1,hd1,hdd⟩:∃ d1,LAt w S (d1+1) l (.slice A n c)∧∀ (W:World) (S':Nat→Prop) (v:Value),LAt W S' (d1+1) (unp (j8 cbT (zM cbT zD l))) v→LAt W S' d (unp (j8 cbT (zM cbT zD l))) v:=by
    by_cases hl0:l=[]
    ·subst hl0
     refine ⟨d,?_,fun W S' v hv=>?_⟩
     ·rw [← hn]
      exact LAt.nil _ _ _ _ _
     ·have e:unp (j8 cbT (zM cbT zD []))=[]:=by rw [zM]; rfl
      rw [e]at hv ⊢
      obtain ⟨_,A1,c1,rfl⟩:=hv.slice
      exact LAt.nil _ _ _ _ _
    ·obtain ⟨d',_,_,hd',_⟩:=hl.at_ (k:=0) (List.length_pos_iff.2 hl0)
     subst hd'
     exact ⟨d',hl,fun _ _ _ h=>h⟩
   have hlen8:(unp (j8 cbT (zM cbT zD l))).length=2*(n / 2):=by rw [vK,(qI cbT _).length_eq,xR,hn]
   have HSO:=fun (W:World) (hW:Below w.heap.size w W)=>zia l A n c W S d1 aT aF (hd1.keep (fun q hq=>hW.block q (hS q hq))) hn (fun q hq=>Nat.lt_of_lt_of_le (hS q hq) hW.size) (fun t ht=>by have:=hkid t ht; omega) (h.below hW) (by omega) hhk hha
    (fun k hk x W2 hW2 hly hok=>ih l[k] x W2 S d1 aT aF (by have:=hkid l[k] (List.getElem_mem hk); omega) hly hok (fun q hq=>Nat.lt_of_lt_of_le (hS q hq) (Nat.le_trans hW.size hW2.size)) ((h.below hW).below hW2) (by have:=hkid l[k] (List.getElem_mem hk); omega) (hset.kid (t:=.nd o l) (List.getElem_mem hk)))
   obtain ⟨sl,hsl⟩:∃ sl,unp (j8 cbT (zM cbT zD l))=sl:=⟨_,rfl⟩
   simp only [hsl]at HSO hdd hlen8 ⊢
   obtain ⟨m2,hm2⟩:∃ m2,2*(n / 2)=m2:=⟨_,rfl⟩
   simp only [hm2]at HSO hlen8
   obtain ⟨kind,b,neg,dg,ex,u,wd,s⟩:=o
   simp only []at h8
   subst h8
   unfold ze
   simp only []
   have HB2:=Lib.hid (qa w #[.int .i64 8,.bool b,.bool neg,.string dg,.int .i64 ex,.int .u64 u,.int .i64 wd,.string s,.slice A n c] #[.int .i64 0,.bool false,.bool false,.string ⟨#[]⟩,.int .i64 0,.int .u64 0,.int .i64 0,.string ⟨#[]⟩,.slice none 0 0] 28 28)
   obtain ⟨hb2,hk1,hk2⟩:=HB2.out
   have k0:=hk1.cell 0
   have k8:=hk1.cell 8
   have HK1:=Lib.hid hk1
   have HK2:=Lib.hid hk2
   have HSO:=Lib.hid HSO
   have HB:=Lib.hid hb2
   have HLN:=Lib.hid hlen8
   have HDD:=Lib.hid hdd
   have HNN:=Lib.hid hN
   have HSQ:=Lib.hid hS
   clear hl hset ih h hkid ho hS hn hst hb2 hk1 hk2 HB2 hsl hm2 hlen8 hdd hd1 hhk hha hN
   go_enter Tryz.func38,Tryz.ntmps38
   go_wp2_with fail
   refine (HSO.out _ HB.out).mono ?_
   rintro e w3 ⟨⟨A',c',rfl,hly⟩,hb3⟩
   have hk13:=HK1.out.below hb3 HK1.out.lt
   have hk23:=HK2.out.below hb3 HK2.out.lt
   have hbw:=HB.out.trans (hb3.mono (by simp; omega))
   have hz3:=hb3.size
   simp only [World.size_alloc]at hz3
   have k83:=hk13.cell 8
   have f83:=hk13.frozen 8
   have hs1:=hk13.set 8 (.slice A' m2 c')
   have hs2:=hk23.other (b':=w.heap.size) (by omega) 8 (.slice A' m2 c')
   have hs3:=zB hs2 #[.int .i64 8,.bool b,.bool neg,.string dg,.int .i64 ex,.int .u64 u,.int .i64 wd,.string s,.slice A' m2 c']
   have hg8:=qq w3 w.heap.size 8 (.slice A' m2 c')
   obtain ⟨W8,hW8⟩:∃ W8,w3.setCell ⟨w.heap.size,8,none⟩ (.slice A' m2 c')=W8:=⟨_,rfl⟩
   rw [hW8]at hs1 hs2 hs3 hg8
   have hz8:W8.heap.size=w3.heap.size:=by rw [← hW8]; simp [World.setCell]
   have hb8:Below w.heap.size w W8:=hbw.grown hg8 hbw.size (fun q e=>by cases e; exact Nat.le_refl _)
   have hg9:=zx W8 (w.heap.size+1) #[.int .i64 8,.bool b,.bool neg,.string dg,.int .i64 ex,.int .u64 u,.int .i64 wd,.string s,.slice A' m2 c']
   have hb9:Below w.heap.size w (W8.setRow (w.heap.size+1) #[.int .i64 8,.bool b,.bool neg,.string dg,.int .i64 ex,.int .u64 u,.int .i64 wd,.string s,.slice A' m2 c']):=hb8.grown hg9 hb8.size (fun q e=>by cases e; omega)
   have hl9:LAt (W8.setRow (w.heap.size+1) #[.int .i64 8,.bool b,.bool neg,.string dg,.int .i64 ex,.int .u64 u,.int .i64 wd,.string s,.slice A' m2 c']) (fun q=>(S q∨w.heap.size≤q)∧q<(W8.setRow (w.heap.size+1) #[.int .i64 8,.bool b,.bool neg,.string dg,.int .i64 ex,.int .u64 u,.int .i64 wd,.string s,.slice A' m2 c']).heap.size) (d1+1) sl (.slice A' m2 c'):=by
    refine (hly.keep (fun q hq=>?_)).mono (fun q hq=>⟨?_,?_⟩)
    ·have hq1:S q∨w.heap.size+2≤q:=by simpa using hq.1
     have hne:q≠w.heap.size∧q≠w.heap.size+1:=by
      rcases hq1 with hh | hh
      ·have:=HSQ.out q hh
       omega
      ·omega
     exact (hg9.block q (by rw [hz8]; exact hq.2) (fun e=>hne.2 (by injection e))).trans (hg8.block q hq.2 (fun e=>hne.1 (by injection e)))
    ·have hq1:S q∨w.heap.size+2≤q:=by simpa using hq.1
     exact hq1.imp id (by omega)
    ·rw [setRow_size,hz8]
     exact hq.2
   have HS1:=Lib.hid hs1
   have HS2:=Lib.hid hs2
   have HS3:=Lib.hid hs3
   have HB9:=Lib.hid hb9
   have HL9:=Lib.hid hl9
   have HW8:=Lib.hid hW8
   clear hk13 hk23 hbw hs1 hs2 hs3 hg8 hb8 hg9 hb9 hl9 hly hb3 HK1 HK2 HB HSO k0 k8 hW8 hz8
   go_upto_region 6 with fail
   rw [HW8.out]
   go_wp2_with (first | (refine wpList_load_row rfl 28 (.tmp 1) rfl w.heap.size rfl 28 _ (0,0) _ HS1.out Tryz.underlying28 rfl (by kernel_rfl) ?_) | (refine wpList_store_row rfl 28 (.tmp 2) (.tmp 18) rfl (w.heap.size+1) #[.int .i64 8,.bool b,.bool neg,.string dg,.int .i64 ex,.int .u64 u,.int .i64 wd,.string s,.slice A' m2 c'] rfl rfl 28 _ HS2.out (by kernel_rfl) rfl (by simp [Value.oneCell']) ?_))
   refine bodyPost_ret (v:=.agg #[.int .i64 8,.bool b,.bool neg,.string dg,.int .i64 ex,.int .u64 u,.int .i64 wd,.string s,.slice A' m2 c']) (results_cell_row rfl _ _ (w.heap.size+1) 28 _ (0,0) _ rfl HS3.out Tryz.underlying28 rfl (by kernel_rfl)) rfl ?_
   exact ⟨⟨A',c',by rw [HLN.out],by rw [HLN.out]; exact HDD.out _ _ _ HL9.out⟩,HB9.out⟩
  ·have hst:zz cbT zD (.nd o l)=.nd o (jL cbT zD l):=by rw [zz,if_neg h4,if_neg h8]
   unfold xU
   rw [hst]
   simp only [Tr.own,Tr.kids]
   obtain ⟨kind,b,neg,dg,ex,u,wd,s⟩:=o
   simp only []at h4 h8
   unfold ze
   simp only []
   obtain ⟨N,hN⟩:∃ N,w.heap.size=N:=⟨_,rfl⟩
   have HB2:=Lib.hid (qa w #[.int .i64 kind,.bool b,.bool neg,.string dg,.int .i64 ex,.int .u64 u,.int .i64 wd,.string s,.slice A n c] #[.int .i64 0,.bool false,.bool false,.string ⟨#[]⟩,.int .i64 0,.int .u64 0,.int .i64 0,.string ⟨#[]⟩,.slice none 0 0] 28 28)
   have y4:(kind == 4)=false:=by rw [beq_eq_false_iff_ne]; exact h4
   have y8:(kind == 8)=false:=by rw [beq_eq_false_iff_ne]; exact h8
   have hn1:n≤1000000:=by omega
   obtain ⟨hb2,hk1,hk2⟩:=HB2.out
   have k0:=hk1.cell 0
   have k8:=hk1.cell 8
   have HL:=Lib.hid hl
   have HSET:=Lib.hid hset
   have IH:=Lib.hid ih
   have HG:=Lib.hid h
   have HKID:=Lib.hid hkid
   have HO:=Lib.hid ho
   have HS:=Lib.hid hS
   have HN:=Lib.hid hn
   clear hl hset ih h hkid ho hS hn hst
   go_enter Tryz.func38,Tryz.ntmps38
   go_upto_region 8 with (refine zcI _ rfl _ _ rfl n (by omega) rfl rfl ?_)
   obtain ⟨W2,hW2⟩:∃ W2,((w.alloc (.cells #[.int .i64 kind,.bool b,.bool neg,.string dg,.int .i64 ex,.int .u64 u,.int .i64 wd,.string s,.slice A n c] 28)).alloc (.cells #[.int .i64 0,.bool false,.bool false,.string ⟨#[]⟩,.int .i64 0,.int .u64 0,.int .i64 0,.string ⟨#[]⟩,.slice none 0 0] 28)).alloc (.cells (madeCells wh (n*9)) 28)=W2:=⟨_,rfl⟩
   have hz2:W2.heap.size=N+3:=by rw [← hW2]; simp [hN]
   have hbm:=(Below.refl _ ((w.alloc (.cells #[.int .i64 kind,.bool b,.bool neg,.string dg,.int .i64 ex,.int .u64 u,.int .i64 wd,.string s,.slice A n c] 28)).alloc (.cells #[.int .i64 0,.bool false,.bool false,.string ⟨#[]⟩,.int .i64 0,.int .u64 0,.int .i64 0,.string ⟨#[]⟩,.slice none 0 0] 28))).alloc (Nat.le_refl _) (.cells (madeCells wh (n*9)) 28)
   have hb3:=hb2.trans (hbm.mono hb2.size)
   have hk3:=hk1.alloc (.cells (madeCells wh (n*9)) 28)
   have hk4:=hk2.alloc (.cells (madeCells wh (n*9)) 28)
   have hmt:=ziB ((w.alloc (.cells #[.int .i64 kind,.bool b,.bool neg,.string dg,.int .i64 ex,.int .u64 u,.int .i64 wd,.string s,.slice A n c] 28)).alloc (.cells #[.int .i64 0,.bool false,.bool false,.string ⟨#[]⟩,.int .i64 0,.int .u64 0,.int .i64 0,.string ⟨#[]⟩,.slice none 0 0] 28)) n
   rw [World.size_alloc,World.size_alloc,hN]at hmt
   rw [hW2]at hmt hb3 hk3 hk4 ⊢
   rw [hN]at hk3 hk4
   obtain ⟨g,hg⟩:∃ g,N+1+1=g:=⟨_,rfl⟩
   rw [hg]at hmt ⊢
   have k83:=hk3.cell 8
   clear hW2 hb2 hk1 hk2 k0 k8 HB2 hbm
   have fin:∀ (W:World),Below N w W→Blk W N #[.int .i64 kind,.bool b,.bool neg,.string dg,.int .i64 ex,.int .u64 u,.int .i64 wd,.string s,.slice A n c] 28→Blk W (N+1) #[.int .i64 0,.bool false,.bool false,.string ⟨#[]⟩,.int .i64 0,.int .u64 0,.int .i64 0,.string ⟨#[]⟩,.slice none 0 0] 28→LAt W (fun q=>(S q∨N≤q)∧q≠N∧q≠N+1∧q<W.heap.size) d (jL cbT zD l) (.slice (some ⟨g,0,none⟩) n n) →
     ∃ W8 W9,W.setCell ⟨N,8,none⟩ (.slice (some ⟨g,0,none⟩) n n)=W8∧W8.setRow (N+1) #[.int .i64 kind,.bool b,.bool neg,.string dg,.int .i64 ex,.int .u64 u,.int .i64 wd,.string s,.slice (some ⟨g,0,none⟩) n n]=W9∧Blk W8 N #[.int .i64 kind,.bool b,.bool neg,.string dg,.int .i64 ex,.int .u64 u,.int .i64 wd,.string s,.slice (some ⟨g,0,none⟩) n n] 28∧Blk W8 (N+1) #[.int .i64 0,.bool false,.bool false,.string ⟨#[]⟩,.int .i64 0,.int .u64 0,.int .i64 0,.string ⟨#[]⟩,.slice none 0 0] 28∧Blk W9 (N+1) #[.int .i64 kind,.bool b,.bool neg,.string dg,.int .i64 ex,.int .u64 u,.int .i64 wd,.string s,.slice (some ⟨g,0,none⟩) n n] 28 ∧
      Below N w W9∧LAt W9 (fun q=>(S q∨N≤q)∧q<W9.heap.size) d (jL cbT zD l) (.slice (some ⟨g,0,none⟩) n n):=fun W hB hb1 hb2 hL=>by
    refine ⟨_,_,rfl,rfl,hb1.set 8 _,hb2.other (by omega) 8 _,zB (hb2.other (by omega) 8 _) _,?_,?_⟩
    ·exact (hB.grown (qq W N 8 _) (by have:=hB.size; omega) (fun q e=>by cases e; exact Nat.le_refl _)).grown (zx _ (N+1) _) (by have:=hB.size; simp [World.setCell]; omega) (fun q e=>by cases e; omega)
    ·refine (hL.keep (fun q hq=>(setRow_other _ _ _ _ hq.2.2.1).trans (Below.heap_setCell W ⟨N,8,none⟩ _ q hq.2.1))).mono (fun q hq=>⟨hq.1,?_⟩)
     rw [setRow_size]
     simpa [World.setCell] using hq.2.2.2
   have HFIN:=Lib.hid fin
   clear fin
   by_cases hn0:n=0
   ·subst hn0
    have hl0:l=[]:=List.eq_nil_of_length_eq_zero HN.out
    subst hl0
    have hb3':Below N w W2:=by rw [← hN]; exact hb3
    obtain ⟨W8,W9,hW8,hW9,hs1,hs2,hs3,hb9,hl9⟩:=HFIN.out W2 hb3' hk3 hk4 (LAt.nil _ _ _ _ _)
    have f8:=hk3.frozen 8
    have HS1:=Lib.hid hs1
    have HS2:=Lib.hid hs2
    have HS3:=Lib.hid hs3
    have HB9:=Lib.hid hb9
    have HL9:=Lib.hid hl9
    have HW8:=Lib.hid hW8
    have HW9:=Lib.hid hW9
    clear hs1 hs2 hs3 hb9 hl9 hW8 hW9 hk3 hk4 hmt hb3 hb3' HFIN hz2
    go_wp2_with (refine zcH _ rfl (.tmp 23) (.tmp 25) rfl ⟨g,0,none⟩ 0 c A rfl rfl ?_)
    refine wp_loop_rounds 1 ?_
    rw [rounds_succ]
    go_upto_region 15 with fail
    rw [HW8.out]
    go_wp2_with (first | (refine wpList_load_row rfl 28 (.tmp 1) rfl N rfl 28 _ (0,0) _ HS1.out Tryz.underlying28 rfl (by kernel_rfl) ?_) | (refine wpList_store_row rfl 28 (.tmp 2) (.tmp 42) rfl (N+1) #[.int .i64 kind,.bool b,.bool neg,.string dg,.int .i64 ex,.int .u64 u,.int .i64 wd,.string s,.slice (some ⟨g,0,none⟩) 0 0] rfl rfl 28 _ HS2.out (by kernel_rfl) rfl (by simp [Value.oneCell']) ?_))
    rw [HW9.out]
    refine bodyPost_ret (v:=.agg #[.int .i64 kind,.bool b,.bool neg,.string dg,.int .i64 ex,.int .u64 u,.int .i64 wd,.string s,.slice (some ⟨g,0,none⟩) 0 0]) (results_cell_row rfl _ _ (N+1) 28 _ (0,0) _ rfl HS3.out Tryz.underlying28 rfl (by kernel_rfl)) rfl ?_
    exact ⟨⟨some ⟨g,0,none⟩,0,by rw [jL]; rfl,by rw [hN]; exact HL9.out⟩,by rw [hN]; exact HB9.out⟩
   ·have hlp:0<l.length:=by have:=HN.out; omega
    obtain ⟨d1,al,y,hd1,hA,hab,hrest⟩:=HL.out.at_ hlp
    clear hrest
    subst hA hd1
    obtain ⟨xs,hrow,hcells⟩:=HL.out.row
    have hxl:=hrow.len
    rw [HN.out]at hxl
    have hx1:=hrow.cells1
    have hsrc:∀ j v,xs[j]? = some v→W2.cell? (al.add j)=some v:=fun j v hj=>(hb3.cell (p:=al.add j) (by rw [add_block]; exact HS.out _ hab)).trans (hcells j v hj)
    obtain ⟨W3,hW3⟩:∃ W3,W2.setCells g 0 xs=W3:=⟨_,rfl⟩
    have hgr3:=qE g xs 0 W2
    obtain ⟨hra0,hth0⟩:=zm0 hmt hxl
    rw [hW3]at hgr3 hra0 hth0
    have hz3:W3.heap.size=N+3:=by rw [← hW3,setCells_size]; exact hz2
    have hb30:Below N w W3:=by rw [hN]at hb3; exact hb3.grown hgr3 (by omega) (fun q e=>by cases e; omega)
    have hk30:=hk3.kept hgr3 (fun e=>by injection e with e; omega)
    have hk40:=hk4.kept hgr3 (fun e=>by injection e with e; omega)
    have hro0:zV W3 (fun q=>((S q∨N+2≤q)∧q≠g)∧q<W3.heap.size) d1 (km l 0) xs:=by
     rw [ziz]
     refine (hrow.keep (fun q hq=>?_)).mono (fun q hq=>⟨⟨.inl hq,?_⟩,?_⟩)
     ·have:=HS.out q hq
      exact (hgr3.block q (by omega) (fun e=>by injection e with e; omega)).trans (hb3.block q this)
     ·have:=HS.out q hq
      omega
     ·have:=HS.out q hq
      omega
    have HK30:=Lib.hid hk30
    have HK40:=Lib.hid hk40
    have HB30:=Lib.hid hb30
    have HRA:=Lib.hid hra0
    have HTH:=Lib.hid hth0
    have HRO:=Lib.hid hro0
    have HXL:=Lib.hid hxl
    have HW3:=Lib.hid hW3
    have hz3g:g<W3.heap.size:=by omega
    clear hk30 hk40 hb30 hra0 hth0 hro0 hrow hcells hgr3 hk3 hk4 hb3 hz3 hz2 hW3 hab
    go_wp2_with (refine zcG _ rfl (.tmp 23) (.tmp 25) rfl g n n c al xs rfl rfl HXL.out hsrc hmt hx1 ?_)
    rw [HW3.out]
    clear hsrc hmt hx1 hxl k83 HW3
    go_loopw [29] (fun i wr=>∃ (k:Nat) (ys:List Value),k≤n∧i=.int .i64 k∧ys.length=n*9∧Below N w wr∧Blk wr N #[.int .i64 kind,.bool b,.bool neg,.string dg,.int .i64 ex,.int .u64 u,.int .i64 wd,.string s,.slice (some al) n c] 28∧Blk wr (N+1) #[.int .i64 0,.bool false,.bool false,.string ⟨#[]⟩,.int .i64 0,.int .u64 0,.int .i64 0,.string ⟨#[]⟩,.slice none 0 0] 28∧wr.rangeAt g 0 ys∧wr.there g 0 (n*9)∧g<wr.heap.size∧zV wr (fun q=>((S q∨N+2≤q)∧q≠g)∧q<wr.heap.size) d1 (km l k) ys) (fun i _=>n - (intOf i).toNat)
    case atStart=>exact ⟨0,xs,Nat.zero_le _,rfl,HXL.out,HB30.out,HK30.out,HK40.out,HRA.out,HTH.out,hz3g,HRO.out⟩
    case round =>
     obtain ⟨k,ys,hk,rfl,hyl,hbw,hb1,hb2,hra,hth,hgs,hro⟩:=hrel
     clear HK30 HK40 HB30 HRA HTH HRO HXL hz3g
     have hzw:=hbw.size
     by_cases hlt:k<n
     ·have hkl:k<l.length:=by rw [HN.out]; exact hlt
      have hkk:k<(km l k).length:=by rw [zjX l k (Nat.le_of_lt hkl)]; exact hkl
      obtain ⟨y,hok,hg0,hky⟩:=hro.get k hkk
      rw [zjW l k hkl hkk]at hok hg0 hky
      have hmem:=List.getElem_mem hkl
      have hcnt:=HKID.out l[k] hmem
      have hst:=HSET.out.kid (t:=.nd ⟨kind,b,neg,dg,ex,u,wd,s⟩ l) hmem
      have hset:=zjY l k hkl
      have hvo:=zbE hok
      obtain ⟨_,A2,c2,rfl⟩:=hky.slice
      have hrg:wr.rangeAt g (k*9) (zp l[k].own (.slice A2 l[k].kids.length c2)):=fun j v hj=>by
       have:=hra _ _ (hg0 j v hj)
       rwa [Nat.zero_add]at this
      have hcall:=fun (X:World) (hX:Below wr.heap.size wr X)=>IH.out l[k] (.slice A2 l[k].kids.length c2) X (fun q=>((S q∨N+2≤q)∧q≠g)∧q<wr.heap.size) d1 aT aF (by omega) (hky.keep (fun q hq=>hX.block q hq.2)) hok (fun q hq=>Nat.lt_of_lt_of_le hq.2 hX.size) (HG.out.below (by rw [hN]; exact hbw.trans (hX.mono (by omega)))) (by omega) hst
      unfold xU at hcall
      obtain ⟨st,hst2⟩:∃ st,zz cbT zD l[k]=st:=⟨_,rfl⟩
      rw [hst2]at hset hvo
      simp only [hst2]at hcall
      obtain ⟨n2,hn2⟩:∃ n2,l[k].kids.length=n2:=⟨_,rfl⟩
      obtain ⟨zk,hzk⟩:∃ zk,st.kids=zk:=⟨_,rfl⟩
      obtain ⟨n4,hn4⟩:∃ n4,zk.length=n4:=⟨_,rfl⟩
      obtain ⟨⟨kind2,b2,neg2,dg2,ex2,u2,wd2,s2⟩,ho2⟩:∃ o,l[k].own=o:=⟨_,rfl⟩
      obtain ⟨⟨kind4,b4,neg4,dg4,ex4,u4,wd4,s4⟩,ho4⟩:∃ o,st.own=o:=⟨_,rfl⟩
      rw [hn2,ho2]at hrg
      simp only [hn2,ho2,ho4,hzk,hn4]at hcall
      unfold ze at hcall
      unfold zp at hrg
      simp only []at hcall hrg
      have hbn:=Blk.new wr #[.int .i64 0,.bool false,.bool false,.string ⟨#[]⟩,.int .i64 0,.int .u64 0,.int .i64 0,.string ⟨#[]⟩,.slice none 0 0] 28
      have hbl:=zB hbn #[.int .i64 kind2,.bool b2,.bool neg2,.string dg2,.int .i64 ex2,.int .u64 u2,.int .i64 wd2,.string s2,.slice A2 n2 c2]
      have hgr19:=zx (wr.alloc (.cells #[.int .i64 0,.bool false,.bool false,.string ⟨#[]⟩,.int .i64 0,.int .u64 0,.int .i64 0,.string ⟨#[]⟩,.slice none 0 0] 28)) wr.heap.size #[.int .i64 kind2,.bool b2,.bool neg2,.string dg2,.int .i64 ex2,.int .u64 u2,.int .i64 wd2,.string s2,.slice A2 n2 c2]
      obtain ⟨W5,hW5⟩:∃ W5,(wr.alloc (.cells #[.int .i64 0,.bool false,.bool false,.string ⟨#[]⟩,.int .i64 0,.int .u64 0,.int .i64 0,.string ⟨#[]⟩,.slice none 0 0] 28)).setRow wr.heap.size #[.int .i64 kind2,.bool b2,.bool neg2,.string dg2,.int .i64 ex2,.int .u64 u2,.int .i64 wd2,.string s2,.slice A2 n2 c2]=W5:=⟨_,rfl⟩
      have hz5:W5.heap.size=wr.heap.size+1:=by rw [← hW5,setRow_size,World.size_alloc]
      have hwr5:Below wr.heap.size wr W5:=by
       rw [← hW5]
       exact ((Below.refl _ wr).alloc (Nat.le_refl _) _).grown hgr19 (by simp) (fun q e=>by cases e; exact Nat.le_refl _)
      rw [hW5]at hbl
      have HCALL:=Lib.hid (hcall W5 hwr5)
      have HRG:=Lib.hid hrg
      have HBN:=Lib.hid hbn
      have HBL:=Lib.hid hbl
      have HW5:=Lib.hid hW5
      have HWR5:=Lib.hid hwr5
      have HRA:=Lib.hid hra
      have HTH:=Lib.hid hth
      have HRO:=Lib.hid hro
      have HST:=Lib.hid hset
      have HVO:=Lib.hid hvo
      have HZK:=Lib.hid hzk
      have HO4:=Lib.hid ho4
      have HN4:=Lib.hid hn4
      have HB1:=Lib.hid hb1
      have HB2:=Lib.hid hb2
      have HBW:=Lib.hid hbw
      have HYL:=Lib.hid hyl
      have y1:(k:Int)<n:=by omega
      clear hcall hrg hbn hbl hgr19 hW5 hwr5 hra hth hro hset hvo hzk ho4 hn4 hb1 hb2 hbw hyl hst hst2 hok hg0 hky hcnt hmem hn2 ho2
      go_upto_region 12 with (first | (refine wpList_load_mid rfl 28 (.tmp 32) rfl g (k*9) rfl [.int .i64 kind2,.bool b2,.bool neg2,.string dg2,.int .i64 ex2,.int .u64 u2,.int .i64 wd2,.string s2,.slice A2 n2 c2] _ HRG.out Tryz.underlying28 rfl (by kernel_rfl) ?_) | (refine wpList_store_row rfl 28 (.tmp 5) (.tmp 33) rfl wr.heap.size #[.int .i64 kind2,.bool b2,.bool neg2,.string dg2,.int .i64 ex2,.int .u64 u2,.int .i64 wd2,.string s2,.slice A2 n2 c2] rfl rfl 28 _ HBN.out (by kernel_rfl) rfl (by simp [Value.oneCell']) ?_))
      rw [HW5.out]
      clear HW5 HBN HRG
      go_wp2_with (refine wpList_load_row rfl 28 (.tmp 5) rfl wr.heap.size rfl 28 _ (0,0) _ HBL.out Tryz.underlying28 rfl (by kernel_rfl) ?_)
      refine HCALL.out.mono ?_
      rintro e W6 ⟨⟨A4,c4,rfl,hly⟩,hb6⟩
      have hz6:=hb6.size
      have hww:Below wr.heap.size wr W6:=HWR5.out.trans (hb6.mono (by omega))
      have hth6:=zaN HTH.out (hww.block g hgs)
      have hst6:=zg8 (W:=W6) (c:=[.int .i64 kind4,.bool b4,.bool neg4,.string dg4,.int .i64 ex4,.int .u64 u4,.int .i64 wd4,.string s4,.slice A4 n4 c4]) (fun j _ v hv=>by
       rw [jd (a:=⟨g,j,none⟩) (hww.block g hgs)]
       have:=HRA.out _ _ hv
       rwa [Nat.zero_add]at this) hth6 HYL.out hlt rfl
      have hg7:=qE g [.int .i64 kind4,.bool b4,.bool neg4,.string dg4,.int .i64 ex4,.int .u64 u4,.int .i64 wd4,.string s4,.slice A4 n4 c4] (k*9) W6
      have hz7:=setCells_size g [.int .i64 kind4,.bool b4,.bool neg4,.string dg4,.int .i64 ex4,.int .u64 u4,.int .i64 wd4,.string s4,.slice A4 n4 c4] (k*9) W6
      have hro7:=(HRO.out.keep (W':=W6.setCells g (k*9) [.int .i64 kind4,.bool b4,.bool neg4,.string dg4,.int .i64 ex4,.int .u64 u4,.int .i64 wd4,.string s4,.slice A4 n4 c4]) (fun q hq=>(hg7.block q (by omega) (fun e=>hq.1.2 (by injection e))).trans (hww.block q hq.2))).mono (S':=fun q=>((S q∨N+2≤q)∧q≠g)∧q<(W6.setCells g (k*9) [.int .i64 kind4,.bool b4,.bool neg4,.string dg4,.int .i64 ex4,.int .u64 u4,.int .i64 wd4,.string s4,.slice A4 n4 c4]).heap.size) (fun q hq=>⟨hq.1,by rw [hz7]; omega⟩)
      have hly7:LAt (W6.setCells g (k*9) [.int .i64 kind4,.bool b4,.bool neg4,.string dg4,.int .i64 ex4,.int .u64 u4,.int .i64 wd4,.string s4,.slice A4 n4 c4]) (fun q=>((S q∨N+2≤q)∧q≠g)∧q<(W6.setCells g (k*9) [.int .i64 kind4,.bool b4,.bool neg4,.string dg4,.int .i64 ex4,.int .u64 u4,.int .i64 wd4,.string s4,.slice A4 n4 c4]).heap.size) d1 st.kids (.slice A4 n4 c4):=by
       rw [HZK.out]
       refine (hly.keep (fun q hq=>hg7.block q hq.2 (fun e=>?_))).mono (fun q hq=>⟨?_,by rw [hz7]; exact hq.2⟩)
       ·have e:q=g:=by injection e
        rcases hq.1 with h | h
        ·exact h.1.2 e
        ·omega
       ·rcases hq.1 with h | h
        ·exact h.1
        ·exact ⟨.inr (by omega),by omega⟩
      have hro8:=hro7.set k hkk HVO.out hly7
      rw [HST.out,HO4.out]at hro8
      have hyl8:(setAt ys k [.int .i64 kind4,.bool b4,.bool neg4,.string dg4,.int .i64 ex4,.int .u64 u4,.int .i64 wd4,.string s4,.slice A4 n4 c4]).length=n*9:=by rw [zgn rfl (by have:=HYL.out; omega),HYL.out]
      have hb18:=(HB1.out.below hww HB1.out.lt).kept hg7 (fun e=>by injection e with e; omega)
      have hb28:=(HB2.out.below hww HB2.out.lt).kept hg7 (fun e=>by injection e with e; omega)
      have hbw8:Below N w (W6.setCells g (k*9) [.int .i64 kind4,.bool b4,.bool neg4,.string dg4,.int .i64 ex4,.int .u64 u4,.int .i64 wd4,.string s4,.slice A4 n4 c4]):=(HBW.out.trans (hww.mono (by omega))).grown hg7 (by omega) (fun q e=>by cases e; omega)
      obtain ⟨W7,hW7⟩:∃ W7,W6.setCells g (k*9) [.int .i64 kind4,.bool b4,.bool neg4,.string dg4,.int .i64 ex4,.int .u64 u4,.int .i64 wd4,.string s4,.slice A4 n4 c4]=W7:=⟨_,rfl⟩
      have hW7':W6.setCells g (k*9) (#[.int .i64 kind4,.bool b4,.bool neg4,.string dg4,.int .i64 ex4,.int .u64 u4,.int .i64 wd4,.string s4,.slice A4 n4 c4]:Array Value).toList=W7:=hW7
      rw [hW7]at hz7 hro8 hb18 hb28 hbw8
      have hst7:W7.rangeAt g 0 (setAt ys k [.int .i64 kind4,.bool b4,.bool neg4,.string dg4,.int .i64 ex4,.int .u64 u4,.int .i64 wd4,.string s4,.slice A4 n4 c4])∧W7.there g 0 (n*9):=by rw [← hW7]; exact hst6
      have HS6:=Lib.hid hst7
      have HRO8:=Lib.hid hro8
      have HY8:=Lib.hid hyl8
      have HB18:=Lib.hid hb18
      have HB28:=Lib.hid hb28
      have HBW8:=Lib.hid hbw8
      have HTM:=Lib.hid (zks hth6 hlt)
      have HW7:=Lib.hid hW7'
      have HGS8:=Lib.hid (show g<W7.heap.size by rw [hz7]; omega)
      have HGE:=Lib.hid hg
      clear hg hly hb6 hz6 hww hth6 hst6 hst7 hg7 hz7 hro7 hly7 hro8 hyl8 hb18 hb28 hbw8 hz5 hW7 hW7'
      go_upto_region 13 with (refine wpList_store_mid rfl 28 (.tmp 38) (.tmp 37) rfl g (k*9) #[.int .i64 kind4,.bool b4,.bool neg4,.string dg4,.int .i64 ex4,.int .u64 u4,.int .i64 wd4,.string s4,.slice A4 n4 c4] rfl rfl HTM.out (by kernel_rfl) (by simp [Value.oneCell']) ?_)
      rw [HW7.out]
      go_wp2_with fail
      go_roundw
      case rel=>exact ⟨k+1,_,by omega,by go_num,HY8.out,HBW8.out,HB18.out,HB28.out,HS6.out.1,HS6.out.2,HGS8.out,HRO8.out⟩
      case measure =>
       simp only [intOf]
       omega
     ·obtain rfl:k=n:=by omega
      have y1:¬ (k:Int)<k:=by omega
      have hal:km l k=jL cbT zD l:=by
       rw [← HN.out]
       exact zjV l
      rw [hal]at hro
      have hln:(jL cbT zD l).length=k:=by rw [zcA,HN.out]
      have hli:=hro.listR (c:=k) (S':=fun q=>(S q∨N≤q)∧q≠N∧q≠N+1∧q<wr.heap.size) hra (by rw [hln]; exact hlen) (by rw [hln]; exact Nat.le_refl _) (fun q hq=>⟨hq.1.1.imp id (by omega),by
       rcases hq.1.1 with h | h
       ·have:=HS.out q h
        omega
       ·omega⟩) ⟨.inr (by omega),by omega⟩
      rw [hln]at hli
      obtain ⟨W8,W9,hW8,hW9,hs1,hs2,hs3,hb9,hl9⟩:=HFIN.out wr hbw hb1 hb2 hli
      have f8:=hb1.frozen 8
      have k8:=hb1.cell 8
      have HS1:=Lib.hid hs1
      have HS2:=Lib.hid hs2
      have HS3:=Lib.hid hs3
      have HB9:=Lib.hid hb9
      have HL9:=Lib.hid hl9
      have HW8:=Lib.hid hW8
      have HW9:=Lib.hid hW9
      have HLN:=Lib.hid hln
      clear hs1 hs2 hs3 hb9 hl9 hW8 hW9 hb1 hb2 hra hth hro hli hal hln hbw HFIN
      go_upto_region 15 with fail
      rw [HW8.out]
      go_wp2_with (first | (refine wpList_load_row rfl 28 (.tmp 1) rfl N rfl 28 _ (0,0) _ HS1.out Tryz.underlying28 rfl (by kernel_rfl) ?_) | (refine wpList_store_row rfl 28 (.tmp 2) (.tmp 42) rfl (N+1) #[.int .i64 kind,.bool b,.bool neg,.string dg,.int .i64 ex,.int .u64 u,.int .i64 wd,.string s,.slice (some ⟨g,0,none⟩) k k] rfl rfl 28 _ HS2.out (by kernel_rfl) rfl (by simp [Value.oneCell']) ?_))
      rw [HW9.out]
      refine bodyPost_ret (v:=.agg #[.int .i64 kind,.bool b,.bool neg,.string dg,.int .i64 ex,.int .u64 u,.int .i64 wd,.string s,.slice (some ⟨g,0,none⟩) k k]) (results_cell_row rfl _ _ (N+1) 28 _ (0,0) _ rfl HS3.out Tryz.underlying28 rfl (by kernel_rfl)) rfl ?_
      exact ⟨⟨some ⟨g,0,none⟩,k,by rw [HLN.out],by rw [HLN.out]; exact HL9.out⟩,HB9.out⟩
theorem zo {P:Program} {e:Func} {tmps:Array Value} {W:World} {a s b:Nat} {T t:TypeId} {c:Array Value} {f:Nat×Nat} {d:TypeDesc} {u:Value} (m:e.results = #[.cell a T,.tmp s])
  (g:tmps.getD a undef=.pointer (some ⟨b,0,none⟩)) (h:tmps.getD s undef=u) (l:W.heap[b]? = some (.cells c t f))
  (n:P.underlying T=some d) (j:(match d with | .struct _ | .array _ _=>true | _=>false)=true) (k:(P.info? T).map (·.size)=some c.size) :
  (results e tmps).run P W=.ok (.tuple #[.agg c,u]) W:=by
 unfold results
 rw [m]
 have i:=run_loadVar_row (P:=P) W b t T c f d l n j k
 rw [Array.getD_eq_getD_getElem?]at g h
 simp [Array.mapM_eq_foldlM,g,h,asAddr,i,Result.andThen]
theorem zaU {P:Program} {f:Func} {tmps:Array Value} {W:World} {a s j b:Nat} {T t:TypeId} {c:Array Value} {g:Nat×Nat} {d:TypeDesc} {u u2:Value} (o:f.results = #[.cell a T,.tmp s,.tmp j])
  (h:tmps.getD a undef=.pointer (some ⟨b,0,none⟩)) (i:tmps.getD s undef=u) (e:tmps.getD j undef=u2) (n:W.heap[b]? = some (.cells c t g))
  (p:P.underlying T=some d) (l:(match d with | .struct _ | .array _ _=>true | _=>false)=true) (m:(P.info? T).map (·.size)=some c.size) :
  (results f tmps).run P W=.ok (.tuple #[.agg c,u,u2]) W:=by
 unfold results
 rw [o]
 have k:=run_loadVar_row (P:=P) W b t T c g d n p l m
 rw [Array.getD_eq_getD_getElem?]at h i e
 simp [Array.mapM_eq_foldlM,h,i,e,asAddr,k,Result.andThen]
theorem zb7 {P:Program} {e:Func} {tmps:Array Value} {W:World} {a b:Nat} {T t:TypeId} {c:Array Value} {f:Nat×Nat} {d:TypeDesc} (l:e.results = #[.cell a T])
  (g:tmps.getD a undef=.pointer (some ⟨b,0,none⟩)) (k:W.heap[b]? = some (.cells c t f))
  (m:P.underlying T=some d) (i:(match d with | .struct _ | .array _ _=>true | _=>false)=true) (j:(P.info? T).map (·.size)=some c.size) :
  (results e tmps).run P W=.ok (.agg c) W:=by
 unfold results
 rw [l]
 have h:=run_loadVar_row (P:=P) W b t T c f d k m i j
 rw [Array.getD_eq_getD_getElem?]at g
 simp [Array.mapM_eq_foldlM,g,asAddr,h]
end Go.Proofs.YtonihophanmaaaaGreatDoor
