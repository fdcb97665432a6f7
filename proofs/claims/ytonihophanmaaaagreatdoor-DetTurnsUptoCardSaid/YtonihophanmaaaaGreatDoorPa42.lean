/- The texts CrR, put together. -/
import Derived.Test.YtonihophanmaaaaGreatDoorPa41
namespace Go.Proofs.YtonihophanmaaaaGreatDoor
open Go.RowKit Go.Shelf
attribute [local go_sem] Oper.semAt_some wide_fn wide_depth
set_option maxHeartbeats 8000000 in
set_option maxRecDepth 100000 in
theorem cr_list5 {w0:World} (F d p hi ha:Nat) (hI:ItemC w0 F d) (s:ByteArray) (w:World) (hb0:Below w0.heap.size w0 w) (hp0:w0.heap.size≤p) (hr:RdB w p s (16 - d)) (hs:s.size≤1000000000) (hF:s.size<F) (hq:OkS s) (hha:ha<18446744073709551616) :
  Calls Tryz.prog 147 #[.pointer (some ⟨p,0,none⟩),startV (5,hi,ha)] w (ReadN p (16 - d) (d+1) w s (bindP (listP F (itemP F d) 2 (5,hi,ha)) (fun l=>pureP (listT 8 l)) s.data.toList)):=by
 have hplt:=hr.lt
 have hk1:=Blk.new w #[.int .i64 5,.int .i64 hi,.int .u64 ha] 137
 have z0:=hk1.cell 0
 obtain ⟨n,hn⟩:∃ n,w.heap.size=n:=⟨_,rfl⟩
 have hseq:∃ st:PR (List Tr),listP F (itemP F d) 2 (5,hi,ha) s.data.toList=st∧SeqA Tryz.prog 242 #[.pointer (some ⟨n+5,0,none⟩),.pointer (some ⟨n+4,0,none⟩),.pointer (some ⟨n+6,0,none⟩)] Ev.enc (MvR p (16 - d) s.size) (ItemsKp n (n+5) (n+4) (n+6)) Ev.isOk (fun pre A W=>ItemsT p (16 - d) A.heap.size d s.size pre W)
   (ItemsS p (16 - d) s.size st) (ItemsSp st) (fun W=>ItemsA w0 p (16 - d) (n+5) (n+4) (n+6) 2 (5,hi,ha) s W∧n+7≤W.heap.size):=by
  by_cases h31:hi=31
  ·subst h31
   exact ⟨_,rfl,items_open F d p (n+7) n (n+5) (n+4) (n+6) 2 5 ha s hI hp0 (by omega) (by omega) (by omega) (by omega) (.inr rfl) hs hF hq⟩
  ·refine ⟨_,rfl,?_⟩
   have h:=items_num F d p (n+7) n (n+5) (n+4) (n+6) 2 5 hi ha s hI hp0 (by omega) (by omega) (by omega) (by omega) (.inr rfl) hs hF hq h31 hha
   have e:listP F (itemP F d) 2 (5,hi,ha) s.data.toList=timesP (itemP F d) (2*ha) [] s.data.toList:=by
    unfold listP
    rw [if_neg h31]
   rw [e]
   exact h
 obtain ⟨st,hst,hseq⟩:=hseq
 have hbp:=bind_pure (listP F (itemP F d) 2 (5,hi,ha)) (listT 8) s.data.toList
 rw [hst]at hbp
 rw [hbp]
 obtain ⟨dp,hdp⟩:∃ dp,16 - d=dp:=⟨_,rfl⟩
 rw [hdp]at hr hseq ⊢
 clear hst hbp hdp hI hq
 refine calls_of_marks Tryz.func147 rfl ?_
 simp only [Tryz.ntmps147,List.size_toArray,List.length_cons,List.length_nil,Nat.reduceAdd,Nat.reduceSub,Array.replicate_succ,Array.replicate_zero,List.push_toArray,List.append_toArray,List.nil_append,List.cons_append]
 rw [hn]at z0
 go_wp2_with fail
 go_step3
 go_wp2_with fail
 go_step3
 go_wp2_with fail
 refine (cr_items p 5 hi ha 2 _).mono ?_
 rintro e w5 ⟨rfl,hw5⟩
 simp only [World.size_alloc]
 rw [hn]
 have hz5:w5.heap.size=n+7:=by rw [hw5]; simp [hn]
 have hB5:Below w.heap.size w w5:=by
  rw [hw5]
  exact ((((((Below.refl _ w).alloc (Nat.le_refl _) _).alloc (by simp) _).alloc (by simp; omega) _).alloc (by simp; omega) _).alloc (by simp; omega) _).alloc (by simp; omega) _ |>.alloc (by simp; omega) _
 have hR5:RdB w5 p s dp:=hr.below hB5 hr.lt
 have hK1:Blk w5 (n+1) #[.int .i64 0,.bool false,.bool false,.string ⟨#[]⟩,.int .i64 0,.int .u64 0,.int .i64 0,.string ⟨#[]⟩,.slice none 0 0] 28:=by
  rw [hw5]
  exact ((((((blk_at (by simp [hn]) _ _).alloc _).alloc _).alloc _).alloc _).alloc _)
 have hK2:Blk w5 (n+2) #[.int .i64 8,.bool false,.bool false,.string ⟨#[]⟩,.int .i64 0,.int .u64 0,.int .i64 0,.string ⟨#[]⟩,.slice none 0 0] 28:=by
  rw [hw5]
  exact (((((blk_at (by simp [hn]) _ _).alloc _).alloc _).alloc _).alloc _)
 have hK3:Blk w5 (n+3) #[.nilIface] 48:=by
  rw [hw5]
  exact ((((blk_at (by simp [hn]) _ _).alloc _).alloc _).alloc _)
 have hK4:Blk w5 (n+4) #[.pointer (some ⟨p,0,none⟩)] 84:=by
  rw [hw5]
  exact (((blk_at (by simp [hn]) _ _).alloc _).alloc _)
 have hK5:Blk w5 (n+5) #[.int .i64 5,.int .i64 hi,.int .u64 ha] 137:=by
  rw [hw5]
  exact ((blk_at (by simp [hn]) _ _).alloc _)
 have hK6:Blk w5 (n+6) #[.int .i64 (2:Nat)] 3:=by
  rw [hw5]
  exact (blk_at (by simp [hn]) _ _)
 have hb5:=hb0.trans (hB5.mono hb0.size)
 have hg5:w.grownBy w5 (some p):=below_grown hB5 _
 clear hw5 hB5 z0 hk1 hr
 go_wp2_with fail
 refine wp_rangeFuncA (gf:=242) (lb:=#[.pointer (some ⟨n+5,0,none⟩),.pointer (some ⟨n+4,0,none⟩),.pointer (some ⟨n+6,0,none⟩)]) rfl (enters_of Tryz.func242 (by kernel_rfl) rfl)
  hseq ?hMv ?hA0 ?hKt ?hKb ?hps (ListI n 8 d p s.size w) (ListX n 8 dp p s.size w) ?hI ?hIx ?hIM ?hIxM ?h0 ?hCt
  (ListA n 8 d dp p s.size) ?hAx ?assign ?body ?hS ?hSp ?done ?stop
 case hMv =>
  intro A B k o hM hk ho _
  exact (hM.1.block k (Array.getElem?_eq_some_iff.1 ho).1 (fun e=>by cases e; omega)).trans ho
 case hA0 =>
  intro o o'
  exact ⟨⟨(hb5.alloc hb5.size o).alloc (by have:=hb5.size; simp; omega) o',(hR5.alloc o).alloc o',(hK5.alloc o).alloc o',(hK4.alloc o).alloc o',(hK6.alloc o).alloc o'⟩,by simp; omega⟩
 case hKt =>
  intro A B C h1 h2
  have hz:=h1.1.size
  exact ⟨h1.1.trans h2.1,fun hp=>(h2.2.1 (by omega)).trans (h1.2.1 hp),fun hp=>(h2.2.2.1 (by omega)).trans (h1.2.2.1 hp),fun hp=>(h2.2.2.2 (by omega)).trans (h1.2.2.2 hp)⟩
 case hKb =>
  intro W l o o' hl ho hc
  have hlt:=(Array.getElem?_eq_some_iff.1 ho).1
  exact ⟨(Below.refl _ W).grown (grownBy_putObj' W l o') (by omega) (fun k e=>by cases e; omega),fun _=>World.putObj_heap_other (by omega),fun _=>World.putObj_heap_other (by omega),fun _=>World.putObj_heap_other (by omega)⟩
 case hps =>
  intro x
  cases x <;> rfl
 case hI=>exact listI_own _ _ _ _ _ _ (by omega) hn
 case hIx=>exact fun c=>listX_own _ _ _ _ _ _ (by omega) hn c
 case hIM =>
  rintro s' X Y ⟨h1,h2,h3,h4,v,xs,h5,h6,h7⟩ ⟨hg,_⟩
  have hv:v.ownBlock≠some p:=fun e=>by
   have:=(h6.lt p e).1
   omega
  refine ⟨⟨h1.1,Nat.le_trans h1.2 hg.size⟩,grown_trans h2 hg,RdB.grown h3 hg (by omega),RdB.grown h4 hg (by omega),v,xs,RdB.grown h5 hg (by omega),h6.kept hg (.inr hv),?_⟩
  refine (h7.keep (fun q hq=>hg.block q hq.2.1 (fun e=>?_))).mono (fun q hq=>⟨hq.1,Nat.lt_of_lt_of_le hq.2.1 hg.size,hq.2.2⟩)
  have:q=p:=by first | exact Option.some.inj e | exact (Option.some.inj e).symm
  omega
 case hIxM =>
  rintro c s' X Y ⟨h1,h2,h3,⟨xs,o,v,e,h4,h5,h6⟩,⟨A,m,c',h7⟩,h8⟩ ⟨hg,hx⟩
  exact ⟨h1,grown_trans h2 hg,RdB.grown h3 hg (by omega),⟨xs,o,v,e,h4,h5,RdB.grown h6 hg (by omega)⟩,⟨A,m,c',RdB.grown h7 hg (by omega)⟩,hx h8⟩
 case h0=>exact ⟨⟨⟨by simp,by simp⟩,by omega⟩,hg5,hK1,hK3,.slice none 0 0,[],hK2,World.ownsRow_nil _ _ _ _,rfl⟩
 case hCt =>
  rintro pre x W ⟨h1,_⟩
  exact h1.1.1 x (List.mem_append_right _ (List.mem_singleton.2 rfl))
 case hAx =>
  rintro pre x a' u X Y row ⟨k,hk1,hk2,hk3,h1,b,h2,h3⟩ hg hr
  have hr2:=fun r e=>(hr r e).2
  refine ⟨k,hk1,Nat.le_trans hk2 hg.size,fun v hv=>hk3 v ?_,itemsT_own _ _ _ _ _ _ h1 hg hr2,b,⟨h2.1,Nat.lt_of_lt_of_le h2.2 hg.size⟩,?_⟩
  ·exact (hg.block (n+2) (by omega) (fun e=>by have:=(hr (n+2) e.symm).1; omega)).symm.trans hv
  cases x with
  | ok t v=>exact ⟨blkC h3.1 hg hr2,h3.2⟩
  | no o v e=>exact ⟨blkC h3.1 hg hr2,h3.2⟩
 case hS =>
  rintro s' X Y row ⟨h1,r,h2,h3,h4⟩ hg hr
  exact ⟨h1,r,h2,blkC h3 hg (fun r e=>(hr r e).2),h4⟩
 case hSp =>
  intro s' X Y row hs _ _
  exact hs
 case assign =>
  rintro l pre x A0 W K hIA hmv hI hT hK
  have hT:ItemsT p dp A0.heap.size d s.size (pre++[x]) W:=hT
  have hz:=hI.2.1.size
  have hzo:=hIA.1.2
  have hkz:=hmv.1.size
  have hnb1:∀ (o:Obj) (v:Value),Blk (W.alloc o) (n+2) #[.int .i64 8,.bool false,.bool false,.string ⟨#[]⟩,.int .i64 0,.int .u64 0,.int .i64 0,.string ⟨#[]⟩,v] 28→∀ q,v.ownBlock=some q→q<A0.heap.size:=fun o v hv q e=>by
   obtain ⟨⟨_,hA7⟩,_,_,_,v0,xs0,hb20,hown0,_⟩:=hIA
   have h1:Blk (W.alloc o) (n+2) _ _:=(RdB.grown hb20 hmv.1 (by omega)).alloc o
   have h2:(some (Obj.cells _ _ _):Option Obj)=some (Obj.cells _ _ _):=h1.symm.trans hv
   injection h2 with h2
   injection h2 with h2 _ _
   have h3:v0=v:=by
    have:=congrArg (fun a:Array Value=>a[8]?) h2
    simpa using this
   exact (hown0.lt q (by rw [h3]; exact e)).2
  clear hIA hmv
  cases x with
  | ok t v =>
   obtain ⟨⟨A,m,c,rfl⟩,hly,hot,hxl⟩:=hT.2 pre _ rfl
   have hI2:=(listI_own n 8 d p s.size w (B:=n+7) (Nat.le_refl _) hn) pre W (W.alloc (.cells (cellsV t.own (.slice A m c)) 28)) none hI (World.grownBy_alloc _ _ _) (fun r e=>by cases e)
   have hT2:=itemsT_own p dp A0.heap.size d s.size (pre++[.ok t (.slice A m c)]) hT (World.grownBy_alloc W (.cells (cellsV t.own (.slice A m c)) 28) none) (fun r e=>by cases e)
   have hBl:=Blk.new W (cellsV t.own (.slice A m c)) 28
   have hnb:=hnb1 (.cells (cellsV t.own (.slice A m c)) 28)
   have HNB:=Lib.hid hnb
   have HI2:=Lib.hid hI2
   have HT2:=Lib.hid hT2
   have HB:=Lib.hid hBl
   have HK:=Lib.hid hK
   clear hK hI hT hly hot hI2 hT2 hBl hnb hnb1
   unfold cellsV at HI2 HB HT2 HNB
   simp only [Ev.enc]
   unfold nodeV
   gi_wp2
   exact HK.out _ _ (keeps_below ((Below.refl _ _).alloc (Nat.le_refl _) _)) ⟨(Below.refl _ _).alloc (by omega) _,fun h=>Below.heap_alloc _ _ _ h,fun h=>Below.heap_alloc _ _ _ h,fun h=>Below.heap_alloc _ _ _ h⟩ HI2.out ⟨A0.heap.size,hzo,by simp; omega,HNB.out,HT2.out,_,⟨hkz,by simp⟩,HB.out,rfl⟩
  | no o v e =>
   obtain ⟨⟨A,m,c,rfl⟩,hne,hrx⟩:=hT.2 pre _ rfl
   have hI2:=(listI_own n 8 d p s.size w (B:=n+7) (Nat.le_refl _) hn) pre W (W.alloc (.cells (cellsV o (.slice A m c)) 28)) none hI (World.grownBy_alloc _ _ _) (fun r e=>by cases e)
   have hT2:=itemsT_own p dp A0.heap.size d s.size (pre++[.no o (.slice A m c) e]) hT (World.grownBy_alloc W (.cells (cellsV o (.slice A m c)) 28) none) (fun r e=>by cases e)
   have hBl:=Blk.new W (cellsV o (.slice A m c)) 28
   have hnb:=hnb1 (.cells (cellsV o (.slice A m c)) 28)
   have HNB:=Lib.hid hnb
   have HI2:=Lib.hid hI2
   have HT2:=Lib.hid hT2
   have HB:=Lib.hid hBl
   have HK:=Lib.hid hK
   obtain ⟨ev,hev⟩:∃ ev,errW e=ev:=⟨_,rfl⟩
   have HEV:=Lib.hid hev
   clear hK hI hT hrx hI2 hT2 hBl hnb hnb1
   unfold cellsV at HI2 HB HT2 HNB
   simp only [Ev.enc]
   unfold nodeV
   rw [hev]
   clear hev
   gi_wp2
   exact HK.out _ _ (keeps_below ((Below.refl _ _).alloc (Nat.le_refl _) _)) ⟨(Below.refl _ _).alloc (by omega) _,fun h=>Below.heap_alloc _ _ _ h,fun h=>Below.heap_alloc _ _ _ h,fun h=>Below.heap_alloc _ _ _ h⟩ HI2.out ⟨A0.heap.size,hzo,by simp; omega,HNB.out,HT2.out,_,⟨hkz,by simp⟩,HB.out,by rw [HEV.out]; rfl⟩
 case body =>
  rintro l pre x a' W hl _ ⟨⟨h1,hz⟩,hg,hb1,hb3,v,xs,hb2,hown,hrow⟩ ⟨k,hk7,hkz,hnb,hT,b,⟨hb,hblt⟩,ha⟩
  have c3:=hb3.cell 0
  have f3:=hb3.frozen 0
  cases x with
  | no o v' e =>
   obtain ⟨⟨A,m,c,rfl⟩,hne,hrx⟩:=hT.2 pre _ rfl
   obtain ⟨hbx,rfl⟩:=ha
   simp only [List.setIfInBounds_toArray,List.set_cons_zero,List.set_cons_succ]
   have hs3:=hb3.set 0 (errW e)
   obtain ⟨A2,c2,rfl⟩:=own_sliceT hown
   obtain ⟨y,hy⟩:∃ y,errW e=.iface 144 y:=⟨_,errW_ne hne⟩
   have HY:=Lib.hid hy
   rw [hy]at hs3 ⊢
   clear hy hT
   gi_wp2_with fail
   obtain ⟨s',hr',hs'⟩:=hrx
   exact ⟨(KeepsOthers.setCell W _ _).from _,rfl,grown_at hg (grown_set W (n+3) 0 _) (by omega),hb1.other (by omega) 0 _,⟨pre,o,_,e,rfl,hne,by rw [HY.out]; exact hs3⟩,⟨A2,pre.length,c2,hb2.other (by omega) 0 _⟩,s',hr'.other (by omega) 0 _,hs'⟩
  | ok t v' =>
   obtain ⟨⟨A,m,c,rfl⟩,hly,hot,hxl⟩:=hT.2 pre _ rfl
   obtain ⟨hbx,rfl⟩:=ha
   simp only [List.setIfInBounds_toArray,List.set_cons_zero,List.set_cons_succ]
   clear hT
   obtain ⟨A2,c2,rfl⟩:=own_sliceT hown
   have hnb0:=hnb _ hb2
   have hzl:=treesE_len h1.1
   obtain ⟨gn,hgn⟩:∃ gn,pre.length=gn:=⟨_,rfl⟩
   rw [hgn]at hown hb2 hrow hnb0 hxl hzl
   have hxs:xs.length=gn*9:=by rw [hrow.len,hzl]
   obtain ⟨⟨kind3,b3,neg3,dg3,ex3,u3,wd3,s3⟩,ho3⟩:∃ o,t.own=o:=⟨_,rfl⟩
   rw [ho3]at hbx hot
   obtain ⟨i0,hi,hz0,hz1,hz2⟩:=info_parts infoNode
   have HI:=Lib.hid hi
   have HZ0:=Lib.hid hz0
   have HZ1:=Lib.hid hz1
   have HZ2:=Lib.hid hz2
   clear hi hz0 hz1 hz2
   gi_wp2_with fail
   obtain ⟨W0,hW0⟩:∃ W0,W.setCell ⟨n+1+1+1,0,none⟩ .nilIface=W0:=⟨_,rfl⟩
   have hb10:Blk W0 (n+1) #[.int .i64 0,.bool false,.bool false,.string ⟨#[]⟩,.int .i64 0,.int .u64 0,.int .i64 0,.string ⟨#[]⟩,.slice none 0 0] 28:=by rw [← hW0]; exact hb1.other (by omega) 0 _
   have hb20:Blk W0 (n+2) #[.int .i64 8,.bool false,.bool false,.string ⟨#[]⟩,.int .i64 0,.int .u64 0,.int .i64 0,.string ⟨#[]⟩,.slice A2 gn c2] 28:=by rw [← hW0]; exact hb2.other (by omega) 0 _
   have hb30:Blk W0 (n+3) #[.nilIface] 48:=by rw [← hW0]; exact hb3.set 0 _
   have hbx0:Blk W0 b #[.int .i64 kind3,.bool b3,.bool neg3,.string dg3,.int .i64 ex3,.int .u64 u3,.int .i64 wd3,.string s3,.slice A m c] 28:=by rw [← hW0]; exact hbx.other (by omega) 0 _
   have hown0:W0.ownsRow (n+7) 28 9 (.slice A2 gn c2) gn xs:=by rw [← hW0]; exact ownsRow_setCell_other hown (a:=⟨n+1+1+1,0,none⟩) (fun e=>by have:=(hown.lt (n+3) e).1; omega) _
   have hs0:W0.heap.size=W.heap.size:=by rw [← hW0]; simp [World.setCell]
   have hbs:b<W0.heap.size:=by omega
   rw [hW0]
   refine wpIn_region_allG (R:=ModL n W0.heap.size (.slice A2 gn c2)) (by kernel_rfl) (by kernel_rfl) (fun _=>ModL.refl _ _ _ _) (by kernel_rfl) (by kernel_rfl) (ModL n W0.heap.size (.slice A2 gn c2) W0)
    [fun env _=>env 0=.pointer (some ⟨n+2,8,none⟩),fun env _=>env 1=.slice A2 gn c2,fun env _=>env 2=.agg #[.int .i64 kind3,.bool b3,.bool neg3,.string dg3,.int .i64 ex3,.int .u64 u3,.int .i64 wd3,.string s3,.slice A m c],fun env _=>env 3=.int .i64 gn,fun env _=>∃ zb,env 4=.slice (some ⟨zb,0,none⟩) 1 1,
     fun env _=>∃ g cap,env 5=.slice (some ⟨g,0,none⟩) (gn+1) cap∧((Value.slice A2 gn c2).ownBlock=some g∨W0.heap.size≤g),fun env _=>∃ g cap,env 5=.slice (some ⟨g,0,none⟩) (gn+1) cap∧((Value.slice A2 gn c2).ownBlock=some g∨W0.heap.size≤g)∧env 6=.pointer (some ⟨g,gn*9,none⟩),fun _ _=>True,fun env _=>env 8=.pointer (some ⟨n+2,8,none⟩),fun _ _=>True]
    (ChiL n W0.heap.size gn (.slice A2 gn c2) (fun v=>#[.int .i64 8,.bool false,.bool false,.string ⟨#[]⟩,.int .i64 0,.int .u64 0,.int .i64 0,.string ⟨#[]⟩,v]) xs [.int .i64 kind3,.bool b3,.bool neg3,.string dg3,.int .i64 ex3,.int .u64 u3,.int .i64 wd3,.string s3,.slice A m c] [.int .i64 0,.bool false,.bool false,.string ⟨#[]⟩,.int .i64 0,.int .u64 0,.int .i64 0,.string ⟨#[]⟩,.slice none 0 0]) ?_ ?_ ?_ ?_ ?_ ?_
   case refine_1=>exact ⟨Below.drew (Below.refl _ _),fun _ _ _ _=>rfl,⟨Nat.le_refl _,fun _ _ _ h _=>h⟩⟩
   case refine_2=>exact fun _=>⟨⟨fun h=>(nomatch h),fun h=>(nomatch h),fun h=>(nomatch h)⟩,hb20,fun _=>hown0,fun h=>(nomatch h),fun h=>(nomatch h)⟩
   case refine_3=>exact fun A B hE hR=>hE.trans hR
   case refine_4 =>
    intro i o env env' A B ho hk _ hp _
    have e:∀ k,k=i→env' k=env k:=fun k h=>(hk k (.inl h)).symm
    unfold phisG at hp ⊢
    match i,ho,hp,e with
    | 0,_,hp,e=>exact (e 0 rfl).trans hp
    | 1,_,hp,e=>exact (e 1 rfl).trans hp
    | 2,_,hp,e=>exact (e 2 rfl).trans hp
    | 3,_,hp,e=>exact (e 3 rfl).trans hp
    | 4,_,hp,e=>obtain ⟨zb,hp⟩:=hp; exact ⟨zb,(e 4 rfl).trans hp⟩
    | 5,_,hp,e=>obtain ⟨g,cap,hp,h⟩:=hp; exact ⟨g,cap,(e 5 rfl).trans hp,h⟩
    | 6,ho,hp,e =>
     obtain ⟨g,cap,hp,hq,h⟩:=hp
     have hw5:waitsFor o 5=true:=by
      rw [← Option.some.inj ho]
      first | kernel_rfl | decide +kernel
     have h5:=hk 5 (.inr hw5)
     exact ⟨g,cap,h5.symm.trans hp,hq,(e 6 rfl).trans h⟩
    | 7,_,_,_=>trivial
    | 8,_,hp,e=>exact (e 8 rfl).trans hp
    | 9,_,_,_=>trivial
    | i+10,ho,_,_=>simp at ho
   case refine_5 =>
    refine flow_consG (flow_opG rfl rfl (by kernel_rfl) (by kernel_rfl) ?_) ?_
    ·intro sel env W hE hn hx hs hwt ρ hρ hc hf hg K hK
     have r6:ρ (.tmp 6)=.pointer (some ⟨n+2,0,none⟩):=by rw [hρ]; kernel_rfl
     clear hρ hg
     simp [opLands,go_sem,r6]
     exact hK _ _ (updV_self _ _ _) (chiL_pure hx 0 _ (by decide) (by decide) (by decide) (by decide)) (ModL.refl _ _ _ _)
    refine flow_consG (flow_opG rfl rfl (by kernel_rfl) (by kernel_rfl) ?_) ?_
    ·intro sel env W hE hn hx hs hwt ρ hρ hc hf hg K hK
     have r25:=(show ρ (.tmp 25)=env 0 by rw [hρ]; kernel_rfl).trans (hn 0 (hwt 0 (by kernel_rfl)))
     clear hρ hg
     have h9:sel 9=false:=by
      cases h:sel 9 with
      | false=>rfl
      | true=>rw [hx.1.1 h]at hs; cases hs
     have q0:W.cell? ⟨n+2,8,none⟩=some (.slice A2 gn c2):=by
      have:=hx.2.1
      rw [h9]at this
      exact this.cell 8
     simp [opLands,go_sem,r25,q0]
     exact hK _ _ (updV_self _ _ _) (chiL_pure hx 1 _ (by decide) (by decide) (by decide) (by decide)) (ModL.refl _ _ _ _)
    refine flow_consG (flow_opG rfl rfl (by kernel_rfl) (by kernel_rfl) ?_) ?_
    ·intro sel env W hE hn hx hs hwt ρ hρ hc hf hg K hK
     have r9:ρ (.tmp 9)=.pointer (some ⟨b,0,none⟩):=by rw [hρ]; kernel_rfl
     clear hρ hg
     exact lands_load_row 28 (.tmp 9) rfl b r9 28 _ (0,0) _ ((hE.2.1 b hbs (by omega) (fun e=>by have:=hnb0 b e; omega)).trans hbx0) Tryz.underlying28 rfl (by kernel_rfl) (hK _ _ (updV_self _ _ _) (chiL_pure hx 2 _ (by decide) (by decide) (by decide) (by decide)) (ModL.refl _ _ _ _))
    refine flow_consG (flow_opG rfl rfl (by kernel_rfl) (by kernel_rfl) ?_) ?_
    ·intro sel env W hE hn hx hs hwt ρ hρ hc hf hg K hK
     have r26:=(show ρ (.tmp 26)=env 1 by rw [hρ]; kernel_rfl).trans (hn 1 (hwt 1 (by kernel_rfl)))
     clear hρ hg
     simp [opLands,go_sem,r26]
     exact hK _ _ (updV_self _ _ _) (chiL_pure hx 3 _ (by decide) (by decide) (by decide) (by decide)) (ModL.refl _ _ _ _)
    refine flow_consG (flow_opG rfl rfl (by kernel_rfl) (by kernel_rfl) ?_) ?_
    ·intro sel env W hE hn hx hs hwt ρ hρ hc hf hg K hK
     clear hρ hg
     simp [opLands,go_sem,hc]
     obtain ⟨a1,a2,a3,a4,a5⟩:=hx
     have hsz:=hE.1.size
     refine hK _ _ ⟨W.heap.size,updV_self _ _ _⟩ ?_ (ModL.of (World.grownBy_alloc _ _ none) (by omega) (by omega) (fun g e=>by cases e))
     unfold ChiL
     rw [updB_ne sel (show (9:Nat)≠4 by decide),updB_ne sel (show (1:Nat)≠4 by decide),updB_ne sel (show (5:Nat)≠4 by decide),updB_ne sel (show (7:Nat)≠4 by decide),updV_ne env _ (show (5:Nat)≠4 by decide),updV_self]
     exact ⟨a1,a2.alloc _,fun h=>(a3 h).alloc _,fun h=>(a4 h).alloc _,fun _ _=>⟨_,rfl,by omega,Blk.new _ _ _⟩⟩
    refine flow_consG (flow_opG rfl rfl (by kernel_rfl) (by kernel_rfl) ?_) ?_
    ·intro sel env W hE hn hx hs hwt ρ hρ hc hf hg K hK
     have r26:=(show ρ (.tmp 26)=env 1 by rw [hρ]; kernel_rfl).trans (hn 1 (hwt 1 (by kernel_rfl)))
     obtain ⟨zb,e29⟩:=(hn 4 (hwt 4 (by kernel_rfl)))
     have r29:=(show ρ (.tmp 29)=env 4 by rw [hρ]; kernel_rfl).trans e29
     clear hρ hg
     obtain ⟨⟨a1,a1',a1''⟩,a2,a3,a4,a5⟩:=hx
     have hsz:=hE.1.size
     obtain ⟨zb',ez,hzb,hzk⟩:=a5 (hwt 4 (by kernel_rfl)) hs
     have hzz:zb'=zb:=by
      rw [e29]at ez
      injection ez with ez
      injection ez with ez
      injection ez with ez
      exact ez.symm
     subst hzz
     have h9:sel 9=false:=by
      cases h:sel 9 with
      | false=>rfl
      | true=>rw [a1' h]at hs; cases hs
     have h7:sel 7=false:=by
      cases h:sel 7 with
      | false=>rfl
      | true=>rw [a1'' h]at hs; cases hs
     obtain ⟨g,cap,w',hrun,hown',hgr,hat,hlt⟩:=run_append_lies (P:=Tryz.prog) W 26 26 (n+7) 28 i0 _ 9 104 Tryz.underlying26 HI.out HZ0.out HZ1.out HZ2.out rfl (by decide) (.slice A2 gn c2) gn xs (a3 hs) ⟨zb',0,none⟩ 1 1 [.int .i64 0,.bool false,.bool false,.string ⟨#[]⟩,.int .i64 0,.int .u64 0,.int .i64 0,.string ⟨#[]⟩,.slice none 0 0] rfl (fun j u hu=>by
      have:=hzk.cell j
      rw [show (⟨zb',0,none⟩:Addr).add j=⟨zb',j,none⟩ by unfold Addr.add; split <;> rename_i q <;> simp_all]
      rw [this,← hu]
      simp) (by decide) (by decide) (by unfold maxLen; omega) (by omega) (by omega) W.heap.size rfl
     refine lands_append (.tmp 26) (.tmp 29) 26 rfl (.slice A2 gn c2) (.slice (some ⟨zb',0,none⟩) 1 1) _ w' r26 r29 hrun (hK _ _ ⟨g,cap,updV_self _ _ _,by rcases hat with h | h; exact .inl h; exact .inr (by omega)⟩ ?_ (ModL.of hgr (by omega) (by omega) (fun g' e=>⟨by have:=((a3 hs).lt g' e).1; omega,.inr (.inl e),.inr (fun o ho=>by
      obtain ⟨o',ho',hc'⟩:=row_cells (a3 hs) e
      rw [ho]at ho'
      cases ho'
      exact hc')⟩)))
     unfold ChiL
     rw [updB_ne sel (show (9:Nat)≠5 by decide),updB_ne sel (show (1:Nat)≠5 by decide),updB_self,updB_ne sel (show (7:Nat)≠5 by decide),h9,h7]
     refine ⟨⟨fun h=>(nomatch h),fun h=>(nomatch h),fun h=>(nomatch h)⟩,?_,fun h=>(nomatch h),fun _=>(by rw [updV_self]; exact hown'),fun _ h=>(nomatch h)⟩
     rw [h9]at a2
     exact (hgr.block (n+2) a2.lt (fun e=>by have:=((a3 hs).lt (n+2) (by first | exact e.symm | exact e)).1; omega)).trans a2
    refine flow_consG (flow_opG rfl rfl (by kernel_rfl) (by kernel_rfl) ?_) ?_
    ·intro sel env W hE hn hx hs hwt ρ hρ hc hf hg K hK
     obtain ⟨g,cap,e30,hgw⟩:=(hn 5 (hwt 5 (by kernel_rfl)))
     have r30:=(show ρ (.tmp 30)=env 5 by rw [hρ]; kernel_rfl).trans e30
     have r28:=(show ρ (.tmp 28)=env 3 by rw [hρ]; kernel_rfl).trans (hn 3 (hwt 3 (by kernel_rfl)))
     clear hρ hg
     have y6:(gn:Int)<(gn:Int)+1:=by omega
     simp [opLands,go_sem,r30,r28,y6]
     exact hK _ _ ⟨g,cap,(updV_ne env _ (show (5:Nat)≠6 by decide)).trans e30,hgw,updV_self _ _ _⟩ (chiL_pure hx 6 _ (by decide) (by decide) (by decide) (by decide)) (ModL.refl _ _ _ _)
    refine flow_consG (flow_op0G rfl rfl (by kernel_rfl) rfl ?_) ?_
    ·intro sel env W hE hn hx hs hwt ρ hρ hc hf hg K hK
     obtain ⟨g,cap,e30,hgw,e31⟩:=(hn 6 (hwt 6 (by kernel_rfl)))
     have r31:=(show ρ (.tmp 31)=env 6 by rw [hρ]; kernel_rfl).trans e31
     have r27:=(show ρ (.tmp 27)=env 2 by rw [hρ]; kernel_rfl).trans (hn 2 (hwt 2 (by kernel_rfl)))
     clear hρ hg
     obtain ⟨⟨a1,a1',a1''⟩,a2,a3,a4,a5⟩:=hx
     have hsz:=hE.1.size
     have s5:=hwt 5 (by kernel_rfl)
     have hrow7:=a4 s5
     rw [hs,if_neg (by decide),e30]at hrow7
     have hgl:=hrow7.lt g rfl
     refine lands_store_mid 28 (.tmp 31) (.tmp 27) rfl g (gn*9) #[.int .i64 kind3,.bool b3,.bool neg3,.string dg3,.int .i64 ex3,.int .u64 u3,.int .i64 wd3,.string s3,.slice A m c] r31 r27 (row_there hrow7) (by kernel_rfl) (by simp [Value.oneCell']) (hK _ _ trivial ?_ (ModL.of (grown_setCells g _ _ W) (by omega) (by omega) (fun g' e=>by
      cases e
      obtain ⟨o',ho',hc'⟩:=row_cells hrow7 rfl
      refine ⟨by omega,?_,.inr (fun o ho=>?_)⟩
      ·rcases hgw with h | h
       ·exact .inr (.inl h)
       ·exact .inr (.inr h)
      ·rw [ho]at ho'
       cases ho'
       exact hc')))
     unfold ChiL
     rw [updB_ne sel (show (9:Nat)≠7 by decide),updB_ne sel (show (1:Nat)≠7 by decide),updB_ne sel (show (5:Nat)≠7 by decide),updB_self,updB_ne sel (show (4:Nat)≠7 by decide)]
     refine ⟨⟨a1,a1',fun _=>s5⟩,?_,fun h=>(by rw [s5]at h; cases h),fun _=>?_,fun _ h=>(by rw [s5]at h; cases h)⟩
     ·exact ((grown_setCells g _ _ W).block (n+2) a2.lt (fun e=>by cases e; omega)).trans a2
     ·rw [if_pos rfl,updV_ne env undef (show (5:Nat)≠7 by decide),e30]
      exact row_setLast hrow7 hxs rfl
    refine flow_consG (flow_opG rfl rfl (by kernel_rfl) (by kernel_rfl) ?_) ?_
    ·intro sel env W hE hn hx hs hwt ρ hρ hc hf hg K hK
     have r6:ρ (.tmp 6)=.pointer (some ⟨n+2,0,none⟩):=by rw [hρ]; kernel_rfl
     clear hρ hg
     simp [opLands,go_sem,r6]
     exact hK _ _ (updV_self _ _ _) (chiL_pure hx 8 _ (by decide) (by decide) (by decide) (by decide)) (ModL.refl _ _ _ _)
    refine flow_consG (flow_op0G rfl rfl (by kernel_rfl) rfl ?_) flow_nilG
    ·intro sel env W hE hn hx hs hwt ρ hρ hc hf hg K hK
     have r32:=(show ρ (.tmp 32)=env 8 by rw [hρ]; kernel_rfl).trans (hn 8 (hwt 8 (by kernel_rfl)))
     obtain ⟨g,cap,e30,hgw⟩:=(hn 5 (hwt 5 (by kernel_rfl)))
     have r30:=(show ρ (.tmp 30)=env 5 by rw [hρ]; kernel_rfl).trans e30
     clear hρ hg
     obtain ⟨⟨a1,a1',a1''⟩,a2,a3,a4,a5⟩:=hx
     have hsz:=hE.1.size
     have s5:=hwt 5 (by kernel_rfl)
     have s1:=hwt 1 (by kernel_rfl)
     rw [hs,if_neg (by decide)]at a2
     have q0:W.cell? ⟨n+2,8,none⟩=some (.slice A2 gn c2):=a2.cell 8
     have f0:=a2.frozen 8
     have hrow9:=a4 s5
     have hgl:=hrow9.lt g (by rw [e30]; rfl)
     simp [opLands,go_sem,r32,r30,q0,f0]
     refine hK _ _ trivial ?_ (ModL.of (grown_set W (n+2) 8 _) (by omega) (by omega) (fun g' e=>by cases e; exact ⟨by omega,.inl rfl,.inl (by omega)⟩))
     unfold ChiL
     rw [updB_self,updB_ne sel (show (1:Nat)≠9 by decide),updB_ne sel (show (5:Nat)≠9 by decide),updB_ne sel (show (7:Nat)≠9 by decide),updB_ne sel (show (4:Nat)≠9 by decide)]
     refine ⟨⟨fun _=>s1,fun _=>s5,a1''⟩,?_,fun h=>(by rw [s5]at h; cases h),fun _=>?_,fun _ h=>(by rw [s5]at h; cases h)⟩
     ·rw [if_pos rfl,updV_ne env undef (show (5:Nat)≠9 by decide),e30]
      exact a2.set 8 _
     ·rw [updV_ne env undef (show (5:Nat)≠9 by decide)]
      exact ownsRow_setCell_other hrow9 (a:=⟨n+2,8,none⟩) (fun e=>by have:=(hrow9.lt (n+2) e).1; omega) _
   case refine_6 =>
    intro env W2 hE hn2 hx
    obtain ⟨g,cap,e5,hg5⟩:=hn2 5 (by decide)
    have q2:Blk W2 (n+2) #[.int .i64 8,.bool false,.bool false,.string ⟨#[]⟩,.int .i64 0,.int .u64 0,.int .i64 0,.string ⟨#[]⟩,env 5] 28:=hx.2.1
    have q4:W2.ownsRow (n+7) 28 9 (env 5) (gn+1) (xs++[.int .i64 kind3,.bool b3,.bool neg3,.string dg3,.int .i64 ex3,.int .u64 u3,.int .i64 wd3,.string s3,.slice A m c]):=hx.2.2.2.1 rfl
    rw [e5]at q2 q4
    have hgS:W.grownBy W0 (some (n+3)):=by rw [← hW0]; exact grown_set W (n+3) 0 _
    have hB0:Below n W W0:=(Below.refl _ W).grown hgS (by omega) (fun k e=>by cases e; omega)
    have hB2:Below n W W2:=hB0.trans hE.1
    have hoz:∀ q,(Value.slice A2 gn c2).ownBlock=some q→n+7≤q:=fun q e=>(hown0.lt q e).1
    have hz2:=hE.1.size
    have same:∀ q,q<W.heap.size→q≠n+2→q≠n+3→(Value.slice A2 gn c2).ownBlock≠some q→W2.heap[q]? = W.heap[q]? := fun q h1 h2 h3 h4 =>
     (hE.2.1 q (by omega) h2 h4).trans (hgS.block q h1 (fun e=>h3 (by first | exact Option.some.inj e | exact (Option.some.inj e).symm)))
    have hgq:∀ q,q<W.heap.size→(Value.slice A2 gn c2).ownBlock≠some q→(Value.slice (some ⟨g,0,none⟩) (gn+1) cap).ownBlock≠some q:=fun q h1 h2 e=>by
     have e:g=q:=by simpa [Value.ownBlock] using e
     subst e
     rcases hg5 with h | h
     ·exact h2 h
     ·omega
    have hlen:(pre++[Ev.ok t (.slice A m c)]).length=gn+1:=by rw [List.length_append,List.length_singleton,hgn]
    have hly2:LAt W2 (fun q=>n+7≤q∧q<W2.heap.size∧(Value.slice (some ⟨g,0,none⟩) (gn+1) cap).ownBlock≠some q) d t.kids (.slice A m c):=
     (hly.keep (fun q hq=>same q hq.2 (by omega) (by omega) (fun e=>by have:=hnb0 q e; omega))).mono (fun q hq=>⟨by omega,by omega,hgq q hq.2 (fun e=>by have:=hnb0 q e; omega)⟩)
    have hro2:RowT W2 (fun q=>n+7≤q∧q<W2.heap.size∧(Value.slice (some ⟨g,0,none⟩) (gn+1) cap).ownBlock≠some q) d (treesE pre) xs:=
     (hrow.keep (fun q hq=>same q hq.2.1 (by omega) (by omega) hq.2.2)).mono (fun q hq=>⟨hq.1,by omega,hgq q hq.2.1 hq.2.2⟩)
    have h1t:=RowT.one (t:=t) (by rw [ho3]; exact hot) hly2
    rw [ho3]at h1t
    have hrt:=h1t.append hro2
    rw [← treesE_snoc pre t (.slice A m c)]at hrt
    refine ⟨?_,⟨hB2,fun _=>same _ (by omega) (by omega) (by omega) (fun e=>by have:=hoz _ e; omega),fun _=>same _ (by omega) (by omega) (by omega) (fun e=>by have:=hoz _ e; omega),fun _=>same _ (by omega) (by omega) (by omega) (fun e=>by have:=hoz _ e; omega)⟩,
     ⟨⟨fun x hx=>?_,by rw [hlen]; exact hxl⟩,by omega⟩,?_,?_,?_,_,_,q2,by rw [hlen]; exact q4,hrt⟩
    ·rw [hz5]
     exact (show KeepsFrom (n+7) W W0 by rw [← hW0]; exact (KeepsOthers.setCell W _ _).from _).trans hE.2.2
    ·rcases List.mem_append.1 hx with h | h
     ·exact h1.1 x h
     ·rw [List.mem_singleton.1 h]
      exact trivial
    ·exact ⟨hB2.os.trans hg.os,hB2.tape.trans hg.tape,hB2.output.trans hg.output,Nat.le_trans hg.size hB2.size,fun i hi hp=>(hB2.block i (by omega)).trans (hg.block i hi hp)⟩
    ·exact (hE.2.1 (n+1) (by omega) (by omega) (fun e=>by have:=hoz _ e; omega)).trans hb10
    ·exact (hE.2.1 (n+3) (by omega) (by omega) (fun e=>by have:=hoz _ e; omega)).trans hb30
 case done =>
  rintro D xs W hD ⟨hall,r,hst,hrd,hrs⟩ ⟨⟨⟨_,hpl⟩,hz⟩,hg,hb1,hb3,v,ys,hb2,hown,hrow⟩ hK
  subst hst
  obtain ⟨A2,c2,rfl⟩:=own_sliceT hown
  have hwD:Blk W.drew (n+1) #[.int .i64 0,.bool false,.bool false,.string ⟨#[]⟩,.int .i64 0,.int .u64 0,.int .i64 0,.string ⟨#[]⟩,.slice none 0 0] 28:=hb1
  clear hseq hK1 hK2 hK3 hK4 hK5 hK6 hR5 hb5 hg5
  go_wp2_with fail
  refine wp_region_allG (R:=fun A B=>A.grownBy B (some (n+1))) (by kernel_rfl) (by kernel_rfl) (fun _=>grown_refl _ _) (by kernel_rfl) (fun A=>Blk A (n+2) #[.int .i64 8,.bool false,.bool false,.string ⟨#[]⟩,.int .i64 0,.int .u64 0,.int .i64 0,.string ⟨#[]⟩,.slice A2 xs.length c2] 28∧Blk A (n+3) #[.nilIface] 48)
   [fun env _=>env 0=.agg #[.int .i64 8,.bool false,.bool false,.string ⟨#[]⟩,.int .i64 0,.int .u64 0,.int .i64 0,.string ⟨#[]⟩,.slice A2 xs.length c2],fun env _=>env 1=.nilIface,fun _ _=>True,fun env _=>env 3=.nilIface]
   (fun sel _ A=>W.grownBy A (some (n+1))∧Blk A (n+1) (if sel 2=true then #[.int .i64 8,.bool false,.bool false,.string ⟨#[]⟩,.int .i64 0,.int .u64 0,.int .i64 0,.string ⟨#[]⟩,.slice A2 xs.length c2] else #[.int .i64 0,.bool false,.bool false,.string ⟨#[]⟩,.int .i64 0,.int .u64 0,.int .i64 0,.string ⟨#[]⟩,.slice none 0 0]) 28) ?_ ?_ ?_ ?_ ?_ ?_
  case refine_1=>exact ⟨hb2,hb3⟩
  case refine_2=>exact fun _=>⟨grown_drew W _ 1,hwD⟩
  case refine_3=>exact fun A B hE hg=>⟨RdB.grown hE.1 hg (by omega),RdB.grown hE.2 hg (by omega)⟩
  case refine_4 =>
   intro i o env env' A B ho hk _ hp _
   have e:∀ k,k=i→env' k=env k:=fun k h=>(hk k (.inl h)).symm
   unfold phisG at hp ⊢
   match i,ho,hp,e with
   | 0,_,hp,e=>exact (e 0 rfl).trans hp
   | 1,_,hp,e=>exact (e 1 rfl).trans hp
   | 2,_,_,_=>trivial
   | 3,_,hp,e=>exact (e 3 rfl).trans hp
   | i+4,ho,_,_=>simp at ho
  case refine_5 =>
   refine flow_consG (flow_opG rfl rfl (by kernel_rfl) (by kernel_rfl) ?_) ?_
   ·intro sel env W hE hn hx hs hwt ρ hρ hc hf hg K hK
    have r6:ρ (.tmp 6)=.pointer (some ⟨n+2,0,none⟩):=by rw [hρ]; kernel_rfl
    clear hρ hg
    exact lands_load_row 28 (.tmp 6) rfl (n+2) r6 28 _ (0,0) _ hE.1 Tryz.underlying28 rfl (by kernel_rfl) (hK _ _ (updV_self _ _ _) ⟨hx.1,by rw [updB_ne sel (show (2:Nat)≠0 by decide)]; exact hx.2⟩ (grown_refl _ _))
   refine flow_consG (flow_opG rfl rfl (by kernel_rfl) (by kernel_rfl) ?_) ?_
   ·intro sel env W hE hn hx hs hwt ρ hρ hc hf hg K hK
    have r8:ρ (.tmp 8)=.pointer (some ⟨n+3,0,none⟩):=by rw [hρ]; kernel_rfl
    clear hρ hg
    have q0:W.cell? ⟨n+3,0,none⟩=some (.nilIface):=hE.2.cell 0
    simp [opLands,go_sem,r8,q0]
    exact hK _ _ (updV_self _ _ _) ⟨hx.1,by rw [updB_ne sel (show (2:Nat)≠1 by decide)]; exact hx.2⟩ (grown_refl _ _)
   refine flow_consG (flow_op0G rfl rfl (by kernel_rfl) rfl ?_) ?_
   ·intro sel env W hE hn hx hs hwt ρ hρ hc hf hg K hK
    have r4:ρ (.tmp 4)=.pointer (some ⟨n+1,0,none⟩):=by rw [hρ]; kernel_rfl
    have r33:=(show ρ (.tmp 33)=env 0 by rw [hρ]; kernel_rfl).trans (hn 0 (hwt 0 (by kernel_rfl)))
    clear hρ hg
    have hb:=hx.2
    rw [hs,if_neg (by decide)]at hb
    exact lands_store_row 28 (.tmp 4) (.tmp 33) rfl (n+1) #[.int .i64 8,.bool false,.bool false,.string ⟨#[]⟩,.int .i64 0,.int .u64 0,.int .i64 0,.string ⟨#[]⟩,.slice A2 xs.length c2] r4 r33 28 _ hb (by kernel_rfl) rfl (by simp [Value.oneCell']) (hK _ _ trivial ⟨grown_trans hx.1 (grown_row _ _ _),by rw [updB_self,if_pos rfl]; exact blk_row hb _⟩ (grown_row _ _ _))
   refine flow_consG (flow_opG rfl rfl (by kernel_rfl) (by kernel_rfl) ?_) flow_nilG
   ·intro sel env W hE hn hx hs hwt ρ hρ hc hf hg K hK
    have r34:=(show ρ (.tmp 34)=env 1 by rw [hρ]; kernel_rfl).trans (hn 1 (hwt 1 (by kernel_rfl)))
    clear hρ hg
    simp [opLands,go_sem,r34]
    exact hK _ _ (updV_self _ _ _) ⟨hx.1,by rw [updB_ne sel (show (2:Nat)≠3 by decide)]; exact hx.2⟩ (grown_refl _ _)
  case refine_6 =>
   intro env W2 hE hn2 hx
   have e3:=hn2 3 (by decide)
   have hgW:=hx.1
   have hbR:Blk W2 (n+1) #[.int .i64 8,.bool false,.bool false,.string ⟨#[]⟩,.int .i64 0,.int .u64 0,.int .i64 0,.string ⟨#[]⟩,.slice A2 xs.length c2] 28:=hx.2
   have hzl:=treesE_len hall
   have hlat:LAt W (fun q=>n+7≤q∧q<W.heap.size) (d+1) (treesE xs) (.slice A2 xs.length c2):=hrow.list hown hzl.symm (by omega) (fun q hq=>⟨hq.1,hq.2.1⟩) (fun a e=>by
    subst e
    exact hown.lt a.block rfl)
   have hK2:W2.heap[D]? = some (.deferred (some [])):=(hgW.block D (Array.getElem?_eq_some_iff.1 hK).1 (fun e=>by cases e; omega)).trans hK
   have hgD:=grownBy_putObj' W2 D (.deferred none)
   have hDC:∀ r,some D=some r→∃ o:Obj,W2.heap[r]? = some o∧o.isCells=false:=fun r e=>by
    cases e
    exact ⟨_,hK2,rfl⟩
   have hl2:=((hlat.keep (fun q hq=>hgW.block q hq.2 (fun e=>by cases e; omega))).keptC hgD hDC).mono (S':=fun q=>w.heap.size≤q∧q<(W2.putObj D (.deferred none)).heap.size) (fun q hq=>⟨by omega,Nat.lt_of_lt_of_le hq.2 (Nat.le_trans hgW.size hgD.size)⟩)
   have hrd2:RdB (W2.putObj D (.deferred none)) p (bs r) dp:=blkC (RdB.grown hrd hgW (by omega)) hgD hDC
   have hbR2:=blkC hbR hgD hDC
   have hgF:w.grownBy (W2.putObj D (.deferred none)) (some p):=grown_C (grown_at hg hgW (by omega)) hgD (n:=n) (by omega) (fun r e=>by cases e; omega)
   refine (‹∀ (a:Act) (w:World),Code.wp _ Code.ret _ a w→_›) _ _ (wp_ret ?_)
   rw [Exit.noGoto_ret]
   refine leave1 hK2 (results_cell (T:=28) (b:=n+1) rfl (by kernel_rfl) ((show _=env 3 by kernel_rfl).trans e3) hbR2 Tryz.underlying28 rfl (by kernel_rfl)) rfl ?_
   exact ⟨hgF,⟨A2,xs.length,c2,rfl,hl2⟩,own_u 8 0 0 (by decide) (by decide) (by decide),hrd2,hrs⟩
 case stop =>
  rintro D c pre W hD hsp ⟨rfl,hg,hb1,⟨ys,o,v,e,hpre,hne,hb3⟩,⟨A2,m2,c2,hb2⟩,s',hrd,hrs⟩ hK
  have hst:st=.bad e:=by
   rcases hsp with ⟨zs,o',v',e',hz,h1,_⟩ | hok
   ·rw [hpre]at hz
    obtain ⟨_,hz⟩:=List.append_inj' hz rfl
    injection hz with hz _
    injection hz with _ _ hz
    rw [h1,hz]
   ·exact (hok (.no o v e) (by rw [hpre]; exact List.mem_append_right _ (List.mem_singleton.2 rfl))).elim
  subst hst
  obtain ⟨ev,hev⟩:∃ ev,errW e=ev:=⟨_,rfl⟩
  have HEV:=Lib.hid hev
  rw [hev]at hb3
  have hwD:Blk W.drew (n+1) #[.int .i64 0,.bool false,.bool false,.string ⟨#[]⟩,.int .i64 0,.int .u64 0,.int .i64 0,.string ⟨#[]⟩,.slice none 0 0] 28:=hb1
  clear hseq hK1 hK2 hK3 hK4 hK5 hK6 hR5 hb5 hg5 hsp hpre hev
  go_wp2_with fail
  refine wp_region_allG (R:=fun A B=>A.grownBy B (some (n+1))) (by kernel_rfl) (by kernel_rfl) (fun _=>grown_refl _ _) (by kernel_rfl) (fun A=>Blk A (n+2) #[.int .i64 8,.bool false,.bool false,.string ⟨#[]⟩,.int .i64 0,.int .u64 0,.int .i64 0,.string ⟨#[]⟩,.slice A2 m2 c2] 28∧Blk A (n+3) #[ev] 48)
   [fun env _=>env 0=.agg #[.int .i64 8,.bool false,.bool false,.string ⟨#[]⟩,.int .i64 0,.int .u64 0,.int .i64 0,.string ⟨#[]⟩,.slice A2 m2 c2],fun env _=>env 1=ev,fun _ _=>True,fun env _=>env 3=ev]
   (fun sel _ A=>W.grownBy A (some (n+1))∧Blk A (n+1) (if sel 2=true then #[.int .i64 8,.bool false,.bool false,.string ⟨#[]⟩,.int .i64 0,.int .u64 0,.int .i64 0,.string ⟨#[]⟩,.slice A2 m2 c2] else #[.int .i64 0,.bool false,.bool false,.string ⟨#[]⟩,.int .i64 0,.int .u64 0,.int .i64 0,.string ⟨#[]⟩,.slice none 0 0]) 28) ?_ ?_ ?_ ?_ ?_ ?_
  case refine_1=>exact ⟨hb2,hb3⟩
  case refine_2=>exact fun _=>⟨grown_drew W _ 1,hwD⟩
  case refine_3=>exact fun A B hE hg=>⟨RdB.grown hE.1 hg (by omega),RdB.grown hE.2 hg (by omega)⟩
  case refine_4 =>
   intro i o env env' A B ho hk _ hp _
   have e:∀ k,k=i→env' k=env k:=fun k h=>(hk k (.inl h)).symm
   unfold phisG at hp ⊢
   match i,ho,hp,e with
   | 0,_,hp,e=>exact (e 0 rfl).trans hp
   | 1,_,hp,e=>exact (e 1 rfl).trans hp
   | 2,_,_,_=>trivial
   | 3,_,hp,e=>exact (e 3 rfl).trans hp
   | i+4,ho,_,_=>simp at ho
  case refine_5 =>
   refine flow_consG (flow_opG rfl rfl (by kernel_rfl) (by kernel_rfl) ?_) ?_
   ·intro sel env W hE hn hx hs hwt ρ hρ hc hf hg K hK
    have r6:ρ (.tmp 6)=.pointer (some ⟨n+2,0,none⟩):=by rw [hρ]; kernel_rfl
    clear hρ hg
    exact lands_load_row 28 (.tmp 6) rfl (n+2) r6 28 _ (0,0) _ hE.1 Tryz.underlying28 rfl (by kernel_rfl) (hK _ _ (updV_self _ _ _) ⟨hx.1,by rw [updB_ne sel (show (2:Nat)≠0 by decide)]; exact hx.2⟩ (grown_refl _ _))
   refine flow_consG (flow_opG rfl rfl (by kernel_rfl) (by kernel_rfl) ?_) ?_
   ·intro sel env W hE hn hx hs hwt ρ hρ hc hf hg K hK
    have r8:ρ (.tmp 8)=.pointer (some ⟨n+3,0,none⟩):=by rw [hρ]; kernel_rfl
    clear hρ hg
    have q0:W.cell? ⟨n+3,0,none⟩=some (ev):=hE.2.cell 0
    simp [opLands,go_sem,r8,q0]
    exact hK _ _ (updV_self _ _ _) ⟨hx.1,by rw [updB_ne sel (show (2:Nat)≠1 by decide)]; exact hx.2⟩ (grown_refl _ _)
   refine flow_consG (flow_op0G rfl rfl (by kernel_rfl) rfl ?_) ?_
   ·intro sel env W hE hn hx hs hwt ρ hρ hc hf hg K hK
    have r4:ρ (.tmp 4)=.pointer (some ⟨n+1,0,none⟩):=by rw [hρ]; kernel_rfl
    have r33:=(show ρ (.tmp 33)=env 0 by rw [hρ]; kernel_rfl).trans (hn 0 (hwt 0 (by kernel_rfl)))
    clear hρ hg
    have hb:=hx.2
    rw [hs,if_neg (by decide)]at hb
    exact lands_store_row 28 (.tmp 4) (.tmp 33) rfl (n+1) #[.int .i64 8,.bool false,.bool false,.string ⟨#[]⟩,.int .i64 0,.int .u64 0,.int .i64 0,.string ⟨#[]⟩,.slice A2 m2 c2] r4 r33 28 _ hb (by kernel_rfl) rfl (by simp [Value.oneCell']) (hK _ _ trivial ⟨grown_trans hx.1 (grown_row _ _ _),by rw [updB_self,if_pos rfl]; exact blk_row hb _⟩ (grown_row _ _ _))
   refine flow_consG (flow_opG rfl rfl (by kernel_rfl) (by kernel_rfl) ?_) flow_nilG
   ·intro sel env W hE hn hx hs hwt ρ hρ hc hf hg K hK
    have r34:=(show ρ (.tmp 34)=env 1 by rw [hρ]; kernel_rfl).trans (hn 1 (hwt 1 (by kernel_rfl)))
    clear hρ hg
    simp [opLands,go_sem,r34]
    exact hK _ _ (updV_self _ _ _) ⟨hx.1,by rw [updB_ne sel (show (2:Nat)≠3 by decide)]; exact hx.2⟩ (grown_refl _ _)
  case refine_6 =>
   intro env W2 hE hn2 hx
   have e3:=hn2 3 (by decide)
   have hgW:=hx.1
   have hbR:Blk W2 (n+1) #[.int .i64 8,.bool false,.bool false,.string ⟨#[]⟩,.int .i64 0,.int .u64 0,.int .i64 0,.string ⟨#[]⟩,.slice A2 m2 c2] 28:=hx.2
   have hK2:W2.heap[D]? = some (.deferred (some [])):=(hgW.block D (Array.getElem?_eq_some_iff.1 hK).1 (fun e=>by cases e; omega)).trans hK
   have hgD:=grownBy_putObj' W2 D (.deferred none)
   have hDC:∀ r,some D=some r→∃ o:Obj,W2.heap[r]? = some o∧o.isCells=false:=fun r e=>by
    cases e
    exact ⟨_,hK2,rfl⟩
   have hrd2:RdB (W2.putObj D (.deferred none)) p s' dp:=blkC (RdB.grown hrd hgW (by omega)) hgD hDC
   have hbR2:=blkC hbR hgD hDC
   have hgF:w.grownBy (W2.putObj D (.deferred none)) (some p):=grown_C (grown_at hg hgW (by omega)) hgD (n:=n) (by omega) (fun r e=>by cases e; omega)
   refine (‹∀ (a:Act) (w:World),Code.wp _ Code.ret _ a w→_›) _ _ (wp_ret ?_)
   rw [Exit.noGoto_ret]
   refine leave1 hK2 (results_cell (T:=28) (b:=n+1) rfl (by kernel_rfl) ((show _=env 3 by kernel_rfl).trans e3) hbR2 Tryz.underlying28 rfl (by kernel_rfl)) rfl ?_
   exact ⟨hgF,⟨{ zeroO with kind:=8 },A2,m2,c2,by rw [HEV.out]; rfl⟩,hne,s',hrd2,hrs⟩
end Go.Proofs.YtonihophanmaaaaGreatDoor
