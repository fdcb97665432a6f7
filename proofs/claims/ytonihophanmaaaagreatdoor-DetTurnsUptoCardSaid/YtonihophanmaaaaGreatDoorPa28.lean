/- The texts GatD, put together. -/
import Derived.Test.YtonihophanmaaaaGreatDoorPa19
import Derived.Test.YtonihophanmaaaaGreatDoorPa18
import Derived.Test.YtonihophanmaaaaGreatDoorPa27
namespace Go.Proofs.YtonihophanmaaaaGreatDoor
open Go.RowKit Go.Shelf
def flR (o:Own):Bool:=if 0≤o.u∧o.u<18446744073709551616 then flD o else true
set_option maxHeartbeats 8000000 in
set_option maxRecDepth 100000 in
theorem fits_D {aT aF:Addr} (o:Own) (l:List Tr) (A:Option Addr) (n c:Nat) (w:World) (B d:Nat) (hl:ListAt w B d l (.slice A n c)) (hB:B≤w.heap.size) (hn:l.length=n) (hc:n≤1000000000000) (ho:OwnOk o) (h:GW w aT aF) :
  Calls Tryz.prog 51 #[.agg #[.int .i64 3],nodeV o (.slice A n c)] w fun e w'=>e=.returned (.bool (fitO 3 flR o l))∧Below w.heap.size w w':=by
 obtain ⟨ans,hans⟩:∃ ans,fitO 3 flR o l=ans:=⟨_,rfl⟩
 rw [hans]
 unfold fitO at hans
 obtain ⟨kind,b,neg,dg,ex,u,wd,s⟩:=o
 have hdg:=ho.dg
 have hu:=ho.u
 simp only []at hdg hu hans
 unfold nodeV
 simp only []
 obtain ⟨hb2,hk1,hk2⟩:=box2 w #[.int .i64 3] #[.int .i64 kind,.bool b,.bool neg,.string dg,.int .i64 ex,.int .u64 u,.int .i64 wd,.string s,.slice A n c] 52 28
 have z0:=hk2.cell 0
 have z2:=hk2.cell 2
 have z3:=hk2.cell 3
 have z4:=hk2.cell 4
 have z5:=hk2.cell 5
 have z6:=hk2.cell 6
 have x0:=hk1.cell 0
 obtain ⟨w2,hw2⟩:∃ w2,(w.alloc (.cells #[.int .i64 3] 52)).alloc (.cells #[.int .i64 kind,.bool b,.bool neg,.string dg,.int .i64 ex,.int .u64 u,.int .i64 wd,.string s,.slice A n c] 28)=w2:=⟨_,rfl⟩
 rw [hw2]at hb2 hk1 hk2
 have G:=Lib.hid (h.below hb2)
 have HANS:=Lib.hid hans
 have HW2:=Lib.hid hw2
 have HSZ:=Lib.hid (show w2.heap.size=w.heap.size+1+1 by rw [← hw2]; simp)
 clear hans ho h hw2
 by_cases h4:kind=4
 ·subst h4
  have hv:flR ⟨4,b,neg,dg,ex,u,wd,s⟩=ans:=by
   have:=HANS.out
   rw [if_pos rfl]at this
   exact this
  have HF:=Lib.hid (float_Widen u wd hu.1 hu.2 w2)
  have hvb:=widenV_bound (wd:=wd) hu.1 hu.2
  unfold flR at hv
  rw [if_pos hu]at hv
  have hv:decide (leastV (widenV u wd)=wd)=ans:=hv
  obtain ⟨vw,hvw⟩:∃ vw,widenV u wd=vw:=⟨_,rfl⟩
  rw [hvw]at hvb hv
  have HLE:=Lib.hid (fun W=>float_Least vw hvb.1 hvb.2 W)
  obtain ⟨lv,hlv⟩:∃ lv,leastV vw=lv:=⟨_,rfl⟩
  rw [hlv]at hv
  simp only [hlv]at HLE
  have hv:(lv == wd)=ans:=by
   rw [← hv]
   by_cases q:lv=wd <;> simp [q]
  clear hvb hlv
  obtain ⟨ve,hve⟩:∃ ve:Int,(if wideOk u wd=true then 0 else 2)=ve:=⟨_,rfl⟩
  rw [hvw,hve]at HF
  clear hvw hve HANS
  go_enter Tryz.func51,Tryz.ntmps51
  go_wp2_with fail
  rw [HW2.out]
  try rw [← HSZ.out]
  clear z0 z2 z3 z4 z5 z6 x0 HW2 HSZ
  refine HF.out.mono ?_
  rintro e w3 ⟨rfl,hb⟩
  have hb3:=hb2.trans (hb.mono hb2.size)
  have hk3:=hk1.below hb hk1.lt
  have hk4:=hk2.below hb hk2.lt
  clear HF hb hb2 hk1 hk2 G
  have x0:=hk3.cell 0
  have z6:=hk4.cell 6
  go_wp2_with fail
  cases hev:(lv == wd) with
  | true =>
   rw [hev]at hv
   have HK3:=Lib.hid hk3
   have HK4:=Lib.hid hk4
   refine wp_region_tail (R:=fun W W'=>Below W.heap.size W W') 28 (by kernel_rfl) (by kernel_rfl) (fun _=>Below.refl _ _) (by kernel_rfl) (by kernel_rfl) (fun W=>Below w3.heap.size w3 W)
    [fun v _=>v=.pointer (some ⟨w.heap.size,0,none⟩),fun v _=>v=.agg #[.int .i64 3],fun v W=>∃ b,v=.slice (some ⟨b,0,none⟩) 1 1∧Blk W b #[.int .i64 2] 3,fun v _=>v=.bool false,fun v _=>v=.bool false,fun v _=>v=.pointer (some ⟨w.heap.size,0,none⟩),fun v _=>v=.agg #[.int .i64 3],fun v W=>∃ b,v=.slice (some ⟨b,0,none⟩) 1 1∧Blk W b #[.int .i64 3] 3,fun v _=>v=.bool true,fun v _=>v=.bool true,fun v _=>v=.int .u64 vw,fun v _=>v=.int .i64 lv,fun v _=>v=.pointer (some ⟨w.heap.size+1,6,none⟩),fun v _=>v=.int .i64 wd,fun v _=>v=.bool true,fun v _=>v=.bool true,fun v _=>v=.bool true,fun v _=>v=.bool true,fun v _=>v=undef,fun v _=>v=undef,fun v _=>v=undef,fun v _=>v=undef,fun v _=>v=undef,fun v _=>v=undef,fun v _=>v=undef,fun v _=>v=undef,fun v _=>v=undef,fun v _=>v=.bool true] ?_ ?_ ?_ ?_ ?_
   case refine_1=>exact (Below.refl _ _).drew
   case refine_2=>exact fun W W' he hr=>he.trans (hr.mono he.size)
   case refine_3 =>
    intro q hq v W W' _ hv hr
    simp only [List.mem_cons,List.not_mem_nil,or_false]at hq
    rcases hq with rfl|rfl|rfl|rfl|rfl|rfl|rfl|rfl|rfl|rfl|rfl|rfl|rfl|rfl|rfl|rfl|rfl|rfl|rfl|rfl|rfl|rfl|rfl|rfl|rfl|rfl|rfl|rfl <;> first | exact hv | (obtain ⟨b,e,h⟩:=hv; exact ⟨b,e,h.below hr h.lt⟩)
   case refine_4 =>
    refine flow_cons (flow_op rfl rfl (by kernel_rfl) (by kernel_rfl) ?_) ?_
    ·intro env W hE hn ρ hρ hc hf hg K hK
     have r2:ρ (.tmp 2)=.pointer (some ⟨w.heap.size,0,none⟩):=by rw [hρ]; kernel_rfl
     clear hρ hn hg
     simp [opLands,go_sem,r2]
     exact hK _ _ rfl (Below.refl _ _)
    refine flow_cons (flow_op rfl rfl (by kernel_rfl) (by kernel_rfl) ?_) ?_
    ·intro env W hE hn ρ hρ hc hf hg K hK
     have r24:=(show ρ (.tmp 24)=env 0 by rw [hρ]; kernel_rfl).trans (hn 0 (by kernel_rfl))
     clear hρ hn hg
     exact lands_load_row 50 (.tmp 24) rfl w.heap.size r24 52 _ (0,0) _ (HK3.out.below hE HK3.out.lt) Tryz.underlying50 rfl (by kernel_rfl) (hK _ _ rfl (Below.refl _ _))
    refine flow_cons (flow_op rfl rfl (by kernel_rfl) (by kernel_rfl) ?_) ?_
    ·intro env W hE hn ρ hρ hc hf hg K hK
     clear hρ hn hg
     simp [opLands,go_sem,hc]
     exact hK _ _ ⟨_,rfl,Blk.new _ _ _⟩ ((Below.refl _ _).alloc (Nat.le_refl _) _)
    refine flow_cons (flow_op rfl rfl (by kernel_rfl) (by kernel_rfl) ?_) ?_
    ·intro env W hE hn ρ hρ hc hf hg K hK
     have r25:=(show ρ (.tmp 25)=env 1 by rw [hρ]; kernel_rfl).trans (hn 1 (by kernel_rfl))
     obtain ⟨b26,e26,h26⟩:=hn 2 (by kernel_rfl)
     have r26:=(show ρ (.tmp 26)=env 2 by rw [hρ]; kernel_rfl).trans e26
     clear hρ hn hg
     refine lands_call rfl (by kernel_rfl) hf ?_
     rw [show #[Operand.tmp 25,Operand.tmp 26].map ρ = #[.agg #[.int .i64 3],.slice (some ⟨b26,0,none⟩) 1 1] by simp [r25,r26]]
     refine (show Calls Tryz.prog 88 #[.agg #[.int .i64 3],.slice (some ⟨b26,0,none⟩) 1 1] W fun e w'=>e=.returned (.bool false)∧Below W.heap.size W w' from tree_has 3 b26 [2] 1 3 W h26 rfl (by decide)).mono ?_
     rintro e W' ⟨rfl,hb⟩
     exact ⟨_,rfl,hK _ _ rfl hb⟩
    refine flow_cons (flow_op rfl rfl (by kernel_rfl) (by kernel_rfl) ?_) ?_
    ·intro env W hE hn ρ hρ hc hf hg K hK
     have r27:=(show ρ (.tmp 27)=env 3 by rw [hρ]; kernel_rfl).trans (hn 3 (by kernel_rfl))
     clear hρ hn hg
     simp [opLands,go_sem,r27]
     exact hK _ _ rfl (Below.refl _ _)
    refine flow_cons (flow_opY 4 false 28 rfl rfl rfl (by kernel_rfl) (by kernel_rfl) ?_ ?_) ?_
    ·intro env W hE hn ρ hρ
     exact (show ρ (.tmp 28)=env 4 by rw [hρ]; kernel_rfl).trans (hn 4 (by kernel_rfl))
    ·intro env W hE hn ρ hρ hc hf hg K hK
     have r2:ρ (.tmp 2)=.pointer (some ⟨w.heap.size,0,none⟩):=by rw [hρ]; kernel_rfl
     clear hρ hn hg
     simp [opLands,go_sem,r2]
     exact hK _ _ rfl (Below.refl _ _)
    refine flow_cons (flow_opY 4 false 28 rfl rfl rfl (by kernel_rfl) (by kernel_rfl) ?_ ?_) ?_
    ·intro env W hE hn ρ hρ
     exact (show ρ (.tmp 28)=env 4 by rw [hρ]; kernel_rfl).trans (hn 4 (by kernel_rfl))
    ·intro env W hE hn ρ hρ hc hf hg K hK
     have r29:=(show ρ (.tmp 29)=env 5 by rw [hρ]; kernel_rfl).trans (hn 5 (by kernel_rfl))
     clear hρ hn hg
     exact lands_load_row 50 (.tmp 29) rfl w.heap.size r29 52 _ (0,0) _ (HK3.out.below hE HK3.out.lt) Tryz.underlying50 rfl (by kernel_rfl) (hK _ _ rfl (Below.refl _ _))
    refine flow_cons (flow_opY 4 false 28 rfl rfl rfl (by kernel_rfl) (by kernel_rfl) ?_ ?_) ?_
    ·intro env W hE hn ρ hρ
     exact (show ρ (.tmp 28)=env 4 by rw [hρ]; kernel_rfl).trans (hn 4 (by kernel_rfl))
    ·intro env W hE hn ρ hρ hc hf hg K hK
     clear hρ hn hg
     simp [opLands,go_sem,hc]
     exact hK _ _ ⟨_,rfl,Blk.new _ _ _⟩ ((Below.refl _ _).alloc (Nat.le_refl _) _)
    refine flow_cons (flow_opY 4 false 28 rfl rfl rfl (by kernel_rfl) (by kernel_rfl) ?_ ?_) ?_
    ·intro env W hE hn ρ hρ
     exact (show ρ (.tmp 28)=env 4 by rw [hρ]; kernel_rfl).trans (hn 4 (by kernel_rfl))
    ·intro env W hE hn ρ hρ hc hf hg K hK
     have r30:=(show ρ (.tmp 30)=env 6 by rw [hρ]; kernel_rfl).trans (hn 6 (by kernel_rfl))
     obtain ⟨b31,e31,h31⟩:=hn 7 (by kernel_rfl)
     have r31:=(show ρ (.tmp 31)=env 7 by rw [hρ]; kernel_rfl).trans e31
     clear hρ hn hg
     refine lands_call rfl (by kernel_rfl) hf ?_
     rw [show #[Operand.tmp 30,Operand.tmp 31].map ρ = #[.agg #[.int .i64 3],.slice (some ⟨b31,0,none⟩) 1 1] by simp [r30,r31]]
     refine (show Calls Tryz.prog 88 #[.agg #[.int .i64 3],.slice (some ⟨b31,0,none⟩) 1 1] W fun e w'=>e=.returned (.bool true)∧Below W.heap.size W w' from tree_has 3 b31 [3] 1 3 W h31 rfl (by decide)).mono ?_
     rintro e W' ⟨rfl,hb⟩
     exact ⟨_,rfl,hK _ _ rfl hb⟩
    refine flow_cons (flow_opY 4 false 28 rfl rfl rfl (by kernel_rfl) (by kernel_rfl) ?_ ?_) ?_
    ·intro env W hE hn ρ hρ
     exact (show ρ (.tmp 28)=env 4 by rw [hρ]; kernel_rfl).trans (hn 4 (by kernel_rfl))
    ·intro env W hE hn ρ hρ hc hf hg K hK
     have r32:=(show ρ (.tmp 32)=env 8 by rw [hρ]; kernel_rfl).trans (hn 8 (by kernel_rfl))
     clear hρ hn hg
     simp [opLands,go_sem,r32]
     exact hK _ _ rfl (Below.refl _ _)
    refine flow_cons (flow_opY 9 true 33 rfl rfl rfl (by kernel_rfl) (by kernel_rfl) ?_ ?_) ?_
    ·intro env W hE hn ρ hρ
     exact (show ρ (.tmp 33)=env 9 by rw [hρ]; kernel_rfl).trans (hn 9 (by kernel_rfl))
    ·intro env W hE hn ρ hρ hc hf hg K hK
     have r6:ρ (.tmp 6)=.int .u64 vw:=by rw [hρ]; kernel_rfl
     clear hρ hn hg
     simp [opLands,go_sem,r6]
     exact hK _ _ rfl (Below.refl _ _)
    refine flow_cons (flow_opY 9 true 33 rfl rfl rfl (by kernel_rfl) (by kernel_rfl) ?_ ?_) ?_
    ·intro env W hE hn ρ hρ
     exact (show ρ (.tmp 33)=env 9 by rw [hρ]; kernel_rfl).trans (hn 9 (by kernel_rfl))
    ·intro env W hE hn ρ hρ hc hf hg K hK
     have r34:=(show ρ (.tmp 34)=env 10 by rw [hρ]; kernel_rfl).trans (hn 10 (by kernel_rfl))
     clear hρ hn hg
     refine lands_call rfl (by kernel_rfl) hf ?_
     rw [show #[Operand.tmp 34].map ρ = #[.int .u64 vw] by simp [r34]]
     refine (HLE.out W).mono ?_
     rintro e W' ⟨rfl,hb⟩
     exact ⟨_,rfl,hK _ _ rfl hb⟩
    refine flow_cons (flow_opY 9 true 33 rfl rfl rfl (by kernel_rfl) (by kernel_rfl) ?_ ?_) ?_
    ·intro env W hE hn ρ hρ
     exact (show ρ (.tmp 33)=env 9 by rw [hρ]; kernel_rfl).trans (hn 9 (by kernel_rfl))
    ·intro env W hE hn ρ hρ hc hf hg K hK
     have r3:ρ (.tmp 3)=.pointer (some ⟨w.heap.size+1,0,none⟩):=by rw [hρ]; kernel_rfl
     clear hρ hn hg
     simp [opLands,go_sem,r3]
     exact hK _ _ rfl (Below.refl _ _)
    refine flow_cons (flow_opY 9 true 33 rfl rfl rfl (by kernel_rfl) (by kernel_rfl) ?_ ?_) ?_
    ·intro env W hE hn ρ hρ
     exact (show ρ (.tmp 33)=env 9 by rw [hρ]; kernel_rfl).trans (hn 9 (by kernel_rfl))
    ·intro env W hE hn ρ hρ hc hf hg K hK
     have r36:=(show ρ (.tmp 36)=env 12 by rw [hρ]; kernel_rfl).trans (hn 12 (by kernel_rfl))
     clear hρ hn hg
     have q0:=(HK4.out.below hE HK4.out.lt).cell 6
     simp [opLands,go_sem,r36,q0]
     exact hK _ _ rfl (Below.refl _ _)
    refine flow_cons (flow_opY 9 true 33 rfl rfl rfl (by kernel_rfl) (by kernel_rfl) ?_ ?_) ?_
    ·intro env W hE hn ρ hρ
     exact (show ρ (.tmp 33)=env 9 by rw [hρ]; kernel_rfl).trans (hn 9 (by kernel_rfl))
    ·intro env W hE hn ρ hρ hc hf hg K hK
     have r35:=(show ρ (.tmp 35)=env 11 by rw [hρ]; kernel_rfl).trans (hn 11 (by kernel_rfl))
     have r37:=(show ρ (.tmp 37)=env 13 by rw [hρ]; kernel_rfl).trans (hn 13 (by kernel_rfl))
     clear hρ hn hg
     simp [opLands,go_sem,r35,r37,hev]
     exact hK _ _ rfl (Below.refl _ _)
    refine flow_cons (flow_opY 4 false 28 rfl rfl rfl (by kernel_rfl) (by kernel_rfl) ?_ ?_) ?_
    ·intro env W hE hn ρ hρ
     exact (show ρ (.tmp 28)=env 4 by rw [hρ]; kernel_rfl).trans (hn 4 (by kernel_rfl))
    ·intro env W hE hn ρ hρ hc hf hg K hK
     have r33:=(show ρ (.tmp 33)=env 9 by rw [hρ]; kernel_rfl).trans (hn 9 (by kernel_rfl))
     have r38:=(show ρ (.tmp 38)=env 14 by rw [hρ]; kernel_rfl).trans (hn 14 (by kernel_rfl))
     clear hρ hn hg
     simp [opLands,go_sem,hc,r33,r38]
     exact hK _ _ rfl (Below.refl _ _)
    refine flow_cons (flow_op rfl rfl (by kernel_rfl) (by kernel_rfl) ?_) ?_
    ·intro env W hE hn ρ hρ hc hf hg K hK
     have r28:=(show ρ (.tmp 28)=env 4 by rw [hρ]; kernel_rfl).trans (hn 4 (by kernel_rfl))
     have r39:=(show ρ (.tmp 39)=env 15 by rw [hρ]; kernel_rfl).trans (hn 15 (by kernel_rfl))
     clear hρ hn hg
     simp [opLands,go_sem,hc,r28,r39]
     exact hK _ _ rfl (Below.refl _ _)
    refine flow_cons (flow_op rfl rfl (by kernel_rfl) (by kernel_rfl) ?_) ?_
    ·intro env W hE hn ρ hρ hc hf hg K hK
     have r40:=(show ρ (.tmp 40)=env 16 by rw [hρ]; kernel_rfl).trans (hn 16 (by kernel_rfl))
     clear hρ hn hg
     simp [opLands,go_sem,r40]
     exact hK _ _ rfl (Below.refl _ _)
    refine flow_cons (flow_opN 17 false 41 rfl rfl (by kernel_rfl) ?_ (fun _ _=>rfl)) ?_
    ·intro env W hE hn ρ hρ
     rw [(show ρ (.tmp 41)=env 17 by rw [hρ]; kernel_rfl).trans (hn 17 (by kernel_rfl))]
     exact fun h=>by cases h
    refine flow_cons (flow_opN 17 false 41 rfl rfl (by kernel_rfl) ?_ (fun _ _=>rfl)) ?_
    ·intro env W hE hn ρ hρ
     rw [(show ρ (.tmp 41)=env 17 by rw [hρ]; kernel_rfl).trans (hn 17 (by kernel_rfl))]
     exact fun h=>by cases h
    refine flow_cons (flow_opN 17 false 41 rfl rfl (by kernel_rfl) ?_ (fun _ _=>rfl)) ?_
    ·intro env W hE hn ρ hρ
     rw [(show ρ (.tmp 41)=env 17 by rw [hρ]; kernel_rfl).trans (hn 17 (by kernel_rfl))]
     exact fun h=>by cases h
    refine flow_cons (flow_opN 17 false 41 rfl rfl (by kernel_rfl) ?_ (fun _ _=>rfl)) ?_
    ·intro env W hE hn ρ hρ
     rw [(show ρ (.tmp 41)=env 17 by rw [hρ]; kernel_rfl).trans (hn 17 (by kernel_rfl))]
     exact fun h=>by cases h
    refine flow_cons (flow_opN 17 false 41 rfl rfl (by kernel_rfl) ?_ (fun _ _=>rfl)) ?_
    ·intro env W hE hn ρ hρ
     rw [(show ρ (.tmp 41)=env 17 by rw [hρ]; kernel_rfl).trans (hn 17 (by kernel_rfl))]
     exact fun h=>by cases h
    refine flow_cons (flow_opN 22 true 46 rfl rfl (by kernel_rfl) ?_ (fun _ _=>rfl)) ?_
    ·intro env W hE hn ρ hρ
     rw [(show ρ (.tmp 46)=env 22 by rw [hρ]; kernel_rfl).trans (hn 22 (by kernel_rfl))]
     exact fun h=>by cases h
    refine flow_cons (flow_opN 22 true 46 rfl rfl (by kernel_rfl) ?_ (fun _ _=>rfl)) ?_
    ·intro env W hE hn ρ hρ
     rw [(show ρ (.tmp 46)=env 22 by rw [hρ]; kernel_rfl).trans (hn 22 (by kernel_rfl))]
     exact fun h=>by cases h
    refine flow_cons (flow_opN 22 true 46 rfl rfl (by kernel_rfl) ?_ (fun _ _=>rfl)) ?_
    ·intro env W hE hn ρ hρ
     rw [(show ρ (.tmp 46)=env 22 by rw [hρ]; kernel_rfl).trans (hn 22 (by kernel_rfl))]
     exact fun h=>by cases h
    refine flow_cons (flow_opN 17 false 41 rfl rfl (by kernel_rfl) ?_ (fun _ _=>rfl)) ?_
    ·intro env W hE hn ρ hρ
     rw [(show ρ (.tmp 41)=env 17 by rw [hρ]; kernel_rfl).trans (hn 17 (by kernel_rfl))]
     exact fun h=>by cases h
    refine flow_cons (flow_op rfl rfl (by kernel_rfl) (by kernel_rfl) ?_) flow_nil
    ·intro env W hE hn ρ hρ hc hf hg K hK
     have r41:=(show ρ (.tmp 41)=env 17 by rw [hρ]; kernel_rfl).trans (hn 17 (by kernel_rfl))
     have r50:=(show ρ (.tmp 50)=env 26 by rw [hρ]; kernel_rfl).trans (hn 26 (by kernel_rfl))
     clear hρ hn hg
     simp [opLands,go_sem,hc,r41,r50]
     exact hK _ _ rfl (Below.refl _ _)
   case refine_5 =>
    intro env W hE hn
    have e27:=hn 27 (by decide)
    simp only [phis,List.getD_cons_zero,List.getD_cons_succ]at e27
    clear hn
    have hbE:=hb3.trans (hE.mono hb3.size)
    clear hE
    obtain rfl:true=ans:=hv
    refine Great.wpList_runTo rfl (some 4) rfl (.bool true) W ((show _=Result.ok (Next.value (env 27)) W by kernel_rfl).trans (by rw [e27])) ?_
    refine wpList_nil ?_
    refine (‹∀ (a:Act) (w:World),Code.wp _ Code.ret _ a w→_›) _ _ (wp_ret ?_)
    show bodyPost Tryz.prog Tryz.f51 (fun e w'=>e=.returned (.bool true)∧Below w.heap.size w w') .ret _ W
    exact bodyPost_ret (v:=.bool true) (by kernel_rfl) (by kernel_rfl) ⟨rfl,hbE⟩
  | false =>
   rw [hev]at hv
   have HK3:=Lib.hid hk3
   have HK4:=Lib.hid hk4
   refine wp_region_tail (R:=fun W W'=>Below W.heap.size W W') 28 (by kernel_rfl) (by kernel_rfl) (fun _=>Below.refl _ _) (by kernel_rfl) (by kernel_rfl) (fun W=>Below w3.heap.size w3 W)
    [fun v _=>v=.pointer (some ⟨w.heap.size,0,none⟩),fun v _=>v=.agg #[.int .i64 3],fun v W=>∃ b,v=.slice (some ⟨b,0,none⟩) 1 1∧Blk W b #[.int .i64 2] 3,fun v _=>v=.bool false,fun v _=>v=.bool false,fun v _=>v=.pointer (some ⟨w.heap.size,0,none⟩),fun v _=>v=.agg #[.int .i64 3],fun v W=>∃ b,v=.slice (some ⟨b,0,none⟩) 1 1∧Blk W b #[.int .i64 3] 3,fun v _=>v=.bool true,fun v _=>v=.bool true,fun v _=>v=.int .u64 vw,fun v _=>v=.int .i64 lv,fun v _=>v=.pointer (some ⟨w.heap.size+1,6,none⟩),fun v _=>v=.int .i64 wd,fun v _=>v=.bool false,fun v _=>v=.bool false,fun v _=>v=.bool false,fun v _=>v=.bool false,fun v _=>v=.pointer (some ⟨w.heap.size,0,none⟩),fun v _=>v=.agg #[.int .i64 3],fun v W=>∃ b,v=.slice (some ⟨b,0,none⟩) 1 1∧Blk W b #[.int .i64 4] 3,fun v _=>v=.bool false,fun v _=>v=.bool false,fun v _=>v=undef,fun v _=>v=undef,fun v _=>v=undef,fun v _=>v=.bool false,fun v _=>v=.bool false] ?_ ?_ ?_ ?_ ?_
   case refine_1=>exact (Below.refl _ _).drew
   case refine_2=>exact fun W W' he hr=>he.trans (hr.mono he.size)
   case refine_3 =>
    intro q hq v W W' _ hv hr
    simp only [List.mem_cons,List.not_mem_nil,or_false]at hq
    rcases hq with rfl|rfl|rfl|rfl|rfl|rfl|rfl|rfl|rfl|rfl|rfl|rfl|rfl|rfl|rfl|rfl|rfl|rfl|rfl|rfl|rfl|rfl|rfl|rfl|rfl|rfl|rfl|rfl <;> first | exact hv | (obtain ⟨b,e,h⟩:=hv; exact ⟨b,e,h.below hr h.lt⟩)
   case refine_4 =>
    refine flow_cons (flow_op rfl rfl (by kernel_rfl) (by kernel_rfl) ?_) ?_
    ·intro env W hE hn ρ hρ hc hf hg K hK
     have r2:ρ (.tmp 2)=.pointer (some ⟨w.heap.size,0,none⟩):=by rw [hρ]; kernel_rfl
     clear hρ hn hg
     simp [opLands,go_sem,r2]
     exact hK _ _ rfl (Below.refl _ _)
    refine flow_cons (flow_op rfl rfl (by kernel_rfl) (by kernel_rfl) ?_) ?_
    ·intro env W hE hn ρ hρ hc hf hg K hK
     have r24:=(show ρ (.tmp 24)=env 0 by rw [hρ]; kernel_rfl).trans (hn 0 (by kernel_rfl))
     clear hρ hn hg
     exact lands_load_row 50 (.tmp 24) rfl w.heap.size r24 52 _ (0,0) _ (HK3.out.below hE HK3.out.lt) Tryz.underlying50 rfl (by kernel_rfl) (hK _ _ rfl (Below.refl _ _))
    refine flow_cons (flow_op rfl rfl (by kernel_rfl) (by kernel_rfl) ?_) ?_
    ·intro env W hE hn ρ hρ hc hf hg K hK
     clear hρ hn hg
     simp [opLands,go_sem,hc]
     exact hK _ _ ⟨_,rfl,Blk.new _ _ _⟩ ((Below.refl _ _).alloc (Nat.le_refl _) _)
    refine flow_cons (flow_op rfl rfl (by kernel_rfl) (by kernel_rfl) ?_) ?_
    ·intro env W hE hn ρ hρ hc hf hg K hK
     have r25:=(show ρ (.tmp 25)=env 1 by rw [hρ]; kernel_rfl).trans (hn 1 (by kernel_rfl))
     obtain ⟨b26,e26,h26⟩:=hn 2 (by kernel_rfl)
     have r26:=(show ρ (.tmp 26)=env 2 by rw [hρ]; kernel_rfl).trans e26
     clear hρ hn hg
     refine lands_call rfl (by kernel_rfl) hf ?_
     rw [show #[Operand.tmp 25,Operand.tmp 26].map ρ = #[.agg #[.int .i64 3],.slice (some ⟨b26,0,none⟩) 1 1] by simp [r25,r26]]
     refine (show Calls Tryz.prog 88 #[.agg #[.int .i64 3],.slice (some ⟨b26,0,none⟩) 1 1] W fun e w'=>e=.returned (.bool false)∧Below W.heap.size W w' from tree_has 3 b26 [2] 1 3 W h26 rfl (by decide)).mono ?_
     rintro e W' ⟨rfl,hb⟩
     exact ⟨_,rfl,hK _ _ rfl hb⟩
    refine flow_cons (flow_op rfl rfl (by kernel_rfl) (by kernel_rfl) ?_) ?_
    ·intro env W hE hn ρ hρ hc hf hg K hK
     have r27:=(show ρ (.tmp 27)=env 3 by rw [hρ]; kernel_rfl).trans (hn 3 (by kernel_rfl))
     clear hρ hn hg
     simp [opLands,go_sem,r27]
     exact hK _ _ rfl (Below.refl _ _)
    refine flow_cons (flow_opY 4 false 28 rfl rfl rfl (by kernel_rfl) (by kernel_rfl) ?_ ?_) ?_
    ·intro env W hE hn ρ hρ
     exact (show ρ (.tmp 28)=env 4 by rw [hρ]; kernel_rfl).trans (hn 4 (by kernel_rfl))
    ·intro env W hE hn ρ hρ hc hf hg K hK
     have r2:ρ (.tmp 2)=.pointer (some ⟨w.heap.size,0,none⟩):=by rw [hρ]; kernel_rfl
     clear hρ hn hg
     simp [opLands,go_sem,r2]
     exact hK _ _ rfl (Below.refl _ _)
    refine flow_cons (flow_opY 4 false 28 rfl rfl rfl (by kernel_rfl) (by kernel_rfl) ?_ ?_) ?_
    ·intro env W hE hn ρ hρ
     exact (show ρ (.tmp 28)=env 4 by rw [hρ]; kernel_rfl).trans (hn 4 (by kernel_rfl))
    ·intro env W hE hn ρ hρ hc hf hg K hK
     have r29:=(show ρ (.tmp 29)=env 5 by rw [hρ]; kernel_rfl).trans (hn 5 (by kernel_rfl))
     clear hρ hn hg
     exact lands_load_row 50 (.tmp 29) rfl w.heap.size r29 52 _ (0,0) _ (HK3.out.below hE HK3.out.lt) Tryz.underlying50 rfl (by kernel_rfl) (hK _ _ rfl (Below.refl _ _))
    refine flow_cons (flow_opY 4 false 28 rfl rfl rfl (by kernel_rfl) (by kernel_rfl) ?_ ?_) ?_
    ·intro env W hE hn ρ hρ
     exact (show ρ (.tmp 28)=env 4 by rw [hρ]; kernel_rfl).trans (hn 4 (by kernel_rfl))
    ·intro env W hE hn ρ hρ hc hf hg K hK
     clear hρ hn hg
     simp [opLands,go_sem,hc]
     exact hK _ _ ⟨_,rfl,Blk.new _ _ _⟩ ((Below.refl _ _).alloc (Nat.le_refl _) _)
    refine flow_cons (flow_opY 4 false 28 rfl rfl rfl (by kernel_rfl) (by kernel_rfl) ?_ ?_) ?_
    ·intro env W hE hn ρ hρ
     exact (show ρ (.tmp 28)=env 4 by rw [hρ]; kernel_rfl).trans (hn 4 (by kernel_rfl))
    ·intro env W hE hn ρ hρ hc hf hg K hK
     have r30:=(show ρ (.tmp 30)=env 6 by rw [hρ]; kernel_rfl).trans (hn 6 (by kernel_rfl))
     obtain ⟨b31,e31,h31⟩:=hn 7 (by kernel_rfl)
     have r31:=(show ρ (.tmp 31)=env 7 by rw [hρ]; kernel_rfl).trans e31
     clear hρ hn hg
     refine lands_call rfl (by kernel_rfl) hf ?_
     rw [show #[Operand.tmp 30,Operand.tmp 31].map ρ = #[.agg #[.int .i64 3],.slice (some ⟨b31,0,none⟩) 1 1] by simp [r30,r31]]
     refine (show Calls Tryz.prog 88 #[.agg #[.int .i64 3],.slice (some ⟨b31,0,none⟩) 1 1] W fun e w'=>e=.returned (.bool true)∧Below W.heap.size W w' from tree_has 3 b31 [3] 1 3 W h31 rfl (by decide)).mono ?_
     rintro e W' ⟨rfl,hb⟩
     exact ⟨_,rfl,hK _ _ rfl hb⟩
    refine flow_cons (flow_opY 4 false 28 rfl rfl rfl (by kernel_rfl) (by kernel_rfl) ?_ ?_) ?_
    ·intro env W hE hn ρ hρ
     exact (show ρ (.tmp 28)=env 4 by rw [hρ]; kernel_rfl).trans (hn 4 (by kernel_rfl))
    ·intro env W hE hn ρ hρ hc hf hg K hK
     have r32:=(show ρ (.tmp 32)=env 8 by rw [hρ]; kernel_rfl).trans (hn 8 (by kernel_rfl))
     clear hρ hn hg
     simp [opLands,go_sem,r32]
     exact hK _ _ rfl (Below.refl _ _)
    refine flow_cons (flow_opY 9 true 33 rfl rfl rfl (by kernel_rfl) (by kernel_rfl) ?_ ?_) ?_
    ·intro env W hE hn ρ hρ
     exact (show ρ (.tmp 33)=env 9 by rw [hρ]; kernel_rfl).trans (hn 9 (by kernel_rfl))
    ·intro env W hE hn ρ hρ hc hf hg K hK
     have r6:ρ (.tmp 6)=.int .u64 vw:=by rw [hρ]; kernel_rfl
     clear hρ hn hg
     simp [opLands,go_sem,r6]
     exact hK _ _ rfl (Below.refl _ _)
    refine flow_cons (flow_opY 9 true 33 rfl rfl rfl (by kernel_rfl) (by kernel_rfl) ?_ ?_) ?_
    ·intro env W hE hn ρ hρ
     exact (show ρ (.tmp 33)=env 9 by rw [hρ]; kernel_rfl).trans (hn 9 (by kernel_rfl))
    ·intro env W hE hn ρ hρ hc hf hg K hK
     have r34:=(show ρ (.tmp 34)=env 10 by rw [hρ]; kernel_rfl).trans (hn 10 (by kernel_rfl))
     clear hρ hn hg
     refine lands_call rfl (by kernel_rfl) hf ?_
     rw [show #[Operand.tmp 34].map ρ = #[.int .u64 vw] by simp [r34]]
     refine (HLE.out W).mono ?_
     rintro e W' ⟨rfl,hb⟩
     exact ⟨_,rfl,hK _ _ rfl hb⟩
    refine flow_cons (flow_opY 9 true 33 rfl rfl rfl (by kernel_rfl) (by kernel_rfl) ?_ ?_) ?_
    ·intro env W hE hn ρ hρ
     exact (show ρ (.tmp 33)=env 9 by rw [hρ]; kernel_rfl).trans (hn 9 (by kernel_rfl))
    ·intro env W hE hn ρ hρ hc hf hg K hK
     have r3:ρ (.tmp 3)=.pointer (some ⟨w.heap.size+1,0,none⟩):=by rw [hρ]; kernel_rfl
     clear hρ hn hg
     simp [opLands,go_sem,r3]
     exact hK _ _ rfl (Below.refl _ _)
    refine flow_cons (flow_opY 9 true 33 rfl rfl rfl (by kernel_rfl) (by kernel_rfl) ?_ ?_) ?_
    ·intro env W hE hn ρ hρ
     exact (show ρ (.tmp 33)=env 9 by rw [hρ]; kernel_rfl).trans (hn 9 (by kernel_rfl))
    ·intro env W hE hn ρ hρ hc hf hg K hK
     have r36:=(show ρ (.tmp 36)=env 12 by rw [hρ]; kernel_rfl).trans (hn 12 (by kernel_rfl))
     clear hρ hn hg
     have q0:=(HK4.out.below hE HK4.out.lt).cell 6
     simp [opLands,go_sem,r36,q0]
     exact hK _ _ rfl (Below.refl _ _)
    refine flow_cons (flow_opY 9 true 33 rfl rfl rfl (by kernel_rfl) (by kernel_rfl) ?_ ?_) ?_
    ·intro env W hE hn ρ hρ
     exact (show ρ (.tmp 33)=env 9 by rw [hρ]; kernel_rfl).trans (hn 9 (by kernel_rfl))
    ·intro env W hE hn ρ hρ hc hf hg K hK
     have r35:=(show ρ (.tmp 35)=env 11 by rw [hρ]; kernel_rfl).trans (hn 11 (by kernel_rfl))
     have r37:=(show ρ (.tmp 37)=env 13 by rw [hρ]; kernel_rfl).trans (hn 13 (by kernel_rfl))
     clear hρ hn hg
     simp [opLands,go_sem,r35,r37,hev]
     exact hK _ _ rfl (Below.refl _ _)
    refine flow_cons (flow_opY 4 false 28 rfl rfl rfl (by kernel_rfl) (by kernel_rfl) ?_ ?_) ?_
    ·intro env W hE hn ρ hρ
     exact (show ρ (.tmp 28)=env 4 by rw [hρ]; kernel_rfl).trans (hn 4 (by kernel_rfl))
    ·intro env W hE hn ρ hρ hc hf hg K hK
     have r33:=(show ρ (.tmp 33)=env 9 by rw [hρ]; kernel_rfl).trans (hn 9 (by kernel_rfl))
     have r38:=(show ρ (.tmp 38)=env 14 by rw [hρ]; kernel_rfl).trans (hn 14 (by kernel_rfl))
     clear hρ hn hg
     simp [opLands,go_sem,hc,r33,r38]
     exact hK _ _ rfl (Below.refl _ _)
    refine flow_cons (flow_op rfl rfl (by kernel_rfl) (by kernel_rfl) ?_) ?_
    ·intro env W hE hn ρ hρ hc hf hg K hK
     have r28:=(show ρ (.tmp 28)=env 4 by rw [hρ]; kernel_rfl).trans (hn 4 (by kernel_rfl))
     have r39:=(show ρ (.tmp 39)=env 15 by rw [hρ]; kernel_rfl).trans (hn 15 (by kernel_rfl))
     clear hρ hn hg
     simp [opLands,go_sem,hc,r28,r39]
     exact hK _ _ rfl (Below.refl _ _)
    refine flow_cons (flow_op rfl rfl (by kernel_rfl) (by kernel_rfl) ?_) ?_
    ·intro env W hE hn ρ hρ hc hf hg K hK
     have r40:=(show ρ (.tmp 40)=env 16 by rw [hρ]; kernel_rfl).trans (hn 16 (by kernel_rfl))
     clear hρ hn hg
     simp [opLands,go_sem,r40]
     exact hK _ _ rfl (Below.refl _ _)
    refine flow_cons (flow_opY 17 false 41 rfl rfl rfl (by kernel_rfl) (by kernel_rfl) ?_ ?_) ?_
    ·intro env W hE hn ρ hρ
     exact (show ρ (.tmp 41)=env 17 by rw [hρ]; kernel_rfl).trans (hn 17 (by kernel_rfl))
    ·intro env W hE hn ρ hρ hc hf hg K hK
     have r2:ρ (.tmp 2)=.pointer (some ⟨w.heap.size,0,none⟩):=by rw [hρ]; kernel_rfl
     clear hρ hn hg
     simp [opLands,go_sem,r2]
     exact hK _ _ rfl (Below.refl _ _)
    refine flow_cons (flow_opY 17 false 41 rfl rfl rfl (by kernel_rfl) (by kernel_rfl) ?_ ?_) ?_
    ·intro env W hE hn ρ hρ
     exact (show ρ (.tmp 41)=env 17 by rw [hρ]; kernel_rfl).trans (hn 17 (by kernel_rfl))
    ·intro env W hE hn ρ hρ hc hf hg K hK
     have r42:=(show ρ (.tmp 42)=env 18 by rw [hρ]; kernel_rfl).trans (hn 18 (by kernel_rfl))
     clear hρ hn hg
     exact lands_load_row 50 (.tmp 42) rfl w.heap.size r42 52 _ (0,0) _ (HK3.out.below hE HK3.out.lt) Tryz.underlying50 rfl (by kernel_rfl) (hK _ _ rfl (Below.refl _ _))
    refine flow_cons (flow_opY 17 false 41 rfl rfl rfl (by kernel_rfl) (by kernel_rfl) ?_ ?_) ?_
    ·intro env W hE hn ρ hρ
     exact (show ρ (.tmp 41)=env 17 by rw [hρ]; kernel_rfl).trans (hn 17 (by kernel_rfl))
    ·intro env W hE hn ρ hρ hc hf hg K hK
     clear hρ hn hg
     simp [opLands,go_sem,hc]
     exact hK _ _ ⟨_,rfl,Blk.new _ _ _⟩ ((Below.refl _ _).alloc (Nat.le_refl _) _)
    refine flow_cons (flow_opY 17 false 41 rfl rfl rfl (by kernel_rfl) (by kernel_rfl) ?_ ?_) ?_
    ·intro env W hE hn ρ hρ
     exact (show ρ (.tmp 41)=env 17 by rw [hρ]; kernel_rfl).trans (hn 17 (by kernel_rfl))
    ·intro env W hE hn ρ hρ hc hf hg K hK
     have r43:=(show ρ (.tmp 43)=env 19 by rw [hρ]; kernel_rfl).trans (hn 19 (by kernel_rfl))
     obtain ⟨b44,e44,h44⟩:=hn 20 (by kernel_rfl)
     have r44:=(show ρ (.tmp 44)=env 20 by rw [hρ]; kernel_rfl).trans e44
     clear hρ hn hg
     refine lands_call rfl (by kernel_rfl) hf ?_
     rw [show #[Operand.tmp 43,Operand.tmp 44].map ρ = #[.agg #[.int .i64 3],.slice (some ⟨b44,0,none⟩) 1 1] by simp [r43,r44]]
     refine (show Calls Tryz.prog 88 #[.agg #[.int .i64 3],.slice (some ⟨b44,0,none⟩) 1 1] W fun e w'=>e=.returned (.bool false)∧Below W.heap.size W w' from tree_has 3 b44 [4] 1 3 W h44 rfl (by decide)).mono ?_
     rintro e W' ⟨rfl,hb⟩
     exact ⟨_,rfl,hK _ _ rfl hb⟩
    refine flow_cons (flow_opY 17 false 41 rfl rfl rfl (by kernel_rfl) (by kernel_rfl) ?_ ?_) ?_
    ·intro env W hE hn ρ hρ
     exact (show ρ (.tmp 41)=env 17 by rw [hρ]; kernel_rfl).trans (hn 17 (by kernel_rfl))
    ·intro env W hE hn ρ hρ hc hf hg K hK
     have r45:=(show ρ (.tmp 45)=env 21 by rw [hρ]; kernel_rfl).trans (hn 21 (by kernel_rfl))
     clear hρ hn hg
     simp [opLands,go_sem,r45]
     exact hK _ _ rfl (Below.refl _ _)
    refine flow_cons (flow_opN 22 true 46 rfl rfl (by kernel_rfl) ?_ (fun _ _=>rfl)) ?_
    ·intro env W hE hn ρ hρ
     rw [(show ρ (.tmp 46)=env 22 by rw [hρ]; kernel_rfl).trans (hn 22 (by kernel_rfl))]
     exact fun h=>by cases h
    refine flow_cons (flow_opN 22 true 46 rfl rfl (by kernel_rfl) ?_ (fun _ _=>rfl)) ?_
    ·intro env W hE hn ρ hρ
     rw [(show ρ (.tmp 46)=env 22 by rw [hρ]; kernel_rfl).trans (hn 22 (by kernel_rfl))]
     exact fun h=>by cases h
    refine flow_cons (flow_opN 22 true 46 rfl rfl (by kernel_rfl) ?_ (fun _ _=>rfl)) ?_
    ·intro env W hE hn ρ hρ
     rw [(show ρ (.tmp 46)=env 22 by rw [hρ]; kernel_rfl).trans (hn 22 (by kernel_rfl))]
     exact fun h=>by cases h
    refine flow_cons (flow_opY 17 false 41 rfl rfl rfl (by kernel_rfl) (by kernel_rfl) ?_ ?_) ?_
    ·intro env W hE hn ρ hρ
     exact (show ρ (.tmp 41)=env 17 by rw [hρ]; kernel_rfl).trans (hn 17 (by kernel_rfl))
    ·intro env W hE hn ρ hρ hc hf hg K hK
     have r46:=(show ρ (.tmp 46)=env 22 by rw [hρ]; kernel_rfl).trans (hn 22 (by kernel_rfl))
     have r49:=(show ρ (.tmp 49)=env 25 by rw [hρ]; kernel_rfl).trans (hn 25 (by kernel_rfl))
     clear hρ hn hg
     simp [opLands,go_sem,hc,r46,r49]
     exact hK _ _ rfl (Below.refl _ _)
    refine flow_cons (flow_op rfl rfl (by kernel_rfl) (by kernel_rfl) ?_) flow_nil
    ·intro env W hE hn ρ hρ hc hf hg K hK
     have r41:=(show ρ (.tmp 41)=env 17 by rw [hρ]; kernel_rfl).trans (hn 17 (by kernel_rfl))
     have r50:=(show ρ (.tmp 50)=env 26 by rw [hρ]; kernel_rfl).trans (hn 26 (by kernel_rfl))
     clear hρ hn hg
     simp [opLands,go_sem,hc,r41,r50]
     exact hK _ _ rfl (Below.refl _ _)
   case refine_5 =>
    intro env W hE hn
    have e27:=hn 27 (by decide)
    simp only [phis,List.getD_cons_zero,List.getD_cons_succ]at e27
    clear hn
    have hbE:=hb3.trans (hE.mono hb3.size)
    clear hE
    obtain rfl:false=ans:=hv
    refine Great.wpList_runTo rfl (some 4) rfl (.bool false) W ((show _=Result.ok (Next.value (env 27)) W by kernel_rfl).trans (by rw [e27])) ?_
    refine wpList_nil ?_
    refine (‹∀ (a:Act) (w:World),Code.wp _ Code.ret _ a w→_›) _ _ (wp_ret ?_)
    show bodyPost Tryz.prog Tryz.f51 (fun e w'=>e=.returned (.bool false)∧Below w.heap.size w w') .ret _ W
    exact bodyPost_ret (v:=.bool false) (by kernel_rfl) (by kernel_rfl) ⟨rfl,hbE⟩
 by_cases h3:kind=3
 ·subst h3
  have HF:=Lib.hid (dec_ToInt neg dg ex hdg w2 G.out)
  obtain ⟨tv,kv,sb,hv1,hv2,hv3⟩:∃ (tv:Bool) (kv:Int) (sb:Bool),toIntV (toIntD neg dg ex)=.tuple #[.bool tv,.int .u64 kv,.bool sb]∧(toIntD neg dg ex).isSome=sb∧0≤kv:=by
   cases hq:toIntD neg dg ex with
   | none=>exact ⟨false,0,false,rfl,rfl,by omega⟩
   | some r =>
    obtain ⟨nn,kk⟩:=r
    exact ⟨nn,kk,true,rfl,rfl,by omega⟩
  rw [hv1]at HF
  obtain rfl:sb=ans:=by
   have:=HANS.out
   rw [if_neg (by decide),if_pos rfl,hv2]at this
   rw [← this]
   simp
  clear hv1 hv2 HANS
  go_enter Tryz.func51,Tryz.ntmps51
  go_wp2_with fail
  rw [HW2.out]
  try rw [← HSZ.out]
  clear z0 z2 z3 z4 z5 z6 x0 HW2 HSZ
  refine HF.out.mono ?_
  rintro e w3 ⟨rfl,hb⟩
  have hb3:=hb2.trans (hb.mono hb2.size)
  have hk3:=hk1.below hb hk1.lt
  have hk4:=hk2.below hb hk2.lt
  clear HF hb hb2 hk1 hk2 G
  have x0:=hk3.cell 0
  have Ha:=Lib.hid (show Calls Tryz.prog 88 #[.agg #[.int .i64 3],.slice (some ⟨w3.heap.size,0,none⟩) 1 1] (w3.alloc (.cells #[.int .i64 1] 3)) fun e w'=>e=.returned (.bool false)∧Below (w3.alloc (.cells #[.int .i64 1] 3)).heap.size (w3.alloc (.cells #[.int .i64 1] 3)) w' from tree_has 3 w3.heap.size [1] 1 3 (w3.alloc (.cells #[.int .i64 1] 3)) (Blk.new _ _ _) rfl (by decide))
  have hza:=hb3.alloc hb3.size (.cells #[.int .i64 1] 3)
  have hxa:=hk3.alloc (.cells #[.int .i64 1] 3)
  have hya:=hk4.alloc (.cells #[.int .i64 1] 3)
  go_wp2_with fail
  refine Ha.out.mono ?_
  rintro e w4 ⟨rfl,hqa⟩
  have hb4:=hza.trans (hqa.mono hza.size)
  have hk5:=hxa.below hqa hxa.lt
  have hk6:=hya.below hqa hya.lt
  clear hza hxa hya hqa Ha
  clear x0
  have x0:=hk5.cell 0
  have Hb:=Lib.hid (show Calls Tryz.prog 88 #[.agg #[.int .i64 3],.slice (some ⟨w4.heap.size,0,none⟩) 2 2] (w4.alloc (.cells #[.int .i64 2,.int .i64 3] 3)) fun e w'=>e=.returned (.bool true)∧Below (w4.alloc (.cells #[.int .i64 2,.int .i64 3] 3)).heap.size (w4.alloc (.cells #[.int .i64 2,.int .i64 3] 3)) w' from tree_has 3 w4.heap.size [2,3] 2 3 (w4.alloc (.cells #[.int .i64 2,.int .i64 3] 3)) (Blk.new _ _ _) rfl (by decide))
  have hzb:=hb4.alloc hb4.size (.cells #[.int .i64 2,.int .i64 3] 3)
  have hxb:=hk5.alloc (.cells #[.int .i64 2,.int .i64 3] 3)
  have hyb:=hk6.alloc (.cells #[.int .i64 2,.int .i64 3] 3)
  go_wp2_with fail
  refine Hb.out.mono ?_
  rintro e w5 ⟨rfl,hqb⟩
  have hb5:=hzb.trans (hqb.mono hzb.size)
  have hk7:=hxb.below hqb hxb.lt
  have hk8:=hyb.below hqb hyb.lt
  clear hzb hxb hyb hqb Hb
  clear x0
  have x0:=hk7.cell 0
  cases sb with
  | true =>
   go_wp2_with fail
   all_goals go_ret
   all_goals exact ⟨rfl,hb5⟩
  | false =>
   have Hc:=Lib.hid (show Calls Tryz.prog 88 #[.agg #[.int .i64 3],.slice (some ⟨w5.heap.size,0,none⟩) 1 1] (w5.alloc (.cells #[.int .i64 4] 3)) fun e w'=>e=.returned (.bool false)∧Below (w5.alloc (.cells #[.int .i64 4] 3)).heap.size (w5.alloc (.cells #[.int .i64 4] 3)) w' from tree_has 3 w5.heap.size [4] 1 3 (w5.alloc (.cells #[.int .i64 4] 3)) (Blk.new _ _ _) rfl (by decide))
   have hzc:=hb5.alloc hb5.size (.cells #[.int .i64 4] 3)
   have hxc:=hk7.alloc (.cells #[.int .i64 4] 3)
   have hyc:=hk8.alloc (.cells #[.int .i64 4] 3)
   go_wp2_with fail
   refine Hc.out.mono ?_
   rintro e w6 ⟨rfl,hqc⟩
   have hb6:=hzc.trans (hqc.mono hzc.size)
   have hk9:=hxc.below hqc hxc.lt
   have hk10:=hyc.below hqc hyc.lt
   clear hzc hxc hyc hqc Hc
   go_wp2_with fail
   all_goals go_ret
   all_goals exact ⟨rfl,hb6⟩
 have y4:(kind == 4)=false:=by rw [beq_eq_false_iff_ne]; exact h4
 have y3:(kind == 3)=false:=by rw [beq_eq_false_iff_ne]; exact h3
 by_cases h6:kind=6
 ·subst h6
  obtain rfl:true=ans:=by
   have:=HANS.out
   simp at this
   first | exact this.symm | exact this
  clear HANS
  have Ha:=Lib.hid (show Calls Tryz.prog 88 #[.agg #[.int .i64 3],.slice (some ⟨w2.heap.size,0,none⟩) 3 3] (w2.alloc (.cells #[.int .i64 2,.int .i64 3,.int .i64 4] 3)) fun e w'=>e=.returned (.bool true)∧Below (w2.alloc (.cells #[.int .i64 2,.int .i64 3,.int .i64 4] 3)).heap.size (w2.alloc (.cells #[.int .i64 2,.int .i64 3,.int .i64 4] 3)) w' from tree_has 3 w2.heap.size [2,3,4] 3 3 (w2.alloc (.cells #[.int .i64 2,.int .i64 3,.int .i64 4] 3)) (Blk.new _ _ _) rfl (by decide))
  have hza:=hb2.alloc hb2.size (.cells #[.int .i64 2,.int .i64 3,.int .i64 4] 3)
  have hxa:=hk1.alloc (.cells #[.int .i64 2,.int .i64 3,.int .i64 4] 3)
  have hya:=hk2.alloc (.cells #[.int .i64 2,.int .i64 3,.int .i64 4] 3)
  go_enter Tryz.func51,Tryz.ntmps51
  go_wp2_with fail
  rw [HW2.out]
  try rw [← HSZ.out]
  clear z0 z2 z3 z4 z5 z6 x0 HW2 HSZ
  refine Ha.out.mono ?_
  rintro e w4 ⟨rfl,hqa⟩
  have hb4:=hza.trans (hqa.mono hza.size)
  have hk5:=hxa.below hqa hxa.lt
  have hk6:=hya.below hqa hya.lt
  clear hza hxa hya hqa Ha
  go_wp2_with fail
  all_goals go_ret
  all_goals exact ⟨rfl,hb4⟩
 have y6:(kind == 6)=false:=by rw [beq_eq_false_iff_ne]; exact h6
 by_cases h9:kind=9
 ·subst h9
  obtain rfl:true=ans:=by
   have:=HANS.out
   simp at this
   first | exact this.symm | exact this
  clear HANS
  have Ha:=Lib.hid (show Calls Tryz.prog 88 #[.agg #[.int .i64 3],.slice (some ⟨w2.heap.size,0,none⟩) 2 2] (w2.alloc (.cells #[.int .i64 2,.int .i64 3] 3)) fun e w'=>e=.returned (.bool true)∧Below (w2.alloc (.cells #[.int .i64 2,.int .i64 3] 3)).heap.size (w2.alloc (.cells #[.int .i64 2,.int .i64 3] 3)) w' from tree_has 3 w2.heap.size [2,3] 2 3 (w2.alloc (.cells #[.int .i64 2,.int .i64 3] 3)) (Blk.new _ _ _) rfl (by decide))
  have hza:=hb2.alloc hb2.size (.cells #[.int .i64 2,.int .i64 3] 3)
  have hxa:=hk1.alloc (.cells #[.int .i64 2,.int .i64 3] 3)
  have hya:=hk2.alloc (.cells #[.int .i64 2,.int .i64 3] 3)
  go_enter Tryz.func51,Tryz.ntmps51
  go_wp2_with fail
  rw [HW2.out]
  try rw [← HSZ.out]
  clear z0 z2 z3 z4 z5 z6 x0 HW2 HSZ
  refine Ha.out.mono ?_
  rintro e w4 ⟨rfl,hqa⟩
  have hb4:=hza.trans (hqa.mono hza.size)
  have hk5:=hxa.below hqa hxa.lt
  have hk6:=hya.below hqa hya.lt
  clear hza hxa hya hqa Ha
  go_wp2_with fail
  all_goals go_ret
  all_goals exact ⟨rfl,hb4⟩
 have y9:(kind == 9)=false:=by rw [beq_eq_false_iff_ne]; exact h9
 by_cases h10:kind=10
 ·subst h10
  obtain rfl:true=ans:=by
   have:=HANS.out
   simp at this
   first | exact this.symm | exact this
  clear HANS
  have Ha:=Lib.hid (show Calls Tryz.prog 88 #[.agg #[.int .i64 3],.slice (some ⟨w2.heap.size,0,none⟩) 2 2] (w2.alloc (.cells #[.int .i64 2,.int .i64 3] 3)) fun e w'=>e=.returned (.bool true)∧Below (w2.alloc (.cells #[.int .i64 2,.int .i64 3] 3)).heap.size (w2.alloc (.cells #[.int .i64 2,.int .i64 3] 3)) w' from tree_has 3 w2.heap.size [2,3] 2 3 (w2.alloc (.cells #[.int .i64 2,.int .i64 3] 3)) (Blk.new _ _ _) rfl (by decide))
  have hza:=hb2.alloc hb2.size (.cells #[.int .i64 2,.int .i64 3] 3)
  have hxa:=hk1.alloc (.cells #[.int .i64 2,.int .i64 3] 3)
  have hya:=hk2.alloc (.cells #[.int .i64 2,.int .i64 3] 3)
  go_enter Tryz.func51,Tryz.ntmps51
  go_wp2_with fail
  rw [HW2.out]
  try rw [← HSZ.out]
  clear z0 z2 z3 z4 z5 z6 x0 HW2 HSZ
  refine Ha.out.mono ?_
  rintro e w4 ⟨rfl,hqa⟩
  have hb4:=hza.trans (hqa.mono hza.size)
  have hk5:=hxa.below hqa hxa.lt
  have hk6:=hya.below hqa hya.lt
  clear hza hxa hya hqa Ha
  go_wp2_with fail
  all_goals go_ret
  all_goals exact ⟨rfl,hb4⟩
 have y10:(kind == 10)=false:=by rw [beq_eq_false_iff_ne]; exact h10
 by_cases h11:kind=11
 ·subst h11
  obtain rfl:false=ans:=by
   have:=HANS.out
   simp at this
   first | exact this.symm | exact this
  clear HANS
  have Ha:=Lib.hid (show Calls Tryz.prog 88 #[.agg #[.int .i64 3],.slice (some ⟨w2.heap.size,0,none⟩) 1 1] (w2.alloc (.cells #[.int .i64 4] 3)) fun e w'=>e=.returned (.bool false)∧Below (w2.alloc (.cells #[.int .i64 4] 3)).heap.size (w2.alloc (.cells #[.int .i64 4] 3)) w' from tree_has 3 w2.heap.size [4] 1 3 (w2.alloc (.cells #[.int .i64 4] 3)) (Blk.new _ _ _) rfl (by decide))
  have hza:=hb2.alloc hb2.size (.cells #[.int .i64 4] 3)
  have hxa:=hk1.alloc (.cells #[.int .i64 4] 3)
  have hya:=hk2.alloc (.cells #[.int .i64 4] 3)
  go_enter Tryz.func51,Tryz.ntmps51
  go_wp2_with fail
  rw [HW2.out]
  try rw [← HSZ.out]
  clear z0 z2 z3 z4 z5 z6 x0 HW2 HSZ
  refine Ha.out.mono ?_
  rintro e w4 ⟨rfl,hqa⟩
  have hb4:=hza.trans (hqa.mono hza.size)
  have hk5:=hxa.below hqa hxa.lt
  have hk6:=hya.below hqa hya.lt
  clear hza hxa hya hqa Ha
  go_wp2_with fail
  all_goals go_ret
  all_goals exact ⟨rfl,hb4⟩
 have y11:(kind == 11)=false:=by rw [beq_eq_false_iff_ne]; exact h11
 by_cases h8:kind=8
 ·subst h8
  obtain rfl:keysFit 3 l=ans:=by
   have:=HANS.out
   simp at this
   first | exact this.symm | exact this
  clear HANS
  have Ha:=Lib.hid (show Calls Tryz.prog 88 #[.agg #[.int .i64 3],.slice (some ⟨w2.heap.size,0,none⟩) 4 4] (w2.alloc (.cells #[.int .i64 1,.int .i64 2,.int .i64 3,.int .i64 4] 3)) fun e w'=>e=.returned (.bool true)∧Below (w2.alloc (.cells #[.int .i64 1,.int .i64 2,.int .i64 3,.int .i64 4] 3)).heap.size (w2.alloc (.cells #[.int .i64 1,.int .i64 2,.int .i64 3,.int .i64 4] 3)) w' from tree_has 3 w2.heap.size [1,2,3,4] 4 3 (w2.alloc (.cells #[.int .i64 1,.int .i64 2,.int .i64 3,.int .i64 4] 3)) (Blk.new _ _ _) rfl (by decide))
  have hza:=hb2.alloc hb2.size (.cells #[.int .i64 1,.int .i64 2,.int .i64 3,.int .i64 4] 3)
  have hxa:=hk1.alloc (.cells #[.int .i64 1,.int .i64 2,.int .i64 3,.int .i64 4] 3)
  have hya:=hk2.alloc (.cells #[.int .i64 1,.int .i64 2,.int .i64 3,.int .i64 4] 3)
  go_enter Tryz.func51,Tryz.ntmps51
  go_wp2_with fail
  rw [HW2.out]
  try rw [← HSZ.out]
  clear z0 z2 z3 z4 z5 z6 x0 HW2 HSZ
  refine Ha.out.mono ?_
  rintro e w4 ⟨rfl,hqa⟩
  have hb4:=hza.trans (hqa.mono hza.size)
  have hk5:=hxa.below hqa hxa.lt
  have hk6:=hya.below hqa hya.lt
  have hg:=((Below.refl _ w2).alloc (Nat.le_refl _) (.cells #[.int .i64 1,.int .i64 2,.int .i64 3,.int .i64 4] 3)).trans (hqa.mono ((Below.refl _ w2).alloc (Nat.le_refl _) (.cells #[.int .i64 1,.int .i64 2,.int .i64 3,.int .i64 4] 3)).size)
  clear hza hxa hya hqa Ha
  have G4:=Lib.hid (G.out.below hg)
  have HK:=Lib.hid (tree_keys l A n c w4 B d (hl.below hb4 hB) (Nat.le_trans hB hb4.size) hn hc)
  have z8:=hk6.cell 8
  clear hg G hb2 hk1 hk2 hl
  go_wp2_with fail
  refine HK.out.mono ?_
  rintro e w5 ⟨⟨A',n',c',rfl,hn',hl'⟩,hb5⟩
  have hb6:=hb4.trans (hb5.mono hb4.size)
  have hk7:=hk5.below hb5 hk5.lt
  have G5:=G4.out.below hb5
  have HC:=contains_fits (fun y=>!keyO 3 y.own) w.heap.size (evens l) A' n' c' w5 w5.heap.size (d+1) hl' (Nat.le_refl _) hn' (fun k hk x' W hW hlx hox=>fits_key 3 (evens l)[k] x' w.heap.size W w5.heap.size (d+1) hlx hox (hk7.below hW hk7.lt) (G5.below hW))
  rw [any_keys 3 l]at HC
  obtain ⟨kf,hkf⟩:∃ kf,keysFit 3 l=kf:=⟨_,rfl⟩
  rw [hkf]at HC
  have HC:=Lib.hid HC
  clear hb4 hb5 hk5 hk6 G4 G5 hl' hn' HK z8
  go_wp2_with fail
  refine HC.out.mono ?_
  rintro e w6 ⟨rfl,hb7⟩
  have hb8:=hb6.trans (hb7.mono hb6.size)
  clear HC hb7 hb6
  cases kf with
  | true =>
   go_wp2_with fail
   all_goals go_ret
   all_goals exact ⟨ret_bool (by rw [hkf]),hb8⟩
  | false =>
   go_wp2_with fail
   all_goals go_ret
   all_goals exact ⟨ret_bool (by rw [hkf]),hb8⟩
 have y8:(kind == 8)=false:=by rw [beq_eq_false_iff_ne]; exact h8
 obtain rfl:true=ans:=by
  have:=HANS.out
  rw [if_neg h4,if_neg h3,if_neg h6,if_neg (fun q=>q.elim h9 h10),if_neg h11,if_neg h8]at this
  rw [← this]
  decide
 clear HANS
 have Ha:=Lib.hid (show Calls Tryz.prog 88 #[.agg #[.int .i64 3],.slice (some ⟨w2.heap.size,0,none⟩) 4 4] (w2.alloc (.cells #[.int .i64 1,.int .i64 2,.int .i64 3,.int .i64 4] 3)) fun e w'=>e=.returned (.bool true)∧Below (w2.alloc (.cells #[.int .i64 1,.int .i64 2,.int .i64 3,.int .i64 4] 3)).heap.size (w2.alloc (.cells #[.int .i64 1,.int .i64 2,.int .i64 3,.int .i64 4] 3)) w' from tree_has 3 w2.heap.size [1,2,3,4] 4 3 (w2.alloc (.cells #[.int .i64 1,.int .i64 2,.int .i64 3,.int .i64 4] 3)) (Blk.new _ _ _) rfl (by decide))
 have hza:=hb2.alloc hb2.size (.cells #[.int .i64 1,.int .i64 2,.int .i64 3,.int .i64 4] 3)
 have hxa:=hk1.alloc (.cells #[.int .i64 1,.int .i64 2,.int .i64 3,.int .i64 4] 3)
 have hya:=hk2.alloc (.cells #[.int .i64 1,.int .i64 2,.int .i64 3,.int .i64 4] 3)
 go_enter Tryz.func51,Tryz.ntmps51
 go_wp2_with fail
 rw [HW2.out]
 try rw [← HSZ.out]
 clear z0 z2 z3 z4 z5 z6 x0 HW2 HSZ
 refine Ha.out.mono ?_
 rintro e w4 ⟨rfl,hqa⟩
 have hb4:=hza.trans (hqa.mono hza.size)
 have hk5:=hxa.below hqa hxa.lt
 have hk6:=hya.below hqa hya.lt
 clear hza hxa hya hqa Ha
 go_wp2_with fail
 all_goals go_ret
 all_goals exact ⟨rfl,hb4⟩
end Go.Proofs.YtonihophanmaaaaGreatDoor
