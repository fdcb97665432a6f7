/- The texts GateT, UtfIs, GateY, put together. -/
import Derived.Test.YtonihophanmaaaaGreatDoorPa17
import Derived.Test.YtonihophanmaaaaGreatDoorPa18
import Derived.Test.YtonihophanmaaaaGreatDoorChecked
import Derived.WalkKit
import Derived.LaidEql
import Derived.Stop.Asserts
import Derived.RowKitTokens
import Derived.Test.YtonihophanmaaaaGreatDoorPa16
namespace Go.Proofs.YtonihophanmaaaaGreatDoor
open Go.RowKit Go.Shelf
theorem any_keys (f:Int):∀ l:List Tr,(evens l).any (fun y=>!keyO f y.own) = !keysFit f l
 | []=>by simp [evens,keysFit]
 | [k]=>by simp [evens,keysFit]
 | k::k'::r=>by
  show ((!keyO f k.own) || (evens r).any (fun y=>!keyO f y.own)) = !(keyO f k.own && keysFit f r)
  rw [any_keys f r,Bool.not_and]
set_option maxHeartbeats 8000000 in
set_option maxRecDepth 100000 in
theorem fits_C {aT aF:Addr} (o:Own) (l:List Tr) (A:Option Addr) (n c:Nat) (w:World) (B d:Nat) (hl:ListAt w B d l (.slice A n c)) (hB:B≤w.heap.size) (hn:l.length=n) (hc:n≤1000000000000) (ho:OwnOk o) (h:GW w aT aF) :
  Calls Tryz.prog 51 #[.agg #[.int .i64 2],nodeV o (.slice A n c)] w fun e w'=>e=.returned (.bool (fitO 2 flC o l))∧Below w.heap.size w w':=by
 obtain ⟨ans,hans⟩:∃ ans,fitO 2 flC o l=ans:=⟨_,rfl⟩
 rw [hans]
 unfold fitO at hans
 obtain ⟨kind,b,neg,dg,ex,u,wd,s⟩:=o
 have hdg:=ho.dg
 have hu:=ho.u
 simp only []at hdg hu hans
 unfold nodeV
 simp only []
 obtain ⟨hb2,hk1,hk2⟩:=box2 w #[.int .i64 2] #[.int .i64 kind,.bool b,.bool neg,.string dg,.int .i64 ex,.int .u64 u,.int .i64 wd,.string s,.slice A n c] 52 28
 have z0:=hk2.cell 0
 have z2:=hk2.cell 2
 have z3:=hk2.cell 3
 have z4:=hk2.cell 4
 have z5:=hk2.cell 5
 have z6:=hk2.cell 6
 have x0:=hk1.cell 0
 obtain ⟨w2,hw2⟩:∃ w2,(w.alloc (.cells #[.int .i64 2] 52)).alloc (.cells #[.int .i64 kind,.bool b,.bool neg,.string dg,.int .i64 ex,.int .u64 u,.int .i64 wd,.string s,.slice A n c] 28)=w2:=⟨_,rfl⟩
 rw [hw2]at hb2 hk1 hk2
 have G:=Lib.hid (h.below hb2)
 have HANS:=Lib.hid hans
 have HW2:=Lib.hid hw2
 have HSZ:=Lib.hid (show w2.heap.size=w.heap.size+1+1 by rw [← hw2]; simp)
 clear hans ho h hw2
 by_cases h4:kind=4
 ·subst h4
  have hv:flC ⟨4,b,neg,dg,ex,u,wd,s⟩=ans:=by
   have:=HANS.out
   rw [if_pos rfl]at this
   exact this
  have HF:=Lib.hid (float_Widen u wd hu.1 hu.2 w2)
  obtain ⟨vw,hvw⟩:∃ vw,widenV u wd=vw:=⟨_,rfl⟩
  obtain ⟨ve,hve⟩:∃ ve:Int,(if wideOk u wd=true then 0 else 2)=ve:=⟨_,rfl⟩
  rw [hvw,hve]at HF
  clear hvw hve HANS
  go_enter Tryz.func51,Tryz.ntmps51
  go_wp2_with fail
  rw [HW2.out]
  try rw [← HSZ.out]
  clear z0 z2 z3 z4 z5 z6 x0 HW2 HSZ
  refine HF.out.mono ?_
  rintro e w3 ⟨rfl,hb⟩
  have hb3:=hb2.trans (hb.mono hb2.size)
  have hk3:=hk1.below hb hk1.lt
  have hk4:=hk2.below hb hk2.lt
  clear HF hb hb2 hk1 hk2 G
  have x0:=hk3.cell 0
  have z6:=hk4.cell 6
  go_wp2_with fail
  have HK3:=Lib.hid hk3
  refine wp_region_tail (R:=fun W W'=>Below W.heap.size W W') 28 (by kernel_rfl) (by kernel_rfl) (fun _=>Below.refl _ _) (by kernel_rfl) (by kernel_rfl) (fun W=>Below w3.heap.size w3 W)
   [fun v _=>v=.pointer (some ⟨w.heap.size,0,none⟩),fun v _=>v=.agg #[.int .i64 2],fun v W=>∃ b,v=.slice (some ⟨b,0,none⟩) 1 1∧Blk W b #[.int .i64 2] 3,fun v _=>v=.bool true,fun v _=>v=.bool true,fun v _=>v=undef,fun v _=>v=undef,fun v _=>v=undef,fun v _=>v=undef,fun v _=>v=undef,fun v _=>v=undef,fun v _=>v=undef,fun v _=>v=undef,fun v _=>v=undef,fun v _=>v=undef,fun v _=>v=undef,fun v _=>v=.bool true,fun v _=>v=.bool true,fun v _=>v=undef,fun v _=>v=undef,fun v _=>v=undef,fun v _=>v=undef,fun v _=>v=undef,fun v _=>v=undef,fun v _=>v=undef,fun v _=>v=undef,fun v _=>v=undef,fun v _=>v=.bool true] ?_ ?_ ?_ ?_ ?_
  case refine_1=>exact (Below.refl _ _).drew
  case refine_2=>exact fun W W' he hr=>he.trans (hr.mono he.size)
  case refine_3 =>
   intro q hq v W W' _ hv hr
   simp only [List.mem_cons,List.not_mem_nil,or_false]at hq
   rcases hq with rfl|rfl|rfl|rfl|rfl|rfl|rfl|rfl|rfl|rfl|rfl|rfl|rfl|rfl|rfl|rfl|rfl|rfl|rfl|rfl|rfl|rfl|rfl|rfl|rfl|rfl|rfl|rfl <;> first | exact hv | (obtain ⟨b,e,h⟩:=hv; exact ⟨b,e,h.below hr h.lt⟩)
  case refine_4 =>
   refine flow_cons (flow_op rfl rfl (by kernel_rfl) (by kernel_rfl) ?_) ?_
   ·intro env W hE hn ρ hρ hc hf hg K hK
    have r2:ρ (.tmp 2)=.pointer (some ⟨w.heap.size,0,none⟩):=by rw [hρ]; kernel_rfl
    clear hρ hn hg
    simp [opLands,go_sem,r2]
    exact hK _ _ rfl (Below.refl _ _)
   refine flow_cons (flow_op rfl rfl (by kernel_rfl) (by kernel_rfl) ?_) ?_
   ·intro env W hE hn ρ hρ hc hf hg K hK
    have r24:=(show ρ (.tmp 24)=env 0 by rw [hρ]; kernel_rfl).trans (hn 0 (by kernel_rfl))
    clear hρ hn hg
    exact lands_load_row 50 (.tmp 24) rfl w.heap.size r24 52 _ (0,0) _ (HK3.out.below hE HK3.out.lt) Tryz.underlying50 rfl (by kernel_rfl) (hK _ _ rfl (Below.refl _ _))
   refine flow_cons (flow_op rfl rfl (by kernel_rfl) (by kernel_rfl) ?_) ?_
   ·intro env W hE hn ρ hρ hc hf hg K hK
    clear hρ hn hg
    simp [opLands,go_sem,hc]
    exact hK _ _ ⟨_,rfl,Blk.new _ _ _⟩ ((Below.refl _ _).alloc (Nat.le_refl _) _)
   refine flow_cons (flow_op rfl rfl (by kernel_rfl) (by kernel_rfl) ?_) ?_
   ·intro env W hE hn ρ hρ hc hf hg K hK
    have r25:=(show ρ (.tmp 25)=env 1 by rw [hρ]; kernel_rfl).trans (hn 1 (by kernel_rfl))
    obtain ⟨b26,e26,h26⟩:=hn 2 (by kernel_rfl)
    have r26:=(show ρ (.tmp 26)=env 2 by rw [hρ]; kernel_rfl).trans e26
    clear hρ hn hg
    refine lands_call rfl (by kernel_rfl) hf ?_
    rw [show #[Operand.tmp 25,Operand.tmp 26].map ρ = #[.agg #[.int .i64 2],.slice (some ⟨b26,0,none⟩) 1 1] by simp [r25,r26]]
    refine (show Calls Tryz.prog 88 #[.agg #[.int .i64 2],.slice (some ⟨b26,0,none⟩) 1 1] W fun e w'=>e=.returned (.bool true)∧Below W.heap.size W w' from tree_has 2 b26 [2] 1 3 W h26 rfl (by decide)).mono ?_
    rintro e W' ⟨rfl,hb⟩
    exact ⟨_,rfl,hK _ _ rfl hb⟩
   refine flow_cons (flow_op rfl rfl (by kernel_rfl) (by kernel_rfl) ?_) ?_
   ·intro env W hE hn ρ hρ hc hf hg K hK
    have r27:=(show ρ (.tmp 27)=env 3 by rw [hρ]; kernel_rfl).trans (hn 3 (by kernel_rfl))
    clear hρ hn hg
    simp [opLands,go_sem,r27]
    exact hK _ _ rfl (Below.refl _ _)
   refine flow_cons (flow_opN 4 false 28 rfl rfl (by kernel_rfl) ?_ (fun _ _=>rfl)) ?_
   ·intro env W hE hn ρ hρ
    rw [(show ρ (.tmp 28)=env 4 by rw [hρ]; kernel_rfl).trans (hn 4 (by kernel_rfl))]
    exact fun h=>by cases h
   refine flow_cons (flow_opN 4 false 28 rfl rfl (by kernel_rfl) ?_ (fun _ _=>rfl)) ?_
   ·intro env W hE hn ρ hρ
    rw [(show ρ (.tmp 28)=env 4 by rw [hρ]; kernel_rfl).trans (hn 4 (by kernel_rfl))]
    exact fun h=>by cases h
   refine flow_cons (flow_opN 4 false 28 rfl rfl (by kernel_rfl) ?_ (fun _ _=>rfl)) ?_
   ·intro env W hE hn ρ hρ
    rw [(show ρ (.tmp 28)=env 4 by rw [hρ]; kernel_rfl).trans (hn 4 (by kernel_rfl))]
    exact fun h=>by cases h
   refine flow_cons (flow_opN 4 false 28 rfl rfl (by kernel_rfl) ?_ (fun _ _=>rfl)) ?_
   ·intro env W hE hn ρ hρ
    rw [(show ρ (.tmp 28)=env 4 by rw [hρ]; kernel_rfl).trans (hn 4 (by kernel_rfl))]
    exact fun h=>by cases h
   refine flow_cons (flow_opN 4 false 28 rfl rfl (by kernel_rfl) ?_ (fun _ _=>rfl)) ?_
   ·intro env W hE hn ρ hρ
    rw [(show ρ (.tmp 28)=env 4 by rw [hρ]; kernel_rfl).trans (hn 4 (by kernel_rfl))]
    exact fun h=>by cases h
   refine flow_cons (flow_opN 9 true 33 rfl rfl (by kernel_rfl) ?_ (fun _ _=>rfl)) ?_
   ·intro env W hE hn ρ hρ
    rw [(show ρ (.tmp 33)=env 9 by rw [hρ]; kernel_rfl).trans (hn 9 (by kernel_rfl))]
    exact fun h=>by cases h
   refine flow_cons (flow_opN 9 true 33 rfl rfl (by kernel_rfl) ?_ (fun _ _=>rfl)) ?_
   ·intro env W hE hn ρ hρ
    rw [(show ρ (.tmp 33)=env 9 by rw [hρ]; kernel_rfl).trans (hn 9 (by kernel_rfl))]
    exact fun h=>by cases h
   refine flow_cons (flow_opN 9 true 33 rfl rfl (by kernel_rfl) ?_ (fun _ _=>rfl)) ?_
   ·intro env W hE hn ρ hρ
    rw [(show ρ (.tmp 33)=env 9 by rw [hρ]; kernel_rfl).trans (hn 9 (by kernel_rfl))]
    exact fun h=>by cases h
   refine flow_cons (flow_opN 9 true 33 rfl rfl (by kernel_rfl) ?_ (fun _ _=>rfl)) ?_
   ·intro env W hE hn ρ hρ
    rw [(show ρ (.tmp 33)=env 9 by rw [hρ]; kernel_rfl).trans (hn 9 (by kernel_rfl))]
    exact fun h=>by cases h
   refine flow_cons (flow_opN 9 true 33 rfl rfl (by kernel_rfl) ?_ (fun _ _=>rfl)) ?_
   ·intro env W hE hn ρ hρ
    rw [(show ρ (.tmp 33)=env 9 by rw [hρ]; kernel_rfl).trans (hn 9 (by kernel_rfl))]
    exact fun h=>by cases h
   refine flow_cons (flow_opN 4 false 28 rfl rfl (by kernel_rfl) ?_ (fun _ _=>rfl)) ?_
   ·intro env W hE hn ρ hρ
    rw [(show ρ (.tmp 28)=env 4 by rw [hρ]; kernel_rfl).trans (hn 4 (by kernel_rfl))]
    exact fun h=>by cases h
   refine flow_cons (flow_op rfl rfl (by kernel_rfl) (by kernel_rfl) ?_) ?_
   ·intro env W hE hn ρ hρ hc hf hg K hK
    have r28:=(show ρ (.tmp 28)=env 4 by rw [hρ]; kernel_rfl).trans (hn 4 (by kernel_rfl))
    have r39:=(show ρ (.tmp 39)=env 15 by rw [hρ]; kernel_rfl).trans (hn 15 (by kernel_rfl))
    clear hρ hn hg
    simp [opLands,go_sem,hc,r28,r39]
    exact hK _ _ rfl (Below.refl _ _)
   refine flow_cons (flow_op rfl rfl (by kernel_rfl) (by kernel_rfl) ?_) ?_
   ·intro env W hE hn ρ hρ hc hf hg K hK
    have r40:=(show ρ (.tmp 40)=env 16 by rw [hρ]; kernel_rfl).trans (hn 16 (by kernel_rfl))
    clear hρ hn hg
    simp [opLands,go_sem,r40]
    exact hK _ _ rfl (Below.refl _ _)
   refine flow_cons (flow_opN 17 false 41 rfl rfl (by kernel_rfl) ?_ (fun _ _=>rfl)) ?_
   ·intro env W hE hn ρ hρ
    rw [(show ρ (.tmp 41)=env 17 by rw [hρ]; kernel_rfl).trans (hn 17 (by kernel_rfl))]
    exact fun h=>by cases h
   refine flow_cons (flow_opN 17 false 41 rfl rfl (by kernel_rfl) ?_ (fun _ _=>rfl)) ?_
   ·intro env W hE hn ρ hρ
    rw [(show ρ (.tmp 41)=env 17 by rw [hρ]; kernel_rfl).trans (hn 17 (by kernel_rfl))]
    exact fun h=>by cases h
   refine flow_cons (flow_opN 17 false 41 rfl rfl (by kernel_rfl) ?_ (fun _ _=>rfl)) ?_
   ·intro env W hE hn ρ hρ
    rw [(show ρ (.tmp 41)=env 17 by rw [hρ]; kernel_rfl).trans (hn 17 (by kernel_rfl))]
    exact fun h=>by cases h
   refine flow_cons (flow_opN 17 false 41 rfl rfl (by kernel_rfl) ?_ (fun _ _=>rfl)) ?_
   ·intro env W hE hn ρ hρ
    rw [(show ρ (.tmp 41)=env 17 by rw [hρ]; kernel_rfl).trans (hn 17 (by kernel_rfl))]
    exact fun h=>by cases h
   refine flow_cons (flow_opN 17 false 41 rfl rfl (by kernel_rfl) ?_ (fun _ _=>rfl)) ?_
   ·intro env W hE hn ρ hρ
    rw [(show ρ (.tmp 41)=env 17 by rw [hρ]; kernel_rfl).trans (hn 17 (by kernel_rfl))]
    exact fun h=>by cases h
   refine flow_cons (flow_opN 22 true 46 rfl rfl (by kernel_rfl) ?_ (fun _ _=>rfl)) ?_
   ·intro env W hE hn ρ hρ
    rw [(show ρ (.tmp 46)=env 22 by rw [hρ]; kernel_rfl).trans (hn 22 (by kernel_rfl))]
    exact fun h=>by cases h
   refine flow_cons (flow_opN 22 true 46 rfl rfl (by kernel_rfl) ?_ (fun _ _=>rfl)) ?_
   ·intro env W hE hn ρ hρ
    rw [(show ρ (.tmp 46)=env 22 by rw [hρ]; kernel_rfl).trans (hn 22 (by kernel_rfl))]
    exact fun h=>by cases h
   refine flow_cons (flow_opN 22 true 46 rfl rfl (by kernel_rfl) ?_ (fun _ _=>rfl)) ?_
   ·intro env W hE hn ρ hρ
    rw [(show ρ (.tmp 46)=env 22 by rw [hρ]; kernel_rfl).trans (hn 22 (by kernel_rfl))]
    exact fun h=>by cases h
   refine flow_cons (flow_opN 17 false 41 rfl rfl (by kernel_rfl) ?_ (fun _ _=>rfl)) ?_
   ·intro env W hE hn ρ hρ
    rw [(show ρ (.tmp 41)=env 17 by rw [hρ]; kernel_rfl).trans (hn 17 (by kernel_rfl))]
    exact fun h=>by cases h
   refine flow_cons (flow_op rfl rfl (by kernel_rfl) (by kernel_rfl) ?_) flow_nil
   ·intro env W hE hn ρ hρ hc hf hg K hK
    have r41:=(show ρ (.tmp 41)=env 17 by rw [hρ]; kernel_rfl).trans (hn 17 (by kernel_rfl))
    have r50:=(show ρ (.tmp 50)=env 26 by rw [hρ]; kernel_rfl).trans (hn 26 (by kernel_rfl))
    clear hρ hn hg
    simp [opLands,go_sem,hc,r41,r50]
    exact hK _ _ rfl (Below.refl _ _)
  case refine_5 =>
   intro env W hE hn
   have e27:=hn 27 (by decide)
   simp only [phis,List.getD_cons_zero,List.getD_cons_succ]at e27
   clear hn
   have hbE:=hb3.trans (hE.mono hb3.size)
   clear hE
   obtain rfl:true=ans:=hv
   refine Great.wpList_runTo rfl (some 4) rfl (.bool true) W ((show _=Result.ok (Next.value (env 27)) W by kernel_rfl).trans (by rw [e27])) ?_
   refine wpList_nil ?_
   refine (‹∀ (a:Act) (w:World),Code.wp _ Code.ret _ a w→_›) _ _ (wp_ret ?_)
   show bodyPost Tryz.prog Tryz.f51 (fun e w'=>e=.returned (.bool true)∧Below w.heap.size w w') .ret _ W
   exact bodyPost_ret (v:=.bool true) (by kernel_rfl) (by kernel_rfl) ⟨rfl,hbE⟩
 by_cases h3:kind=3
 ·subst h3
  have HF:=Lib.hid (dec_ToInt neg dg ex hdg w2 G.out)
  obtain ⟨tv,kv,sb,hv1,hv2,hv3⟩:∃ (tv:Bool) (kv:Int) (sb:Bool),toIntV (toIntD neg dg ex)=.tuple #[.bool tv,.int .u64 kv,.bool sb]∧(toIntD neg dg ex).isSome=sb∧0≤kv:=by
   cases hq:toIntD neg dg ex with
   | none=>exact ⟨false,0,false,rfl,rfl,by omega⟩
   | some r =>
    obtain ⟨nn,kk⟩:=r
    exact ⟨nn,kk,true,rfl,rfl,by omega⟩
  rw [hv1]at HF
  obtain rfl:sb=ans:=by
   have:=HANS.out
   rw [if_neg (by decide),if_pos rfl,hv2]at this
   rw [← this]
   simp
  clear hv1 hv2 HANS
  go_enter Tryz.func51,Tryz.ntmps51
  go_wp2_with fail
  rw [HW2.out]
  try rw [← HSZ.out]
  clear z0 z2 z3 z4 z5 z6 x0 HW2 HSZ
  refine HF.out.mono ?_
  rintro e w3 ⟨rfl,hb⟩
  have hb3:=hb2.trans (hb.mono hb2.size)
  have hk3:=hk1.below hb hk1.lt
  have hk4:=hk2.below hb hk2.lt
  clear HF hb hb2 hk1 hk2 G
  have x0:=hk3.cell 0
  have Ha:=Lib.hid (show Calls Tryz.prog 88 #[.agg #[.int .i64 2],.slice (some ⟨w3.heap.size,0,none⟩) 1 1] (w3.alloc (.cells #[.int .i64 1] 3)) fun e w'=>e=.returned (.bool false)∧Below (w3.alloc (.cells #[.int .i64 1] 3)).heap.size (w3.alloc (.cells #[.int .i64 1] 3)) w' from tree_has 2 w3.heap.size [1] 1 3 (w3.alloc (.cells #[.int .i64 1] 3)) (Blk.new _ _ _) rfl (by decide))
  have hza:=hb3.alloc hb3.size (.cells #[.int .i64 1] 3)
  have hxa:=hk3.alloc (.cells #[.int .i64 1] 3)
  have hya:=hk4.alloc (.cells #[.int .i64 1] 3)
  go_wp2_with fail
  refine Ha.out.mono ?_
  rintro e w4 ⟨rfl,hqa⟩
  have hb4:=hza.trans (hqa.mono hza.size)
  have hk5:=hxa.below hqa hxa.lt
  have hk6:=hya.below hqa hya.lt
  clear hza hxa hya hqa Ha
  clear x0
  have x0:=hk5.cell 0
  have Hb:=Lib.hid (show Calls Tryz.prog 88 #[.agg #[.int .i64 2],.slice (some ⟨w4.heap.size,0,none⟩) 2 2] (w4.alloc (.cells #[.int .i64 2,.int .i64 3] 3)) fun e w'=>e=.returned (.bool true)∧Below (w4.alloc (.cells #[.int .i64 2,.int .i64 3] 3)).heap.size (w4.alloc (.cells #[.int .i64 2,.int .i64 3] 3)) w' from tree_has 2 w4.heap.size [2,3] 2 3 (w4.alloc (.cells #[.int .i64 2,.int .i64 3] 3)) (Blk.new _ _ _) rfl (by decide))
  have hzb:=hb4.alloc hb4.size (.cells #[.int .i64 2,.int .i64 3] 3)
  have hxb:=hk5.alloc (.cells #[.int .i64 2,.int .i64 3] 3)
  have hyb:=hk6.alloc (.cells #[.int .i64 2,.int .i64 3] 3)
  go_wp2_with fail
  refine Hb.out.mono ?_
  rintro e w5 ⟨rfl,hqb⟩
  have hb5:=hzb.trans (hqb.mono hzb.size)
  have hk7:=hxb.below hqb hxb.lt
  have hk8:=hyb.below hqb hyb.lt
  clear hzb hxb hyb hqb Hb
  clear x0
  have x0:=hk7.cell 0
  cases sb with
  | true =>
   go_wp2_with fail
   all_goals go_ret
   all_goals exact ⟨rfl,hb5⟩
  | false =>
   have Hc:=Lib.hid (show Calls Tryz.prog 88 #[.agg #[.int .i64 2],.slice (some ⟨w5.heap.size,0,none⟩) 1 1] (w5.alloc (.cells #[.int .i64 4] 3)) fun e w'=>e=.returned (.bool false)∧Below (w5.alloc (.cells #[.int .i64 4] 3)).heap.size (w5.alloc (.cells #[.int .i64 4] 3)) w' from tree_has 2 w5.heap.size [4] 1 3 (w5.alloc (.cells #[.int .i64 4] 3)) (Blk.new _ _ _) rfl (by decide))
   have hzc:=hb5.alloc hb5.size (.cells #[.int .i64 4] 3)
   have hxc:=hk7.alloc (.cells #[.int .i64 4] 3)
   have hyc:=hk8.alloc (.cells #[.int .i64 4] 3)
   go_wp2_with fail
   refine Hc.out.mono ?_
   rintro e w6 ⟨rfl,hqc⟩
   have hb6:=hzc.trans (hqc.mono hzc.size)
   have hk9:=hxc.below hqc hxc.lt
   have hk10:=hyc.below hqc hyc.lt
   clear hzc hxc hyc hqc Hc
   go_wp2_with fail
   all_goals go_ret
   all_goals exact ⟨rfl,hb6⟩
 have y4:(kind == 4)=false:=by rw [beq_eq_false_iff_ne]; exact h4
 have y3:(kind == 3)=false:=by rw [beq_eq_false_iff_ne]; exact h3
 by_cases h6:kind=6
 ·subst h6
  obtain rfl:true=ans:=by
   have:=HANS.out
   simp at this
   first | exact this.symm | exact this
  clear HANS
  have Ha:=Lib.hid (show Calls Tryz.prog 88 #[.agg #[.int .i64 2],.slice (some ⟨w2.heap.size,0,none⟩) 3 3] (w2.alloc (.cells #[.int .i64 2,.int .i64 3,.int .i64 4] 3)) fun e w'=>e=.returned (.bool true)∧Below (w2.alloc (.cells #[.int .i64 2,.int .i64 3,.int .i64 4] 3)).heap.size (w2.alloc (.cells #[.int .i64 2,.int .i64 3,.int .i64 4] 3)) w' from tree_has 2 w2.heap.size [2,3,4] 3 3 (w2.alloc (.cells #[.int .i64 2,.int .i64 3,.int .i64 4] 3)) (Blk.new _ _ _) rfl (by decide))
  have hza:=hb2.alloc hb2.size (.cells #[.int .i64 2,.int .i64 3,.int .i64 4] 3)
  have hxa:=hk1.alloc (.cells #[.int .i64 2,.int .i64 3,.int .i64 4] 3)
  have hya:=hk2.alloc (.cells #[.int .i64 2,.int .i64 3,.int .i64 4] 3)
  go_enter Tryz.func51,Tryz.ntmps51
  go_wp2_with fail
  rw [HW2.out]
  try rw [← HSZ.out]
  clear z0 z2 z3 z4 z5 z6 x0 HW2 HSZ
  refine Ha.out.mono ?_
  rintro e w4 ⟨rfl,hqa⟩
  have hb4:=hza.trans (hqa.mono hza.size)
  have hk5:=hxa.below hqa hxa.lt
  have hk6:=hya.below hqa hya.lt
  clear hza hxa hya hqa Ha
  go_wp2_with fail
  all_goals go_ret
  all_goals exact ⟨rfl,hb4⟩
 have y6:(kind == 6)=false:=by rw [beq_eq_false_iff_ne]; exact h6
 by_cases h9:kind=9
 ·subst h9
  obtain rfl:true=ans:=by
   have:=HANS.out
   simp at this
   first | exact this.symm | exact this
  clear HANS
  have Ha:=Lib.hid (show Calls Tryz.prog 88 #[.agg #[.int .i64 2],.slice (some ⟨w2.heap.size,0,none⟩) 2 2] (w2.alloc (.cells #[.int .i64 2,.int .i64 3] 3)) fun e w'=>e=.returned (.bool true)∧Below (w2.alloc (.cells #[.int .i64 2,.int .i64 3] 3)).heap.size (w2.alloc (.cells #[.int .i64 2,.int .i64 3] 3)) w' from tree_has 2 w2.heap.size [2,3] 2 3 (w2.alloc (.cells #[.int .i64 2,.int .i64 3] 3)) (Blk.new _ _ _) rfl (by decide))
  have hza:=hb2.alloc hb2.size (.cells #[.int .i64 2,.int .i64 3] 3)
  have hxa:=hk1.alloc (.cells #[.int .i64 2,.int .i64 3] 3)
  have hya:=hk2.alloc (.cells #[.int .i64 2,.int .i64 3] 3)
  go_enter Tryz.func51,Tryz.ntmps51
  go_wp2_with fail
  rw [HW2.out]
  try rw [← HSZ.out]
  clear z0 z2 z3 z4 z5 z6 x0 HW2 HSZ
  refine Ha.out.mono ?_
  rintro e w4 ⟨rfl,hqa⟩
  have hb4:=hza.trans (hqa.mono hza.size)
  have hk5:=hxa.below hqa hxa.lt
  have hk6:=hya.below hqa hya.lt
  clear hza hxa hya hqa Ha
  go_wp2_with fail
  all_goals go_ret
  all_goals exact ⟨rfl,hb4⟩
 have y9:(kind == 9)=false:=by rw [beq_eq_false_iff_ne]; exact h9
 by_cases h10:kind=10
 ·subst h10
  obtain rfl:true=ans:=by
   have:=HANS.out
   simp at this
   first | exact this.symm | exact this
  clear HANS
  have Ha:=Lib.hid (show Calls Tryz.prog 88 #[.agg #[.int .i64 2],.slice (some ⟨w2.heap.size,0,none⟩) 2 2] (w2.alloc (.cells #[.int .i64 2,.int .i64 3] 3)) fun e w'=>e=.returned (.bool true)∧Below (w2.alloc (.cells #[.int .i64 2,.int .i64 3] 3)).heap.size (w2.alloc (.cells #[.int .i64 2,.int .i64 3] 3)) w' from tree_has 2 w2.heap.size [2,3] 2 3 (w2.alloc (.cells #[.int .i64 2,.int .i64 3] 3)) (Blk.new _ _ _) rfl (by decide))
  have hza:=hb2.alloc hb2.size (.cells #[.int .i64 2,.int .i64 3] 3)
  have hxa:=hk1.alloc (.cells #[.int .i64 2,.int .i64 3] 3)
  have hya:=hk2.alloc (.cells #[.int .i64 2,.int .i64 3] 3)
  go_enter Tryz.func51,Tryz.ntmps51
  go_wp2_with fail
  rw [HW2.out]
  try rw [← HSZ.out]
  clear z0 z2 z3 z4 z5 z6 x0 HW2 HSZ
  refine Ha.out.mono ?_
  rintro e w4 ⟨rfl,hqa⟩
  have hb4:=hza.trans (hqa.mono hza.size)
  have hk5:=hxa.below hqa hxa.lt
  have hk6:=hya.below hqa hya.lt
  clear hza hxa hya hqa Ha
  go_wp2_with fail
  all_goals go_ret
  all_goals exact ⟨rfl,hb4⟩
 have y10:(kind == 10)=false:=by rw [beq_eq_false_iff_ne]; exact h10
 by_cases h11:kind=11
 ·subst h11
  obtain rfl:false=ans:=by
   have:=HANS.out
   simp at this
   first | exact this.symm | exact this
  clear HANS
  have Ha:=Lib.hid (show Calls Tryz.prog 88 #[.agg #[.int .i64 2],.slice (some ⟨w2.heap.size,0,none⟩) 1 1] (w2.alloc (.cells #[.int .i64 4] 3)) fun e w'=>e=.returned (.bool false)∧Below (w2.alloc (.cells #[.int .i64 4] 3)).heap.size (w2.alloc (.cells #[.int .i64 4] 3)) w' from tree_has 2 w2.heap.size [4] 1 3 (w2.alloc (.cells #[.int .i64 4] 3)) (Blk.new _ _ _) rfl (by decide))
  have hza:=hb2.alloc hb2.size (.cells #[.int .i64 4] 3)
  have hxa:=hk1.alloc (.cells #[.int .i64 4] 3)
  have hya:=hk2.alloc (.cells #[.int .i64 4] 3)
  go_enter Tryz.func51,Tryz.ntmps51
  go_wp2_with fail
  rw [HW2.out]
  try rw [← HSZ.out]
  clear z0 z2 z3 z4 z5 z6 x0 HW2 HSZ
  refine Ha.out.mono ?_
  rintro e w4 ⟨rfl,hqa⟩
  have hb4:=hza.trans (hqa.mono hza.size)
  have hk5:=hxa.below hqa hxa.lt
  have hk6:=hya.below hqa hya.lt
  clear hza hxa hya hqa Ha
  go_wp2_with fail
  all_goals go_ret
  all_goals exact ⟨rfl,hb4⟩
 have y11:(kind == 11)=false:=by rw [beq_eq_false_iff_ne]; exact h11
 by_cases h8:kind=8
 ·subst h8
  obtain rfl:keysFit 2 l=ans:=by
   have:=HANS.out
   simp at this
   first | exact this.symm | exact this
  clear HANS
  have Ha:=Lib.hid (show Calls Tryz.prog 88 #[.agg #[.int .i64 2],.slice (some ⟨w2.heap.size,0,none⟩) 4 4] (w2.alloc (.cells #[.int .i64 1,.int .i64 2,.int .i64 3,.int .i64 4] 3)) fun e w'=>e=.returned (.bool true)∧Below (w2.alloc (.cells #[.int .i64 1,.int .i64 2,.int .i64 3,.int .i64 4] 3)).heap.size (w2.alloc (.cells #[.int .i64 1,.int .i64 2,.int .i64 3,.int .i64 4] 3)) w' from tree_has 2 w2.heap.size [1,2,3,4] 4 3 (w2.alloc (.cells #[.int .i64 1,.int .i64 2,.int .i64 3,.int .i64 4] 3)) (Blk.new _ _ _) rfl (by decide))
  have hza:=hb2.alloc hb2.size (.cells #[.int .i64 1,.int .i64 2,.int .i64 3,.int .i64 4] 3)
  have hxa:=hk1.alloc (.cells #[.int .i64 1,.int .i64 2,.int .i64 3,.int .i64 4] 3)
  have hya:=hk2.alloc (.cells #[.int .i64 1,.int .i64 2,.int .i64 3,.int .i64 4] 3)
  go_enter Tryz.func51,Tryz.ntmps51
  go_wp2_with fail
  rw [HW2.out]
  try rw [← HSZ.out]
  clear z0 z2 z3 z4 z5 z6 x0 HW2 HSZ
  refine Ha.out.mono ?_
  rintro e w4 ⟨rfl,hqa⟩
  have hb4:=hza.trans (hqa.mono hza.size)
  have hk5:=hxa.below hqa hxa.lt
  have hk6:=hya.below hqa hya.lt
  have hg:=((Below.refl _ w2).alloc (Nat.le_refl _) (.cells #[.int .i64 1,.int .i64 2,.int .i64 3,.int .i64 4] 3)).trans (hqa.mono ((Below.refl _ w2).alloc (Nat.le_refl _) (.cells #[.int .i64 1,.int .i64 2,.int .i64 3,.int .i64 4] 3)).size)
  clear hza hxa hya hqa Ha
  have G4:=Lib.hid (G.out.below hg)
  have HK:=Lib.hid (tree_keys l A n c w4 B d (hl.below hb4 hB) (Nat.le_trans hB hb4.size) hn hc)
  have z8:=hk6.cell 8
  clear hg G hb2 hk1 hk2 hl
  go_wp2_with fail
  refine HK.out.mono ?_
  rintro e w5 ⟨⟨A',n',c',rfl,hn',hl'⟩,hb5⟩
  have hb6:=hb4.trans (hb5.mono hb4.size)
  have hk7:=hk5.below hb5 hk5.lt
  have G5:=G4.out.below hb5
  have HC:=contains_fits (fun y=>!keyO 2 y.own) w.heap.size (evens l) A' n' c' w5 w5.heap.size (d+1) hl' (Nat.le_refl _) hn' (fun k hk x' W hW hlx hox=>fits_key 2 (evens l)[k] x' w.heap.size W w5.heap.size (d+1) hlx hox (hk7.below hW hk7.lt) (G5.below hW))
  rw [any_keys 2 l]at HC
  obtain ⟨kf,hkf⟩:∃ kf,keysFit 2 l=kf:=⟨_,rfl⟩
  rw [hkf]at HC
  have HC:=Lib.hid HC
  clear hb4 hb5 hk5 hk6 G4 G5 hl' hn' HK z8
  go_wp2_with fail
  refine HC.out.mono ?_
  rintro e w6 ⟨rfl,hb7⟩
  have hb8:=hb6.trans (hb7.mono hb6.size)
  clear HC hb7 hb6
  cases kf with
  | true =>
   go_wp2_with fail
   all_goals go_ret
   all_goals exact ⟨ret_bool (by rw [hkf]),hb8⟩
  | false =>
   go_wp2_with fail
   all_goals go_ret
   all_goals exact ⟨ret_bool (by rw [hkf]),hb8⟩
 have y8:(kind == 8)=false:=by rw [beq_eq_false_iff_ne]; exact h8
 obtain rfl:true=ans:=by
  have:=HANS.out
  rw [if_neg h4,if_neg h3,if_neg h6,if_neg (fun q=>q.elim h9 h10),if_neg h11,if_neg h8]at this
  rw [← this]
  decide
 clear HANS
 have Ha:=Lib.hid (show Calls Tryz.prog 88 #[.agg #[.int .i64 2],.slice (some ⟨w2.heap.size,0,none⟩) 4 4] (w2.alloc (.cells #[.int .i64 1,.int .i64 2,.int .i64 3,.int .i64 4] 3)) fun e w'=>e=.returned (.bool true)∧Below (w2.alloc (.cells #[.int .i64 1,.int .i64 2,.int .i64 3,.int .i64 4] 3)).heap.size (w2.alloc (.cells #[.int .i64 1,.int .i64 2,.int .i64 3,.int .i64 4] 3)) w' from tree_has 2 w2.heap.size [1,2,3,4] 4 3 (w2.alloc (.cells #[.int .i64 1,.int .i64 2,.int .i64 3,.int .i64 4] 3)) (Blk.new _ _ _) rfl (by decide))
 have hza:=hb2.alloc hb2.size (.cells #[.int .i64 1,.int .i64 2,.int .i64 3,.int .i64 4] 3)
 have hxa:=hk1.alloc (.cells #[.int .i64 1,.int .i64 2,.int .i64 3,.int .i64 4] 3)
 have hya:=hk2.alloc (.cells #[.int .i64 1,.int .i64 2,.int .i64 3,.int .i64 4] 3)
 go_enter Tryz.func51,Tryz.ntmps51
 go_wp2_with fail
 rw [HW2.out]
 try rw [← HSZ.out]
 clear z0 z2 z3 z4 z5 z6 x0 HW2 HSZ
 refine Ha.out.mono ?_
 rintro e w4 ⟨rfl,hqa⟩
 have hb4:=hza.trans (hqa.mono hza.size)
 have hk5:=hxa.below hqa hxa.lt
 have hk6:=hya.below hqa hya.lt
 clear hza hxa hya hqa Ha
 go_wp2_with fail
 all_goals go_ret
 all_goals exact ⟨rfl,hb4⟩
end Go.Proofs.YtonihophanmaaaaGreatDoor
namespace Go.Proofs.YtonihophanmaaaaGreatDoor
open Go.RowKit Go.Stop Go.Extern
theorem isTypeOf (v:Value) (w:World):(callFunc 52 #[.iface 321 v]).run Tryz.prog w=.ok (.value (.iface 107 (.agg #[.pointer (some ⟨Tryz.prog.globals.size,321,none⟩)]))) w:=by
 rw [@run_callFunc_extern Tryz.prog 52 _ Extern.ReflectliteType.typeOf Tryz.func52 (by kernel_rfl) (by kernel_rfl) (by kernel_rfl) (by kernel_rfl)]
 kernel_rfl
theorem isComparable (w:World):(callFunc 322 #[.agg #[.pointer (some ⟨Tryz.prog.globals.size,321,none⟩)]]).run Tryz.prog w=.ok (.value (.bool true)) w:=by
 rw [@run_callFunc_extern Tryz.prog 322 _ (Extern.ReflectliteType.method fun t=>do Extern.Rtype.noPackHeld "Comparable" t; pure (.bool (← typeInfo t).comparable)) Tryz.func322 (by kernel_rfl) (by kernel_rfl) (by kernel_rfl) (by kernel_rfl)]
 kernel_rfl
theorem isMethodComparable (n:Nat) (v:Value) (w:World):(Go.method (n+1) 107 v "Comparable").run Tryz.prog w=.ok (322,v) w:=by kernel_rfl
theorem isComp:(Tryz.prog.info? 321).map (·.comparable)=some true:=by kernel_rfl
theorem isSize:(Tryz.prog.info? 323).map (·.size)=some 1:=by kernel_rfl
theorem noIsE (v:Value) (xT:TypeId) (w:World):(Instr.typeAssert (.iface 321 v) xT 109 true).run Tryz.prog w=.ok (.tuple #[.nilIface,.bool false]) w:=run_typeAssert_lacksB Tryz.underlying109 (by kernel_rfl) (by kernel_rfl) v xT w
theorem noUnwrapE (v:Value) (xT:TypeId) (w:World):(Instr.typeAssert (.iface 321 v) xT 112 true).run Tryz.prog w=.ok (.tuple #[.nilIface,.bool false]) w:=run_typeAssert_lacksB Tryz.underlying112 (by kernel_rfl) (by kernel_rfl) v xT w
theorem noUnwrapsE (v:Value) (xT:TypeId) (w:World):(Instr.typeAssert (.iface 321 v) xT 114 true).run Tryz.prog w=.ok (.tuple #[.nilIface,.bool false]) w:=run_typeAssert_lacksB Tryz.underlying114 (by kernel_rfl) (by kernel_rfl) v xT w
set_option maxRecDepth 100000 in
theorem is_same (a:Addr) (w:World) :
  Calls Tryz.prog 35 #[.iface 321 (.pointer (some a)),.iface 321 (.pointer (some a))] w fun e w'=>e=.returned (.bool true)∧w'=w:=by
 obtain ⟨i,hi,hcmp⟩:=Option.map_eq_some_iff.1 isComp
 obtain ⟨j,hj,hjs⟩:=Option.map_eq_some_iff.1 isSize
 have tT:=isTypeOf
 have cT:=isComparable
 have mR:=isMethodComparable
 obtain ⟨G,hG⟩:∃ G,Tryz.prog.globals.size=G:=⟨_,rfl⟩
 rw [hG]at tT cT
 clear hG
 have heq:=run_eql_iface_ptr_same (P:=Tryz.prog) w a Tryz.underlying48 Tryz.underlying321 hi hcmp hj
 go_enter Tryz.func35,Tryz.ntmps35
 go_wp2
 refine wp_loop_rounds 1 ?_
 rw [rounds_succ]
 go_wp2
 go_ret
 exact ⟨rfl,rfl⟩
theorem is_nil (b:Addr) (w:World) :
  Calls Tryz.prog 35 #[.nilIface,.iface 321 (.pointer (some b))] w fun e w'=>e=.returned (.bool false)∧w'=w:=by
 have hn:=run_eql_iface_nil_left (P:=Tryz.prog) w 321 (.pointer (some b)) Tryz.underlying48
 go_enter Tryz.func35,Tryz.ntmps35
 go_wp2
 go_ret
 exact ⟨rfl,rfl⟩
set_option maxRecDepth 100000 in
theorem is_other (a b:Addr) (ca cb:Array Value) (ta tb:TypeId) (w:World) (hne:a≠b) (ha:w.heap[a.block]? = some (.cells ca ta (0,0))) (hb:w.heap[b.block]? = some (.cells cb tb (0,0))) :
  Calls Tryz.prog 35 #[.iface 321 (.pointer (some a)),.iface 321 (.pointer (some b))] w fun e w'=>e=.returned (.bool false)∧w'=w:=by
 obtain ⟨i,hi,hcmp⟩:=Option.map_eq_some_iff.1 isComp
 obtain ⟨j,hj,hjs⟩:=Option.map_eq_some_iff.1 isSize
 have tT:=isTypeOf
 have cT:=isComparable
 have mR:=isMethodComparable
 obtain ⟨G,hG⟩:∃ G,Tryz.prog.globals.size=G:=⟨_,rfl⟩
 rw [hG]at tT cT
 clear hG
 have nE:=noIsE
 have uE:=noUnwrapE
 have vE:=noUnwrapsE
 have heq:=run_eql_iface_ptr_other (P:=Tryz.prog) w Tryz.underlying48 Tryz.underlying321 hi hcmp hj (by rw [hjs]; decide) hne ha hb
 go_enter Tryz.func35,Tryz.ntmps35
 go_wp2
 refine wp_loop_rounds 1 ?_
 rw [rounds_succ]
 go_wp2
 go_ret
 exact ⟨rfl,rfl⟩
end Go.Proofs.YtonihophanmaaaaGreatDoor
namespace Go.Proofs.YtonihophanmaaaaGreatDoor
open Go.RowKit Go.Shelf
theorem check_cases (f:Int) (fl:Own→Bool) (t:Tr):checkT f fl t=0∨checkT f fl t=60∨checkT f fl t=61:=by
 unfold checkT
 split
 ·split
  ·exact .inl rfl
  ·exact .inr (.inr rfl)
 ·exact .inr (.inl rfl)
set_option maxHeartbeats 4000000 in
set_option maxRecDepth 100000 in
theorem tree_Check {aT aF:Addr} (f:Int) (fl:Own→Bool) (hfits:FitsC aT aF f fl) (t:Tr) (x:Value) (w:World) (B d:Nat) (hl:ListAt w B d t.kids x) (ho:OwnOk t.own) (hB:B≤w.heap.size) (hc:t.count≤1000000000) (h:GW w aT aF) :
  Calls Tryz.prog 16 #[nodeV t.own x,.int .i64 f] w fun e w'=>e=.returned (.int .i64 (checkT f fl t))∧Below w.heap.size w w':=by
 have hb1:Below w.heap.size w (w.alloc (.cells (cellsV t.own x) 28)):=(Below.refl _ _).alloc (Nat.le_refl _) _
 have hk1:=Blk.new w (cellsV t.own x) 28
 have HC:=tree_checked f fl hfits t x _ B d (hl.below hb1 hB) ho (Nat.le_trans hB hb1.size) hc (h.below hb1)
 have hcs:=check_cases f fl t
 obtain ⟨ck,hck⟩:∃ ck,checkT f fl t=ck:=⟨_,rfl⟩
 rw [hck]at HC hcs ⊢
 obtain ⟨_,A,c,rfl⟩:=hl.slice
 obtain ⟨n,hn⟩:∃ n,t.kids.length=n:=⟨_,rfl⟩
 obtain ⟨⟨kind,b,neg,dg,ex,u,wd,s⟩,ho'⟩:∃ o,t.own=o:=⟨_,rfl⟩
 rw [ho',hn]at HC hk1 hb1 ⊢
 unfold nodeV at HC ⊢
 unfold cellsV at HC hk1 hb1
 simp only []at HC hk1 hb1 ⊢
 have HC:=Lib.hid HC
 have z0:=hk1.cell 0
 have z1:=hk1.cell 1
 have z2:=hk1.cell 2
 have z3:=hk1.cell 3
 have z4:=hk1.cell 4
 have z5:=hk1.cell 5
 have z6:=hk1.cell 6
 have z7:=hk1.cell 7
 have z8:=hk1.cell 8
 have HG:=Lib.hid h
 clear hl ho hc hck ho' hn hk1 h hfits
 go_enter Tryz.func16,Tryz.ntmps16
 go_wp2_with fail
 refine HC.out.mono ?_
 rintro e w2 ⟨rfl,hb⟩
 have hb3:=hb1.trans (hb.mono hb1.size)
 have G:=HG.out.below hb3
 have hgT:=G.hT
 have hgF:=G.hF
 obtain ⟨cT,tT,eT⟩:=G.bT
 obtain ⟨cF,tF,eF⟩:=G.bF
 have H1:=Lib.hid (is_nil aT w2)
 have H2:=Lib.hid (is_nil aF w2)
 have H3:=Lib.hid (is_same aT w2)
 have H4:=Lib.hid (is_same aF w2)
 have H5:=Lib.hid (is_other aF aT cF cT tF tT w2 G.ne.symm eF eT)
 clear z0 z1 z2 z3 z4 z5 z6 z7 z8 hb hb1 HC G eT eF
 rcases hcs with rfl|rfl|rfl
 ·have he:errR aT aF 0=.nilIface:=rfl
  rw [he]
  clear he
  go_wp2_with fail
  refine H1.out.mono ?_
  rintro e w3 ⟨rfl,rfl⟩
  go_wp2_with fail
  refine H2.out.mono ?_
  rintro e w3 ⟨rfl,rfl⟩
  go_wp2_with fail
  go_ret
  exact ⟨rfl,hb3⟩
 ·have he:errR aT aF 60=errP aT:=rfl
  rw [he]
  clear he
  go_wp2_with fail
  refine H3.out.mono ?_
  rintro e w3 ⟨rfl,rfl⟩
  go_wp2_with fail
  go_ret
  exact ⟨rfl,hb3⟩
 ·have he:errR aT aF 61=errP aF:=rfl
  rw [he]
  clear he
  go_wp2_with fail
  refine H5.out.mono ?_
  rintro e w3 ⟨rfl,rfl⟩
  go_wp2_with fail
  refine H4.out.mono ?_
  rintro e w3 ⟨rfl,rfl⟩
  go_wp2_with fail
  go_ret
  exact ⟨rfl,hb3⟩
theorem fits_at_C (aT aF:Addr):FitsC aT aF 2 flC:=fun o l A n c w B d hl hB hn hc ho h=>fits_C o l A n c w B d hl hB hn hc ho h
end Go.Proofs.YtonihophanmaaaaGreatDoor
