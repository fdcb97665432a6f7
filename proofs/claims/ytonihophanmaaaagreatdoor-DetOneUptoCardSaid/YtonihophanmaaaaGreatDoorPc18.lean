/- The texts GateT, UtfIs, GateY, CbA, put together. -/
import Derived.Test.YtonihophanmaaaaGreatDoorPc15
import Derived.Test.YtonihophanmaaaaGreatDoorPc17
import Derived.Test.YtonihophanmaaaaGreatDoorChecked
import Derived.WalkKit
import Derived.LaidEql
import Derived.Stop.Asserts
import Derived.RowKitTokens
import Derived.Test.YtonihophanmaaaaGreatDoorPc09
import Derived.Test.YtonihophanmaaaaGreatDoorPc06
set_option maxHeartbeats 8000000
set_option maxRecDepth 100000
namespace Go.Proofs.YtonihophanmaaaaGreatDoor
open Go.RowKit Go.Shelf
theorem zch (f:Int):∀ l:List Tr,(jg l).any (fun y=>!kg f y.own) = !zG f l
 | []=>by simp [jg,zG]
 | [k]=>by simp [jg,zG]
 | k::k'::r=>by
  show ((!kg f k.own) || (jg r).any (fun y=>!kg f y.own)) = !(kg f k.own && zG f r)
  rw [zch f r,Bool.not_and]
theorem zni {aT aF:Addr} (o:Own) (l:List Tr) (A:Option Addr) (n c:Nat) (w:World) (B d:Nat) (hl:zq w B d l (.slice A n c)) (hB:B≤w.heap.size) (hn:l.length=n) (hc:n≤1000000000000) (ho:zt o) (h:GW w aT aF) :
  Calls Tryz.prog 51 #[.agg #[.int .i64 2],ze o (.slice A n c)] w fun e w'=>e=.returned (.bool (qc 2 flC o l))∧Below w.heap.size w w':=by
 obtain ⟨ans,T⟩:∃ ans,qc 2 flC o l=ans:=⟨_,rfl⟩
 rw [T]
 unfold qc at T
 obtain ⟨kind,b,neg,dg,ex,u,wd,s⟩:=o
 have aJ:=ho.dg
 have hu:=ho.u
 simp only []at aJ hu T
 unfold ze
 simp only []
 obtain ⟨z,I,D⟩:=qa w #[.int .i64 2] #[.int .i64 kind,.bool b,.bool neg,.string dg,.int .i64 ex,.int .u64 u,.int .i64 wd,.string s,.slice A n c] 52 28
 have z0:=D.cell 0
 have z2:=D.cell 2
 have z3:=D.cell 3
 have z4:=D.cell 4
 have z5:=D.cell 5
 have Y:=D.cell 6
 have P:=I.cell 0
 obtain ⟨w2,am⟩:∃ w2,(w.alloc (.cells #[.int .i64 2] 52)).alloc (.cells #[.int .i64 kind,.bool b,.bool neg,.string dg,.int .i64 ex,.int .u64 u,.int .i64 wd,.string s,.slice A n c] 28)=w2:=⟨_,rfl⟩
 rw [am]at z I D
 have G:=Lib.hid (h.below z)
 have x:=Lib.hid T
 have H:=Lib.hid am
 have F:=Lib.hid (show w2.heap.size=w.heap.size+1+1 by rw [← am]; simp)
 clear T ho h am
 by_cases h4:kind=4
 ·subst h4
  have hv:flC ⟨4,b,neg,dg,ex,u,wd,s⟩=ans:=by
   have:=x.out
   rw [if_pos rfl]at this
   exact this
  have HF:=Lib.hid (vO u wd hu.1 hu.2 w2)
  obtain ⟨vw,aP⟩:∃ vw,je u wd=vw:=⟨_,rfl⟩
  obtain ⟨ve,aO⟩:∃ ve:Int,(if j5 u wd=true then 0 else 2)=ve:=⟨_,rfl⟩
  rw [aP,aO]at HF
  clear aP aO x
  go_enter Tryz.func51,Tryz.ntmps51
  go_wp2_with fail
  rw [H.out]
  try rw [← F.out]
  clear z0 z2 z3 z4 z5 Y P H F
  refine HF.out.mono ?_
  rintro e X ⟨rfl,U⟩
  have Z:=z.trans (U.mono z.size)
  have ac:=I.below U I.lt
  have ar:=D.below U D.lt
  clear HF U z I D G
  have P:=ac.cell 0
  have Y:=ar.cell 6
  go_wp2_with fail
  have aE:=Lib.hid ac
  refine qC (R:=fun W W'=>Below W.heap.size W W') 28 (by kernel_rfl) (by kernel_rfl) (fun _=>Below.refl _ _) (by kernel_rfl) (by kernel_rfl) (fun W=>Below X.heap.size X W)
   [fun v _=>v=.pointer (some ⟨w.heap.size,0,none⟩),fun v _=>v=.agg #[.int .i64 2],fun v W=>∃ b,v=.slice (some ⟨b,0,none⟩) 1 1∧Blk W b #[.int .i64 2] 3,fun v _=>v=.bool true,fun v _=>v=.bool true,fun v _=>v=undef,fun v _=>v=undef,fun v _=>v=undef,fun v _=>v=undef,fun v _=>v=undef,fun v _=>v=undef,fun v _=>v=undef,fun v _=>v=undef,fun v _=>v=undef,fun v _=>v=undef,fun v _=>v=undef,fun v _=>v=.bool true,fun v _=>v=.bool true,fun v _=>v=undef,fun v _=>v=undef,fun v _=>v=undef,fun v _=>v=undef,fun v _=>v=undef,fun v _=>v=undef,fun v _=>v=undef,fun v _=>v=undef,fun v _=>v=undef,fun v _=>v=.bool true] ?_ ?_ ?_ ?_ ?_
  case refine_1=>exact (Below.refl _ _).drew
  case refine_2=>exact fun W W' he hr=>he.trans (hr.mono he.size)
  case refine_3 =>
   intro q hq v W W' _ hv hr
   simp only [List.mem_cons,List.not_mem_nil,or_false]at hq
   rcases hq with rfl|rfl|rfl|rfl|rfl|rfl|rfl|rfl|rfl|rfl|rfl|rfl|rfl|rfl|rfl|rfl|rfl|rfl|rfl|rfl|rfl|rfl|rfl|rfl|rfl|rfl|rfl|rfl <;> first | exact hv | (obtain ⟨b,e,h⟩:=hv; exact ⟨b,e,h.below hr h.lt⟩)
  case refine_4 =>
   refine za (zn rfl rfl (by kernel_rfl) (by kernel_rfl) ?_) ?_
   ·intro g W C hn ρ i hc hf L K N
    have r2:ρ (.tmp 2)=.pointer (some ⟨w.heap.size,0,none⟩):=by rw [i]; kernel_rfl
    clear i hn L
    simp [zd,go_sem,r2]
    exact N _ _ rfl (Below.refl _ _)
   refine za (zn rfl rfl (by kernel_rfl) (by kernel_rfl) ?_) ?_
   ·intro g W C hn ρ i hc hf L K N
    have bf:=(show ρ (.tmp 24)=g 0 by rw [i]; kernel_rfl).trans (hn 0 (by kernel_rfl))
    clear i hn L
    exact jh 50 (.tmp 24) rfl w.heap.size bf 52 _ (0,0) _ (aE.out.below C aE.out.lt) Tryz.underlying50 rfl (by kernel_rfl) (N _ _ rfl (Below.refl _ _))
   refine za (zn rfl rfl (by kernel_rfl) (by kernel_rfl) ?_) ?_
   ·intro g W C hn ρ i hc hf L K N
    clear i hn L
    simp [zd,go_sem,hc]
    exact N _ _ ⟨_,rfl,Blk.new _ _ _⟩ ((Below.refl _ _).alloc (Nat.le_refl _) _)
   refine za (zn rfl rfl (by kernel_rfl) (by kernel_rfl) ?_) ?_
   ·intro g W C hn ρ i hc hf L K N
    have bg:=(show ρ (.tmp 25)=g 1 by rw [i]; kernel_rfl).trans (hn 1 (by kernel_rfl))
    obtain ⟨ao,a5,a6⟩:=hn 2 (by kernel_rfl)
    have bh:=(show ρ (.tmp 26)=g 2 by rw [i]; kernel_rfl).trans a5
    clear i hn L
    refine jl rfl (by kernel_rfl) hf ?_
    rw [show #[Operand.tmp 25,Operand.tmp 26].map ρ = #[.agg #[.int .i64 2],.slice (some ⟨ao,0,none⟩) 1 1] by simp [bg,bh]]
    refine (show Calls Tryz.prog 88 #[.agg #[.int .i64 2],.slice (some ⟨ao,0,none⟩) 1 1] W fun e w'=>e=.returned (.bool true)∧Below W.heap.size W w' from ji 2 ao [2] 1 3 W a6 rfl (by decide)).mono ?_
    rintro e W' ⟨rfl,U⟩
    exact ⟨_,rfl,N _ _ rfl U⟩
   refine za (zn rfl rfl (by kernel_rfl) (by kernel_rfl) ?_) ?_
   ·intro g W C hn ρ i hc hf L K N
    have bi:=(show ρ (.tmp 27)=g 3 by rw [i]; kernel_rfl).trans (hn 3 (by kernel_rfl))
    clear i hn L
    simp [zd,go_sem,bi]
    exact N _ _ rfl (Below.refl _ _)
   refine za (zO 4 false 28 rfl rfl (by kernel_rfl) ?_ (fun _ _=>rfl)) ?_
   ·intro g W C hn ρ i
    rw [(show ρ (.tmp 28)=g 4 by rw [i]; kernel_rfl).trans (hn 4 (by kernel_rfl))]
    exact fun h=>by cases h
   refine za (zO 4 false 28 rfl rfl (by kernel_rfl) ?_ (fun _ _=>rfl)) ?_
   ·intro g W C hn ρ i
    rw [(show ρ (.tmp 28)=g 4 by rw [i]; kernel_rfl).trans (hn 4 (by kernel_rfl))]
    exact fun h=>by cases h
   refine za (zO 4 false 28 rfl rfl (by kernel_rfl) ?_ (fun _ _=>rfl)) ?_
   ·intro g W C hn ρ i
    rw [(show ρ (.tmp 28)=g 4 by rw [i]; kernel_rfl).trans (hn 4 (by kernel_rfl))]
    exact fun h=>by cases h
   refine za (zO 4 false 28 rfl rfl (by kernel_rfl) ?_ (fun _ _=>rfl)) ?_
   ·intro g W C hn ρ i
    rw [(show ρ (.tmp 28)=g 4 by rw [i]; kernel_rfl).trans (hn 4 (by kernel_rfl))]
    exact fun h=>by cases h
   refine za (zO 4 false 28 rfl rfl (by kernel_rfl) ?_ (fun _ _=>rfl)) ?_
   ·intro g W C hn ρ i
    rw [(show ρ (.tmp 28)=g 4 by rw [i]; kernel_rfl).trans (hn 4 (by kernel_rfl))]
    exact fun h=>by cases h
   refine za (zO 9 true 33 rfl rfl (by kernel_rfl) ?_ (fun _ _=>rfl)) ?_
   ·intro g W C hn ρ i
    rw [(show ρ (.tmp 33)=g 9 by rw [i]; kernel_rfl).trans (hn 9 (by kernel_rfl))]
    exact fun h=>by cases h
   refine za (zO 9 true 33 rfl rfl (by kernel_rfl) ?_ (fun _ _=>rfl)) ?_
   ·intro g W C hn ρ i
    rw [(show ρ (.tmp 33)=g 9 by rw [i]; kernel_rfl).trans (hn 9 (by kernel_rfl))]
    exact fun h=>by cases h
   refine za (zO 9 true 33 rfl rfl (by kernel_rfl) ?_ (fun _ _=>rfl)) ?_
   ·intro g W C hn ρ i
    rw [(show ρ (.tmp 33)=g 9 by rw [i]; kernel_rfl).trans (hn 9 (by kernel_rfl))]
    exact fun h=>by cases h
   refine za (zO 9 true 33 rfl rfl (by kernel_rfl) ?_ (fun _ _=>rfl)) ?_
   ·intro g W C hn ρ i
    rw [(show ρ (.tmp 33)=g 9 by rw [i]; kernel_rfl).trans (hn 9 (by kernel_rfl))]
    exact fun h=>by cases h
   refine za (zO 9 true 33 rfl rfl (by kernel_rfl) ?_ (fun _ _=>rfl)) ?_
   ·intro g W C hn ρ i
    rw [(show ρ (.tmp 33)=g 9 by rw [i]; kernel_rfl).trans (hn 9 (by kernel_rfl))]
    exact fun h=>by cases h
   refine za (zO 4 false 28 rfl rfl (by kernel_rfl) ?_ (fun _ _=>rfl)) ?_
   ·intro g W C hn ρ i
    rw [(show ρ (.tmp 28)=g 4 by rw [i]; kernel_rfl).trans (hn 4 (by kernel_rfl))]
    exact fun h=>by cases h
   refine za (zn rfl rfl (by kernel_rfl) (by kernel_rfl) ?_) ?_
   ·intro g W C hn ρ i hc hf L K N
    have bj:=(show ρ (.tmp 28)=g 4 by rw [i]; kernel_rfl).trans (hn 4 (by kernel_rfl))
    have bk:=(show ρ (.tmp 39)=g 15 by rw [i]; kernel_rfl).trans (hn 15 (by kernel_rfl))
    clear i hn L
    simp [zd,go_sem,hc,bj,bk]
    exact N _ _ rfl (Below.refl _ _)
   refine za (zn rfl rfl (by kernel_rfl) (by kernel_rfl) ?_) ?_
   ·intro g W C hn ρ i hc hf L K N
    have bl:=(show ρ (.tmp 40)=g 16 by rw [i]; kernel_rfl).trans (hn 16 (by kernel_rfl))
    clear i hn L
    simp [zd,go_sem,bl]
    exact N _ _ rfl (Below.refl _ _)
   refine za (zO 17 false 41 rfl rfl (by kernel_rfl) ?_ (fun _ _=>rfl)) ?_
   ·intro g W C hn ρ i
    rw [(show ρ (.tmp 41)=g 17 by rw [i]; kernel_rfl).trans (hn 17 (by kernel_rfl))]
    exact fun h=>by cases h
   refine za (zO 17 false 41 rfl rfl (by kernel_rfl) ?_ (fun _ _=>rfl)) ?_
   ·intro g W C hn ρ i
    rw [(show ρ (.tmp 41)=g 17 by rw [i]; kernel_rfl).trans (hn 17 (by kernel_rfl))]
    exact fun h=>by cases h
   refine za (zO 17 false 41 rfl rfl (by kernel_rfl) ?_ (fun _ _=>rfl)) ?_
   ·intro g W C hn ρ i
    rw [(show ρ (.tmp 41)=g 17 by rw [i]; kernel_rfl).trans (hn 17 (by kernel_rfl))]
    exact fun h=>by cases h
   refine za (zO 17 false 41 rfl rfl (by kernel_rfl) ?_ (fun _ _=>rfl)) ?_
   ·intro g W C hn ρ i
    rw [(show ρ (.tmp 41)=g 17 by rw [i]; kernel_rfl).trans (hn 17 (by kernel_rfl))]
    exact fun h=>by cases h
   refine za (zO 17 false 41 rfl rfl (by kernel_rfl) ?_ (fun _ _=>rfl)) ?_
   ·intro g W C hn ρ i
    rw [(show ρ (.tmp 41)=g 17 by rw [i]; kernel_rfl).trans (hn 17 (by kernel_rfl))]
    exact fun h=>by cases h
   refine za (zO 22 true 46 rfl rfl (by kernel_rfl) ?_ (fun _ _=>rfl)) ?_
   ·intro g W C hn ρ i
    rw [(show ρ (.tmp 46)=g 22 by rw [i]; kernel_rfl).trans (hn 22 (by kernel_rfl))]
    exact fun h=>by cases h
   refine za (zO 22 true 46 rfl rfl (by kernel_rfl) ?_ (fun _ _=>rfl)) ?_
   ·intro g W C hn ρ i
    rw [(show ρ (.tmp 46)=g 22 by rw [i]; kernel_rfl).trans (hn 22 (by kernel_rfl))]
    exact fun h=>by cases h
   refine za (zO 22 true 46 rfl rfl (by kernel_rfl) ?_ (fun _ _=>rfl)) ?_
   ·intro g W C hn ρ i
    rw [(show ρ (.tmp 46)=g 22 by rw [i]; kernel_rfl).trans (hn 22 (by kernel_rfl))]
    exact fun h=>by cases h
   refine za (zO 17 false 41 rfl rfl (by kernel_rfl) ?_ (fun _ _=>rfl)) ?_
   ·intro g W C hn ρ i
    rw [(show ρ (.tmp 41)=g 17 by rw [i]; kernel_rfl).trans (hn 17 (by kernel_rfl))]
    exact fun h=>by cases h
   refine za (zn rfl rfl (by kernel_rfl) (by kernel_rfl) ?_) xn
   ·intro g W C hn ρ i hc hf L K N
    have bm:=(show ρ (.tmp 41)=g 17 by rw [i]; kernel_rfl).trans (hn 17 (by kernel_rfl))
    have bn:=(show ρ (.tmp 50)=g 26 by rw [i]; kernel_rfl).trans (hn 26 (by kernel_rfl))
    clear i hn L
    simp [zd,go_sem,hc,bm,bn]
    exact N _ _ rfl (Below.refl _ _)
  case refine_5 =>
   intro g W C hn
   have aG:=hn 27 (by decide)
   simp only [vu,List.getD_cons_zero,List.getD_cons_succ]at aG
   clear hn
   have a9:=Z.trans (C.mono Z.size)
   clear C
   obtain rfl:true=ans:=hv
   refine Great.wpList_runTo rfl (some 4) rfl (.bool true) W ((show _=Result.ok (Next.value (g 27)) W by kernel_rfl).trans (by rw [aG])) ?_
   refine wpList_nil ?_
   refine (‹∀ (a:Act) (w:World),Code.wp _ Code.ret _ a w→_›) _ _ (wp_ret ?_)
   show bodyPost Tryz.prog Tryz.f51 (fun e w'=>e=.returned (.bool true)∧Below w.heap.size w w') .ret _ W
   exact bodyPost_ret (v:=.bool true) (by kernel_rfl) (by kernel_rfl) ⟨rfl,a9⟩
 by_cases h3:kind=3
 ·subst h3
  have HF:=Lib.hid (yf neg dg ex aJ w2 G.out)
  obtain ⟨tv,kv,sb,aM,aN,bB⟩:∃ (tv:Bool) (kv:Int) (sb:Bool),zbK (jv neg dg ex)=.tuple #[.bool tv,.int .u64 kv,.bool sb]∧(jv neg dg ex).isSome=sb∧0≤kv:=by
   cases hq:jv neg dg ex with
   | none=>exact ⟨false,0,false,rfl,rfl,by omega⟩
   | some r =>
    obtain ⟨nn,kk⟩:=r
    exact ⟨nn,kk,true,rfl,rfl,by omega⟩
  rw [aM]at HF
  obtain rfl:sb=ans:=by
   have:=x.out
   rw [if_neg (by decide),if_pos rfl,aN]at this
   rw [← this]
   simp
  clear aM aN x
  go_enter Tryz.func51,Tryz.ntmps51
  go_wp2_with fail
  rw [H.out]
  try rw [← F.out]
  clear z0 z2 z3 z4 z5 Y P H F
  refine HF.out.mono ?_
  rintro e X ⟨rfl,U⟩
  have Z:=z.trans (U.mono z.size)
  have ac:=I.below U I.lt
  have ar:=D.below U D.lt
  clear HF U z I D G
  have P:=ac.cell 0
  have J:=Lib.hid (show Calls Tryz.prog 88 #[.agg #[.int .i64 2],.slice (some ⟨X.heap.size,0,none⟩) 1 1] (X.alloc (.cells #[.int .i64 1] 3)) fun e w'=>e=.returned (.bool false)∧Below (X.alloc (.cells #[.int .i64 1] 3)).heap.size (X.alloc (.cells #[.int .i64 1] 3)) w' from ji 2 X.heap.size [1] 1 3 (X.alloc (.cells #[.int .i64 1] 3)) (Blk.new _ _ _) rfl (by decide))
  have t:=Z.alloc Z.size (.cells #[.int .i64 1] 3)
  have m:=ac.alloc (.cells #[.int .i64 1] 3)
  have p:=ar.alloc (.cells #[.int .i64 1] 3)
  go_wp2_with fail
  refine J.out.mono ?_
  rintro e Q ⟨rfl,j⟩
  have E:=t.trans (j.mono t.size)
  have M:=m.below j m.lt
  have O:=p.below j p.lt
  clear t m p j J
  clear P
  have P:=M.cell 0
  have Hb:=Lib.hid (show Calls Tryz.prog 88 #[.agg #[.int .i64 2],.slice (some ⟨Q.heap.size,0,none⟩) 2 2] (Q.alloc (.cells #[.int .i64 2,.int .i64 3] 3)) fun e w'=>e=.returned (.bool true)∧Below (Q.alloc (.cells #[.int .i64 2,.int .i64 3] 3)).heap.size (Q.alloc (.cells #[.int .i64 2,.int .i64 3] 3)) w' from ji 2 Q.heap.size [2,3] 2 3 (Q.alloc (.cells #[.int .i64 2,.int .i64 3] 3)) (Blk.new _ _ _) rfl (by decide))
  have az:=E.alloc E.size (.cells #[.int .i64 2,.int .i64 3] 3)
  have av:=M.alloc (.cells #[.int .i64 2,.int .i64 3] 3)
  have ax:=O.alloc (.cells #[.int .i64 2,.int .i64 3] 3)
  go_wp2_with fail
  refine Hb.out.mono ?_
  rintro e V ⟨rfl,ak⟩
  have S:=az.trans (ak.mono az.size)
  have ad:=av.below ak av.lt
  have bb:=ax.below ak ax.lt
  clear az av ax ak Hb
  clear P
  have P:=ad.cell 0
  cases sb with
  | true =>
   go_wp2_with fail
   all_goals go_ret
   all_goals exact ⟨rfl,S⟩
  | false =>
   have Hc:=Lib.hid (show Calls Tryz.prog 88 #[.agg #[.int .i64 2],.slice (some ⟨V.heap.size,0,none⟩) 1 1] (V.alloc (.cells #[.int .i64 4] 3)) fun e w'=>e=.returned (.bool false)∧Below (V.alloc (.cells #[.int .i64 4] 3)).heap.size (V.alloc (.cells #[.int .i64 4] 3)) w' from ji 2 V.heap.size [4] 1 3 (V.alloc (.cells #[.int .i64 4] 3)) (Blk.new _ _ _) rfl (by decide))
   have aA:=S.alloc S.size (.cells #[.int .i64 4] 3)
   have aw:=ad.alloc (.cells #[.int .i64 4] 3)
   have ay:=bb.alloc (.cells #[.int .i64 4] 3)
   go_wp2_with fail
   refine Hc.out.mono ?_
   rintro e w6 ⟨rfl,al⟩
   have aa:=aA.trans (al.mono aA.size)
   have bA:=aw.below al aw.lt
   have br:=ay.below al ay.lt
   clear aA aw ay al Hc
   go_wp2_with fail
   all_goals go_ret
   all_goals exact ⟨rfl,aa⟩
 have y4:(kind == 4)=false:=by rw [beq_eq_false_iff_ne]; exact h4
 have y3:(kind == 3)=false:=by rw [beq_eq_false_iff_ne]; exact h3
 by_cases h6:kind=6
 ·subst h6
  obtain rfl:true=ans:=by
   have:=x.out
   simp at this
   first | exact this.symm | exact this
  clear x
  have J:=Lib.hid (show Calls Tryz.prog 88 #[.agg #[.int .i64 2],.slice (some ⟨w2.heap.size,0,none⟩) 3 3] (w2.alloc (.cells #[.int .i64 2,.int .i64 3,.int .i64 4] 3)) fun e w'=>e=.returned (.bool true)∧Below (w2.alloc (.cells #[.int .i64 2,.int .i64 3,.int .i64 4] 3)).heap.size (w2.alloc (.cells #[.int .i64 2,.int .i64 3,.int .i64 4] 3)) w' from ji 2 w2.heap.size [2,3,4] 3 3 (w2.alloc (.cells #[.int .i64 2,.int .i64 3,.int .i64 4] 3)) (Blk.new _ _ _) rfl (by decide))
  have t:=z.alloc z.size (.cells #[.int .i64 2,.int .i64 3,.int .i64 4] 3)
  have m:=I.alloc (.cells #[.int .i64 2,.int .i64 3,.int .i64 4] 3)
  have p:=D.alloc (.cells #[.int .i64 2,.int .i64 3,.int .i64 4] 3)
  go_enter Tryz.func51,Tryz.ntmps51
  go_wp2_with fail
  rw [H.out]
  try rw [← F.out]
  clear z0 z2 z3 z4 z5 Y P H F
  refine J.out.mono ?_
  rintro e Q ⟨rfl,j⟩
  have E:=t.trans (j.mono t.size)
  have M:=m.below j m.lt
  have O:=p.below j p.lt
  clear t m p j J
  go_wp2_with fail
  all_goals go_ret
  all_goals exact ⟨rfl,E⟩
 have y6:(kind == 6)=false:=by rw [beq_eq_false_iff_ne]; exact h6
 by_cases h9:kind=9
 ·subst h9
  obtain rfl:true=ans:=by
   have:=x.out
   simp at this
   first | exact this.symm | exact this
  clear x
  have J:=Lib.hid (show Calls Tryz.prog 88 #[.agg #[.int .i64 2],.slice (some ⟨w2.heap.size,0,none⟩) 2 2] (w2.alloc (.cells #[.int .i64 2,.int .i64 3] 3)) fun e w'=>e=.returned (.bool true)∧Below (w2.alloc (.cells #[.int .i64 2,.int .i64 3] 3)).heap.size (w2.alloc (.cells #[.int .i64 2,.int .i64 3] 3)) w' from ji 2 w2.heap.size [2,3] 2 3 (w2.alloc (.cells #[.int .i64 2,.int .i64 3] 3)) (Blk.new _ _ _) rfl (by decide))
  have t:=z.alloc z.size (.cells #[.int .i64 2,.int .i64 3] 3)
  have m:=I.alloc (.cells #[.int .i64 2,.int .i64 3] 3)
  have p:=D.alloc (.cells #[.int .i64 2,.int .i64 3] 3)
  go_enter Tryz.func51,Tryz.ntmps51
  go_wp2_with fail
  rw [H.out]
  try rw [← F.out]
  clear z0 z2 z3 z4 z5 Y P H F
  refine J.out.mono ?_
  rintro e Q ⟨rfl,j⟩
  have E:=t.trans (j.mono t.size)
  have M:=m.below j m.lt
  have O:=p.below j p.lt
  clear t m p j J
  go_wp2_with fail
  all_goals go_ret
  all_goals exact ⟨rfl,E⟩
 have y9:(kind == 9)=false:=by rw [beq_eq_false_iff_ne]; exact h9
 by_cases ap:kind=10
 ·subst ap
  obtain rfl:true=ans:=by
   have:=x.out
   simp at this
   first | exact this.symm | exact this
  clear x
  have J:=Lib.hid (show Calls Tryz.prog 88 #[.agg #[.int .i64 2],.slice (some ⟨w2.heap.size,0,none⟩) 2 2] (w2.alloc (.cells #[.int .i64 2,.int .i64 3] 3)) fun e w'=>e=.returned (.bool true)∧Below (w2.alloc (.cells #[.int .i64 2,.int .i64 3] 3)).heap.size (w2.alloc (.cells #[.int .i64 2,.int .i64 3] 3)) w' from ji 2 w2.heap.size [2,3] 2 3 (w2.alloc (.cells #[.int .i64 2,.int .i64 3] 3)) (Blk.new _ _ _) rfl (by decide))
  have t:=z.alloc z.size (.cells #[.int .i64 2,.int .i64 3] 3)
  have m:=I.alloc (.cells #[.int .i64 2,.int .i64 3] 3)
  have p:=D.alloc (.cells #[.int .i64 2,.int .i64 3] 3)
  go_enter Tryz.func51,Tryz.ntmps51
  go_wp2_with fail
  rw [H.out]
  try rw [← F.out]
  clear z0 z2 z3 z4 z5 Y P H F
  refine J.out.mono ?_
  rintro e Q ⟨rfl,j⟩
  have E:=t.trans (j.mono t.size)
  have M:=m.below j m.lt
  have O:=p.below j p.lt
  clear t m p j J
  go_wp2_with fail
  all_goals go_ret
  all_goals exact ⟨rfl,E⟩
 have bC:(kind == 10)=false:=by rw [beq_eq_false_iff_ne]; exact ap
 by_cases aq:kind=11
 ·subst aq
  obtain rfl:false=ans:=by
   have:=x.out
   simp at this
   first | exact this.symm | exact this
  clear x
  have J:=Lib.hid (show Calls Tryz.prog 88 #[.agg #[.int .i64 2],.slice (some ⟨w2.heap.size,0,none⟩) 1 1] (w2.alloc (.cells #[.int .i64 4] 3)) fun e w'=>e=.returned (.bool false)∧Below (w2.alloc (.cells #[.int .i64 4] 3)).heap.size (w2.alloc (.cells #[.int .i64 4] 3)) w' from ji 2 w2.heap.size [4] 1 3 (w2.alloc (.cells #[.int .i64 4] 3)) (Blk.new _ _ _) rfl (by decide))
  have t:=z.alloc z.size (.cells #[.int .i64 4] 3)
  have m:=I.alloc (.cells #[.int .i64 4] 3)
  have p:=D.alloc (.cells #[.int .i64 4] 3)
  go_enter Tryz.func51,Tryz.ntmps51
  go_wp2_with fail
  rw [H.out]
  try rw [← F.out]
  clear z0 z2 z3 z4 z5 Y P H F
  refine J.out.mono ?_
  rintro e Q ⟨rfl,j⟩
  have E:=t.trans (j.mono t.size)
  have M:=m.below j m.lt
  have O:=p.below j p.lt
  clear t m p j J
  go_wp2_with fail
  all_goals go_ret
  all_goals exact ⟨rfl,E⟩
 have bD:(kind == 11)=false:=by rw [beq_eq_false_iff_ne]; exact aq
 by_cases h8:kind=8
 ·subst h8
  obtain rfl:zG 2 l=ans:=by
   have:=x.out
   simp at this
   first | exact this.symm | exact this
  clear x
  have J:=Lib.hid (show Calls Tryz.prog 88 #[.agg #[.int .i64 2],.slice (some ⟨w2.heap.size,0,none⟩) 4 4] (w2.alloc (.cells #[.int .i64 1,.int .i64 2,.int .i64 3,.int .i64 4] 3)) fun e w'=>e=.returned (.bool true)∧Below (w2.alloc (.cells #[.int .i64 1,.int .i64 2,.int .i64 3,.int .i64 4] 3)).heap.size (w2.alloc (.cells #[.int .i64 1,.int .i64 2,.int .i64 3,.int .i64 4] 3)) w' from ji 2 w2.heap.size [1,2,3,4] 4 3 (w2.alloc (.cells #[.int .i64 1,.int .i64 2,.int .i64 3,.int .i64 4] 3)) (Blk.new _ _ _) rfl (by decide))
  have t:=z.alloc z.size (.cells #[.int .i64 1,.int .i64 2,.int .i64 3,.int .i64 4] 3)
  have m:=I.alloc (.cells #[.int .i64 1,.int .i64 2,.int .i64 3,.int .i64 4] 3)
  have p:=D.alloc (.cells #[.int .i64 1,.int .i64 2,.int .i64 3,.int .i64 4] 3)
  go_enter Tryz.func51,Tryz.ntmps51
  go_wp2_with fail
  rw [H.out]
  try rw [← F.out]
  clear z0 z2 z3 z4 z5 Y P H F
  refine J.out.mono ?_
  rintro e Q ⟨rfl,j⟩
  have E:=t.trans (j.mono t.size)
  have M:=m.below j m.lt
  have O:=p.below j p.lt
  have L:=((Below.refl _ w2).alloc (Nat.le_refl _) (.cells #[.int .i64 1,.int .i64 2,.int .i64 3,.int .i64 4] 3)).trans (j.mono ((Below.refl _ w2).alloc (Nat.le_refl _) (.cells #[.int .i64 1,.int .i64 2,.int .i64 3,.int .i64 4] 3)).size)
  clear t m p j J
  have G4:=Lib.hid (G.out.below L)
  have HK:=Lib.hid (zbL l A n c Q B d (hl.below E hB) (Nat.le_trans hB E.size) hn hc)
  have z8:=O.cell 8
  clear L G z I D hl
  go_wp2_with fail
  refine HK.out.mono ?_
  rintro e V ⟨⟨A',n',c',rfl,aL,aK⟩,S⟩
  have aa:=E.trans (S.mono E.size)
  have ad:=M.below S M.lt
  have G5:=G4.out.below S
  have HC:=zaS (fun y=>!kg 2 y.own) w.heap.size (jg l) A' n' c' V V.heap.size (d+1) aK (Nat.le_refl _) aL (fun k hk x' W hW bd be=>zfH 2 (jg l)[k] x' w.heap.size W V.heap.size (d+1) bd be (ad.below hW ad.lt) (G5.below hW))
  rw [zch 2 l]at HC
  obtain ⟨kf,au⟩:∃ kf,zG 2 l=kf:=⟨_,rfl⟩
  rw [au]at HC
  have HC:=Lib.hid HC
  clear E S M O G4 G5 aK aL HK z8
  go_wp2_with fail
  refine HC.out.mono ?_
  rintro e w6 ⟨rfl,aH⟩
  have aI:=aa.trans (aH.mono aa.size)
  clear HC aH aa
  cases kf with
  | true =>
   go_wp2_with fail
   all_goals go_ret
   all_goals exact ⟨zL (by rw [au]),aI⟩
  | false =>
   go_wp2_with fail
   all_goals go_ret
   all_goals exact ⟨zL (by rw [au]),aI⟩
 have y8:(kind == 8)=false:=by rw [beq_eq_false_iff_ne]; exact h8
 obtain rfl:true=ans:=by
  have:=x.out
  rw [if_neg h4,if_neg h3,if_neg h6,if_neg (fun q=>q.elim h9 ap),if_neg aq,if_neg h8]at this
  rw [← this]
  decide
 clear x
 have J:=Lib.hid (show Calls Tryz.prog 88 #[.agg #[.int .i64 2],.slice (some ⟨w2.heap.size,0,none⟩) 4 4] (w2.alloc (.cells #[.int .i64 1,.int .i64 2,.int .i64 3,.int .i64 4] 3)) fun e w'=>e=.returned (.bool true)∧Below (w2.alloc (.cells #[.int .i64 1,.int .i64 2,.int .i64 3,.int .i64 4] 3)).heap.size (w2.alloc (.cells #[.int .i64 1,.int .i64 2,.int .i64 3,.int .i64 4] 3)) w' from ji 2 w2.heap.size [1,2,3,4] 4 3 (w2.alloc (.cells #[.int .i64 1,.int .i64 2,.int .i64 3,.int .i64 4] 3)) (Blk.new _ _ _) rfl (by decide))
 have t:=z.alloc z.size (.cells #[.int .i64 1,.int .i64 2,.int .i64 3,.int .i64 4] 3)
 have m:=I.alloc (.cells #[.int .i64 1,.int .i64 2,.int .i64 3,.int .i64 4] 3)
 have p:=D.alloc (.cells #[.int .i64 1,.int .i64 2,.int .i64 3,.int .i64 4] 3)
 go_enter Tryz.func51,Tryz.ntmps51
 go_wp2_with fail
 rw [H.out]
 try rw [← F.out]
 clear z0 z2 z3 z4 z5 Y P H F
 refine J.out.mono ?_
 rintro e Q ⟨rfl,j⟩
 have E:=t.trans (j.mono t.size)
 have M:=m.below j m.lt
 have O:=p.below j p.lt
 clear t m p j J
 go_wp2_with fail
 all_goals go_ret
 all_goals exact ⟨rfl,E⟩
end Go.Proofs.YtonihophanmaaaaGreatDoor
namespace Go.Proofs.YtonihophanmaaaaGreatDoor
open Go.RowKit Go.Stop Go.Extern
theorem zfP (v:Value) (w:World):(callFunc 52 #[.iface 321 v]).run Tryz.prog w=.ok (.value (.iface 107 (.agg #[.pointer (some ⟨Tryz.prog.globals.size,321,none⟩)]))) w:=by
 rw [@run_callFunc_extern Tryz.prog 52 _ Extern.ReflectliteType.typeOf Tryz.func52 (by kernel_rfl) (by kernel_rfl) (by kernel_rfl) (by kernel_rfl)]
 kernel_rfl
theorem zbo (w:World):(callFunc 322 #[.agg #[.pointer (some ⟨Tryz.prog.globals.size,321,none⟩)]]).run Tryz.prog w=.ok (.value (.bool true)) w:=by
 rw [@run_callFunc_extern Tryz.prog 322 _ (Extern.ReflectliteType.method fun t=>do Extern.Rtype.noPackHeld "Comparable" t; pure (.bool (← typeInfo t).comparable)) Tryz.func322 (by kernel_rfl) (by kernel_rfl) (by kernel_rfl) (by kernel_rfl)]
 kernel_rfl
theorem vT (n:Nat) (v:Value) (w:World):(Go.method (n+1) 107 v "Comparable").run Tryz.prog w=.ok (322,v) w:=by kernel_rfl
theorem zjL:(Tryz.prog.info? 321).map (·.comparable)=some true:=by kernel_rfl
theorem zjM:(Tryz.prog.info? 323).map (·.size)=some 1:=by kernel_rfl
theorem znU (v:Value) (a:TypeId) (w:World):(Instr.typeAssert (.iface 321 v) a 109 true).run Tryz.prog w=.ok (.tuple #[.nilIface,.bool false]) w:=run_typeAssert_lacksB Tryz.underlying109 (by kernel_rfl) (by kernel_rfl) v a w
theorem zj9 (v:Value) (a:TypeId) (w:World):(Instr.typeAssert (.iface 321 v) a 112 true).run Tryz.prog w=.ok (.tuple #[.nilIface,.bool false]) w:=run_typeAssert_lacksB Tryz.underlying112 (by kernel_rfl) (by kernel_rfl) v a w
theorem ziE (v:Value) (a:TypeId) (w:World):(Instr.typeAssert (.iface 321 v) a 114 true).run Tryz.prog w=.ok (.tuple #[.nilIface,.bool false]) w:=run_typeAssert_lacksB Tryz.underlying114 (by kernel_rfl) (by kernel_rfl) v a w
theorem zhB (a:Addr) (w:World) :
  Calls Tryz.prog 35 #[.iface 321 (.pointer (some a)),.iface 321 (.pointer (some a))] w fun e k=>e=.returned (.bool true)∧k=w:=by
 obtain ⟨i,f,b⟩:=Option.map_eq_some_iff.1 zjL
 obtain ⟨j,g,m⟩:=Option.map_eq_some_iff.1 zjM
 have h:=zfP
 have d:=zbo
 have n:=vT
 obtain ⟨G,c⟩:∃ G,Tryz.prog.globals.size=G:=⟨_,rfl⟩
 rw [c]at h d
 clear c
 have l:=run_eql_iface_ptr_same (P:=Tryz.prog) w a Tryz.underlying48 Tryz.underlying321 f b g
 go_enter Tryz.func35,Tryz.ntmps35
 go_wp2
 refine wp_loop_rounds 1 ?_
 rw [rounds_succ]
 go_wp2
 go_ret
 exact ⟨rfl,rfl⟩
theorem zjO (b:Addr) (w:World) :
  Calls Tryz.prog 35 #[.nilIface,.iface 321 (.pointer (some b))] w fun e a=>e=.returned (.bool false)∧a=w:=by
 have hn:=run_eql_iface_nil_left (P:=Tryz.prog) w 321 (.pointer (some b)) Tryz.underlying48
 go_enter Tryz.func35,Tryz.ntmps35
 go_wp2
 go_ret
 exact ⟨rfl,rfl⟩
theorem zlg (a b:Addr) (k l:Array Value) (r s:TypeId) (w:World) (g:a≠b) (m:w.heap[a.block]? = some (.cells k r (0,0))) (n:w.heap[b.block]? = some (.cells l s (0,0))) :
  Calls Tryz.prog 35 #[.iface 321 (.pointer (some a)),.iface 321 (.pointer (some b))] w fun e t=>e=.returned (.bool false)∧t=w:=by
 obtain ⟨i,o,c⟩:=Option.map_eq_some_iff.1 zjL
 obtain ⟨j,p,f⟩:=Option.map_eq_some_iff.1 zjM
 have q:=zfP
 have h:=zbo
 have v:=vT
 obtain ⟨G,d⟩:∃ G,Tryz.prog.globals.size=G:=⟨_,rfl⟩
 rw [d]at q h
 clear d
 have x:=znU
 have y:=zj9
 have z:=ziE
 have u:=run_eql_iface_ptr_other (P:=Tryz.prog) w Tryz.underlying48 Tryz.underlying321 o c p (by rw [f]; decide) g m n
 go_enter Tryz.func35,Tryz.ntmps35
 go_wp2
 refine wp_loop_rounds 1 ?_
 rw [rounds_succ]
 go_wp2
 go_ret
 exact ⟨rfl,rfl⟩
end Go.Proofs.YtonihophanmaaaaGreatDoor
namespace Go.Proofs.YtonihophanmaaaaGreatDoor
open Go.RowKit Go.Shelf
theorem yz (f:Int) (fl:Own→Bool) (t:Tr):zj f fl t=0∨zj f fl t=60∨zj f fl t=61:=by
 unfold zj
 split
 ·split
  ·exact .inl rfl
  ·exact .inr (.inr rfl)
 ·exact .inr (.inl rfl)
theorem vA {aT aF:Addr} (f:Int) (fl:Own→Bool) (l:ze0 aT aF f fl) (t:Tr) (x:Value) (w:World) (B d:Nat) (y:zq w B d t.kids x) (D:zt t.own) (z:B≤w.heap.size) (hc:t.count≤1000000000) (h:GW w aT aF) :
  Calls Tryz.prog 16 #[ze t.own x,.int .i64 f] w fun e w'=>e=.returned (.int .i64 (zj f fl t))∧Below w.heap.size w w':=by
 have g:Below w.heap.size w (w.alloc (.cells (zf t.own x) 28)):=(Below.refl _ _).alloc (Nat.le_refl _) _
 have a:=Blk.new w (zf t.own x) 28
 have i:=zgB f fl l t x _ B d (y.below g z) D (Nat.le_trans z g.size) hc (h.below g)
 have r:=yz f fl t
 obtain ⟨ck,q⟩:∃ ck,zj f fl t=ck:=⟨_,rfl⟩
 rw [q]at i r ⊢
 obtain ⟨_,A,c,rfl⟩:=y.slice
 obtain ⟨n,hn⟩:∃ n,t.kids.length=n:=⟨_,rfl⟩
 obtain ⟨⟨kind,b,neg,dg,ex,u,wd,s⟩,v⟩:∃ o,t.own=o:=⟨_,rfl⟩
 rw [v,hn]at i a g ⊢
 unfold ze at i ⊢
 unfold zf at i a g
 simp only []at i a g ⊢
 have i:=Lib.hid i
 have P:=a.cell 0
 have Q:=a.cell 1
 have R:=a.cell 2
 have S:=a.cell 3
 have T:=a.cell 4
 have U:=a.cell 5
 have V:=a.cell 6
 have W:=a.cell 7
 have X:=a.cell 8
 have K:=Lib.hid h
 clear y D hc q v hn a h l
 go_enter Tryz.func16,Tryz.ntmps16
 go_wp2_with fail
 refine i.out.mono ?_
 rintro e m ⟨rfl,C⟩
 have k:=g.trans (C.mono g.size)
 have G:=K.out.below k
 have Z:=G.hT
 have Y:=G.hF
 obtain ⟨M,O,eT⟩:=G.bT
 obtain ⟨L,N,eF⟩:=G.bF
 have E:=Lib.hid (zjO aT m)
 have F:=Lib.hid (zjO aF m)
 have H:=Lib.hid (zhB aT m)
 have I:=Lib.hid (zhB aF m)
 have J:=Lib.hid (zlg aF aT L M N O m G.ne.symm eF eT)
 clear P Q R S T U V W X C g i G eT eF
 rcases r with rfl|rfl|rfl
 ·have j:zdJ aT aF 0=.nilIface:=rfl
  rw [j]
  clear j
  go_wp2_with fail
  refine E.out.mono ?_
  rintro e p ⟨rfl,rfl⟩
  go_wp2_with fail
  refine F.out.mono ?_
  rintro e p ⟨rfl,rfl⟩
  go_wp2_with fail
  go_ret
  exact ⟨rfl,k⟩
 ·have j:zdJ aT aF 60=qZ aT:=rfl
  rw [j]
  clear j
  go_wp2_with fail
  refine H.out.mono ?_
  rintro e p ⟨rfl,rfl⟩
  go_wp2_with fail
  go_ret
  exact ⟨rfl,k⟩
 ·have j:zdJ aT aF 61=qZ aF:=rfl
  rw [j]
  clear j
  go_wp2_with fail
  refine J.out.mono ?_
  rintro e p ⟨rfl,rfl⟩
  go_wp2_with fail
  refine I.out.mono ?_
  rintro e p ⟨rfl,rfl⟩
  go_wp2_with fail
  go_ret
  exact ⟨rfl,k⟩
theorem yp (aT aF:Addr):ze0 aT aF 2 flC:=fun o l A n c w B d b a hn hc e h=>zni o l A n c w B d b a hn hc e h
theorem zeh {B b:Nat} {f:List Value} {W W':World} (h:IsW B b f W) {row:Option Nat} (j:W.grownBy W' row) (m:∀ r,row=some r→r<B∨∃ o:Obj,W.heap[r]? = some o∧o.isCells=false):IsW B b f W':=by
 have key:∀ p,Lib.BuilderAtF 99 5 B b p f W→Lib.BuilderAtF 99 5 B b p f W':=by
  rintro p ⟨s,v,i,c,l⟩
  refine ⟨s,v,(j.block b (Array.getElem?_eq_some_iff.1 i).1 ?_).trans i,c.kept j ?_,l⟩
  ·intro e
   rcases m b e.symm with q | ⟨o,d,hc⟩
   ·omega
   ·rw [i]at d
    cases d
    cases hc
  ·by_cases n:v.ownBlock=none
   ·exact .inl n
   ·right
    intro e
    obtain ⟨g,a⟩:∃ g,v.ownBlock=some g:=by
     cases hq:v.ownBlock with
     | none=>exact absurd hq n
     | some g=>exact ⟨g,rfl⟩
    rcases m g (by rw [← e,a]) with q | ⟨o,d,hc⟩
    ·have:=(c.lt g a).1
     omega
    ·rcases c.2 with ⟨rfl,_⟩ | ⟨x,t,u,w,rfl,_,k,_⟩
     ·simp [Value.ownBlock]at a
     ·simp [Value.ownBlock]at a
      subst a
      rw [k]at d
      cases d
      cases hc
 rcases h with h | h
 ·exact .inl (key _ h)
 ·exact .inr (key _ h)
theorem yJ {b:Nat} {W W':World} (h:Lib.OthersKept 5 (some b) W W') {k:Nat} {a:Array Value} {t:TypeId} (f:Blk W k a t) (d:k≠b) (g:t≠5):Blk W' k a t:=
 h k _ f (fun e=>d (by cases e; rfl)) (fun c i e=>by cases e; exact g rfl)
theorem zgb {b B:Nat} {W W':World} (h:Lib.OthersKept 5 (some b) W W') (l:W.heap.size≤W'.heap.size) {g:Nat} {i:List Value} (j:IsW g b i W):KeepsFrom B W W':=by
 obtain ⟨c,t,z,a⟩:∃ c t z,W.heap[b]? = some (.cells c t z):=by
  rcases j with ⟨_,v,a,_⟩ | ⟨_,v,a,_⟩
  ·exact ⟨_,_,_,a⟩
  ·exact ⟨_,_,_,a⟩
 refine ⟨l,fun k o _ d f=>h k o d (fun e=>?_) (fun c m e=>?_)⟩
 ·cases e
  rw [a]at d
  cases d
  cases f
 ·subst e
  cases f
theorem zgc {p:Nat} {W W':World} (h:Below W.heap.size W W'):Lib.OthersKept 5 (some p) W W':=fun k _ a _ _=>(h.block k (Array.getElem?_eq_some_iff.1 a).1).trans a
structure WP (B p:Nat) (l:List UInt8) (W W':World):Prop where
 is:IsW B p (Lib.byteCells l) W'
 below:Below B W W'
 others:Lib.OthersKept 5 (some p) W W'
theorem WP.trans {B p:Nat} {l l':List UInt8} {W a W2:World} (h:WP B p l W a) (k:WP B p l' a W2):WP B p l' W W2:=⟨k.is,h.below.trans k.below,h.others.trans k.others⟩
theorem xY {B p:Nat} {a:List Value} {W W':World} (h:IsW B p a W) (b:Below W.heap.size W W'):IsW B p a W':=zeh h (xy b) (fun r e=>by cases e)
theorem WP.step {B p:Nat} {l:List UInt8} {W W':World} (h:IsW B p (Lib.byteCells l) W) (a:Below W.heap.size W W') (b:B≤W.heap.size):WP B p l W W':=⟨xY h a,a.mono b,zgc a⟩
theorem WP.blk {B p:Nat} {l:List UInt8} {W W':World} (h:WP B p l W W') {k:Nat} {a:Array Value} {t:TypeId} (c:Blk W k a t) (b:k≠p) (d:t≠5):Blk W' k a t:=yJ h.others c b d
theorem za7 (l:List UInt8) (s:ByteArray):Lib.byteCells l++Lib.strCells s=Lib.byteCells (l++s.data.toList):=by
 simp [Lib.byteCells,Lib.strCells]
theorem zh2 (l:List UInt8) (c:UInt8):Lib.byteCells l++[.int .u8 (c.toNat:Int)]=Lib.byteCells (l++[c]):=by
 simp [Lib.byteCells]
theorem ye (l:List UInt8):(Lib.byteCells l).length=l.length:=Lib.byteCells_length l
theorem jS (B p k:Nat) (l:List UInt8) (c:UInt8) (W:World) (h:IsW B p (Lib.byteCells l) W) (i:B≤W.heap.size) (j:l.length≤1000000000) (d:Blk W k #[.int .u8 (c.toNat:Int)] 5) :
  Calls Tryz.prog 211 #[.pointer (some ⟨p,0,none⟩),.slice (some ⟨k,0,none⟩) 1 1] W fun e W'=>e=.returned (.tuple #[])∧WP B p (l++[c]) W W':=by
 have a:=Lib.hid (zgH B p (Lib.byteCells l) (c.toNat:Int) W h (by rw [ye]; omega) i)
 rw [zh2]at a
 have hc:=d.cell 0
 clear h d
 go_enter Tryz.func211,Tryz.ntmps211
 go_wp2_with fail
 refine wp_loop_rounds 2 ?_
 rw [rounds_succ]
 go_wp2_with fail
 refine a.out.mono ?_
 rintro e m ⟨rfl,g,b,f⟩
 go_wp2_with fail
 rw [rounds_succ]
 go_wp2_with fail
 go_end0
 exact ⟨rfl,g.is,b,f⟩
theorem we (B p:Nat) (l:List UInt8) (maj n:Nat) (d:maj≤7) (hn:n<18446744073709551616) (W:World) (h:IsW B p (Lib.byteCells l) W) (j:B≤W.heap.size) (t:l.length≤1000000000) :
  Calls Tryz.prog 212 #[.pointer (some ⟨p,0,none⟩),.int .i64 maj,.int .u64 n] W fun e W'=>e=.returned (.tuple #[])∧WP B p (l++zY maj n) W W':=by
 have f:=Lib.hid (zjG maj n d hn W)
 have q:(zY maj n).length≤100:=by
  rw [wW]
  rcases vV n hn with ⟨_,_,s⟩ | ⟨_,x,i,s,_⟩
  ·omega
  ·have:∀ m,m≤3→2 ^ m≤8:=fun m u=>Nat.pow_le_pow_right (show 0<2 by decide) u
   have:=this ((zF n).1 - 24) (by omega)
   omega
 obtain ⟨mk,c⟩:∃ mk,zY maj n=mk:=⟨_,rfl⟩
 rw [c]at f q ⊢
 have g:=Lib.hid (fun a (k:Below W.heap.size W a)=>vL B p (Lib.byteCells l) ⟨mk.toArray⟩ a (xY h k) (by rw [ye]; have:(⟨mk.toArray⟩:ByteArray).size=mk.length:=rfl; omega) (Nat.le_trans j k.size))
 rw [za7]at g
 have H:=Lib.hid h
 clear h c hn
 go_enter Tryz.func212,Tryz.ntmps212
 go_wp2_with fail
 refine f.out.mono ?_
 rintro e a ⟨rfl,b⟩
 go_wp2_with fail
 refine (g.out a b).mono ?_
 rintro e w ⟨rfl,i,o,r⟩
 have v:=(WP.step H.out b j).trans (l':=l++mk) ⟨i.is,o,r⟩
 go_wp2_with fail
 go_end0
 exact ⟨rfl,v⟩
end Go.Proofs.YtonihophanmaaaaGreatDoor
