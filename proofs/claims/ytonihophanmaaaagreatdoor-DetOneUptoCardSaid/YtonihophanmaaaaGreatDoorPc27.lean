/- The texts GatD, put together. -/
import Derived.Test.YtonihophanmaaaaGreatDoorPc18
import Derived.Test.YtonihophanmaaaaGreatDoorPc17
import Derived.Test.YtonihophanmaaaaGreatDoorPc26
set_option maxHeartbeats 8000000
set_option maxRecDepth 100000
namespace Go.Proofs.YtonihophanmaaaaGreatDoor
open Go.RowKit Go.Shelf
def flR (o:Own):Bool:=if 0≤o.u∧o.u<18446744073709551616 then flD o else true
theorem znj {aT aF:Addr} (o:Own) (l:List Tr) (A:Option Addr) (n c:Nat) (w:World) (B d:Nat) (hl:zq w B d l (.slice A n c)) (hB:B≤w.heap.size) (hn:l.length=n) (hc:n≤1000000000000) (ho:zt o) (h:GW w aT aF) :
  Calls Tryz.prog 51 #[.agg #[.int .i64 3],ze o (.slice A n c)] w fun e w'=>e=.returned (.bool (qc 3 flR o l))∧Below w.heap.size w w':=by
 obtain ⟨ans,ab⟩:∃ ans,qc 3 flR o l=ans:=⟨_,rfl⟩
 rw [ab]
 unfold qc at ab
 obtain ⟨kind,b,neg,dg,ex,u,wd,s⟩:=o
 have bj:=ho.dg
 have hu:=ho.u
 simp only []at bj hu ab
 unfold ze
 simp only []
 obtain ⟨F,N,H⟩:=qa w #[.int .i64 3] #[.int .i64 kind,.bool b,.bool neg,.string dg,.int .i64 ex,.int .u64 u,.int .i64 wd,.string s,.slice A n c] 52 28
 have z0:=H.cell 0
 have z2:=H.cell 2
 have z3:=H.cell 3
 have z4:=H.cell 4
 have z5:=H.cell 5
 have z6:=H.cell 6
 have V:=N.cell 0
 obtain ⟨w2,ay⟩:∃ w2,(w.alloc (.cells #[.int .i64 3] 52)).alloc (.cells #[.int .i64 kind,.bool b,.bool neg,.string dg,.int .i64 ex,.int .u64 u,.int .i64 wd,.string s,.slice A n c] 28)=w2:=⟨_,rfl⟩
 rw [ay]at F N H
 have G:=Lib.hid (h.below F)
 have E:=Lib.hid ab
 have L:=Lib.hid ay
 have J:=Lib.hid (show w2.heap.size=w.heap.size+1+1 by rw [← ay]; simp)
 clear ab ho h ay
 by_cases h4:kind=4
 ·subst h4
  have P:flR ⟨4,b,neg,dg,ex,u,wd,s⟩=ans:=by
   have:=E.out
   rw [if_pos rfl]at this
   exact this
  have HF:=Lib.hid (vO u wd hu.1 hu.2 w2)
  have ax:=wY (wd:=wd) hu.1 hu.2
  unfold flR at P
  rw [if_pos hu]at P
  have P:decide (j4 (je u wd)=wd)=ans:=P
  obtain ⟨vw,aP⟩:∃ vw,je u wd=vw:=⟨_,rfl⟩
  rw [aP]at ax P
  have aC:=Lib.hid (fun W=>zbZ vw ax.1 ax.2 W)
  obtain ⟨lv,aO⟩:∃ lv,j4 vw=lv:=⟨_,rfl⟩
  rw [aO]at P
  simp only [aO]at aC
  have P:(lv == wd)=ans:=by
   rw [← P]
   by_cases q:lv=wd <;> simp [q]
  clear ax aO
  obtain ⟨ve,bo⟩:∃ ve:Int,(if j5 u wd=true then 0 else 2)=ve:=⟨_,rfl⟩
  rw [aP,bo]at HF
  clear aP bo E
  go_enter Tryz.func51,Tryz.ntmps51
  go_wp2_with fail
  rw [L.out]
  try rw [← J.out]
  clear z0 z2 z3 z4 z5 z6 V L J
  refine HF.out.mono ?_
  rintro e w3 ⟨rfl,M⟩
  have ac:=F.trans (M.mono F.size)
  have af:=N.below M N.lt
  have al:=H.below M H.lt
  clear HF M F N H G
  have V:=af.cell 0
  have z6:=al.cell 6
  go_wp2_with fail
  cases hev:(lv == wd) with
  | true =>
   rw [hev]at P
   have Q:=Lib.hid af
   have ai:=Lib.hid al
   refine qC (R:=fun W T=>Below W.heap.size W T) 28 (by kernel_rfl) (by kernel_rfl) (fun _=>Below.refl _ _) (by kernel_rfl) (by kernel_rfl) (fun W=>Below w3.heap.size w3 W)
    [fun v _=>v=.pointer (some ⟨w.heap.size,0,none⟩),fun v _=>v=.agg #[.int .i64 3],fun v W=>∃ b,v=.slice (some ⟨b,0,none⟩) 1 1∧Blk W b #[.int .i64 2] 3,fun v _=>v=.bool false,fun v _=>v=.bool false,fun v _=>v=.pointer (some ⟨w.heap.size,0,none⟩),fun v _=>v=.agg #[.int .i64 3],fun v W=>∃ b,v=.slice (some ⟨b,0,none⟩) 1 1∧Blk W b #[.int .i64 3] 3,fun v _=>v=.bool true,fun v _=>v=.bool true,fun v _=>v=.int .u64 vw,fun v _=>v=.int .i64 lv,fun v _=>v=.pointer (some ⟨w.heap.size+1,6,none⟩),fun v _=>v=.int .i64 wd,fun v _=>v=.bool true,fun v _=>v=.bool true,fun v _=>v=.bool true,fun v _=>v=.bool true,fun v _=>v=undef,fun v _=>v=undef,fun v _=>v=undef,fun v _=>v=undef,fun v _=>v=undef,fun v _=>v=undef,fun v _=>v=undef,fun v _=>v=undef,fun v _=>v=undef,fun v _=>v=.bool true] ?_ ?_ ?_ ?_ ?_
   case refine_1=>exact (Below.refl _ _).drew
   case refine_2=>exact fun W T he hr=>he.trans (hr.mono he.size)
   case refine_3 =>
    intro q hq v W T _ P hr
    simp only [List.mem_cons,List.not_mem_nil,or_false]at hq
    rcases hq with rfl|rfl|rfl|rfl|rfl|rfl|rfl|rfl|rfl|rfl|rfl|rfl|rfl|rfl|rfl|rfl|rfl|rfl|rfl|rfl|rfl|rfl|rfl|rfl|rfl|rfl|rfl|rfl <;> first | exact P | (obtain ⟨b,e,h⟩:=P; exact ⟨b,e,h.below hr h.lt⟩)
   case refine_4 =>
    refine za (zn rfl rfl (by kernel_rfl) (by kernel_rfl) ?_) ?_
    ·intro g W j hn ρ i hc x m K p
     have r2:ρ (.tmp 2)=.pointer (some ⟨w.heap.size,0,none⟩):=by rw [i]; kernel_rfl
     clear i hn m
     simp [zd,go_sem,r2]
     exact p _ _ rfl (Below.refl _ _)
    refine za (zn rfl rfl (by kernel_rfl) (by kernel_rfl) ?_) ?_
    ·intro g W j hn ρ i hc x m K p
     have aX:=(show ρ (.tmp 24)=g 0 by rw [i]; kernel_rfl).trans (hn 0 (by kernel_rfl))
     clear i hn m
     exact jh 50 (.tmp 24) rfl w.heap.size aX 52 _ (0,0) _ (Q.out.below j Q.out.lt) Tryz.underlying50 rfl (by kernel_rfl) (p _ _ rfl (Below.refl _ _))
    refine za (zn rfl rfl (by kernel_rfl) (by kernel_rfl) ?_) ?_
    ·intro g W j hn ρ i hc x m K p
     clear i hn m
     simp [zd,go_sem,hc]
     exact p _ _ ⟨_,rfl,Blk.new _ _ _⟩ ((Below.refl _ _).alloc (Nat.le_refl _) _)
    refine za (zn rfl rfl (by kernel_rfl) (by kernel_rfl) ?_) ?_
    ·intro g W j hn ρ i hc x m K p
     have aY:=(show ρ (.tmp 25)=g 1 by rw [i]; kernel_rfl).trans (hn 1 (by kernel_rfl))
     obtain ⟨Z,aE,aJ⟩:=hn 2 (by kernel_rfl)
     have aZ:=(show ρ (.tmp 26)=g 2 by rw [i]; kernel_rfl).trans aE
     clear i hn m
     refine jl rfl (by kernel_rfl) x ?_
     rw [show #[Operand.tmp 25,Operand.tmp 26].map ρ = #[.agg #[.int .i64 3],.slice (some ⟨Z,0,none⟩) 1 1] by simp [aY,aZ]]
     refine (show Calls Tryz.prog 88 #[.agg #[.int .i64 3],.slice (some ⟨Z,0,none⟩) 1 1] W fun e w'=>e=.returned (.bool false)∧Below W.heap.size W w' from ji 3 Z [2] 1 3 W aJ rfl (by decide)).mono ?_
     rintro e T ⟨rfl,M⟩
     exact ⟨_,rfl,p _ _ rfl M⟩
    refine za (zn rfl rfl (by kernel_rfl) (by kernel_rfl) ?_) ?_
    ·intro g W j hn ρ i hc x m K p
     have a0:=(show ρ (.tmp 27)=g 3 by rw [i]; kernel_rfl).trans (hn 3 (by kernel_rfl))
     clear i hn m
     simp [zd,go_sem,a0]
     exact p _ _ rfl (Below.refl _ _)
    refine za (ja 4 false 28 rfl rfl rfl (by kernel_rfl) (by kernel_rfl) ?_ ?_) ?_
    ·intro g W j hn ρ i
     exact (show ρ (.tmp 28)=g 4 by rw [i]; kernel_rfl).trans (hn 4 (by kernel_rfl))
    ·intro g W j hn ρ i hc x m K p
     have r2:ρ (.tmp 2)=.pointer (some ⟨w.heap.size,0,none⟩):=by rw [i]; kernel_rfl
     clear i hn m
     simp [zd,go_sem,r2]
     exact p _ _ rfl (Below.refl _ _)
    refine za (ja 4 false 28 rfl rfl rfl (by kernel_rfl) (by kernel_rfl) ?_ ?_) ?_
    ·intro g W j hn ρ i
     exact (show ρ (.tmp 28)=g 4 by rw [i]; kernel_rfl).trans (hn 4 (by kernel_rfl))
    ·intro g W j hn ρ i hc x m K p
     have a2:=(show ρ (.tmp 29)=g 5 by rw [i]; kernel_rfl).trans (hn 5 (by kernel_rfl))
     clear i hn m
     exact jh 50 (.tmp 29) rfl w.heap.size a2 52 _ (0,0) _ (Q.out.below j Q.out.lt) Tryz.underlying50 rfl (by kernel_rfl) (p _ _ rfl (Below.refl _ _))
    refine za (ja 4 false 28 rfl rfl rfl (by kernel_rfl) (by kernel_rfl) ?_ ?_) ?_
    ·intro g W j hn ρ i
     exact (show ρ (.tmp 28)=g 4 by rw [i]; kernel_rfl).trans (hn 4 (by kernel_rfl))
    ·intro g W j hn ρ i hc x m K p
     clear i hn m
     simp [zd,go_sem,hc]
     exact p _ _ ⟨_,rfl,Blk.new _ _ _⟩ ((Below.refl _ _).alloc (Nat.le_refl _) _)
    refine za (ja 4 false 28 rfl rfl rfl (by kernel_rfl) (by kernel_rfl) ?_ ?_) ?_
    ·intro g W j hn ρ i
     exact (show ρ (.tmp 28)=g 4 by rw [i]; kernel_rfl).trans (hn 4 (by kernel_rfl))
    ·intro g W j hn ρ i hc x m K p
     have a3:=(show ρ (.tmp 30)=g 6 by rw [i]; kernel_rfl).trans (hn 6 (by kernel_rfl))
     obtain ⟨aa,aG,aK⟩:=hn 7 (by kernel_rfl)
     have a4:=(show ρ (.tmp 31)=g 7 by rw [i]; kernel_rfl).trans aG
     clear i hn m
     refine jl rfl (by kernel_rfl) x ?_
     rw [show #[Operand.tmp 30,Operand.tmp 31].map ρ = #[.agg #[.int .i64 3],.slice (some ⟨aa,0,none⟩) 1 1] by simp [a3,a4]]
     refine (show Calls Tryz.prog 88 #[.agg #[.int .i64 3],.slice (some ⟨aa,0,none⟩) 1 1] W fun e w'=>e=.returned (.bool true)∧Below W.heap.size W w' from ji 3 aa [3] 1 3 W aK rfl (by decide)).mono ?_
     rintro e T ⟨rfl,M⟩
     exact ⟨_,rfl,p _ _ rfl M⟩
    refine za (ja 4 false 28 rfl rfl rfl (by kernel_rfl) (by kernel_rfl) ?_ ?_) ?_
    ·intro g W j hn ρ i
     exact (show ρ (.tmp 28)=g 4 by rw [i]; kernel_rfl).trans (hn 4 (by kernel_rfl))
    ·intro g W j hn ρ i hc x m K p
     have a5:=(show ρ (.tmp 32)=g 8 by rw [i]; kernel_rfl).trans (hn 8 (by kernel_rfl))
     clear i hn m
     simp [zd,go_sem,a5]
     exact p _ _ rfl (Below.refl _ _)
    refine za (ja 9 true 33 rfl rfl rfl (by kernel_rfl) (by kernel_rfl) ?_ ?_) ?_
    ·intro g W j hn ρ i
     exact (show ρ (.tmp 33)=g 9 by rw [i]; kernel_rfl).trans (hn 9 (by kernel_rfl))
    ·intro g W j hn ρ i hc x m K p
     have r6:ρ (.tmp 6)=.int .u64 vw:=by rw [i]; kernel_rfl
     clear i hn m
     simp [zd,go_sem,r6]
     exact p _ _ rfl (Below.refl _ _)
    refine za (ja 9 true 33 rfl rfl rfl (by kernel_rfl) (by kernel_rfl) ?_ ?_) ?_
    ·intro g W j hn ρ i
     exact (show ρ (.tmp 33)=g 9 by rw [i]; kernel_rfl).trans (hn 9 (by kernel_rfl))
    ·intro g W j hn ρ i hc x m K p
     have a7:=(show ρ (.tmp 34)=g 10 by rw [i]; kernel_rfl).trans (hn 10 (by kernel_rfl))
     clear i hn m
     refine jl rfl (by kernel_rfl) x ?_
     rw [show #[Operand.tmp 34].map ρ = #[.int .u64 vw] by simp [a7]]
     refine (aC.out W).mono ?_
     rintro e T ⟨rfl,M⟩
     exact ⟨_,rfl,p _ _ rfl M⟩
    refine za (ja 9 true 33 rfl rfl rfl (by kernel_rfl) (by kernel_rfl) ?_ ?_) ?_
    ·intro g W j hn ρ i
     exact (show ρ (.tmp 33)=g 9 by rw [i]; kernel_rfl).trans (hn 9 (by kernel_rfl))
    ·intro g W j hn ρ i hc x m K p
     have r3:ρ (.tmp 3)=.pointer (some ⟨w.heap.size+1,0,none⟩):=by rw [i]; kernel_rfl
     clear i hn m
     simp [zd,go_sem,r3]
     exact p _ _ rfl (Below.refl _ _)
    refine za (ja 9 true 33 rfl rfl rfl (by kernel_rfl) (by kernel_rfl) ?_ ?_) ?_
    ·intro g W j hn ρ i
     exact (show ρ (.tmp 33)=g 9 by rw [i]; kernel_rfl).trans (hn 9 (by kernel_rfl))
    ·intro g W j hn ρ i hc x m K p
     have a9:=(show ρ (.tmp 36)=g 12 by rw [i]; kernel_rfl).trans (hn 12 (by kernel_rfl))
     clear i hn m
     have q0:=(ai.out.below j ai.out.lt).cell 6
     simp [zd,go_sem,a9,q0]
     exact p _ _ rfl (Below.refl _ _)
    refine za (ja 9 true 33 rfl rfl rfl (by kernel_rfl) (by kernel_rfl) ?_ ?_) ?_
    ·intro g W j hn ρ i
     exact (show ρ (.tmp 33)=g 9 by rw [i]; kernel_rfl).trans (hn 9 (by kernel_rfl))
    ·intro g W j hn ρ i hc x m K p
     have a8:=(show ρ (.tmp 35)=g 11 by rw [i]; kernel_rfl).trans (hn 11 (by kernel_rfl))
     have ba:=(show ρ (.tmp 37)=g 13 by rw [i]; kernel_rfl).trans (hn 13 (by kernel_rfl))
     clear i hn m
     simp [zd,go_sem,a8,ba,hev]
     exact p _ _ rfl (Below.refl _ _)
    refine za (ja 4 false 28 rfl rfl rfl (by kernel_rfl) (by kernel_rfl) ?_ ?_) ?_
    ·intro g W j hn ρ i
     exact (show ρ (.tmp 28)=g 4 by rw [i]; kernel_rfl).trans (hn 4 (by kernel_rfl))
    ·intro g W j hn ρ i hc x m K p
     have a6:=(show ρ (.tmp 33)=g 9 by rw [i]; kernel_rfl).trans (hn 9 (by kernel_rfl))
     have bb:=(show ρ (.tmp 38)=g 14 by rw [i]; kernel_rfl).trans (hn 14 (by kernel_rfl))
     clear i hn m
     simp [zd,go_sem,hc,a6,bb]
     exact p _ _ rfl (Below.refl _ _)
    refine za (zn rfl rfl (by kernel_rfl) (by kernel_rfl) ?_) ?_
    ·intro g W j hn ρ i hc x m K p
     have a1:=(show ρ (.tmp 28)=g 4 by rw [i]; kernel_rfl).trans (hn 4 (by kernel_rfl))
     have bc:=(show ρ (.tmp 39)=g 15 by rw [i]; kernel_rfl).trans (hn 15 (by kernel_rfl))
     clear i hn m
     simp [zd,go_sem,hc,a1,bc]
     exact p _ _ rfl (Below.refl _ _)
    refine za (zn rfl rfl (by kernel_rfl) (by kernel_rfl) ?_) ?_
    ·intro g W j hn ρ i hc x m K p
     have bd:=(show ρ (.tmp 40)=g 16 by rw [i]; kernel_rfl).trans (hn 16 (by kernel_rfl))
     clear i hn m
     simp [zd,go_sem,bd]
     exact p _ _ rfl (Below.refl _ _)
    refine za (zO 17 false 41 rfl rfl (by kernel_rfl) ?_ (fun _ _=>rfl)) ?_
    ·intro g W j hn ρ i
     rw [(show ρ (.tmp 41)=g 17 by rw [i]; kernel_rfl).trans (hn 17 (by kernel_rfl))]
     exact fun h=>by cases h
    refine za (zO 17 false 41 rfl rfl (by kernel_rfl) ?_ (fun _ _=>rfl)) ?_
    ·intro g W j hn ρ i
     rw [(show ρ (.tmp 41)=g 17 by rw [i]; kernel_rfl).trans (hn 17 (by kernel_rfl))]
     exact fun h=>by cases h
    refine za (zO 17 false 41 rfl rfl (by kernel_rfl) ?_ (fun _ _=>rfl)) ?_
    ·intro g W j hn ρ i
     rw [(show ρ (.tmp 41)=g 17 by rw [i]; kernel_rfl).trans (hn 17 (by kernel_rfl))]
     exact fun h=>by cases h
    refine za (zO 17 false 41 rfl rfl (by kernel_rfl) ?_ (fun _ _=>rfl)) ?_
    ·intro g W j hn ρ i
     rw [(show ρ (.tmp 41)=g 17 by rw [i]; kernel_rfl).trans (hn 17 (by kernel_rfl))]
     exact fun h=>by cases h
    refine za (zO 17 false 41 rfl rfl (by kernel_rfl) ?_ (fun _ _=>rfl)) ?_
    ·intro g W j hn ρ i
     rw [(show ρ (.tmp 41)=g 17 by rw [i]; kernel_rfl).trans (hn 17 (by kernel_rfl))]
     exact fun h=>by cases h
    refine za (zO 22 true 46 rfl rfl (by kernel_rfl) ?_ (fun _ _=>rfl)) ?_
    ·intro g W j hn ρ i
     rw [(show ρ (.tmp 46)=g 22 by rw [i]; kernel_rfl).trans (hn 22 (by kernel_rfl))]
     exact fun h=>by cases h
    refine za (zO 22 true 46 rfl rfl (by kernel_rfl) ?_ (fun _ _=>rfl)) ?_
    ·intro g W j hn ρ i
     rw [(show ρ (.tmp 46)=g 22 by rw [i]; kernel_rfl).trans (hn 22 (by kernel_rfl))]
     exact fun h=>by cases h
    refine za (zO 22 true 46 rfl rfl (by kernel_rfl) ?_ (fun _ _=>rfl)) ?_
    ·intro g W j hn ρ i
     rw [(show ρ (.tmp 46)=g 22 by rw [i]; kernel_rfl).trans (hn 22 (by kernel_rfl))]
     exact fun h=>by cases h
    refine za (zO 17 false 41 rfl rfl (by kernel_rfl) ?_ (fun _ _=>rfl)) ?_
    ·intro g W j hn ρ i
     rw [(show ρ (.tmp 41)=g 17 by rw [i]; kernel_rfl).trans (hn 17 (by kernel_rfl))]
     exact fun h=>by cases h
    refine za (zn rfl rfl (by kernel_rfl) (by kernel_rfl) ?_) xn
    ·intro g W j hn ρ i hc x m K p
     have be:=(show ρ (.tmp 41)=g 17 by rw [i]; kernel_rfl).trans (hn 17 (by kernel_rfl))
     have bf:=(show ρ (.tmp 50)=g 26 by rw [i]; kernel_rfl).trans (hn 26 (by kernel_rfl))
     clear i hn m
     simp [zd,go_sem,hc,be,bf]
     exact p _ _ rfl (Below.refl _ _)
   case refine_5 =>
    intro g W j hn
    have aj:=hn 27 (by decide)
    simp only [vu,List.getD_cons_zero,List.getD_cons_succ]at aj
    clear hn
    have aL:=ac.trans (j.mono ac.size)
    clear j
    obtain rfl:true=ans:=P
    refine Great.wpList_runTo rfl (some 4) rfl (.bool true) W ((show _=Result.ok (Next.value (g 27)) W by kernel_rfl).trans (by rw [aj])) ?_
    refine wpList_nil ?_
    refine (‹∀ (a:Act) (w:World),Code.wp _ Code.ret _ a w→_›) _ _ (wp_ret ?_)
    show bodyPost Tryz.prog Tryz.f51 (fun e w'=>e=.returned (.bool true)∧Below w.heap.size w w') .ret _ W
    exact bodyPost_ret (v:=.bool true) (by kernel_rfl) (by kernel_rfl) ⟨rfl,aL⟩
  | false =>
   rw [hev]at P
   have Q:=Lib.hid af
   have ai:=Lib.hid al
   refine qC (R:=fun W T=>Below W.heap.size W T) 28 (by kernel_rfl) (by kernel_rfl) (fun _=>Below.refl _ _) (by kernel_rfl) (by kernel_rfl) (fun W=>Below w3.heap.size w3 W)
    [fun v _=>v=.pointer (some ⟨w.heap.size,0,none⟩),fun v _=>v=.agg #[.int .i64 3],fun v W=>∃ b,v=.slice (some ⟨b,0,none⟩) 1 1∧Blk W b #[.int .i64 2] 3,fun v _=>v=.bool false,fun v _=>v=.bool false,fun v _=>v=.pointer (some ⟨w.heap.size,0,none⟩),fun v _=>v=.agg #[.int .i64 3],fun v W=>∃ b,v=.slice (some ⟨b,0,none⟩) 1 1∧Blk W b #[.int .i64 3] 3,fun v _=>v=.bool true,fun v _=>v=.bool true,fun v _=>v=.int .u64 vw,fun v _=>v=.int .i64 lv,fun v _=>v=.pointer (some ⟨w.heap.size+1,6,none⟩),fun v _=>v=.int .i64 wd,fun v _=>v=.bool false,fun v _=>v=.bool false,fun v _=>v=.bool false,fun v _=>v=.bool false,fun v _=>v=.pointer (some ⟨w.heap.size,0,none⟩),fun v _=>v=.agg #[.int .i64 3],fun v W=>∃ b,v=.slice (some ⟨b,0,none⟩) 1 1∧Blk W b #[.int .i64 4] 3,fun v _=>v=.bool false,fun v _=>v=.bool false,fun v _=>v=undef,fun v _=>v=undef,fun v _=>v=undef,fun v _=>v=.bool false,fun v _=>v=.bool false] ?_ ?_ ?_ ?_ ?_
   case refine_1=>exact (Below.refl _ _).drew
   case refine_2=>exact fun W T he hr=>he.trans (hr.mono he.size)
   case refine_3 =>
    intro q hq v W T _ P hr
    simp only [List.mem_cons,List.not_mem_nil,or_false]at hq
    rcases hq with rfl|rfl|rfl|rfl|rfl|rfl|rfl|rfl|rfl|rfl|rfl|rfl|rfl|rfl|rfl|rfl|rfl|rfl|rfl|rfl|rfl|rfl|rfl|rfl|rfl|rfl|rfl|rfl <;> first | exact P | (obtain ⟨b,e,h⟩:=P; exact ⟨b,e,h.below hr h.lt⟩)
   case refine_4 =>
    refine za (zn rfl rfl (by kernel_rfl) (by kernel_rfl) ?_) ?_
    ·intro g W j hn ρ i hc x m K p
     have r2:ρ (.tmp 2)=.pointer (some ⟨w.heap.size,0,none⟩):=by rw [i]; kernel_rfl
     clear i hn m
     simp [zd,go_sem,r2]
     exact p _ _ rfl (Below.refl _ _)
    refine za (zn rfl rfl (by kernel_rfl) (by kernel_rfl) ?_) ?_
    ·intro g W j hn ρ i hc x m K p
     have aX:=(show ρ (.tmp 24)=g 0 by rw [i]; kernel_rfl).trans (hn 0 (by kernel_rfl))
     clear i hn m
     exact jh 50 (.tmp 24) rfl w.heap.size aX 52 _ (0,0) _ (Q.out.below j Q.out.lt) Tryz.underlying50 rfl (by kernel_rfl) (p _ _ rfl (Below.refl _ _))
    refine za (zn rfl rfl (by kernel_rfl) (by kernel_rfl) ?_) ?_
    ·intro g W j hn ρ i hc x m K p
     clear i hn m
     simp [zd,go_sem,hc]
     exact p _ _ ⟨_,rfl,Blk.new _ _ _⟩ ((Below.refl _ _).alloc (Nat.le_refl _) _)
    refine za (zn rfl rfl (by kernel_rfl) (by kernel_rfl) ?_) ?_
    ·intro g W j hn ρ i hc x m K p
     have aY:=(show ρ (.tmp 25)=g 1 by rw [i]; kernel_rfl).trans (hn 1 (by kernel_rfl))
     obtain ⟨Z,aE,aJ⟩:=hn 2 (by kernel_rfl)
     have aZ:=(show ρ (.tmp 26)=g 2 by rw [i]; kernel_rfl).trans aE
     clear i hn m
     refine jl rfl (by kernel_rfl) x ?_
     rw [show #[Operand.tmp 25,Operand.tmp 26].map ρ = #[.agg #[.int .i64 3],.slice (some ⟨Z,0,none⟩) 1 1] by simp [aY,aZ]]
     refine (show Calls Tryz.prog 88 #[.agg #[.int .i64 3],.slice (some ⟨Z,0,none⟩) 1 1] W fun e w'=>e=.returned (.bool false)∧Below W.heap.size W w' from ji 3 Z [2] 1 3 W aJ rfl (by decide)).mono ?_
     rintro e T ⟨rfl,M⟩
     exact ⟨_,rfl,p _ _ rfl M⟩
    refine za (zn rfl rfl (by kernel_rfl) (by kernel_rfl) ?_) ?_
    ·intro g W j hn ρ i hc x m K p
     have a0:=(show ρ (.tmp 27)=g 3 by rw [i]; kernel_rfl).trans (hn 3 (by kernel_rfl))
     clear i hn m
     simp [zd,go_sem,a0]
     exact p _ _ rfl (Below.refl _ _)
    refine za (ja 4 false 28 rfl rfl rfl (by kernel_rfl) (by kernel_rfl) ?_ ?_) ?_
    ·intro g W j hn ρ i
     exact (show ρ (.tmp 28)=g 4 by rw [i]; kernel_rfl).trans (hn 4 (by kernel_rfl))
    ·intro g W j hn ρ i hc x m K p
     have r2:ρ (.tmp 2)=.pointer (some ⟨w.heap.size,0,none⟩):=by rw [i]; kernel_rfl
     clear i hn m
     simp [zd,go_sem,r2]
     exact p _ _ rfl (Below.refl _ _)
    refine za (ja 4 false 28 rfl rfl rfl (by kernel_rfl) (by kernel_rfl) ?_ ?_) ?_
    ·intro g W j hn ρ i
     exact (show ρ (.tmp 28)=g 4 by rw [i]; kernel_rfl).trans (hn 4 (by kernel_rfl))
    ·intro g W j hn ρ i hc x m K p
     have a2:=(show ρ (.tmp 29)=g 5 by rw [i]; kernel_rfl).trans (hn 5 (by kernel_rfl))
     clear i hn m
     exact jh 50 (.tmp 29) rfl w.heap.size a2 52 _ (0,0) _ (Q.out.below j Q.out.lt) Tryz.underlying50 rfl (by kernel_rfl) (p _ _ rfl (Below.refl _ _))
    refine za (ja 4 false 28 rfl rfl rfl (by kernel_rfl) (by kernel_rfl) ?_ ?_) ?_
    ·intro g W j hn ρ i
     exact (show ρ (.tmp 28)=g 4 by rw [i]; kernel_rfl).trans (hn 4 (by kernel_rfl))
    ·intro g W j hn ρ i hc x m K p
     clear i hn m
     simp [zd,go_sem,hc]
     exact p _ _ ⟨_,rfl,Blk.new _ _ _⟩ ((Below.refl _ _).alloc (Nat.le_refl _) _)
    refine za (ja 4 false 28 rfl rfl rfl (by kernel_rfl) (by kernel_rfl) ?_ ?_) ?_
    ·intro g W j hn ρ i
     exact (show ρ (.tmp 28)=g 4 by rw [i]; kernel_rfl).trans (hn 4 (by kernel_rfl))
    ·intro g W j hn ρ i hc x m K p
     have a3:=(show ρ (.tmp 30)=g 6 by rw [i]; kernel_rfl).trans (hn 6 (by kernel_rfl))
     obtain ⟨aa,aG,aK⟩:=hn 7 (by kernel_rfl)
     have a4:=(show ρ (.tmp 31)=g 7 by rw [i]; kernel_rfl).trans aG
     clear i hn m
     refine jl rfl (by kernel_rfl) x ?_
     rw [show #[Operand.tmp 30,Operand.tmp 31].map ρ = #[.agg #[.int .i64 3],.slice (some ⟨aa,0,none⟩) 1 1] by simp [a3,a4]]
     refine (show Calls Tryz.prog 88 #[.agg #[.int .i64 3],.slice (some ⟨aa,0,none⟩) 1 1] W fun e w'=>e=.returned (.bool true)∧Below W.heap.size W w' from ji 3 aa [3] 1 3 W aK rfl (by decide)).mono ?_
     rintro e T ⟨rfl,M⟩
     exact ⟨_,rfl,p _ _ rfl M⟩
    refine za (ja 4 false 28 rfl rfl rfl (by kernel_rfl) (by kernel_rfl) ?_ ?_) ?_
    ·intro g W j hn ρ i
     exact (show ρ (.tmp 28)=g 4 by rw [i]; kernel_rfl).trans (hn 4 (by kernel_rfl))
    ·intro g W j hn ρ i hc x m K p
     have a5:=(show ρ (.tmp 32)=g 8 by rw [i]; kernel_rfl).trans (hn 8 (by kernel_rfl))
     clear i hn m
     simp [zd,go_sem,a5]
     exact p _ _ rfl (Below.refl _ _)
    refine za (ja 9 true 33 rfl rfl rfl (by kernel_rfl) (by kernel_rfl) ?_ ?_) ?_
    ·intro g W j hn ρ i
     exact (show ρ (.tmp 33)=g 9 by rw [i]; kernel_rfl).trans (hn 9 (by kernel_rfl))
    ·intro g W j hn ρ i hc x m K p
     have r6:ρ (.tmp 6)=.int .u64 vw:=by rw [i]; kernel_rfl
     clear i hn m
     simp [zd,go_sem,r6]
     exact p _ _ rfl (Below.refl _ _)
    refine za (ja 9 true 33 rfl rfl rfl (by kernel_rfl) (by kernel_rfl) ?_ ?_) ?_
    ·intro g W j hn ρ i
     exact (show ρ (.tmp 33)=g 9 by rw [i]; kernel_rfl).trans (hn 9 (by kernel_rfl))
    ·intro g W j hn ρ i hc x m K p
     have a7:=(show ρ (.tmp 34)=g 10 by rw [i]; kernel_rfl).trans (hn 10 (by kernel_rfl))
     clear i hn m
     refine jl rfl (by kernel_rfl) x ?_
     rw [show #[Operand.tmp 34].map ρ = #[.int .u64 vw] by simp [a7]]
     refine (aC.out W).mono ?_
     rintro e T ⟨rfl,M⟩
     exact ⟨_,rfl,p _ _ rfl M⟩
    refine za (ja 9 true 33 rfl rfl rfl (by kernel_rfl) (by kernel_rfl) ?_ ?_) ?_
    ·intro g W j hn ρ i
     exact (show ρ (.tmp 33)=g 9 by rw [i]; kernel_rfl).trans (hn 9 (by kernel_rfl))
    ·intro g W j hn ρ i hc x m K p
     have r3:ρ (.tmp 3)=.pointer (some ⟨w.heap.size+1,0,none⟩):=by rw [i]; kernel_rfl
     clear i hn m
     simp [zd,go_sem,r3]
     exact p _ _ rfl (Below.refl _ _)
    refine za (ja 9 true 33 rfl rfl rfl (by kernel_rfl) (by kernel_rfl) ?_ ?_) ?_
    ·intro g W j hn ρ i
     exact (show ρ (.tmp 33)=g 9 by rw [i]; kernel_rfl).trans (hn 9 (by kernel_rfl))
    ·intro g W j hn ρ i hc x m K p
     have a9:=(show ρ (.tmp 36)=g 12 by rw [i]; kernel_rfl).trans (hn 12 (by kernel_rfl))
     clear i hn m
     have q0:=(ai.out.below j ai.out.lt).cell 6
     simp [zd,go_sem,a9,q0]
     exact p _ _ rfl (Below.refl _ _)
    refine za (ja 9 true 33 rfl rfl rfl (by kernel_rfl) (by kernel_rfl) ?_ ?_) ?_
    ·intro g W j hn ρ i
     exact (show ρ (.tmp 33)=g 9 by rw [i]; kernel_rfl).trans (hn 9 (by kernel_rfl))
    ·intro g W j hn ρ i hc x m K p
     have a8:=(show ρ (.tmp 35)=g 11 by rw [i]; kernel_rfl).trans (hn 11 (by kernel_rfl))
     have ba:=(show ρ (.tmp 37)=g 13 by rw [i]; kernel_rfl).trans (hn 13 (by kernel_rfl))
     clear i hn m
     simp [zd,go_sem,a8,ba,hev]
     exact p _ _ rfl (Below.refl _ _)
    refine za (ja 4 false 28 rfl rfl rfl (by kernel_rfl) (by kernel_rfl) ?_ ?_) ?_
    ·intro g W j hn ρ i
     exact (show ρ (.tmp 28)=g 4 by rw [i]; kernel_rfl).trans (hn 4 (by kernel_rfl))
    ·intro g W j hn ρ i hc x m K p
     have a6:=(show ρ (.tmp 33)=g 9 by rw [i]; kernel_rfl).trans (hn 9 (by kernel_rfl))
     have bb:=(show ρ (.tmp 38)=g 14 by rw [i]; kernel_rfl).trans (hn 14 (by kernel_rfl))
     clear i hn m
     simp [zd,go_sem,hc,a6,bb]
     exact p _ _ rfl (Below.refl _ _)
    refine za (zn rfl rfl (by kernel_rfl) (by kernel_rfl) ?_) ?_
    ·intro g W j hn ρ i hc x m K p
     have a1:=(show ρ (.tmp 28)=g 4 by rw [i]; kernel_rfl).trans (hn 4 (by kernel_rfl))
     have bc:=(show ρ (.tmp 39)=g 15 by rw [i]; kernel_rfl).trans (hn 15 (by kernel_rfl))
     clear i hn m
     simp [zd,go_sem,hc,a1,bc]
     exact p _ _ rfl (Below.refl _ _)
    refine za (zn rfl rfl (by kernel_rfl) (by kernel_rfl) ?_) ?_
    ·intro g W j hn ρ i hc x m K p
     have bd:=(show ρ (.tmp 40)=g 16 by rw [i]; kernel_rfl).trans (hn 16 (by kernel_rfl))
     clear i hn m
     simp [zd,go_sem,bd]
     exact p _ _ rfl (Below.refl _ _)
    refine za (ja 17 false 41 rfl rfl rfl (by kernel_rfl) (by kernel_rfl) ?_ ?_) ?_
    ·intro g W j hn ρ i
     exact (show ρ (.tmp 41)=g 17 by rw [i]; kernel_rfl).trans (hn 17 (by kernel_rfl))
    ·intro g W j hn ρ i hc x m K p
     have r2:ρ (.tmp 2)=.pointer (some ⟨w.heap.size,0,none⟩):=by rw [i]; kernel_rfl
     clear i hn m
     simp [zd,go_sem,r2]
     exact p _ _ rfl (Below.refl _ _)
    refine za (ja 17 false 41 rfl rfl rfl (by kernel_rfl) (by kernel_rfl) ?_ ?_) ?_
    ·intro g W j hn ρ i
     exact (show ρ (.tmp 41)=g 17 by rw [i]; kernel_rfl).trans (hn 17 (by kernel_rfl))
    ·intro g W j hn ρ i hc x m K p
     have bM:=(show ρ (.tmp 42)=g 18 by rw [i]; kernel_rfl).trans (hn 18 (by kernel_rfl))
     clear i hn m
     exact jh 50 (.tmp 42) rfl w.heap.size bM 52 _ (0,0) _ (Q.out.below j Q.out.lt) Tryz.underlying50 rfl (by kernel_rfl) (p _ _ rfl (Below.refl _ _))
    refine za (ja 17 false 41 rfl rfl rfl (by kernel_rfl) (by kernel_rfl) ?_ ?_) ?_
    ·intro g W j hn ρ i
     exact (show ρ (.tmp 41)=g 17 by rw [i]; kernel_rfl).trans (hn 17 (by kernel_rfl))
    ·intro g W j hn ρ i hc x m K p
     clear i hn m
     simp [zd,go_sem,hc]
     exact p _ _ ⟨_,rfl,Blk.new _ _ _⟩ ((Below.refl _ _).alloc (Nat.le_refl _) _)
    refine za (ja 17 false 41 rfl rfl rfl (by kernel_rfl) (by kernel_rfl) ?_ ?_) ?_
    ·intro g W j hn ρ i
     exact (show ρ (.tmp 41)=g 17 by rw [i]; kernel_rfl).trans (hn 17 (by kernel_rfl))
    ·intro g W j hn ρ i hc x m K p
     have bN:=(show ρ (.tmp 43)=g 19 by rw [i]; kernel_rfl).trans (hn 19 (by kernel_rfl))
     obtain ⟨aD,bE,bF⟩:=hn 20 (by kernel_rfl)
     have bO:=(show ρ (.tmp 44)=g 20 by rw [i]; kernel_rfl).trans bE
     clear i hn m
     refine jl rfl (by kernel_rfl) x ?_
     rw [show #[Operand.tmp 43,Operand.tmp 44].map ρ = #[.agg #[.int .i64 3],.slice (some ⟨aD,0,none⟩) 1 1] by simp [bN,bO]]
     refine (show Calls Tryz.prog 88 #[.agg #[.int .i64 3],.slice (some ⟨aD,0,none⟩) 1 1] W fun e w'=>e=.returned (.bool false)∧Below W.heap.size W w' from ji 3 aD [4] 1 3 W bF rfl (by decide)).mono ?_
     rintro e T ⟨rfl,M⟩
     exact ⟨_,rfl,p _ _ rfl M⟩
    refine za (ja 17 false 41 rfl rfl rfl (by kernel_rfl) (by kernel_rfl) ?_ ?_) ?_
    ·intro g W j hn ρ i
     exact (show ρ (.tmp 41)=g 17 by rw [i]; kernel_rfl).trans (hn 17 (by kernel_rfl))
    ·intro g W j hn ρ i hc x m K p
     have bP:=(show ρ (.tmp 45)=g 21 by rw [i]; kernel_rfl).trans (hn 21 (by kernel_rfl))
     clear i hn m
     simp [zd,go_sem,bP]
     exact p _ _ rfl (Below.refl _ _)
    refine za (zO 22 true 46 rfl rfl (by kernel_rfl) ?_ (fun _ _=>rfl)) ?_
    ·intro g W j hn ρ i
     rw [(show ρ (.tmp 46)=g 22 by rw [i]; kernel_rfl).trans (hn 22 (by kernel_rfl))]
     exact fun h=>by cases h
    refine za (zO 22 true 46 rfl rfl (by kernel_rfl) ?_ (fun _ _=>rfl)) ?_
    ·intro g W j hn ρ i
     rw [(show ρ (.tmp 46)=g 22 by rw [i]; kernel_rfl).trans (hn 22 (by kernel_rfl))]
     exact fun h=>by cases h
    refine za (zO 22 true 46 rfl rfl (by kernel_rfl) ?_ (fun _ _=>rfl)) ?_
    ·intro g W j hn ρ i
     rw [(show ρ (.tmp 46)=g 22 by rw [i]; kernel_rfl).trans (hn 22 (by kernel_rfl))]
     exact fun h=>by cases h
    refine za (ja 17 false 41 rfl rfl rfl (by kernel_rfl) (by kernel_rfl) ?_ ?_) ?_
    ·intro g W j hn ρ i
     exact (show ρ (.tmp 41)=g 17 by rw [i]; kernel_rfl).trans (hn 17 (by kernel_rfl))
    ·intro g W j hn ρ i hc x m K p
     have bQ:=(show ρ (.tmp 46)=g 22 by rw [i]; kernel_rfl).trans (hn 22 (by kernel_rfl))
     have bR:=(show ρ (.tmp 49)=g 25 by rw [i]; kernel_rfl).trans (hn 25 (by kernel_rfl))
     clear i hn m
     simp [zd,go_sem,hc,bQ,bR]
     exact p _ _ rfl (Below.refl _ _)
    refine za (zn rfl rfl (by kernel_rfl) (by kernel_rfl) ?_) xn
    ·intro g W j hn ρ i hc x m K p
     have be:=(show ρ (.tmp 41)=g 17 by rw [i]; kernel_rfl).trans (hn 17 (by kernel_rfl))
     have bf:=(show ρ (.tmp 50)=g 26 by rw [i]; kernel_rfl).trans (hn 26 (by kernel_rfl))
     clear i hn m
     simp [zd,go_sem,hc,be,bf]
     exact p _ _ rfl (Below.refl _ _)
   case refine_5 =>
    intro g W j hn
    have aj:=hn 27 (by decide)
    simp only [vu,List.getD_cons_zero,List.getD_cons_succ]at aj
    clear hn
    have aL:=ac.trans (j.mono ac.size)
    clear j
    obtain rfl:false=ans:=P
    refine Great.wpList_runTo rfl (some 4) rfl (.bool false) W ((show _=Result.ok (Next.value (g 27)) W by kernel_rfl).trans (by rw [aj])) ?_
    refine wpList_nil ?_
    refine (‹∀ (a:Act) (w:World),Code.wp _ Code.ret _ a w→_›) _ _ (wp_ret ?_)
    show bodyPost Tryz.prog Tryz.f51 (fun e w'=>e=.returned (.bool false)∧Below w.heap.size w w') .ret _ W
    exact bodyPost_ret (v:=.bool false) (by kernel_rfl) (by kernel_rfl) ⟨rfl,aL⟩
 by_cases h3:kind=3
 ·subst h3
  have HF:=Lib.hid (yf neg dg ex bj w2 G.out)
  obtain ⟨tv,kv,sb,bm,bn,b3⟩:∃ (tv:Bool) (kv:Int) (sb:Bool),zbK (jv neg dg ex)=.tuple #[.bool tv,.int .u64 kv,.bool sb]∧(jv neg dg ex).isSome=sb∧0≤kv:=by
   cases hq:jv neg dg ex with
   | none=>exact ⟨false,0,false,rfl,rfl,by omega⟩
   | some r =>
    obtain ⟨nn,kk⟩:=r
    exact ⟨nn,kk,true,rfl,rfl,by omega⟩
  rw [bm]at HF
  obtain rfl:sb=ans:=by
   have:=E.out
   rw [if_neg (by decide),if_pos rfl,bn]at this
   rw [← this]
   simp
  clear bm bn E
  go_enter Tryz.func51,Tryz.ntmps51
  go_wp2_with fail
  rw [L.out]
  try rw [← J.out]
  clear z0 z2 z3 z4 z5 z6 V L J
  refine HF.out.mono ?_
  rintro e w3 ⟨rfl,M⟩
  have ac:=F.trans (M.mono F.size)
  have af:=N.below M N.lt
  have al:=H.below M H.lt
  clear HF M F N H G
  have V:=af.cell 0
  have O:=Lib.hid (show Calls Tryz.prog 88 #[.agg #[.int .i64 3],.slice (some ⟨w3.heap.size,0,none⟩) 1 1] (w3.alloc (.cells #[.int .i64 1] 3)) fun e w'=>e=.returned (.bool false)∧Below (w3.alloc (.cells #[.int .i64 1] 3)).heap.size (w3.alloc (.cells #[.int .i64 1] 3)) w' from ji 3 w3.heap.size [1] 1 3 (w3.alloc (.cells #[.int .i64 1] 3)) (Blk.new _ _ _) rfl (by decide))
  have D:=ac.alloc ac.size (.cells #[.int .i64 1] 3)
  have z:=af.alloc (.cells #[.int .i64 1] 3)
  have C:=al.alloc (.cells #[.int .i64 1] 3)
  go_wp2_with fail
  refine O.out.mono ?_
  rintro e X ⟨rfl,t⟩
  have I:=D.trans (t.mono D.size)
  have S:=z.below t z.lt
  have U:=C.below t C.lt
  clear D z C t O
  clear V
  have V:=S.cell 0
  have Hb:=Lib.hid (show Calls Tryz.prog 88 #[.agg #[.int .i64 3],.slice (some ⟨X.heap.size,0,none⟩) 2 2] (X.alloc (.cells #[.int .i64 2,.int .i64 3] 3)) fun e w'=>e=.returned (.bool true)∧Below (X.alloc (.cells #[.int .i64 2,.int .i64 3] 3)).heap.size (X.alloc (.cells #[.int .i64 2,.int .i64 3] 3)) w' from ji 3 X.heap.size [2,3] 2 3 (X.alloc (.cells #[.int .i64 2,.int .i64 3] 3)) (Blk.new _ _ _) rfl (by decide))
  have aV:=I.alloc I.size (.cells #[.int .i64 2,.int .i64 3] 3)
  have aQ:=S.alloc (.cells #[.int .i64 2,.int .i64 3] 3)
  have aS:=U.alloc (.cells #[.int .i64 2,.int .i64 3] 3)
  go_wp2_with fail
  refine Hb.out.mono ?_
  rintro e w5 ⟨rfl,av⟩
  have Y:=aV.trans (av.mono aV.size)
  have am:=aQ.below av aQ.lt
  have bI:=aS.below av aS.lt
  clear aV aQ aS av Hb
  clear V
  have V:=am.cell 0
  cases sb with
  | true =>
   go_wp2_with fail
   all_goals go_ret
   all_goals exact ⟨rfl,Y⟩
  | false =>
   have Hc:=Lib.hid (show Calls Tryz.prog 88 #[.agg #[.int .i64 3],.slice (some ⟨w5.heap.size,0,none⟩) 1 1] (w5.alloc (.cells #[.int .i64 4] 3)) fun e w'=>e=.returned (.bool false)∧Below (w5.alloc (.cells #[.int .i64 4] 3)).heap.size (w5.alloc (.cells #[.int .i64 4] 3)) w' from ji 3 w5.heap.size [4] 1 3 (w5.alloc (.cells #[.int .i64 4] 3)) (Blk.new _ _ _) rfl (by decide))
   have aW:=Y.alloc Y.size (.cells #[.int .i64 4] 3)
   have aR:=am.alloc (.cells #[.int .i64 4] 3)
   have aU:=bI.alloc (.cells #[.int .i64 4] 3)
   go_wp2_with fail
   refine Hc.out.mono ?_
   rintro e w6 ⟨rfl,aw⟩
   have ak:=aW.trans (aw.mono aW.size)
   have b2:=aR.below aw aR.lt
   have bV:=aU.below aw aU.lt
   clear aW aR aU aw Hc
   go_wp2_with fail
   all_goals go_ret
   all_goals exact ⟨rfl,ak⟩
 have y4:(kind == 4)=false:=by rw [beq_eq_false_iff_ne]; exact h4
 have y3:(kind == 3)=false:=by rw [beq_eq_false_iff_ne]; exact h3
 by_cases h6:kind=6
 ·subst h6
  obtain rfl:true=ans:=by
   have:=E.out
   simp at this
   first | exact this.symm | exact this
  clear E
  have O:=Lib.hid (show Calls Tryz.prog 88 #[.agg #[.int .i64 3],.slice (some ⟨w2.heap.size,0,none⟩) 3 3] (w2.alloc (.cells #[.int .i64 2,.int .i64 3,.int .i64 4] 3)) fun e w'=>e=.returned (.bool true)∧Below (w2.alloc (.cells #[.int .i64 2,.int .i64 3,.int .i64 4] 3)).heap.size (w2.alloc (.cells #[.int .i64 2,.int .i64 3,.int .i64 4] 3)) w' from ji 3 w2.heap.size [2,3,4] 3 3 (w2.alloc (.cells #[.int .i64 2,.int .i64 3,.int .i64 4] 3)) (Blk.new _ _ _) rfl (by decide))
  have D:=F.alloc F.size (.cells #[.int .i64 2,.int .i64 3,.int .i64 4] 3)
  have z:=N.alloc (.cells #[.int .i64 2,.int .i64 3,.int .i64 4] 3)
  have C:=H.alloc (.cells #[.int .i64 2,.int .i64 3,.int .i64 4] 3)
  go_enter Tryz.func51,Tryz.ntmps51
  go_wp2_with fail
  rw [L.out]
  try rw [← J.out]
  clear z0 z2 z3 z4 z5 z6 V L J
  refine O.out.mono ?_
  rintro e X ⟨rfl,t⟩
  have I:=D.trans (t.mono D.size)
  have S:=z.below t z.lt
  have U:=C.below t C.lt
  clear D z C t O
  go_wp2_with fail
  all_goals go_ret
  all_goals exact ⟨rfl,I⟩
 have y6:(kind == 6)=false:=by rw [beq_eq_false_iff_ne]; exact h6
 by_cases h9:kind=9
 ·subst h9
  obtain rfl:true=ans:=by
   have:=E.out
   simp at this
   first | exact this.symm | exact this
  clear E
  have O:=Lib.hid (show Calls Tryz.prog 88 #[.agg #[.int .i64 3],.slice (some ⟨w2.heap.size,0,none⟩) 2 2] (w2.alloc (.cells #[.int .i64 2,.int .i64 3] 3)) fun e w'=>e=.returned (.bool true)∧Below (w2.alloc (.cells #[.int .i64 2,.int .i64 3] 3)).heap.size (w2.alloc (.cells #[.int .i64 2,.int .i64 3] 3)) w' from ji 3 w2.heap.size [2,3] 2 3 (w2.alloc (.cells #[.int .i64 2,.int .i64 3] 3)) (Blk.new _ _ _) rfl (by decide))
  have D:=F.alloc F.size (.cells #[.int .i64 2,.int .i64 3] 3)
  have z:=N.alloc (.cells #[.int .i64 2,.int .i64 3] 3)
  have C:=H.alloc (.cells #[.int .i64 2,.int .i64 3] 3)
  go_enter Tryz.func51,Tryz.ntmps51
  go_wp2_with fail
  rw [L.out]
  try rw [← J.out]
  clear z0 z2 z3 z4 z5 z6 V L J
  refine O.out.mono ?_
  rintro e X ⟨rfl,t⟩
  have I:=D.trans (t.mono D.size)
  have S:=z.below t z.lt
  have U:=C.below t C.lt
  clear D z C t O
  go_wp2_with fail
  all_goals go_ret
  all_goals exact ⟨rfl,I⟩
 have y9:(kind == 9)=false:=by rw [beq_eq_false_iff_ne]; exact h9
 by_cases aH:kind=10
 ·subst aH
  obtain rfl:true=ans:=by
   have:=E.out
   simp at this
   first | exact this.symm | exact this
  clear E
  have O:=Lib.hid (show Calls Tryz.prog 88 #[.agg #[.int .i64 3],.slice (some ⟨w2.heap.size,0,none⟩) 2 2] (w2.alloc (.cells #[.int .i64 2,.int .i64 3] 3)) fun e w'=>e=.returned (.bool true)∧Below (w2.alloc (.cells #[.int .i64 2,.int .i64 3] 3)).heap.size (w2.alloc (.cells #[.int .i64 2,.int .i64 3] 3)) w' from ji 3 w2.heap.size [2,3] 2 3 (w2.alloc (.cells #[.int .i64 2,.int .i64 3] 3)) (Blk.new _ _ _) rfl (by decide))
  have D:=F.alloc F.size (.cells #[.int .i64 2,.int .i64 3] 3)
  have z:=N.alloc (.cells #[.int .i64 2,.int .i64 3] 3)
  have C:=H.alloc (.cells #[.int .i64 2,.int .i64 3] 3)
  go_enter Tryz.func51,Tryz.ntmps51
  go_wp2_with fail
  rw [L.out]
  try rw [← J.out]
  clear z0 z2 z3 z4 z5 z6 V L J
  refine O.out.mono ?_
  rintro e X ⟨rfl,t⟩
  have I:=D.trans (t.mono D.size)
  have S:=z.below t z.lt
  have U:=C.below t C.lt
  clear D z C t O
  go_wp2_with fail
  all_goals go_ret
  all_goals exact ⟨rfl,I⟩
 have b4:(kind == 10)=false:=by rw [beq_eq_false_iff_ne]; exact aH
 by_cases aI:kind=11
 ·subst aI
  obtain rfl:false=ans:=by
   have:=E.out
   simp at this
   first | exact this.symm | exact this
  clear E
  have O:=Lib.hid (show Calls Tryz.prog 88 #[.agg #[.int .i64 3],.slice (some ⟨w2.heap.size,0,none⟩) 1 1] (w2.alloc (.cells #[.int .i64 4] 3)) fun e w'=>e=.returned (.bool false)∧Below (w2.alloc (.cells #[.int .i64 4] 3)).heap.size (w2.alloc (.cells #[.int .i64 4] 3)) w' from ji 3 w2.heap.size [4] 1 3 (w2.alloc (.cells #[.int .i64 4] 3)) (Blk.new _ _ _) rfl (by decide))
  have D:=F.alloc F.size (.cells #[.int .i64 4] 3)
  have z:=N.alloc (.cells #[.int .i64 4] 3)
  have C:=H.alloc (.cells #[.int .i64 4] 3)
  go_enter Tryz.func51,Tryz.ntmps51
  go_wp2_with fail
  rw [L.out]
  try rw [← J.out]
  clear z0 z2 z3 z4 z5 z6 V L J
  refine O.out.mono ?_
  rintro e X ⟨rfl,t⟩
  have I:=D.trans (t.mono D.size)
  have S:=z.below t z.lt
  have U:=C.below t C.lt
  clear D z C t O
  go_wp2_with fail
  all_goals go_ret
  all_goals exact ⟨rfl,I⟩
 have b5:(kind == 11)=false:=by rw [beq_eq_false_iff_ne]; exact aI
 by_cases h8:kind=8
 ·subst h8
  obtain rfl:zG 3 l=ans:=by
   have:=E.out
   simp at this
   first | exact this.symm | exact this
  clear E
  have O:=Lib.hid (show Calls Tryz.prog 88 #[.agg #[.int .i64 3],.slice (some ⟨w2.heap.size,0,none⟩) 4 4] (w2.alloc (.cells #[.int .i64 1,.int .i64 2,.int .i64 3,.int .i64 4] 3)) fun e w'=>e=.returned (.bool true)∧Below (w2.alloc (.cells #[.int .i64 1,.int .i64 2,.int .i64 3,.int .i64 4] 3)).heap.size (w2.alloc (.cells #[.int .i64 1,.int .i64 2,.int .i64 3,.int .i64 4] 3)) w' from ji 3 w2.heap.size [1,2,3,4] 4 3 (w2.alloc (.cells #[.int .i64 1,.int .i64 2,.int .i64 3,.int .i64 4] 3)) (Blk.new _ _ _) rfl (by decide))
  have D:=F.alloc F.size (.cells #[.int .i64 1,.int .i64 2,.int .i64 3,.int .i64 4] 3)
  have z:=N.alloc (.cells #[.int .i64 1,.int .i64 2,.int .i64 3,.int .i64 4] 3)
  have C:=H.alloc (.cells #[.int .i64 1,.int .i64 2,.int .i64 3,.int .i64 4] 3)
  go_enter Tryz.func51,Tryz.ntmps51
  go_wp2_with fail
  rw [L.out]
  try rw [← J.out]
  clear z0 z2 z3 z4 z5 z6 V L J
  refine O.out.mono ?_
  rintro e X ⟨rfl,t⟩
  have I:=D.trans (t.mono D.size)
  have S:=z.below t z.lt
  have U:=C.below t C.lt
  have m:=((Below.refl _ w2).alloc (Nat.le_refl _) (.cells #[.int .i64 1,.int .i64 2,.int .i64 3,.int .i64 4] 3)).trans (t.mono ((Below.refl _ w2).alloc (Nat.le_refl _) (.cells #[.int .i64 1,.int .i64 2,.int .i64 3,.int .i64 4] 3)).size)
  clear D z C t O
  have G4:=Lib.hid (G.out.below m)
  have HK:=Lib.hid (zbL l A n c X B d (hl.below I hB) (Nat.le_trans hB I.size) hn hc)
  have z8:=U.cell 8
  clear m G F N H hl
  go_wp2_with fail
  refine HK.out.mono ?_
  rintro e w5 ⟨⟨A',n',c',rfl,bl,bk⟩,Y⟩
  have ak:=I.trans (Y.mono I.size)
  have am:=S.below Y S.lt
  have G5:=G4.out.below Y
  have HC:=zaS (fun y=>!kg 3 y.own) w.heap.size (jg l) A' n' c' w5 w5.heap.size (d+1) bk (Nat.le_refl _) bl (fun k hk x' W hW bK bL=>zfH 3 (jg l)[k] x' w.heap.size W w5.heap.size (d+1) bK bL (am.below hW am.lt) (G5.below hW))
  rw [zch 3 l]at HC
  obtain ⟨kf,aN⟩:∃ kf,zG 3 l=kf:=⟨_,rfl⟩
  rw [aN]at HC
  have HC:=Lib.hid HC
  clear I Y S U G4 G5 bk bl HK z8
  go_wp2_with fail
  refine HC.out.mono ?_
  rintro e w6 ⟨rfl,bh⟩
  have bi:=ak.trans (bh.mono ak.size)
  clear HC bh ak
  cases kf with
  | true =>
   go_wp2_with fail
   all_goals go_ret
   all_goals exact ⟨zL (by rw [aN]),bi⟩
  | false =>
   go_wp2_with fail
   all_goals go_ret
   all_goals exact ⟨zL (by rw [aN]),bi⟩
 have y8:(kind == 8)=false:=by rw [beq_eq_false_iff_ne]; exact h8
 obtain rfl:true=ans:=by
  have:=E.out
  rw [if_neg h4,if_neg h3,if_neg h6,if_neg (fun q=>q.elim h9 aH),if_neg aI,if_neg h8]at this
  rw [← this]
  decide
 clear E
 have O:=Lib.hid (show Calls Tryz.prog 88 #[.agg #[.int .i64 3],.slice (some ⟨w2.heap.size,0,none⟩) 4 4] (w2.alloc (.cells #[.int .i64 1,.int .i64 2,.int .i64 3,.int .i64 4] 3)) fun e w'=>e=.returned (.bool true)∧Below (w2.alloc (.cells #[.int .i64 1,.int .i64 2,.int .i64 3,.int .i64 4] 3)).heap.size (w2.alloc (.cells #[.int .i64 1,.int .i64 2,.int .i64 3,.int .i64 4] 3)) w' from ji 3 w2.heap.size [1,2,3,4] 4 3 (w2.alloc (.cells #[.int .i64 1,.int .i64 2,.int .i64 3,.int .i64 4] 3)) (Blk.new _ _ _) rfl (by decide))
 have D:=F.alloc F.size (.cells #[.int .i64 1,.int .i64 2,.int .i64 3,.int .i64 4] 3)
 have z:=N.alloc (.cells #[.int .i64 1,.int .i64 2,.int .i64 3,.int .i64 4] 3)
 have C:=H.alloc (.cells #[.int .i64 1,.int .i64 2,.int .i64 3,.int .i64 4] 3)
 go_enter Tryz.func51,Tryz.ntmps51
 go_wp2_with fail
 rw [L.out]
 try rw [← J.out]
 clear z0 z2 z3 z4 z5 z6 V L J
 refine O.out.mono ?_
 rintro e X ⟨rfl,t⟩
 have I:=D.trans (t.mono D.size)
 have S:=z.below t z.lt
 have U:=C.below t C.lt
 clear D z C t O
 go_wp2_with fail
 all_goals go_ret
 all_goals exact ⟨rfl,I⟩
end Go.Proofs.YtonihophanmaaaaGreatDoor
