/- The texts FloC, UtfRt, put together. -/
import Derived.Test.YtonihophanmaaaaGreatDoorPc11
import Derived.Test.YtonihophanmaaaaGreatDoorPc03
import Derived.Deep.RegionHeld3
import Derived.Test.YtonihophanmaaaaGreatDoorPc01
import Derived.Test.YtonihophanmaaaaGreatDoorPc07
import Derived.Shelf.Unicode.ValidAny
set_option maxHeartbeats 8000000
set_option maxRecDepth 100000
namespace Go.Proofs.YtonihophanmaaaaGreatDoor
open Go.RowKit Go.Shelf
theorem zac (i a b:Nat) (c:b<2 ^ i) (h:2 ^ i*a+b<18446744073709551616):bits .or .u64 ((2 ^ i*a:Nat):Int) (b:Int)=((2 ^ i*a+b:Nat):Int):=by
 rw [bits_or_u64_nat _ _ (by omega) (by omega),Nat.two_pow_add_eq_or_of_lt c]
theorem zlD (s x f:Int) (d:0≤s∧s≤1) (e:0≤x∧x≤2047) (c:0≤f∧f≤4503599627370495) :
  bits .or .u64 (bits .or .u64 (s*9223372036854775808) (x*4503599627370496)) f=s*9223372036854775808+x*4503599627370496+f:=by
 obtain ⟨s,rfl⟩:=Int.eq_ofNat_of_zero_le d.1
 obtain ⟨x,rfl⟩:=Int.eq_ofNat_of_zero_le e.1
 obtain ⟨f,rfl⟩:=Int.eq_ofNat_of_zero_le c.1
 have a:=zac 63 s (x*4503599627370496) (by omega) (by omega)
 rw [show ((s:Int)*9223372036854775808)=((2 ^ 63*s:Nat):Int) by omega,show ((x:Int)*4503599627370496)=((x*4503599627370496:Nat):Int) by omega,a]
 have b:=zac 52 (2048*s+x) f (by omega) (by omega)
 rw [show (2 ^ 63*s+x*4503599627370496:Nat)=2 ^ 52*(2048*s+x) by omega,b]
 omega
theorem kM (s x f:Int) (d:0≤s∧s≤1) (g:0≤x∧x≤2047) (c:0≤f∧f≤4503599627370495) (w:World) :
  Calls Tryz.prog 128 #[fmV (52,11,64),.int .u64 s,.int .i64 x,.int .u64 f] w fun e w'=>e=.returned (.int .u64 (s*9223372036854775808+x*4503599627370496+f))∧Below w.heap.size w w':=by
 have a:=(Below.refl w.heap.size w).alloc (Nat.le_refl _) (.cells #[.int .i64 52,.int .i64 11,.int .i64 64] 170)
 have b:=Lib.hid (zlD s x f d g c)
 go_enter Tryz.func128,Tryz.ntmps128
 go_wp2_with fail
 go_region
 go_wp2_with fail
 go_ret
 exact ⟨congrArg (fun v=>Ending.returned (.int .u64 v)) b.out,Go.below_drewN a 1⟩
def j6 (p k:Nat) (b:Int):Int:=
 let s:=b / 2 ^ (p+k) % 2
 let x:=b / 2 ^ p % 2 ^ k
 let f:=b % 2 ^ p
 if x=2 ^ k - 1 then s*9223372036854775808+2047*4503599627370496+f*2 ^ (52 - p)
 else if x=0∧f=0 then s*9223372036854775808
 else if x=0 then s*9223372036854775808+(1 - ((p:Int)+1 - Lib.bitLen f.toNat) - (2 ^ (k - 1) - 1)+1023)*4503599627370496+(f*2 ^ (p+1 - Lib.bitLen f.toNat)) % 2 ^ p*2 ^ (52 - p)
 else s*9223372036854775808+(x - (2 ^ (k - 1) - 1)+1023)*4503599627370496+f*2 ^ (52 - p)
def je (b wd:Int):Int:=if j5 b wd=true then (if wd=16 then j6 10 5 b else if wd=32 then j6 23 8 b else b) else 0
theorem zhi (b:Int) (i:0≤b) (j:b<18446744073709551616) (h:¬ b<65536) (w:World) :
  Calls Tryz.prog 87 #[.int .u64 b,.int .i64 16] w fun e w'=>e=.returned (.tuple #[.int .u64 0,.int .i64 2])∧Below w.heap.size w w':=by
 have g:=Lib.hid (show ∀ w,Calls Tryz.prog 123 #[.int .i64 16] w fun e w'=>e=.returned (.tuple #[fmV (10,5,16),.bool true])∧Below w.heap.size w w' from kB 16)
 have f:=Lib.hid (fun w=>Tryz.bits_Len64 b w i (by omega))
 obtain ⟨bl,d⟩:∃ bl:Nat,Lib.bitLen b.toNat=bl:=⟨_,rfl⟩
 have c:16<bl:=by
  have:=jQ 16 b.toNat (by omega)
  omega
 rw [d]at f
 have m:(16:Int)<bl:=by omega
 clear d h
 go_enter Tryz.func87,Tryz.ntmps87
 go_wp2_with fail
 refine (g.out _).mono ?_
 rintro e k ⟨rfl,a⟩
 have c:=a.alloc a.size (.cells #[.int .i64 10,.int .i64 5,.int .i64 16] 170)
 clear g a
 go_wp2_with fail
 refine (f.out _).mono ?_
 rintro e l ⟨rfl,rfl⟩
 clear f
 go_wp2_with fail
 go_ret2
 exact ⟨rfl,c⟩
theorem zgK (b:Int) (h0:0≤b) (a3:b<65536) (w:World) :
  Calls Tryz.prog 87 #[.int .u64 b,.int .i64 16] w fun e w'=>e=.returned (.tuple #[.int .u64 (j6 10 5 b),.int .i64 0])∧Below w.heap.size w w':=by
 have HO:=Lib.hid (show ∀ w,Calls Tryz.prog 123 #[.int .i64 16] w fun e w'=>e=.returned (.tuple #[fmV (10,5,16),.bool true])∧Below w.heap.size w w' from kB 16)
 have HL:=Lib.hid (fun w=>Tryz.bits_Len64 b w h0 (by omega))
 have HP:=Lib.hid (fun w=>zlG b h0 (by omega) w)
 have HW:=Lib.hid kQ
 obtain ⟨bl,al⟩:∃ bl:Nat,Lib.bitLen b.toNat=bl:=⟨_,rfl⟩
 have K:bl≤16:=by
  have:=jQ 16 b.toNat (by omega)
  omega
 rw [al]at HL
 have z1:¬ (16:Int)<bl:=by omega
 obtain ⟨r,hr⟩:∃ r,j6 10 5 b=r:=⟨_,rfl⟩
 rw [hr]
 unfold j6 at hr
 obtain ⟨s,hs⟩:∃ s,b / 32768 % 2=s:=⟨_,rfl⟩
 obtain ⟨x,hx⟩:∃ x,b / 1024 % 32=x:=⟨_,rfl⟩
 obtain ⟨f,hf⟩:∃ f,b % 1024=f:=⟨_,rfl⟩
 have bs:0≤s∧s≤1:=by omega
 have bx:0≤x∧x≤31:=by omega
 have bf:0≤f∧f<1024:=by omega
 rw [hs,hx,hf]at HP
 have ao:(if x=31 then s*9223372036854775808+2047*4503599627370496+f*4398046511104 else if x=0∧f=0 then s*9223372036854775808 else if x=0 then s*9223372036854775808+(1 - (10+1 - (Lib.bitLen f.toNat:Int)) - 15+1023)*4503599627370496+(f*2 ^ (10+1 - Lib.bitLen f.toNat)) % 1024*4398046511104 else s*9223372036854775808+(x - 15+1023)*4503599627370496+f*4398046511104)=r:=by
  rw [← hr,← hs,← hx,← hf]
  rfl
 clear al a3 hs hx hf
 have D:=Lib.hid ao
 clear hr ao
 obtain ⟨I,J⟩:=bs
 obtain ⟨bm,bn⟩:=bx
 obtain ⟨S,bi⟩:=bf
 go_enter Tryz.func87,Tryz.ntmps87
 go_wp2_with fail
 refine (HO.out _).mono ?_
 rintro e B ⟨rfl,ak⟩
 have K:=ak.alloc ak.size (.cells #[.int .i64 10,.int .i64 5,.int .i64 16] 170)
 have Y:=Blk.new B #[.int .i64 10,.int .i64 5,.int .i64 16] 170
 clear HO
 go_wp2_with fail
 refine (HL.out _).mono ?_
 rintro e o ⟨rfl,rfl⟩
 clear HL
 go_wp2_with fail
 refine (HW.out _).mono ?_
 rintro e o ⟨rfl,T⟩
 have U:=K.trans (T.mono K.size)
 have an:=Y.below T Y.lt
 have V:=U.alloc U.size (.cells #[.int .i64 52,.int .i64 11,.int .i64 64] 170)
 have z:=an.alloc (.cells #[.int .i64 52,.int .i64 11,.int .i64 64] 170)
 have Z:=Blk.new o #[.int .i64 52,.int .i64 11,.int .i64 64] 170
 have N:=z.cell 0
 have O:=z.cell 1
 have Q:=z.cell 2
 clear HW T U an Y K
 go_wp2_with fail
 refine (HP.out _).mono ?_
 rintro e w3 ⟨rfl,L⟩
 have k:=V.trans (L.mono V.size)
 have q:=z.below L z.lt
 have n:=Z.below L Z.lt
 clear N O Q L V z Z HP
 have N:=q.cell 0
 have O:=q.cell 1
 have Q:=q.cell 2
 have e0:=n.cell 0
 have e1:=n.cell 1
 have e2:=n.cell 2
 go_wp2_with fail
 refine (zbv _).mono ?_
 rintro e w4 ⟨rfl,rfl⟩
 by_cases hA:x=31
 ·obtain rfl:s*9223372036854775808+2047*4503599627370496+f*4398046511104=r:=by
   have:=D.out
   rw [if_pos hA]at this
   exact this
  subst hA
  have C:=Lib.hid (show ∀ w,Calls Tryz.prog 128 #[.agg #[.int .i64 52,.int .i64 11,.int .i64 64],.int .u64 s,.int .i64 2047,.int .u64 (f*4398046511104)] w fun e w'=>e=.returned (.int .u64 (s*9223372036854775808+2047*4503599627370496+f*4398046511104))∧Below w.heap.size w w' from fun w=>kM s 2047 (f*4398046511104) ⟨I,J⟩ (by omega) (by omega) w)
  clear D
  have q1:IntKind.i64.wrap 2047=2047:=by rfl
  have q2:IntKind.u64.wrap (f*4398046511104)=f*4398046511104:=by rw [IntKind.wrap_u64]; omega
  go_wp2_with fail
  go_region_held3 (fun w'=>w'.cell? ⟨o.heap.size,0,none⟩=some (.int .i64 52)∧w'.cell? ⟨o.heap.size,1,none⟩=some (.int .i64 11)∧w'.cell? ⟨o.heap.size,2,none⟩=some (.int .i64 64)) (go_keep)
   (first | (go_at_call 127; (with_reducible refine (zab _).mono ?_); rintro e w5 ⟨rfl,rfl⟩) | (go_at_call 128; (with_reducible refine (C.out _).mono ?_); rintro e w5 ⟨rfl,c⟩; have aa:=(Blk.drew n).below c (Blk.drew n).lt; have g0:=aa.cell 0; have g1:=aa.cell 1; have g2:=aa.cell 2))
  clear q1 q2
  go_wp2_with fail
  go_ret2
  exact ⟨rfl,(Go.below_drewN k 1).trans (c.mono k.size)⟩
 have bo:(x == 31)=false:=by rw [beq_eq_false_iff_ne]; exact hA
 by_cases R:x=0∧f=0
 ·obtain rfl:s*9223372036854775808=r:=by
   have:=D.out
   rw [if_neg hA,if_pos R]at this
   exact this
  obtain ⟨a5,am⟩:=R
  subst a5
  subst am
  have C:=Lib.hid (show ∀ w,Calls Tryz.prog 128 #[.agg #[.int .i64 52,.int .i64 11,.int .i64 64],.int .u64 s,.int .i64 0,.int .u64 0] w fun e w'=>e=.returned (.int .u64 (s*9223372036854775808))∧Below w.heap.size w w' from fun w=>by
   have:=kM s 0 0 ⟨I,J⟩ (by omega) (by omega) w
   rw [show s*9223372036854775808+0*4503599627370496+0=s*9223372036854775808 by omega]at this
   exact this)
  clear D
  go_wp2_with fail
  refine (C.out _).mono ?_
  rintro e w5 ⟨rfl,c⟩
  have a:=k.trans (c.mono k.size)
  clear c C
  go_wp2_with fail
  go_ret2
  exact ⟨rfl,a⟩
 by_cases hC:x=0
 ·have a2:f≠0:=fun e=>R ⟨hC,e⟩
  subst hC
  obtain ⟨fl,X⟩:∃ fl:Nat,Lib.bitLen f.toNat=fl:=⟨_,rfl⟩
  have ba:fl≤10:=by
   have:=jQ 10 f.toNat (by omega)
   omega
  have bb:1≤fl:=by
   have:=jQ 0 f.toNat (by omega)
   omega
  have HF:=Lib.hid (fun w=>Tryz.bits_Len64 f w S (by omega))
  rw [X]at HF
  have E:=D.out
  rw [if_neg hA,if_neg R,if_pos rfl,X]at E
  clear D X hA R
  obtain ⟨up,a4⟩:∃ up:Nat,10+1 - fl=up:=⟨_,rfl⟩
  have ab:(10:Int)+1 - (fl:Int)=up:=by omega
  have ax:1≤up∧up≤10:=by omega
  rw [a4,ab]at E
  have am:(f == 0)=false:=by rw [beq_eq_false_iff_ne]; exact a2
  have bj:(fl:Int)≤10:=by omega
  have bk:(1:Int)≤fl:=by omega
  have q0:IntKind.i64.wrap (11 - (fl:Int))=(up:Int):=by rw [IntWalk.i64_in _ (by omega)]; omega
  have y1:(1:Int)≤up:=by omega
  have y2:(up:Int)≤10:=by omega
  have y3:¬ ((up:Int)<0):=by omega
  have y4:min up 64=up:=by omega
  clear ab
  obtain ⟨P,hP⟩:∃ P:Int,f*2 ^ up=P:=⟨_,rfl⟩
  have a1:0≤P∧P<1048576:=by
   have h2:(2:Int) ^ up≤2 ^ 10:=by
    have:=Nat.pow_le_pow_right (show 0<2 by decide) ax.2
    exact_mod_cast this
   have h3:(0:Int)<2 ^ up:=Int.pow_pos (by decide)
   have h4:(2:Int) ^ 10=1024:=by decide
   rw [h4]at h2
   rw [← hP]
   refine ⟨Int.mul_nonneg S (by omega),?_⟩
   calc f*2 ^ up≤f*1024:=Int.mul_le_mul_of_nonneg_left h2 S
    _<1024*1024:=by omega
    _=1048576:=by decide
  obtain ⟨aj,a0⟩:=a1
  rw [hP]at E
  have y5:IntKind.u64.wrap P=P:=by rw [IntKind.wrap_u64]; omega
  have y6:=jF 10 (by decide) P aj (by omega)
  rw [show ((2:Int) ^ 10 - 1)=1023 by decide,show ((2:Int) ^ 10)=1024 by decide]at y6
  have y7:IntKind.i64.wrap (1 - (up:Int))=1 - (up:Int):=IntWalk.i64_in _ (by omega)
  obtain ⟨M,hM⟩:∃ M,P % 1024=M:=⟨_,rfl⟩
  have aZ:0≤M∧M<1024:=by omega
  obtain ⟨bq,br⟩:=aZ
  rw [hM]at y6 E
  go_wp2_with fail
  go_quiet ((go_at_call 124; exact Calls.quiet_of_same (HF.out _)))
  clear q0
  obtain ⟨w5,F⟩:∃ w5,w4.drewN nq=w5:=⟨_,rfl⟩
  have W:Below w.heap.size w w5:=by
   rw [← F]
   exact Go.below_drewN k nq
  have d:Blk w5 B.heap.size #[.int .i64 10,.int .i64 5,.int .i64 16] 170:=by
   rw [← F]
   exact q
  have h:Blk w5 o.heap.size #[.int .i64 52,.int .i64 11,.int .i64 64] 170:=by
   rw [← F]
   exact n
  rw [F]
  clear F k q n N O Q e0 e1 e2
  have N:=d.cell 0
  have O:=d.cell 1
  have Q:=d.cell 2
  have e0:=h.cell 0
  have e1:=h.cell 1
  have e2:=h.cell 2
  go_wp2_with fail
  go_quiet ((go_at_call 127; exact Calls.quiet_of_same (zdW _)))
  obtain ⟨w6,G⟩:∃ w6,w5.drewN nq=w6:=⟨_,rfl⟩
  have A:Below w.heap.size w w6:=by
   rw [← G]
   exact Go.below_drewN W nq
  have t:Blk w6 B.heap.size #[.int .i64 10,.int .i64 5,.int .i64 16] 170:=by
   rw [← G]
   exact d
  have v:Blk w6 o.heap.size #[.int .i64 52,.int .i64 11,.int .i64 64] 170:=by
   rw [← G]
   exact h
  rw [G]
  clear G W d h N O Q e0 e1 e2
  have N:=t.cell 0
  have O:=t.cell 1
  have Q:=t.cell 2
  have e0:=v.cell 0
  have e1:=v.cell 1
  have e2:=v.cell 2
  obtain rfl:s*9223372036854775808+(1 - (up:Int) - 15+1023)*4503599627370496+M*4398046511104=r:=E
  have BF:=Lib.hid (show ∀ w,Calls Tryz.prog 129 #[.agg #[.int .i64 10,.int .i64 5,.int .i64 16]] w fun e w'=>e=.returned (.int .i64 15)∧Below w.heap.size w w' from zdD)
  have BT:=Lib.hid (show ∀ w,Calls Tryz.prog 129 #[.agg #[.int .i64 52,.int .i64 11,.int .i64 64]] w fun e w'=>e=.returned (.int .i64 1023)∧Below w.heap.size w w' from wF)
  have C:=Lib.hid (show ∀ w,Calls Tryz.prog 128 #[.agg #[.int .i64 52,.int .i64 11,.int .i64 64],.int .u64 s,.int .i64 (1 - (up:Int) - 15+1023),.int .u64 (M*4398046511104)] w fun e w'=>e=.returned (.int .u64 (s*9223372036854775808+(1 - (up:Int) - 15+1023)*4503599627370496+M*4398046511104))∧Below w.heap.size w w' from fun w=>kM s (1 - (up:Int) - 15+1023) (M*4398046511104) ⟨I,J⟩ (by omega) (by omega) w)
  have q1:IntKind.i64.wrap (1 - (up:Int) - 15)=1 - (up:Int) - 15:=IntWalk.i64_in _ (by omega)
  have q2:IntKind.i64.wrap (1 - (up:Int) - 15+1023)=1 - (up:Int) - 15+1023:=IntWalk.i64_in _ (by omega)
  have q3:IntKind.u64.wrap (M*4398046511104)=M*4398046511104:=by rw [IntKind.wrap_u64]; omega
  clear hP y5 y6 y7 hM aj a0
  go_wp2_with fail
  go_region_held3 (fun w'=>w'.cell? ⟨o.heap.size,0,none⟩=some (.int .i64 52)∧w'.cell? ⟨o.heap.size,1,none⟩=some (.int .i64 11)∧w'.cell? ⟨o.heap.size,2,none⟩=some (.int .i64 64)∧w'.cell? ⟨B.heap.size,0,none⟩=some (.int .i64 10)∧w'.cell? ⟨B.heap.size,1,none⟩=some (.int .i64 5)∧w'.cell? ⟨B.heap.size,2,none⟩=some (.int .i64 16)) (go_keep)
   (first | (go_at_call 129; (with_reducible refine (BF.out _).mono ?_); rintro e w7 ⟨rfl,j⟩; have y:=(Blk.drew v).below j (Blk.drew v).lt; have u:=(Blk.drew t).below j (Blk.drew t).lt; have aE:=y.cell 0; have aF:=y.cell 1; have aG:=y.cell 2; have aH:=u.cell 0; have aI:=u.cell 1; have aJ:=u.cell 2) | (go_at_call 129; (with_reducible refine (BT.out _).mono ?_); rintro e w8 ⟨rfl,c⟩; have i:=y.below c y.lt; have g:=u.below c u.lt; have aK:=i.cell 0; have aL:=i.cell 1; have aM:=i.cell 2; have aN:=g.cell 0; have aO:=g.cell 1; have aP:=g.cell 2) | (go_at_call 128; (with_reducible refine (C.out _).mono ?_); rintro e w9 ⟨rfl,a⟩; have m:=i.below a i.lt; have l:=g.below a g.lt; have aQ:=m.cell 0; have aR:=m.cell 1; have aS:=m.cell 2; have aT:=l.cell 0; have aU:=l.cell 1; have aV:=l.cell 2))
  clear q1 q2 q3
  have p:=((((Go.below_drewN A 1).trans (j.mono (Go.below_drewN A 1).size)).trans (c.mono ((Go.below_drewN A 1).trans (j.mono (Go.below_drewN A 1).size)).size)))
  have H:=p.trans (a.mono p.size)
  clear j c a p
  go_wp2_with fail
  go_ret2
  exact ⟨rfl,H⟩
 ·obtain rfl:s*9223372036854775808+(x - 15+1023)*4503599627370496+f*4398046511104=r:=by
   have:=D.out
   rw [if_neg hA,if_neg R,if_neg hC]at this
   exact this
  have bp:(x == 0)=false:=by rw [beq_eq_false_iff_ne]; exact hC
  have BF:=Lib.hid (show ∀ w,Calls Tryz.prog 129 #[.agg #[.int .i64 10,.int .i64 5,.int .i64 16]] w fun e w'=>e=.returned (.int .i64 15)∧Below w.heap.size w w' from zdD)
  have BT:=Lib.hid (show ∀ w,Calls Tryz.prog 129 #[.agg #[.int .i64 52,.int .i64 11,.int .i64 64]] w fun e w'=>e=.returned (.int .i64 1023)∧Below w.heap.size w w' from wF)
  have C:=Lib.hid (show ∀ w,Calls Tryz.prog 128 #[.agg #[.int .i64 52,.int .i64 11,.int .i64 64],.int .u64 s,.int .i64 (x - 15+1023),.int .u64 (f*4398046511104)] w fun e w'=>e=.returned (.int .u64 (s*9223372036854775808+(x - 15+1023)*4503599627370496+f*4398046511104))∧Below w.heap.size w w' from fun w=>kM s (x - 15+1023) (f*4398046511104) ⟨I,J⟩ (by omega) (by omega) w)
  have q1:IntKind.i64.wrap (x - 15)=x - 15:=IntWalk.i64_in _ (by omega)
  have q2:IntKind.i64.wrap (x - 15+1023)=x - 15+1023:=IntWalk.i64_in _ (by omega)
  have q3:IntKind.u64.wrap (f*4398046511104)=f*4398046511104:=by rw [IntKind.wrap_u64]; omega
  clear D
  go_wp2_with fail
  go_region_held3 (fun w'=>w'.cell? ⟨o.heap.size,0,none⟩=some (.int .i64 52)∧w'.cell? ⟨o.heap.size,1,none⟩=some (.int .i64 11)∧w'.cell? ⟨o.heap.size,2,none⟩=some (.int .i64 64)∧w'.cell? ⟨B.heap.size,0,none⟩=some (.int .i64 10)∧w'.cell? ⟨B.heap.size,1,none⟩=some (.int .i64 5)∧w'.cell? ⟨B.heap.size,2,none⟩=some (.int .i64 16)) (go_keep)
   (first | (go_at_call 129; (with_reducible refine (BF.out _).mono ?_); rintro e w5 ⟨rfl,j⟩; have h:=(Blk.drew n).below j (Blk.drew n).lt; have d:=(Blk.drew q).below j (Blk.drew q).lt; have aE:=h.cell 0; have aF:=h.cell 1; have aG:=h.cell 2; have aH:=d.cell 0; have aI:=d.cell 1; have aJ:=d.cell 2) | (go_at_call 129; (with_reducible refine (BT.out _).mono ?_); rintro e w6 ⟨rfl,c⟩; have i:=h.below c h.lt; have g:=d.below c d.lt; have aK:=i.cell 0; have aL:=i.cell 1; have aM:=i.cell 2; have aN:=g.cell 0; have aO:=g.cell 1; have aP:=g.cell 2) | (go_at_call 128; (with_reducible refine (C.out _).mono ?_); rintro e w7 ⟨rfl,a⟩; have m:=i.below a i.lt; have l:=g.below a g.lt; have aQ:=m.cell 0; have aR:=m.cell 1; have aS:=m.cell 2; have aT:=l.cell 0; have aU:=l.cell 1; have aV:=l.cell 2))
  clear q1 q2 q3
  have p:=((((Go.below_drewN k 1).trans (j.mono (Go.below_drewN k 1).size)).trans (c.mono ((Go.below_drewN k 1).trans (j.mono (Go.below_drewN k 1).size)).size)))
  have H:=p.trans (a.mono p.size)
  clear j c a p
  go_wp2_with fail
  go_ret2
  exact ⟨rfl,H⟩
theorem zhj (b:Int) (i:0≤b) (j:b<18446744073709551616) (h:¬ b<4294967296) (w:World) :
  Calls Tryz.prog 87 #[.int .u64 b,.int .i64 32] w fun e w'=>e=.returned (.tuple #[.int .u64 0,.int .i64 2])∧Below w.heap.size w w':=by
 have g:=Lib.hid (show ∀ w,Calls Tryz.prog 123 #[.int .i64 32] w fun e w'=>e=.returned (.tuple #[fmV (23,8,32),.bool true])∧Below w.heap.size w w' from kB 32)
 have f:=Lib.hid (fun w=>Tryz.bits_Len64 b w i (by omega))
 obtain ⟨bl,d⟩:∃ bl:Nat,Lib.bitLen b.toNat=bl:=⟨_,rfl⟩
 have c:32<bl:=by
  have:=jQ 32 b.toNat (by omega)
  omega
 rw [d]at f
 have m:(32:Int)<bl:=by omega
 clear d h
 go_enter Tryz.func87,Tryz.ntmps87
 go_wp2_with fail
 refine (g.out _).mono ?_
 rintro e k ⟨rfl,a⟩
 have c:=a.alloc a.size (.cells #[.int .i64 23,.int .i64 8,.int .i64 32] 170)
 clear g a
 go_wp2_with fail
 refine (f.out _).mono ?_
 rintro e l ⟨rfl,rfl⟩
 clear f
 go_wp2_with fail
 go_ret2
 exact ⟨rfl,c⟩
theorem zgL (b:Int) (h0:0≤b) (a3:b<4294967296) (w:World) :
  Calls Tryz.prog 87 #[.int .u64 b,.int .i64 32] w fun e w'=>e=.returned (.tuple #[.int .u64 (j6 23 8 b),.int .i64 0])∧Below w.heap.size w w':=by
 have HO:=Lib.hid (show ∀ w,Calls Tryz.prog 123 #[.int .i64 32] w fun e w'=>e=.returned (.tuple #[fmV (23,8,32),.bool true])∧Below w.heap.size w w' from kB 32)
 have HL:=Lib.hid (fun w=>Tryz.bits_Len64 b w h0 (by omega))
 have HP:=Lib.hid (fun w=>zlH b h0 (by omega) w)
 have HW:=Lib.hid kQ
 obtain ⟨bl,al⟩:∃ bl:Nat,Lib.bitLen b.toNat=bl:=⟨_,rfl⟩
 have K:bl≤32:=by
  have:=jQ 32 b.toNat (by omega)
  omega
 rw [al]at HL
 have z1:¬ (32:Int)<bl:=by omega
 obtain ⟨r,hr⟩:∃ r,j6 23 8 b=r:=⟨_,rfl⟩
 rw [hr]
 unfold j6 at hr
 obtain ⟨s,hs⟩:∃ s,b / 2147483648 % 2=s:=⟨_,rfl⟩
 obtain ⟨x,hx⟩:∃ x,b / 8388608 % 256=x:=⟨_,rfl⟩
 obtain ⟨f,hf⟩:∃ f,b % 8388608=f:=⟨_,rfl⟩
 have bs:0≤s∧s≤1:=by omega
 have bx:0≤x∧x≤255:=by omega
 have bf:0≤f∧f<8388608:=by omega
 rw [hs,hx,hf]at HP
 have ao:(if x=255 then s*9223372036854775808+2047*4503599627370496+f*536870912 else if x=0∧f=0 then s*9223372036854775808 else if x=0 then s*9223372036854775808+(1 - (23+1 - (Lib.bitLen f.toNat:Int)) - 127+1023)*4503599627370496+(f*2 ^ (23+1 - Lib.bitLen f.toNat)) % 8388608*536870912 else s*9223372036854775808+(x - 127+1023)*4503599627370496+f*536870912)=r:=by
  rw [← hr,← hs,← hx,← hf]
  rfl
 clear al a3 hs hx hf
 have D:=Lib.hid ao
 clear hr ao
 obtain ⟨I,J⟩:=bs
 obtain ⟨bm,bn⟩:=bx
 obtain ⟨S,bi⟩:=bf
 go_enter Tryz.func87,Tryz.ntmps87
 go_wp2_with fail
 refine (HO.out _).mono ?_
 rintro e B ⟨rfl,ak⟩
 have K:=ak.alloc ak.size (.cells #[.int .i64 23,.int .i64 8,.int .i64 32] 170)
 have Y:=Blk.new B #[.int .i64 23,.int .i64 8,.int .i64 32] 170
 clear HO
 go_wp2_with fail
 refine (HL.out _).mono ?_
 rintro e o ⟨rfl,rfl⟩
 clear HL
 go_wp2_with fail
 refine (HW.out _).mono ?_
 rintro e o ⟨rfl,T⟩
 have U:=K.trans (T.mono K.size)
 have an:=Y.below T Y.lt
 have V:=U.alloc U.size (.cells #[.int .i64 52,.int .i64 11,.int .i64 64] 170)
 have z:=an.alloc (.cells #[.int .i64 52,.int .i64 11,.int .i64 64] 170)
 have Z:=Blk.new o #[.int .i64 52,.int .i64 11,.int .i64 64] 170
 have N:=z.cell 0
 have O:=z.cell 1
 have Q:=z.cell 2
 clear HW T U an Y K
 go_wp2_with fail
 refine (HP.out _).mono ?_
 rintro e w3 ⟨rfl,L⟩
 have k:=V.trans (L.mono V.size)
 have q:=z.below L z.lt
 have n:=Z.below L Z.lt
 clear N O Q L V z Z HP
 have N:=q.cell 0
 have O:=q.cell 1
 have Q:=q.cell 2
 have e0:=n.cell 0
 have e1:=n.cell 1
 have e2:=n.cell 2
 go_wp2_with fail
 refine (zbw _).mono ?_
 rintro e w4 ⟨rfl,rfl⟩
 by_cases hA:x=255
 ·obtain rfl:s*9223372036854775808+2047*4503599627370496+f*536870912=r:=by
   have:=D.out
   rw [if_pos hA]at this
   exact this
  subst hA
  have C:=Lib.hid (show ∀ w,Calls Tryz.prog 128 #[.agg #[.int .i64 52,.int .i64 11,.int .i64 64],.int .u64 s,.int .i64 2047,.int .u64 (f*536870912)] w fun e w'=>e=.returned (.int .u64 (s*9223372036854775808+2047*4503599627370496+f*536870912))∧Below w.heap.size w w' from fun w=>kM s 2047 (f*536870912) ⟨I,J⟩ (by omega) (by omega) w)
  clear D
  have q1:IntKind.i64.wrap 2047=2047:=by rfl
  have q2:IntKind.u64.wrap (f*536870912)=f*536870912:=by rw [IntKind.wrap_u64]; omega
  go_wp2_with fail
  go_region_held3 (fun w'=>w'.cell? ⟨o.heap.size,0,none⟩=some (.int .i64 52)∧w'.cell? ⟨o.heap.size,1,none⟩=some (.int .i64 11)∧w'.cell? ⟨o.heap.size,2,none⟩=some (.int .i64 64)) (go_keep)
   (first | (go_at_call 127; (with_reducible refine (zab _).mono ?_); rintro e w5 ⟨rfl,rfl⟩) | (go_at_call 128; (with_reducible refine (C.out _).mono ?_); rintro e w5 ⟨rfl,c⟩; have aa:=(Blk.drew n).below c (Blk.drew n).lt; have g0:=aa.cell 0; have g1:=aa.cell 1; have g2:=aa.cell 2))
  clear q1 q2
  go_wp2_with fail
  go_ret2
  exact ⟨rfl,(Go.below_drewN k 1).trans (c.mono k.size)⟩
 have bo:(x == 255)=false:=by rw [beq_eq_false_iff_ne]; exact hA
 by_cases R:x=0∧f=0
 ·obtain rfl:s*9223372036854775808=r:=by
   have:=D.out
   rw [if_neg hA,if_pos R]at this
   exact this
  obtain ⟨a5,am⟩:=R
  subst a5
  subst am
  have C:=Lib.hid (show ∀ w,Calls Tryz.prog 128 #[.agg #[.int .i64 52,.int .i64 11,.int .i64 64],.int .u64 s,.int .i64 0,.int .u64 0] w fun e w'=>e=.returned (.int .u64 (s*9223372036854775808))∧Below w.heap.size w w' from fun w=>by
   have:=kM s 0 0 ⟨I,J⟩ (by omega) (by omega) w
   rw [show s*9223372036854775808+0*4503599627370496+0=s*9223372036854775808 by omega]at this
   exact this)
  clear D
  go_wp2_with fail
  refine (C.out _).mono ?_
  rintro e w5 ⟨rfl,c⟩
  have a:=k.trans (c.mono k.size)
  clear c C
  go_wp2_with fail
  go_ret2
  exact ⟨rfl,a⟩
 by_cases hC:x=0
 ·have a2:f≠0:=fun e=>R ⟨hC,e⟩
  subst hC
  obtain ⟨fl,X⟩:∃ fl:Nat,Lib.bitLen f.toNat=fl:=⟨_,rfl⟩
  have ba:fl≤23:=by
   have:=jQ 23 f.toNat (by omega)
   omega
  have bb:1≤fl:=by
   have:=jQ 0 f.toNat (by omega)
   omega
  have HF:=Lib.hid (fun w=>Tryz.bits_Len64 f w S (by omega))
  rw [X]at HF
  have E:=D.out
  rw [if_neg hA,if_neg R,if_pos rfl,X]at E
  clear D X hA R
  obtain ⟨up,a4⟩:∃ up:Nat,23+1 - fl=up:=⟨_,rfl⟩
  have ab:(23:Int)+1 - (fl:Int)=up:=by omega
  have ax:1≤up∧up≤23:=by omega
  rw [a4,ab]at E
  have am:(f == 0)=false:=by rw [beq_eq_false_iff_ne]; exact a2
  have bj:(fl:Int)≤23:=by omega
  have bk:(1:Int)≤fl:=by omega
  have q0:IntKind.i64.wrap (24 - (fl:Int))=(up:Int):=by rw [IntWalk.i64_in _ (by omega)]; omega
  have y1:(1:Int)≤up:=by omega
  have y2:(up:Int)≤23:=by omega
  have y3:¬ ((up:Int)<0):=by omega
  have y4:min up 64=up:=by omega
  clear ab
  obtain ⟨P,hP⟩:∃ P:Int,f*2 ^ up=P:=⟨_,rfl⟩
  have a1:0≤P∧P<70368744177664:=by
   have h2:(2:Int) ^ up≤2 ^ 23:=by
    have:=Nat.pow_le_pow_right (show 0<2 by decide) ax.2
    exact_mod_cast this
   have h3:(0:Int)<2 ^ up:=Int.pow_pos (by decide)
   have h4:(2:Int) ^ 23=8388608:=by decide
   rw [h4]at h2
   rw [← hP]
   refine ⟨Int.mul_nonneg S (by omega),?_⟩
   calc f*2 ^ up≤f*8388608:=Int.mul_le_mul_of_nonneg_left h2 S
    _<8388608*8388608:=by omega
    _=70368744177664:=by decide
  obtain ⟨aj,a0⟩:=a1
  rw [hP]at E
  have y5:IntKind.u64.wrap P=P:=by rw [IntKind.wrap_u64]; omega
  have y6:=jF 23 (by decide) P aj (by omega)
  rw [show ((2:Int) ^ 23 - 1)=8388607 by decide,show ((2:Int) ^ 23)=8388608 by decide]at y6
  have y7:IntKind.i64.wrap (1 - (up:Int))=1 - (up:Int):=IntWalk.i64_in _ (by omega)
  obtain ⟨M,hM⟩:∃ M,P % 8388608=M:=⟨_,rfl⟩
  have aZ:0≤M∧M<8388608:=by omega
  obtain ⟨bq,br⟩:=aZ
  rw [hM]at y6 E
  go_wp2_with fail
  go_quiet ((go_at_call 124; exact Calls.quiet_of_same (HF.out _)))
  clear q0
  obtain ⟨w5,F⟩:∃ w5,w4.drewN nq=w5:=⟨_,rfl⟩
  have W:Below w.heap.size w w5:=by
   rw [← F]
   exact Go.below_drewN k nq
  have d:Blk w5 B.heap.size #[.int .i64 23,.int .i64 8,.int .i64 32] 170:=by
   rw [← F]
   exact q
  have h:Blk w5 o.heap.size #[.int .i64 52,.int .i64 11,.int .i64 64] 170:=by
   rw [← F]
   exact n
  rw [F]
  clear F k q n N O Q e0 e1 e2
  have N:=d.cell 0
  have O:=d.cell 1
  have Q:=d.cell 2
  have e0:=h.cell 0
  have e1:=h.cell 1
  have e2:=h.cell 2
  go_wp2_with fail
  go_quiet ((go_at_call 127; exact Calls.quiet_of_same (zhL _)))
  obtain ⟨w6,G⟩:∃ w6,w5.drewN nq=w6:=⟨_,rfl⟩
  have A:Below w.heap.size w w6:=by
   rw [← G]
   exact Go.below_drewN W nq
  have t:Blk w6 B.heap.size #[.int .i64 23,.int .i64 8,.int .i64 32] 170:=by
   rw [← G]
   exact d
  have v:Blk w6 o.heap.size #[.int .i64 52,.int .i64 11,.int .i64 64] 170:=by
   rw [← G]
   exact h
  rw [G]
  clear G W d h N O Q e0 e1 e2
  have N:=t.cell 0
  have O:=t.cell 1
  have Q:=t.cell 2
  have e0:=v.cell 0
  have e1:=v.cell 1
  have e2:=v.cell 2
  obtain rfl:s*9223372036854775808+(1 - (up:Int) - 127+1023)*4503599627370496+M*536870912=r:=E
  have BF:=Lib.hid (show ∀ w,Calls Tryz.prog 129 #[.agg #[.int .i64 23,.int .i64 8,.int .i64 32]] w fun e w'=>e=.returned (.int .i64 127)∧Below w.heap.size w w' from zdE)
  have BT:=Lib.hid (show ∀ w,Calls Tryz.prog 129 #[.agg #[.int .i64 52,.int .i64 11,.int .i64 64]] w fun e w'=>e=.returned (.int .i64 1023)∧Below w.heap.size w w' from wF)
  have C:=Lib.hid (show ∀ w,Calls Tryz.prog 128 #[.agg #[.int .i64 52,.int .i64 11,.int .i64 64],.int .u64 s,.int .i64 (1 - (up:Int) - 127+1023),.int .u64 (M*536870912)] w fun e w'=>e=.returned (.int .u64 (s*9223372036854775808+(1 - (up:Int) - 127+1023)*4503599627370496+M*536870912))∧Below w.heap.size w w' from fun w=>kM s (1 - (up:Int) - 127+1023) (M*536870912) ⟨I,J⟩ (by omega) (by omega) w)
  have q1:IntKind.i64.wrap (1 - (up:Int) - 127)=1 - (up:Int) - 127:=IntWalk.i64_in _ (by omega)
  have q2:IntKind.i64.wrap (1 - (up:Int) - 127+1023)=1 - (up:Int) - 127+1023:=IntWalk.i64_in _ (by omega)
  have q3:IntKind.u64.wrap (M*536870912)=M*536870912:=by rw [IntKind.wrap_u64]; omega
  clear hP y5 y6 y7 hM aj a0
  go_wp2_with fail
  go_region_held3 (fun w'=>w'.cell? ⟨o.heap.size,0,none⟩=some (.int .i64 52)∧w'.cell? ⟨o.heap.size,1,none⟩=some (.int .i64 11)∧w'.cell? ⟨o.heap.size,2,none⟩=some (.int .i64 64)∧w'.cell? ⟨B.heap.size,0,none⟩=some (.int .i64 23)∧w'.cell? ⟨B.heap.size,1,none⟩=some (.int .i64 8)∧w'.cell? ⟨B.heap.size,2,none⟩=some (.int .i64 32)) (go_keep)
   (first | (go_at_call 129; (with_reducible refine (BF.out _).mono ?_); rintro e w7 ⟨rfl,j⟩; have y:=(Blk.drew v).below j (Blk.drew v).lt; have u:=(Blk.drew t).below j (Blk.drew t).lt; have aE:=y.cell 0; have aF:=y.cell 1; have aG:=y.cell 2; have aH:=u.cell 0; have aI:=u.cell 1; have aJ:=u.cell 2) | (go_at_call 129; (with_reducible refine (BT.out _).mono ?_); rintro e w8 ⟨rfl,c⟩; have i:=y.below c y.lt; have g:=u.below c u.lt; have aK:=i.cell 0; have aL:=i.cell 1; have aM:=i.cell 2; have aN:=g.cell 0; have aO:=g.cell 1; have aP:=g.cell 2) | (go_at_call 128; (with_reducible refine (C.out _).mono ?_); rintro e w9 ⟨rfl,a⟩; have m:=i.below a i.lt; have l:=g.below a g.lt; have aQ:=m.cell 0; have aR:=m.cell 1; have aS:=m.cell 2; have aT:=l.cell 0; have aU:=l.cell 1; have aV:=l.cell 2))
  clear q1 q2 q3
  have p:=((((Go.below_drewN A 1).trans (j.mono (Go.below_drewN A 1).size)).trans (c.mono ((Go.below_drewN A 1).trans (j.mono (Go.below_drewN A 1).size)).size)))
  have H:=p.trans (a.mono p.size)
  clear j c a p
  go_wp2_with fail
  go_ret2
  exact ⟨rfl,H⟩
 ·obtain rfl:s*9223372036854775808+(x - 127+1023)*4503599627370496+f*536870912=r:=by
   have:=D.out
   rw [if_neg hA,if_neg R,if_neg hC]at this
   exact this
  have bp:(x == 0)=false:=by rw [beq_eq_false_iff_ne]; exact hC
  have BF:=Lib.hid (show ∀ w,Calls Tryz.prog 129 #[.agg #[.int .i64 23,.int .i64 8,.int .i64 32]] w fun e w'=>e=.returned (.int .i64 127)∧Below w.heap.size w w' from zdE)
  have BT:=Lib.hid (show ∀ w,Calls Tryz.prog 129 #[.agg #[.int .i64 52,.int .i64 11,.int .i64 64]] w fun e w'=>e=.returned (.int .i64 1023)∧Below w.heap.size w w' from wF)
  have C:=Lib.hid (show ∀ w,Calls Tryz.prog 128 #[.agg #[.int .i64 52,.int .i64 11,.int .i64 64],.int .u64 s,.int .i64 (x - 127+1023),.int .u64 (f*536870912)] w fun e w'=>e=.returned (.int .u64 (s*9223372036854775808+(x - 127+1023)*4503599627370496+f*536870912))∧Below w.heap.size w w' from fun w=>kM s (x - 127+1023) (f*536870912) ⟨I,J⟩ (by omega) (by omega) w)
  have q1:IntKind.i64.wrap (x - 127)=x - 127:=IntWalk.i64_in _ (by omega)
  have q2:IntKind.i64.wrap (x - 127+1023)=x - 127+1023:=IntWalk.i64_in _ (by omega)
  have q3:IntKind.u64.wrap (f*536870912)=f*536870912:=by rw [IntKind.wrap_u64]; omega
  clear D
  go_wp2_with fail
  go_region_held3 (fun w'=>w'.cell? ⟨o.heap.size,0,none⟩=some (.int .i64 52)∧w'.cell? ⟨o.heap.size,1,none⟩=some (.int .i64 11)∧w'.cell? ⟨o.heap.size,2,none⟩=some (.int .i64 64)∧w'.cell? ⟨B.heap.size,0,none⟩=some (.int .i64 23)∧w'.cell? ⟨B.heap.size,1,none⟩=some (.int .i64 8)∧w'.cell? ⟨B.heap.size,2,none⟩=some (.int .i64 32)) (go_keep)
   (first | (go_at_call 129; (with_reducible refine (BF.out _).mono ?_); rintro e w5 ⟨rfl,j⟩; have h:=(Blk.drew n).below j (Blk.drew n).lt; have d:=(Blk.drew q).below j (Blk.drew q).lt; have aE:=h.cell 0; have aF:=h.cell 1; have aG:=h.cell 2; have aH:=d.cell 0; have aI:=d.cell 1; have aJ:=d.cell 2) | (go_at_call 129; (with_reducible refine (BT.out _).mono ?_); rintro e w6 ⟨rfl,c⟩; have i:=h.below c h.lt; have g:=d.below c d.lt; have aK:=i.cell 0; have aL:=i.cell 1; have aM:=i.cell 2; have aN:=g.cell 0; have aO:=g.cell 1; have aP:=g.cell 2) | (go_at_call 128; (with_reducible refine (C.out _).mono ?_); rintro e w7 ⟨rfl,a⟩; have m:=i.below a i.lt; have l:=g.below a g.lt; have aQ:=m.cell 0; have aR:=m.cell 1; have aS:=m.cell 2; have aT:=l.cell 0; have aU:=l.cell 1; have aV:=l.cell 2))
  clear q1 q2 q3
  have p:=((((Go.below_drewN k 1).trans (j.mono (Go.below_drewN k 1).size)).trans (c.mono ((Go.below_drewN k 1).trans (j.mono (Go.below_drewN k 1).size)).size)))
  have H:=p.trans (a.mono p.size)
  clear j c a p
  go_wp2_with fail
  go_ret2
  exact ⟨rfl,H⟩
theorem zl6 (b:Int) (A:0≤b) (K:b<18446744073709551616) (w:World) :
  Calls Tryz.prog 87 #[.int .u64 b,.int .i64 64] w fun e w'=>e=.returned (.tuple #[.int .u64 b,.int .i64 0])∧Below w.heap.size w w':=by
 have t:=Lib.hid (show ∀ w,Calls Tryz.prog 123 #[.int .i64 64] w fun e w'=>e=.returned (.tuple #[fmV (52,11,64),.bool true])∧Below w.heap.size w w' from kB 64)
 have q:=Lib.hid (fun w=>Tryz.bits_Len64 b w A (by omega))
 have r:=Lib.hid (fun w=>zcw b A (by omega) w)
 have u:=Lib.hid kQ
 obtain ⟨bl,o⟩:∃ bl:Nat,Lib.bitLen b.toNat=bl:=⟨_,rfl⟩
 have c:bl≤64:=by
  have:=jQ 64 b.toNat (by omega)
  omega
 rw [o]at q
 have M:¬ (64:Int)<bl:=by omega
 obtain ⟨s,D⟩:∃ s,b / 9223372036854775808 % 2=s:=⟨_,rfl⟩
 obtain ⟨x,E⟩:∃ x,b / 4503599627370496 % 2048=x:=⟨_,rfl⟩
 obtain ⟨f,C⟩:∃ f,b % 4503599627370496=f:=⟨_,rfl⟩
 rw [D,E,C]at r
 clear o D E C
 go_enter Tryz.func87,Tryz.ntmps87
 go_wp2_with fail
 refine (t.out _).mono ?_
 rintro e G ⟨rfl,n⟩
 have c:=n.alloc n.size (.cells #[.int .i64 52,.int .i64 11,.int .i64 64] 170)
 have j:=Blk.new G #[.int .i64 52,.int .i64 11,.int .i64 64] 170
 clear t
 go_wp2_with fail
 refine (q.out _).mono ?_
 rintro e F ⟨rfl,rfl⟩
 clear q
 go_wp2_with fail
 refine (u.out _).mono ?_
 rintro e F ⟨rfl,g⟩
 have h:=c.trans (g.mono c.size)
 have p:=j.below g j.lt
 have i:=h.alloc h.size (.cells #[.int .i64 52,.int .i64 11,.int .i64 64] 170)
 have a:=p.alloc (.cells #[.int .i64 52,.int .i64 11,.int .i64 64] 170)
 have k:=Blk.new F #[.int .i64 52,.int .i64 11,.int .i64 64] 170
 have v:=a.cell 0
 have y:=a.cell 1
 have z:=a.cell 2
 clear u g h p j c
 go_wp2_with fail
 refine (r.out _).mono ?_
 rintro e L ⟨rfl,d⟩
 have B:=i.trans (d.mono i.size)
 have l:=a.below d a.lt
 have m:=k.below d k.lt
 clear v y z d i a k r
 have v:=l.cell 0
 have y:=l.cell 1
 have z:=l.cell 2
 have H:=m.cell 0
 have I:=m.cell 1
 have J:=m.cell 2
 go_wp2_with fail
 go_ret2
 exact ⟨rfl,B⟩
theorem zhm (b wd:Int) (g:¬ wd=16) (h:¬ wd=32) (i:¬ wd=64) (w:World) :
  Calls Tryz.prog 87 #[.int .u64 b,.int .i64 wd] w fun e w'=>e=.returned (.tuple #[.int .u64 0,.int .i64 2])∧Below w.heap.size w w':=by
 have f:ofW wd=((0,0,0),false):=by
  unfold ofW
  rw [if_neg g,if_neg h,if_neg i]
 have a:=Lib.hid (kB wd)
 rw [f]at a
 have a:Hid (∀ w,Calls Tryz.prog 123 #[.int .i64 wd] w fun e w'=>e=.returned (.tuple #[.agg #[.int .i64 0,.int .i64 0,.int .i64 0],.bool false])∧Below w.heap.size w w'):=a
 clear f
 go_enter Tryz.func87,Tryz.ntmps87
 go_wp2_with fail
 refine (a.out _).mono ?_
 rintro e j ⟨rfl,c⟩
 have d:=c.alloc c.size (.cells #[.int .i64 0,.int .i64 0,.int .i64 0] 170)
 clear a c
 go_wp2_with fail
 go_ret2
 exact ⟨rfl,d⟩
theorem vO (b wd:Int) (c:0≤b) (h:b<18446744073709551616) (w:World) :
  Calls Tryz.prog 87 #[.int .u64 b,.int .i64 wd] w fun e w'=>e=.returned (.tuple #[.int .u64 (je b wd),.int .i64 (if j5 b wd=true then 0 else 2)])∧Below w.heap.size w w':=by
 unfold je j5
 by_cases g:wd=64
 ·subst g
  exact zl6 b c h w
 ·rw [if_neg g]
  by_cases d:wd=16
  ·subst d
   rw [if_pos rfl,if_pos rfl]
   by_cases a:b<65536
   ·rw [decide_eq_true a]
    exact zgK b c a w
   ·rw [decide_eq_false a]
    exact zhi b c h a w
  ·rw [if_neg d,if_neg d]
   by_cases f:wd=32
   ·subst f
    rw [if_pos rfl,if_pos rfl]
    by_cases a:b<4294967296
    ·rw [decide_eq_true a]
     exact zgL b c a w
    ·rw [decide_eq_false a]
     exact zhj b c h a w
   ·rw [if_neg f]
    exact zhm b wd d f g w
theorem zi2 (s:ByteArray) (c:s.size≤9223372036854775807) (w:World) (h:Lib.Utf8Tabs 3 4 w) :
  Calls Tryz.prog 121 #[.string s] w fun e w'=>e=.returned (.bool (Lib.validD s.data.toList))∧Below w.heap.size w w':=by
 have a:=Lib.hid (show Calls Tryz.prog 175 #[.string s] w fun e w'=>e=.returned (.bool (Lib.validD s.data.toList))∧Below w.heap.size w w' from Any.utf8_ValidString Tryz.lays196 s w c h)
 clear h
 go_enter Tryz.func121,Tryz.ntmps121
 go_wp2_with fail
 refine a.out.mono ?_
 rintro e d ⟨rfl,b⟩
 go_wp2_with fail
 go_ret
 exact ⟨rfl,b⟩
end Go.Proofs.YtonihophanmaaaaGreatDoor
