/- The texts FloC, put together. -/
import Derived.Test.YtonihophanmaaaaGreatDoorPa12
import Derived.Test.YtonihophanmaaaaGreatDoorPa03
import Derived.Deep.RegionHeld3
namespace Go.Proofs.YtonihophanmaaaaGreatDoor
open Go.RowKit Go.Shelf
theorem or_add (i a b:Nat) (hb:b<2 ^ i) (h:2 ^ i*a+b<18446744073709551616):bits .or .u64 ((2 ^ i*a:Nat):Int) (b:Int)=((2 ^ i*a+b:Nat):Int):=by
 rw [bits_or_u64_nat _ _ (by omega) (by omega),Nat.two_pow_add_eq_or_of_lt hb]
theorem or_parts (s x f:Int) (hs:0≤s∧s≤1) (hx:0≤x∧x≤2047) (hf:0≤f∧f≤4503599627370495) :
  bits .or .u64 (bits .or .u64 (s*9223372036854775808) (x*4503599627370496)) f=s*9223372036854775808+x*4503599627370496+f:=by
 obtain ⟨s,rfl⟩:=Int.eq_ofNat_of_zero_le hs.1
 obtain ⟨x,rfl⟩:=Int.eq_ofNat_of_zero_le hx.1
 obtain ⟨f,rfl⟩:=Int.eq_ofNat_of_zero_le hf.1
 have h1:=or_add 63 s (x*4503599627370496) (by omega) (by omega)
 rw [show ((s:Int)*9223372036854775808)=((2 ^ 63*s:Nat):Int) by omega,show ((x:Int)*4503599627370496)=((x*4503599627370496:Nat):Int) by omega,h1]
 have h2:=or_add 52 (2048*s+x) f (by omega) (by omega)
 rw [show (2 ^ 63*s+x*4503599627370496:Nat)=2 ^ 52*(2048*s+x) by omega,h2]
 omega
set_option maxHeartbeats 2000000 in
set_option maxRecDepth 100000 in
theorem joined_64 (s x f:Int) (hs:0≤s∧s≤1) (hx:0≤x∧x≤2047) (hf:0≤f∧f≤4503599627370495) (w:World) :
  Calls Tryz.prog 128 #[fmV (52,11,64),.int .u64 s,.int .i64 x,.int .u64 f] w fun e w'=>e=.returned (.int .u64 (s*9223372036854775808+x*4503599627370496+f))∧Below w.heap.size w w':=by
 have hbx:=(Below.refl w.heap.size w).alloc (Nat.le_refl _) (.cells #[.int .i64 52,.int .i64 11,.int .i64 64] 170)
 have HO:=Lib.hid (or_parts s x f hs hx hf)
 go_enter Tryz.func128,Tryz.ntmps128
 go_wp2_with fail
 go_region
 go_wp2_with fail
 go_ret
 exact ⟨congrArg (fun v=>Ending.returned (.int .u64 v)) HO.out,below_drewN hbx 1⟩
def widenP (p k:Nat) (b:Int):Int:=
 let s:=b / 2 ^ (p+k) % 2
 let x:=b / 2 ^ p % 2 ^ k
 let f:=b % 2 ^ p
 if x=2 ^ k - 1 then s*9223372036854775808+2047*4503599627370496+f*2 ^ (52 - p)
 else if x=0∧f=0 then s*9223372036854775808
 else if x=0 then s*9223372036854775808+(1 - ((p:Int)+1 - Lib.bitLen f.toNat) - (2 ^ (k - 1) - 1)+1023)*4503599627370496+(f*2 ^ (p+1 - Lib.bitLen f.toNat)) % 2 ^ p*2 ^ (52 - p)
 else s*9223372036854775808+(x - (2 ^ (k - 1) - 1)+1023)*4503599627370496+f*2 ^ (52 - p)
def widenV (b wd:Int):Int:=if wideOk b wd=true then (if wd=16 then widenP 10 5 b else if wd=32 then widenP 23 8 b else b) else 0
set_option maxHeartbeats 8000000 in
set_option maxRecDepth 100000 in
theorem widen_16_no (b:Int) (h0:0≤b) (hb:b<18446744073709551616) (hlt:¬ b<65536) (w:World) :
  Calls Tryz.prog 87 #[.int .u64 b,.int .i64 16] w fun e w'=>e=.returned (.tuple #[.int .u64 0,.int .i64 2])∧Below w.heap.size w w':=by
 have HO:=Lib.hid (show ∀ w,Calls Tryz.prog 123 #[.int .i64 16] w fun e w'=>e=.returned (.tuple #[fmV (10,5,16),.bool true])∧Below w.heap.size w w' from float_of 16)
 have HL:=Lib.hid (fun w=>Tryz.bits_Len64 b w h0 (by omega))
 obtain ⟨bl,hbl⟩:∃ bl:Nat,Lib.bitLen b.toNat=bl:=⟨_,rfl⟩
 have hb2:16<bl:=by
  have:=bitLen_iff 16 b.toNat (by omega)
  omega
 rw [hbl]at HL
 have z1:(16:Int)<bl:=by omega
 clear hbl hlt
 go_enter Tryz.func87,Tryz.ntmps87
 go_wp2_with fail
 refine (HO.out _).mono ?_
 rintro e w1 ⟨rfl,hb1⟩
 have hb2:=hb1.alloc hb1.size (.cells #[.int .i64 10,.int .i64 5,.int .i64 16] 170)
 clear HO hb1
 go_wp2_with fail
 refine (HL.out _).mono ?_
 rintro e w2 ⟨rfl,rfl⟩
 clear HL
 go_wp2_with fail
 go_ret2
 exact ⟨rfl,hb2⟩
set_option maxHeartbeats 8000000 in
set_option maxRecDepth 100000 in
theorem widen_16_yes (b:Int) (h0:0≤b) (hlt:b<65536) (w:World) :
  Calls Tryz.prog 87 #[.int .u64 b,.int .i64 16] w fun e w'=>e=.returned (.tuple #[.int .u64 (widenP 10 5 b),.int .i64 0])∧Below w.heap.size w w':=by
 have HO:=Lib.hid (show ∀ w,Calls Tryz.prog 123 #[.int .i64 16] w fun e w'=>e=.returned (.tuple #[fmV (10,5,16),.bool true])∧Below w.heap.size w w' from float_of 16)
 have HL:=Lib.hid (fun w=>Tryz.bits_Len64 b w h0 (by omega))
 have HP:=Lib.hid (fun w=>parts_16 b h0 (by omega) w)
 have HW:=Lib.hid float_wide
 obtain ⟨bl,hbl⟩:∃ bl:Nat,Lib.bitLen b.toNat=bl:=⟨_,rfl⟩
 have hb2:bl≤16:=by
  have:=bitLen_iff 16 b.toNat (by omega)
  omega
 rw [hbl]at HL
 have z1:¬ (16:Int)<bl:=by omega
 obtain ⟨r,hr⟩:∃ r,widenP 10 5 b=r:=⟨_,rfl⟩
 rw [hr]
 unfold widenP at hr
 obtain ⟨s,hs⟩:∃ s,b / 32768 % 2=s:=⟨_,rfl⟩
 obtain ⟨x,hx⟩:∃ x,b / 1024 % 32=x:=⟨_,rfl⟩
 obtain ⟨f,hf⟩:∃ f,b % 1024=f:=⟨_,rfl⟩
 have bs:0≤s∧s≤1:=by omega
 have bx:0≤x∧x≤31:=by omega
 have bf:0≤f∧f<1024:=by omega
 rw [hs,hx,hf]at HP
 have hr2:(if x=31 then s*9223372036854775808+2047*4503599627370496+f*4398046511104 else if x=0∧f=0 then s*9223372036854775808 else if x=0 then s*9223372036854775808+(1 - (10+1 - (Lib.bitLen f.toNat:Int)) - 15+1023)*4503599627370496+(f*2 ^ (10+1 - Lib.bitLen f.toNat)) % 1024*4398046511104 else s*9223372036854775808+(x - 15+1023)*4503599627370496+f*4398046511104)=r:=by
  rw [← hr,← hs,← hx,← hf]
  rfl
 clear hbl hlt hs hx hf
 have HR:=Lib.hid hr2
 clear hr hr2
 obtain ⟨bs1,bs2⟩:=bs
 obtain ⟨bx1,bx2⟩:=bx
 obtain ⟨bf1,bf2⟩:=bf
 go_enter Tryz.func87,Tryz.ntmps87
 go_wp2_with fail
 refine (HO.out _).mono ?_
 rintro e w1 ⟨rfl,hb1⟩
 have hb2:=hb1.alloc hb1.size (.cells #[.int .i64 10,.int .i64 5,.int .i64 16] 170)
 have hk2:=Blk.new w1 #[.int .i64 10,.int .i64 5,.int .i64 16] 170
 clear HO
 go_wp2_with fail
 refine (HL.out _).mono ?_
 rintro e w2 ⟨rfl,rfl⟩
 clear HL
 go_wp2_with fail
 refine (HW.out _).mono ?_
 rintro e w2 ⟨rfl,hb3⟩
 have hb4:=hb2.trans (hb3.mono hb2.size)
 have hk4:=hk2.below hb3 hk2.lt
 have hb5:=hb4.alloc hb4.size (.cells #[.int .i64 52,.int .i64 11,.int .i64 64] 170)
 have hk5:=hk4.alloc (.cells #[.int .i64 52,.int .i64 11,.int .i64 64] 170)
 have hk6:=Blk.new w2 #[.int .i64 52,.int .i64 11,.int .i64 64] 170
 have d0:=hk5.cell 0
 have d1:=hk5.cell 1
 have d2:=hk5.cell 2
 clear HW hb3 hb4 hk4 hk2 hb2
 go_wp2_with fail
 refine (HP.out _).mono ?_
 rintro e w3 ⟨rfl,hb6⟩
 have hb7:=hb5.trans (hb6.mono hb5.size)
 have hk7:=hk5.below hb6 hk5.lt
 have hk8:=hk6.below hb6 hk6.lt
 clear d0 d1 d2 hb6 hb5 hk5 hk6 HP
 have d0:=hk7.cell 0
 have d1:=hk7.cell 1
 have d2:=hk7.cell 2
 have e0:=hk8.cell 0
 have e1:=hk8.cell 1
 have e2:=hk8.cell 2
 go_wp2_with fail
 refine (ones_5 _).mono ?_
 rintro e w4 ⟨rfl,rfl⟩
 by_cases hA:x=31
 ·obtain rfl:s*9223372036854775808+2047*4503599627370496+f*4398046511104=r:=by
   have:=HR.out
   rw [if_pos hA]at this
   exact this
  subst hA
  have HJ:=Lib.hid (show ∀ w,Calls Tryz.prog 128 #[.agg #[.int .i64 52,.int .i64 11,.int .i64 64],.int .u64 s,.int .i64 2047,.int .u64 (f*4398046511104)] w fun e w'=>e=.returned (.int .u64 (s*9223372036854775808+2047*4503599627370496+f*4398046511104))∧Below w.heap.size w w' from fun w=>joined_64 s 2047 (f*4398046511104) ⟨bs1,bs2⟩ (by omega) (by omega) w)
  clear HR
  have q1:IntKind.i64.wrap 2047=2047:=by rfl
  have q2:IntKind.u64.wrap (f*4398046511104)=f*4398046511104:=by rw [IntKind.wrap_u64]; omega
  go_wp2_with fail
  go_region_held3 (fun w'=>w'.cell? ⟨w2.heap.size,0,none⟩=some (.int .i64 52)∧w'.cell? ⟨w2.heap.size,1,none⟩=some (.int .i64 11)∧w'.cell? ⟨w2.heap.size,2,none⟩=some (.int .i64 64)) (go_keep)
   (first | (go_at_call 127; (with_reducible refine (ones_11 _).mono ?_); rintro e w5 ⟨rfl,rfl⟩) | (go_at_call 128; (with_reducible refine (HJ.out _).mono ?_); rintro e w5 ⟨rfl,hb9⟩; have hk9:=(Blk.drew hk8).below hb9 (Blk.drew hk8).lt; have g0:=hk9.cell 0; have g1:=hk9.cell 1; have g2:=hk9.cell 2))
  clear q1 q2
  go_wp2_with fail
  go_ret2
  exact ⟨rfl,(below_drewN hb7 1).trans (hb9.mono hb7.size)⟩
 have hA1:(x == 31)=false:=by rw [beq_eq_false_iff_ne]; exact hA
 by_cases hB:x=0∧f=0
 ·obtain rfl:s*9223372036854775808=r:=by
   have:=HR.out
   rw [if_neg hA,if_pos hB]at this
   exact this
  obtain ⟨hx0,hf0⟩:=hB
  subst hx0
  subst hf0
  have HJ:=Lib.hid (show ∀ w,Calls Tryz.prog 128 #[.agg #[.int .i64 52,.int .i64 11,.int .i64 64],.int .u64 s,.int .i64 0,.int .u64 0] w fun e w'=>e=.returned (.int .u64 (s*9223372036854775808))∧Below w.heap.size w w' from fun w=>by
   have:=joined_64 s 0 0 ⟨bs1,bs2⟩ (by omega) (by omega) w
   rw [show s*9223372036854775808+0*4503599627370496+0=s*9223372036854775808 by omega]at this
   exact this)
  clear HR
  go_wp2_with fail
  refine (HJ.out _).mono ?_
  rintro e w5 ⟨rfl,hb9⟩
  have hb10:=hb7.trans (hb9.mono hb7.size)
  clear hb9 HJ
  go_wp2_with fail
  go_ret2
  exact ⟨rfl,hb10⟩
 by_cases hC:x=0
 ·have hf1:f≠0:=fun e=>hB ⟨hC,e⟩
  subst hC
  obtain ⟨fl,hfl⟩:∃ fl:Nat,Lib.bitLen f.toNat=fl:=⟨_,rfl⟩
  have hfl1:fl≤10:=by
   have:=bitLen_iff 10 f.toNat (by omega)
   omega
  have hfl2:1≤fl:=by
   have:=bitLen_iff 0 f.toNat (by omega)
   omega
  have HF:=Lib.hid (fun w=>Tryz.bits_Len64 f w bf1 (by omega))
  rw [hfl]at HF
  have hrv:=HR.out
  rw [if_neg hA,if_neg hB,if_pos rfl,hfl]at hrv
  clear HR hfl hA hB
  obtain ⟨up,hup⟩:∃ up:Nat,10+1 - fl=up:=⟨_,rfl⟩
  have hup1:(10:Int)+1 - (fl:Int)=up:=by omega
  have hup2:1≤up∧up≤10:=by omega
  rw [hup,hup1]at hrv
  have hf0:(f == 0)=false:=by rw [beq_eq_false_iff_ne]; exact hf1
  have bl2:(fl:Int)≤10:=by omega
  have bl3:(1:Int)≤fl:=by omega
  have q0:IntKind.i64.wrap (11 - (fl:Int))=(up:Int):=by rw [IntWalk.i64_in _ (by omega)]; omega
  have y1:(1:Int)≤up:=by omega
  have y2:(up:Int)≤10:=by omega
  have y3:¬ ((up:Int)<0):=by omega
  have y4:min up 64=up:=by omega
  clear hup1
  obtain ⟨P,hP⟩:∃ P:Int,f*2 ^ up=P:=⟨_,rfl⟩
  have hPb:0≤P∧P<1048576:=by
   have h2:(2:Int) ^ up≤2 ^ 10:=by
    have:=Nat.pow_le_pow_right (show 0<2 by decide) hup2.2
    exact_mod_cast this
   have h3:(0:Int)<2 ^ up:=Int.pow_pos (by decide)
   have h4:(2:Int) ^ 10=1024:=by decide
   rw [h4]at h2
   rw [← hP]
   refine ⟨Int.mul_nonneg bf1 (by omega),?_⟩
   calc f*2 ^ up≤f*1024:=Int.mul_le_mul_of_nonneg_left h2 bf1
    _<1024*1024:=by omega
    _=1048576:=by decide
  obtain ⟨hP0,hP1⟩:=hPb
  rw [hP]at hrv
  have y5:IntKind.u64.wrap P=P:=by rw [IntKind.wrap_u64]; omega
  have y6:=and_mask2 10 (by decide) P hP0 (by omega)
  rw [show ((2:Int) ^ 10 - 1)=1023 by decide,show ((2:Int) ^ 10)=1024 by decide]at y6
  have y7:IntKind.i64.wrap (1 - (up:Int))=1 - (up:Int):=IntWalk.i64_in _ (by omega)
  obtain ⟨M,hM⟩:∃ M,P % 1024=M:=⟨_,rfl⟩
  have hMb:0≤M∧M<1024:=by omega
  obtain ⟨hM0,hM1⟩:=hMb
  rw [hM]at y6 hrv
  go_wp2_with fail
  go_quiet ((go_at_call 124; exact Calls.quiet_of_same (HF.out _)))
  clear q0
  obtain ⟨w5,hw5⟩:∃ w5,w4.drewN nq=w5:=⟨_,rfl⟩
  have hb7a:Below w.heap.size w w5:=by
   rw [← hw5]
   exact below_drewN hb7 nq
  have hk7a:Blk w5 w1.heap.size #[.int .i64 10,.int .i64 5,.int .i64 16] 170:=by
   rw [← hw5]
   exact hk7
  have hk8a:Blk w5 w2.heap.size #[.int .i64 52,.int .i64 11,.int .i64 64] 170:=by
   rw [← hw5]
   exact hk8
  rw [hw5]
  clear hw5 hb7 hk7 hk8 d0 d1 d2 e0 e1 e2
  have d0:=hk7a.cell 0
  have d1:=hk7a.cell 1
  have d2:=hk7a.cell 2
  have e0:=hk8a.cell 0
  have e1:=hk8a.cell 1
  have e2:=hk8a.cell 2
  go_wp2_with fail
  go_quiet ((go_at_call 127; exact Calls.quiet_of_same (ones_10 _)))
  obtain ⟨w6,hw6⟩:∃ w6,w5.drewN nq=w6:=⟨_,rfl⟩
  have hb7d:Below w.heap.size w w6:=by
   rw [← hw6]
   exact below_drewN hb7a nq
  have hk7d:Blk w6 w1.heap.size #[.int .i64 10,.int .i64 5,.int .i64 16] 170:=by
   rw [← hw6]
   exact hk7a
  have hk8d:Blk w6 w2.heap.size #[.int .i64 52,.int .i64 11,.int .i64 64] 170:=by
   rw [← hw6]
   exact hk8a
  rw [hw6]
  clear hw6 hb7a hk7a hk8a d0 d1 d2 e0 e1 e2
  have d0:=hk7d.cell 0
  have d1:=hk7d.cell 1
  have d2:=hk7d.cell 2
  have e0:=hk8d.cell 0
  have e1:=hk8d.cell 1
  have e2:=hk8d.cell 2
  obtain rfl:s*9223372036854775808+(1 - (up:Int) - 15+1023)*4503599627370496+M*4398046511104=r:=hrv
  have BF:=Lib.hid (show ∀ w,Calls Tryz.prog 129 #[.agg #[.int .i64 10,.int .i64 5,.int .i64 16]] w fun e w'=>e=.returned (.int .i64 15)∧Below w.heap.size w w' from bias_16)
  have BT:=Lib.hid (show ∀ w,Calls Tryz.prog 129 #[.agg #[.int .i64 52,.int .i64 11,.int .i64 64]] w fun e w'=>e=.returned (.int .i64 1023)∧Below w.heap.size w w' from bias_64)
  have HJ:=Lib.hid (show ∀ w,Calls Tryz.prog 128 #[.agg #[.int .i64 52,.int .i64 11,.int .i64 64],.int .u64 s,.int .i64 (1 - (up:Int) - 15+1023),.int .u64 (M*4398046511104)] w fun e w'=>e=.returned (.int .u64 (s*9223372036854775808+(1 - (up:Int) - 15+1023)*4503599627370496+M*4398046511104))∧Below w.heap.size w w' from fun w=>joined_64 s (1 - (up:Int) - 15+1023) (M*4398046511104) ⟨bs1,bs2⟩ (by omega) (by omega) w)
  have q1:IntKind.i64.wrap (1 - (up:Int) - 15)=1 - (up:Int) - 15:=IntWalk.i64_in _ (by omega)
  have q2:IntKind.i64.wrap (1 - (up:Int) - 15+1023)=1 - (up:Int) - 15+1023:=IntWalk.i64_in _ (by omega)
  have q3:IntKind.u64.wrap (M*4398046511104)=M*4398046511104:=by rw [IntKind.wrap_u64]; omega
  clear hP y5 y6 y7 hM hP0 hP1
  go_wp2_with fail
  go_region_held3 (fun w'=>w'.cell? ⟨w2.heap.size,0,none⟩=some (.int .i64 52)∧w'.cell? ⟨w2.heap.size,1,none⟩=some (.int .i64 11)∧w'.cell? ⟨w2.heap.size,2,none⟩=some (.int .i64 64)∧w'.cell? ⟨w1.heap.size,0,none⟩=some (.int .i64 10)∧w'.cell? ⟨w1.heap.size,1,none⟩=some (.int .i64 5)∧w'.cell? ⟨w1.heap.size,2,none⟩=some (.int .i64 16)) (go_keep)
   (first | (go_at_call 129; (with_reducible refine (BF.out _).mono ?_); rintro e w7 ⟨rfl,hb8⟩; have hk8e:=(Blk.drew hk8d).below hb8 (Blk.drew hk8d).lt; have hk7e:=(Blk.drew hk7d).below hb8 (Blk.drew hk7d).lt; have ga0:=hk8e.cell 0; have ga1:=hk8e.cell 1; have ga2:=hk8e.cell 2; have ga3:=hk7e.cell 0; have ga4:=hk7e.cell 1; have ga5:=hk7e.cell 2) | (go_at_call 129; (with_reducible refine (BT.out _).mono ?_); rintro e w8 ⟨rfl,hb9⟩; have hk8b:=hk8e.below hb9 hk8e.lt; have hk7b:=hk7e.below hb9 hk7e.lt; have gb0:=hk8b.cell 0; have gb1:=hk8b.cell 1; have gb2:=hk8b.cell 2; have gb3:=hk7b.cell 0; have gb4:=hk7b.cell 1; have gb5:=hk7b.cell 2) | (go_at_call 128; (with_reducible refine (HJ.out _).mono ?_); rintro e w9 ⟨rfl,hb10⟩; have hk8c:=hk8b.below hb10 hk8b.lt; have hk7c:=hk7b.below hb10 hk7b.lt; have gc0:=hk8c.cell 0; have gc1:=hk8c.cell 1; have gc2:=hk8c.cell 2; have gc3:=hk7c.cell 0; have gc4:=hk7c.cell 1; have gc5:=hk7c.cell 2))
  clear q1 q2 q3
  have hbz:=((((below_drewN hb7d 1).trans (hb8.mono (below_drewN hb7d 1).size)).trans (hb9.mono ((below_drewN hb7d 1).trans (hb8.mono (below_drewN hb7d 1).size)).size)))
  have hbz2:=hbz.trans (hb10.mono hbz.size)
  clear hb8 hb9 hb10 hbz
  go_wp2_with fail
  go_ret2
  exact ⟨rfl,hbz2⟩
 ·obtain rfl:s*9223372036854775808+(x - 15+1023)*4503599627370496+f*4398046511104=r:=by
   have:=HR.out
   rw [if_neg hA,if_neg hB,if_neg hC]at this
   exact this
  have hC1:(x == 0)=false:=by rw [beq_eq_false_iff_ne]; exact hC
  have BF:=Lib.hid (show ∀ w,Calls Tryz.prog 129 #[.agg #[.int .i64 10,.int .i64 5,.int .i64 16]] w fun e w'=>e=.returned (.int .i64 15)∧Below w.heap.size w w' from bias_16)
  have BT:=Lib.hid (show ∀ w,Calls Tryz.prog 129 #[.agg #[.int .i64 52,.int .i64 11,.int .i64 64]] w fun e w'=>e=.returned (.int .i64 1023)∧Below w.heap.size w w' from bias_64)
  have HJ:=Lib.hid (show ∀ w,Calls Tryz.prog 128 #[.agg #[.int .i64 52,.int .i64 11,.int .i64 64],.int .u64 s,.int .i64 (x - 15+1023),.int .u64 (f*4398046511104)] w fun e w'=>e=.returned (.int .u64 (s*9223372036854775808+(x - 15+1023)*4503599627370496+f*4398046511104))∧Below w.heap.size w w' from fun w=>joined_64 s (x - 15+1023) (f*4398046511104) ⟨bs1,bs2⟩ (by omega) (by omega) w)
  have q1:IntKind.i64.wrap (x - 15)=x - 15:=IntWalk.i64_in _ (by omega)
  have q2:IntKind.i64.wrap (x - 15+1023)=x - 15+1023:=IntWalk.i64_in _ (by omega)
  have q3:IntKind.u64.wrap (f*4398046511104)=f*4398046511104:=by rw [IntKind.wrap_u64]; omega
  clear HR
  go_wp2_with fail
  go_region_held3 (fun w'=>w'.cell? ⟨w2.heap.size,0,none⟩=some (.int .i64 52)∧w'.cell? ⟨w2.heap.size,1,none⟩=some (.int .i64 11)∧w'.cell? ⟨w2.heap.size,2,none⟩=some (.int .i64 64)∧w'.cell? ⟨w1.heap.size,0,none⟩=some (.int .i64 10)∧w'.cell? ⟨w1.heap.size,1,none⟩=some (.int .i64 5)∧w'.cell? ⟨w1.heap.size,2,none⟩=some (.int .i64 16)) (go_keep)
   (first | (go_at_call 129; (with_reducible refine (BF.out _).mono ?_); rintro e w5 ⟨rfl,hb8⟩; have hk8a:=(Blk.drew hk8).below hb8 (Blk.drew hk8).lt; have hk7a:=(Blk.drew hk7).below hb8 (Blk.drew hk7).lt; have ga0:=hk8a.cell 0; have ga1:=hk8a.cell 1; have ga2:=hk8a.cell 2; have ga3:=hk7a.cell 0; have ga4:=hk7a.cell 1; have ga5:=hk7a.cell 2) | (go_at_call 129; (with_reducible refine (BT.out _).mono ?_); rintro e w6 ⟨rfl,hb9⟩; have hk8b:=hk8a.below hb9 hk8a.lt; have hk7b:=hk7a.below hb9 hk7a.lt; have gb0:=hk8b.cell 0; have gb1:=hk8b.cell 1; have gb2:=hk8b.cell 2; have gb3:=hk7b.cell 0; have gb4:=hk7b.cell 1; have gb5:=hk7b.cell 2) | (go_at_call 128; (with_reducible refine (HJ.out _).mono ?_); rintro e w7 ⟨rfl,hb10⟩; have hk8c:=hk8b.below hb10 hk8b.lt; have hk7c:=hk7b.below hb10 hk7b.lt; have gc0:=hk8c.cell 0; have gc1:=hk8c.cell 1; have gc2:=hk8c.cell 2; have gc3:=hk7c.cell 0; have gc4:=hk7c.cell 1; have gc5:=hk7c.cell 2))
  clear q1 q2 q3
  have hbz:=((((below_drewN hb7 1).trans (hb8.mono (below_drewN hb7 1).size)).trans (hb9.mono ((below_drewN hb7 1).trans (hb8.mono (below_drewN hb7 1).size)).size)))
  have hbz2:=hbz.trans (hb10.mono hbz.size)
  clear hb8 hb9 hb10 hbz
  go_wp2_with fail
  go_ret2
  exact ⟨rfl,hbz2⟩
set_option maxHeartbeats 8000000 in
set_option maxRecDepth 100000 in
theorem widen_32_no (b:Int) (h0:0≤b) (hb:b<18446744073709551616) (hlt:¬ b<4294967296) (w:World) :
  Calls Tryz.prog 87 #[.int .u64 b,.int .i64 32] w fun e w'=>e=.returned (.tuple #[.int .u64 0,.int .i64 2])∧Below w.heap.size w w':=by
 have HO:=Lib.hid (show ∀ w,Calls Tryz.prog 123 #[.int .i64 32] w fun e w'=>e=.returned (.tuple #[fmV (23,8,32),.bool true])∧Below w.heap.size w w' from float_of 32)
 have HL:=Lib.hid (fun w=>Tryz.bits_Len64 b w h0 (by omega))
 obtain ⟨bl,hbl⟩:∃ bl:Nat,Lib.bitLen b.toNat=bl:=⟨_,rfl⟩
 have hb2:32<bl:=by
  have:=bitLen_iff 32 b.toNat (by omega)
  omega
 rw [hbl]at HL
 have z1:(32:Int)<bl:=by omega
 clear hbl hlt
 go_enter Tryz.func87,Tryz.ntmps87
 go_wp2_with fail
 refine (HO.out _).mono ?_
 rintro e w1 ⟨rfl,hb1⟩
 have hb2:=hb1.alloc hb1.size (.cells #[.int .i64 23,.int .i64 8,.int .i64 32] 170)
 clear HO hb1
 go_wp2_with fail
 refine (HL.out _).mono ?_
 rintro e w2 ⟨rfl,rfl⟩
 clear HL
 go_wp2_with fail
 go_ret2
 exact ⟨rfl,hb2⟩
set_option maxHeartbeats 8000000 in
set_option maxRecDepth 100000 in
theorem widen_32_yes (b:Int) (h0:0≤b) (hlt:b<4294967296) (w:World) :
  Calls Tryz.prog 87 #[.int .u64 b,.int .i64 32] w fun e w'=>e=.returned (.tuple #[.int .u64 (widenP 23 8 b),.int .i64 0])∧Below w.heap.size w w':=by
 have HO:=Lib.hid (show ∀ w,Calls Tryz.prog 123 #[.int .i64 32] w fun e w'=>e=.returned (.tuple #[fmV (23,8,32),.bool true])∧Below w.heap.size w w' from float_of 32)
 have HL:=Lib.hid (fun w=>Tryz.bits_Len64 b w h0 (by omega))
 have HP:=Lib.hid (fun w=>parts_32 b h0 (by omega) w)
 have HW:=Lib.hid float_wide
 obtain ⟨bl,hbl⟩:∃ bl:Nat,Lib.bitLen b.toNat=bl:=⟨_,rfl⟩
 have hb2:bl≤32:=by
  have:=bitLen_iff 32 b.toNat (by omega)
  omega
 rw [hbl]at HL
 have z1:¬ (32:Int)<bl:=by omega
 obtain ⟨r,hr⟩:∃ r,widenP 23 8 b=r:=⟨_,rfl⟩
 rw [hr]
 unfold widenP at hr
 obtain ⟨s,hs⟩:∃ s,b / 2147483648 % 2=s:=⟨_,rfl⟩
 obtain ⟨x,hx⟩:∃ x,b / 8388608 % 256=x:=⟨_,rfl⟩
 obtain ⟨f,hf⟩:∃ f,b % 8388608=f:=⟨_,rfl⟩
 have bs:0≤s∧s≤1:=by omega
 have bx:0≤x∧x≤255:=by omega
 have bf:0≤f∧f<8388608:=by omega
 rw [hs,hx,hf]at HP
 have hr2:(if x=255 then s*9223372036854775808+2047*4503599627370496+f*536870912 else if x=0∧f=0 then s*9223372036854775808 else if x=0 then s*9223372036854775808+(1 - (23+1 - (Lib.bitLen f.toNat:Int)) - 127+1023)*4503599627370496+(f*2 ^ (23+1 - Lib.bitLen f.toNat)) % 8388608*536870912 else s*9223372036854775808+(x - 127+1023)*4503599627370496+f*536870912)=r:=by
  rw [← hr,← hs,← hx,← hf]
  rfl
 clear hbl hlt hs hx hf
 have HR:=Lib.hid hr2
 clear hr hr2
 obtain ⟨bs1,bs2⟩:=bs
 obtain ⟨bx1,bx2⟩:=bx
 obtain ⟨bf1,bf2⟩:=bf
 go_enter Tryz.func87,Tryz.ntmps87
 go_wp2_with fail
 refine (HO.out _).mono ?_
 rintro e w1 ⟨rfl,hb1⟩
 have hb2:=hb1.alloc hb1.size (.cells #[.int .i64 23,.int .i64 8,.int .i64 32] 170)
 have hk2:=Blk.new w1 #[.int .i64 23,.int .i64 8,.int .i64 32] 170
 clear HO
 go_wp2_with fail
 refine (HL.out _).mono ?_
 rintro e w2 ⟨rfl,rfl⟩
 clear HL
 go_wp2_with fail
 refine (HW.out _).mono ?_
 rintro e w2 ⟨rfl,hb3⟩
 have hb4:=hb2.trans (hb3.mono hb2.size)
 have hk4:=hk2.below hb3 hk2.lt
 have hb5:=hb4.alloc hb4.size (.cells #[.int .i64 52,.int .i64 11,.int .i64 64] 170)
 have hk5:=hk4.alloc (.cells #[.int .i64 52,.int .i64 11,.int .i64 64] 170)
 have hk6:=Blk.new w2 #[.int .i64 52,.int .i64 11,.int .i64 64] 170
 have d0:=hk5.cell 0
 have d1:=hk5.cell 1
 have d2:=hk5.cell 2
 clear HW hb3 hb4 hk4 hk2 hb2
 go_wp2_with fail
 refine (HP.out _).mono ?_
 rintro e w3 ⟨rfl,hb6⟩
 have hb7:=hb5.trans (hb6.mono hb5.size)
 have hk7:=hk5.below hb6 hk5.lt
 have hk8:=hk6.below hb6 hk6.lt
 clear d0 d1 d2 hb6 hb5 hk5 hk6 HP
 have d0:=hk7.cell 0
 have d1:=hk7.cell 1
 have d2:=hk7.cell 2
 have e0:=hk8.cell 0
 have e1:=hk8.cell 1
 have e2:=hk8.cell 2
 go_wp2_with fail
 refine (ones_8 _).mono ?_
 rintro e w4 ⟨rfl,rfl⟩
 by_cases hA:x=255
 ·obtain rfl:s*9223372036854775808+2047*4503599627370496+f*536870912=r:=by
   have:=HR.out
   rw [if_pos hA]at this
   exact this
  subst hA
  have HJ:=Lib.hid (show ∀ w,Calls Tryz.prog 128 #[.agg #[.int .i64 52,.int .i64 11,.int .i64 64],.int .u64 s,.int .i64 2047,.int .u64 (f*536870912)] w fun e w'=>e=.returned (.int .u64 (s*9223372036854775808+2047*4503599627370496+f*536870912))∧Below w.heap.size w w' from fun w=>joined_64 s 2047 (f*536870912) ⟨bs1,bs2⟩ (by omega) (by omega) w)
  clear HR
  have q1:IntKind.i64.wrap 2047=2047:=by rfl
  have q2:IntKind.u64.wrap (f*536870912)=f*536870912:=by rw [IntKind.wrap_u64]; omega
  go_wp2_with fail
  go_region_held3 (fun w'=>w'.cell? ⟨w2.heap.size,0,none⟩=some (.int .i64 52)∧w'.cell? ⟨w2.heap.size,1,none⟩=some (.int .i64 11)∧w'.cell? ⟨w2.heap.size,2,none⟩=some (.int .i64 64)) (go_keep)
   (first | (go_at_call 127; (with_reducible refine (ones_11 _).mono ?_); rintro e w5 ⟨rfl,rfl⟩) | (go_at_call 128; (with_reducible refine (HJ.out _).mono ?_); rintro e w5 ⟨rfl,hb9⟩; have hk9:=(Blk.drew hk8).below hb9 (Blk.drew hk8).lt; have g0:=hk9.cell 0; have g1:=hk9.cell 1; have g2:=hk9.cell 2))
  clear q1 q2
  go_wp2_with fail
  go_ret2
  exact ⟨rfl,(below_drewN hb7 1).trans (hb9.mono hb7.size)⟩
 have hA1:(x == 255)=false:=by rw [beq_eq_false_iff_ne]; exact hA
 by_cases hB:x=0∧f=0
 ·obtain rfl:s*9223372036854775808=r:=by
   have:=HR.out
   rw [if_neg hA,if_pos hB]at this
   exact this
  obtain ⟨hx0,hf0⟩:=hB
  subst hx0
  subst hf0
  have HJ:=Lib.hid (show ∀ w,Calls Tryz.prog 128 #[.agg #[.int .i64 52,.int .i64 11,.int .i64 64],.int .u64 s,.int .i64 0,.int .u64 0] w fun e w'=>e=.returned (.int .u64 (s*9223372036854775808))∧Below w.heap.size w w' from fun w=>by
   have:=joined_64 s 0 0 ⟨bs1,bs2⟩ (by omega) (by omega) w
   rw [show s*9223372036854775808+0*4503599627370496+0=s*9223372036854775808 by omega]at this
   exact this)
  clear HR
  go_wp2_with fail
  refine (HJ.out _).mono ?_
  rintro e w5 ⟨rfl,hb9⟩
  have hb10:=hb7.trans (hb9.mono hb7.size)
  clear hb9 HJ
  go_wp2_with fail
  go_ret2
  exact ⟨rfl,hb10⟩
 by_cases hC:x=0
 ·have hf1:f≠0:=fun e=>hB ⟨hC,e⟩
  subst hC
  obtain ⟨fl,hfl⟩:∃ fl:Nat,Lib.bitLen f.toNat=fl:=⟨_,rfl⟩
  have hfl1:fl≤23:=by
   have:=bitLen_iff 23 f.toNat (by omega)
   omega
  have hfl2:1≤fl:=by
   have:=bitLen_iff 0 f.toNat (by omega)
   omega
  have HF:=Lib.hid (fun w=>Tryz.bits_Len64 f w bf1 (by omega))
  rw [hfl]at HF
  have hrv:=HR.out
  rw [if_neg hA,if_neg hB,if_pos rfl,hfl]at hrv
  clear HR hfl hA hB
  obtain ⟨up,hup⟩:∃ up:Nat,23+1 - fl=up:=⟨_,rfl⟩
  have hup1:(23:Int)+1 - (fl:Int)=up:=by omega
  have hup2:1≤up∧up≤23:=by omega
  rw [hup,hup1]at hrv
  have hf0:(f == 0)=false:=by rw [beq_eq_false_iff_ne]; exact hf1
  have bl2:(fl:Int)≤23:=by omega
  have bl3:(1:Int)≤fl:=by omega
  have q0:IntKind.i64.wrap (24 - (fl:Int))=(up:Int):=by rw [IntWalk.i64_in _ (by omega)]; omega
  have y1:(1:Int)≤up:=by omega
  have y2:(up:Int)≤23:=by omega
  have y3:¬ ((up:Int)<0):=by omega
  have y4:min up 64=up:=by omega
  clear hup1
  obtain ⟨P,hP⟩:∃ P:Int,f*2 ^ up=P:=⟨_,rfl⟩
  have hPb:0≤P∧P<70368744177664:=by
   have h2:(2:Int) ^ up≤2 ^ 23:=by
    have:=Nat.pow_le_pow_right (show 0<2 by decide) hup2.2
    exact_mod_cast this
   have h3:(0:Int)<2 ^ up:=Int.pow_pos (by decide)
   have h4:(2:Int) ^ 23=8388608:=by decide
   rw [h4]at h2
   rw [← hP]
   refine ⟨Int.mul_nonneg bf1 (by omega),?_⟩
   calc f*2 ^ up≤f*8388608:=Int.mul_le_mul_of_nonneg_left h2 bf1
    _<8388608*8388608:=by omega
    _=70368744177664:=by decide
  obtain ⟨hP0,hP1⟩:=hPb
  rw [hP]at hrv
  have y5:IntKind.u64.wrap P=P:=by rw [IntKind.wrap_u64]; omega
  have y6:=and_mask2 23 (by decide) P hP0 (by omega)
  rw [show ((2:Int) ^ 23 - 1)=8388607 by decide,show ((2:Int) ^ 23)=8388608 by decide]at y6
  have y7:IntKind.i64.wrap (1 - (up:Int))=1 - (up:Int):=IntWalk.i64_in _ (by omega)
  obtain ⟨M,hM⟩:∃ M,P % 8388608=M:=⟨_,rfl⟩
  have hMb:0≤M∧M<8388608:=by omega
  obtain ⟨hM0,hM1⟩:=hMb
  rw [hM]at y6 hrv
  go_wp2_with fail
  go_quiet ((go_at_call 124; exact Calls.quiet_of_same (HF.out _)))
  clear q0
  obtain ⟨w5,hw5⟩:∃ w5,w4.drewN nq=w5:=⟨_,rfl⟩
  have hb7a:Below w.heap.size w w5:=by
   rw [← hw5]
   exact below_drewN hb7 nq
  have hk7a:Blk w5 w1.heap.size #[.int .i64 23,.int .i64 8,.int .i64 32] 170:=by
   rw [← hw5]
   exact hk7
  have hk8a:Blk w5 w2.heap.size #[.int .i64 52,.int .i64 11,.int .i64 64] 170:=by
   rw [← hw5]
   exact hk8
  rw [hw5]
  clear hw5 hb7 hk7 hk8 d0 d1 d2 e0 e1 e2
  have d0:=hk7a.cell 0
  have d1:=hk7a.cell 1
  have d2:=hk7a.cell 2
  have e0:=hk8a.cell 0
  have e1:=hk8a.cell 1
  have e2:=hk8a.cell 2
  go_wp2_with fail
  go_quiet ((go_at_call 127; exact Calls.quiet_of_same (ones_23 _)))
  obtain ⟨w6,hw6⟩:∃ w6,w5.drewN nq=w6:=⟨_,rfl⟩
  have hb7d:Below w.heap.size w w6:=by
   rw [← hw6]
   exact below_drewN hb7a nq
  have hk7d:Blk w6 w1.heap.size #[.int .i64 23,.int .i64 8,.int .i64 32] 170:=by
   rw [← hw6]
   exact hk7a
  have hk8d:Blk w6 w2.heap.size #[.int .i64 52,.int .i64 11,.int .i64 64] 170:=by
   rw [← hw6]
   exact hk8a
  rw [hw6]
  clear hw6 hb7a hk7a hk8a d0 d1 d2 e0 e1 e2
  have d0:=hk7d.cell 0
  have d1:=hk7d.cell 1
  have d2:=hk7d.cell 2
  have e0:=hk8d.cell 0
  have e1:=hk8d.cell 1
  have e2:=hk8d.cell 2
  obtain rfl:s*9223372036854775808+(1 - (up:Int) - 127+1023)*4503599627370496+M*536870912=r:=hrv
  have BF:=Lib.hid (show ∀ w,Calls Tryz.prog 129 #[.agg #[.int .i64 23,.int .i64 8,.int .i64 32]] w fun e w'=>e=.returned (.int .i64 127)∧Below w.heap.size w w' from bias_32)
  have BT:=Lib.hid (show ∀ w,Calls Tryz.prog 129 #[.agg #[.int .i64 52,.int .i64 11,.int .i64 64]] w fun e w'=>e=.returned (.int .i64 1023)∧Below w.heap.size w w' from bias_64)
  have HJ:=Lib.hid (show ∀ w,Calls Tryz.prog 128 #[.agg #[.int .i64 52,.int .i64 11,.int .i64 64],.int .u64 s,.int .i64 (1 - (up:Int) - 127+1023),.int .u64 (M*536870912)] w fun e w'=>e=.returned (.int .u64 (s*9223372036854775808+(1 - (up:Int) - 127+1023)*4503599627370496+M*536870912))∧Below w.heap.size w w' from fun w=>joined_64 s (1 - (up:Int) - 127+1023) (M*536870912) ⟨bs1,bs2⟩ (by omega) (by omega) w)
  have q1:IntKind.i64.wrap (1 - (up:Int) - 127)=1 - (up:Int) - 127:=IntWalk.i64_in _ (by omega)
  have q2:IntKind.i64.wrap (1 - (up:Int) - 127+1023)=1 - (up:Int) - 127+1023:=IntWalk.i64_in _ (by omega)
  have q3:IntKind.u64.wrap (M*536870912)=M*536870912:=by rw [IntKind.wrap_u64]; omega
  clear hP y5 y6 y7 hM hP0 hP1
  go_wp2_with fail
  go_region_held3 (fun w'=>w'.cell? ⟨w2.heap.size,0,none⟩=some (.int .i64 52)∧w'.cell? ⟨w2.heap.size,1,none⟩=some (.int .i64 11)∧w'.cell? ⟨w2.heap.size,2,none⟩=some (.int .i64 64)∧w'.cell? ⟨w1.heap.size,0,none⟩=some (.int .i64 23)∧w'.cell? ⟨w1.heap.size,1,none⟩=some (.int .i64 8)∧w'.cell? ⟨w1.heap.size,2,none⟩=some (.int .i64 32)) (go_keep)
   (first | (go_at_call 129; (with_reducible refine (BF.out _).mono ?_); rintro e w7 ⟨rfl,hb8⟩; have hk8e:=(Blk.drew hk8d).below hb8 (Blk.drew hk8d).lt; have hk7e:=(Blk.drew hk7d).below hb8 (Blk.drew hk7d).lt; have ga0:=hk8e.cell 0; have ga1:=hk8e.cell 1; have ga2:=hk8e.cell 2; have ga3:=hk7e.cell 0; have ga4:=hk7e.cell 1; have ga5:=hk7e.cell 2) | (go_at_call 129; (with_reducible refine (BT.out _).mono ?_); rintro e w8 ⟨rfl,hb9⟩; have hk8b:=hk8e.below hb9 hk8e.lt; have hk7b:=hk7e.below hb9 hk7e.lt; have gb0:=hk8b.cell 0; have gb1:=hk8b.cell 1; have gb2:=hk8b.cell 2; have gb3:=hk7b.cell 0; have gb4:=hk7b.cell 1; have gb5:=hk7b.cell 2) | (go_at_call 128; (with_reducible refine (HJ.out _).mono ?_); rintro e w9 ⟨rfl,hb10⟩; have hk8c:=hk8b.below hb10 hk8b.lt; have hk7c:=hk7b.below hb10 hk7b.lt; have gc0:=hk8c.cell 0; have gc1:=hk8c.cell 1; have gc2:=hk8c.cell 2; have gc3:=hk7c.cell 0; have gc4:=hk7c.cell 1; have gc5:=hk7c.cell 2))
  clear q1 q2 q3
  have hbz:=((((below_drewN hb7d 1).trans (hb8.mono (below_drewN hb7d 1).size)).trans (hb9.mono ((below_drewN hb7d 1).trans (hb8.mono (below_drewN hb7d 1).size)).size)))
  have hbz2:=hbz.trans (hb10.mono hbz.size)
  clear hb8 hb9 hb10 hbz
  go_wp2_with fail
  go_ret2
  exact ⟨rfl,hbz2⟩
 ·obtain rfl:s*9223372036854775808+(x - 127+1023)*4503599627370496+f*536870912=r:=by
   have:=HR.out
   rw [if_neg hA,if_neg hB,if_neg hC]at this
   exact this
  have hC1:(x == 0)=false:=by rw [beq_eq_false_iff_ne]; exact hC
  have BF:=Lib.hid (show ∀ w,Calls Tryz.prog 129 #[.agg #[.int .i64 23,.int .i64 8,.int .i64 32]] w fun e w'=>e=.returned (.int .i64 127)∧Below w.heap.size w w' from bias_32)
  have BT:=Lib.hid (show ∀ w,Calls Tryz.prog 129 #[.agg #[.int .i64 52,.int .i64 11,.int .i64 64]] w fun e w'=>e=.returned (.int .i64 1023)∧Below w.heap.size w w' from bias_64)
  have HJ:=Lib.hid (show ∀ w,Calls Tryz.prog 128 #[.agg #[.int .i64 52,.int .i64 11,.int .i64 64],.int .u64 s,.int .i64 (x - 127+1023),.int .u64 (f*536870912)] w fun e w'=>e=.returned (.int .u64 (s*9223372036854775808+(x - 127+1023)*4503599627370496+f*536870912))∧Below w.heap.size w w' from fun w=>joined_64 s (x - 127+1023) (f*536870912) ⟨bs1,bs2⟩ (by omega) (by omega) w)
  have q1:IntKind.i64.wrap (x - 127)=x - 127:=IntWalk.i64_in _ (by omega)
  have q2:IntKind.i64.wrap (x - 127+1023)=x - 127+1023:=IntWalk.i64_in _ (by omega)
  have q3:IntKind.u64.wrap (f*536870912)=f*536870912:=by rw [IntKind.wrap_u64]; omega
  clear HR
  go_wp2_with fail
  go_region_held3 (fun w'=>w'.cell? ⟨w2.heap.size,0,none⟩=some (.int .i64 52)∧w'.cell? ⟨w2.heap.size,1,none⟩=some (.int .i64 11)∧w'.cell? ⟨w2.heap.size,2,none⟩=some (.int .i64 64)∧w'.cell? ⟨w1.heap.size,0,none⟩=some (.int .i64 23)∧w'.cell? ⟨w1.heap.size,1,none⟩=some (.int .i64 8)∧w'.cell? ⟨w1.heap.size,2,none⟩=some (.int .i64 32)) (go_keep)
   (first | (go_at_call 129; (with_reducible refine (BF.out _).mono ?_); rintro e w5 ⟨rfl,hb8⟩; have hk8a:=(Blk.drew hk8).below hb8 (Blk.drew hk8).lt; have hk7a:=(Blk.drew hk7).below hb8 (Blk.drew hk7).lt; have ga0:=hk8a.cell 0; have ga1:=hk8a.cell 1; have ga2:=hk8a.cell 2; have ga3:=hk7a.cell 0; have ga4:=hk7a.cell 1; have ga5:=hk7a.cell 2) | (go_at_call 129; (with_reducible refine (BT.out _).mono ?_); rintro e w6 ⟨rfl,hb9⟩; have hk8b:=hk8a.below hb9 hk8a.lt; have hk7b:=hk7a.below hb9 hk7a.lt; have gb0:=hk8b.cell 0; have gb1:=hk8b.cell 1; have gb2:=hk8b.cell 2; have gb3:=hk7b.cell 0; have gb4:=hk7b.cell 1; have gb5:=hk7b.cell 2) | (go_at_call 128; (with_reducible refine (HJ.out _).mono ?_); rintro e w7 ⟨rfl,hb10⟩; have hk8c:=hk8b.below hb10 hk8b.lt; have hk7c:=hk7b.below hb10 hk7b.lt; have gc0:=hk8c.cell 0; have gc1:=hk8c.cell 1; have gc2:=hk8c.cell 2; have gc3:=hk7c.cell 0; have gc4:=hk7c.cell 1; have gc5:=hk7c.cell 2))
  clear q1 q2 q3
  have hbz:=((((below_drewN hb7 1).trans (hb8.mono (below_drewN hb7 1).size)).trans (hb9.mono ((below_drewN hb7 1).trans (hb8.mono (below_drewN hb7 1).size)).size)))
  have hbz2:=hbz.trans (hb10.mono hbz.size)
  clear hb8 hb9 hb10 hbz
  go_wp2_with fail
  go_ret2
  exact ⟨rfl,hbz2⟩
set_option maxHeartbeats 8000000 in
set_option maxRecDepth 100000 in
theorem widen_64 (b:Int) (h0:0≤b) (hb:b<18446744073709551616) (w:World) :
  Calls Tryz.prog 87 #[.int .u64 b,.int .i64 64] w fun e w'=>e=.returned (.tuple #[.int .u64 b,.int .i64 0])∧Below w.heap.size w w':=by
 have HO:=Lib.hid (show ∀ w,Calls Tryz.prog 123 #[.int .i64 64] w fun e w'=>e=.returned (.tuple #[fmV (52,11,64),.bool true])∧Below w.heap.size w w' from float_of 64)
 have HL:=Lib.hid (fun w=>Tryz.bits_Len64 b w h0 (by omega))
 have HP:=Lib.hid (fun w=>parts_64 b h0 (by omega) w)
 have HW:=Lib.hid float_wide
 obtain ⟨bl,hbl⟩:∃ bl:Nat,Lib.bitLen b.toNat=bl:=⟨_,rfl⟩
 have hb2:bl≤64:=by
  have:=bitLen_iff 64 b.toNat (by omega)
  omega
 rw [hbl]at HL
 have z1:¬ (64:Int)<bl:=by omega
 obtain ⟨s,hs⟩:∃ s,b / 9223372036854775808 % 2=s:=⟨_,rfl⟩
 obtain ⟨x,hx⟩:∃ x,b / 4503599627370496 % 2048=x:=⟨_,rfl⟩
 obtain ⟨f,hf⟩:∃ f,b % 4503599627370496=f:=⟨_,rfl⟩
 rw [hs,hx,hf]at HP
 clear hbl hs hx hf
 go_enter Tryz.func87,Tryz.ntmps87
 go_wp2_with fail
 refine (HO.out _).mono ?_
 rintro e w1 ⟨rfl,hb1⟩
 have hb2:=hb1.alloc hb1.size (.cells #[.int .i64 52,.int .i64 11,.int .i64 64] 170)
 have hk2:=Blk.new w1 #[.int .i64 52,.int .i64 11,.int .i64 64] 170
 clear HO
 go_wp2_with fail
 refine (HL.out _).mono ?_
 rintro e w2 ⟨rfl,rfl⟩
 clear HL
 go_wp2_with fail
 refine (HW.out _).mono ?_
 rintro e w2 ⟨rfl,hb3⟩
 have hb4:=hb2.trans (hb3.mono hb2.size)
 have hk4:=hk2.below hb3 hk2.lt
 have hb5:=hb4.alloc hb4.size (.cells #[.int .i64 52,.int .i64 11,.int .i64 64] 170)
 have hk5:=hk4.alloc (.cells #[.int .i64 52,.int .i64 11,.int .i64 64] 170)
 have hk6:=Blk.new w2 #[.int .i64 52,.int .i64 11,.int .i64 64] 170
 have d0:=hk5.cell 0
 have d1:=hk5.cell 1
 have d2:=hk5.cell 2
 clear HW hb3 hb4 hk4 hk2 hb2
 go_wp2_with fail
 refine (HP.out _).mono ?_
 rintro e w3 ⟨rfl,hb6⟩
 have hb7:=hb5.trans (hb6.mono hb5.size)
 have hk7:=hk5.below hb6 hk5.lt
 have hk8:=hk6.below hb6 hk6.lt
 clear d0 d1 d2 hb6 hb5 hk5 hk6 HP
 have d0:=hk7.cell 0
 have d1:=hk7.cell 1
 have d2:=hk7.cell 2
 have e0:=hk8.cell 0
 have e1:=hk8.cell 1
 have e2:=hk8.cell 2
 go_wp2_with fail
 go_ret2
 exact ⟨rfl,hb7⟩
set_option maxHeartbeats 8000000 in
set_option maxRecDepth 100000 in
theorem widen_other (b wd:Int) (h1:¬ wd=16) (h2:¬ wd=32) (h3:¬ wd=64) (w:World) :
  Calls Tryz.prog 87 #[.int .u64 b,.int .i64 wd] w fun e w'=>e=.returned (.tuple #[.int .u64 0,.int .i64 2])∧Below w.heap.size w w':=by
 have hw:ofW wd=((0,0,0),false):=by
  unfold ofW
  rw [if_neg h1,if_neg h2,if_neg h3]
 have HO:=Lib.hid (float_of wd)
 rw [hw]at HO
 have HO:Hid (∀ w,Calls Tryz.prog 123 #[.int .i64 wd] w fun e w'=>e=.returned (.tuple #[.agg #[.int .i64 0,.int .i64 0,.int .i64 0],.bool false])∧Below w.heap.size w w'):=HO
 clear hw
 go_enter Tryz.func87,Tryz.ntmps87
 go_wp2_with fail
 refine (HO.out _).mono ?_
 rintro e w1 ⟨rfl,hb1⟩
 have hb2:=hb1.alloc hb1.size (.cells #[.int .i64 0,.int .i64 0,.int .i64 0] 170)
 clear HO hb1
 go_wp2_with fail
 go_ret2
 exact ⟨rfl,hb2⟩
theorem float_Widen (b wd:Int) (h0:0≤b) (hb:b<18446744073709551616) (w:World) :
  Calls Tryz.prog 87 #[.int .u64 b,.int .i64 wd] w fun e w'=>e=.returned (.tuple #[.int .u64 (widenV b wd),.int .i64 (if wideOk b wd=true then 0 else 2)])∧Below w.heap.size w w':=by
 unfold widenV wideOk
 by_cases h3:wd=64
 ·subst h3
  exact widen_64 b h0 hb w
 ·rw [if_neg h3]
  by_cases h1:wd=16
  ·subst h1
   rw [if_pos rfl,if_pos rfl]
   by_cases hlt:b<65536
   ·rw [decide_eq_true hlt]
    exact widen_16_yes b h0 hlt w
   ·rw [decide_eq_false hlt]
    exact widen_16_no b h0 hb hlt w
  ·rw [if_neg h1,if_neg h1]
   by_cases h2:wd=32
   ·subst h2
    rw [if_pos rfl,if_pos rfl]
    by_cases hlt:b<4294967296
    ·rw [decide_eq_true hlt]
     exact widen_32_yes b h0 hlt w
    ·rw [decide_eq_false hlt]
     exact widen_32_no b h0 hb hlt w
   ·rw [if_neg h2]
    exact widen_other b wd h1 h2 h3 w
end Go.Proofs.YtonihophanmaaaaGreatDoor
