/- The texts FloD, put together. -/
import Derived.Test.YtonihophanmaaaaGreatDoorPc24
set_option maxHeartbeats 8000000
set_option maxRecDepth 100000
namespace Go.Proofs.YtonihophanmaaaaGreatDoor
open Go.RowKit Go.Shelf
theorem zke (f:Int) (a:0≤f) (b:f<4503599627370496):bits .or .u64 f 4503599627370496=f+4503599627370496:=by
 obtain ⟨f,rfl⟩:=Int.eq_ofNat_of_zero_le a
 rw [show (4503599627370496:Int)=((4503599627370496:Nat):Int) from rfl,bits_or_u64_nat _ _ (by omega) (by omega),Nat.or_comm,show (4503599627370496:Nat)=2 ^ 52*1 by decide,← Nat.two_pow_add_eq_or_of_lt (by omega)]
 omega
theorem xr (n:Nat) (hn:n≤63) (w:World):Calls Tryz.prog 127 #[.int .i64 n] w fun e d=>e=.returned (.int .u64 ((2:Int) ^ n - 1))∧d=w:=by
 have a:(1:Int)≤2 ^ n:=by
  have:=Int.pow_pos (n:=2) (m:=n) (by decide)
  omega
 have b:(2:Int) ^ n≤9223372036854775808:=by
  have:=Nat.pow_le_pow_right (show 0<2 by decide) hn
  have f:(2:Nat) ^ 63=9223372036854775808:=by decide
  have g:((2 ^ n:Nat):Int)=(2:Int) ^ n:=by norm_cast
  omega
 have h:¬ ((n:Int)<0):=by omega
 have i:min n 64=n:=by omega
 obtain ⟨P,c⟩:∃ P:Int,(2:Int) ^ n=P:=⟨_,rfl⟩
 rw [c]at a b ⊢
 have j:IntKind.u64.wrap P=P:=by rw [IntKind.wrap_u64]; omega
 have k:IntKind.u64.wrap (P - 1)=P - 1:=by rw [IntKind.wrap_u64]; omega
 go_enter Tryz.func127,Tryz.ntmps127
 go_wp2_with fail
 go_ret
 exact ⟨rfl,rfl⟩
theorem ziF (s x f:Int) (d:0≤s∧s≤1) (e:0≤x∧x≤31) (c:0≤f∧f<1024) :
  bits .or .u64 (bits .or .u64 (s*32768) (x*1024)) f=s*32768+x*1024+f:=by
 obtain ⟨s,rfl⟩:=Int.eq_ofNat_of_zero_le d.1
 obtain ⟨x,rfl⟩:=Int.eq_ofNat_of_zero_le e.1
 obtain ⟨f,rfl⟩:=Int.eq_ofNat_of_zero_le c.1
 have a:=zac 15 s (x*1024) (by omega) (by omega)
 rw [show ((s:Int)*32768)=((2 ^ 15*s:Nat):Int) by omega,show ((x:Int)*1024)=((x*1024:Nat):Int) by omega,a]
 have b:=zac 10 (32*s+x) f (by omega) (by omega)
 rw [show (2 ^ 15*s+x*1024:Nat)=2 ^ 10*(32*s+x) by omega,b]
 omega
theorem yu (s x f:Int) (d:0≤s∧s≤1) (g:0≤x∧x≤31) (c:0≤f∧f<1024) (w:World) :
  Calls Tryz.prog 128 #[.agg #[.int .i64 10,.int .i64 5,.int .i64 16],.int .u64 s,.int .i64 x,.int .u64 f] w fun e w'=>e=.returned (.int .u64 (s*32768+x*1024+f))∧Below w.heap.size w w':=by
 have a:=(Below.refl w.heap.size w).alloc (Nat.le_refl _) (.cells #[.int .i64 10,.int .i64 5,.int .i64 16] 170)
 have b:=Lib.hid (ziF s x f d g c)
 have h:IntKind.u64.wrap (s*32768)=s*32768:=by rw [IntKind.wrap_u64]; omega
 have i:IntKind.u64.wrap (x*1024)=x*1024:=by rw [IntKind.wrap_u64]; omega
 go_enter Tryz.func128,Tryz.ntmps128
 go_wp2_with fail
 go_region
 go_wp2_with fail
 go_ret
 exact ⟨congrArg (fun v=>Ending.returned (.int .u64 v)) b.out,Go.below_drewN a 1⟩
theorem zj4 (b:Int) (h0:0≤b) (hb:b<18446744073709551616) (w:World) :
  Calls Tryz.prog 92 #[.int .u64 b,.int .i64 16] w fun e w'=>e=.returned (.tuple #[.int .u64 ((qQ 10 5 b).getD 0),.bool (qQ 10 5 b).isSome])∧Below w.heap.size w w':=by
 have HO:=Lib.hid (show ∀ w,Calls Tryz.prog 123 #[.int .i64 16] w fun e w'=>e=.returned (.tuple #[.agg #[.int .i64 10,.int .i64 5,.int .i64 16],.bool true])∧Below w.heap.size w w' from kB 16)
 have HP:=Lib.hid (show ∀ w,Calls Tryz.prog 126 #[.agg #[.int .i64 52,.int .i64 11,.int .i64 64],.int .u64 b] w fun e w'=>e=.returned (.tuple #[.int .u64 (b / 9223372036854775808 % 2),.int .i64 (b / 4503599627370496 % 2048),.int .u64 (b % 4503599627370496)])∧Below w.heap.size w w' from fun w=>zcw b h0 (by omega) w)
 have HW:=Lib.hid kQ
 have BF:=Lib.hid (show ∀ w,Calls Tryz.prog 129 #[.agg #[.int .i64 10,.int .i64 5,.int .i64 16]] w fun e w'=>e=.returned (.int .i64 15)∧Below w.heap.size w w' from zdD)
 have BT:=Lib.hid (show ∀ w,Calls Tryz.prog 129 #[.agg #[.int .i64 52,.int .i64 11,.int .i64 64]] w fun e w'=>e=.returned (.int .i64 1023)∧Below w.heap.size w w' from wF)
 obtain ⟨r,hr⟩:∃ r,qQ 10 5 b=r:=⟨_,rfl⟩
 rw [hr]
 rw [zdR]at hr
 obtain ⟨s,hs⟩:∃ s,b / 9223372036854775808 % 2=s:=⟨_,rfl⟩
 obtain ⟨x,hx⟩:∃ x,b / 4503599627370496 % 2048=x:=⟨_,rfl⟩
 obtain ⟨f,hf⟩:∃ f,b % 4503599627370496=f:=⟨_,rfl⟩
 rw [show b / 9223372036854775808=s by omega,hx,hf]at hr
 rw [hs,hx,hf]at HP
 have bs:0≤s∧s≤1:=by omega
 have bx:0≤x∧x≤2047:=by omega
 have bf:0≤f∧f<4503599627370496:=by omega
 clear hs hx hf h0 hb
 have HR:=Lib.hid hr
 clear hr
 obtain ⟨bs1,bs2⟩:=bs
 obtain ⟨bx1,bx2⟩:=bx
 obtain ⟨bf1,bf2⟩:=bf
 obtain ⟨ee,hee⟩:∃ ee,x - 1023+15=ee:=⟨_,rfl⟩
 rw [hee]at HR
 have q1:IntKind.i64.wrap (x - 1023)=x - 1023:=IntWalk.i64_in _ (by omega)
 have q2:IntKind.i64.wrap (x - 1023+15)=ee:=by rw [IntWalk.i64_in _ (by omega),hee]
 have hwe:wrap64 ee=ee:=by unfold wrap64; omega
 have hwi:IntKind.i64.wrap ee=ee:=IntWalk.i64_in _ (by omega)
 go_enter Tryz.func92,Tryz.ntmps92
 go_wp2_with fail
 apply jJ 0 rfl
 go_wp2_with fail
 refine (HW.out _).mono ?_
 rintro e w1 ⟨rfl,hb1⟩
 have hb2:=hb1.alloc hb1.size (.cells #[.int .i64 52,.int .i64 11,.int .i64 64] 170)
 have hk2:=Blk.new w1 #[.int .i64 52,.int .i64 11,.int .i64 64] 170
 clear HW hb1
 go_wp2_with fail
 refine (HO.out _).mono ?_
 rintro e w2 ⟨rfl,hb3⟩
 have hb4:=hb2.trans (hb3.mono hb2.size)
 have hk4:=(hk2.below hb3 hk2.lt).alloc (.cells #[.int .i64 10,.int .i64 5,.int .i64 16] 170)
 have hf4:=Blk.new w2 #[.int .i64 10,.int .i64 5,.int .i64 16] 170
 have hb5:=hb4.alloc hb4.size (.cells #[.int .i64 10,.int .i64 5,.int .i64 16] 170)
 clear HO hb2 hk2 hb3 hb4
 have d0:=hk4.cell 0
 have d1:=hk4.cell 1
 have d2:=hk4.cell 2
 have e0:=hf4.cell 0
 have e1:=hf4.cell 1
 have e2:=hf4.cell 2
 go_wp2_with fail
 refine (HP.out _).mono ?_
 rintro e w3 ⟨rfl,hb6⟩
 have hb7:=hb5.trans (hb6.mono hb5.size)
 have hk7:=hk4.below hb6 hk4.lt
 have hf7:=hf4.below hb6 hf4.lt
 clear d0 d1 d2 e0 e1 e2 hb6 hb5 hk4 hf4 HP
 have d0:=hk7.cell 0
 have d1:=hk7.cell 1
 have d2:=hk7.cell 2
 have e0:=hf7.cell 0
 have e1:=hf7.cell 1
 have e2:=hf7.cell 2
 go_wp2_with fail
 go_region_held3 (fun w'=>w'.cell? ⟨w1.heap.size,0,none⟩=some (.int .i64 52)∧w'.cell? ⟨w1.heap.size,1,none⟩=some (.int .i64 11)∧w'.cell? ⟨w1.heap.size,2,none⟩=some (.int .i64 64)∧w'.cell? ⟨w2.heap.size,0,none⟩=some (.int .i64 10)∧w'.cell? ⟨w2.heap.size,1,none⟩=some (.int .i64 5)∧w'.cell? ⟨w2.heap.size,2,none⟩=some (.int .i64 16)) (go_keep)
  (first | (go_at_call 129; (with_reducible refine (BT.out _).mono ?_); rintro e w5 ⟨rfl,hb8⟩; have hk8a:=(Blk.drew hk7).below hb8 (Blk.drew hk7).lt; have hf8a:=(Blk.drew hf7).below hb8 (Blk.drew hf7).lt; have ga0:=hk8a.cell 0; have ga1:=hk8a.cell 1; have ga2:=hk8a.cell 2; have ga3:=hf8a.cell 0; have ga4:=hf8a.cell 1; have ga5:=hf8a.cell 2) | (go_at_call 129; (with_reducible refine (BF.out _).mono ?_); rintro e w7 ⟨rfl,hb9⟩; have hk8b:=hk8a.below hb9 hk8a.lt; have hf8b:=hf8a.below hb9 hf8a.lt; have gb0:=hk8b.cell 0; have gb1:=hk8b.cell 1; have gb2:=hk8b.cell 2; have gb3:=hf8b.cell 0; have gb4:=hf8b.cell 1; have gb5:=hf8b.cell 2))
 have hbB:=((((Go.below_drewN hb7 1).trans (hb8.mono (Go.below_drewN hb7 1).size)).trans (hb9.mono ((Go.below_drewN hb7 1).trans (hb8.mono (Go.below_drewN hb7 1).size)).size)))
 have HB:=Lib.hid (And.intro hk8b (And.intro hf8b hbB))
 clear hb7 hb8 hb9 hk7 hf7 hk8a hf8a hk8b hf8b hbB BF BT q1 q2 ga0 ga1 ga2 ga3 ga4 ga5 d0 d1 d2 e0 e1 e2
 go_wp2_with fail
 refine (zab _).mono ?_
 rintro e w8 ⟨rfl,rfl⟩
 by_cases hA:x=2047
 ·have HRA:=Lib.hid (show zN 10 5 s 31 f 42=r from by
   have h:=HR.out
   rw [if_pos hA]at h
   exact h)
  clear HR
  subst hA
  clear hee
  go_wp2_with fail
  refine (zbv _).mono ?_
  rintro e w8 ⟨rfl,rfl⟩
  have HN:=Lib.hid (fun W=>xr 42 (by decide) W)
  have HN:Hid (∀ W,Calls Tryz.prog 127 #[.int .i64 42] W fun e w'=>e=.returned (.int .u64 4398046511103)∧w'=W):=HN
  have y1:=jF 42 (by decide) f (by omega) (by omega)
  have y1:bits .and .u64 f 4398046511103=f % 4398046511104:=y1
  obtain ⟨m,hm⟩:∃ m,f % 4398046511104=m:=⟨_,rfl⟩
  rw [hm]at y1
  go_wp2_with fail
  refine (HN.out _).mono ?_
  rintro e w8 ⟨rfl,rfl⟩
  by_cases hm0:m=0
  ·subst hm0
   have HJ:=Lib.hid (yu s 31 (f / 4398046511104) ⟨bs1,bs2⟩ (by omega) (by omega))
   have hrv:r=some (s*32768+31*1024+f / 4398046511104):=by
    rw [← HRA.out]
    exact yZ hm rfl
   subst hrv
   clear HRA
   go_wp2_with fail
   go_region_held3 (fun w'=>w'.cell? ⟨w1.heap.size,0,none⟩=some (.int .i64 52)∧w'.cell? ⟨w1.heap.size,1,none⟩=some (.int .i64 11)∧w'.cell? ⟨w1.heap.size,2,none⟩=some (.int .i64 64)∧w'.cell? ⟨w2.heap.size,0,none⟩=some (.int .i64 10)∧w'.cell? ⟨w2.heap.size,1,none⟩=some (.int .i64 5)∧w'.cell? ⟨w2.heap.size,2,none⟩=some (.int .i64 16)) (go_keep)
    (first | (go_at_call 128; (with_reducible refine (HJ.out _).mono ?_); rintro e w9 ⟨rfl,hb9⟩; have hk9:=(Blk.drew HB.out.1).below hb9 (Blk.drew HB.out.1).lt; have hf9:=(Blk.drew HB.out.2.1).below hb9 (Blk.drew HB.out.2.1).lt; have gc0:=hk9.cell 0; have gc1:=hk9.cell 1; have gc2:=hk9.cell 2; have gc3:=hf9.cell 0; have gc4:=hf9.cell 1; have gc5:=hf9.cell 2))
   go_wp2_with fail
   rw [jO]
   refine bodyPost_ret (v:=.tuple #[.int .u64 (s*32768+31*1024+(f / 4398046511104)),.bool true]) (by simp [results,Tryz.results92,go_sem]) rfl ⟨by simp,(Go.below_drewN HB.out.2.2 1).trans (hb9.mono HB.out.2.2.size)⟩
  ·have hrv:r=none:=by
    rw [← HRA.out]
    unfold zN
    rw [if_neg (show ¬ f % 2 ^ 42=0 from (show ¬ f % 4398046511104=0 by omega))]
   subst hrv
   clear HRA
   have y2:(m != 0)=true:=by rw [bne_iff_ne]; exact hm0
   go_wp2_with fail
   go_step3
   simp +zetaDelta only [Exit.then,ju]
   go_wp2_with fail
   rw [Exit.noGoto_ret]
   refine bodyPost_ret (v:=.tuple #[.int .u64 0,.bool false]) (by simp [results,Tryz.results92,go_sem]) rfl ⟨by simp,HB.out.2.2⟩
 have hA1:(x == 2047)=false:=by rw [beq_eq_false_iff_ne]; exact hA
 by_cases hB:x=0∧f=0
 ·have hrv:r=some (s*32768):=by
   have h:=HR.out
   rw [if_neg hA,if_pos hB]at h
   rw [← h]
   exact yZ (by decide) (by omega)
  subst hrv
  obtain ⟨hx0,hf0⟩:=hB
  subst hx0
  subst hf0
  clear HR hee
  have HN:Hid (∀ W,Calls Tryz.prog 127 #[.int .i64 42] W fun e w'=>e=.returned (.int .u64 4398046511103)∧w'=W):=Lib.hid (fun W=>xr 42 (by decide) W)
  have y1:bits .and .u64 0 4398046511103=0:=by decide
  have HJ:Hid (∀ W,Calls Tryz.prog 128 #[.agg #[.int .i64 10,.int .i64 5,.int .i64 16],.int .u64 s,.int .i64 0,.int .u64 0] W fun e w'=>e=.returned (.int .u64 (s*32768))∧Below W.heap.size W w'):=Lib.hid (fun W=>by
   have h:=yu s 0 0 ⟨bs1,bs2⟩ (by omega) (by omega) W
   rw [show s*32768+0*1024+0=s*32768 by omega]at h
   exact h)
  go_wp2_with fail
  refine (HN.out _).mono ?_
  rintro e w8 ⟨rfl,rfl⟩
  go_wp2_with fail
  go_region_held3 (fun w'=>w'.cell? ⟨w1.heap.size,0,none⟩=some (.int .i64 52)∧w'.cell? ⟨w1.heap.size,1,none⟩=some (.int .i64 11)∧w'.cell? ⟨w1.heap.size,2,none⟩=some (.int .i64 64)∧w'.cell? ⟨w2.heap.size,0,none⟩=some (.int .i64 10)∧w'.cell? ⟨w2.heap.size,1,none⟩=some (.int .i64 5)∧w'.cell? ⟨w2.heap.size,2,none⟩=some (.int .i64 16)) (go_keep)
   (first | (go_at_call 128; (with_reducible refine (HJ.out _).mono ?_); rintro e w9 ⟨rfl,hb9⟩; have hk9:=(Blk.drew HB.out.1).below hb9 (Blk.drew HB.out.1).lt; have hf9:=(Blk.drew HB.out.2.1).below hb9 (Blk.drew HB.out.2.1).lt; have gc0:=hk9.cell 0; have gc1:=hk9.cell 1; have gc2:=hk9.cell 2; have gc3:=hf9.cell 0; have gc4:=hf9.cell 1; have gc5:=hf9.cell 2))
  go_wp2_with fail
  rw [jO]
  refine bodyPost_ret (v:=.tuple #[.int .u64 (s*32768),.bool true]) (by simp [results,Tryz.results92,go_sem]) rfl ⟨by simp,(Go.below_drewN HB.out.2.2 1).trans (hb9.mono HB.out.2.2.size)⟩
 by_cases hC:0<ee∧ee<31
 ·have HRA:=Lib.hid (show zN 10 5 s ee f 42=r from by
   have h:=HR.out
   rw [if_neg hA,if_neg hB,if_pos hC]at h
   exact h)
  obtain ⟨c1,c2⟩:=hC
  have hx1:(x == 0)=false:=by rw [beq_eq_false_iff_ne]; omega
  clear HR hA hB hee
  go_wp2_with fail
  refine (zbv _).mono ?_
  rintro e w8 ⟨rfl,rfl⟩
  have HN:=Lib.hid (fun W=>xr 42 (by decide) W)
  have HN:Hid (∀ W,Calls Tryz.prog 127 #[.int .i64 42] W fun e w'=>e=.returned (.int .u64 4398046511103)∧w'=W):=HN
  have y1:=jF 42 (by decide) f (by omega) (by omega)
  have y1:bits .and .u64 f 4398046511103=f % 4398046511104:=y1
  obtain ⟨m,hm⟩:∃ m,f % 4398046511104=m:=⟨_,rfl⟩
  rw [hm]at y1
  go_wp2_with fail
  refine (HN.out _).mono ?_
  rintro e w8 ⟨rfl,rfl⟩
  by_cases hm0:m=0
  ·subst hm0
   have HJ:=Lib.hid (yu s ee (f / 4398046511104) ⟨bs1,bs2⟩ (by omega) (by omega))
   have hrv:r=some (s*32768+ee*1024+f / 4398046511104):=by
    rw [← HRA.out]
    exact yZ hm rfl
   subst hrv
   clear HRA
   go_wp2_with fail
   go_region_held3 (fun w'=>w'.cell? ⟨w1.heap.size,0,none⟩=some (.int .i64 52)∧w'.cell? ⟨w1.heap.size,1,none⟩=some (.int .i64 11)∧w'.cell? ⟨w1.heap.size,2,none⟩=some (.int .i64 64)∧w'.cell? ⟨w2.heap.size,0,none⟩=some (.int .i64 10)∧w'.cell? ⟨w2.heap.size,1,none⟩=some (.int .i64 5)∧w'.cell? ⟨w2.heap.size,2,none⟩=some (.int .i64 16)) (go_keep)
    (first | (go_at_call 128; (with_reducible refine (HJ.out _).mono ?_); rintro e w9 ⟨rfl,hb9⟩; have hk9:=(Blk.drew HB.out.1).below hb9 (Blk.drew HB.out.1).lt; have hf9:=(Blk.drew HB.out.2.1).below hb9 (Blk.drew HB.out.2.1).lt; have gc0:=hk9.cell 0; have gc1:=hk9.cell 1; have gc2:=hk9.cell 2; have gc3:=hf9.cell 0; have gc4:=hf9.cell 1; have gc5:=hf9.cell 2))
   go_wp2_with fail
   rw [jO]
   refine bodyPost_ret (v:=.tuple #[.int .u64 (s*32768+ee*1024+(f / 4398046511104)),.bool true]) (by simp [results,Tryz.results92,go_sem]) rfl ⟨by simp,(Go.below_drewN HB.out.2.2 1).trans (hb9.mono HB.out.2.2.size)⟩
  ·have hrv:r=none:=by
    rw [← HRA.out]
    unfold zN
    rw [if_neg (show ¬ f % 2 ^ 42=0 from (show ¬ f % 4398046511104=0 by omega))]
   subst hrv
   clear HRA
   have y2:(m != 0)=true:=by rw [bne_iff_ne]; exact hm0
   go_wp2_with fail
   go_step3
   simp +zetaDelta only [Exit.then,ju]
   go_wp2_with fail
   rw [Exit.noGoto_ret]
   refine bodyPost_ret (v:=.tuple #[.int .u64 0,.bool false]) (by simp [results,Tryz.results92,go_sem]) rfl ⟨by simp,HB.out.2.2⟩
 by_cases hD:0<x∧ee≤0∧-10<ee
 ·obtain ⟨d,hd⟩:∃ d:Nat,(1023 - 15 - x).toNat=d:=⟨_,rfl⟩
  have hed:ee = -(d:Int):=by omega
  have hdp:d<10:=by omega
  obtain ⟨ln,hln⟩:∃ ln:Nat,43+d=ln:=⟨_,rfl⟩
  have HRA:=Lib.hid (show zN 10 5 s 0 (f+4503599627370496) ln=r from by
   have h:=HR.out
   rw [if_neg hA,if_neg hB,if_neg hC,if_pos hD,hd,hln]at h
   exact h)
  obtain ⟨c1,c2,c3⟩:=hD
  have hx1:(x == 0)=false:=by rw [beq_eq_false_iff_ne]; omega
  have yo:=zke f bf1 bf2
  obtain ⟨F,hF⟩:∃ F,f+4503599627370496=F:=⟨_,rfl⟩
  rw [hF]at yo HRA
  have bF:0≤F∧F<9007199254740992:=by omega
  obtain ⟨bF1,bF2⟩:=bF
  have hl63:ln≤63:=by omega
  have HN:=Lib.hid (fun W=>xr ln hl63 W)
  have y1:=jF ln hl63 F bF1 (by omega)
  obtain ⟨P,hP⟩:∃ P:Int,(2:Int) ^ ln=P:=⟨_,rfl⟩
  have hPb:8796093022208≤P:=by
   rw [← hP]
   have h2:=Nat.pow_le_pow_right (show 0<2 by decide) (show 43≤ln by omega)
   have h3:(2:Nat) ^ 43=8796093022208:=by decide
   have h4:((2 ^ ln:Nat):Int)=(2:Int) ^ ln:=by norm_cast
   omega
  have hFP:0≤F / P∧F / P<1024:=by
   refine ⟨Int.ediv_nonneg bF1 (by omega),Int.ediv_lt_of_lt_mul (by omega) ?_⟩
   have:1024*8796093022208≤1024*P:=Int.mul_le_mul_of_nonneg_left hPb (by decide)
   omega
  have HJ:=Lib.hid (yu s 0 (F / P) ⟨bs1,bs2⟩ (by omega) hFP)
  rw [hP]at HN y1
  have q3:IntKind.i64.wrap (43 - ee)=(ln:Int):=by rw [IntWalk.i64_in _ (by omega)]; omega
  have y3:¬ ((ln:Int)<0):=by omega
  have y4:min ln 64=ln:=by omega
  obtain ⟨m,hm⟩:∃ m,F % P=m:=⟨_,rfl⟩
  rw [hm]at y1
  have HM:=Lib.hid hm
  have HPP:=Lib.hid hP
  clear HR hA hB hC hee hd hed hdp hln hF hPb hFP hm hl63
  go_wp2_with fail
  go_region
  have HD:=Lib.hid (And.intro (Blk.drew HB.out.1) (And.intro (Blk.drew HB.out.2.1) (Go.below_drewN HB.out.2.2 1)))
  have d0:=HD.out.1.cell 0
  have d1:=HD.out.1.cell 1
  have d2:=HD.out.1.cell 2
  have e0:=HD.out.2.1.cell 0
  have e1:=HD.out.2.1.cell 1
  have e2:=HD.out.2.1.cell 2
  clear yo q3 HB
  go_wp2_with fail
  refine (HN.out _).mono ?_
  rintro e w9 ⟨rfl,rfl⟩
  have hP:=HPP.out
  by_cases hm0:m=0
  ·subst hm0
   have hrv:r=some (s*32768+0*1024+F / P):=by
    rw [← HRA.out]
    unfold zN
    rw [hP,if_pos HM.out]
    rfl
   subst hrv
   clear HRA HM HPP
   go_wp2_with fail
   go_region_held3 (fun w'=>w'.cell? ⟨w1.heap.size,0,none⟩=some (.int .i64 52)∧w'.cell? ⟨w1.heap.size,1,none⟩=some (.int .i64 11)∧w'.cell? ⟨w1.heap.size,2,none⟩=some (.int .i64 64)∧w'.cell? ⟨w2.heap.size,0,none⟩=some (.int .i64 10)∧w'.cell? ⟨w2.heap.size,1,none⟩=some (.int .i64 5)∧w'.cell? ⟨w2.heap.size,2,none⟩=some (.int .i64 16)) (go_keep)
    (first | (go_at_call 128; (with_reducible refine (HJ.out _).mono ?_); rintro e w9 ⟨rfl,hb9⟩; have hk9:=(Blk.drew HD.out.1).below hb9 (Blk.drew HD.out.1).lt; have hf9:=(Blk.drew HD.out.2.1).below hb9 (Blk.drew HD.out.2.1).lt; have gc0:=hk9.cell 0; have gc1:=hk9.cell 1; have gc2:=hk9.cell 2; have gc3:=hf9.cell 0; have gc4:=hf9.cell 1; have gc5:=hf9.cell 2))
   go_wp2_with fail
   rw [jO]
   refine bodyPost_ret (v:=.tuple #[.int .u64 (s*32768+0*1024+(F / P)),.bool true]) (by simp [results,Tryz.results92,go_sem]) rfl ⟨by simp,(Go.below_drewN HD.out.2.2 1).trans (hb9.mono HD.out.2.2.size)⟩
  ·have hrv:r=none:=by
    rw [← HRA.out]
    unfold zN
    rw [hP,if_neg (fun q=>hm0 (by rw [← HM.out,q]))]
   subst hrv
   have y2:(m != 0)=true:=by rw [bne_iff_ne]; exact hm0
   clear HRA HM HPP
   go_wp2_with fail
   go_step3
   simp +zetaDelta only [Exit.then,ju]
   go_wp2_with fail
   rw [Exit.noGoto_ret]
   refine bodyPost_ret (v:=.tuple #[.int .u64 0,.bool false]) (by simp [results,Tryz.results92,go_sem]) rfl ⟨by simp,HD.out.2.2⟩
 ·have hrv:r=none:=by
   have h:=HR.out
   rw [if_neg hA,if_neg hB,if_neg hC,if_neg hD]at h
   exact h.symm
  subst hrv
  clear HR
  have hbB:=HB.out.2.2
  by_cases h1:31≤ee
  ·have hx1:(x == 0)=false:=by rw [beq_eq_false_iff_ne]; omega
   have c1:0<ee:=by omega
   have c2:¬ ee<31:=by omega
   have c3:¬ ee≤0:=by omega
   have c4:0<x:=by omega
   clear hA hB hC hD hee
   go_wp2_with fail
   refine (zbv _).mono ?_
   rintro e w8 ⟨rfl,rfl⟩
   go_wp2_with fail
   go_step3
   simp +zetaDelta only [Exit.inBlock,Exit.then,ju]
   go_wp2_with fail
   rw [Exit.noGoto_ret]
   refine bodyPost_ret (v:=.tuple #[.int .u64 0,.bool false]) (by simp [results,Tryz.results92,go_sem]) rfl ⟨by simp,hbB⟩
  ·have c1:¬ 0<ee:=by omega
   by_cases h2:x=0
   ·have hf1:(f == 0)=false:=by rw [beq_eq_false_iff_ne]; exact fun e=>hB ⟨h2,e⟩
    subst h2
    clear hA hB hC hD hee
    go_wp2_with fail
    go_step3
    simp +zetaDelta only [Exit.inBlock,Exit.then,ju]
    go_wp2_with fail
    rw [Exit.noGoto_ret]
    refine bodyPost_ret (v:=.tuple #[.int .u64 0,.bool false]) (by simp [results,Tryz.results92,go_sem]) rfl ⟨by simp,hbB⟩
   ·have hx1:(x == 0)=false:=by rw [beq_eq_false_iff_ne]; exact h2
    have c4:0<x:=by omega
    have c5:ee≤0:=by omega
    have c6:¬ -10<ee:=by omega
    clear hA hB hC hD hee
    go_wp2_with fail
    go_step3
    simp +zetaDelta only [Exit.inBlock,Exit.then,ju]
    go_wp2_with fail
    rw [Exit.noGoto_ret]
    refine bodyPost_ret (v:=.tuple #[.int .u64 0,.bool false]) (by simp [results,Tryz.results92,go_sem]) rfl ⟨by simp,hbB⟩
theorem ziG (s x f:Int) (d:0≤s∧s≤1) (e:0≤x∧x≤255) (c:0≤f∧f<8388608) :
  bits .or .u64 (bits .or .u64 (s*2147483648) (x*8388608)) f=s*2147483648+x*8388608+f:=by
 obtain ⟨s,rfl⟩:=Int.eq_ofNat_of_zero_le d.1
 obtain ⟨x,rfl⟩:=Int.eq_ofNat_of_zero_le e.1
 obtain ⟨f,rfl⟩:=Int.eq_ofNat_of_zero_le c.1
 have a:=zac 31 s (x*8388608) (by omega) (by omega)
 rw [show ((s:Int)*2147483648)=((2 ^ 31*s:Nat):Int) by omega,show ((x:Int)*8388608)=((x*8388608:Nat):Int) by omega,a]
 have b:=zac 23 (256*s+x) f (by omega) (by omega)
 rw [show (2 ^ 31*s+x*8388608:Nat)=2 ^ 23*(256*s+x) by omega,b]
 omega
theorem yv (s x f:Int) (d:0≤s∧s≤1) (g:0≤x∧x≤255) (c:0≤f∧f<8388608) (w:World) :
  Calls Tryz.prog 128 #[.agg #[.int .i64 23,.int .i64 8,.int .i64 32],.int .u64 s,.int .i64 x,.int .u64 f] w fun e w'=>e=.returned (.int .u64 (s*2147483648+x*8388608+f))∧Below w.heap.size w w':=by
 have a:=(Below.refl w.heap.size w).alloc (Nat.le_refl _) (.cells #[.int .i64 23,.int .i64 8,.int .i64 32] 170)
 have b:=Lib.hid (ziG s x f d g c)
 have h:IntKind.u64.wrap (s*2147483648)=s*2147483648:=by rw [IntKind.wrap_u64]; omega
 have i:IntKind.u64.wrap (x*8388608)=x*8388608:=by rw [IntKind.wrap_u64]; omega
 go_enter Tryz.func128,Tryz.ntmps128
 go_wp2_with fail
 go_region
 go_wp2_with fail
 go_ret
 exact ⟨congrArg (fun v=>Ending.returned (.int .u64 v)) b.out,Go.below_drewN a 1⟩
theorem zj5 (b:Int) (h0:0≤b) (hb:b<18446744073709551616) (w:World) :
  Calls Tryz.prog 92 #[.int .u64 b,.int .i64 32] w fun e w'=>e=.returned (.tuple #[.int .u64 ((qQ 23 8 b).getD 0),.bool (qQ 23 8 b).isSome])∧Below w.heap.size w w':=by
 have HO:=Lib.hid (show ∀ w,Calls Tryz.prog 123 #[.int .i64 32] w fun e w'=>e=.returned (.tuple #[.agg #[.int .i64 23,.int .i64 8,.int .i64 32],.bool true])∧Below w.heap.size w w' from kB 32)
 have HP:=Lib.hid (show ∀ w,Calls Tryz.prog 126 #[.agg #[.int .i64 52,.int .i64 11,.int .i64 64],.int .u64 b] w fun e w'=>e=.returned (.tuple #[.int .u64 (b / 9223372036854775808 % 2),.int .i64 (b / 4503599627370496 % 2048),.int .u64 (b % 4503599627370496)])∧Below w.heap.size w w' from fun w=>zcw b h0 (by omega) w)
 have HW:=Lib.hid kQ
 have BF:=Lib.hid (show ∀ w,Calls Tryz.prog 129 #[.agg #[.int .i64 23,.int .i64 8,.int .i64 32]] w fun e w'=>e=.returned (.int .i64 127)∧Below w.heap.size w w' from zdE)
 have BT:=Lib.hid (show ∀ w,Calls Tryz.prog 129 #[.agg #[.int .i64 52,.int .i64 11,.int .i64 64]] w fun e w'=>e=.returned (.int .i64 1023)∧Below w.heap.size w w' from wF)
 obtain ⟨r,hr⟩:∃ r,qQ 23 8 b=r:=⟨_,rfl⟩
 rw [hr]
 rw [zdS]at hr
 obtain ⟨s,hs⟩:∃ s,b / 9223372036854775808 % 2=s:=⟨_,rfl⟩
 obtain ⟨x,hx⟩:∃ x,b / 4503599627370496 % 2048=x:=⟨_,rfl⟩
 obtain ⟨f,hf⟩:∃ f,b % 4503599627370496=f:=⟨_,rfl⟩
 rw [show b / 9223372036854775808=s by omega,hx,hf]at hr
 rw [hs,hx,hf]at HP
 have bs:0≤s∧s≤1:=by omega
 have bx:0≤x∧x≤2047:=by omega
 have bf:0≤f∧f<4503599627370496:=by omega
 clear hs hx hf h0 hb
 have HR:=Lib.hid hr
 clear hr
 obtain ⟨bs1,bs2⟩:=bs
 obtain ⟨bx1,bx2⟩:=bx
 obtain ⟨bf1,bf2⟩:=bf
 obtain ⟨ee,hee⟩:∃ ee,x - 1023+127=ee:=⟨_,rfl⟩
 rw [hee]at HR
 have q1:IntKind.i64.wrap (x - 1023)=x - 1023:=IntWalk.i64_in _ (by omega)
 have q2:IntKind.i64.wrap (x - 1023+127)=ee:=by rw [IntWalk.i64_in _ (by omega),hee]
 have hwe:wrap64 ee=ee:=by unfold wrap64; omega
 have hwi:IntKind.i64.wrap ee=ee:=IntWalk.i64_in _ (by omega)
 go_enter Tryz.func92,Tryz.ntmps92
 go_wp2_with fail
 apply jJ 0 rfl
 go_wp2_with fail
 refine (HW.out _).mono ?_
 rintro e w1 ⟨rfl,hb1⟩
 have hb2:=hb1.alloc hb1.size (.cells #[.int .i64 52,.int .i64 11,.int .i64 64] 170)
 have hk2:=Blk.new w1 #[.int .i64 52,.int .i64 11,.int .i64 64] 170
 clear HW hb1
 go_wp2_with fail
 refine (HO.out _).mono ?_
 rintro e w2 ⟨rfl,hb3⟩
 have hb4:=hb2.trans (hb3.mono hb2.size)
 have hk4:=(hk2.below hb3 hk2.lt).alloc (.cells #[.int .i64 23,.int .i64 8,.int .i64 32] 170)
 have hf4:=Blk.new w2 #[.int .i64 23,.int .i64 8,.int .i64 32] 170
 have hb5:=hb4.alloc hb4.size (.cells #[.int .i64 23,.int .i64 8,.int .i64 32] 170)
 clear HO hb2 hk2 hb3 hb4
 have d0:=hk4.cell 0
 have d1:=hk4.cell 1
 have d2:=hk4.cell 2
 have e0:=hf4.cell 0
 have e1:=hf4.cell 1
 have e2:=hf4.cell 2
 go_wp2_with fail
 refine (HP.out _).mono ?_
 rintro e w3 ⟨rfl,hb6⟩
 have hb7:=hb5.trans (hb6.mono hb5.size)
 have hk7:=hk4.below hb6 hk4.lt
 have hf7:=hf4.below hb6 hf4.lt
 clear d0 d1 d2 e0 e1 e2 hb6 hb5 hk4 hf4 HP
 have d0:=hk7.cell 0
 have d1:=hk7.cell 1
 have d2:=hk7.cell 2
 have e0:=hf7.cell 0
 have e1:=hf7.cell 1
 have e2:=hf7.cell 2
 go_wp2_with fail
 go_region_held3 (fun w'=>w'.cell? ⟨w1.heap.size,0,none⟩=some (.int .i64 52)∧w'.cell? ⟨w1.heap.size,1,none⟩=some (.int .i64 11)∧w'.cell? ⟨w1.heap.size,2,none⟩=some (.int .i64 64)∧w'.cell? ⟨w2.heap.size,0,none⟩=some (.int .i64 23)∧w'.cell? ⟨w2.heap.size,1,none⟩=some (.int .i64 8)∧w'.cell? ⟨w2.heap.size,2,none⟩=some (.int .i64 32)) (go_keep)
  (first | (go_at_call 129; (with_reducible refine (BT.out _).mono ?_); rintro e w5 ⟨rfl,hb8⟩; have hk8a:=(Blk.drew hk7).below hb8 (Blk.drew hk7).lt; have hf8a:=(Blk.drew hf7).below hb8 (Blk.drew hf7).lt; have ga0:=hk8a.cell 0; have ga1:=hk8a.cell 1; have ga2:=hk8a.cell 2; have ga3:=hf8a.cell 0; have ga4:=hf8a.cell 1; have ga5:=hf8a.cell 2) | (go_at_call 129; (with_reducible refine (BF.out _).mono ?_); rintro e w7 ⟨rfl,hb9⟩; have hk8b:=hk8a.below hb9 hk8a.lt; have hf8b:=hf8a.below hb9 hf8a.lt; have gb0:=hk8b.cell 0; have gb1:=hk8b.cell 1; have gb2:=hk8b.cell 2; have gb3:=hf8b.cell 0; have gb4:=hf8b.cell 1; have gb5:=hf8b.cell 2))
 have hbB:=((((Go.below_drewN hb7 1).trans (hb8.mono (Go.below_drewN hb7 1).size)).trans (hb9.mono ((Go.below_drewN hb7 1).trans (hb8.mono (Go.below_drewN hb7 1).size)).size)))
 have HB:=Lib.hid (And.intro hk8b (And.intro hf8b hbB))
 clear hb7 hb8 hb9 hk7 hf7 hk8a hf8a hk8b hf8b hbB BF BT q1 q2 ga0 ga1 ga2 ga3 ga4 ga5 d0 d1 d2 e0 e1 e2
 go_wp2_with fail
 refine (zab _).mono ?_
 rintro e w8 ⟨rfl,rfl⟩
 by_cases hA:x=2047
 ·have HRA:=Lib.hid (show zN 23 8 s 255 f 29=r from by
   have h:=HR.out
   rw [if_pos hA]at h
   exact h)
  clear HR
  subst hA
  clear hee
  go_wp2_with fail
  refine (zbw _).mono ?_
  rintro e w8 ⟨rfl,rfl⟩
  have HN:=Lib.hid (fun W=>xr 29 (by decide) W)
  have HN:Hid (∀ W,Calls Tryz.prog 127 #[.int .i64 29] W fun e w'=>e=.returned (.int .u64 536870911)∧w'=W):=HN
  have y1:=jF 29 (by decide) f (by omega) (by omega)
  have y1:bits .and .u64 f 536870911=f % 536870912:=y1
  obtain ⟨m,hm⟩:∃ m,f % 536870912=m:=⟨_,rfl⟩
  rw [hm]at y1
  go_wp2_with fail
  refine (HN.out _).mono ?_
  rintro e w8 ⟨rfl,rfl⟩
  by_cases hm0:m=0
  ·subst hm0
   have HJ:=Lib.hid (yv s 255 (f / 536870912) ⟨bs1,bs2⟩ (by omega) (by omega))
   have hrv:r=some (s*2147483648+255*8388608+f / 536870912):=by
    rw [← HRA.out]
    exact zaa hm rfl
   subst hrv
   clear HRA
   go_wp2_with fail
   go_region_held3 (fun w'=>w'.cell? ⟨w1.heap.size,0,none⟩=some (.int .i64 52)∧w'.cell? ⟨w1.heap.size,1,none⟩=some (.int .i64 11)∧w'.cell? ⟨w1.heap.size,2,none⟩=some (.int .i64 64)∧w'.cell? ⟨w2.heap.size,0,none⟩=some (.int .i64 23)∧w'.cell? ⟨w2.heap.size,1,none⟩=some (.int .i64 8)∧w'.cell? ⟨w2.heap.size,2,none⟩=some (.int .i64 32)) (go_keep)
    (first | (go_at_call 128; (with_reducible refine (HJ.out _).mono ?_); rintro e w9 ⟨rfl,hb9⟩; have hk9:=(Blk.drew HB.out.1).below hb9 (Blk.drew HB.out.1).lt; have hf9:=(Blk.drew HB.out.2.1).below hb9 (Blk.drew HB.out.2.1).lt; have gc0:=hk9.cell 0; have gc1:=hk9.cell 1; have gc2:=hk9.cell 2; have gc3:=hf9.cell 0; have gc4:=hf9.cell 1; have gc5:=hf9.cell 2))
   go_wp2_with fail
   rw [jO]
   refine bodyPost_ret (v:=.tuple #[.int .u64 (s*2147483648+255*8388608+(f / 536870912)),.bool true]) (by simp [results,Tryz.results92,go_sem]) rfl ⟨by simp,(Go.below_drewN HB.out.2.2 1).trans (hb9.mono HB.out.2.2.size)⟩
  ·have hrv:r=none:=by
    rw [← HRA.out]
    unfold zN
    rw [if_neg (show ¬ f % 2 ^ 29=0 from (show ¬ f % 536870912=0 by omega))]
   subst hrv
   clear HRA
   have y2:(m != 0)=true:=by rw [bne_iff_ne]; exact hm0
   go_wp2_with fail
   go_step3
   simp +zetaDelta only [Exit.then,ju]
   go_wp2_with fail
   rw [Exit.noGoto_ret]
   refine bodyPost_ret (v:=.tuple #[.int .u64 0,.bool false]) (by simp [results,Tryz.results92,go_sem]) rfl ⟨by simp,HB.out.2.2⟩
 have hA1:(x == 2047)=false:=by rw [beq_eq_false_iff_ne]; exact hA
 by_cases hB:x=0∧f=0
 ·have hrv:r=some (s*2147483648):=by
   have h:=HR.out
   rw [if_neg hA,if_pos hB]at h
   rw [← h]
   exact zaa (by decide) (by omega)
  subst hrv
  obtain ⟨hx0,hf0⟩:=hB
  subst hx0
  subst hf0
  clear HR hee
  have HN:Hid (∀ W,Calls Tryz.prog 127 #[.int .i64 29] W fun e w'=>e=.returned (.int .u64 536870911)∧w'=W):=Lib.hid (fun W=>xr 29 (by decide) W)
  have y1:bits .and .u64 0 536870911=0:=by decide
  have HJ:Hid (∀ W,Calls Tryz.prog 128 #[.agg #[.int .i64 23,.int .i64 8,.int .i64 32],.int .u64 s,.int .i64 0,.int .u64 0] W fun e w'=>e=.returned (.int .u64 (s*2147483648))∧Below W.heap.size W w'):=Lib.hid (fun W=>by
   have h:=yv s 0 0 ⟨bs1,bs2⟩ (by omega) (by omega) W
   rw [show s*2147483648+0*8388608+0=s*2147483648 by omega]at h
   exact h)
  go_wp2_with fail
  refine (HN.out _).mono ?_
  rintro e w8 ⟨rfl,rfl⟩
  go_wp2_with fail
  go_region_held3 (fun w'=>w'.cell? ⟨w1.heap.size,0,none⟩=some (.int .i64 52)∧w'.cell? ⟨w1.heap.size,1,none⟩=some (.int .i64 11)∧w'.cell? ⟨w1.heap.size,2,none⟩=some (.int .i64 64)∧w'.cell? ⟨w2.heap.size,0,none⟩=some (.int .i64 23)∧w'.cell? ⟨w2.heap.size,1,none⟩=some (.int .i64 8)∧w'.cell? ⟨w2.heap.size,2,none⟩=some (.int .i64 32)) (go_keep)
   (first | (go_at_call 128; (with_reducible refine (HJ.out _).mono ?_); rintro e w9 ⟨rfl,hb9⟩; have hk9:=(Blk.drew HB.out.1).below hb9 (Blk.drew HB.out.1).lt; have hf9:=(Blk.drew HB.out.2.1).below hb9 (Blk.drew HB.out.2.1).lt; have gc0:=hk9.cell 0; have gc1:=hk9.cell 1; have gc2:=hk9.cell 2; have gc3:=hf9.cell 0; have gc4:=hf9.cell 1; have gc5:=hf9.cell 2))
  go_wp2_with fail
  rw [jO]
  refine bodyPost_ret (v:=.tuple #[.int .u64 (s*2147483648),.bool true]) (by simp [results,Tryz.results92,go_sem]) rfl ⟨by simp,(Go.below_drewN HB.out.2.2 1).trans (hb9.mono HB.out.2.2.size)⟩
 by_cases hC:0<ee∧ee<255
 ·have HRA:=Lib.hid (show zN 23 8 s ee f 29=r from by
   have h:=HR.out
   rw [if_neg hA,if_neg hB,if_pos hC]at h
   exact h)
  obtain ⟨c1,c2⟩:=hC
  have hx1:(x == 0)=false:=by rw [beq_eq_false_iff_ne]; omega
  clear HR hA hB hee
  go_wp2_with fail
  refine (zbw _).mono ?_
  rintro e w8 ⟨rfl,rfl⟩
  have HN:=Lib.hid (fun W=>xr 29 (by decide) W)
  have HN:Hid (∀ W,Calls Tryz.prog 127 #[.int .i64 29] W fun e w'=>e=.returned (.int .u64 536870911)∧w'=W):=HN
  have y1:=jF 29 (by decide) f (by omega) (by omega)
  have y1:bits .and .u64 f 536870911=f % 536870912:=y1
  obtain ⟨m,hm⟩:∃ m,f % 536870912=m:=⟨_,rfl⟩
  rw [hm]at y1
  go_wp2_with fail
  refine (HN.out _).mono ?_
  rintro e w8 ⟨rfl,rfl⟩
  by_cases hm0:m=0
  ·subst hm0
   have HJ:=Lib.hid (yv s ee (f / 536870912) ⟨bs1,bs2⟩ (by omega) (by omega))
   have hrv:r=some (s*2147483648+ee*8388608+f / 536870912):=by
    rw [← HRA.out]
    exact zaa hm rfl
   subst hrv
   clear HRA
   go_wp2_with fail
   go_region_held3 (fun w'=>w'.cell? ⟨w1.heap.size,0,none⟩=some (.int .i64 52)∧w'.cell? ⟨w1.heap.size,1,none⟩=some (.int .i64 11)∧w'.cell? ⟨w1.heap.size,2,none⟩=some (.int .i64 64)∧w'.cell? ⟨w2.heap.size,0,none⟩=some (.int .i64 23)∧w'.cell? ⟨w2.heap.size,1,none⟩=some (.int .i64 8)∧w'.cell? ⟨w2.heap.size,2,none⟩=some (.int .i64 32)) (go_keep)
    (first | (go_at_call 128; (with_reducible refine (HJ.out _).mono ?_); rintro e w9 ⟨rfl,hb9⟩; have hk9:=(Blk.drew HB.out.1).below hb9 (Blk.drew HB.out.1).lt; have hf9:=(Blk.drew HB.out.2.1).below hb9 (Blk.drew HB.out.2.1).lt; have gc0:=hk9.cell 0; have gc1:=hk9.cell 1; have gc2:=hk9.cell 2; have gc3:=hf9.cell 0; have gc4:=hf9.cell 1; have gc5:=hf9.cell 2))
   go_wp2_with fail
   rw [jO]
   refine bodyPost_ret (v:=.tuple #[.int .u64 (s*2147483648+ee*8388608+(f / 536870912)),.bool true]) (by simp [results,Tryz.results92,go_sem]) rfl ⟨by simp,(Go.below_drewN HB.out.2.2 1).trans (hb9.mono HB.out.2.2.size)⟩
  ·have hrv:r=none:=by
    rw [← HRA.out]
    unfold zN
    rw [if_neg (show ¬ f % 2 ^ 29=0 from (show ¬ f % 536870912=0 by omega))]
   subst hrv
   clear HRA
   have y2:(m != 0)=true:=by rw [bne_iff_ne]; exact hm0
   go_wp2_with fail
   go_step3
   simp +zetaDelta only [Exit.then,ju]
   go_wp2_with fail
   rw [Exit.noGoto_ret]
   refine bodyPost_ret (v:=.tuple #[.int .u64 0,.bool false]) (by simp [results,Tryz.results92,go_sem]) rfl ⟨by simp,HB.out.2.2⟩
 by_cases hD:0<x∧ee≤0∧-23<ee
 ·obtain ⟨d,hd⟩:∃ d:Nat,(1023 - 127 - x).toNat=d:=⟨_,rfl⟩
  have hed:ee = -(d:Int):=by omega
  have hdp:d<23:=by omega
  obtain ⟨ln,hln⟩:∃ ln:Nat,30+d=ln:=⟨_,rfl⟩
  have HRA:=Lib.hid (show zN 23 8 s 0 (f+4503599627370496) ln=r from by
   have h:=HR.out
   rw [if_neg hA,if_neg hB,if_neg hC,if_pos hD,hd,hln]at h
   exact h)
  obtain ⟨c1,c2,c3⟩:=hD
  have hx1:(x == 0)=false:=by rw [beq_eq_false_iff_ne]; omega
  have yo:=zke f bf1 bf2
  obtain ⟨F,hF⟩:∃ F,f+4503599627370496=F:=⟨_,rfl⟩
  rw [hF]at yo HRA
  have bF:0≤F∧F<9007199254740992:=by omega
  obtain ⟨bF1,bF2⟩:=bF
  have hl63:ln≤63:=by omega
  have HN:=Lib.hid (fun W=>xr ln hl63 W)
  have y1:=jF ln hl63 F bF1 (by omega)
  obtain ⟨P,hP⟩:∃ P:Int,(2:Int) ^ ln=P:=⟨_,rfl⟩
  have hPb:1073741824≤P:=by
   rw [← hP]
   have h2:=Nat.pow_le_pow_right (show 0<2 by decide) (show 30≤ln by omega)
   have h3:(2:Nat) ^ 30=1073741824:=by decide
   have h4:((2 ^ ln:Nat):Int)=(2:Int) ^ ln:=by norm_cast
   omega
  have hFP:0≤F / P∧F / P<8388608:=by
   refine ⟨Int.ediv_nonneg bF1 (by omega),Int.ediv_lt_of_lt_mul (by omega) ?_⟩
   have:8388608*1073741824≤8388608*P:=Int.mul_le_mul_of_nonneg_left hPb (by decide)
   omega
  have HJ:=Lib.hid (yv s 0 (F / P) ⟨bs1,bs2⟩ (by omega) hFP)
  rw [hP]at HN y1
  have q3:IntKind.i64.wrap (30 - ee)=(ln:Int):=by rw [IntWalk.i64_in _ (by omega)]; omega
  have y3:¬ ((ln:Int)<0):=by omega
  have y4:min ln 64=ln:=by omega
  obtain ⟨m,hm⟩:∃ m,F % P=m:=⟨_,rfl⟩
  rw [hm]at y1
  have HM:=Lib.hid hm
  have HPP:=Lib.hid hP
  clear HR hA hB hC hee hd hed hdp hln hF hPb hFP hm hl63
  go_wp2_with fail
  go_region
  have HD:=Lib.hid (And.intro (Blk.drew HB.out.1) (And.intro (Blk.drew HB.out.2.1) (Go.below_drewN HB.out.2.2 1)))
  have d0:=HD.out.1.cell 0
  have d1:=HD.out.1.cell 1
  have d2:=HD.out.1.cell 2
  have e0:=HD.out.2.1.cell 0
  have e1:=HD.out.2.1.cell 1
  have e2:=HD.out.2.1.cell 2
  clear yo q3 HB
  go_wp2_with fail
  refine (HN.out _).mono ?_
  rintro e w9 ⟨rfl,rfl⟩
  have hP:=HPP.out
  by_cases hm0:m=0
  ·subst hm0
   have hrv:r=some (s*2147483648+0*8388608+F / P):=by
    rw [← HRA.out]
    unfold zN
    rw [hP,if_pos HM.out]
    rfl
   subst hrv
   clear HRA HM HPP
   go_wp2_with fail
   go_region_held3 (fun w'=>w'.cell? ⟨w1.heap.size,0,none⟩=some (.int .i64 52)∧w'.cell? ⟨w1.heap.size,1,none⟩=some (.int .i64 11)∧w'.cell? ⟨w1.heap.size,2,none⟩=some (.int .i64 64)∧w'.cell? ⟨w2.heap.size,0,none⟩=some (.int .i64 23)∧w'.cell? ⟨w2.heap.size,1,none⟩=some (.int .i64 8)∧w'.cell? ⟨w2.heap.size,2,none⟩=some (.int .i64 32)) (go_keep)
    (first | (go_at_call 128; (with_reducible refine (HJ.out _).mono ?_); rintro e w9 ⟨rfl,hb9⟩; have hk9:=(Blk.drew HD.out.1).below hb9 (Blk.drew HD.out.1).lt; have hf9:=(Blk.drew HD.out.2.1).below hb9 (Blk.drew HD.out.2.1).lt; have gc0:=hk9.cell 0; have gc1:=hk9.cell 1; have gc2:=hk9.cell 2; have gc3:=hf9.cell 0; have gc4:=hf9.cell 1; have gc5:=hf9.cell 2))
   go_wp2_with fail
   rw [jO]
   refine bodyPost_ret (v:=.tuple #[.int .u64 (s*2147483648+0*8388608+(F / P)),.bool true]) (by simp [results,Tryz.results92,go_sem]) rfl ⟨by simp,(Go.below_drewN HD.out.2.2 1).trans (hb9.mono HD.out.2.2.size)⟩
  ·have hrv:r=none:=by
    rw [← HRA.out]
    unfold zN
    rw [hP,if_neg (fun q=>hm0 (by rw [← HM.out,q]))]
   subst hrv
   have y2:(m != 0)=true:=by rw [bne_iff_ne]; exact hm0
   clear HRA HM HPP
   go_wp2_with fail
   go_step3
   simp +zetaDelta only [Exit.then,ju]
   go_wp2_with fail
   rw [Exit.noGoto_ret]
   refine bodyPost_ret (v:=.tuple #[.int .u64 0,.bool false]) (by simp [results,Tryz.results92,go_sem]) rfl ⟨by simp,HD.out.2.2⟩
 ·have hrv:r=none:=by
   have h:=HR.out
   rw [if_neg hA,if_neg hB,if_neg hC,if_neg hD]at h
   exact h.symm
  subst hrv
  clear HR
  have hbB:=HB.out.2.2
  by_cases h1:255≤ee
  ·have hx1:(x == 0)=false:=by rw [beq_eq_false_iff_ne]; omega
   have c1:0<ee:=by omega
   have c2:¬ ee<255:=by omega
   have c3:¬ ee≤0:=by omega
   have c4:0<x:=by omega
   clear hA hB hC hD hee
   go_wp2_with fail
   refine (zbw _).mono ?_
   rintro e w8 ⟨rfl,rfl⟩
   go_wp2_with fail
   go_step3
   simp +zetaDelta only [Exit.inBlock,Exit.then,ju]
   go_wp2_with fail
   rw [Exit.noGoto_ret]
   refine bodyPost_ret (v:=.tuple #[.int .u64 0,.bool false]) (by simp [results,Tryz.results92,go_sem]) rfl ⟨by simp,hbB⟩
  ·have c1:¬ 0<ee:=by omega
   by_cases h2:x=0
   ·have hf1:(f == 0)=false:=by rw [beq_eq_false_iff_ne]; exact fun e=>hB ⟨h2,e⟩
    subst h2
    clear hA hB hC hD hee
    go_wp2_with fail
    go_step3
    simp +zetaDelta only [Exit.inBlock,Exit.then,ju]
    go_wp2_with fail
    rw [Exit.noGoto_ret]
    refine bodyPost_ret (v:=.tuple #[.int .u64 0,.bool false]) (by simp [results,Tryz.results92,go_sem]) rfl ⟨by simp,hbB⟩
   ·have hx1:(x == 0)=false:=by rw [beq_eq_false_iff_ne]; exact h2
    have c4:0<x:=by omega
    have c5:ee≤0:=by omega
    have c6:¬ -23<ee:=by omega
    clear hA hB hC hD hee
    go_wp2_with fail
    go_step3
    simp +zetaDelta only [Exit.inBlock,Exit.then,ju]
    go_wp2_with fail
    rw [Exit.noGoto_ret]
    refine bodyPost_ret (v:=.tuple #[.int .u64 0,.bool false]) (by simp [results,Tryz.results92,go_sem]) rfl ⟨by simp,hbB⟩
end Go.Proofs.YtonihophanmaaaaGreatDoor
