/- The texts FloM, put together. -/
import Derived.Test.YtonihophanmaaaaGreatDoorPa24
import Derived.Test.YtonihophanmaaaaGreatDoorPa05
namespace Go.Proofs.YtonihophanmaaaaGreatDoor
open Go.RowKit Go.Shelf
theorem fin_yes {p k:Nat} {s x f:Int} {low:Nat} (h:f % 2 ^ low=0):finN p k s x f low=some (s*2 ^ (p+k)+x*2 ^ p+f / 2 ^ low):=by
 unfold finN
 rw [if_pos h]
theorem fin_16 {s x f c:Int} (h:f % 4398046511104=0) (hc:c=s*32768+x*1024+f / 4398046511104):finN 10 5 s x f 42=some c:=by
 rw [fin_yes (show f % 2 ^ 42=0 from h),hc]
 rfl
theorem nar_widen16 (u:Int) (h0:0≤u) (hu:u<65536):narP 10 5 (widenP 10 5 u)=some u:=by
 obtain ⟨s,hs⟩:∃ s,u / 32768=s:=⟨_,rfl⟩
 obtain ⟨x,hx⟩:∃ x,u / 1024 % 32=x:=⟨_,rfl⟩
 obtain ⟨f,hf⟩:∃ f,u % 1024=f:=⟨_,rfl⟩
 have hue:u=s*32768+x*1024+f:=by omega
 have bs:0≤s∧s≤1:=by omega
 have bx:0≤x∧x≤31:=by omega
 have bf:0≤f∧f<1024:=by omega
 clear hs hx hf
 have hw:=widenP_16 s x f bs bx bf
 rw [← hue]at hw
 obtain ⟨b,hb⟩:∃ b,widenP 10 5 u=b:=⟨_,rfl⟩
 rw [hb]at hw ⊢
 clear hb
 rw [narP_16]
 by_cases hA:x=31
 ·rw [if_pos hA]at hw
  rw [if_pos (by omega)]
  exact fin_16 (by omega) (by omega)
 rw [if_neg hA]at hw
 by_cases hB:x=0∧f=0
 ·rw [if_pos hB]at hw
  rw [if_neg (by omega),if_pos (by omega)]
  exact fin_16 (by omega) (by omega)
 rw [if_neg hB]at hw
 by_cases hC:x=0
 ·rw [if_pos hC]at hw
  subst hC
  have hf0:1≤f:=by omega
  clear hA hB bx
  have hcase:(1≤f∧f<2)∨(2≤f∧f<4)∨(4≤f∧f<8)∨(8≤f∧f<16)∨(16≤f∧f<32)∨(32≤f∧f<64)∨(64≤f∧f<128)∨(128≤f∧f<256)∨(256≤f∧f<512)∨(512≤f∧f<1024):=by omega
  rcases hcase with ⟨g1,g2⟩ | ⟨g1,g2⟩ | ⟨g1,g2⟩ | ⟨g1,g2⟩ | ⟨g1,g2⟩ | ⟨g1,g2⟩ | ⟨g1,g2⟩ | ⟨g1,g2⟩ | ⟨g1,g2⟩ | ⟨g1,g2⟩
  ·have hl:Lib.bitLen f.toNat=1:=bitLen_is 0 f.toNat (by omega) (by show 1≤f.toNat; omega) (by show f.toNat<2; omega)
   rw [hl]at hw
   have hw:b=s*9223372036854775808+999*4503599627370496+f*1024 % 1024*4398046511104:=hw
   have hx2:b / 4503599627370496 % 2048=999:=by omega
   have hf2:b % 4503599627370496+4503599627370496=f*4503599627370496:=by omega
   have hs2:b / 9223372036854775808=s:=by omega
   rw [hx2,hf2,hs2,if_neg (by decide),if_neg (by omega),if_neg (by omega),if_pos (by decide)]
   show finN 10 5 s 0 (f*4503599627370496) 52=some u
   rw [fin_yes (show f*4503599627370496 % 4503599627370496=0 by omega)]
   show some (s*32768+0*1024+f*4503599627370496 / 4503599627370496)=some u
   exact congrArg some (by omega)
  ·have hl:Lib.bitLen f.toNat=2:=bitLen_is 1 f.toNat (by omega) (by show 2≤f.toNat; omega) (by show f.toNat<4; omega)
   rw [hl]at hw
   have hw:b=s*9223372036854775808+1000*4503599627370496+f*512 % 1024*4398046511104:=hw
   have hx2:b / 4503599627370496 % 2048=1000:=by omega
   have hf2:b % 4503599627370496+4503599627370496=f*2251799813685248:=by omega
   have hs2:b / 9223372036854775808=s:=by omega
   rw [hx2,hf2,hs2,if_neg (by decide),if_neg (by omega),if_neg (by omega),if_pos (by decide)]
   show finN 10 5 s 0 (f*2251799813685248) 51=some u
   rw [fin_yes (show f*2251799813685248 % 2251799813685248=0 by omega)]
   show some (s*32768+0*1024+f*2251799813685248 / 2251799813685248)=some u
   exact congrArg some (by omega)
  ·have hl:Lib.bitLen f.toNat=3:=bitLen_is 2 f.toNat (by omega) (by show 4≤f.toNat; omega) (by show f.toNat<8; omega)
   rw [hl]at hw
   have hw:b=s*9223372036854775808+1001*4503599627370496+f*256 % 1024*4398046511104:=hw
   have hx2:b / 4503599627370496 % 2048=1001:=by omega
   have hf2:b % 4503599627370496+4503599627370496=f*1125899906842624:=by omega
   have hs2:b / 9223372036854775808=s:=by omega
   rw [hx2,hf2,hs2,if_neg (by decide),if_neg (by omega),if_neg (by omega),if_pos (by decide)]
   show finN 10 5 s 0 (f*1125899906842624) 50=some u
   rw [fin_yes (show f*1125899906842624 % 1125899906842624=0 by omega)]
   show some (s*32768+0*1024+f*1125899906842624 / 1125899906842624)=some u
   exact congrArg some (by omega)
  ·have hl:Lib.bitLen f.toNat=4:=bitLen_is 3 f.toNat (by omega) (by show 8≤f.toNat; omega) (by show f.toNat<16; omega)
   rw [hl]at hw
   have hw:b=s*9223372036854775808+1002*4503599627370496+f*128 % 1024*4398046511104:=hw
   have hx2:b / 4503599627370496 % 2048=1002:=by omega
   have hf2:b % 4503599627370496+4503599627370496=f*562949953421312:=by omega
   have hs2:b / 9223372036854775808=s:=by omega
   rw [hx2,hf2,hs2,if_neg (by decide),if_neg (by omega),if_neg (by omega),if_pos (by decide)]
   show finN 10 5 s 0 (f*562949953421312) 49=some u
   rw [fin_yes (show f*562949953421312 % 562949953421312=0 by omega)]
   show some (s*32768+0*1024+f*562949953421312 / 562949953421312)=some u
   exact congrArg some (by omega)
  ·have hl:Lib.bitLen f.toNat=5:=bitLen_is 4 f.toNat (by omega) (by show 16≤f.toNat; omega) (by show f.toNat<32; omega)
   rw [hl]at hw
   have hw:b=s*9223372036854775808+1003*4503599627370496+f*64 % 1024*4398046511104:=hw
   have hx2:b / 4503599627370496 % 2048=1003:=by omega
   have hf2:b % 4503599627370496+4503599627370496=f*281474976710656:=by omega
   have hs2:b / 9223372036854775808=s:=by omega
   rw [hx2,hf2,hs2,if_neg (by decide),if_neg (by omega),if_neg (by omega),if_pos (by decide)]
   show finN 10 5 s 0 (f*281474976710656) 48=some u
   rw [fin_yes (show f*281474976710656 % 281474976710656=0 by omega)]
   show some (s*32768+0*1024+f*281474976710656 / 281474976710656)=some u
   exact congrArg some (by omega)
  ·have hl:Lib.bitLen f.toNat=6:=bitLen_is 5 f.toNat (by omega) (by show 32≤f.toNat; omega) (by show f.toNat<64; omega)
   rw [hl]at hw
   have hw:b=s*9223372036854775808+1004*4503599627370496+f*32 % 1024*4398046511104:=hw
   have hx2:b / 4503599627370496 % 2048=1004:=by omega
   have hf2:b % 4503599627370496+4503599627370496=f*140737488355328:=by omega
   have hs2:b / 9223372036854775808=s:=by omega
   rw [hx2,hf2,hs2,if_neg (by decide),if_neg (by omega),if_neg (by omega),if_pos (by decide)]
   show finN 10 5 s 0 (f*140737488355328) 47=some u
   rw [fin_yes (show f*140737488355328 % 140737488355328=0 by omega)]
   show some (s*32768+0*1024+f*140737488355328 / 140737488355328)=some u
   exact congrArg some (by omega)
  ·have hl:Lib.bitLen f.toNat=7:=bitLen_is 6 f.toNat (by omega) (by show 64≤f.toNat; omega) (by show f.toNat<128; omega)
   rw [hl]at hw
   have hw:b=s*9223372036854775808+1005*4503599627370496+f*16 % 1024*4398046511104:=hw
   have hx2:b / 4503599627370496 % 2048=1005:=by omega
   have hf2:b % 4503599627370496+4503599627370496=f*70368744177664:=by omega
   have hs2:b / 9223372036854775808=s:=by omega
   rw [hx2,hf2,hs2,if_neg (by decide),if_neg (by omega),if_neg (by omega),if_pos (by decide)]
   show finN 10 5 s 0 (f*70368744177664) 46=some u
   rw [fin_yes (show f*70368744177664 % 70368744177664=0 by omega)]
   show some (s*32768+0*1024+f*70368744177664 / 70368744177664)=some u
   exact congrArg some (by omega)
  ·have hl:Lib.bitLen f.toNat=8:=bitLen_is 7 f.toNat (by omega) (by show 128≤f.toNat; omega) (by show f.toNat<256; omega)
   rw [hl]at hw
   have hw:b=s*9223372036854775808+1006*4503599627370496+f*8 % 1024*4398046511104:=hw
   have hx2:b / 4503599627370496 % 2048=1006:=by omega
   have hf2:b % 4503599627370496+4503599627370496=f*35184372088832:=by omega
   have hs2:b / 9223372036854775808=s:=by omega
   rw [hx2,hf2,hs2,if_neg (by decide),if_neg (by omega),if_neg (by omega),if_pos (by decide)]
   show finN 10 5 s 0 (f*35184372088832) 45=some u
   rw [fin_yes (show f*35184372088832 % 35184372088832=0 by omega)]
   show some (s*32768+0*1024+f*35184372088832 / 35184372088832)=some u
   exact congrArg some (by omega)
  ·have hl:Lib.bitLen f.toNat=9:=bitLen_is 8 f.toNat (by omega) (by show 256≤f.toNat; omega) (by show f.toNat<512; omega)
   rw [hl]at hw
   have hw:b=s*9223372036854775808+1007*4503599627370496+f*4 % 1024*4398046511104:=hw
   have hx2:b / 4503599627370496 % 2048=1007:=by omega
   have hf2:b % 4503599627370496+4503599627370496=f*17592186044416:=by omega
   have hs2:b / 9223372036854775808=s:=by omega
   rw [hx2,hf2,hs2,if_neg (by decide),if_neg (by omega),if_neg (by omega),if_pos (by decide)]
   show finN 10 5 s 0 (f*17592186044416) 44=some u
   rw [fin_yes (show f*17592186044416 % 17592186044416=0 by omega)]
   show some (s*32768+0*1024+f*17592186044416 / 17592186044416)=some u
   exact congrArg some (by omega)
  ·have hl:Lib.bitLen f.toNat=10:=bitLen_is 9 f.toNat (by omega) (by show 512≤f.toNat; omega) (by show f.toNat<1024; omega)
   rw [hl]at hw
   have hw:b=s*9223372036854775808+1008*4503599627370496+f*2 % 1024*4398046511104:=hw
   have hx2:b / 4503599627370496 % 2048=1008:=by omega
   have hf2:b % 4503599627370496+4503599627370496=f*8796093022208:=by omega
   have hs2:b / 9223372036854775808=s:=by omega
   rw [hx2,hf2,hs2,if_neg (by decide),if_neg (by omega),if_neg (by omega),if_pos (by decide)]
   show finN 10 5 s 0 (f*8796093022208) 43=some u
   rw [fin_yes (show f*8796093022208 % 8796093022208=0 by omega)]
   show some (s*32768+0*1024+f*8796093022208 / 8796093022208)=some u
   exact congrArg some (by omega)
 ·rw [if_neg hC]at hw
  have hx2:b / 4503599627370496 % 2048=x - 15+1023:=by omega
  rw [if_neg (by omega),if_neg (by omega),if_pos (by omega)]
  exact fin_16 (by omega) (by omega)
theorem widen_bound16 (u:Int) (h0:0≤u) (hu:u<65536):0≤widenP 10 5 u∧widenP 10 5 u<18446744073709551616:=by
 obtain ⟨s,hs⟩:∃ s,u / 32768=s:=⟨_,rfl⟩
 obtain ⟨x,hx⟩:∃ x,u / 1024 % 32=x:=⟨_,rfl⟩
 obtain ⟨f,hf⟩:∃ f,u % 1024=f:=⟨_,rfl⟩
 have hue:u=s*32768+x*1024+f:=by omega
 have bs:0≤s∧s≤1:=by omega
 have bx:0≤x∧x≤31:=by omega
 have bf:0≤f∧f<1024:=by omega
 clear hs hx hf
 have hw:=widenP_16 s x f bs bx bf
 rw [← hue]at hw
 rw [hw]
 split
 ·omega
 split
 ·omega
 split
 ·have hl:Lib.bitLen f.toNat≤10:=(bitLen_iff 10 f.toNat (by omega)).2 (by show f.toNat<1024; omega)
  obtain ⟨g,hg⟩:∃ g,(f*2 ^ (10+1 - Lib.bitLen f.toNat)) % 1024=g:=⟨_,rfl⟩
  have hg2:0≤g∧g<1024:=by
   rw [← hg]
   omega
  rw [hg]
  omega
 ·omega
theorem fin_32 {s x f c:Int} (h:f % 536870912=0) (hc:c=s*2147483648+x*8388608+f / 536870912):finN 23 8 s x f 29=some c:=by
 rw [fin_yes (show f % 2 ^ 29=0 from h),hc]
 rfl
theorem nar_widen32 (u:Int) (h0:0≤u) (hu:u<4294967296):narP 23 8 (widenP 23 8 u)=some u:=by
 obtain ⟨s,hs⟩:∃ s,u / 2147483648=s:=⟨_,rfl⟩
 obtain ⟨x,hx⟩:∃ x,u / 8388608 % 256=x:=⟨_,rfl⟩
 obtain ⟨f,hf⟩:∃ f,u % 8388608=f:=⟨_,rfl⟩
 have hue:u=s*2147483648+x*8388608+f:=by omega
 have bs:0≤s∧s≤1:=by omega
 have bx:0≤x∧x≤255:=by omega
 have bf:0≤f∧f<8388608:=by omega
 clear hs hx hf
 have hw:=widenP_32 s x f bs bx bf
 rw [← hue]at hw
 obtain ⟨b,hb⟩:∃ b,widenP 23 8 u=b:=⟨_,rfl⟩
 rw [hb]at hw ⊢
 clear hb
 rw [narP_32]
 by_cases hA:x=255
 ·rw [if_pos hA]at hw
  rw [if_pos (by omega)]
  exact fin_32 (by omega) (by omega)
 rw [if_neg hA]at hw
 by_cases hB:x=0∧f=0
 ·rw [if_pos hB]at hw
  rw [if_neg (by omega),if_pos (by omega)]
  exact fin_32 (by omega) (by omega)
 rw [if_neg hB]at hw
 by_cases hC:x=0
 ·rw [if_pos hC]at hw
  subst hC
  have hf0:1≤f:=by omega
  clear hA hB bx
  have hcase:(1≤f∧f<2)∨(2≤f∧f<4)∨(4≤f∧f<8)∨(8≤f∧f<16)∨(16≤f∧f<32)∨(32≤f∧f<64)∨(64≤f∧f<128)∨(128≤f∧f<256)∨(256≤f∧f<512)∨(512≤f∧f<1024)∨(1024≤f∧f<2048)∨(2048≤f∧f<4096)∨(4096≤f∧f<8192)∨(8192≤f∧f<16384)∨(16384≤f∧f<32768)∨(32768≤f∧f<65536)∨(65536≤f∧f<131072)∨(131072≤f∧f<262144)∨(262144≤f∧f<524288)∨(524288≤f∧f<1048576)∨(1048576≤f∧f<2097152)∨(2097152≤f∧f<4194304)∨(4194304≤f∧f<8388608):=by omega
  rcases hcase with ⟨g1,g2⟩ | ⟨g1,g2⟩ | ⟨g1,g2⟩ | ⟨g1,g2⟩ | ⟨g1,g2⟩ | ⟨g1,g2⟩ | ⟨g1,g2⟩ | ⟨g1,g2⟩ | ⟨g1,g2⟩ | ⟨g1,g2⟩ | ⟨g1,g2⟩ | ⟨g1,g2⟩ | ⟨g1,g2⟩ | ⟨g1,g2⟩ | ⟨g1,g2⟩ | ⟨g1,g2⟩ | ⟨g1,g2⟩ | ⟨g1,g2⟩ | ⟨g1,g2⟩ | ⟨g1,g2⟩ | ⟨g1,g2⟩ | ⟨g1,g2⟩ | ⟨g1,g2⟩
  ·have hl:Lib.bitLen f.toNat=1:=bitLen_is 0 f.toNat (by omega) (by show 1≤f.toNat; omega) (by show f.toNat<2; omega)
   rw [hl]at hw
   have hw:b=s*9223372036854775808+874*4503599627370496+f*8388608 % 8388608*536870912:=hw
   have hx2:b / 4503599627370496 % 2048=874:=by omega
   have hf2:b % 4503599627370496+4503599627370496=f*4503599627370496:=by omega
   have hs2:b / 9223372036854775808=s:=by omega
   rw [hx2,hf2,hs2,if_neg (by decide),if_neg (by omega),if_neg (by omega),if_pos (by decide)]
   show finN 23 8 s 0 (f*4503599627370496) 52=some u
   rw [fin_yes (show f*4503599627370496 % 4503599627370496=0 by omega)]
   show some (s*2147483648+0*8388608+f*4503599627370496 / 4503599627370496)=some u
   exact congrArg some (by omega)
  ·have hl:Lib.bitLen f.toNat=2:=bitLen_is 1 f.toNat (by omega) (by show 2≤f.toNat; omega) (by show f.toNat<4; omega)
   rw [hl]at hw
   have hw:b=s*9223372036854775808+875*4503599627370496+f*4194304 % 8388608*536870912:=hw
   have hx2:b / 4503599627370496 % 2048=875:=by omega
   have hf2:b % 4503599627370496+4503599627370496=f*2251799813685248:=by omega
   have hs2:b / 9223372036854775808=s:=by omega
   rw [hx2,hf2,hs2,if_neg (by decide),if_neg (by omega),if_neg (by omega),if_pos (by decide)]
   show finN 23 8 s 0 (f*2251799813685248) 51=some u
   rw [fin_yes (show f*2251799813685248 % 2251799813685248=0 by omega)]
   show some (s*2147483648+0*8388608+f*2251799813685248 / 2251799813685248)=some u
   exact congrArg some (by omega)
  ·have hl:Lib.bitLen f.toNat=3:=bitLen_is 2 f.toNat (by omega) (by show 4≤f.toNat; omega) (by show f.toNat<8; omega)
   rw [hl]at hw
   have hw:b=s*9223372036854775808+876*4503599627370496+f*2097152 % 8388608*536870912:=hw
   have hx2:b / 4503599627370496 % 2048=876:=by omega
   have hf2:b % 4503599627370496+4503599627370496=f*1125899906842624:=by omega
   have hs2:b / 9223372036854775808=s:=by omega
   rw [hx2,hf2,hs2,if_neg (by decide),if_neg (by omega),if_neg (by omega),if_pos (by decide)]
   show finN 23 8 s 0 (f*1125899906842624) 50=some u
   rw [fin_yes (show f*1125899906842624 % 1125899906842624=0 by omega)]
   show some (s*2147483648+0*8388608+f*1125899906842624 / 1125899906842624)=some u
   exact congrArg some (by omega)
  ·have hl:Lib.bitLen f.toNat=4:=bitLen_is 3 f.toNat (by omega) (by show 8≤f.toNat; omega) (by show f.toNat<16; omega)
   rw [hl]at hw
   have hw:b=s*9223372036854775808+877*4503599627370496+f*1048576 % 8388608*536870912:=hw
   have hx2:b / 4503599627370496 % 2048=877:=by omega
   have hf2:b % 4503599627370496+4503599627370496=f*562949953421312:=by omega
   have hs2:b / 9223372036854775808=s:=by omega
   rw [hx2,hf2,hs2,if_neg (by decide),if_neg (by omega),if_neg (by omega),if_pos (by decide)]
   show finN 23 8 s 0 (f*562949953421312) 49=some u
   rw [fin_yes (show f*562949953421312 % 562949953421312=0 by omega)]
   show some (s*2147483648+0*8388608+f*562949953421312 / 562949953421312)=some u
   exact congrArg some (by omega)
  ·have hl:Lib.bitLen f.toNat=5:=bitLen_is 4 f.toNat (by omega) (by show 16≤f.toNat; omega) (by show f.toNat<32; omega)
   rw [hl]at hw
   have hw:b=s*9223372036854775808+878*4503599627370496+f*524288 % 8388608*536870912:=hw
   have hx2:b / 4503599627370496 % 2048=878:=by omega
   have hf2:b % 4503599627370496+4503599627370496=f*281474976710656:=by omega
   have hs2:b / 9223372036854775808=s:=by omega
   rw [hx2,hf2,hs2,if_neg (by decide),if_neg (by omega),if_neg (by omega),if_pos (by decide)]
   show finN 23 8 s 0 (f*281474976710656) 48=some u
   rw [fin_yes (show f*281474976710656 % 281474976710656=0 by omega)]
   show some (s*2147483648+0*8388608+f*281474976710656 / 281474976710656)=some u
   exact congrArg some (by omega)
  ·have hl:Lib.bitLen f.toNat=6:=bitLen_is 5 f.toNat (by omega) (by show 32≤f.toNat; omega) (by show f.toNat<64; omega)
   rw [hl]at hw
   have hw:b=s*9223372036854775808+879*4503599627370496+f*262144 % 8388608*536870912:=hw
   have hx2:b / 4503599627370496 % 2048=879:=by omega
   have hf2:b % 4503599627370496+4503599627370496=f*140737488355328:=by omega
   have hs2:b / 9223372036854775808=s:=by omega
   rw [hx2,hf2,hs2,if_neg (by decide),if_neg (by omega),if_neg (by omega),if_pos (by decide)]
   show finN 23 8 s 0 (f*140737488355328) 47=some u
   rw [fin_yes (show f*140737488355328 % 140737488355328=0 by omega)]
   show some (s*2147483648+0*8388608+f*140737488355328 / 140737488355328)=some u
   exact congrArg some (by omega)
  ·have hl:Lib.bitLen f.toNat=7:=bitLen_is 6 f.toNat (by omega) (by show 64≤f.toNat; omega) (by show f.toNat<128; omega)
   rw [hl]at hw
   have hw:b=s*9223372036854775808+880*4503599627370496+f*131072 % 8388608*536870912:=hw
   have hx2:b / 4503599627370496 % 2048=880:=by omega
   have hf2:b % 4503599627370496+4503599627370496=f*70368744177664:=by omega
   have hs2:b / 9223372036854775808=s:=by omega
   rw [hx2,hf2,hs2,if_neg (by decide),if_neg (by omega),if_neg (by omega),if_pos (by decide)]
   show finN 23 8 s 0 (f*70368744177664) 46=some u
   rw [fin_yes (show f*70368744177664 % 70368744177664=0 by omega)]
   show some (s*2147483648+0*8388608+f*70368744177664 / 70368744177664)=some u
   exact congrArg some (by omega)
  ·have hl:Lib.bitLen f.toNat=8:=bitLen_is 7 f.toNat (by omega) (by show 128≤f.toNat; omega) (by show f.toNat<256; omega)
   rw [hl]at hw
   have hw:b=s*9223372036854775808+881*4503599627370496+f*65536 % 8388608*536870912:=hw
   have hx2:b / 4503599627370496 % 2048=881:=by omega
   have hf2:b % 4503599627370496+4503599627370496=f*35184372088832:=by omega
   have hs2:b / 9223372036854775808=s:=by omega
   rw [hx2,hf2,hs2,if_neg (by decide),if_neg (by omega),if_neg (by omega),if_pos (by decide)]
   show finN 23 8 s 0 (f*35184372088832) 45=some u
   rw [fin_yes (show f*35184372088832 % 35184372088832=0 by omega)]
   show some (s*2147483648+0*8388608+f*35184372088832 / 35184372088832)=some u
   exact congrArg some (by omega)
  ·have hl:Lib.bitLen f.toNat=9:=bitLen_is 8 f.toNat (by omega) (by show 256≤f.toNat; omega) (by show f.toNat<512; omega)
   rw [hl]at hw
   have hw:b=s*9223372036854775808+882*4503599627370496+f*32768 % 8388608*536870912:=hw
   have hx2:b / 4503599627370496 % 2048=882:=by omega
   have hf2:b % 4503599627370496+4503599627370496=f*17592186044416:=by omega
   have hs2:b / 9223372036854775808=s:=by omega
   rw [hx2,hf2,hs2,if_neg (by decide),if_neg (by omega),if_neg (by omega),if_pos (by decide)]
   show finN 23 8 s 0 (f*17592186044416) 44=some u
   rw [fin_yes (show f*17592186044416 % 17592186044416=0 by omega)]
   show some (s*2147483648+0*8388608+f*17592186044416 / 17592186044416)=some u
   exact congrArg some (by omega)
  ·have hl:Lib.bitLen f.toNat=10:=bitLen_is 9 f.toNat (by omega) (by show 512≤f.toNat; omega) (by show f.toNat<1024; omega)
   rw [hl]at hw
   have hw:b=s*9223372036854775808+883*4503599627370496+f*16384 % 8388608*536870912:=hw
   have hx2:b / 4503599627370496 % 2048=883:=by omega
   have hf2:b % 4503599627370496+4503599627370496=f*8796093022208:=by omega
   have hs2:b / 9223372036854775808=s:=by omega
   rw [hx2,hf2,hs2,if_neg (by decide),if_neg (by omega),if_neg (by omega),if_pos (by decide)]
   show finN 23 8 s 0 (f*8796093022208) 43=some u
   rw [fin_yes (show f*8796093022208 % 8796093022208=0 by omega)]
   show some (s*2147483648+0*8388608+f*8796093022208 / 8796093022208)=some u
   exact congrArg some (by omega)
  ·have hl:Lib.bitLen f.toNat=11:=bitLen_is 10 f.toNat (by omega) (by show 1024≤f.toNat; omega) (by show f.toNat<2048; omega)
   rw [hl]at hw
   have hw:b=s*9223372036854775808+884*4503599627370496+f*8192 % 8388608*536870912:=hw
   have hx2:b / 4503599627370496 % 2048=884:=by omega
   have hf2:b % 4503599627370496+4503599627370496=f*4398046511104:=by omega
   have hs2:b / 9223372036854775808=s:=by omega
   rw [hx2,hf2,hs2,if_neg (by decide),if_neg (by omega),if_neg (by omega),if_pos (by decide)]
   show finN 23 8 s 0 (f*4398046511104) 42=some u
   rw [fin_yes (show f*4398046511104 % 4398046511104=0 by omega)]
   show some (s*2147483648+0*8388608+f*4398046511104 / 4398046511104)=some u
   exact congrArg some (by omega)
  ·have hl:Lib.bitLen f.toNat=12:=bitLen_is 11 f.toNat (by omega) (by show 2048≤f.toNat; omega) (by show f.toNat<4096; omega)
   rw [hl]at hw
   have hw:b=s*9223372036854775808+885*4503599627370496+f*4096 % 8388608*536870912:=hw
   have hx2:b / 4503599627370496 % 2048=885:=by omega
   have hf2:b % 4503599627370496+4503599627370496=f*2199023255552:=by omega
   have hs2:b / 9223372036854775808=s:=by omega
   rw [hx2,hf2,hs2,if_neg (by decide),if_neg (by omega),if_neg (by omega),if_pos (by decide)]
   show finN 23 8 s 0 (f*2199023255552) 41=some u
   rw [fin_yes (show f*2199023255552 % 2199023255552=0 by omega)]
   show some (s*2147483648+0*8388608+f*2199023255552 / 2199023255552)=some u
   exact congrArg some (by omega)
  ·have hl:Lib.bitLen f.toNat=13:=bitLen_is 12 f.toNat (by omega) (by show 4096≤f.toNat; omega) (by show f.toNat<8192; omega)
   rw [hl]at hw
   have hw:b=s*9223372036854775808+886*4503599627370496+f*2048 % 8388608*536870912:=hw
   have hx2:b / 4503599627370496 % 2048=886:=by omega
   have hf2:b % 4503599627370496+4503599627370496=f*1099511627776:=by omega
   have hs2:b / 9223372036854775808=s:=by omega
   rw [hx2,hf2,hs2,if_neg (by decide),if_neg (by omega),if_neg (by omega),if_pos (by decide)]
   show finN 23 8 s 0 (f*1099511627776) 40=some u
   rw [fin_yes (show f*1099511627776 % 1099511627776=0 by omega)]
   show some (s*2147483648+0*8388608+f*1099511627776 / 1099511627776)=some u
   exact congrArg some (by omega)
  ·have hl:Lib.bitLen f.toNat=14:=bitLen_is 13 f.toNat (by omega) (by show 8192≤f.toNat; omega) (by show f.toNat<16384; omega)
   rw [hl]at hw
   have hw:b=s*9223372036854775808+887*4503599627370496+f*1024 % 8388608*536870912:=hw
   have hx2:b / 4503599627370496 % 2048=887:=by omega
   have hf2:b % 4503599627370496+4503599627370496=f*549755813888:=by omega
   have hs2:b / 9223372036854775808=s:=by omega
   rw [hx2,hf2,hs2,if_neg (by decide),if_neg (by omega),if_neg (by omega),if_pos (by decide)]
   show finN 23 8 s 0 (f*549755813888) 39=some u
   rw [fin_yes (show f*549755813888 % 549755813888=0 by omega)]
   show some (s*2147483648+0*8388608+f*549755813888 / 549755813888)=some u
   exact congrArg some (by omega)
  ·have hl:Lib.bitLen f.toNat=15:=bitLen_is 14 f.toNat (by omega) (by show 16384≤f.toNat; omega) (by show f.toNat<32768; omega)
   rw [hl]at hw
   have hw:b=s*9223372036854775808+888*4503599627370496+f*512 % 8388608*536870912:=hw
   have hx2:b / 4503599627370496 % 2048=888:=by omega
   have hf2:b % 4503599627370496+4503599627370496=f*274877906944:=by omega
   have hs2:b / 9223372036854775808=s:=by omega
   rw [hx2,hf2,hs2,if_neg (by decide),if_neg (by omega),if_neg (by omega),if_pos (by decide)]
   show finN 23 8 s 0 (f*274877906944) 38=some u
   rw [fin_yes (show f*274877906944 % 274877906944=0 by omega)]
   show some (s*2147483648+0*8388608+f*274877906944 / 274877906944)=some u
   exact congrArg some (by omega)
  ·have hl:Lib.bitLen f.toNat=16:=bitLen_is 15 f.toNat (by omega) (by show 32768≤f.toNat; omega) (by show f.toNat<65536; omega)
   rw [hl]at hw
   have hw:b=s*9223372036854775808+889*4503599627370496+f*256 % 8388608*536870912:=hw
   have hx2:b / 4503599627370496 % 2048=889:=by omega
   have hf2:b % 4503599627370496+4503599627370496=f*137438953472:=by omega
   have hs2:b / 9223372036854775808=s:=by omega
   rw [hx2,hf2,hs2,if_neg (by decide),if_neg (by omega),if_neg (by omega),if_pos (by decide)]
   show finN 23 8 s 0 (f*137438953472) 37=some u
   rw [fin_yes (show f*137438953472 % 137438953472=0 by omega)]
   show some (s*2147483648+0*8388608+f*137438953472 / 137438953472)=some u
   exact congrArg some (by omega)
  ·have hl:Lib.bitLen f.toNat=17:=bitLen_is 16 f.toNat (by omega) (by show 65536≤f.toNat; omega) (by show f.toNat<131072; omega)
   rw [hl]at hw
   have hw:b=s*9223372036854775808+890*4503599627370496+f*128 % 8388608*536870912:=hw
   have hx2:b / 4503599627370496 % 2048=890:=by omega
   have hf2:b % 4503599627370496+4503599627370496=f*68719476736:=by omega
   have hs2:b / 9223372036854775808=s:=by omega
   rw [hx2,hf2,hs2,if_neg (by decide),if_neg (by omega),if_neg (by omega),if_pos (by decide)]
   show finN 23 8 s 0 (f*68719476736) 36=some u
   rw [fin_yes (show f*68719476736 % 68719476736=0 by omega)]
   show some (s*2147483648+0*8388608+f*68719476736 / 68719476736)=some u
   exact congrArg some (by omega)
  ·have hl:Lib.bitLen f.toNat=18:=bitLen_is 17 f.toNat (by omega) (by show 131072≤f.toNat; omega) (by show f.toNat<262144; omega)
   rw [hl]at hw
   have hw:b=s*9223372036854775808+891*4503599627370496+f*64 % 8388608*536870912:=hw
   have hx2:b / 4503599627370496 % 2048=891:=by omega
   have hf2:b % 4503599627370496+4503599627370496=f*34359738368:=by omega
   have hs2:b / 9223372036854775808=s:=by omega
   rw [hx2,hf2,hs2,if_neg (by decide),if_neg (by omega),if_neg (by omega),if_pos (by decide)]
   show finN 23 8 s 0 (f*34359738368) 35=some u
   rw [fin_yes (show f*34359738368 % 34359738368=0 by omega)]
   show some (s*2147483648+0*8388608+f*34359738368 / 34359738368)=some u
   exact congrArg some (by omega)
  ·have hl:Lib.bitLen f.toNat=19:=bitLen_is 18 f.toNat (by omega) (by show 262144≤f.toNat; omega) (by show f.toNat<524288; omega)
   rw [hl]at hw
   have hw:b=s*9223372036854775808+892*4503599627370496+f*32 % 8388608*536870912:=hw
   have hx2:b / 4503599627370496 % 2048=892:=by omega
   have hf2:b % 4503599627370496+4503599627370496=f*17179869184:=by omega
   have hs2:b / 9223372036854775808=s:=by omega
   rw [hx2,hf2,hs2,if_neg (by decide),if_neg (by omega),if_neg (by omega),if_pos (by decide)]
   show finN 23 8 s 0 (f*17179869184) 34=some u
   rw [fin_yes (show f*17179869184 % 17179869184=0 by omega)]
   show some (s*2147483648+0*8388608+f*17179869184 / 17179869184)=some u
   exact congrArg some (by omega)
  ·have hl:Lib.bitLen f.toNat=20:=bitLen_is 19 f.toNat (by omega) (by show 524288≤f.toNat; omega) (by show f.toNat<1048576; omega)
   rw [hl]at hw
   have hw:b=s*9223372036854775808+893*4503599627370496+f*16 % 8388608*536870912:=hw
   have hx2:b / 4503599627370496 % 2048=893:=by omega
   have hf2:b % 4503599627370496+4503599627370496=f*8589934592:=by omega
   have hs2:b / 9223372036854775808=s:=by omega
   rw [hx2,hf2,hs2,if_neg (by decide),if_neg (by omega),if_neg (by omega),if_pos (by decide)]
   show finN 23 8 s 0 (f*8589934592) 33=some u
   rw [fin_yes (show f*8589934592 % 8589934592=0 by omega)]
   show some (s*2147483648+0*8388608+f*8589934592 / 8589934592)=some u
   exact congrArg some (by omega)
  ·have hl:Lib.bitLen f.toNat=21:=bitLen_is 20 f.toNat (by omega) (by show 1048576≤f.toNat; omega) (by show f.toNat<2097152; omega)
   rw [hl]at hw
   have hw:b=s*9223372036854775808+894*4503599627370496+f*8 % 8388608*536870912:=hw
   have hx2:b / 4503599627370496 % 2048=894:=by omega
   have hf2:b % 4503599627370496+4503599627370496=f*4294967296:=by omega
   have hs2:b / 9223372036854775808=s:=by omega
   rw [hx2,hf2,hs2,if_neg (by decide),if_neg (by omega),if_neg (by omega),if_pos (by decide)]
   show finN 23 8 s 0 (f*4294967296) 32=some u
   rw [fin_yes (show f*4294967296 % 4294967296=0 by omega)]
   show some (s*2147483648+0*8388608+f*4294967296 / 4294967296)=some u
   exact congrArg some (by omega)
  ·have hl:Lib.bitLen f.toNat=22:=bitLen_is 21 f.toNat (by omega) (by show 2097152≤f.toNat; omega) (by show f.toNat<4194304; omega)
   rw [hl]at hw
   have hw:b=s*9223372036854775808+895*4503599627370496+f*4 % 8388608*536870912:=hw
   have hx2:b / 4503599627370496 % 2048=895:=by omega
   have hf2:b % 4503599627370496+4503599627370496=f*2147483648:=by omega
   have hs2:b / 9223372036854775808=s:=by omega
   rw [hx2,hf2,hs2,if_neg (by decide),if_neg (by omega),if_neg (by omega),if_pos (by decide)]
   show finN 23 8 s 0 (f*2147483648) 31=some u
   rw [fin_yes (show f*2147483648 % 2147483648=0 by omega)]
   show some (s*2147483648+0*8388608+f*2147483648 / 2147483648)=some u
   exact congrArg some (by omega)
  ·have hl:Lib.bitLen f.toNat=23:=bitLen_is 22 f.toNat (by omega) (by show 4194304≤f.toNat; omega) (by show f.toNat<8388608; omega)
   rw [hl]at hw
   have hw:b=s*9223372036854775808+896*4503599627370496+f*2 % 8388608*536870912:=hw
   have hx2:b / 4503599627370496 % 2048=896:=by omega
   have hf2:b % 4503599627370496+4503599627370496=f*1073741824:=by omega
   have hs2:b / 9223372036854775808=s:=by omega
   rw [hx2,hf2,hs2,if_neg (by decide),if_neg (by omega),if_neg (by omega),if_pos (by decide)]
   show finN 23 8 s 0 (f*1073741824) 30=some u
   rw [fin_yes (show f*1073741824 % 1073741824=0 by omega)]
   show some (s*2147483648+0*8388608+f*1073741824 / 1073741824)=some u
   exact congrArg some (by omega)
 ·rw [if_neg hC]at hw
  have hx2:b / 4503599627370496 % 2048=x - 127+1023:=by omega
  rw [if_neg (by omega),if_neg (by omega),if_pos (by omega)]
  exact fin_32 (by omega) (by omega)
theorem widen_bound32 (u:Int) (h0:0≤u) (hu:u<4294967296):0≤widenP 23 8 u∧widenP 23 8 u<18446744073709551616:=by
 obtain ⟨s,hs⟩:∃ s,u / 2147483648=s:=⟨_,rfl⟩
 obtain ⟨x,hx⟩:∃ x,u / 8388608 % 256=x:=⟨_,rfl⟩
 obtain ⟨f,hf⟩:∃ f,u % 8388608=f:=⟨_,rfl⟩
 have hue:u=s*2147483648+x*8388608+f:=by omega
 have bs:0≤s∧s≤1:=by omega
 have bx:0≤x∧x≤255:=by omega
 have bf:0≤f∧f<8388608:=by omega
 clear hs hx hf
 have hw:=widenP_32 s x f bs bx bf
 rw [← hue]at hw
 rw [hw]
 split
 ·omega
 split
 ·omega
 split
 ·have hl:Lib.bitLen f.toNat≤23:=(bitLen_iff 23 f.toNat (by omega)).2 (by show f.toNat<8388608; omega)
  obtain ⟨g,hg⟩:∃ g,(f*2 ^ (23+1 - Lib.bitLen f.toNat)) % 8388608=g:=⟨_,rfl⟩
  have hg2:0≤g∧g<8388608:=by
   rw [← hg]
   omega
  rw [hg]
  omega
 ·omega
def narV (b wd:Int):Option Int:=if wd=16 then narP 10 5 b else if wd=32 then narP 23 8 b else if wd=64 then some b else none
def leastV (b:Int):Int:=if (narP 10 5 b).isSome=true then 16 else if (narP 23 8 b).isSome=true then 32 else 64
theorem nar_least (b:Int):∃ c,narV b (leastV b)=some c:=by
 unfold leastV
 split
 ·rename_i h
  exact Option.isSome_iff_exists.1 h
 split
 ·rename_i h
  exact Option.isSome_iff_exists.1 h
 ·exact ⟨b,rfl⟩
def narO (o:Own):Own:={ o with wd:=leastV (widenV o.u o.wd),u:=(narV (widenV o.u o.wd) (leastV (widenV o.u o.wd))).getD 0 }
def flD (o:Own):Bool:=decide (leastV (widenV o.u o.wd)=o.wd)
theorem wideOk_is {u wd:Int} (h:wideOk u wd=true):(wd=16∧u<65536)∨(wd=32∧u<4294967296)∨wd=64:=by
 unfold wideOk at h
 split at h
 ·rename_i e
  exact .inr (.inr e)
 split at h
 ·rename_i e
  exact .inl ⟨e,of_decide_eq_true h⟩
 split at h
 ·rename_i e
  exact .inr (.inl ⟨e,of_decide_eq_true h⟩)
 ·cases h
theorem widenV_bound {u wd:Int} (h0:0≤u) (h1:u<18446744073709551616):0≤widenV u wd∧widenV u wd<18446744073709551616:=by
 unfold widenV
 split
 ·rename_i h
  rcases wideOk_is h with ⟨e,h2⟩ | ⟨e,h2⟩ | e
  ·rw [if_pos e]
   exact widen_bound16 u h0 h2
  ·rw [if_neg (by omega),if_pos e]
   exact widen_bound32 u h0 h2
  ·rw [if_neg (by omega),if_neg (by omega)]
   omega
 ·omega
theorem widen_narV {b wd c:Int} (h0:0≤b) (h1:b<18446744073709551616) (h:narV b wd=some c):0≤c∧c<18446744073709551616∧wideOk c wd=true∧widenV c wd=b:=by
 unfold narV at h
 split at h
 ·rename_i e
  obtain ⟨a1,a2,a3⟩:=widen_nar16 b c h0 h1 h
  have hw:wideOk c wd=true:=by
   unfold wideOk
   rw [if_neg (by omega),if_pos e,decide_eq_true a2]
  refine ⟨a1,by omega,hw,?_⟩
  unfold widenV
  rw [if_pos hw,if_pos e,a3]
 split at h
 ·rename_i e2 e
  obtain ⟨a1,a2,a3⟩:=widen_nar32 b c h0 h1 h
  have hw:wideOk c wd=true:=by
   unfold wideOk
   rw [if_neg (by omega),if_neg (by omega),if_pos e,decide_eq_true a2]
  refine ⟨a1,by omega,hw,?_⟩
  unfold widenV
  rw [if_pos hw,if_neg (by omega),if_pos e,a3]
 split at h
 ·rename_i e
  injection h with h
  subst h
  have hw:wideOk b wd=true:=by
   unfold wideOk
   rw [if_pos e]
  refine ⟨h0,h1,hw,?_⟩
  unfold widenV
  rw [if_pos hw,if_neg (by omega),if_neg (by omega)]
 ·cases h
theorem nar_widenV {u wd:Int} (h0:0≤u) (h:wideOk u wd=true):narV (widenV u wd) wd=some u:=by
 unfold widenV narV
 rw [if_pos h]
 rcases wideOk_is h with ⟨e,h2⟩ | ⟨e,h2⟩ | e
 ·rw [if_pos e,if_pos e]
  exact nar_widen16 u h0 h2
 ·rw [if_neg (by omega),if_pos e,if_neg (by omega),if_pos e]
  exact nar_widen32 u h0 h2
 ·rw [if_neg (by omega),if_neg (by omega),if_pos e,if_neg (by omega),if_neg (by omega)]
theorem own_floatW {o:Own} (h4:o.kind=4) (h:ownB o []=true):o={ zeroO with kind:=4,u:=o.u,wd:=o.wd }∧wideOk o.u o.wd=true:=by
 unfold ownB at h
 rw [if_neg (by omega),if_neg (by omega),if_neg (by omega),if_pos h4]at h
 unfold onlyB at h
 simp only [Bool.and_eq_true,decide_eq_true_iff]at h
 refine ⟨?_,h.2.2⟩
 have:=h.2.1
 rw [h4]at this
 exact this
def RangeO (o:Own):Prop:=0≤o.u∧o.u<18446744073709551616
theorem narO_parts {o:Own} (hr:RangeO o):RangeO (narO o)∧wideOk (narO o).u (narO o).wd=true∧widenV (narO o).u (narO o).wd=widenV o.u o.wd:=by
 obtain ⟨b0,b1⟩:=widenV_bound (wd:=o.wd) hr.1 hr.2
 obtain ⟨c,hc⟩:=nar_least (widenV o.u o.wd)
 obtain ⟨a1,a2,a3,a4⟩:=widen_narV b0 b1 hc
 have hu:(narO o).u=c:=by
  show (narV (widenV o.u o.wd) (leastV (widenV o.u o.wd))).getD 0=c
  rw [hc]
  rfl
 have hw:(narO o).wd=leastV (widenV o.u o.wd):=rfl
 unfold RangeO
 rw [hu,hw]
 exact ⟨⟨a1,a2⟩,a3,a4⟩
theorem narO_own {o:Own} (hr:RangeO o) (h4:o.kind=4) (h:ownB o []=true):ownB (narO o) []=true:=by
 obtain ⟨e,_⟩:=own_floatW h4 h
 obtain ⟨_,p2,_⟩:=narO_parts hr
 have hk:(narO o).kind=4:=h4
 have hon:onlyB (narO o) { zeroO with u:=(narO o).u,wd:=(narO o).wd }=true:=by
  unfold onlyB
  refine decide_eq_true ?_
  unfold narO
  rw [e]
 unfold ownB
 rw [if_neg (by omega),if_neg (by omega),if_neg (by omega),if_pos hk,hon,p2]
 rfl
theorem narO_idem {o:Own} (hr:RangeO o):narO (narO o)=narO o:=by
 obtain ⟨p1,p2,p3⟩:=narO_parts hr
 have h1:narO (narO o)={ narO o with wd:=leastV (widenV (narO o).u (narO o).wd),u:=(narV (widenV (narO o).u (narO o).wd) (leastV (widenV (narO o).u (narO o).wd))).getD 0 }:=rfl
 rw [p3]at h1
 exact h1
theorem narO_fit {o:Own} (hr:RangeO o):flD (narO o)=true:=by
 obtain ⟨p1,p2,p3⟩:=narO_parts hr
 unfold flD
 rw [p3]
 exact decide_eq_true rfl
theorem narO_self {o:Own} (hr:RangeO o) (h4:o.kind=4) (h:ownB o []=true) (hf:flD o=true):narO o=o:=by
 obtain ⟨_,hw⟩:=own_floatW h4 h
 have hl:leastV (widenV o.u o.wd)=o.wd:=of_decide_eq_true hf
 unfold narO
 rw [hl,nar_widenV hr.1 hw]
 rfl
end Go.Proofs.YtonihophanmaaaaGreatDoor
