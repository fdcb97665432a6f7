/- The texts FloM, put together. -/
import Derived.Test.YtonihophanmaaaaGreatDoorPc23
import Derived.Test.YtonihophanmaaaaGreatDoorPc04
namespace Go.Proofs.YtonihophanmaaaaGreatDoor
open Go.RowKit Go.Shelf
theorem zT {p k:Nat} {s x f:Int} {a:Nat} (h:f % 2 ^ a=0):zN p k s x f a=some (s*2 ^ (p+k)+x*2 ^ p+f / 2 ^ a):=by
 unfold zN
 rw [if_pos h]
theorem yZ {s x f c:Int} (h:f % 4398046511104=0) (hc:c=s*32768+x*1024+f / 4398046511104):zN 10 5 s x f 42=some c:=by
 rw [zT (show f % 2 ^ 42=0 from h),hc]
 rfl
theorem zg5 (u:Int) (y:0≤u) (z:u<65536):qQ 10 5 (j6 10 5 u)=some u:=by
 obtain ⟨s,t⟩:∃ s,u / 32768=s:=⟨_,rfl⟩
 obtain ⟨x,v⟩:∃ x,u / 1024 % 32=x:=⟨_,rfl⟩
 obtain ⟨f,r⟩:∃ f,u % 1024=f:=⟨_,rfl⟩
 have o:u=s*32768+x*1024+f:=by omega
 have q:0≤s∧s≤1:=by omega
 have m:0≤x∧x≤31:=by omega
 have p:0≤f∧f<1024:=by omega
 clear t v r
 have a:=jW s x f q m p
 rw [← o]at a
 obtain ⟨b,n⟩:∃ b,j6 10 5 u=b:=⟨_,rfl⟩
 rw [n]at a ⊢
 clear n
 rw [zdR]
 by_cases hA:x=31
 ·rw [if_pos hA]at a
  rw [if_pos (by omega)]
  exact yZ (by omega) (by omega)
 rw [if_neg hA]at a
 by_cases k:x=0∧f=0
 ·rw [if_pos k]at a
  rw [if_neg (by omega),if_pos (by omega)]
  exact yZ (by omega) (by omega)
 rw [if_neg k]at a
 by_cases l:x=0
 ·rw [if_pos l]at a
  subst l
  have w:1≤f:=by omega
  clear hA k m
  have j:(1≤f∧f<2)∨(2≤f∧f<4)∨(4≤f∧f<8)∨(8≤f∧f<16)∨(16≤f∧f<32)∨(32≤f∧f<64)∨(64≤f∧f<128)∨(128≤f∧f<256)∨(256≤f∧f<512)∨(512≤f∧f<1024):=by omega
  rcases j with ⟨h,i⟩ | ⟨h,i⟩ | ⟨h,i⟩ | ⟨h,i⟩ | ⟨h,i⟩ | ⟨h,i⟩ | ⟨h,i⟩ | ⟨h,i⟩ | ⟨h,i⟩ | ⟨h,i⟩
  ·have g:Lib.bitLen f.toNat=1:=zh 0 f.toNat (by omega) (by show 1≤f.toNat; omega) (by show f.toNat<2; omega)
   rw [g]at a
   have a:b=s*9223372036854775808+999*4503599627370496+f*1024 % 1024*4398046511104:=a
   have c:b / 4503599627370496 % 2048=999:=by omega
   have d:b % 4503599627370496+4503599627370496=f*4503599627370496:=by omega
   have e:b / 9223372036854775808=s:=by omega
   rw [c,d,e,if_neg (by decide),if_neg (by omega),if_neg (by omega),if_pos (by decide)]
   show zN 10 5 s 0 (f*4503599627370496) 52=some u
   rw [zT (show f*4503599627370496 % 4503599627370496=0 by omega)]
   show some (s*32768+0*1024+f*4503599627370496 / 4503599627370496)=some u
   exact congrArg some (by omega)
  ·have g:Lib.bitLen f.toNat=2:=zh 1 f.toNat (by omega) (by show 2≤f.toNat; omega) (by show f.toNat<4; omega)
   rw [g]at a
   have a:b=s*9223372036854775808+1000*4503599627370496+f*512 % 1024*4398046511104:=a
   have c:b / 4503599627370496 % 2048=1000:=by omega
   have d:b % 4503599627370496+4503599627370496=f*2251799813685248:=by omega
   have e:b / 9223372036854775808=s:=by omega
   rw [c,d,e,if_neg (by decide),if_neg (by omega),if_neg (by omega),if_pos (by decide)]
   show zN 10 5 s 0 (f*2251799813685248) 51=some u
   rw [zT (show f*2251799813685248 % 2251799813685248=0 by omega)]
   show some (s*32768+0*1024+f*2251799813685248 / 2251799813685248)=some u
   exact congrArg some (by omega)
  ·have g:Lib.bitLen f.toNat=3:=zh 2 f.toNat (by omega) (by show 4≤f.toNat; omega) (by show f.toNat<8; omega)
   rw [g]at a
   have a:b=s*9223372036854775808+1001*4503599627370496+f*256 % 1024*4398046511104:=a
   have c:b / 4503599627370496 % 2048=1001:=by omega
   have d:b % 4503599627370496+4503599627370496=f*1125899906842624:=by omega
   have e:b / 9223372036854775808=s:=by omega
   rw [c,d,e,if_neg (by decide),if_neg (by omega),if_neg (by omega),if_pos (by decide)]
   show zN 10 5 s 0 (f*1125899906842624) 50=some u
   rw [zT (show f*1125899906842624 % 1125899906842624=0 by omega)]
   show some (s*32768+0*1024+f*1125899906842624 / 1125899906842624)=some u
   exact congrArg some (by omega)
  ·have g:Lib.bitLen f.toNat=4:=zh 3 f.toNat (by omega) (by show 8≤f.toNat; omega) (by show f.toNat<16; omega)
   rw [g]at a
   have a:b=s*9223372036854775808+1002*4503599627370496+f*128 % 1024*4398046511104:=a
   have c:b / 4503599627370496 % 2048=1002:=by omega
   have d:b % 4503599627370496+4503599627370496=f*562949953421312:=by omega
   have e:b / 9223372036854775808=s:=by omega
   rw [c,d,e,if_neg (by decide),if_neg (by omega),if_neg (by omega),if_pos (by decide)]
   show zN 10 5 s 0 (f*562949953421312) 49=some u
   rw [zT (show f*562949953421312 % 562949953421312=0 by omega)]
   show some (s*32768+0*1024+f*562949953421312 / 562949953421312)=some u
   exact congrArg some (by omega)
  ·have g:Lib.bitLen f.toNat=5:=zh 4 f.toNat (by omega) (by show 16≤f.toNat; omega) (by show f.toNat<32; omega)
   rw [g]at a
   have a:b=s*9223372036854775808+1003*4503599627370496+f*64 % 1024*4398046511104:=a
   have c:b / 4503599627370496 % 2048=1003:=by omega
   have d:b % 4503599627370496+4503599627370496=f*281474976710656:=by omega
   have e:b / 9223372036854775808=s:=by omega
   rw [c,d,e,if_neg (by decide),if_neg (by omega),if_neg (by omega),if_pos (by decide)]
   show zN 10 5 s 0 (f*281474976710656) 48=some u
   rw [zT (show f*281474976710656 % 281474976710656=0 by omega)]
   show some (s*32768+0*1024+f*281474976710656 / 281474976710656)=some u
   exact congrArg some (by omega)
  ·have g:Lib.bitLen f.toNat=6:=zh 5 f.toNat (by omega) (by show 32≤f.toNat; omega) (by show f.toNat<64; omega)
   rw [g]at a
   have a:b=s*9223372036854775808+1004*4503599627370496+f*32 % 1024*4398046511104:=a
   have c:b / 4503599627370496 % 2048=1004:=by omega
   have d:b % 4503599627370496+4503599627370496=f*140737488355328:=by omega
   have e:b / 9223372036854775808=s:=by omega
   rw [c,d,e,if_neg (by decide),if_neg (by omega),if_neg (by omega),if_pos (by decide)]
   show zN 10 5 s 0 (f*140737488355328) 47=some u
   rw [zT (show f*140737488355328 % 140737488355328=0 by omega)]
   show some (s*32768+0*1024+f*140737488355328 / 140737488355328)=some u
   exact congrArg some (by omega)
  ·have g:Lib.bitLen f.toNat=7:=zh 6 f.toNat (by omega) (by show 64≤f.toNat; omega) (by show f.toNat<128; omega)
   rw [g]at a
   have a:b=s*9223372036854775808+1005*4503599627370496+f*16 % 1024*4398046511104:=a
   have c:b / 4503599627370496 % 2048=1005:=by omega
   have d:b % 4503599627370496+4503599627370496=f*70368744177664:=by omega
   have e:b / 9223372036854775808=s:=by omega
   rw [c,d,e,if_neg (by decide),if_neg (by omega),if_neg (by omega),if_pos (by decide)]
   show zN 10 5 s 0 (f*70368744177664) 46=some u
   rw [zT (show f*70368744177664 % 70368744177664=0 by omega)]
   show some (s*32768+0*1024+f*70368744177664 / 70368744177664)=some u
   exact congrArg some (by omega)
  ·have g:Lib.bitLen f.toNat=8:=zh 7 f.toNat (by omega) (by show 128≤f.toNat; omega) (by show f.toNat<256; omega)
   rw [g]at a
   have a:b=s*9223372036854775808+1006*4503599627370496+f*8 % 1024*4398046511104:=a
   have c:b / 4503599627370496 % 2048=1006:=by omega
   have d:b % 4503599627370496+4503599627370496=f*35184372088832:=by omega
   have e:b / 9223372036854775808=s:=by omega
   rw [c,d,e,if_neg (by decide),if_neg (by omega),if_neg (by omega),if_pos (by decide)]
   show zN 10 5 s 0 (f*35184372088832) 45=some u
   rw [zT (show f*35184372088832 % 35184372088832=0 by omega)]
   show some (s*32768+0*1024+f*35184372088832 / 35184372088832)=some u
   exact congrArg some (by omega)
  ·have g:Lib.bitLen f.toNat=9:=zh 8 f.toNat (by omega) (by show 256≤f.toNat; omega) (by show f.toNat<512; omega)
   rw [g]at a
   have a:b=s*9223372036854775808+1007*4503599627370496+f*4 % 1024*4398046511104:=a
   have c:b / 4503599627370496 % 2048=1007:=by omega
   have d:b % 4503599627370496+4503599627370496=f*17592186044416:=by omega
   have e:b / 9223372036854775808=s:=by omega
   rw [c,d,e,if_neg (by decide),if_neg (by omega),if_neg (by omega),if_pos (by decide)]
   show zN 10 5 s 0 (f*17592186044416) 44=some u
   rw [zT (show f*17592186044416 % 17592186044416=0 by omega)]
   show some (s*32768+0*1024+f*17592186044416 / 17592186044416)=some u
   exact congrArg some (by omega)
  ·have g:Lib.bitLen f.toNat=10:=zh 9 f.toNat (by omega) (by show 512≤f.toNat; omega) (by show f.toNat<1024; omega)
   rw [g]at a
   have a:b=s*9223372036854775808+1008*4503599627370496+f*2 % 1024*4398046511104:=a
   have c:b / 4503599627370496 % 2048=1008:=by omega
   have d:b % 4503599627370496+4503599627370496=f*8796093022208:=by omega
   have e:b / 9223372036854775808=s:=by omega
   rw [c,d,e,if_neg (by decide),if_neg (by omega),if_neg (by omega),if_pos (by decide)]
   show zN 10 5 s 0 (f*8796093022208) 43=some u
   rw [zT (show f*8796093022208 % 8796093022208=0 by omega)]
   show some (s*32768+0*1024+f*8796093022208 / 8796093022208)=some u
   exact congrArg some (by omega)
 ·rw [if_neg l]at a
  have c:b / 4503599627370496 % 2048=x - 15+1023:=by omega
  rw [if_neg (by omega),if_neg (by omega),if_pos (by omega)]
  exact yZ (by omega) (by omega)
theorem zeW (u:Int) (m:0≤u) (o:u<65536):0≤j6 10 5 u∧j6 10 5 u<18446744073709551616:=by
 obtain ⟨s,j⟩:∃ s,u / 32768=s:=⟨_,rfl⟩
 obtain ⟨x,k⟩:∃ x,u / 1024 % 32=x:=⟨_,rfl⟩
 obtain ⟨f,i⟩:∃ f,u % 1024=f:=⟨_,rfl⟩
 have b:u=s*32768+x*1024+f:=by omega
 have e:0≤s∧s≤1:=by omega
 have h:0≤x∧x≤31:=by omega
 have d:0≤f∧f<1024:=by omega
 clear j k i
 have c:=jW s x f e h d
 rw [← b]at c
 rw [c]
 split
 ·omega
 split
 ·omega
 split
 ·have n:Lib.bitLen f.toNat≤10:=(jQ 10 f.toNat (by omega)).2 (by show f.toNat<1024; omega)
  obtain ⟨g,a⟩:∃ g,(f*2 ^ (10+1 - Lib.bitLen f.toNat)) % 1024=g:=⟨_,rfl⟩
  have l:0≤g∧g<1024:=by
   rw [← a]
   omega
  rw [a]
  omega
 ·omega
theorem zaa {s x f c:Int} (h:f % 536870912=0) (hc:c=s*2147483648+x*8388608+f / 536870912):zN 23 8 s x f 29=some c:=by
 rw [zT (show f % 2 ^ 29=0 from h),hc]
 rfl
theorem zg6 (u:Int) (y:0≤u) (z:u<4294967296):qQ 23 8 (j6 23 8 u)=some u:=by
 obtain ⟨s,t⟩:∃ s,u / 2147483648=s:=⟨_,rfl⟩
 obtain ⟨x,v⟩:∃ x,u / 8388608 % 256=x:=⟨_,rfl⟩
 obtain ⟨f,r⟩:∃ f,u % 8388608=f:=⟨_,rfl⟩
 have o:u=s*2147483648+x*8388608+f:=by omega
 have q:0≤s∧s≤1:=by omega
 have m:0≤x∧x≤255:=by omega
 have p:0≤f∧f<8388608:=by omega
 clear t v r
 have a:=zQ s x f q m p
 rw [← o]at a
 obtain ⟨b,n⟩:∃ b,j6 23 8 u=b:=⟨_,rfl⟩
 rw [n]at a ⊢
 clear n
 rw [zdS]
 by_cases hA:x=255
 ·rw [if_pos hA]at a
  rw [if_pos (by omega)]
  exact zaa (by omega) (by omega)
 rw [if_neg hA]at a
 by_cases k:x=0∧f=0
 ·rw [if_pos k]at a
  rw [if_neg (by omega),if_pos (by omega)]
  exact zaa (by omega) (by omega)
 rw [if_neg k]at a
 by_cases l:x=0
 ·rw [if_pos l]at a
  subst l
  have w:1≤f:=by omega
  clear hA k m
  have j:(1≤f∧f<2)∨(2≤f∧f<4)∨(4≤f∧f<8)∨(8≤f∧f<16)∨(16≤f∧f<32)∨(32≤f∧f<64)∨(64≤f∧f<128)∨(128≤f∧f<256)∨(256≤f∧f<512)∨(512≤f∧f<1024)∨(1024≤f∧f<2048)∨(2048≤f∧f<4096)∨(4096≤f∧f<8192)∨(8192≤f∧f<16384)∨(16384≤f∧f<32768)∨(32768≤f∧f<65536)∨(65536≤f∧f<131072)∨(131072≤f∧f<262144)∨(262144≤f∧f<524288)∨(524288≤f∧f<1048576)∨(1048576≤f∧f<2097152)∨(2097152≤f∧f<4194304)∨(4194304≤f∧f<8388608):=by omega
  rcases j with ⟨h,i⟩ | ⟨h,i⟩ | ⟨h,i⟩ | ⟨h,i⟩ | ⟨h,i⟩ | ⟨h,i⟩ | ⟨h,i⟩ | ⟨h,i⟩ | ⟨h,i⟩ | ⟨h,i⟩ | ⟨h,i⟩ | ⟨h,i⟩ | ⟨h,i⟩ | ⟨h,i⟩ | ⟨h,i⟩ | ⟨h,i⟩ | ⟨h,i⟩ | ⟨h,i⟩ | ⟨h,i⟩ | ⟨h,i⟩ | ⟨h,i⟩ | ⟨h,i⟩ | ⟨h,i⟩
  ·have g:Lib.bitLen f.toNat=1:=zh 0 f.toNat (by omega) (by show 1≤f.toNat; omega) (by show f.toNat<2; omega)
   rw [g]at a
   have a:b=s*9223372036854775808+874*4503599627370496+f*8388608 % 8388608*536870912:=a
   have c:b / 4503599627370496 % 2048=874:=by omega
   have d:b % 4503599627370496+4503599627370496=f*4503599627370496:=by omega
   have e:b / 9223372036854775808=s:=by omega
   rw [c,d,e,if_neg (by decide),if_neg (by omega),if_neg (by omega),if_pos (by decide)]
   show zN 23 8 s 0 (f*4503599627370496) 52=some u
   rw [zT (show f*4503599627370496 % 4503599627370496=0 by omega)]
   show some (s*2147483648+0*8388608+f*4503599627370496 / 4503599627370496)=some u
   exact congrArg some (by omega)
  ·have g:Lib.bitLen f.toNat=2:=zh 1 f.toNat (by omega) (by show 2≤f.toNat; omega) (by show f.toNat<4; omega)
   rw [g]at a
   have a:b=s*9223372036854775808+875*4503599627370496+f*4194304 % 8388608*536870912:=a
   have c:b / 4503599627370496 % 2048=875:=by omega
   have d:b % 4503599627370496+4503599627370496=f*2251799813685248:=by omega
   have e:b / 9223372036854775808=s:=by omega
   rw [c,d,e,if_neg (by decide),if_neg (by omega),if_neg (by omega),if_pos (by decide)]
   show zN 23 8 s 0 (f*2251799813685248) 51=some u
   rw [zT (show f*2251799813685248 % 2251799813685248=0 by omega)]
   show some (s*2147483648+0*8388608+f*2251799813685248 / 2251799813685248)=some u
   exact congrArg some (by omega)
  ·have g:Lib.bitLen f.toNat=3:=zh 2 f.toNat (by omega) (by show 4≤f.toNat; omega) (by show f.toNat<8; omega)
   rw [g]at a
   have a:b=s*9223372036854775808+876*4503599627370496+f*2097152 % 8388608*536870912:=a
   have c:b / 4503599627370496 % 2048=876:=by omega
   have d:b % 4503599627370496+4503599627370496=f*1125899906842624:=by omega
   have e:b / 9223372036854775808=s:=by omega
   rw [c,d,e,if_neg (by decide),if_neg (by omega),if_neg (by omega),if_pos (by decide)]
   show zN 23 8 s 0 (f*1125899906842624) 50=some u
   rw [zT (show f*1125899906842624 % 1125899906842624=0 by omega)]
   show some (s*2147483648+0*8388608+f*1125899906842624 / 1125899906842624)=some u
   exact congrArg some (by omega)
  ·have g:Lib.bitLen f.toNat=4:=zh 3 f.toNat (by omega) (by show 8≤f.toNat; omega) (by show f.toNat<16; omega)
   rw [g]at a
   have a:b=s*9223372036854775808+877*4503599627370496+f*1048576 % 8388608*536870912:=a
   have c:b / 4503599627370496 % 2048=877:=by omega
   have d:b % 4503599627370496+4503599627370496=f*562949953421312:=by omega
   have e:b / 9223372036854775808=s:=by omega
   rw [c,d,e,if_neg (by decide),if_neg (by omega),if_neg (by omega),if_pos (by decide)]
   show zN 23 8 s 0 (f*562949953421312) 49=some u
   rw [zT (show f*562949953421312 % 562949953421312=0 by omega)]
   show some (s*2147483648+0*8388608+f*562949953421312 / 562949953421312)=some u
   exact congrArg some (by omega)
  ·have g:Lib.bitLen f.toNat=5:=zh 4 f.toNat (by omega) (by show 16≤f.toNat; omega) (by show f.toNat<32; omega)
   rw [g]at a
   have a:b=s*9223372036854775808+878*4503599627370496+f*524288 % 8388608*536870912:=a
   have c:b / 4503599627370496 % 2048=878:=by omega
   have d:b % 4503599627370496+4503599627370496=f*281474976710656:=by omega
   have e:b / 9223372036854775808=s:=by omega
   rw [c,d,e,if_neg (by decide),if_neg (by omega),if_neg (by omega),if_pos (by decide)]
   show zN 23 8 s 0 (f*281474976710656) 48=some u
   rw [zT (show f*281474976710656 % 281474976710656=0 by omega)]
   show some (s*2147483648+0*8388608+f*281474976710656 / 281474976710656)=some u
   exact congrArg some (by omega)
  ·have g:Lib.bitLen f.toNat=6:=zh 5 f.toNat (by omega) (by show 32≤f.toNat; omega) (by show f.toNat<64; omega)
   rw [g]at a
   have a:b=s*9223372036854775808+879*4503599627370496+f*262144 % 8388608*536870912:=a
   have c:b / 4503599627370496 % 2048=879:=by omega
   have d:b % 4503599627370496+4503599627370496=f*140737488355328:=by omega
   have e:b / 9223372036854775808=s:=by omega
   rw [c,d,e,if_neg (by decide),if_neg (by omega),if_neg (by omega),if_pos (by decide)]
   show zN 23 8 s 0 (f*140737488355328) 47=some u
   rw [zT (show f*140737488355328 % 140737488355328=0 by omega)]
   show some (s*2147483648+0*8388608+f*140737488355328 / 140737488355328)=some u
   exact congrArg some (by omega)
  ·have g:Lib.bitLen f.toNat=7:=zh 6 f.toNat (by omega) (by show 64≤f.toNat; omega) (by show f.toNat<128; omega)
   rw [g]at a
   have a:b=s*9223372036854775808+880*4503599627370496+f*131072 % 8388608*536870912:=a
   have c:b / 4503599627370496 % 2048=880:=by omega
   have d:b % 4503599627370496+4503599627370496=f*70368744177664:=by omega
   have e:b / 9223372036854775808=s:=by omega
   rw [c,d,e,if_neg (by decide),if_neg (by omega),if_neg (by omega),if_pos (by decide)]
   show zN 23 8 s 0 (f*70368744177664) 46=some u
   rw [zT (show f*70368744177664 % 70368744177664=0 by omega)]
   show some (s*2147483648+0*8388608+f*70368744177664 / 70368744177664)=some u
   exact congrArg some (by omega)
  ·have g:Lib.bitLen f.toNat=8:=zh 7 f.toNat (by omega) (by show 128≤f.toNat; omega) (by show f.toNat<256; omega)
   rw [g]at a
   have a:b=s*9223372036854775808+881*4503599627370496+f*65536 % 8388608*536870912:=a
   have c:b / 4503599627370496 % 2048=881:=by omega
   have d:b % 4503599627370496+4503599627370496=f*35184372088832:=by omega
   have e:b / 9223372036854775808=s:=by omega
   rw [c,d,e,if_neg (by decide),if_neg (by omega),if_neg (by omega),if_pos (by decide)]
   show zN 23 8 s 0 (f*35184372088832) 45=some u
   rw [zT (show f*35184372088832 % 35184372088832=0 by omega)]
   show some (s*2147483648+0*8388608+f*35184372088832 / 35184372088832)=some u
   exact congrArg some (by omega)
  ·have g:Lib.bitLen f.toNat=9:=zh 8 f.toNat (by omega) (by show 256≤f.toNat; omega) (by show f.toNat<512; omega)
   rw [g]at a
   have a:b=s*9223372036854775808+882*4503599627370496+f*32768 % 8388608*536870912:=a
   have c:b / 4503599627370496 % 2048=882:=by omega
   have d:b % 4503599627370496+4503599627370496=f*17592186044416:=by omega
   have e:b / 9223372036854775808=s:=by omega
   rw [c,d,e,if_neg (by decide),if_neg (by omega),if_neg (by omega),if_pos (by decide)]
   show zN 23 8 s 0 (f*17592186044416) 44=some u
   rw [zT (show f*17592186044416 % 17592186044416=0 by omega)]
   show some (s*2147483648+0*8388608+f*17592186044416 / 17592186044416)=some u
   exact congrArg some (by omega)
  ·have g:Lib.bitLen f.toNat=10:=zh 9 f.toNat (by omega) (by show 512≤f.toNat; omega) (by show f.toNat<1024; omega)
   rw [g]at a
   have a:b=s*9223372036854775808+883*4503599627370496+f*16384 % 8388608*536870912:=a
   have c:b / 4503599627370496 % 2048=883:=by omega
   have d:b % 4503599627370496+4503599627370496=f*8796093022208:=by omega
   have e:b / 9223372036854775808=s:=by omega
   rw [c,d,e,if_neg (by decide),if_neg (by omega),if_neg (by omega),if_pos (by decide)]
   show zN 23 8 s 0 (f*8796093022208) 43=some u
   rw [zT (show f*8796093022208 % 8796093022208=0 by omega)]
   show some (s*2147483648+0*8388608+f*8796093022208 / 8796093022208)=some u
   exact congrArg some (by omega)
  ·have g:Lib.bitLen f.toNat=11:=zh 10 f.toNat (by omega) (by show 1024≤f.toNat; omega) (by show f.toNat<2048; omega)
   rw [g]at a
   have a:b=s*9223372036854775808+884*4503599627370496+f*8192 % 8388608*536870912:=a
   have c:b / 4503599627370496 % 2048=884:=by omega
   have d:b % 4503599627370496+4503599627370496=f*4398046511104:=by omega
   have e:b / 9223372036854775808=s:=by omega
   rw [c,d,e,if_neg (by decide),if_neg (by omega),if_neg (by omega),if_pos (by decide)]
   show zN 23 8 s 0 (f*4398046511104) 42=some u
   rw [zT (show f*4398046511104 % 4398046511104=0 by omega)]
   show some (s*2147483648+0*8388608+f*4398046511104 / 4398046511104)=some u
   exact congrArg some (by omega)
  ·have g:Lib.bitLen f.toNat=12:=zh 11 f.toNat (by omega) (by show 2048≤f.toNat; omega) (by show f.toNat<4096; omega)
   rw [g]at a
   have a:b=s*9223372036854775808+885*4503599627370496+f*4096 % 8388608*536870912:=a
   have c:b / 4503599627370496 % 2048=885:=by omega
   have d:b % 4503599627370496+4503599627370496=f*2199023255552:=by omega
   have e:b / 9223372036854775808=s:=by omega
   rw [c,d,e,if_neg (by decide),if_neg (by omega),if_neg (by omega),if_pos (by decide)]
   show zN 23 8 s 0 (f*2199023255552) 41=some u
   rw [zT (show f*2199023255552 % 2199023255552=0 by omega)]
   show some (s*2147483648+0*8388608+f*2199023255552 / 2199023255552)=some u
   exact congrArg some (by omega)
  ·have g:Lib.bitLen f.toNat=13:=zh 12 f.toNat (by omega) (by show 4096≤f.toNat; omega) (by show f.toNat<8192; omega)
   rw [g]at a
   have a:b=s*9223372036854775808+886*4503599627370496+f*2048 % 8388608*536870912:=a
   have c:b / 4503599627370496 % 2048=886:=by omega
   have d:b % 4503599627370496+4503599627370496=f*1099511627776:=by omega
   have e:b / 9223372036854775808=s:=by omega
   rw [c,d,e,if_neg (by decide),if_neg (by omega),if_neg (by omega),if_pos (by decide)]
   show zN 23 8 s 0 (f*1099511627776) 40=some u
   rw [zT (show f*1099511627776 % 1099511627776=0 by omega)]
   show some (s*2147483648+0*8388608+f*1099511627776 / 1099511627776)=some u
   exact congrArg some (by omega)
  ·have g:Lib.bitLen f.toNat=14:=zh 13 f.toNat (by omega) (by show 8192≤f.toNat; omega) (by show f.toNat<16384; omega)
   rw [g]at a
   have a:b=s*9223372036854775808+887*4503599627370496+f*1024 % 8388608*536870912:=a
   have c:b / 4503599627370496 % 2048=887:=by omega
   have d:b % 4503599627370496+4503599627370496=f*549755813888:=by omega
   have e:b / 9223372036854775808=s:=by omega
   rw [c,d,e,if_neg (by decide),if_neg (by omega),if_neg (by omega),if_pos (by decide)]
   show zN 23 8 s 0 (f*549755813888) 39=some u
   rw [zT (show f*549755813888 % 549755813888=0 by omega)]
   show some (s*2147483648+0*8388608+f*549755813888 / 549755813888)=some u
   exact congrArg some (by omega)
  ·have g:Lib.bitLen f.toNat=15:=zh 14 f.toNat (by omega) (by show 16384≤f.toNat; omega) (by show f.toNat<32768; omega)
   rw [g]at a
   have a:b=s*9223372036854775808+888*4503599627370496+f*512 % 8388608*536870912:=a
   have c:b / 4503599627370496 % 2048=888:=by omega
   have d:b % 4503599627370496+4503599627370496=f*274877906944:=by omega
   have e:b / 9223372036854775808=s:=by omega
   rw [c,d,e,if_neg (by decide),if_neg (by omega),if_neg (by omega),if_pos (by decide)]
   show zN 23 8 s 0 (f*274877906944) 38=some u
   rw [zT (show f*274877906944 % 274877906944=0 by omega)]
   show some (s*2147483648+0*8388608+f*274877906944 / 274877906944)=some u
   exact congrArg some (by omega)
  ·have g:Lib.bitLen f.toNat=16:=zh 15 f.toNat (by omega) (by show 32768≤f.toNat; omega) (by show f.toNat<65536; omega)
   rw [g]at a
   have a:b=s*9223372036854775808+889*4503599627370496+f*256 % 8388608*536870912:=a
   have c:b / 4503599627370496 % 2048=889:=by omega
   have d:b % 4503599627370496+4503599627370496=f*137438953472:=by omega
   have e:b / 9223372036854775808=s:=by omega
   rw [c,d,e,if_neg (by decide),if_neg (by omega),if_neg (by omega),if_pos (by decide)]
   show zN 23 8 s 0 (f*137438953472) 37=some u
   rw [zT (show f*137438953472 % 137438953472=0 by omega)]
   show some (s*2147483648+0*8388608+f*137438953472 / 137438953472)=some u
   exact congrArg some (by omega)
  ·have g:Lib.bitLen f.toNat=17:=zh 16 f.toNat (by omega) (by show 65536≤f.toNat; omega) (by show f.toNat<131072; omega)
   rw [g]at a
   have a:b=s*9223372036854775808+890*4503599627370496+f*128 % 8388608*536870912:=a
   have c:b / 4503599627370496 % 2048=890:=by omega
   have d:b % 4503599627370496+4503599627370496=f*68719476736:=by omega
   have e:b / 9223372036854775808=s:=by omega
   rw [c,d,e,if_neg (by decide),if_neg (by omega),if_neg (by omega),if_pos (by decide)]
   show zN 23 8 s 0 (f*68719476736) 36=some u
   rw [zT (show f*68719476736 % 68719476736=0 by omega)]
   show some (s*2147483648+0*8388608+f*68719476736 / 68719476736)=some u
   exact congrArg some (by omega)
  ·have g:Lib.bitLen f.toNat=18:=zh 17 f.toNat (by omega) (by show 131072≤f.toNat; omega) (by show f.toNat<262144; omega)
   rw [g]at a
   have a:b=s*9223372036854775808+891*4503599627370496+f*64 % 8388608*536870912:=a
   have c:b / 4503599627370496 % 2048=891:=by omega
   have d:b % 4503599627370496+4503599627370496=f*34359738368:=by omega
   have e:b / 9223372036854775808=s:=by omega
   rw [c,d,e,if_neg (by decide),if_neg (by omega),if_neg (by omega),if_pos (by decide)]
   show zN 23 8 s 0 (f*34359738368) 35=some u
   rw [zT (show f*34359738368 % 34359738368=0 by omega)]
   show some (s*2147483648+0*8388608+f*34359738368 / 34359738368)=some u
   exact congrArg some (by omega)
  ·have g:Lib.bitLen f.toNat=19:=zh 18 f.toNat (by omega) (by show 262144≤f.toNat; omega) (by show f.toNat<524288; omega)
   rw [g]at a
   have a:b=s*9223372036854775808+892*4503599627370496+f*32 % 8388608*536870912:=a
   have c:b / 4503599627370496 % 2048=892:=by omega
   have d:b % 4503599627370496+4503599627370496=f*17179869184:=by omega
   have e:b / 9223372036854775808=s:=by omega
   rw [c,d,e,if_neg (by decide),if_neg (by omega),if_neg (by omega),if_pos (by decide)]
   show zN 23 8 s 0 (f*17179869184) 34=some u
   rw [zT (show f*17179869184 % 17179869184=0 by omega)]
   show some (s*2147483648+0*8388608+f*17179869184 / 17179869184)=some u
   exact congrArg some (by omega)
  ·have g:Lib.bitLen f.toNat=20:=zh 19 f.toNat (by omega) (by show 524288≤f.toNat; omega) (by show f.toNat<1048576; omega)
   rw [g]at a
   have a:b=s*9223372036854775808+893*4503599627370496+f*16 % 8388608*536870912:=a
   have c:b / 4503599627370496 % 2048=893:=by omega
   have d:b % 4503599627370496+4503599627370496=f*8589934592:=by omega
   have e:b / 9223372036854775808=s:=by omega
   rw [c,d,e,if_neg (by decide),if_neg (by omega),if_neg (by omega),if_pos (by decide)]
   show zN 23 8 s 0 (f*8589934592) 33=some u
   rw [zT (show f*8589934592 % 8589934592=0 by omega)]
   show some (s*2147483648+0*8388608+f*8589934592 / 8589934592)=some u
   exact congrArg some (by omega)
  ·have g:Lib.bitLen f.toNat=21:=zh 20 f.toNat (by omega) (by show 1048576≤f.toNat; omega) (by show f.toNat<2097152; omega)
   rw [g]at a
   have a:b=s*9223372036854775808+894*4503599627370496+f*8 % 8388608*536870912:=a
   have c:b / 4503599627370496 % 2048=894:=by omega
   have d:b % 4503599627370496+4503599627370496=f*4294967296:=by omega
   have e:b / 9223372036854775808=s:=by omega
   rw [c,d,e,if_neg (by decide),if_neg (by omega),if_neg (by omega),if_pos (by decide)]
   show zN 23 8 s 0 (f*4294967296) 32=some u
   rw [zT (show f*4294967296 % 4294967296=0 by omega)]
   show some (s*2147483648+0*8388608+f*4294967296 / 4294967296)=some u
   exact congrArg some (by omega)
  ·have g:Lib.bitLen f.toNat=22:=zh 21 f.toNat (by omega) (by show 2097152≤f.toNat; omega) (by show f.toNat<4194304; omega)
   rw [g]at a
   have a:b=s*9223372036854775808+895*4503599627370496+f*4 % 8388608*536870912:=a
   have c:b / 4503599627370496 % 2048=895:=by omega
   have d:b % 4503599627370496+4503599627370496=f*2147483648:=by omega
   have e:b / 9223372036854775808=s:=by omega
   rw [c,d,e,if_neg (by decide),if_neg (by omega),if_neg (by omega),if_pos (by decide)]
   show zN 23 8 s 0 (f*2147483648) 31=some u
   rw [zT (show f*2147483648 % 2147483648=0 by omega)]
   show some (s*2147483648+0*8388608+f*2147483648 / 2147483648)=some u
   exact congrArg some (by omega)
  ·have g:Lib.bitLen f.toNat=23:=zh 22 f.toNat (by omega) (by show 4194304≤f.toNat; omega) (by show f.toNat<8388608; omega)
   rw [g]at a
   have a:b=s*9223372036854775808+896*4503599627370496+f*2 % 8388608*536870912:=a
   have c:b / 4503599627370496 % 2048=896:=by omega
   have d:b % 4503599627370496+4503599627370496=f*1073741824:=by omega
   have e:b / 9223372036854775808=s:=by omega
   rw [c,d,e,if_neg (by decide),if_neg (by omega),if_neg (by omega),if_pos (by decide)]
   show zN 23 8 s 0 (f*1073741824) 30=some u
   rw [zT (show f*1073741824 % 1073741824=0 by omega)]
   show some (s*2147483648+0*8388608+f*1073741824 / 1073741824)=some u
   exact congrArg some (by omega)
 ·rw [if_neg l]at a
  have c:b / 4503599627370496 % 2048=x - 127+1023:=by omega
  rw [if_neg (by omega),if_neg (by omega),if_pos (by omega)]
  exact zaa (by omega) (by omega)
theorem zeX (u:Int) (m:0≤u) (o:u<4294967296):0≤j6 23 8 u∧j6 23 8 u<18446744073709551616:=by
 obtain ⟨s,j⟩:∃ s,u / 2147483648=s:=⟨_,rfl⟩
 obtain ⟨x,k⟩:∃ x,u / 8388608 % 256=x:=⟨_,rfl⟩
 obtain ⟨f,i⟩:∃ f,u % 8388608=f:=⟨_,rfl⟩
 have b:u=s*2147483648+x*8388608+f:=by omega
 have e:0≤s∧s≤1:=by omega
 have h:0≤x∧x≤255:=by omega
 have d:0≤f∧f<8388608:=by omega
 clear j k i
 have c:=zQ s x f e h d
 rw [← b]at c
 rw [c]
 split
 ·omega
 split
 ·omega
 split
 ·have n:Lib.bitLen f.toNat≤23:=(jQ 23 f.toNat (by omega)).2 (by show f.toNat<8388608; omega)
  obtain ⟨g,a⟩:∃ g,(f*2 ^ (23+1 - Lib.bitLen f.toNat)) % 8388608=g:=⟨_,rfl⟩
  have l:0≤g∧g<8388608:=by
   rw [← a]
   omega
  rw [a]
  omega
 ·omega
def kD (b wd:Int):Option Int:=if wd=16 then qQ 10 5 b else if wd=32 then qQ 23 8 b else if wd=64 then some b else none
def j4 (b:Int):Int:=if (qQ 10 5 b).isSome=true then 16 else if (qQ 23 8 b).isSome=true then 32 else 64
theorem zj3 (b:Int):∃ c,kD b (j4 b)=some c:=by
 unfold j4
 split
 ·rename_i h
  exact Option.isSome_iff_exists.1 h
 split
 ·rename_i h
  exact Option.isSome_iff_exists.1 h
 ·exact ⟨b,rfl⟩
def jw (o:Own):Own:={ o with wd:=j4 (je o.u o.wd),u:=(kD (je o.u o.wd) (j4 (je o.u o.wd))).getD 0 }
def flD (o:Own):Bool:=decide (j4 (je o.u o.wd)=o.wd)
theorem zeI {u wd:Int} (h:j5 u wd=true):(wd=16∧u<65536)∨(wd=32∧u<4294967296)∨wd=64:=by
 unfold j5 at h
 split at h
 ·rename_i e
  exact .inr (.inr e)
 split at h
 ·rename_i e
  exact .inl ⟨e,of_decide_eq_true h⟩
 split at h
 ·rename_i e
  exact .inr (.inl ⟨e,of_decide_eq_true h⟩)
 ·cases h
theorem wY {u wd:Int} (b:0≤u) (c:u<18446744073709551616):0≤je u wd∧je u wd<18446744073709551616:=by
 unfold je
 split
 ·rename_i h
  rcases zeI h with ⟨e,a⟩ | ⟨e,a⟩ | e
  ·rw [if_pos e]
   exact zeW u b a
  ·rw [if_neg (by omega),if_pos e]
   exact zeX u b a
  ·rw [if_neg (by omega),if_neg (by omega)]
   omega
 ·omega
theorem zi3 {b wd c:Int} (i:0≤b) (j:b<18446744073709551616) (h:kD b wd=some c):0≤c∧c<18446744073709551616∧j5 c wd=true∧je c wd=b:=by
 unfold kD at h
 split at h
 ·rename_i e
  obtain ⟨d,f,g⟩:=zhk b c i j h
  have a:j5 c wd=true:=by
   unfold j5
   rw [if_neg (by omega),if_pos e,decide_eq_true f]
  refine ⟨d,by omega,a,?_⟩
  unfold je
  rw [if_pos a,if_pos e,g]
 split at h
 ·rename_i k e
  obtain ⟨d,f,g⟩:=zhl b c i j h
  have a:j5 c wd=true:=by
   unfold j5
   rw [if_neg (by omega),if_neg (by omega),if_pos e,decide_eq_true f]
  refine ⟨d,by omega,a,?_⟩
  unfold je
  rw [if_pos a,if_neg (by omega),if_pos e,g]
 split at h
 ·rename_i e
  injection h with h
  subst h
  have a:j5 b wd=true:=by
   unfold j5
   rw [if_pos e]
  refine ⟨i,j,a,?_⟩
  unfold je
  rw [if_pos a,if_neg (by omega),if_neg (by omega)]
 ·cases h
theorem ziD {u wd:Int} (b:0≤u) (h:j5 u wd=true):kD (je u wd) wd=some u:=by
 unfold je kD
 rw [if_pos h]
 rcases zeI h with ⟨e,a⟩ | ⟨e,a⟩ | e
 ·rw [if_pos e,if_pos e]
  exact zg5 u b a
 ·rw [if_neg (by omega),if_pos e,if_neg (by omega),if_pos e]
  exact zg6 u b a
 ·rw [if_neg (by omega),if_neg (by omega),if_pos e,if_neg (by omega),if_neg (by omega)]
theorem zdp {o:Own} (a:o.kind=4) (h:ownB o []=true):o={ zv with kind:=4,u:=o.u,wd:=o.wd }∧j5 o.u o.wd=true:=by
 unfold ownB at h
 rw [if_neg (by omega),if_neg (by omega),if_neg (by omega),if_pos a]at h
 unfold zI at h
 simp only [Bool.and_eq_true,decide_eq_true_iff]at h
 refine ⟨?_,h.2.2⟩
 have:=h.2.1
 rw [a]at this
 exact this
def wJ (o:Own):Prop:=0≤o.u∧o.u<18446744073709551616
theorem xD {o:Own} (a:wJ o):wJ (jw o)∧j5 (jw o).u (jw o).wd=true∧je (jw o).u (jw o).wd=je o.u o.wd:=by
 obtain ⟨g,b1⟩:=wY (wd:=o.wd) a.1 a.2
 obtain ⟨c,hc⟩:=zj3 (je o.u o.wd)
 obtain ⟨b,d,e,f⟩:=zi3 g b1 hc
 have h:(jw o).u=c:=by
  show (kD (je o.u o.wd) (j4 (je o.u o.wd))).getD 0=c
  rw [hc]
  rfl
 have i:(jw o).wd=j4 (je o.u o.wd):=rfl
 unfold wJ
 rw [h,i]
 exact ⟨⟨b,d⟩,e,f⟩
theorem zlt {o:Own} (hr:wJ o) (h4:o.kind=4) (h:ownB o []=true):ownB (jw o) []=true:=by
 obtain ⟨e,_⟩:=zdp h4 h
 obtain ⟨_,p2,_⟩:=xD hr
 have hk:(jw o).kind=4:=h4
 have hon:zI (jw o) { zv with u:=(jw o).u,wd:=(jw o).wd }=true:=by
  unfold zI
  refine decide_eq_true ?_
  unfold jw
  rw [e]
 unfold ownB
 rw [if_neg (by omega),if_neg (by omega),if_neg (by omega),if_pos hk,hon,p2]
 rfl
theorem zj1 {o:Own} (hr:wJ o):jw (jw o)=jw o:=by
 obtain ⟨p1,p2,p3⟩:=xD hr
 have h1:jw (jw o)={ jw o with wd:=j4 (je (jw o).u (jw o).wd),u:=(kD (je (jw o).u (jw o).wd) (j4 (je (jw o).u (jw o).wd))).getD 0 }:=rfl
 rw [p3]at h1
 exact h1
theorem zls {o:Own} (a:wJ o):flD (jw o)=true:=by
 obtain ⟨c,d,b⟩:=xD a
 unfold flD
 rw [b]
 exact decide_eq_true rfl
theorem zj2 {o:Own} (d:wJ o) (a:o.kind=4) (h:ownB o []=true) (b:flD o=true):jw o=o:=by
 obtain ⟨_,e⟩:=zdp a h
 have c:j4 (je o.u o.wd)=o.wd:=of_decide_eq_true b
 unfold jw
 rw [c,ziD d.1 e]
 rfl
end Go.Proofs.YtonihophanmaaaaGreatDoor
