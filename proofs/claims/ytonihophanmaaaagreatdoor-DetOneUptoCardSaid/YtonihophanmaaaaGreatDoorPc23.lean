/- The texts FloN, put together. -/
import Derived.Test.YtonihophanmaaaaGreatDoorPc12
namespace Go.Proofs.YtonihophanmaaaaGreatDoor
open Go.RowKit Go.Shelf
def zN (p k:Nat) (s x f:Int) (low:Nat):Option Int:=if f % 2 ^ low=0 then some (s*2 ^ (p+k)+x*2 ^ p+f / 2 ^ low) else none
def qQ (p k:Nat) (b:Int):Option Int:=
 if b / 4503599627370496 % 2048=2047 then zN p k (b / 9223372036854775808) (2 ^ k - 1) (b % 4503599627370496) (52 - p)
 else if b / 4503599627370496 % 2048=0∧b % 4503599627370496=0 then zN p k (b / 9223372036854775808) 0 0 (52 - p)
 else if 0<b / 4503599627370496 % 2048 - 1023+(2 ^ (k - 1) - 1)∧b / 4503599627370496 % 2048 - 1023+(2 ^ (k - 1) - 1)<2 ^ k - 1 then zN p k (b / 9223372036854775808) (b / 4503599627370496 % 2048 - 1023+(2 ^ (k - 1) - 1)) (b % 4503599627370496) (52 - p)
 else if 0<b / 4503599627370496 % 2048∧b / 4503599627370496 % 2048 - 1023+(2 ^ (k - 1) - 1)≤0∧-(p:Int)<b / 4503599627370496 % 2048 - 1023+(2 ^ (k - 1) - 1) then
  zN p k (b / 9223372036854775808) 0 (b % 4503599627370496+4503599627370496) (53 - p+(1023 - (2 ^ (k - 1) - 1) - b / 4503599627370496 % 2048).toNat)
 else none
theorem zh (n x:Nat) (e:x<18446744073709551616) (g:2 ^ n≤x) (f:x<2 ^ (n+1)):Lib.bitLen x=n+1:=by
 have a:=jQ n x e
 have b:=jQ (n+1) x e
 have c:¬ Lib.bitLen x≤n:=fun h=>by
  have:=a.1 h
  omega
 have d:=b.2 f
 omega
theorem xl {p k:Nat} {s x f c:Int} {low:Nat} (h:zN p k s x f low=some c):f % 2 ^ low=0∧c=s*2 ^ (p+k)+x*2 ^ p+f / 2 ^ low:=by
 unfold zN at h
 split at h
 ·rename_i a
  injection h with h
  exact ⟨a,h.symm⟩
 ·cases h
theorem zdR (b:Int):qQ 10 5 b=if b / 4503599627370496 % 2048=2047 then zN 10 5 (b / 9223372036854775808) 31 (b % 4503599627370496) 42
  else if b / 4503599627370496 % 2048=0∧b % 4503599627370496=0 then zN 10 5 (b / 9223372036854775808) 0 0 42
  else if 0<b / 4503599627370496 % 2048 - 1023+15∧b / 4503599627370496 % 2048 - 1023+15<31 then zN 10 5 (b / 9223372036854775808) (b / 4503599627370496 % 2048 - 1023+15) (b % 4503599627370496) 42
  else if 0<b / 4503599627370496 % 2048∧b / 4503599627370496 % 2048 - 1023+15≤0∧-10<b / 4503599627370496 % 2048 - 1023+15 then
   zN 10 5 (b / 9223372036854775808) 0 (b % 4503599627370496+4503599627370496) (43+(1023 - 15 - b / 4503599627370496 % 2048).toNat)
  else none:=rfl
theorem jW (s x f:Int) (e:0≤s∧s≤1) (g:0≤x∧x≤31) (d:0≤f∧f<1024):j6 10 5 (s*32768+x*1024+f) =
  if x=31 then s*9223372036854775808+2047*4503599627370496+f*4398046511104
  else if x=0∧f=0 then s*9223372036854775808
  else if x=0 then s*9223372036854775808+(1 - (10+1 - (Lib.bitLen f.toNat:Int)) - 15+1023)*4503599627370496+(f*2 ^ (10+1 - Lib.bitLen f.toNat)) % 1024*4398046511104
  else s*9223372036854775808+(x - 15+1023)*4503599627370496+f*4398046511104:=by
 have a:(s*32768+x*1024+f) / 2 ^ (10+5) % 2=s:=by
  show (s*32768+x*1024+f) / 32768 % 2=s
  omega
 have b:(s*32768+x*1024+f) / 2 ^ 10 % 2 ^ 5=x:=by
  show (s*32768+x*1024+f) / 1024 % 32=x
  omega
 have c:(s*32768+x*1024+f) % 2 ^ 10=f:=by
  show (s*32768+x*1024+f) % 1024=f
  omega
 unfold j6
 simp only [a,b,c]
 rfl
theorem zhk (b c:Int) (z:0≤b) (B:b<18446744073709551616) (h:qQ 10 5 b=some c):0≤c∧c<65536∧j6 10 5 c=b:=by
 rw [zdR]at h
 obtain ⟨s,u⟩:∃ s,b / 9223372036854775808=s:=⟨_,rfl⟩
 obtain ⟨x,v⟩:∃ x,b / 4503599627370496 % 2048=x:=⟨_,rfl⟩
 obtain ⟨f,t⟩:∃ f,b % 4503599627370496=f:=⟨_,rfl⟩
 have C:b=s*9223372036854775808+x*4503599627370496+f:=by omega
 have m:0≤s∧s≤1:=by omega
 have y:0≤x∧x≤2047:=by omega
 have E:0≤f∧f<4503599627370496:=by omega
 rw [u,v,t]at h
 clear u v t
 split at h
 ·rename_i hA
  obtain ⟨e,a⟩:=xl h
  have e:f % 4398046511104=0:=e
  have a:c=s*32768+31*1024+f / 4398046511104:=a
  have n:0≤f / 4398046511104∧f / 4398046511104<1024:=by omega
  refine ⟨by omega,by omega,?_⟩
  rw [a,jW s 31 (f / 4398046511104) m (by omega) n,if_pos rfl]
  omega
 split at h
 ·rename_i hA p
  obtain ⟨e,a⟩:=xl h
  have a:c=s*32768+0*1024+0 / 4398046511104:=a
  refine ⟨by omega,by omega,?_⟩
  rw [a,show s*32768+0*1024+0 / 4398046511104=s*32768+0*1024+0 by omega,jW s 0 0 m (by omega) (by omega),if_neg (by decide),if_pos ⟨rfl,rfl⟩]
  omega
 split at h
 ·rename_i hA p q
  obtain ⟨e,a⟩:=xl h
  have e:f % 4398046511104=0:=e
  have a:c=s*32768+(x - 1023+15)*1024+f / 4398046511104:=a
  have n:0≤f / 4398046511104∧f / 4398046511104<1024:=by omega
  refine ⟨by omega,by omega,?_⟩
  rw [a,jW s _ (f / 4398046511104) m (by omega) n,if_neg (by omega),if_neg (by omega),if_neg (by omega)]
  omega
 split at h
 ·rename_i hA p q A
  obtain ⟨d,r⟩:∃ d:Nat,(1023 - 15 - x).toNat=d:=⟨_,rfl⟩
  rw [r]at h
  have w:x=1023 - 15 - d:=by omega
  have D:d<10:=by omega
  subst w
  clear r hA p q A B z y
  obtain ⟨e,a⟩:=xl h
  clear h
  have o:d=0∨d=1∨d=2∨d=3∨d=4∨d=5∨d=6∨d=7∨d=8∨d=9:=by omega
  rcases o with rfl|rfl|rfl|rfl|rfl|rfl|rfl|rfl|rfl|rfl
  ·have e:(f+4503599627370496) % 8796093022208=0:=e
   have a:c=s*32768+0*1024+(f+4503599627370496) / 8796093022208:=a
   obtain ⟨g,i⟩:∃ g,(f+4503599627370496) / 8796093022208=g:=⟨_,rfl⟩
   have k:f+4503599627370496=g*8796093022208:=by omega
   have l:512≤g∧g<1024:=by omega
   rw [i]at a
   have j:Lib.bitLen g.toNat=10:=zh 9 g.toNat (by omega) (by show 512≤g.toNat; omega) (by show g.toNat<1024; omega)
   refine ⟨by omega,by omega,?_⟩
   rw [a,jW s 0 g m (by omega) (by omega),if_neg (by decide),if_neg (by omega),if_pos rfl,j]
   show s*9223372036854775808+(1 - (10+1 - ((10:Nat):Int)) - 15+1023)*4503599627370496+g*2 % 1024*4398046511104=b
   clear e a i j
   omega
  ·have e:(f+4503599627370496) % 17592186044416=0:=e
   have a:c=s*32768+0*1024+(f+4503599627370496) / 17592186044416:=a
   obtain ⟨g,i⟩:∃ g,(f+4503599627370496) / 17592186044416=g:=⟨_,rfl⟩
   have k:f+4503599627370496=g*17592186044416:=by omega
   have l:256≤g∧g<512:=by omega
   rw [i]at a
   have j:Lib.bitLen g.toNat=9:=zh 8 g.toNat (by omega) (by show 256≤g.toNat; omega) (by show g.toNat<512; omega)
   refine ⟨by omega,by omega,?_⟩
   rw [a,jW s 0 g m (by omega) (by omega),if_neg (by decide),if_neg (by omega),if_pos rfl,j]
   show s*9223372036854775808+(1 - (10+1 - ((9:Nat):Int)) - 15+1023)*4503599627370496+g*4 % 1024*4398046511104=b
   clear e a i j
   omega
  ·have e:(f+4503599627370496) % 35184372088832=0:=e
   have a:c=s*32768+0*1024+(f+4503599627370496) / 35184372088832:=a
   obtain ⟨g,i⟩:∃ g,(f+4503599627370496) / 35184372088832=g:=⟨_,rfl⟩
   have k:f+4503599627370496=g*35184372088832:=by omega
   have l:128≤g∧g<256:=by omega
   rw [i]at a
   have j:Lib.bitLen g.toNat=8:=zh 7 g.toNat (by omega) (by show 128≤g.toNat; omega) (by show g.toNat<256; omega)
   refine ⟨by omega,by omega,?_⟩
   rw [a,jW s 0 g m (by omega) (by omega),if_neg (by decide),if_neg (by omega),if_pos rfl,j]
   show s*9223372036854775808+(1 - (10+1 - ((8:Nat):Int)) - 15+1023)*4503599627370496+g*8 % 1024*4398046511104=b
   clear e a i j
   omega
  ·have e:(f+4503599627370496) % 70368744177664=0:=e
   have a:c=s*32768+0*1024+(f+4503599627370496) / 70368744177664:=a
   obtain ⟨g,i⟩:∃ g,(f+4503599627370496) / 70368744177664=g:=⟨_,rfl⟩
   have k:f+4503599627370496=g*70368744177664:=by omega
   have l:64≤g∧g<128:=by omega
   rw [i]at a
   have j:Lib.bitLen g.toNat=7:=zh 6 g.toNat (by omega) (by show 64≤g.toNat; omega) (by show g.toNat<128; omega)
   refine ⟨by omega,by omega,?_⟩
   rw [a,jW s 0 g m (by omega) (by omega),if_neg (by decide),if_neg (by omega),if_pos rfl,j]
   show s*9223372036854775808+(1 - (10+1 - ((7:Nat):Int)) - 15+1023)*4503599627370496+g*16 % 1024*4398046511104=b
   clear e a i j
   omega
  ·have e:(f+4503599627370496) % 140737488355328=0:=e
   have a:c=s*32768+0*1024+(f+4503599627370496) / 140737488355328:=a
   obtain ⟨g,i⟩:∃ g,(f+4503599627370496) / 140737488355328=g:=⟨_,rfl⟩
   have k:f+4503599627370496=g*140737488355328:=by omega
   have l:32≤g∧g<64:=by omega
   rw [i]at a
   have j:Lib.bitLen g.toNat=6:=zh 5 g.toNat (by omega) (by show 32≤g.toNat; omega) (by show g.toNat<64; omega)
   refine ⟨by omega,by omega,?_⟩
   rw [a,jW s 0 g m (by omega) (by omega),if_neg (by decide),if_neg (by omega),if_pos rfl,j]
   show s*9223372036854775808+(1 - (10+1 - ((6:Nat):Int)) - 15+1023)*4503599627370496+g*32 % 1024*4398046511104=b
   clear e a i j
   omega
  ·have e:(f+4503599627370496) % 281474976710656=0:=e
   have a:c=s*32768+0*1024+(f+4503599627370496) / 281474976710656:=a
   obtain ⟨g,i⟩:∃ g,(f+4503599627370496) / 281474976710656=g:=⟨_,rfl⟩
   have k:f+4503599627370496=g*281474976710656:=by omega
   have l:16≤g∧g<32:=by omega
   rw [i]at a
   have j:Lib.bitLen g.toNat=5:=zh 4 g.toNat (by omega) (by show 16≤g.toNat; omega) (by show g.toNat<32; omega)
   refine ⟨by omega,by omega,?_⟩
   rw [a,jW s 0 g m (by omega) (by omega),if_neg (by decide),if_neg (by omega),if_pos rfl,j]
   show s*9223372036854775808+(1 - (10+1 - ((5:Nat):Int)) - 15+1023)*4503599627370496+g*64 % 1024*4398046511104=b
   clear e a i j
   omega
  ·have e:(f+4503599627370496) % 562949953421312=0:=e
   have a:c=s*32768+0*1024+(f+4503599627370496) / 562949953421312:=a
   obtain ⟨g,i⟩:∃ g,(f+4503599627370496) / 562949953421312=g:=⟨_,rfl⟩
   have k:f+4503599627370496=g*562949953421312:=by omega
   have l:8≤g∧g<16:=by omega
   rw [i]at a
   have j:Lib.bitLen g.toNat=4:=zh 3 g.toNat (by omega) (by show 8≤g.toNat; omega) (by show g.toNat<16; omega)
   refine ⟨by omega,by omega,?_⟩
   rw [a,jW s 0 g m (by omega) (by omega),if_neg (by decide),if_neg (by omega),if_pos rfl,j]
   show s*9223372036854775808+(1 - (10+1 - ((4:Nat):Int)) - 15+1023)*4503599627370496+g*128 % 1024*4398046511104=b
   clear e a i j
   omega
  ·have e:(f+4503599627370496) % 1125899906842624=0:=e
   have a:c=s*32768+0*1024+(f+4503599627370496) / 1125899906842624:=a
   obtain ⟨g,i⟩:∃ g,(f+4503599627370496) / 1125899906842624=g:=⟨_,rfl⟩
   have k:f+4503599627370496=g*1125899906842624:=by omega
   have l:4≤g∧g<8:=by omega
   rw [i]at a
   have j:Lib.bitLen g.toNat=3:=zh 2 g.toNat (by omega) (by show 4≤g.toNat; omega) (by show g.toNat<8; omega)
   refine ⟨by omega,by omega,?_⟩
   rw [a,jW s 0 g m (by omega) (by omega),if_neg (by decide),if_neg (by omega),if_pos rfl,j]
   show s*9223372036854775808+(1 - (10+1 - ((3:Nat):Int)) - 15+1023)*4503599627370496+g*256 % 1024*4398046511104=b
   clear e a i j
   omega
  ·have e:(f+4503599627370496) % 2251799813685248=0:=e
   have a:c=s*32768+0*1024+(f+4503599627370496) / 2251799813685248:=a
   obtain ⟨g,i⟩:∃ g,(f+4503599627370496) / 2251799813685248=g:=⟨_,rfl⟩
   have k:f+4503599627370496=g*2251799813685248:=by omega
   have l:2≤g∧g<4:=by omega
   rw [i]at a
   have j:Lib.bitLen g.toNat=2:=zh 1 g.toNat (by omega) (by show 2≤g.toNat; omega) (by show g.toNat<4; omega)
   refine ⟨by omega,by omega,?_⟩
   rw [a,jW s 0 g m (by omega) (by omega),if_neg (by decide),if_neg (by omega),if_pos rfl,j]
   show s*9223372036854775808+(1 - (10+1 - ((2:Nat):Int)) - 15+1023)*4503599627370496+g*512 % 1024*4398046511104=b
   clear e a i j
   omega
  ·have e:(f+4503599627370496) % 4503599627370496=0:=e
   have a:c=s*32768+0*1024+(f+4503599627370496) / 4503599627370496:=a
   obtain ⟨g,i⟩:∃ g,(f+4503599627370496) / 4503599627370496=g:=⟨_,rfl⟩
   have k:f+4503599627370496=g*4503599627370496:=by omega
   have l:1≤g∧g<2:=by omega
   rw [i]at a
   have j:Lib.bitLen g.toNat=1:=zh 0 g.toNat (by omega) (by show 1≤g.toNat; omega) (by show g.toNat<2; omega)
   refine ⟨by omega,by omega,?_⟩
   rw [a,jW s 0 g m (by omega) (by omega),if_neg (by decide),if_neg (by omega),if_pos rfl,j]
   show s*9223372036854775808+(1 - (10+1 - ((1:Nat):Int)) - 15+1023)*4503599627370496+g*1024 % 1024*4398046511104=b
   clear e a i j
   omega
 ·cases h
theorem zdS (b:Int):qQ 23 8 b=if b / 4503599627370496 % 2048=2047 then zN 23 8 (b / 9223372036854775808) 255 (b % 4503599627370496) 29
  else if b / 4503599627370496 % 2048=0∧b % 4503599627370496=0 then zN 23 8 (b / 9223372036854775808) 0 0 29
  else if 0<b / 4503599627370496 % 2048 - 1023+127∧b / 4503599627370496 % 2048 - 1023+127<255 then zN 23 8 (b / 9223372036854775808) (b / 4503599627370496 % 2048 - 1023+127) (b % 4503599627370496) 29
  else if 0<b / 4503599627370496 % 2048∧b / 4503599627370496 % 2048 - 1023+127≤0∧-23<b / 4503599627370496 % 2048 - 1023+127 then
   zN 23 8 (b / 9223372036854775808) 0 (b % 4503599627370496+4503599627370496) (30+(1023 - 127 - b / 4503599627370496 % 2048).toNat)
  else none:=rfl
theorem zQ (s x f:Int) (e:0≤s∧s≤1) (g:0≤x∧x≤255) (d:0≤f∧f<8388608):j6 23 8 (s*2147483648+x*8388608+f) =
  if x=255 then s*9223372036854775808+2047*4503599627370496+f*536870912
  else if x=0∧f=0 then s*9223372036854775808
  else if x=0 then s*9223372036854775808+(1 - (23+1 - (Lib.bitLen f.toNat:Int)) - 127+1023)*4503599627370496+(f*2 ^ (23+1 - Lib.bitLen f.toNat)) % 8388608*536870912
  else s*9223372036854775808+(x - 127+1023)*4503599627370496+f*536870912:=by
 have a:(s*2147483648+x*8388608+f) / 2 ^ (23+8) % 2=s:=by
  show (s*2147483648+x*8388608+f) / 2147483648 % 2=s
  omega
 have b:(s*2147483648+x*8388608+f) / 2 ^ 23 % 2 ^ 8=x:=by
  show (s*2147483648+x*8388608+f) / 8388608 % 256=x
  omega
 have c:(s*2147483648+x*8388608+f) % 2 ^ 23=f:=by
  show (s*2147483648+x*8388608+f) % 8388608=f
  omega
 unfold j6
 simp only [a,b,c]
 rfl
theorem zhl (b c:Int) (z:0≤b) (B:b<18446744073709551616) (h:qQ 23 8 b=some c):0≤c∧c<4294967296∧j6 23 8 c=b:=by
 rw [zdS]at h
 obtain ⟨s,u⟩:∃ s,b / 9223372036854775808=s:=⟨_,rfl⟩
 obtain ⟨x,v⟩:∃ x,b / 4503599627370496 % 2048=x:=⟨_,rfl⟩
 obtain ⟨f,t⟩:∃ f,b % 4503599627370496=f:=⟨_,rfl⟩
 have C:b=s*9223372036854775808+x*4503599627370496+f:=by omega
 have m:0≤s∧s≤1:=by omega
 have y:0≤x∧x≤2047:=by omega
 have E:0≤f∧f<4503599627370496:=by omega
 rw [u,v,t]at h
 clear u v t
 split at h
 ·rename_i hA
  obtain ⟨e,a⟩:=xl h
  have e:f % 536870912=0:=e
  have a:c=s*2147483648+255*8388608+f / 536870912:=a
  have n:0≤f / 536870912∧f / 536870912<8388608:=by omega
  refine ⟨by omega,by omega,?_⟩
  rw [a,zQ s 255 (f / 536870912) m (by omega) n,if_pos rfl]
  omega
 split at h
 ·rename_i hA p
  obtain ⟨e,a⟩:=xl h
  have a:c=s*2147483648+0*8388608+0 / 536870912:=a
  refine ⟨by omega,by omega,?_⟩
  rw [a,show s*2147483648+0*8388608+0 / 536870912=s*2147483648+0*8388608+0 by omega,zQ s 0 0 m (by omega) (by omega),if_neg (by decide),if_pos ⟨rfl,rfl⟩]
  omega
 split at h
 ·rename_i hA p q
  obtain ⟨e,a⟩:=xl h
  have e:f % 536870912=0:=e
  have a:c=s*2147483648+(x - 1023+127)*8388608+f / 536870912:=a
  have n:0≤f / 536870912∧f / 536870912<8388608:=by omega
  refine ⟨by omega,by omega,?_⟩
  rw [a,zQ s _ (f / 536870912) m (by omega) n,if_neg (by omega),if_neg (by omega),if_neg (by omega)]
  omega
 split at h
 ·rename_i hA p q A
  obtain ⟨d,r⟩:∃ d:Nat,(1023 - 127 - x).toNat=d:=⟨_,rfl⟩
  rw [r]at h
  have w:x=1023 - 127 - d:=by omega
  have D:d<23:=by omega
  subst w
  clear r hA p q A B z y
  obtain ⟨e,a⟩:=xl h
  clear h
  have o:d=0∨d=1∨d=2∨d=3∨d=4∨d=5∨d=6∨d=7∨d=8∨d=9∨d=10∨d=11∨d=12∨d=13∨d=14∨d=15∨d=16∨d=17∨d=18∨d=19∨d=20∨d=21∨d=22:=by omega
  rcases o with rfl|rfl|rfl|rfl|rfl|rfl|rfl|rfl|rfl|rfl|rfl|rfl|rfl|rfl|rfl|rfl|rfl|rfl|rfl|rfl|rfl|rfl|rfl
  ·have e:(f+4503599627370496) % 1073741824=0:=e
   have a:c=s*2147483648+0*8388608+(f+4503599627370496) / 1073741824:=a
   obtain ⟨g,i⟩:∃ g,(f+4503599627370496) / 1073741824=g:=⟨_,rfl⟩
   have k:f+4503599627370496=g*1073741824:=by omega
   have l:4194304≤g∧g<8388608:=by omega
   rw [i]at a
   have j:Lib.bitLen g.toNat=23:=zh 22 g.toNat (by omega) (by show 4194304≤g.toNat; omega) (by show g.toNat<8388608; omega)
   refine ⟨by omega,by omega,?_⟩
   rw [a,zQ s 0 g m (by omega) (by omega),if_neg (by decide),if_neg (by omega),if_pos rfl,j]
   show s*9223372036854775808+(1 - (23+1 - ((23:Nat):Int)) - 127+1023)*4503599627370496+g*2 % 8388608*536870912=b
   clear e a i j
   omega
  ·have e:(f+4503599627370496) % 2147483648=0:=e
   have a:c=s*2147483648+0*8388608+(f+4503599627370496) / 2147483648:=a
   obtain ⟨g,i⟩:∃ g,(f+4503599627370496) / 2147483648=g:=⟨_,rfl⟩
   have k:f+4503599627370496=g*2147483648:=by omega
   have l:2097152≤g∧g<4194304:=by omega
   rw [i]at a
   have j:Lib.bitLen g.toNat=22:=zh 21 g.toNat (by omega) (by show 2097152≤g.toNat; omega) (by show g.toNat<4194304; omega)
   refine ⟨by omega,by omega,?_⟩
   rw [a,zQ s 0 g m (by omega) (by omega),if_neg (by decide),if_neg (by omega),if_pos rfl,j]
   show s*9223372036854775808+(1 - (23+1 - ((22:Nat):Int)) - 127+1023)*4503599627370496+g*4 % 8388608*536870912=b
   clear e a i j
   omega
  ·have e:(f+4503599627370496) % 4294967296=0:=e
   have a:c=s*2147483648+0*8388608+(f+4503599627370496) / 4294967296:=a
   obtain ⟨g,i⟩:∃ g,(f+4503599627370496) / 4294967296=g:=⟨_,rfl⟩
   have k:f+4503599627370496=g*4294967296:=by omega
   have l:1048576≤g∧g<2097152:=by omega
   rw [i]at a
   have j:Lib.bitLen g.toNat=21:=zh 20 g.toNat (by omega) (by show 1048576≤g.toNat; omega) (by show g.toNat<2097152; omega)
   refine ⟨by omega,by omega,?_⟩
   rw [a,zQ s 0 g m (by omega) (by omega),if_neg (by decide),if_neg (by omega),if_pos rfl,j]
   show s*9223372036854775808+(1 - (23+1 - ((21:Nat):Int)) - 127+1023)*4503599627370496+g*8 % 8388608*536870912=b
   clear e a i j
   omega
  ·have e:(f+4503599627370496) % 8589934592=0:=e
   have a:c=s*2147483648+0*8388608+(f+4503599627370496) / 8589934592:=a
   obtain ⟨g,i⟩:∃ g,(f+4503599627370496) / 8589934592=g:=⟨_,rfl⟩
   have k:f+4503599627370496=g*8589934592:=by omega
   have l:524288≤g∧g<1048576:=by omega
   rw [i]at a
   have j:Lib.bitLen g.toNat=20:=zh 19 g.toNat (by omega) (by show 524288≤g.toNat; omega) (by show g.toNat<1048576; omega)
   refine ⟨by omega,by omega,?_⟩
   rw [a,zQ s 0 g m (by omega) (by omega),if_neg (by decide),if_neg (by omega),if_pos rfl,j]
   show s*9223372036854775808+(1 - (23+1 - ((20:Nat):Int)) - 127+1023)*4503599627370496+g*16 % 8388608*536870912=b
   clear e a i j
   omega
  ·have e:(f+4503599627370496) % 17179869184=0:=e
   have a:c=s*2147483648+0*8388608+(f+4503599627370496) / 17179869184:=a
   obtain ⟨g,i⟩:∃ g,(f+4503599627370496) / 17179869184=g:=⟨_,rfl⟩
   have k:f+4503599627370496=g*17179869184:=by omega
   have l:262144≤g∧g<524288:=by omega
   rw [i]at a
   have j:Lib.bitLen g.toNat=19:=zh 18 g.toNat (by omega) (by show 262144≤g.toNat; omega) (by show g.toNat<524288; omega)
   refine ⟨by omega,by omega,?_⟩
   rw [a,zQ s 0 g m (by omega) (by omega),if_neg (by decide),if_neg (by omega),if_pos rfl,j]
   show s*9223372036854775808+(1 - (23+1 - ((19:Nat):Int)) - 127+1023)*4503599627370496+g*32 % 8388608*536870912=b
   clear e a i j
   omega
  ·have e:(f+4503599627370496) % 34359738368=0:=e
   have a:c=s*2147483648+0*8388608+(f+4503599627370496) / 34359738368:=a
   obtain ⟨g,i⟩:∃ g,(f+4503599627370496) / 34359738368=g:=⟨_,rfl⟩
   have k:f+4503599627370496=g*34359738368:=by omega
   have l:131072≤g∧g<262144:=by omega
   rw [i]at a
   have j:Lib.bitLen g.toNat=18:=zh 17 g.toNat (by omega) (by show 131072≤g.toNat; omega) (by show g.toNat<262144; omega)
   refine ⟨by omega,by omega,?_⟩
   rw [a,zQ s 0 g m (by omega) (by omega),if_neg (by decide),if_neg (by omega),if_pos rfl,j]
   show s*9223372036854775808+(1 - (23+1 - ((18:Nat):Int)) - 127+1023)*4503599627370496+g*64 % 8388608*536870912=b
   clear e a i j
   omega
  ·have e:(f+4503599627370496) % 68719476736=0:=e
   have a:c=s*2147483648+0*8388608+(f+4503599627370496) / 68719476736:=a
   obtain ⟨g,i⟩:∃ g,(f+4503599627370496) / 68719476736=g:=⟨_,rfl⟩
   have k:f+4503599627370496=g*68719476736:=by omega
   have l:65536≤g∧g<131072:=by omega
   rw [i]at a
   have j:Lib.bitLen g.toNat=17:=zh 16 g.toNat (by omega) (by show 65536≤g.toNat; omega) (by show g.toNat<131072; omega)
   refine ⟨by omega,by omega,?_⟩
   rw [a,zQ s 0 g m (by omega) (by omega),if_neg (by decide),if_neg (by omega),if_pos rfl,j]
   show s*9223372036854775808+(1 - (23+1 - ((17:Nat):Int)) - 127+1023)*4503599627370496+g*128 % 8388608*536870912=b
   clear e a i j
   omega
  ·have e:(f+4503599627370496) % 137438953472=0:=e
   have a:c=s*2147483648+0*8388608+(f+4503599627370496) / 137438953472:=a
   obtain ⟨g,i⟩:∃ g,(f+4503599627370496) / 137438953472=g:=⟨_,rfl⟩
   have k:f+4503599627370496=g*137438953472:=by omega
   have l:32768≤g∧g<65536:=by omega
   rw [i]at a
   have j:Lib.bitLen g.toNat=16:=zh 15 g.toNat (by omega) (by show 32768≤g.toNat; omega) (by show g.toNat<65536; omega)
   refine ⟨by omega,by omega,?_⟩
   rw [a,zQ s 0 g m (by omega) (by omega),if_neg (by decide),if_neg (by omega),if_pos rfl,j]
   show s*9223372036854775808+(1 - (23+1 - ((16:Nat):Int)) - 127+1023)*4503599627370496+g*256 % 8388608*536870912=b
   clear e a i j
   omega
  ·have e:(f+4503599627370496) % 274877906944=0:=e
   have a:c=s*2147483648+0*8388608+(f+4503599627370496) / 274877906944:=a
   obtain ⟨g,i⟩:∃ g,(f+4503599627370496) / 274877906944=g:=⟨_,rfl⟩
   have k:f+4503599627370496=g*274877906944:=by omega
   have l:16384≤g∧g<32768:=by omega
   rw [i]at a
   have j:Lib.bitLen g.toNat=15:=zh 14 g.toNat (by omega) (by show 16384≤g.toNat; omega) (by show g.toNat<32768; omega)
   refine ⟨by omega,by omega,?_⟩
   rw [a,zQ s 0 g m (by omega) (by omega),if_neg (by decide),if_neg (by omega),if_pos rfl,j]
   show s*9223372036854775808+(1 - (23+1 - ((15:Nat):Int)) - 127+1023)*4503599627370496+g*512 % 8388608*536870912=b
   clear e a i j
   omega
  ·have e:(f+4503599627370496) % 549755813888=0:=e
   have a:c=s*2147483648+0*8388608+(f+4503599627370496) / 549755813888:=a
   obtain ⟨g,i⟩:∃ g,(f+4503599627370496) / 549755813888=g:=⟨_,rfl⟩
   have k:f+4503599627370496=g*549755813888:=by omega
   have l:8192≤g∧g<16384:=by omega
   rw [i]at a
   have j:Lib.bitLen g.toNat=14:=zh 13 g.toNat (by omega) (by show 8192≤g.toNat; omega) (by show g.toNat<16384; omega)
   refine ⟨by omega,by omega,?_⟩
   rw [a,zQ s 0 g m (by omega) (by omega),if_neg (by decide),if_neg (by omega),if_pos rfl,j]
   show s*9223372036854775808+(1 - (23+1 - ((14:Nat):Int)) - 127+1023)*4503599627370496+g*1024 % 8388608*536870912=b
   clear e a i j
   omega
  ·have e:(f+4503599627370496) % 1099511627776=0:=e
   have a:c=s*2147483648+0*8388608+(f+4503599627370496) / 1099511627776:=a
   obtain ⟨g,i⟩:∃ g,(f+4503599627370496) / 1099511627776=g:=⟨_,rfl⟩
   have k:f+4503599627370496=g*1099511627776:=by omega
   have l:4096≤g∧g<8192:=by omega
   rw [i]at a
   have j:Lib.bitLen g.toNat=13:=zh 12 g.toNat (by omega) (by show 4096≤g.toNat; omega) (by show g.toNat<8192; omega)
   refine ⟨by omega,by omega,?_⟩
   rw [a,zQ s 0 g m (by omega) (by omega),if_neg (by decide),if_neg (by omega),if_pos rfl,j]
   show s*9223372036854775808+(1 - (23+1 - ((13:Nat):Int)) - 127+1023)*4503599627370496+g*2048 % 8388608*536870912=b
   clear e a i j
   omega
  ·have e:(f+4503599627370496) % 2199023255552=0:=e
   have a:c=s*2147483648+0*8388608+(f+4503599627370496) / 2199023255552:=a
   obtain ⟨g,i⟩:∃ g,(f+4503599627370496) / 2199023255552=g:=⟨_,rfl⟩
   have k:f+4503599627370496=g*2199023255552:=by omega
   have l:2048≤g∧g<4096:=by omega
   rw [i]at a
   have j:Lib.bitLen g.toNat=12:=zh 11 g.toNat (by omega) (by show 2048≤g.toNat; omega) (by show g.toNat<4096; omega)
   refine ⟨by omega,by omega,?_⟩
   rw [a,zQ s 0 g m (by omega) (by omega),if_neg (by decide),if_neg (by omega),if_pos rfl,j]
   show s*9223372036854775808+(1 - (23+1 - ((12:Nat):Int)) - 127+1023)*4503599627370496+g*4096 % 8388608*536870912=b
   clear e a i j
   omega
  ·have e:(f+4503599627370496) % 4398046511104=0:=e
   have a:c=s*2147483648+0*8388608+(f+4503599627370496) / 4398046511104:=a
   obtain ⟨g,i⟩:∃ g,(f+4503599627370496) / 4398046511104=g:=⟨_,rfl⟩
   have k:f+4503599627370496=g*4398046511104:=by omega
   have l:1024≤g∧g<2048:=by omega
   rw [i]at a
   have j:Lib.bitLen g.toNat=11:=zh 10 g.toNat (by omega) (by show 1024≤g.toNat; omega) (by show g.toNat<2048; omega)
   refine ⟨by omega,by omega,?_⟩
   rw [a,zQ s 0 g m (by omega) (by omega),if_neg (by decide),if_neg (by omega),if_pos rfl,j]
   show s*9223372036854775808+(1 - (23+1 - ((11:Nat):Int)) - 127+1023)*4503599627370496+g*8192 % 8388608*536870912=b
   clear e a i j
   omega
  ·have e:(f+4503599627370496) % 8796093022208=0:=e
   have a:c=s*2147483648+0*8388608+(f+4503599627370496) / 8796093022208:=a
   obtain ⟨g,i⟩:∃ g,(f+4503599627370496) / 8796093022208=g:=⟨_,rfl⟩
   have k:f+4503599627370496=g*8796093022208:=by omega
   have l:512≤g∧g<1024:=by omega
   rw [i]at a
   have j:Lib.bitLen g.toNat=10:=zh 9 g.toNat (by omega) (by show 512≤g.toNat; omega) (by show g.toNat<1024; omega)
   refine ⟨by omega,by omega,?_⟩
   rw [a,zQ s 0 g m (by omega) (by omega),if_neg (by decide),if_neg (by omega),if_pos rfl,j]
   show s*9223372036854775808+(1 - (23+1 - ((10:Nat):Int)) - 127+1023)*4503599627370496+g*16384 % 8388608*536870912=b
   clear e a i j
   omega
  ·have e:(f+4503599627370496) % 17592186044416=0:=e
   have a:c=s*2147483648+0*8388608+(f+4503599627370496) / 17592186044416:=a
   obtain ⟨g,i⟩:∃ g,(f+4503599627370496) / 17592186044416=g:=⟨_,rfl⟩
   have k:f+4503599627370496=g*17592186044416:=by omega
   have l:256≤g∧g<512:=by omega
   rw [i]at a
   have j:Lib.bitLen g.toNat=9:=zh 8 g.toNat (by omega) (by show 256≤g.toNat; omega) (by show g.toNat<512; omega)
   refine ⟨by omega,by omega,?_⟩
   rw [a,zQ s 0 g m (by omega) (by omega),if_neg (by decide),if_neg (by omega),if_pos rfl,j]
   show s*9223372036854775808+(1 - (23+1 - ((9:Nat):Int)) - 127+1023)*4503599627370496+g*32768 % 8388608*536870912=b
   clear e a i j
   omega
  ·have e:(f+4503599627370496) % 35184372088832=0:=e
   have a:c=s*2147483648+0*8388608+(f+4503599627370496) / 35184372088832:=a
   obtain ⟨g,i⟩:∃ g,(f+4503599627370496) / 35184372088832=g:=⟨_,rfl⟩
   have k:f+4503599627370496=g*35184372088832:=by omega
   have l:128≤g∧g<256:=by omega
   rw [i]at a
   have j:Lib.bitLen g.toNat=8:=zh 7 g.toNat (by omega) (by show 128≤g.toNat; omega) (by show g.toNat<256; omega)
   refine ⟨by omega,by omega,?_⟩
   rw [a,zQ s 0 g m (by omega) (by omega),if_neg (by decide),if_neg (by omega),if_pos rfl,j]
   show s*9223372036854775808+(1 - (23+1 - ((8:Nat):Int)) - 127+1023)*4503599627370496+g*65536 % 8388608*536870912=b
   clear e a i j
   omega
  ·have e:(f+4503599627370496) % 70368744177664=0:=e
   have a:c=s*2147483648+0*8388608+(f+4503599627370496) / 70368744177664:=a
   obtain ⟨g,i⟩:∃ g,(f+4503599627370496) / 70368744177664=g:=⟨_,rfl⟩
   have k:f+4503599627370496=g*70368744177664:=by omega
   have l:64≤g∧g<128:=by omega
   rw [i]at a
   have j:Lib.bitLen g.toNat=7:=zh 6 g.toNat (by omega) (by show 64≤g.toNat; omega) (by show g.toNat<128; omega)
   refine ⟨by omega,by omega,?_⟩
   rw [a,zQ s 0 g m (by omega) (by omega),if_neg (by decide),if_neg (by omega),if_pos rfl,j]
   show s*9223372036854775808+(1 - (23+1 - ((7:Nat):Int)) - 127+1023)*4503599627370496+g*131072 % 8388608*536870912=b
   clear e a i j
   omega
  ·have e:(f+4503599627370496) % 140737488355328=0:=e
   have a:c=s*2147483648+0*8388608+(f+4503599627370496) / 140737488355328:=a
   obtain ⟨g,i⟩:∃ g,(f+4503599627370496) / 140737488355328=g:=⟨_,rfl⟩
   have k:f+4503599627370496=g*140737488355328:=by omega
   have l:32≤g∧g<64:=by omega
   rw [i]at a
   have j:Lib.bitLen g.toNat=6:=zh 5 g.toNat (by omega) (by show 32≤g.toNat; omega) (by show g.toNat<64; omega)
   refine ⟨by omega,by omega,?_⟩
   rw [a,zQ s 0 g m (by omega) (by omega),if_neg (by decide),if_neg (by omega),if_pos rfl,j]
   show s*9223372036854775808+(1 - (23+1 - ((6:Nat):Int)) - 127+1023)*4503599627370496+g*262144 % 8388608*536870912=b
   clear e a i j
   omega
  ·have e:(f+4503599627370496) % 281474976710656=0:=e
   have a:c=s*2147483648+0*8388608+(f+4503599627370496) / 281474976710656:=a
   obtain ⟨g,i⟩:∃ g,(f+4503599627370496) / 281474976710656=g:=⟨_,rfl⟩
   have k:f+4503599627370496=g*281474976710656:=by omega
   have l:16≤g∧g<32:=by omega
   rw [i]at a
   have j:Lib.bitLen g.toNat=5:=zh 4 g.toNat (by omega) (by show 16≤g.toNat; omega) (by show g.toNat<32; omega)
   refine ⟨by omega,by omega,?_⟩
   rw [a,zQ s 0 g m (by omega) (by omega),if_neg (by decide),if_neg (by omega),if_pos rfl,j]
   show s*9223372036854775808+(1 - (23+1 - ((5:Nat):Int)) - 127+1023)*4503599627370496+g*524288 % 8388608*536870912=b
   clear e a i j
   omega
  ·have e:(f+4503599627370496) % 562949953421312=0:=e
   have a:c=s*2147483648+0*8388608+(f+4503599627370496) / 562949953421312:=a
   obtain ⟨g,i⟩:∃ g,(f+4503599627370496) / 562949953421312=g:=⟨_,rfl⟩
   have k:f+4503599627370496=g*562949953421312:=by omega
   have l:8≤g∧g<16:=by omega
   rw [i]at a
   have j:Lib.bitLen g.toNat=4:=zh 3 g.toNat (by omega) (by show 8≤g.toNat; omega) (by show g.toNat<16; omega)
   refine ⟨by omega,by omega,?_⟩
   rw [a,zQ s 0 g m (by omega) (by omega),if_neg (by decide),if_neg (by omega),if_pos rfl,j]
   show s*9223372036854775808+(1 - (23+1 - ((4:Nat):Int)) - 127+1023)*4503599627370496+g*1048576 % 8388608*536870912=b
   clear e a i j
   omega
  ·have e:(f+4503599627370496) % 1125899906842624=0:=e
   have a:c=s*2147483648+0*8388608+(f+4503599627370496) / 1125899906842624:=a
   obtain ⟨g,i⟩:∃ g,(f+4503599627370496) / 1125899906842624=g:=⟨_,rfl⟩
   have k:f+4503599627370496=g*1125899906842624:=by omega
   have l:4≤g∧g<8:=by omega
   rw [i]at a
   have j:Lib.bitLen g.toNat=3:=zh 2 g.toNat (by omega) (by show 4≤g.toNat; omega) (by show g.toNat<8; omega)
   refine ⟨by omega,by omega,?_⟩
   rw [a,zQ s 0 g m (by omega) (by omega),if_neg (by decide),if_neg (by omega),if_pos rfl,j]
   show s*9223372036854775808+(1 - (23+1 - ((3:Nat):Int)) - 127+1023)*4503599627370496+g*2097152 % 8388608*536870912=b
   clear e a i j
   omega
  ·have e:(f+4503599627370496) % 2251799813685248=0:=e
   have a:c=s*2147483648+0*8388608+(f+4503599627370496) / 2251799813685248:=a
   obtain ⟨g,i⟩:∃ g,(f+4503599627370496) / 2251799813685248=g:=⟨_,rfl⟩
   have k:f+4503599627370496=g*2251799813685248:=by omega
   have l:2≤g∧g<4:=by omega
   rw [i]at a
   have j:Lib.bitLen g.toNat=2:=zh 1 g.toNat (by omega) (by show 2≤g.toNat; omega) (by show g.toNat<4; omega)
   refine ⟨by omega,by omega,?_⟩
   rw [a,zQ s 0 g m (by omega) (by omega),if_neg (by decide),if_neg (by omega),if_pos rfl,j]
   show s*9223372036854775808+(1 - (23+1 - ((2:Nat):Int)) - 127+1023)*4503599627370496+g*4194304 % 8388608*536870912=b
   clear e a i j
   omega
  ·have e:(f+4503599627370496) % 4503599627370496=0:=e
   have a:c=s*2147483648+0*8388608+(f+4503599627370496) / 4503599627370496:=a
   obtain ⟨g,i⟩:∃ g,(f+4503599627370496) / 4503599627370496=g:=⟨_,rfl⟩
   have k:f+4503599627370496=g*4503599627370496:=by omega
   have l:1≤g∧g<2:=by omega
   rw [i]at a
   have j:Lib.bitLen g.toNat=1:=zh 0 g.toNat (by omega) (by show 1≤g.toNat; omega) (by show g.toNat<2; omega)
   refine ⟨by omega,by omega,?_⟩
   rw [a,zQ s 0 g m (by omega) (by omega),if_neg (by decide),if_neg (by omega),if_pos rfl,j]
   show s*9223372036854775808+(1 - (23+1 - ((1:Nat):Int)) - 127+1023)*4503599627370496+g*8388608 % 8388608*536870912=b
   clear e a i j
   omega
 ·cases h
end Go.Proofs.YtonihophanmaaaaGreatDoor
