/- The texts FloN, put together. -/
import Derived.Test.YtonihophanmaaaaGreatDoorPa13
namespace Go.Proofs.YtonihophanmaaaaGreatDoor
open Go.RowKit Go.Shelf
def finN (p k:Nat) (s x f:Int) (low:Nat):Option Int:=if f % 2 ^ low=0 then some (s*2 ^ (p+k)+x*2 ^ p+f / 2 ^ low) else none
def narP (p k:Nat) (b:Int):Option Int:=
 if b / 4503599627370496 % 2048=2047 then finN p k (b / 9223372036854775808) (2 ^ k - 1) (b % 4503599627370496) (52 - p)
 else if b / 4503599627370496 % 2048=0∧b % 4503599627370496=0 then finN p k (b / 9223372036854775808) 0 0 (52 - p)
 else if 0<b / 4503599627370496 % 2048 - 1023+(2 ^ (k - 1) - 1)∧b / 4503599627370496 % 2048 - 1023+(2 ^ (k - 1) - 1)<2 ^ k - 1 then finN p k (b / 9223372036854775808) (b / 4503599627370496 % 2048 - 1023+(2 ^ (k - 1) - 1)) (b % 4503599627370496) (52 - p)
 else if 0<b / 4503599627370496 % 2048∧b / 4503599627370496 % 2048 - 1023+(2 ^ (k - 1) - 1)≤0∧-(p:Int)<b / 4503599627370496 % 2048 - 1023+(2 ^ (k - 1) - 1) then
  finN p k (b / 9223372036854775808) 0 (b % 4503599627370496+4503599627370496) (53 - p+(1023 - (2 ^ (k - 1) - 1) - b / 4503599627370496 % 2048).toNat)
 else none
theorem bitLen_is (n x:Nat) (hx:x<18446744073709551616) (h1:2 ^ n≤x) (h2:x<2 ^ (n+1)):Lib.bitLen x=n+1:=by
 have a:=bitLen_iff n x hx
 have b:=bitLen_iff (n+1) x hx
 have c:¬ Lib.bitLen x≤n:=fun h=>by
  have:=a.1 h
  omega
 have d:=b.2 h2
 omega
theorem fin_some {p k:Nat} {s x f c:Int} {low:Nat} (h:finN p k s x f low=some c):f % 2 ^ low=0∧c=s*2 ^ (p+k)+x*2 ^ p+f / 2 ^ low:=by
 unfold finN at h
 split at h
 ·rename_i h1
  injection h with h
  exact ⟨h1,h.symm⟩
 ·cases h
theorem narP_16 (b:Int):narP 10 5 b=if b / 4503599627370496 % 2048=2047 then finN 10 5 (b / 9223372036854775808) 31 (b % 4503599627370496) 42
  else if b / 4503599627370496 % 2048=0∧b % 4503599627370496=0 then finN 10 5 (b / 9223372036854775808) 0 0 42
  else if 0<b / 4503599627370496 % 2048 - 1023+15∧b / 4503599627370496 % 2048 - 1023+15<31 then finN 10 5 (b / 9223372036854775808) (b / 4503599627370496 % 2048 - 1023+15) (b % 4503599627370496) 42
  else if 0<b / 4503599627370496 % 2048∧b / 4503599627370496 % 2048 - 1023+15≤0∧-10<b / 4503599627370496 % 2048 - 1023+15 then
   finN 10 5 (b / 9223372036854775808) 0 (b % 4503599627370496+4503599627370496) (43+(1023 - 15 - b / 4503599627370496 % 2048).toNat)
  else none:=rfl
theorem widenP_16 (s x f:Int) (hs:0≤s∧s≤1) (hx:0≤x∧x≤31) (hf:0≤f∧f<1024):widenP 10 5 (s*32768+x*1024+f) =
  if x=31 then s*9223372036854775808+2047*4503599627370496+f*4398046511104
  else if x=0∧f=0 then s*9223372036854775808
  else if x=0 then s*9223372036854775808+(1 - (10+1 - (Lib.bitLen f.toNat:Int)) - 15+1023)*4503599627370496+(f*2 ^ (10+1 - Lib.bitLen f.toNat)) % 1024*4398046511104
  else s*9223372036854775808+(x - 15+1023)*4503599627370496+f*4398046511104:=by
 have e1:(s*32768+x*1024+f) / 2 ^ (10+5) % 2=s:=by
  show (s*32768+x*1024+f) / 32768 % 2=s
  omega
 have e2:(s*32768+x*1024+f) / 2 ^ 10 % 2 ^ 5=x:=by
  show (s*32768+x*1024+f) / 1024 % 32=x
  omega
 have e3:(s*32768+x*1024+f) % 2 ^ 10=f:=by
  show (s*32768+x*1024+f) % 1024=f
  omega
 unfold widenP
 simp only [e1,e2,e3]
 rfl
theorem widen_nar16 (b c:Int) (h0:0≤b) (hb:b<18446744073709551616) (h:narP 10 5 b=some c):0≤c∧c<65536∧widenP 10 5 c=b:=by
 rw [narP_16]at h
 obtain ⟨s,hs⟩:∃ s,b / 9223372036854775808=s:=⟨_,rfl⟩
 obtain ⟨x,hx⟩:∃ x,b / 4503599627370496 % 2048=x:=⟨_,rfl⟩
 obtain ⟨f,hf⟩:∃ f,b % 4503599627370496=f:=⟨_,rfl⟩
 have hbe:b=s*9223372036854775808+x*4503599627370496+f:=by omega
 have bs:0≤s∧s≤1:=by omega
 have bx:0≤x∧x≤2047:=by omega
 have bf:0≤f∧f<4503599627370496:=by omega
 rw [hs,hx,hf]at h
 clear hs hx hf
 split at h
 ·rename_i hA
  obtain ⟨h1,h2⟩:=fin_some h
  have h1:f % 4398046511104=0:=h1
  have h2:c=s*32768+31*1024+f / 4398046511104:=h2
  have hff:0≤f / 4398046511104∧f / 4398046511104<1024:=by omega
  refine ⟨by omega,by omega,?_⟩
  rw [h2,widenP_16 s 31 (f / 4398046511104) bs (by omega) hff,if_pos rfl]
  omega
 split at h
 ·rename_i hA hB
  obtain ⟨h1,h2⟩:=fin_some h
  have h2:c=s*32768+0*1024+0 / 4398046511104:=h2
  refine ⟨by omega,by omega,?_⟩
  rw [h2,show s*32768+0*1024+0 / 4398046511104=s*32768+0*1024+0 by omega,widenP_16 s 0 0 bs (by omega) (by omega),if_neg (by decide),if_pos ⟨rfl,rfl⟩]
  omega
 split at h
 ·rename_i hA hB hC
  obtain ⟨h1,h2⟩:=fin_some h
  have h1:f % 4398046511104=0:=h1
  have h2:c=s*32768+(x - 1023+15)*1024+f / 4398046511104:=h2
  have hff:0≤f / 4398046511104∧f / 4398046511104<1024:=by omega
  refine ⟨by omega,by omega,?_⟩
  rw [h2,widenP_16 s _ (f / 4398046511104) bs (by omega) hff,if_neg (by omega),if_neg (by omega),if_neg (by omega)]
  omega
 split at h
 ·rename_i hA hB hC hD
  obtain ⟨d,hd⟩:∃ d:Nat,(1023 - 15 - x).toNat=d:=⟨_,rfl⟩
  rw [hd]at h
  have hxd:x=1023 - 15 - d:=by omega
  have hdp:d<10:=by omega
  subst hxd
  clear hd hA hB hC hD hb h0 bx
  obtain ⟨h1,h2⟩:=fin_some h
  clear h
  have hcase:d=0∨d=1∨d=2∨d=3∨d=4∨d=5∨d=6∨d=7∨d=8∨d=9:=by omega
  rcases hcase with rfl|rfl|rfl|rfl|rfl|rfl|rfl|rfl|rfl|rfl
  ·have h1:(f+4503599627370496) % 8796093022208=0:=h1
   have h2:c=s*32768+0*1024+(f+4503599627370496) / 8796093022208:=h2
   obtain ⟨g,hg⟩:∃ g,(f+4503599627370496) / 8796093022208=g:=⟨_,rfl⟩
   have hg2:f+4503599627370496=g*8796093022208:=by omega
   have hgb:512≤g∧g<1024:=by omega
   rw [hg]at h2
   have hl:Lib.bitLen g.toNat=10:=bitLen_is 9 g.toNat (by omega) (by show 512≤g.toNat; omega) (by show g.toNat<1024; omega)
   refine ⟨by omega,by omega,?_⟩
   rw [h2,widenP_16 s 0 g bs (by omega) (by omega),if_neg (by decide),if_neg (by omega),if_pos rfl,hl]
   show s*9223372036854775808+(1 - (10+1 - ((10:Nat):Int)) - 15+1023)*4503599627370496+g*2 % 1024*4398046511104=b
   clear h1 h2 hg hl
   omega
  ·have h1:(f+4503599627370496) % 17592186044416=0:=h1
   have h2:c=s*32768+0*1024+(f+4503599627370496) / 17592186044416:=h2
   obtain ⟨g,hg⟩:∃ g,(f+4503599627370496) / 17592186044416=g:=⟨_,rfl⟩
   have hg2:f+4503599627370496=g*17592186044416:=by omega
   have hgb:256≤g∧g<512:=by omega
   rw [hg]at h2
   have hl:Lib.bitLen g.toNat=9:=bitLen_is 8 g.toNat (by omega) (by show 256≤g.toNat; omega) (by show g.toNat<512; omega)
   refine ⟨by omega,by omega,?_⟩
   rw [h2,widenP_16 s 0 g bs (by omega) (by omega),if_neg (by decide),if_neg (by omega),if_pos rfl,hl]
   show s*9223372036854775808+(1 - (10+1 - ((9:Nat):Int)) - 15+1023)*4503599627370496+g*4 % 1024*4398046511104=b
   clear h1 h2 hg hl
   omega
  ·have h1:(f+4503599627370496) % 35184372088832=0:=h1
   have h2:c=s*32768+0*1024+(f+4503599627370496) / 35184372088832:=h2
   obtain ⟨g,hg⟩:∃ g,(f+4503599627370496) / 35184372088832=g:=⟨_,rfl⟩
   have hg2:f+4503599627370496=g*35184372088832:=by omega
   have hgb:128≤g∧g<256:=by omega
   rw [hg]at h2
   have hl:Lib.bitLen g.toNat=8:=bitLen_is 7 g.toNat (by omega) (by show 128≤g.toNat; omega) (by show g.toNat<256; omega)
   refine ⟨by omega,by omega,?_⟩
   rw [h2,widenP_16 s 0 g bs (by omega) (by omega),if_neg (by decide),if_neg (by omega),if_pos rfl,hl]
   show s*9223372036854775808+(1 - (10+1 - ((8:Nat):Int)) - 15+1023)*4503599627370496+g*8 % 1024*4398046511104=b
   clear h1 h2 hg hl
   omega
  ·have h1:(f+4503599627370496) % 70368744177664=0:=h1
   have h2:c=s*32768+0*1024+(f+4503599627370496) / 70368744177664:=h2
   obtain ⟨g,hg⟩:∃ g,(f+4503599627370496) / 70368744177664=g:=⟨_,rfl⟩
   have hg2:f+4503599627370496=g*70368744177664:=by omega
   have hgb:64≤g∧g<128:=by omega
   rw [hg]at h2
   have hl:Lib.bitLen g.toNat=7:=bitLen_is 6 g.toNat (by omega) (by show 64≤g.toNat; omega) (by show g.toNat<128; omega)
   refine ⟨by omega,by omega,?_⟩
   rw [h2,widenP_16 s 0 g bs (by omega) (by omega),if_neg (by decide),if_neg (by omega),if_pos rfl,hl]
   show s*9223372036854775808+(1 - (10+1 - ((7:Nat):Int)) - 15+1023)*4503599627370496+g*16 % 1024*4398046511104=b
   clear h1 h2 hg hl
   omega
  ·have h1:(f+4503599627370496) % 140737488355328=0:=h1
   have h2:c=s*32768+0*1024+(f+4503599627370496) / 140737488355328:=h2
   obtain ⟨g,hg⟩:∃ g,(f+4503599627370496) / 140737488355328=g:=⟨_,rfl⟩
   have hg2:f+4503599627370496=g*140737488355328:=by omega
   have hgb:32≤g∧g<64:=by omega
   rw [hg]at h2
   have hl:Lib.bitLen g.toNat=6:=bitLen_is 5 g.toNat (by omega) (by show 32≤g.toNat; omega) (by show g.toNat<64; omega)
   refine ⟨by omega,by omega,?_⟩
   rw [h2,widenP_16 s 0 g bs (by omega) (by omega),if_neg (by decide),if_neg (by omega),if_pos rfl,hl]
   show s*9223372036854775808+(1 - (10+1 - ((6:Nat):Int)) - 15+1023)*4503599627370496+g*32 % 1024*4398046511104=b
   clear h1 h2 hg hl
   omega
  ·have h1:(f+4503599627370496) % 281474976710656=0:=h1
   have h2:c=s*32768+0*1024+(f+4503599627370496) / 281474976710656:=h2
   obtain ⟨g,hg⟩:∃ g,(f+4503599627370496) / 281474976710656=g:=⟨_,rfl⟩
   have hg2:f+4503599627370496=g*281474976710656:=by omega
   have hgb:16≤g∧g<32:=by omega
   rw [hg]at h2
   have hl:Lib.bitLen g.toNat=5:=bitLen_is 4 g.toNat (by omega) (by show 16≤g.toNat; omega) (by show g.toNat<32; omega)
   refine ⟨by omega,by omega,?_⟩
   rw [h2,widenP_16 s 0 g bs (by omega) (by omega),if_neg (by decide),if_neg (by omega),if_pos rfl,hl]
   show s*9223372036854775808+(1 - (10+1 - ((5:Nat):Int)) - 15+1023)*4503599627370496+g*64 % 1024*4398046511104=b
   clear h1 h2 hg hl
   omega
  ·have h1:(f+4503599627370496) % 562949953421312=0:=h1
   have h2:c=s*32768+0*1024+(f+4503599627370496) / 562949953421312:=h2
   obtain ⟨g,hg⟩:∃ g,(f+4503599627370496) / 562949953421312=g:=⟨_,rfl⟩
   have hg2:f+4503599627370496=g*562949953421312:=by omega
   have hgb:8≤g∧g<16:=by omega
   rw [hg]at h2
   have hl:Lib.bitLen g.toNat=4:=bitLen_is 3 g.toNat (by omega) (by show 8≤g.toNat; omega) (by show g.toNat<16; omega)
   refine ⟨by omega,by omega,?_⟩
   rw [h2,widenP_16 s 0 g bs (by omega) (by omega),if_neg (by decide),if_neg (by omega),if_pos rfl,hl]
   show s*9223372036854775808+(1 - (10+1 - ((4:Nat):Int)) - 15+1023)*4503599627370496+g*128 % 1024*4398046511104=b
   clear h1 h2 hg hl
   omega
  ·have h1:(f+4503599627370496) % 1125899906842624=0:=h1
   have h2:c=s*32768+0*1024+(f+4503599627370496) / 1125899906842624:=h2
   obtain ⟨g,hg⟩:∃ g,(f+4503599627370496) / 1125899906842624=g:=⟨_,rfl⟩
   have hg2:f+4503599627370496=g*1125899906842624:=by omega
   have hgb:4≤g∧g<8:=by omega
   rw [hg]at h2
   have hl:Lib.bitLen g.toNat=3:=bitLen_is 2 g.toNat (by omega) (by show 4≤g.toNat; omega) (by show g.toNat<8; omega)
   refine ⟨by omega,by omega,?_⟩
   rw [h2,widenP_16 s 0 g bs (by omega) (by omega),if_neg (by decide),if_neg (by omega),if_pos rfl,hl]
   show s*9223372036854775808+(1 - (10+1 - ((3:Nat):Int)) - 15+1023)*4503599627370496+g*256 % 1024*4398046511104=b
   clear h1 h2 hg hl
   omega
  ·have h1:(f+4503599627370496) % 2251799813685248=0:=h1
   have h2:c=s*32768+0*1024+(f+4503599627370496) / 2251799813685248:=h2
   obtain ⟨g,hg⟩:∃ g,(f+4503599627370496) / 2251799813685248=g:=⟨_,rfl⟩
   have hg2:f+4503599627370496=g*2251799813685248:=by omega
   have hgb:2≤g∧g<4:=by omega
   rw [hg]at h2
   have hl:Lib.bitLen g.toNat=2:=bitLen_is 1 g.toNat (by omega) (by show 2≤g.toNat; omega) (by show g.toNat<4; omega)
   refine ⟨by omega,by omega,?_⟩
   rw [h2,widenP_16 s 0 g bs (by omega) (by omega),if_neg (by decide),if_neg (by omega),if_pos rfl,hl]
   show s*9223372036854775808+(1 - (10+1 - ((2:Nat):Int)) - 15+1023)*4503599627370496+g*512 % 1024*4398046511104=b
   clear h1 h2 hg hl
   omega
  ·have h1:(f+4503599627370496) % 4503599627370496=0:=h1
   have h2:c=s*32768+0*1024+(f+4503599627370496) / 4503599627370496:=h2
   obtain ⟨g,hg⟩:∃ g,(f+4503599627370496) / 4503599627370496=g:=⟨_,rfl⟩
   have hg2:f+4503599627370496=g*4503599627370496:=by omega
   have hgb:1≤g∧g<2:=by omega
   rw [hg]at h2
   have hl:Lib.bitLen g.toNat=1:=bitLen_is 0 g.toNat (by omega) (by show 1≤g.toNat; omega) (by show g.toNat<2; omega)
   refine ⟨by omega,by omega,?_⟩
   rw [h2,widenP_16 s 0 g bs (by omega) (by omega),if_neg (by decide),if_neg (by omega),if_pos rfl,hl]
   show s*9223372036854775808+(1 - (10+1 - ((1:Nat):Int)) - 15+1023)*4503599627370496+g*1024 % 1024*4398046511104=b
   clear h1 h2 hg hl
   omega
 ·cases h
theorem narP_32 (b:Int):narP 23 8 b=if b / 4503599627370496 % 2048=2047 then finN 23 8 (b / 9223372036854775808) 255 (b % 4503599627370496) 29
  else if b / 4503599627370496 % 2048=0∧b % 4503599627370496=0 then finN 23 8 (b / 9223372036854775808) 0 0 29
  else if 0<b / 4503599627370496 % 2048 - 1023+127∧b / 4503599627370496 % 2048 - 1023+127<255 then finN 23 8 (b / 9223372036854775808) (b / 4503599627370496 % 2048 - 1023+127) (b % 4503599627370496) 29
  else if 0<b / 4503599627370496 % 2048∧b / 4503599627370496 % 2048 - 1023+127≤0∧-23<b / 4503599627370496 % 2048 - 1023+127 then
   finN 23 8 (b / 9223372036854775808) 0 (b % 4503599627370496+4503599627370496) (30+(1023 - 127 - b / 4503599627370496 % 2048).toNat)
  else none:=rfl
theorem widenP_32 (s x f:Int) (hs:0≤s∧s≤1) (hx:0≤x∧x≤255) (hf:0≤f∧f<8388608):widenP 23 8 (s*2147483648+x*8388608+f) =
  if x=255 then s*9223372036854775808+2047*4503599627370496+f*536870912
  else if x=0∧f=0 then s*9223372036854775808
  else if x=0 then s*9223372036854775808+(1 - (23+1 - (Lib.bitLen f.toNat:Int)) - 127+1023)*4503599627370496+(f*2 ^ (23+1 - Lib.bitLen f.toNat)) % 8388608*536870912
  else s*9223372036854775808+(x - 127+1023)*4503599627370496+f*536870912:=by
 have e1:(s*2147483648+x*8388608+f) / 2 ^ (23+8) % 2=s:=by
  show (s*2147483648+x*8388608+f) / 2147483648 % 2=s
  omega
 have e2:(s*2147483648+x*8388608+f) / 2 ^ 23 % 2 ^ 8=x:=by
  show (s*2147483648+x*8388608+f) / 8388608 % 256=x
  omega
 have e3:(s*2147483648+x*8388608+f) % 2 ^ 23=f:=by
  show (s*2147483648+x*8388608+f) % 8388608=f
  omega
 unfold widenP
 simp only [e1,e2,e3]
 rfl
theorem widen_nar32 (b c:Int) (h0:0≤b) (hb:b<18446744073709551616) (h:narP 23 8 b=some c):0≤c∧c<4294967296∧widenP 23 8 c=b:=by
 rw [narP_32]at h
 obtain ⟨s,hs⟩:∃ s,b / 9223372036854775808=s:=⟨_,rfl⟩
 obtain ⟨x,hx⟩:∃ x,b / 4503599627370496 % 2048=x:=⟨_,rfl⟩
 obtain ⟨f,hf⟩:∃ f,b % 4503599627370496=f:=⟨_,rfl⟩
 have hbe:b=s*9223372036854775808+x*4503599627370496+f:=by omega
 have bs:0≤s∧s≤1:=by omega
 have bx:0≤x∧x≤2047:=by omega
 have bf:0≤f∧f<4503599627370496:=by omega
 rw [hs,hx,hf]at h
 clear hs hx hf
 split at h
 ·rename_i hA
  obtain ⟨h1,h2⟩:=fin_some h
  have h1:f % 536870912=0:=h1
  have h2:c=s*2147483648+255*8388608+f / 536870912:=h2
  have hff:0≤f / 536870912∧f / 536870912<8388608:=by omega
  refine ⟨by omega,by omega,?_⟩
  rw [h2,widenP_32 s 255 (f / 536870912) bs (by omega) hff,if_pos rfl]
  omega
 split at h
 ·rename_i hA hB
  obtain ⟨h1,h2⟩:=fin_some h
  have h2:c=s*2147483648+0*8388608+0 / 536870912:=h2
  refine ⟨by omega,by omega,?_⟩
  rw [h2,show s*2147483648+0*8388608+0 / 536870912=s*2147483648+0*8388608+0 by omega,widenP_32 s 0 0 bs (by omega) (by omega),if_neg (by decide),if_pos ⟨rfl,rfl⟩]
  omega
 split at h
 ·rename_i hA hB hC
  obtain ⟨h1,h2⟩:=fin_some h
  have h1:f % 536870912=0:=h1
  have h2:c=s*2147483648+(x - 1023+127)*8388608+f / 536870912:=h2
  have hff:0≤f / 536870912∧f / 536870912<8388608:=by omega
  refine ⟨by omega,by omega,?_⟩
  rw [h2,widenP_32 s _ (f / 536870912) bs (by omega) hff,if_neg (by omega),if_neg (by omega),if_neg (by omega)]
  omega
 split at h
 ·rename_i hA hB hC hD
  obtain ⟨d,hd⟩:∃ d:Nat,(1023 - 127 - x).toNat=d:=⟨_,rfl⟩
  rw [hd]at h
  have hxd:x=1023 - 127 - d:=by omega
  have hdp:d<23:=by omega
  subst hxd
  clear hd hA hB hC hD hb h0 bx
  obtain ⟨h1,h2⟩:=fin_some h
  clear h
  have hcase:d=0∨d=1∨d=2∨d=3∨d=4∨d=5∨d=6∨d=7∨d=8∨d=9∨d=10∨d=11∨d=12∨d=13∨d=14∨d=15∨d=16∨d=17∨d=18∨d=19∨d=20∨d=21∨d=22:=by omega
  rcases hcase with rfl|rfl|rfl|rfl|rfl|rfl|rfl|rfl|rfl|rfl|rfl|rfl|rfl|rfl|rfl|rfl|rfl|rfl|rfl|rfl|rfl|rfl|rfl
  ·have h1:(f+4503599627370496) % 1073741824=0:=h1
   have h2:c=s*2147483648+0*8388608+(f+4503599627370496) / 1073741824:=h2
   obtain ⟨g,hg⟩:∃ g,(f+4503599627370496) / 1073741824=g:=⟨_,rfl⟩
   have hg2:f+4503599627370496=g*1073741824:=by omega
   have hgb:4194304≤g∧g<8388608:=by omega
   rw [hg]at h2
   have hl:Lib.bitLen g.toNat=23:=bitLen_is 22 g.toNat (by omega) (by show 4194304≤g.toNat; omega) (by show g.toNat<8388608; omega)
   refine ⟨by omega,by omega,?_⟩
   rw [h2,widenP_32 s 0 g bs (by omega) (by omega),if_neg (by decide),if_neg (by omega),if_pos rfl,hl]
   show s*9223372036854775808+(1 - (23+1 - ((23:Nat):Int)) - 127+1023)*4503599627370496+g*2 % 8388608*536870912=b
   clear h1 h2 hg hl
   omega
  ·have h1:(f+4503599627370496) % 2147483648=0:=h1
   have h2:c=s*2147483648+0*8388608+(f+4503599627370496) / 2147483648:=h2
   obtain ⟨g,hg⟩:∃ g,(f+4503599627370496) / 2147483648=g:=⟨_,rfl⟩
   have hg2:f+4503599627370496=g*2147483648:=by omega
   have hgb:2097152≤g∧g<4194304:=by omega
   rw [hg]at h2
   have hl:Lib.bitLen g.toNat=22:=bitLen_is 21 g.toNat (by omega) (by show 2097152≤g.toNat; omega) (by show g.toNat<4194304; omega)
   refine ⟨by omega,by omega,?_⟩
   rw [h2,widenP_32 s 0 g bs (by omega) (by omega),if_neg (by decide),if_neg (by omega),if_pos rfl,hl]
   show s*9223372036854775808+(1 - (23+1 - ((22:Nat):Int)) - 127+1023)*4503599627370496+g*4 % 8388608*536870912=b
   clear h1 h2 hg hl
   omega
  ·have h1:(f+4503599627370496) % 4294967296=0:=h1
   have h2:c=s*2147483648+0*8388608+(f+4503599627370496) / 4294967296:=h2
   obtain ⟨g,hg⟩:∃ g,(f+4503599627370496) / 4294967296=g:=⟨_,rfl⟩
   have hg2:f+4503599627370496=g*4294967296:=by omega
   have hgb:1048576≤g∧g<2097152:=by omega
   rw [hg]at h2
   have hl:Lib.bitLen g.toNat=21:=bitLen_is 20 g.toNat (by omega) (by show 1048576≤g.toNat; omega) (by show g.toNat<2097152; omega)
   refine ⟨by omega,by omega,?_⟩
   rw [h2,widenP_32 s 0 g bs (by omega) (by omega),if_neg (by decide),if_neg (by omega),if_pos rfl,hl]
   show s*9223372036854775808+(1 - (23+1 - ((21:Nat):Int)) - 127+1023)*4503599627370496+g*8 % 8388608*536870912=b
   clear h1 h2 hg hl
   omega
  ·have h1:(f+4503599627370496) % 8589934592=0:=h1
   have h2:c=s*2147483648+0*8388608+(f+4503599627370496) / 8589934592:=h2
   obtain ⟨g,hg⟩:∃ g,(f+4503599627370496) / 8589934592=g:=⟨_,rfl⟩
   have hg2:f+4503599627370496=g*8589934592:=by omega
   have hgb:524288≤g∧g<1048576:=by omega
   rw [hg]at h2
   have hl:Lib.bitLen g.toNat=20:=bitLen_is 19 g.toNat (by omega) (by show 524288≤g.toNat; omega) (by show g.toNat<1048576; omega)
   refine ⟨by omega,by omega,?_⟩
   rw [h2,widenP_32 s 0 g bs (by omega) (by omega),if_neg (by decide),if_neg (by omega),if_pos rfl,hl]
   show s*9223372036854775808+(1 - (23+1 - ((20:Nat):Int)) - 127+1023)*4503599627370496+g*16 % 8388608*536870912=b
   clear h1 h2 hg hl
   omega
  ·have h1:(f+4503599627370496) % 17179869184=0:=h1
   have h2:c=s*2147483648+0*8388608+(f+4503599627370496) / 17179869184:=h2
   obtain ⟨g,hg⟩:∃ g,(f+4503599627370496) / 17179869184=g:=⟨_,rfl⟩
   have hg2:f+4503599627370496=g*17179869184:=by omega
   have hgb:262144≤g∧g<524288:=by omega
   rw [hg]at h2
   have hl:Lib.bitLen g.toNat=19:=bitLen_is 18 g.toNat (by omega) (by show 262144≤g.toNat; omega) (by show g.toNat<524288; omega)
   refine ⟨by omega,by omega,?_⟩
   rw [h2,widenP_32 s 0 g bs (by omega) (by omega),if_neg (by decide),if_neg (by omega),if_pos rfl,hl]
   show s*9223372036854775808+(1 - (23+1 - ((19:Nat):Int)) - 127+1023)*4503599627370496+g*32 % 8388608*536870912=b
   clear h1 h2 hg hl
   omega
  ·have h1:(f+4503599627370496) % 34359738368=0:=h1
   have h2:c=s*2147483648+0*8388608+(f+4503599627370496) / 34359738368:=h2
   obtain ⟨g,hg⟩:∃ g,(f+4503599627370496) / 34359738368=g:=⟨_,rfl⟩
   have hg2:f+4503599627370496=g*34359738368:=by omega
   have hgb:131072≤g∧g<262144:=by omega
   rw [hg]at h2
   have hl:Lib.bitLen g.toNat=18:=bitLen_is 17 g.toNat (by omega) (by show 131072≤g.toNat; omega) (by show g.toNat<262144; omega)
   refine ⟨by omega,by omega,?_⟩
   rw [h2,widenP_32 s 0 g bs (by omega) (by omega),if_neg (by decide),if_neg (by omega),if_pos rfl,hl]
   show s*9223372036854775808+(1 - (23+1 - ((18:Nat):Int)) - 127+1023)*4503599627370496+g*64 % 8388608*536870912=b
   clear h1 h2 hg hl
   omega
  ·have h1:(f+4503599627370496) % 68719476736=0:=h1
   have h2:c=s*2147483648+0*8388608+(f+4503599627370496) / 68719476736:=h2
   obtain ⟨g,hg⟩:∃ g,(f+4503599627370496) / 68719476736=g:=⟨_,rfl⟩
   have hg2:f+4503599627370496=g*68719476736:=by omega
   have hgb:65536≤g∧g<131072:=by omega
   rw [hg]at h2
   have hl:Lib.bitLen g.toNat=17:=bitLen_is 16 g.toNat (by omega) (by show 65536≤g.toNat; omega) (by show g.toNat<131072; omega)
   refine ⟨by omega,by omega,?_⟩
   rw [h2,widenP_32 s 0 g bs (by omega) (by omega),if_neg (by decide),if_neg (by omega),if_pos rfl,hl]
   show s*9223372036854775808+(1 - (23+1 - ((17:Nat):Int)) - 127+1023)*4503599627370496+g*128 % 8388608*536870912=b
   clear h1 h2 hg hl
   omega
  ·have h1:(f+4503599627370496) % 137438953472=0:=h1
   have h2:c=s*2147483648+0*8388608+(f+4503599627370496) / 137438953472:=h2
   obtain ⟨g,hg⟩:∃ g,(f+4503599627370496) / 137438953472=g:=⟨_,rfl⟩
   have hg2:f+4503599627370496=g*137438953472:=by omega
   have hgb:32768≤g∧g<65536:=by omega
   rw [hg]at h2
   have hl:Lib.bitLen g.toNat=16:=bitLen_is 15 g.toNat (by omega) (by show 32768≤g.toNat; omega) (by show g.toNat<65536; omega)
   refine ⟨by omega,by omega,?_⟩
   rw [h2,widenP_32 s 0 g bs (by omega) (by omega),if_neg (by decide),if_neg (by omega),if_pos rfl,hl]
   show s*9223372036854775808+(1 - (23+1 - ((16:Nat):Int)) - 127+1023)*4503599627370496+g*256 % 8388608*536870912=b
   clear h1 h2 hg hl
   omega
  ·have h1:(f+4503599627370496) % 274877906944=0:=h1
   have h2:c=s*2147483648+0*8388608+(f+4503599627370496) / 274877906944:=h2
   obtain ⟨g,hg⟩:∃ g,(f+4503599627370496) / 274877906944=g:=⟨_,rfl⟩
   have hg2:f+4503599627370496=g*274877906944:=by omega
   have hgb:16384≤g∧g<32768:=by omega
   rw [hg]at h2
   have hl:Lib.bitLen g.toNat=15:=bitLen_is 14 g.toNat (by omega) (by show 16384≤g.toNat; omega) (by show g.toNat<32768; omega)
   refine ⟨by omega,by omega,?_⟩
   rw [h2,widenP_32 s 0 g bs (by omega) (by omega),if_neg (by decide),if_neg (by omega),if_pos rfl,hl]
   show s*9223372036854775808+(1 - (23+1 - ((15:Nat):Int)) - 127+1023)*4503599627370496+g*512 % 8388608*536870912=b
   clear h1 h2 hg hl
   omega
  ·have h1:(f+4503599627370496) % 549755813888=0:=h1
   have h2:c=s*2147483648+0*8388608+(f+4503599627370496) / 549755813888:=h2
   obtain ⟨g,hg⟩:∃ g,(f+4503599627370496) / 549755813888=g:=⟨_,rfl⟩
   have hg2:f+4503599627370496=g*549755813888:=by omega
   have hgb:8192≤g∧g<16384:=by omega
   rw [hg]at h2
   have hl:Lib.bitLen g.toNat=14:=bitLen_is 13 g.toNat (by omega) (by show 8192≤g.toNat; omega) (by show g.toNat<16384; omega)
   refine ⟨by omega,by omega,?_⟩
   rw [h2,widenP_32 s 0 g bs (by omega) (by omega),if_neg (by decide),if_neg (by omega),if_pos rfl,hl]
   show s*9223372036854775808+(1 - (23+1 - ((14:Nat):Int)) - 127+1023)*4503599627370496+g*1024 % 8388608*536870912=b
   clear h1 h2 hg hl
   omega
  ·have h1:(f+4503599627370496) % 1099511627776=0:=h1
   have h2:c=s*2147483648+0*8388608+(f+4503599627370496) / 1099511627776:=h2
   obtain ⟨g,hg⟩:∃ g,(f+4503599627370496) / 1099511627776=g:=⟨_,rfl⟩
   have hg2:f+4503599627370496=g*1099511627776:=by omega
   have hgb:4096≤g∧g<8192:=by omega
   rw [hg]at h2
   have hl:Lib.bitLen g.toNat=13:=bitLen_is 12 g.toNat (by omega) (by show 4096≤g.toNat; omega) (by show g.toNat<8192; omega)
   refine ⟨by omega,by omega,?_⟩
   rw [h2,widenP_32 s 0 g bs (by omega) (by omega),if_neg (by decide),if_neg (by omega),if_pos rfl,hl]
   show s*9223372036854775808+(1 - (23+1 - ((13:Nat):Int)) - 127+1023)*4503599627370496+g*2048 % 8388608*536870912=b
   clear h1 h2 hg hl
   omega
  ·have h1:(f+4503599627370496) % 2199023255552=0:=h1
   have h2:c=s*2147483648+0*8388608+(f+4503599627370496) / 2199023255552:=h2
   obtain ⟨g,hg⟩:∃ g,(f+4503599627370496) / 2199023255552=g:=⟨_,rfl⟩
   have hg2:f+4503599627370496=g*2199023255552:=by omega
   have hgb:2048≤g∧g<4096:=by omega
   rw [hg]at h2
   have hl:Lib.bitLen g.toNat=12:=bitLen_is 11 g.toNat (by omega) (by show 2048≤g.toNat; omega) (by show g.toNat<4096; omega)
   refine ⟨by omega,by omega,?_⟩
   rw [h2,widenP_32 s 0 g bs (by omega) (by omega),if_neg (by decide),if_neg (by omega),if_pos rfl,hl]
   show s*9223372036854775808+(1 - (23+1 - ((12:Nat):Int)) - 127+1023)*4503599627370496+g*4096 % 8388608*536870912=b
   clear h1 h2 hg hl
   omega
  ·have h1:(f+4503599627370496) % 4398046511104=0:=h1
   have h2:c=s*2147483648+0*8388608+(f+4503599627370496) / 4398046511104:=h2
   obtain ⟨g,hg⟩:∃ g,(f+4503599627370496) / 4398046511104=g:=⟨_,rfl⟩
   have hg2:f+4503599627370496=g*4398046511104:=by omega
   have hgb:1024≤g∧g<2048:=by omega
   rw [hg]at h2
   have hl:Lib.bitLen g.toNat=11:=bitLen_is 10 g.toNat (by omega) (by show 1024≤g.toNat; omega) (by show g.toNat<2048; omega)
   refine ⟨by omega,by omega,?_⟩
   rw [h2,widenP_32 s 0 g bs (by omega) (by omega),if_neg (by decide),if_neg (by omega),if_pos rfl,hl]
   show s*9223372036854775808+(1 - (23+1 - ((11:Nat):Int)) - 127+1023)*4503599627370496+g*8192 % 8388608*536870912=b
   clear h1 h2 hg hl
   omega
  ·have h1:(f+4503599627370496) % 8796093022208=0:=h1
   have h2:c=s*2147483648+0*8388608+(f+4503599627370496) / 8796093022208:=h2
   obtain ⟨g,hg⟩:∃ g,(f+4503599627370496) / 8796093022208=g:=⟨_,rfl⟩
   have hg2:f+4503599627370496=g*8796093022208:=by omega
   have hgb:512≤g∧g<1024:=by omega
   rw [hg]at h2
   have hl:Lib.bitLen g.toNat=10:=bitLen_is 9 g.toNat (by omega) (by show 512≤g.toNat; omega) (by show g.toNat<1024; omega)
   refine ⟨by omega,by omega,?_⟩
   rw [h2,widenP_32 s 0 g bs (by omega) (by omega),if_neg (by decide),if_neg (by omega),if_pos rfl,hl]
   show s*9223372036854775808+(1 - (23+1 - ((10:Nat):Int)) - 127+1023)*4503599627370496+g*16384 % 8388608*536870912=b
   clear h1 h2 hg hl
   omega
  ·have h1:(f+4503599627370496) % 17592186044416=0:=h1
   have h2:c=s*2147483648+0*8388608+(f+4503599627370496) / 17592186044416:=h2
   obtain ⟨g,hg⟩:∃ g,(f+4503599627370496) / 17592186044416=g:=⟨_,rfl⟩
   have hg2:f+4503599627370496=g*17592186044416:=by omega
   have hgb:256≤g∧g<512:=by omega
   rw [hg]at h2
   have hl:Lib.bitLen g.toNat=9:=bitLen_is 8 g.toNat (by omega) (by show 256≤g.toNat; omega) (by show g.toNat<512; omega)
   refine ⟨by omega,by omega,?_⟩
   rw [h2,widenP_32 s 0 g bs (by omega) (by omega),if_neg (by decide),if_neg (by omega),if_pos rfl,hl]
   show s*9223372036854775808+(1 - (23+1 - ((9:Nat):Int)) - 127+1023)*4503599627370496+g*32768 % 8388608*536870912=b
   clear h1 h2 hg hl
   omega
  ·have h1:(f+4503599627370496) % 35184372088832=0:=h1
   have h2:c=s*2147483648+0*8388608+(f+4503599627370496) / 35184372088832:=h2
   obtain ⟨g,hg⟩:∃ g,(f+4503599627370496) / 35184372088832=g:=⟨_,rfl⟩
   have hg2:f+4503599627370496=g*35184372088832:=by omega
   have hgb:128≤g∧g<256:=by omega
   rw [hg]at h2
   have hl:Lib.bitLen g.toNat=8:=bitLen_is 7 g.toNat (by omega) (by show 128≤g.toNat; omega) (by show g.toNat<256; omega)
   refine ⟨by omega,by omega,?_⟩
   rw [h2,widenP_32 s 0 g bs (by omega) (by omega),if_neg (by decide),if_neg (by omega),if_pos rfl,hl]
   show s*9223372036854775808+(1 - (23+1 - ((8:Nat):Int)) - 127+1023)*4503599627370496+g*65536 % 8388608*536870912=b
   clear h1 h2 hg hl
   omega
  ·have h1:(f+4503599627370496) % 70368744177664=0:=h1
   have h2:c=s*2147483648+0*8388608+(f+4503599627370496) / 70368744177664:=h2
   obtain ⟨g,hg⟩:∃ g,(f+4503599627370496) / 70368744177664=g:=⟨_,rfl⟩
   have hg2:f+4503599627370496=g*70368744177664:=by omega
   have hgb:64≤g∧g<128:=by omega
   rw [hg]at h2
   have hl:Lib.bitLen g.toNat=7:=bitLen_is 6 g.toNat (by omega) (by show 64≤g.toNat; omega) (by show g.toNat<128; omega)
   refine ⟨by omega,by omega,?_⟩
   rw [h2,widenP_32 s 0 g bs (by omega) (by omega),if_neg (by decide),if_neg (by omega),if_pos rfl,hl]
   show s*9223372036854775808+(1 - (23+1 - ((7:Nat):Int)) - 127+1023)*4503599627370496+g*131072 % 8388608*536870912=b
   clear h1 h2 hg hl
   omega
  ·have h1:(f+4503599627370496) % 140737488355328=0:=h1
   have h2:c=s*2147483648+0*8388608+(f+4503599627370496) / 140737488355328:=h2
   obtain ⟨g,hg⟩:∃ g,(f+4503599627370496) / 140737488355328=g:=⟨_,rfl⟩
   have hg2:f+4503599627370496=g*140737488355328:=by omega
   have hgb:32≤g∧g<64:=by omega
   rw [hg]at h2
   have hl:Lib.bitLen g.toNat=6:=bitLen_is 5 g.toNat (by omega) (by show 32≤g.toNat; omega) (by show g.toNat<64; omega)
   refine ⟨by omega,by omega,?_⟩
   rw [h2,widenP_32 s 0 g bs (by omega) (by omega),if_neg (by decide),if_neg (by omega),if_pos rfl,hl]
   show s*9223372036854775808+(1 - (23+1 - ((6:Nat):Int)) - 127+1023)*4503599627370496+g*262144 % 8388608*536870912=b
   clear h1 h2 hg hl
   omega
  ·have h1:(f+4503599627370496) % 281474976710656=0:=h1
   have h2:c=s*2147483648+0*8388608+(f+4503599627370496) / 281474976710656:=h2
   obtain ⟨g,hg⟩:∃ g,(f+4503599627370496) / 281474976710656=g:=⟨_,rfl⟩
   have hg2:f+4503599627370496=g*281474976710656:=by omega
   have hgb:16≤g∧g<32:=by omega
   rw [hg]at h2
   have hl:Lib.bitLen g.toNat=5:=bitLen_is 4 g.toNat (by omega) (by show 16≤g.toNat; omega) (by show g.toNat<32; omega)
   refine ⟨by omega,by omega,?_⟩
   rw [h2,widenP_32 s 0 g bs (by omega) (by omega),if_neg (by decide),if_neg (by omega),if_pos rfl,hl]
   show s*9223372036854775808+(1 - (23+1 - ((5:Nat):Int)) - 127+1023)*4503599627370496+g*524288 % 8388608*536870912=b
   clear h1 h2 hg hl
   omega
  ·have h1:(f+4503599627370496) % 562949953421312=0:=h1
   have h2:c=s*2147483648+0*8388608+(f+4503599627370496) / 562949953421312:=h2
   obtain ⟨g,hg⟩:∃ g,(f+4503599627370496) / 562949953421312=g:=⟨_,rfl⟩
   have hg2:f+4503599627370496=g*562949953421312:=by omega
   have hgb:8≤g∧g<16:=by omega
   rw [hg]at h2
   have hl:Lib.bitLen g.toNat=4:=bitLen_is 3 g.toNat (by omega) (by show 8≤g.toNat; omega) (by show g.toNat<16; omega)
   refine ⟨by omega,by omega,?_⟩
   rw [h2,widenP_32 s 0 g bs (by omega) (by omega),if_neg (by decide),if_neg (by omega),if_pos rfl,hl]
   show s*9223372036854775808+(1 - (23+1 - ((4:Nat):Int)) - 127+1023)*4503599627370496+g*1048576 % 8388608*536870912=b
   clear h1 h2 hg hl
   omega
  ·have h1:(f+4503599627370496) % 1125899906842624=0:=h1
   have h2:c=s*2147483648+0*8388608+(f+4503599627370496) / 1125899906842624:=h2
   obtain ⟨g,hg⟩:∃ g,(f+4503599627370496) / 1125899906842624=g:=⟨_,rfl⟩
   have hg2:f+4503599627370496=g*1125899906842624:=by omega
   have hgb:4≤g∧g<8:=by omega
   rw [hg]at h2
   have hl:Lib.bitLen g.toNat=3:=bitLen_is 2 g.toNat (by omega) (by show 4≤g.toNat; omega) (by show g.toNat<8; omega)
   refine ⟨by omega,by omega,?_⟩
   rw [h2,widenP_32 s 0 g bs (by omega) (by omega),if_neg (by decide),if_neg (by omega),if_pos rfl,hl]
   show s*9223372036854775808+(1 - (23+1 - ((3:Nat):Int)) - 127+1023)*4503599627370496+g*2097152 % 8388608*536870912=b
   clear h1 h2 hg hl
   omega
  ·have h1:(f+4503599627370496) % 2251799813685248=0:=h1
   have h2:c=s*2147483648+0*8388608+(f+4503599627370496) / 2251799813685248:=h2
   obtain ⟨g,hg⟩:∃ g,(f+4503599627370496) / 2251799813685248=g:=⟨_,rfl⟩
   have hg2:f+4503599627370496=g*2251799813685248:=by omega
   have hgb:2≤g∧g<4:=by omega
   rw [hg]at h2
   have hl:Lib.bitLen g.toNat=2:=bitLen_is 1 g.toNat (by omega) (by show 2≤g.toNat; omega) (by show g.toNat<4; omega)
   refine ⟨by omega,by omega,?_⟩
   rw [h2,widenP_32 s 0 g bs (by omega) (by omega),if_neg (by decide),if_neg (by omega),if_pos rfl,hl]
   show s*9223372036854775808+(1 - (23+1 - ((2:Nat):Int)) - 127+1023)*4503599627370496+g*4194304 % 8388608*536870912=b
   clear h1 h2 hg hl
   omega
  ·have h1:(f+4503599627370496) % 4503599627370496=0:=h1
   have h2:c=s*2147483648+0*8388608+(f+4503599627370496) / 4503599627370496:=h2
   obtain ⟨g,hg⟩:∃ g,(f+4503599627370496) / 4503599627370496=g:=⟨_,rfl⟩
   have hg2:f+4503599627370496=g*4503599627370496:=by omega
   have hgb:1≤g∧g<2:=by omega
   rw [hg]at h2
   have hl:Lib.bitLen g.toNat=1:=bitLen_is 0 g.toNat (by omega) (by show 1≤g.toNat; omega) (by show g.toNat<2; omega)
   refine ⟨by omega,by omega,?_⟩
   rw [h2,widenP_32 s 0 g bs (by omega) (by omega),if_neg (by decide),if_neg (by omega),if_pos rfl,hl]
   show s*9223372036854775808+(1 - (23+1 - ((1:Nat):Int)) - 127+1023)*4503599627370496+g*8388608 % 8388608*536870912=b
   clear h1 h2 hg hl
   omega
 ·cases h
end Go.Proofs.YtonihophanmaaaaGreatDoor
