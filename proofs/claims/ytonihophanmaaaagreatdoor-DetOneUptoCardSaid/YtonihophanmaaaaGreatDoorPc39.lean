/- The texts CrR, FmtU, DecO, CrS, NatA, NatP, NatB, Build, BuildF, put together. -/
import Derived.Test.YtonihophanmaaaaGreatDoorPc38
import Derived.Test.YtonihophanmaaaaGreatDoorPc21
import Derived.Lib.AppendIntMem
import Derived.Test.YtonihophanmaaaaGreatDoorPc32
import Derived.Test.YtonihophanmaaaaGreatDoorPc31
import Derived.Test.YtonihophanmaaaaGreatDoorPc04
import Derived.Lib.ParseIntBCases
import Derived.Test.YtonihophanmaaaaGreatDoorPc08
import Derived.Test.YtonihophanmaaaaGreatDoorPc01
import Derived.Test.YtonihophanmaaaaGreatDoorChecked
import Derived.Test.YtonihophanmaaaaGreatDoorPc07
import Derived.Test.YtonihophanmaaaaGreatDoorPc03
set_option maxHeartbeats 6400000
set_option maxRecDepth 100000
namespace Go.Proofs.YtonihophanmaaaaGreatDoor
end Go.Proofs.YtonihophanmaaaaGreatDoor
namespace Go.Proofs.YtonihophanmaaaaGreatDoor
open Go.RowKit Go.Shelf Go.Sort Go.Lib
theorem za4 (w:World) (os:Array Obj):Below w.heap.size w { w with heap:=w.heap++os }:=
 ⟨rfl,rfl,rfl,by simp,fun k a=>by
  show (w.heap++os)[k]? = w.heap[k]?
  rw [Array.getElem?_append_left a]⟩
theorem zhw (u:Nat) (a:u<18446744073709551616) (w:World) (n:Lib.TabIs Tryz.prog w "internal/strconv.uint64pow10" .u64 Lib.pow10Tab) :
  Calls Tryz.prog 265 #[.int .u64 u,.int .i64 10] w fun e i=>e=.returned (.string ⟨(Lib.decDigits u).toArray⟩)∧∃ k os,i=grow (w.drewN k) os:=by
 by_cases r:u<100
 ·go_enter Tryz.func265,Tryz.ntmps265
  have t:(u:Int)<100:=by omega
  have x:IntKind.i64.wrap (u:Int)=u:=by rw [IntKind.wrap_i64]; omega
  go_wp2_with fail
  refine (Tryz.internal_strconv_small u r _).mono ?_
  rintro e i ⟨rfl,rfl⟩
  go_wp2_with fail
  go_ret
  exact ⟨rfl,0,#[],by simp [World.drewN_zero]⟩
 ·have l:1≤u:=by omega
  have p:Lib.nDigits u≤20:=by have:=Lib.numDigits_eq u l a; split at this <;> omega
  have f:Tryz.prog.arrayLen 313=24:=by kernel_rfl
  have v:∀ W,(Instr.sliceAt 313 (.pointer (some ⟨w.heap.size,0,none⟩)) none (some (.int .i64 (Lib.nDigits u:Int))) none).run Tryz.prog W=.ok (.slice (some ⟨w.heap.size,0,none⟩) (Lib.nDigits u) 24) W:=fun W=>by
   rw [run_sliceAt_array_h W 313 ⟨w.heap.size,0,none⟩ (by kernel_rfl) .i64 (Lib.nDigits u:Int) (by omega) (by rw [f]; omega),f]
   go_simp
  have d:=Lib.holds_zero0 w 313 (Lib.nDigits u) (by omega)
  have g:=Tryz.internal_strconv_formatBase10 w.heap.size 0 24 u (Array.replicate (Lib.nDigits u) 0) (w.alloc (.cells Lib.zeros24 313)) d (by rw [Array.size_replicate]; exact Lib.lt_pow_nDigits u) a (by rw [Array.size_replicate]; omega)
  rw [Array.size_replicate]at g
  have o:=Lib.hid d
  have y:¬ ((u:Int)<100):=by omega
  clear d f
  go_enter Tryz.func265,Tryz.ntmps265
  go_wp2_with fail
  refine (Tryz.internal_strconv_numDigits u l a _ (Lib.tabIs_alloc n _)).mono ?_
  rintro e i ⟨rfl,rfl⟩
  go_wp2_with fail
  refine g.mono ?_
  rintro e i ⟨rfl,k,z,c,rfl,hF⟩
  have s:(convert 95 9 (.slice (some ⟨w.heap.size,0,none⟩) (Lib.nDigits u) 24)).run Tryz.prog ((putRow (fun (b:UInt8)=>Value.int .u8 (b.toNat:Int)) (w.alloc (.cells Lib.zeros24 313)) w.heap.size 0 c).drewN k)=.ok (.string ⟨(Lib.decDigits u).toArray⟩) ((putRow (fun (b:UInt8)=>Value.int .u8 (b.toNat:Int)) (w.alloc (.cells Lib.zeros24 313)) w.heap.size 0 c).drewN k):=by
   have h:=run_convert_bytes_back (P:=Tryz.prog) ((putRow (fun (b:UInt8)=>Value.int .u8 (b.toNat:Int)) (w.alloc (.cells Lib.zeros24 313)) w.heap.size 0 c).drewN k) 95 9 5 ⟨w.heap.size,0,none⟩ 24 (Lib.decDigits u) (by kernel_rfl) (by kernel_rfl) (by kernel_rfl) (fun j m=>by
    rw [Lib.row_is_numeral hF j m,Lib.add_plain,World.cell?_drewN]
    exact cell?_putRow (fun (b:UInt8)=>Value.int .u8 (b.toNat:Int)) _ w.heap.size 0 _ c o.out (by rw [hF.size,Array.size_replicate]) j (by rw [hF.size]; rw [Lib.decDigits_length]at m; exact m))
   rw [Lib.decDigits_length]at h
   exact h
  go_wp2_with fail
  go_ret
  obtain ⟨os,q⟩:=Lib.fin_at w (.cells Lib.zeros24 313) c k 0
  exact ⟨rfl,k,os,q⟩
theorem zj8 (u:Nat) (b:u<18446744073709551616) (w:World) (a:Lib.TabIs Tryz.prog w "internal/strconv.uint64pow10" .u64 Lib.pow10Tab) :
  Calls Tryz.prog 204 #[.int .u64 u] w fun e w'=>e=.returned (.string ⟨(Lib.decDigits u).toArray⟩)∧Below w.heap.size w w':=by
 have hF:Calls Tryz.prog 233 #[.int .u64 u,.int .i64 10] w fun e w'=>e=.returned (.string ⟨(Lib.decDigits u).toArray⟩)∧Below w.heap.size w w':=by
  go_enter Tryz.func233,Tryz.ntmps233
  go_wp2_with fail
  refine (zhw u b _ a).mono ?_
  rintro e w' ⟨rfl,k,os,rfl⟩
  go_wp2_with fail
  go_ret
  exact ⟨rfl,(show Below w.heap.size w (w.drewN k) from ⟨rfl,rfl,rfl,Nat.le_refl _,fun _ _=>rfl⟩).trans (za4 (w.drewN k) os)⟩
 go_enter Tryz.func204,Tryz.ntmps204
 go_wp2_with fail
 refine hF.mono ?_
 rintro e w' ⟨rfl,c⟩
 go_wp2_with fail
 go_ret
 exact ⟨rfl,c⟩
end Go.Proofs.YtonihophanmaaaaGreatDoor
namespace Go.Proofs.YtonihophanmaaaaGreatDoor
open Go.RowKit Go.Shelf
attribute [local go_sem] Oper.semAt_some
theorem zjq (neg:Bool) (u:Nat) (s:u<18446744073709551616) (w:World) (m:Lib.TabIs Tryz.prog w "internal/strconv.uint64pow10" .u64 Lib.pow10Tab) :
  Calls Tryz.prog 202 #[.bool neg,.int .u64 u] w fun x w'=>x=.returned (.agg #[.bool (ofN neg u).1,.string (ofN neg u).2.1,.int .i64 (ofN neg u).2.2])∧Below w.heap.size w w':=by
 obtain ⟨q,_⟩:=zf8 neg u (by omega)
 obtain ⟨⟨n,d,e⟩,A⟩:∃ x,ofN neg u=x:=⟨_,rfl⟩
 rw [A]at q ⊢
 simp only []
 have v:=Lib.hid (fun w h=>zj8 u s w h)
 have t:=Lib.hid (zfq neg ⟨(Lib.decDigits u).toArray⟩ 0 n d e q)
 have r:=Blk.new w #[.bool false,.string ⟨#[]⟩,.int .i64 0] 24
 have f:=(Below.refl w.heap.size w).alloc (Nat.le_refl _) (.cells #[.bool false,.string ⟨#[]⟩,.int .i64 0] 24)
 have y:=Lib.hid (Lib.tabIs_alloc m (.cells #[.bool false,.string ⟨#[]⟩,.int .i64 0] 24))
 clear A q m
 go_enter Tryz.func202,Tryz.ntmps202
 go_wp2_with fail
 refine (v.out _ y.out).mono ?_
 rintro x Q ⟨rfl,g⟩
 go_wp2_with fail
 refine (t.out _).mono ?_
 rintro x B ⟨rfl,i⟩
 have k:=r.below g r.lt
 have a:=k.below i k.lt
 have j:=f.trans ((g.mono f.size).trans (i.mono (Nat.le_trans f.size g.size)))
 have D:=a.lt
 have c:=a.alloc (.cells #[.bool n,.string d,.int .i64 e] 24)
 have l:=Blk.new B #[.bool n,.string d,.int .i64 e] 24
 have C:=j.alloc j.size (.cells #[.bool n,.string d,.int .i64 e] 24)
 clear v t y r k f g i
 have c0:=c.cell 0
 have c1:=c.cell 1
 have c2:=c.cell 2
 have H:=c.frozen 0
 have I:=c.frozen 1
 have J:=c.frozen 2
 have E:=l.cell 0
 have F:=l.cell 1
 have G:=l.cell 2
 have K:=a.cell 0
 have L:=a.cell 1
 have M:=a.cell 2
 have N:=a.frozen 0
 have O:=a.frozen 1
 have P:=a.frozen 2
 go_wp2_with fail
 have z:=(((a.set 0 (.bool n)).set 1 (.string d)).set 2 (.int .i64 e)).alloc (.cells #[.bool n,.string d,.int .i64 e] 24)
 have o:=((j.setCell (p:=⟨w.heap.size,0,none⟩) (Nat.le_refl _) (.bool n)).setCell (p:=⟨w.heap.size,1,none⟩) (Nat.le_refl _) (.string d)).setCell (p:=⟨w.heap.size,2,none⟩) (Nat.le_refl _) (.int .i64 e)
 exact bodyPost_ret (zb7 (T:=24) (b:=w.heap.size) rfl (by kernel_rfl) z Tryz.underlying24 rfl (by kernel_rfl)) rfl ⟨rfl,o.alloc o.size _⟩
end Go.Proofs.YtonihophanmaaaaGreatDoor
namespace Go.Proofs.YtonihophanmaaaaGreatDoor
open Go.RowKit Go.Shelf
attribute [local go_sem] Oper.semAt_some
theorem zmz (p d j a:Nat) (s:ByteArray) (w:World) (B:RdB w p s d) (A:a<18446744073709551616) (q:Lib.TabIs Tryz.prog w "internal/strconv.uint64pow10" .u64 Lib.pow10Tab) :
  Calls Tryz.prog 144 #[.pointer (some ⟨p,0,none⟩),qu (0,j,a)] w (jc p d 0 w s (.good (wl false a) s.data.toList)):=by
 have t:=zal s
 have u:=Lib.hid (fun w h=>zjq false a A w h)
 have m:=(zf8 false a (by omega)).2
 unfold wl
 obtain ⟨⟨n,g,e⟩,v⟩:∃ x,ofN false a=x:=⟨_,rfl⟩
 rw [v]at m ⊢
 simp only [v]at u
 have D:=Lib.hid (zmk m)
 have y:=Lib.hid (Lib.tabIs_alloc (Lib.tabIs_alloc q (.cells #[.int .i64 0,.int .i64 j,.int .u64 a] 137)) (.cells #[.int .i64 0,.bool false,.bool false,.string ⟨#[]⟩,.int .i64 0,.int .u64 0,.int .i64 0,.string ⟨#[]⟩,.slice none 0 0] 28))
 have k:=(Below.refl w.heap.size w).alloc (Nat.le_refl _) (.cells #[.int .i64 0,.int .i64 j,.int .u64 a] 137)
 have l:=k.alloc k.size (.cells #[.int .i64 0,.bool false,.bool false,.string ⟨#[]⟩,.int .i64 0,.int .u64 0,.int .i64 0,.string ⟨#[]⟩,.slice none 0 0] 28)
 have f:=(Blk.new w #[.int .i64 0,.int .i64 j,.int .u64 a] 137).alloc (.cells #[.int .i64 0,.bool false,.bool false,.string ⟨#[]⟩,.int .i64 0,.int .u64 0,.int .i64 0,.string ⟨#[]⟩,.slice none 0 0] 28)
 have i:=Blk.new (w.alloc (.cells #[.int .i64 0,.int .i64 j,.int .u64 a] 137)) #[.int .i64 0,.bool false,.bool false,.string ⟨#[]⟩,.int .i64 0,.int .u64 0,.int .i64 0,.string ⟨#[]⟩,.slice none 0 0] 28
 have o:=(B.alloc (.cells #[.int .i64 0,.int .i64 j,.int .u64 a] 137)).alloc (.cells #[.int .i64 0,.bool false,.bool false,.string ⟨#[]⟩,.int .i64 0,.int .u64 0,.int .i64 0,.string ⟨#[]⟩,.slice none 0 0] 28)
 rw [World.size_alloc]at i
 have F:=f.cell 0
 have G:=f.cell 1
 have H:=f.cell 2
 have E:=B.lt
 clear k v m q
 go_enter Tryz.func144,Tryz.ntmps144
 go_wp2_with fail
 refine (u.out _ y.out).mono ?_
 rintro x I ⟨rfl,c⟩
 have r:=i.below c i.lt
 have C:=o.below c o.lt
 have z:=l.trans (c.mono l.size)
 clear u y f i o l c F G H
 go_wp2_with (refine wpList_store_row rfl 28 (.tmp 4) (.tmp 9) rfl (w.heap.size+1) #[.int .i64 3,.bool false,.bool n,.string g,.int .i64 e,.int .u64 0,.int .i64 0,.string ⟨#[]⟩,.slice none 0 0] rfl rfl 28 _ r (by kernel_rfl) rfl (by simp [Value.oneCell']) ?_)
 refine bodyPost_ret (zo (T:=28) (b:=w.heap.size+1) rfl rfl rfl (zB r _) Tryz.underlying28 rfl (by kernel_rfl)) rfl ?_
 exact ⟨xK z (by omega) _,⟨none,0,0,rfl,LAt.nil _ _ _ _ _⟩,D.out,by rw [t]; exact zH C (by omega) _,by rw [t]; exact Nat.le_refl _⟩
end Go.Proofs.YtonihophanmaaaaGreatDoor
namespace Go.Proofs.YtonihophanmaaaaGreatDoor
open Go.RowKit Go.Shelf
attribute [local go_sem] Oper.semAt_some
theorem zlr (A:Option Addr) (n c i:Nat) (h:n≤i) (w:World) :
  Calls Tryz.prog 264 #[.slice A n c,.int .i64 i] w fun e a=>e=.returned (.int .u64 0)∧a=w:=by
 have b:(n:Int)≤i:=by omega
 go_enter Tryz.func264,Tryz.ntmps264
 go_wp2_with fail
 go_ret
 exact ⟨rfl,rfl⟩
theorem zmS (g n c i x:Nat) (h:i<n) (b:x<4294967296) (w:World) (hc:w.cell? ⟨g,i,none⟩=some (.int .u32 x)) :
  Calls Tryz.prog 264 #[.slice (some ⟨g,0,none⟩) n c,.int .i64 i] w fun e a=>e=.returned (.int .u64 x)∧a=w:=by
 have d:¬ (n:Int)≤i:=by omega
 have f:(i:Int)<n:=by omega
 have j:IntKind.u64.wrap (x:Int)=x:=by rw [IntKind.wrap_u64]; omega
 go_enter Tryz.func264,Tryz.ntmps264
 go_wp2_with fail
 go_ret
 exact ⟨rfl,rfl⟩
theorem zeE (g n c x:Nat) (hn:0<n) (d:n≤1000000) (hc:n≤c) (f:x≠0) (w:World) (a:w.cell? ⟨g,n - 1,none⟩=some (.int .u32 x)) :
  Calls Tryz.prog 262 #[.slice (some ⟨g,0,none⟩) n c] w fun e b=>e=.returned (.slice (some ⟨g,0,none⟩) n n)∧b=w:=by
 obtain ⟨m,rfl⟩:∃ m,n=m+1:=⟨n - 1,by omega⟩
 rw [Nat.add_sub_cancel]at a
 have h:(0:Int)<(m:Int)+1:=by omega
 have i:((x:Int) == 0)=false:=by rw [beq_eq_false_iff_ne]; omega
 have j:(m:Int)+1 - 1=m:=by omega
 go_enter Tryz.func262,Tryz.ntmps262
 go_wp2_with fail
 go_loopw [3] (fun v wr=>v=.int .i64 ((m+1:Nat):Int)∧wr=w) (fun _ _=>0)
 case atStart=>exact ⟨by simp,rfl⟩
 case round =>
  obtain ⟨rfl,rfl⟩:=hrel
  go_wp2_with fail
  go_ret
  exact ⟨rfl,rfl⟩
end Go.Proofs.YtonihophanmaaaaGreatDoor
namespace Go.Proofs.YtonihophanmaaaaGreatDoor
open Go.RowKit Go.Shelf
def lim (n i:Nat):Nat:=n / 10 ^ (9*i) % 1000000000
theorem vo (n i:Nat):lim n i<1000000000:=Nat.mod_lt _ (by decide)
theorem znS (n:Nat):lim n 0=n % 1000000000:=by
 unfold lim
 simp
theorem wX (n i:Nat):n / 10 ^ (9*(i+1))=n / 10 ^ (9*i) / 1000000000:=by
 rw [Nat.div_div_eq_div_mul,show 9*(i+1)=9*i+9 from by omega,Nat.pow_add]
theorem zbG (n i:Nat):n / 10 ^ (9*i)=n / 10 ^ (9*(i+1))*1000000000+lim n i:=by
 rw [wX]
 unfold lim
 omega
theorem zdQ {n i:Nat} (h:n / 10 ^ (9*(i+1))=0):lim n i=n / 10 ^ (9*i):=by
 have:=zbG n i
 rw [h]at this
 omega
theorem zf2 {n i k:Nat} (h:n / 10 ^ (9*k)=0) (c:k≤i):lim n i=0:=by
 unfold lim
 have a:n<10 ^ (9*k):=(Nat.div_eq_zero_iff_lt (Nat.pow_pos (by decide))).1 h
 have b:10 ^ (9*k)≤10 ^ (9*i):=Nat.pow_le_pow_right (by decide) (by omega)
 rw [Nat.div_eq_of_lt (by omega)]
theorem zjx (b:List UInt8):∀ a:Nat,zK a b=zK 0 b+a*10 ^ b.length:=by
 induction b with
 | nil =>
  intro a
  have e:∀ x,zK x []=x:=fun _=>rfl
  rw [e,e,List.length_nil,Nat.pow_zero]
  omega
 | cons c b d =>
  intro a
  have e:∀ x,zK x (c::b)=zK (x*10+(c.toNat - 48)) b:=fun _=>rfl
  rw [e,e,d (a*10+(c.toNat - 48)),d (0*10+(c.toNat - 48)),List.length_cons,Nat.pow_succ,Nat.zero_mul,Nat.zero_add,Nat.add_mul,Nat.mul_assoc,Nat.mul_comm 10 (10 ^ b.length)]
  omega
theorem zfy:∀ (a b:List UInt8) (c:Nat),zK c (a++b)=zK (zK c a) b
 | [],_,_=>rfl
 | _::a,b,_=>zfy a b _
theorem zcn (b a:List UInt8) (c:Nat):zK c (a++b)=zK 0 b+zK c a*10 ^ b.length:=by
 rw [zfy,zjx]
def grp (D:List UInt8) (i:Nat):List UInt8:=(D.take (D.length - 9*i)).drop (D.length - 9*(i+1))
theorem zk3 {D:List UInt8} (hd:∀ c∈D,zy c=true) (m:Nat):∀ c∈D.take m,zy c=true:=fun c hc=>hd c (List.mem_of_mem_take hc)
theorem zhy {D:List UInt8} (hd:∀ c∈D,zy c=true) (i:Nat):∀ c∈grp D i,zy c=true:=fun c hc=>hd c (List.mem_of_mem_take (List.mem_of_mem_drop hc))
theorem yq {D:List UInt8} (hd:∀ c∈D,zy c=true) (i:Nat):zK 0 (D.take (D.length - 9*i))=zK 0 D / 10 ^ (9*i):=by
 have a:=zcn (D.drop (D.length - 9*i)) (D.take (D.length - 9*i)) 0
 rw [List.take_append_drop]at a
 have b:zK 0 (D.drop (D.length - 9*i))<10 ^ (D.drop (D.length - 9*i)).length:=wG (fun c hc=>hd c (List.mem_of_mem_drop hc))
 rw [List.length_drop]at a b
 by_cases h:9*i≤D.length
 ·rw [show D.length - (D.length - 9*i)=9*i from by omega]at a b
  rw [a,Nat.add_mul_div_right _ _ (Nat.pow_pos (by decide)),Nat.div_eq_of_lt b]
  omega
 ·rw [show D.length - 9*i=0 from by omega]at a ⊢
  have d:=wG hd
  have e:10 ^ D.length≤10 ^ (9*i):=Nat.pow_le_pow_right (by decide) (by omega)
  rw [Nat.div_eq_of_lt (by omega)]
  rfl
theorem zhz {D:List UInt8} (hd:∀ c∈D,zy c=true) (i:Nat):zK 0 (grp D i)=lim (zK 0 D) i:=by
 have g:=yq hd i
 have d:=yq hd (i+1)
 have a:=zcn (grp D i) ((D.take (D.length - 9*i)).take (D.length - 9*(i+1))) 0
 unfold grp at a ⊢
 rw [List.take_append_drop,List.take_take,show min (D.length - 9*(i+1)) (D.length - 9*i)=D.length - 9*(i+1) from by omega,g,d]at a
 have b:zK 0 ((D.take (D.length - 9*i)).drop (D.length - 9*(i+1)))<10 ^ ((D.take (D.length - 9*i)).drop (D.length - 9*(i+1))).length:=wG (fun c hc=>hd c (List.mem_of_mem_take (List.mem_of_mem_drop hc)))
 rw [List.length_drop,List.length_take]at a b
 have e:=zbG (zK 0 D) i
 by_cases h:9*(i+1)≤D.length
 ·rw [show min (D.length - 9*i) D.length - (D.length - 9*(i+1))=9 from by omega]at a b
  rw [show (10:Nat) ^ 9=1000000000 from by decide]at a
  omega
 ·have f:zK 0 D / 10 ^ (9*(i+1))=0:=by
   rw [← d,show D.length - 9*(i+1)=0 from by omega]
   rfl
  rw [f]at a e
  omega
theorem zbS (D:List UInt8) (i:Nat):(grp D i).length≤9:=by
 unfold grp
 rw [List.length_drop,List.length_take]
 omega
theorem zjE {D:List UInt8} {i:Nat} (h:9*i<D.length):grp D i≠[]:=fun e=>by
 have:=congrArg List.length e
 unfold grp at this
 rw [List.length_drop,List.length_take,List.length_nil]at this
 omega
def jN (D:List UInt8):Nat:=(D.length+8) / 9
theorem zk9 {D:List UInt8} (hd:∀ c∈D,zy c=true):zK 0 D / 10 ^ (9*jN D)=0:=by
 rw [← yq hd,show D.length - 9*jN D=0 from by unfold jN; omega]
 rfl
theorem zla {D:List UInt8} (hd:∀ c∈D,zy c=true) (a:D≠[]) (d:D.head?≠some 48):zK 0 D / 10 ^ (9*(jN D - 1))≠0:=by
 have i:0<D.length:=by
  rcases Nat.eq_zero_or_pos D.length with e | e
  ·exact absurd (List.eq_nil_of_length_eq_zero e) a
  ·exact e
 rw [← yq hd]
 have f:0<D.length - 9*(jN D - 1):=by
  unfold jN
  omega
 obtain ⟨m,b⟩:∃ m,D.length - 9*(jN D - 1)=m+1:=⟨_,(Nat.succ_pred_eq_of_pos f).symm⟩
 rw [b]
 cases D with
 | nil=>exact absurd rfl a
 | cons c D =>
  have g:=xk (l:=(c::D).take (m+1)) (by simp) (zk3 hd _) (by simpa using d)
  have h:=Nat.pow_pos (n:=((c::D).take (m+1)).length - 1) (show 0<10 by decide)
  omega
theorem zen:∀ (g:List UInt8) (a:Nat),(∀ c∈g,zy c=true)→zK a g≤4294967295→Lib.parseUintM 4294967295 a g=.ok (zK a g)
 | [],a,_,_=>rfl
 | c::g,a,hd,d=>by
  have hc:=kL (hd c (List.mem_cons_self ..))
  have b:zK (a*10+(c.toNat - 48)) g≤4294967295:=d
  have h:=zdI g (a*10+(c.toNat - 48))
  have f:=zen g (a*10+(c.toNat - 48)) (fun x e=>hd x (List.mem_cons_of_mem _ e)) b
  unfold Lib.parseUintM
  rw [if_pos hc,if_neg (by omega),if_neg (by omega)]
  exact f
theorem zgf {g:List UInt8} (a:g≠[]) (hd:∀ c∈g,zy c=true) (b:g.length≤9):Lib.parseUintB 32 g=.ok (zK 0 g):=by
 have d:=wG hd
 have e:10 ^ g.length≤10 ^ 9:=Nat.pow_le_pow_right (by decide) b
 have f:(10:Nat) ^ 9=1000000000:=by decide
 unfold Lib.parseUintB
 rw [if_neg a]
 exact zen g 0 hd (by omega)
def one (i:Nat):Nat:=if i=0 then 1 else 0
def car (n i:Nat):Nat:=if i=0 then 0 else (n+1) / 10 ^ (9*i) - n / 10 ^ (9*i)
theorem za5 (n i:Nat):n / 10 ^ (9*i)≤(n+1) / 10 ^ (9*i)∧(n+1) / 10 ^ (9*i)≤n / 10 ^ (9*i)+1:=by
 have b:0<10 ^ (9*i):=Nat.pow_pos (by decide)
 refine ⟨Nat.div_le_div_right (Nat.le_succ n),?_⟩
 have a:(n+1) / 10 ^ (9*i)≤(n+10 ^ (9*i)) / 10 ^ (9*i):=Nat.div_le_div_right (by omega)
 rw [Nat.add_div_right _ b]at a
 exact a
theorem zjk (n i:Nat):car n i≤1:=by
 unfold car
 split
 ·omega
 ·have:=za5 n i
  omega
theorem zkH (n i:Nat):(car n i+(lim n i+one i)) % 1000000000=lim (n+1) i:=by
 by_cases h:i=0
 ·subst h
  unfold car one lim
  simp
  try omega
 ·unfold car one
  rw [if_neg h,if_neg h]
  have:=za5 n i
  unfold lim
  omega
theorem zja (n i:Nat):(car n i+(lim n i+one i)) / 1000000000=car n (i+1):=by
 by_cases h:i=0
 ·subst h
  unfold car one lim
  rw [if_pos rfl,if_pos rfl,if_neg (by decide)]
  simp
  omega
 ·unfold car one
  rw [if_neg h,if_neg h,if_neg (by omega),wX,wX]
  have:=za5 n i
  unfold lim
  generalize (n+1) / 10 ^ (9*i)=x at this ⊢
  generalize n / 10 ^ (9*i)=y at this ⊢
  omega
theorem zmq {n i:Nat} (c:0<i) (b:n / 10 ^ (9*i)=0) (a:car n i=0):(n+1) / 10 ^ (9*i)=0:=by
 unfold car at a
 rw [if_neg (by omega)]at a
 generalize (n+1) / 10 ^ (9*i)=x at a ⊢
 generalize n / 10 ^ (9*i)=y at b a
 omega
theorem zbc:∀ k:Nat,∀ l:List UInt8,zK 0 (List.replicate k 48++l)=zK 0 l
 | 0,l=>rfl
 | k+1,l=>by
  rw [List.replicate_succ,List.cons_append]
  show zK (0*10+((48:UInt8).toNat - 48)) _=_
  exact zbc k l
theorem zjr (q r:Nat) (j:0<q) (m:r<1000000000):Lib.decDigits (q*1000000000+r)=Lib.decDigits q++(List.replicate (9 - (Lib.decDigits r).length) 48++Lib.decDigits r):=by
 obtain ⟨a,b,d⟩:=qg (q*1000000000+r)
 obtain ⟨b1,b2,b3⟩:=qg q
 obtain ⟨c1,c2,c3⟩:=qg r
 have l:(Lib.decDigits r).length≤9:=by
  rcases Nat.eq_zero_or_pos r with e | e
  ·subst e
   rw [Lib.decDigits_one (by decide)]
   decide
  ·have f:=xk c3 c2 (kj r r (Nat.le_refl _) e)
   rw [c1]at f
   apply Decidable.byContradiction
   intro hc
   have k:10 ^ 9≤10 ^ ((Lib.decDigits r).length - 1):=Nat.pow_le_pow_right (by decide) (by omega)
   have g:(10:Nat) ^ 9=1000000000:=by decide
   omega
 have i:=kj q q (Nat.le_refl _) j
 refine zeb d (by simp [b3]) b ?_ (kj _ _ (Nat.le_refl _) (by omega)) ?_ ?_
 ·intro c hc
  rcases List.mem_append.1 hc with h | h
  ·exact b2 c h
  ·rcases List.mem_append.1 h with h | h
   ·rw [List.eq_of_mem_replicate h]
    decide
   ·exact c2 c h
 ·rw [yF b3]
  exact i
 ·rw [a,zcn,b1,zbc,c1,List.length_append,List.length_replicate,show 9 - (Lib.decDigits r).length+(Lib.decDigits r).length=9 from by omega]
  have g:(10:Nat) ^ 9=1000000000:=by decide
  omega
def ziI (r:Nat):List UInt8:=List.replicate (9 - (Lib.decDigits r).length) 48++Lib.decDigits r
theorem zkr {n i:Nat} (h:n / 10 ^ (9*(i+1))≠0):Lib.decDigits (n / 10 ^ (9*i))=Lib.decDigits (n / 10 ^ (9*(i+1)))++ziI (lim n i):=by
 rw [zbG n i,zjr _ _ (Nat.pos_of_ne_zero h) (vo n i)]
 rfl
end Go.Proofs.YtonihophanmaaaaGreatDoor
namespace Go.Proofs.YtonihophanmaaaaGreatDoor
open Go.RowKit Go.Shelf
attribute [local go_sem] Oper.semAt_some qi jA
def zif (D:List UInt8) (i:Nat):Array Value:=#[.string (bs (grp D i))]
def KpN (n b:Nat) (A B:World):Prop:=Below n A B∧(b<A.heap.size→B.heap[b]? = A.heap[b]?)
theorem zbr {n b:Nat} {A B C:World} (a:KpN n b A B) (c:KpN n b B C):KpN n b A C:=
 ⟨a.1.trans c.1,fun h=>(c.2 (Nat.lt_of_lt_of_le h a.1.size)).trans (a.2 h)⟩
theorem zdO {n b m:Nat} (W:World) (l:Nat) (o o':Obj) (hn:n≤m) (d:b<m) (f:m≤l) (a:W.heap[l]? = some o):KpN n b W (W.putObj l o'):=by
 have c:=(Array.getElem?_eq_some_iff.1 a).1
 exact ⟨(Below.refl _ W).grown (grownBy_putObj' W l o') (by omega) (fun k e=>by cases e; omega),fun _=>World.putObj_heap_other (by omega)⟩
def ziT (W:World) (b:Nat):Nat:=match W.cell? ⟨b,0,none⟩ with
 | some (.string s)=>s.size
 | _=>0
theorem zcB {W:World} {b:Nat} {s:ByteArray} {t:TypeId} (h:Blk W b #[.string s] t):ziT W b=s.size:=by
 unfold ziT
 rw [h.cell 0]
 rfl
theorem zgX {D:List UInt8} {j:Nat} (h:D.length≤9*j):bs (D.take (D.length - 9*j))=⟨#[]⟩:=by
 rw [show D.length - 9*j=0 from by omega]
 rfl
theorem zmB (D:List UInt8) (j:Nat):(bs (D.take (D.length - 9*j))).extract (D.length - 9*(j+1)) (bs (D.take (D.length - 9*j))).size=bs (grp D j):=by
 rw [zao]
 rfl
theorem zkZ (D:List UInt8) (j:Nat):(bs (D.take (D.length - 9*j))).extract 0 (D.length - 9*(j+1))=bs (D.take (D.length - 9*(j+1))):=by
 rw [zd9,yW,List.take_take,show min (D.length - 9*(j+1)) (D.length - 9*j)=D.length - 9*(j+1) from by omega]
theorem zdn (s:ByteArray) (w:World) :
  Calls Tryz.prog 261 #[.string s] w fun e w'=>e=.returned (.func (.func 276) #[] #[.pointer (some ⟨w.heap.size,0,none⟩)])∧w.alloc (.cells #[.string s] 9)=w':=by
 go_enter Tryz.func261,Tryz.ntmps261
 go_wp2
 go_ret
 exact ⟨rfl,rfl⟩
theorem zc6 (n b:Nat) (D:List UInt8) (Y:D.length≤1000000) :
  zdC Tryz.prog 276 #[.pointer (some ⟨b,0,none⟩)] (zif D) (fun A B=>A.grownBy B (some b)) (KpN n b) (fun _=>True) (fun v _=>v=List.range v.length∧v.length≤jN D)
   (fun v _=>v=List.range (jN D)) (fun _ _=>True) (fun W=>Blk W b #[.string (bs D)] 9):=by
 intro l J Jx W hA M N O L
 refine callsIn_of_wp Tryz.func276 rfl trivial ?_ rfl
 simp only [Tryz.ntmps276,List.size_toArray,List.length_cons,List.length_nil,Nat.reduceAdd,Nat.reduceSub,Array.replicate_succ,Array.replicate_zero,List.push_toArray,List.append_toArray,List.nil_append,List.cons_append]
 have T:=Lib.hid O
 have F:=Lib.hid M
 clear O M N
 gi_wp2
 gi_loopw [] (fun wr=>∃ j:Nat,j≤jN D∧J (List.range j) wr∧Blk wr b #[.string (bs (D.take (D.length - 9*j)))] 9) (fun wr=>ziT wr b)
 case atStart=>exact ⟨0,Nat.zero_le _,L,by rw [Nat.mul_zero,Nat.sub_zero,List.take_length]; exact hA⟩
 case round =>
  obtain ⟨j,X,p,c⟩:=hrel
  have w:=c.cell 0
  have K:=c.frozen 0
  have u:(bs (D.take (D.length - 9*j))).size=D.length - 9*j:=by
   rw [jR,List.length_take]
   omega
  have t:=zcB c
  by_cases P:D.length≤9*j
  ·rw [zgX P]at w c
   have y:j=jN D:=by
    unfold jN at X ⊢
    omega
   subst y
   gi_wp2_with fail
   go_end0
   exact ⟨⟨_,rfl⟩,.inl ⟨_,rfl,p⟩⟩
  ·have r:j+1≤jN D:=by
    unfold jN
    omega
   have k:=zmB D j
   have o:=zkZ D j
   obtain ⟨fn,aa,I,U,C,x⟩:=T.out (List.range j) j wr p ⟨by rw [List.length_append,List.length_range,List.length_singleton,List.range_succ],by rw [List.length_append,List.length_range]; exact r⟩
   rw [← List.range_succ]at x
   unfold zif at C
   obtain ⟨s,R⟩:∃ s,bs (D.take (D.length - 9*j))=s:=⟨_,rfl⟩
   obtain ⟨m,z⟩:∃ m,D.length - 9*(j+1)=m:=⟨_,rfl⟩
   rw [R]at w c u k o t
   rw [z]at k o
   have ag:=wb (s:=s) (by omega)
   rw [← k]at C
   have ad:max (0:Int) ((s.size:Int) - 9)=(m:Int):=by omega
   have ae:m≤s.size:=by omega
   have Q:m<s.size:=by omega
   have af:s.size≤1000000:=by omega
   have E:=Lib.hid o
   have G:=Lib.hid t
   have H:=Lib.hid z
   have ac:=Lib.hid u
   clear k o p R z u t P Y L
   rcases (by omega:((s.size:Int) - 9≤0∧m=0)∨(¬ (s.size:Int) - 9≤0∧(s.size:Int) - 9=m)) with ⟨Z,S⟩ | ⟨Z,S⟩
   ·subst S
    rw [show s.extract 0 s.size=s from by rw [zao,List.drop_zero,zal]]at C
    gi_wp2_with fail
    refine x.mono ?_
    rintro e h (⟨rfl,_,d,f⟩ | ⟨rfl,i⟩)
    ·have a:Blk h b #[.string s] 9:=(f.2 c.lt).trans c
     have z3:=a.cell 0
     have V:=a.frozen 0
     have g:Blk (h.setCell ⟨b,0,none⟩ (.string ByteArray.empty)) b #[.string ByteArray.empty] 9:=a.set 0 _
     have q:=F.out _ _ _ d (jm h b 0 (.string ByteArray.empty))
     clear d f w K
     gi_wp2_with fail
     go_roundw
     case rel=>exact ⟨j+1,r,q,by rw [H.out]; exact g⟩
     case measure =>
      rw [zcB g,G.out]
      exact Q
    ·gi_wp2_with fail
     refine bodyPost_ret (results_none rfl _ _ _) rfl ?_
     exact ⟨⟨_,rfl⟩,.inr ⟨_,trivial,i⟩⟩
   ·gi_wp2_with fail
    refine x.mono ?_
    rintro e h (⟨rfl,_,d,f⟩ | ⟨rfl,i⟩)
    ·have a:Blk h b #[.string s] 9:=(f.2 c.lt).trans c
     have z3:=a.cell 0
     have V:=a.frozen 0
     have g:Blk (h.setCell ⟨b,0,none⟩ (.string (s.extract 0 m))) b #[.string (s.extract 0 m)] 9:=a.set 0 _
     have q:=F.out _ _ _ d (jm h b 0 (.string (s.extract 0 m)))
     clear d f w K
     gi_wp2_with fail
     go_roundw
     case rel=>exact ⟨j+1,r,q,by rw [H.out,← E.out]; exact g⟩
     case measure =>
      rw [zcB g,G.out,E.out,jR,List.length_take]
      omega
    ·gi_wp2_with fail
     refine bodyPost_ret (results_none rfl _ _ _) rfl ?_
     exact ⟨⟨_,rfl⟩,.inr ⟨_,trivial,i⟩⟩
def zkQ (N k:Nat) (j:Nat):Array Value:=#[.int .i64 ((k - 1 - j:Nat):Int),.int .u32 (lim N (k - 1 - j))]
def qw (W:World) (g N k:Nat):Prop:=∀ i,i<k→W.cell? ⟨g,i,none⟩=some (.int .u32 (lim N i))
theorem qw.below {W W':World} {g N k n:Nat} (h:qw W g N k) (a:Below n W W') (b:g<n):qw W' g N k:=fun i c =>
 (a.cell (p:=⟨g,i,none⟩) b).trans (h i c)
theorem zkR (A:Option Addr) (m c:Nat) (w:World) :
  Calls Tryz.prog 277 #[.slice A m c] w fun e w'=>e=.returned (.func (.func 287) #[] #[.pointer (some ⟨w.heap.size,0,none⟩)])∧w.alloc (.cells #[.slice A m c] 268)=w':=by
 go_enter Tryz.func277,Tryz.ntmps277
 go_wp2
 go_ret
 exact ⟨rfl,rfl⟩
theorem zfh (n b g k c N:Nat) (I:g<n) (y:k≤1000000) :
  zdC Tryz.prog 287 #[.pointer (some ⟨b,0,none⟩)] (zkQ N k) (fun A B=>A=B) (KpN n b) (fun _=>True) (fun f _=>f=List.range f.length∧f.length≤k)
   (fun f _=>f=List.range k) (fun _ _=>True) (fun W=>Blk W b #[.slice (some ⟨g,0,none⟩) k c] 268∧qw W g N k):=by
 intro l J M W hA H u x s
 obtain ⟨hA,h⟩:=hA
 refine callsIn_of_wp Tryz.func287 rfl trivial ?_ rfl
 simp only [Tryz.ntmps287,List.size_toArray,List.length_cons,List.length_nil,Nat.reduceAdd,Nat.reduceSub,Array.replicate_succ,Array.replicate_zero,List.push_toArray,List.append_toArray,List.nil_append,List.cons_append]
 have E:=Lib.hid x
 clear x H u
 have q:=hA.cell 0
 have L:(k:Int)≤1000000:=by omega
 gi_wp2_with fail
 gi_loopw [3] (fun v wr=>∃ i:Nat,i≤k∧v=.int .i64 ((i:Int) - 1)∧J (List.range (k - i)) wr∧Blk wr b #[.slice (some ⟨g,0,none⟩) k c] 268∧qw wr g N k) (fun v _=>(intOf v+1).toNat)
 case atStart=>exact ⟨k,Nat.le_refl _,rfl,by rw [Nat.sub_self]; exact s,hA,h⟩
 case round =>
  obtain ⟨i,P,rfl,a,d,m⟩:=hrel
  clear q s hA h
  cases i with
  | zero =>
   rw [Nat.sub_zero]at a
   rw [show (((0:Nat):Int) - 1) = -1 from rfl]
   gi_wp2_with fail
   go_end0
   exact ⟨⟨_,rfl⟩,.inl ⟨_,rfl,a⟩⟩
  | succ i =>
   rw [show (((i+1:Nat):Int) - 1)=(i:Int) from by omega]
   have q:=d.cell 0
   have hc:=m i (by omega)
   have Q:(i:Int)<k:=by omega
   have R:(0:Int)≤i:=by omega
   have p:List.range (k - (i+1))++[k - (i+1)]=List.range (k - i):=by
    rw [← List.range_succ]
    exact congrArg List.range (by omega)
   obtain ⟨O,K,r,G,D,w⟩:=E.out (List.range (k - (i+1))) (k - (i+1)) wr a (by rw [p,List.length_range]; exact ⟨rfl,by omega⟩)
   rw [p]at w
   unfold zkQ at D
   rw [show k - 1 - (k - (i+1))=i from by omega]at D
   clear p a
   gi_wp2_with fail
   refine w.mono ?_
   rintro e F (⟨rfl,_,t,j⟩ | ⟨rfl,o⟩)
   ·have z:Blk F b #[.slice (some ⟨g,0,none⟩) k c] 268:=(j.2 d.lt).trans d
    have C:=m.below j.1 I
    clear q hc
    gi_wp2_with fail
    go_roundw
    case rel=>exact ⟨i,by omega,by first | rfl | (congr 1),t,z,C⟩
    case measure =>
     simp only [intOf]
     omega
   ·gi_wp2_with fail
    refine bodyPost_ret (results_none rfl _ _ _) rfl ?_
    exact ⟨⟨_,rfl⟩,.inr ⟨_,trivial,o⟩⟩
end Go.Proofs.YtonihophanmaaaaGreatDoor
namespace Go.Proofs.YtonihophanmaaaaGreatDoor
open Go.RowKit Go.Shelf
abbrev IsB (B b:Nat) (bs:List Value) (w:World):Prop:=Lib.IsBuilderF 97 5 B b bs w
abbrev AtB (B b:Nat) (bs:List Value) (w:World):Prop:=Lib.BuilderAtF 97 5 B b (.pointer (some ⟨b,0,none⟩)) bs w
theorem AtB.is {B b:Nat} {a:List Value} {w:World} (h:AtB B b a w):IsB B b a w:=.inr h
theorem sizeBuilder:(Tryz.prog.info? 97).map (·.size)=some 2:=by kernel_rfl
theorem liesBuilder:liesAt Tryz.prog Tryz.prog.depth 97 (2 / Tryz.prog.cellsOf 97) 0 97 1=true:=by kernel_rfl
theorem infoByte:(Tryz.prog.info? 5).map (fun i=>(i.zero,i.size,i.bytes))=some (some (.int .u8 0),1,1):=by kernel_rfl
theorem zgT (b:Nat) (w:World) (h:w.cell? ⟨b,0,none⟩=some (.pointer none)) (a:w.shape? b=some (97,2)) (g:w.frozen? ⟨b,0,none⟩=false) :
  Calls Tryz.prog 222 #[.pointer (some ⟨b,0,none⟩)] w fun e f=>e=.returned (.tuple #[])∧f=w.setCell ⟨b,0,none⟩ (.pointer (some ⟨b,0,none⟩)):=by
 obtain ⟨j,c,d⟩:=Option.map_eq_some_iff.1 sizeBuilder
 go_enter Tryz.func222,Tryz.ntmps222
 go_wp2
 rw [Lib.run_to_unsafe w ⟨b,0,none⟩ Tryz.underlying94 Tryz.underlying191 c (by rw [d]; decide) a (Nat.zero_lt_succ 1)]
 simp only [Result.andThen]
 rw [Oper.upon_value]
 go_wp2
 rw [run_callFunc_extern Tryz.func258 (by kernel_rfl) (by kernel_rfl) (by kernel_rfl) (e:=Extern.AbiNoEscape.same) (by kernel_rfl)]
 rw [Lib.run_noEscape]
 simp only [Result.andThen]
 rw [Oper.upon_value]
 go_wp2
 rw [Lib.run_from_unsafe w ⟨b,0,none⟩ Tryz.underlying191 Tryz.underlying94 c a liesBuilder]
 simp only [Result.andThen]
 rw [Oper.upon_value]
 go_wp2
 go_end0
 exact ⟨rfl,rfl⟩
theorem zh4 (b:Nat) (w:World) (d:w.cell? ⟨b,0,none⟩=some (.pointer (some ⟨b,0,none⟩))) :
  Calls Tryz.prog 222 #[.pointer (some ⟨b,0,none⟩)] w fun e c=>e=.returned (.tuple #[])∧c=w:=by
 obtain ⟨j,a,_⟩:=Option.map_eq_some_iff.1 sizeBuilder
 go_enter Tryz.func222,Tryz.ntmps222
 go_wp2
 rw [Lib.run_neq_ptr_same w _ Tryz.underlying94 a]
 go_wp2
 go_end0
 exact ⟨rfl,rfl⟩
theorem zmt (B b:Nat) (c:List Value) (w:World) (h:IsB B b c w) :
  Calls Tryz.prog 222 #[.pointer (some ⟨b,0,none⟩)] w fun e a=>e=.returned (.tuple #[])∧(AtB B b c a∧Below B w a∧Lib.OthersKept 5 (some b) w a):=by
 rcases h with h | h
 ·refine (zgT b w h.cell0 h.shape h.frozen0).mono ?_
  rintro e a ⟨rfl,rfl⟩
  exact ⟨rfl,h.used _,(Below.refl B w).setCell (p:=⟨b,0,none⟩) h.1 _,(Lib.OthersKept.refl _ _ w).setCell ⟨b,0,none⟩ rfl _⟩
 ·refine (zh4 b w h.cell0).mono ?_
  rintro e a ⟨rfl,rfl⟩
  exact ⟨rfl,h,Below.refl B _,Lib.OthersKept.refl _ _ _⟩
theorem wi (B b:Nat) (j:List Value) (s:ByteArray) (w:World) (h:IsB B b j w) (J:j.length+s.size≤140737488355328) (N:B≤w.heap.size) :
  Calls Tryz.prog 184 #[.pointer (some ⟨b,0,none⟩),.string s] w fun e r=>e=.returned (.tuple #[.int .i64 s.size,.nilIface])∧(AtB B b (j++Lib.strCells s) r∧Below B w r∧Lib.OthersKept 5 (some b) w r):=by
 obtain ⟨K,H,A,C,D⟩:=info_parts infoByte
 have F:=Lib.hid (zmt B b j w h)
 go_enter Tryz.func184,Tryz.ntmps184
 go_wp2_with fail
 refine F.out.mono ?_
 rintro e m ⟨rfl,G,l,x⟩
 obtain ⟨u,v,f,c,z⟩:=G
 have c0:m.cell? ⟨b,0,none⟩=some (.pointer (some ⟨b,0,none⟩)):=by rw [Lib.cell_of_heap f]; rfl
 have c1:m.cell? ⟨b,1,none⟩=some v:=by rw [Lib.cell_of_heap f]; rfl
 go_wp2_with (at_builtin; refine Lib.wpList_append_own_stringF _ rfl _ _ 95 9 rfl B 5 K Tryz.underlying95 Tryz.underlying9 H A C D _ _ _ rfl c s rfl ?c3 ?c4 ?c5 ?_)
 case c3=>unfold maxLen; omega
 case c4=>omega
 case c5=>have:=l.size; omega
 intro L n i a _
 have y:b<m.heap.size:=by
  rcases Nat.lt_or_ge b m.heap.size with o | o
  ·exact o
  ·simp [Array.getElem?_eq_none o]at f
 have d:n.heap[b]? = some (.cells #[.pointer (some ⟨b,0,none⟩),v] 97 (0,0)):=by
  rw [a.block b y (fun e=>z e.symm)]
  exact f
 have O:n.cell? ⟨b,0,none⟩=some (.pointer (some ⟨b,0,none⟩)):=by rw [Lib.cell_of_heap d]; rfl
 have P:n.cell? ⟨b,1,none⟩=some v:=by rw [Lib.cell_of_heap d]; rfl
 have Q:n.frozen? ⟨b,1,none⟩=false:=Lib.frozen_of_heap d 1
 obtain ⟨t,E,cap,rfl⟩:∃ t E cap,L=.slice t E cap:=by
  rcases i.2 with ⟨q,_⟩ | ⟨g,cap,M,R,q,_⟩
  ·exact ⟨_,_,_,q⟩
  ·exact ⟨_,_,_,q⟩
 go_wp2
 go_ret2
 refine ⟨rfl,?_,?_,(x.grown a (Lib.ownsRowF_kind c)).setCell ⟨b,1,none⟩ rfl _⟩
 ·exact Lib.BuilderAtF.put (T:=97) (e:=5) u d (bs':=j++Lib.strCells s) (by simpa [Lib.strCells_length] using i) (by decide)
 ·exact (l.grown a (by have:=l.size; omega) (fun k I=>(c.lt k I).1)).setCell (p:=⟨b,1,none⟩) u _
theorem zbn {B b:Nat} {f:List Value} {W W':World} (h:IsB B b f W) {row:Option Nat} (j:W.grownBy W' row) (m:∀ r,row=some r→r<B∨∃ o:Obj,W.heap[r]? = some o∧o.isCells=false):IsB B b f W':=by
 have key:∀ p,Lib.BuilderAtF 97 5 B b p f W→Lib.BuilderAtF 97 5 B b p f W':=by
  rintro p ⟨s,v,i,c,l⟩
  refine ⟨s,v,(j.block b (Array.getElem?_eq_some_iff.1 i).1 ?_).trans i,c.kept j ?_,l⟩
  ·intro e
   rcases m b e.symm with q | ⟨o,d,hc⟩
   ·omega
   ·rw [i]at d
    cases d
    cases hc
  ·by_cases n:v.ownBlock=none
   ·exact .inl n
   ·right
    intro e
    obtain ⟨g,a⟩:∃ g,v.ownBlock=some g:=by
     cases hq:v.ownBlock with
     | none=>exact absurd hq n
     | some g=>exact ⟨g,rfl⟩
    rcases m g (by rw [← e,a]) with q | ⟨o,d,hc⟩
    ·have:=(c.lt g a).1
     omega
    ·rcases c.2 with ⟨rfl,_⟩ | ⟨x,t,u,w,rfl,_,k,_⟩
     ·simp [Value.ownBlock]at a
     ·simp [Value.ownBlock]at a
      subst a
      rw [k]at d
      cases d
      cases hc
 rcases h with h | h
 ·exact .inl (key _ h)
 ·exact .inr (key _ h)
theorem kp {b:Nat} {W W':World} (h:Lib.OthersKept 5 (some b) W W') {k:Nat} {a:Array Value} {t:TypeId} (f:Blk W k a t) (d:k≠b) (g:t≠5):Blk W' k a t:=
 h k _ f (fun e=>d (by cases e; rfl)) (fun c i e=>by cases e; exact g rfl)
theorem yK {b B:Nat} {W W':World} (h:Lib.OthersKept 5 (some b) W W') (l:W.heap.size≤W'.heap.size) {g:Nat} {i:List Value} (j:IsB g b i W):KeepsFrom B W W':=by
 obtain ⟨c,t,z,a⟩:∃ c t z,W.heap[b]? = some (.cells c t z):=by
  rcases j with ⟨_,v,a,_⟩ | ⟨_,v,a,_⟩
  ·exact ⟨_,_,_,a⟩
  ·exact ⟨_,_,_,a⟩
 refine ⟨l,fun k o _ d f=>h k o d (fun e=>?_) (fun c m e=>?_)⟩
 ·cases e
  rw [a]at d
  cases d
  cases f
 ·subst e
  cases f
end Go.Proofs.YtonihophanmaaaaGreatDoor
