/- The texts HeadQ, CrA, CrB, CrC, put together. -/
import Derived.BigQuiet
import Derived.Deep.QuietTactic
import Derived.Lib.Strings
import Derived.Outline
import Derived.Test.YtonihophanmaaaaGreatDoorPc05
import Derived.Test.YtonihophanmaaaaGreatDoorPc04
import Derived.Test.YtonihophanmaaaaGreatDoorPc01
import Derived.Test.YtonihophanmaaaaGreatDoorPc03
set_option maxHeartbeats 4000000
set_option maxRecDepth 100000
namespace Go.Proofs.YtonihophanmaaaaGreatDoor
open Go.RowKit Go.Shelf
attribute [local go_sem] zg2 zjR jO zis ju
def zfb (r:zme):Value:=.tuple #[.int .i64 r.maj,.int .i64 r.info,.int .u64 r.arg,.string ⟨r.rest.toArray⟩,.int .i64 r.err]
theorem zjh (b:UInt8):bits BinOp.and IntKind.u8 (b.toNat:Int) 31=((b.toNat % 32:Nat):Int):=by
 have:∀ n:Fin 256,bits BinOp.and IntKind.u8 ((n.val:Nat):Int) 31=((n.val % 32:Nat):Int):=by decide +kernel
 exact this ⟨b.toNat,b.toNat_lt⟩
theorem zeS (w:World) :
  Calls Tryz.prog 143 #[.string ⟨#[]⟩] w fun e w'=>e=.returned (.tuple #[.int .i64 0,.int .i64 0,.int .u64 0,.string ⟨#[]⟩,.int .i64 100])∧Below w.heap.size w w':=by
 go_enter Tryz.func143,Tryz.ntmps143
 go_wp2
 apply jJ 0 rfl
 go_wp2
 go_step3
 simp +zetaDelta only [Exit.then,ju]
 go_wp2
 rw [Exit.noGoto_ret]
 refine bodyPost_ret (v:=.tuple #[.int .i64 0,.int .i64 0,.int .u64 0,.string ⟨#[]⟩,.int .i64 100]) (by simp [results,Tryz.results143,go_sem]) rfl ⟨rfl,Below.refl _ _⟩
theorem zc8 (s:ByteArray) (c:0<s.size) (g:s.size≤9223372036854775807) (maj info:Nat) (d:bits BinOp.and IntKind.u8 (s[0].toNat:Int) 31=(info:Int)) (f:(s[0].toNat:Int) / 32=(maj:Int)) (a:maj≤7) (h:info<24) (b:s.toList.isEmpty=false) (w:World) :
  Calls Tryz.prog 143 #[.string s] w fun e w'=>e=.returned (.tuple #[.int .i64 maj,.int .i64 info,.int .u64 info,.string (s.extract 1 s.size),.int .i64 0])∧Below w.heap.size w w':=by
 go_enter Tryz.func143,Tryz.ntmps143
 go_wp2
 apply jJ 0 rfl
 go_wp2
 go_quiet (fail)
 go_wp2
 rw [jO]
 refine bodyPost_ret (v:=.tuple #[.int .i64 maj,.int .i64 info,.int .u64 info,.string (s.extract 1 s.size),.int .i64 0]) (by simp [results,Tryz.results143,go_sem]) rfl ⟨rfl,Go.below_drewN (Below.refl _ _) _⟩
theorem zdL (s:ByteArray) (c:0<s.size) (g:s.size≤9223372036854775807) (maj:Nat) (d:bits BinOp.and IntKind.u8 (s[0].toNat:Int) 31=31) (f:(s[0].toNat:Int) / 32=(maj:Int)) (a:maj≤7) (b:s.toList.isEmpty=false) (w:World) :
  Calls Tryz.prog 143 #[.string s] w fun e w'=>e=.returned (.tuple #[.int .i64 maj,.int .i64 31,.int .u64 0,.string (s.extract 1 s.size),.int .i64 0])∧Below w.heap.size w w':=by
 go_enter Tryz.func143,Tryz.ntmps143
 go_wp2
 apply jJ 0 rfl
 go_wp2
 go_quiet (fail)
 go_wp2
 rw [jO]
 refine bodyPost_ret (v:=.tuple #[.int .i64 maj,.int .i64 31,.int .u64 0,.string (s.extract 1 s.size),.int .i64 0]) (by simp [results,Tryz.results143,go_sem]) rfl ⟨rfl,Go.below_drewN (Below.refl _ _) _⟩
def qJ (s:ByteArray) (j:Nat):Nat:=xx ((s.data.toList.drop 1).take j)
theorem vc (s:ByteArray):qJ s 0=0:=by simp [qJ,xx]
theorem zcP (s:ByteArray) (j:Nat) (h:j+1<s.size):qJ s (j+1)=qJ s j*256+((s.extract 1 s.size)[j]'(by simp; omega)).toNat:=by
 unfold qJ
 rw [List.take_succ_eq_append_getElem (by simp; omega),zaj]
 congr 2
 simp [ByteArray.getElem_eq_getElem_data,Nat.add_comm]
theorem zkJ (s:ByteArray) (j:Nat) (h:j<s.size):qJ s j<256 ^ j:=by
 induction j with
 | zero=>rw [vc]; decide
 | succ j a =>
  have b:=a (by omega)
  rw [zcP s j (by omega),Nat.pow_succ]
  have c:((s.extract 1 s.size)[j]'(by simp; omega)).toNat<256:=UInt8.toNat_lt _
  omega
theorem wN (s:ByteArray) (j:Nat) (h:j<s.size∧j≤7):qJ s j<72057594037927936:=
 Nat.lt_of_lt_of_le (zkJ s j h.1) (Nat.pow_le_pow_right (by decide) h.2)
theorem zcQ (a:Nat) (b:UInt8) (d:a<72057594037927936):bits BinOp.or IntKind.u64 ((a:Int)*256) (b.toNat:Int)=((a*256+b.toNat:Nat):Int):=by
 have e:=b.toNat_lt
 have c:((a:Int)*256)=((a*256:Nat):Int):=by omega
 rw [c,u64_or_nat _ _ (by omega) (by omega)]
 congr 1
 have:=Nat.shiftLeft_add_eq_or_of_lt (b:=b.toNat) (i:=8) (by omega) a
 rw [Nat.shiftLeft_eq]at this
 rw [← this]
theorem wo (s:ByteArray) (j:Nat) (h:j+1<s.size) (a:j≤7):bits BinOp.or IntKind.u64 ((qJ s j:Int)*256) (((s.extract 1 s.size)[j]'(by simp; omega)).toNat:Int)=(qJ s (j+1):Int):=by
 rw [zcQ _ _ (wN s j ⟨by omega,a⟩),zcP s j h]
def zkF (s:ByteArray) (maj info:Nat) (w:World) (e:Ending) (w':World):Prop:=
 ((info≤27∧2 ^ (info - 24)+1≤s.size∧e=.returned (.tuple #[.int .i64 maj,.int .i64 info,.int .u64 (qJ s (2 ^ (info - 24)):Nat),.string ((s.extract 1 s.size).extract (2 ^ (info - 24)) (s.size - 1)),.int .i64 0])) ∨
 (e=.returned (.tuple #[.int .i64 0,.int .i64 0,.int .u64 0,.string s,.int .i64 100])∧info≤27∧s.size<2 ^ (info - 24)+1) ∨
 (e=.returned (.tuple #[.int .i64 0,.int .i64 0,.int .u64 0,.string s,.int .i64 101])∧27<info))∧Below w.heap.size w w'
theorem zdK (s:ByteArray) (A:0<s.size) (G:s.size≤9223372036854775807) (maj info:Nat) (D:bits BinOp.and IntKind.u8 (s[0].toNat:Int) 31=(info:Int)) (F:(s[0].toNat:Int) / 32=(maj:Int)) (u:maj≤7) (B:24≤info) (C:info≤30) (z:s.toList.isEmpty=false) (w:World) :
  Calls Tryz.prog 143 #[.string s] w (zkF s maj info w):=by
 have H:=znx
 have I:=zny
 have J:=znz
 have K:=znA
 go_enter Tryz.func143,Tryz.ntmps143
 go_wp2
 apply jJ 0 rfl
 go_wp2
 go_quiet (fail)
 go_wp2_with (go_at_call 201; refine (zda _).mono ?_; rintro e L ⟨rfl,r⟩)
 go_loopw [9,10,43] (fun f t i wr=>∃ k:Nat,k≤4∧24+k≤info∧i=.int .i64 k∧f=.int .u64 0∧t=.int .i64 101∧Below w.heap.size w wr) (fun _ _ i _=>4 - (intOf i).toNat)
 case atStart=>exact ⟨0,by omega,by omega,rfl,rfl,rfl,(Go.below_drewN (Below.refl _ _) _).trans r⟩
 case round =>
  obtain ⟨k,E,y,rfl,rfl,rfl,a⟩:=hrel
  by_cases x:k<4
  ·obtain rfl|rfl|rfl|rfl:k=0∨k=1∨k=2∨k=3:=by omega
   all_goals simp only [Int.cast_ofNat_Int]
   ·by_cases c:info=24
    ·have h:((24:Int) != (info:Int))=false:=by rw [bne_eq_false_iff_eq]; omega
     have b:=Lib.hid c
     have m:info≤24:=by omega
     have n:24≤info:=by omega
     clear c
     by_cases d:s.size<1+1
     ·go_wp2
      go_step3
      simp +zetaDelta only [Exit.then,Exit.inBlock,ju]
      go_wp2
      rw [Exit.noGoto_ret]
      refine bodyPost_ret (v:=.tuple #[.int .i64 0,.int .i64 0,.int .u64 0,.string s,.int .i64 100]) (by simp [results,Tryz.results143,go_sem]) rfl ⟨.inr (.inl ⟨rfl,by omega,by rw [b.out]; exact d⟩),a.alloc a.size _⟩
     ·go_wp2
      go_loop [9,57] (fun f i=>∃ j:Nat,j≤1∧i=.int .i64 j∧f=.int .u64 (qJ s j:Nat)) (fun _ i=>1 - (intOf i).toNat)
      case atStart=>exact ⟨0,by omega,rfl,by rw [vc]; rfl⟩
      case round =>
       obtain ⟨j,p,rfl,rfl⟩:=hrel
       by_cases o:j<1
       ·have q:=wN s j (by omega)
        have l:(((s.extract 1 s.size)[j]'(by simp; omega)).toNat:Int)<256:=by have:=((s.extract 1 s.size)[j]'(by simp; omega)).toNat_lt; omega
        have g:=Lib.hid (wo s j (by omega) (by omega))
        go_wp2
        go_round
        case rel=>exact ⟨j+1,by omega,by go_num,by rw [g.out]⟩
        case measure=>simp [intOf]; omega
       ·obtain rfl:j=1:=by omega
        go_wp2
        go_quiet (fail)
        go_wp2
        rw [jO]
        refine bodyPost_ret (v:=.tuple #[.int .i64 maj,.int .i64 info,.int .u64 (qJ s 1:Nat),.string ((s.extract 1 s.size).extract 1 (s.size - 1)),.int .i64 0]) (by simp [results,Tryz.results143,go_sem]) rfl ⟨.inl ⟨by omega,by rw [b.out]; omega,by rw [b.out] <;> rfl⟩,Go.below_drewN (a.alloc a.size _) _⟩
    ·have h:((24:Int) != (info:Int))=true:=by rw [bne_iff_ne]; omega
     go_wp2
     go_roundw
     case rel=>exact ⟨1,by omega,by omega,rfl,rfl,rfl,a.alloc a.size _⟩
     case measure=>simp [intOf]
   ·by_cases c:info=25
    ·have h:((25:Int) != (info:Int))=false:=by rw [bne_eq_false_iff_eq]; omega
     have b:=Lib.hid c
     have m:info≤25:=by omega
     have n:25≤info:=by omega
     clear c
     by_cases d:s.size<2+1
     ·go_wp2
      go_step3
      simp +zetaDelta only [Exit.then,Exit.inBlock,ju]
      go_wp2
      rw [Exit.noGoto_ret]
      refine bodyPost_ret (v:=.tuple #[.int .i64 0,.int .i64 0,.int .u64 0,.string s,.int .i64 100]) (by simp [results,Tryz.results143,go_sem]) rfl ⟨.inr (.inl ⟨rfl,by omega,by rw [b.out]; exact d⟩),a.alloc a.size _⟩
     ·go_wp2
      go_loop [9,57] (fun f i=>∃ j:Nat,j≤2∧i=.int .i64 j∧f=.int .u64 (qJ s j:Nat)) (fun _ i=>2 - (intOf i).toNat)
      case atStart=>exact ⟨0,by omega,rfl,by rw [vc]; rfl⟩
      case round =>
       obtain ⟨j,p,rfl,rfl⟩:=hrel
       by_cases o:j<2
       ·have q:=wN s j (by omega)
        have l:(((s.extract 1 s.size)[j]'(by simp; omega)).toNat:Int)<256:=by have:=((s.extract 1 s.size)[j]'(by simp; omega)).toNat_lt; omega
        have g:=Lib.hid (wo s j (by omega) (by omega))
        go_wp2
        go_round
        case rel=>exact ⟨j+1,by omega,by go_num,by rw [g.out]⟩
        case measure=>simp [intOf]; omega
       ·obtain rfl:j=2:=by omega
        go_wp2
        go_quiet (fail)
        go_wp2
        rw [jO]
        refine bodyPost_ret (v:=.tuple #[.int .i64 maj,.int .i64 info,.int .u64 (qJ s 2:Nat),.string ((s.extract 1 s.size).extract 2 (s.size - 1)),.int .i64 0]) (by simp [results,Tryz.results143,go_sem]) rfl ⟨.inl ⟨by omega,by rw [b.out]; omega,by rw [b.out] <;> rfl⟩,Go.below_drewN (a.alloc a.size _) _⟩
    ·have h:((25:Int) != (info:Int))=true:=by rw [bne_iff_ne]; omega
     go_wp2
     go_roundw
     case rel=>exact ⟨2,by omega,by omega,rfl,rfl,rfl,a.alloc a.size _⟩
     case measure=>simp [intOf]
   ·by_cases c:info=26
    ·have h:((26:Int) != (info:Int))=false:=by rw [bne_eq_false_iff_eq]; omega
     have b:=Lib.hid c
     have m:info≤26:=by omega
     have n:26≤info:=by omega
     clear c
     by_cases d:s.size<4+1
     ·go_wp2
      go_step3
      simp +zetaDelta only [Exit.then,Exit.inBlock,ju]
      go_wp2
      rw [Exit.noGoto_ret]
      refine bodyPost_ret (v:=.tuple #[.int .i64 0,.int .i64 0,.int .u64 0,.string s,.int .i64 100]) (by simp [results,Tryz.results143,go_sem]) rfl ⟨.inr (.inl ⟨rfl,by omega,by rw [b.out]; exact d⟩),a.alloc a.size _⟩
     ·go_wp2
      go_loop [9,57] (fun f i=>∃ j:Nat,j≤4∧i=.int .i64 j∧f=.int .u64 (qJ s j:Nat)) (fun _ i=>4 - (intOf i).toNat)
      case atStart=>exact ⟨0,by omega,rfl,by rw [vc]; rfl⟩
      case round =>
       obtain ⟨j,p,rfl,rfl⟩:=hrel
       by_cases o:j<4
       ·have q:=wN s j (by omega)
        have l:(((s.extract 1 s.size)[j]'(by simp; omega)).toNat:Int)<256:=by have:=((s.extract 1 s.size)[j]'(by simp; omega)).toNat_lt; omega
        have g:=Lib.hid (wo s j (by omega) (by omega))
        go_wp2
        go_round
        case rel=>exact ⟨j+1,by omega,by go_num,by rw [g.out]⟩
        case measure=>simp [intOf]; omega
       ·obtain rfl:j=4:=by omega
        go_wp2
        go_quiet (fail)
        go_wp2
        rw [jO]
        refine bodyPost_ret (v:=.tuple #[.int .i64 maj,.int .i64 info,.int .u64 (qJ s 4:Nat),.string ((s.extract 1 s.size).extract 4 (s.size - 1)),.int .i64 0]) (by simp [results,Tryz.results143,go_sem]) rfl ⟨.inl ⟨by omega,by rw [b.out]; omega,by rw [b.out] <;> rfl⟩,Go.below_drewN (a.alloc a.size _) _⟩
    ·have h:((26:Int) != (info:Int))=true:=by rw [bne_iff_ne]; omega
     go_wp2
     go_roundw
     case rel=>exact ⟨3,by omega,by omega,rfl,rfl,rfl,a.alloc a.size _⟩
     case measure=>simp [intOf]
   ·by_cases c:info=27
    ·have h:((27:Int) != (info:Int))=false:=by rw [bne_eq_false_iff_eq]; omega
     have b:=Lib.hid c
     have m:info≤27:=by omega
     have n:27≤info:=by omega
     clear c
     by_cases d:s.size<8+1
     ·go_wp2
      go_step3
      simp +zetaDelta only [Exit.then,Exit.inBlock,ju]
      go_wp2
      rw [Exit.noGoto_ret]
      refine bodyPost_ret (v:=.tuple #[.int .i64 0,.int .i64 0,.int .u64 0,.string s,.int .i64 100]) (by simp [results,Tryz.results143,go_sem]) rfl ⟨.inr (.inl ⟨rfl,by omega,by rw [b.out]; exact d⟩),a.alloc a.size _⟩
     ·go_wp2
      go_loop [9,57] (fun f i=>∃ j:Nat,j≤8∧i=.int .i64 j∧f=.int .u64 (qJ s j:Nat)) (fun _ i=>8 - (intOf i).toNat)
      case atStart=>exact ⟨0,by omega,rfl,by rw [vc]; rfl⟩
      case round =>
       obtain ⟨j,p,rfl,rfl⟩:=hrel
       by_cases o:j<8
       ·have q:=wN s j (by omega)
        have l:(((s.extract 1 s.size)[j]'(by simp; omega)).toNat:Int)<256:=by have:=((s.extract 1 s.size)[j]'(by simp; omega)).toNat_lt; omega
        have g:=Lib.hid (wo s j (by omega) (by omega))
        go_wp2
        go_round
        case rel=>exact ⟨j+1,by omega,by go_num,by rw [g.out]⟩
        case measure=>simp [intOf]; omega
       ·obtain rfl:j=8:=by omega
        go_wp2
        go_quiet (fail)
        go_wp2
        rw [jO]
        refine bodyPost_ret (v:=.tuple #[.int .i64 maj,.int .i64 info,.int .u64 (qJ s 8:Nat),.string ((s.extract 1 s.size).extract 8 (s.size - 1)),.int .i64 0]) (by simp [results,Tryz.results143,go_sem]) rfl ⟨.inl ⟨by omega,by rw [b.out]; omega,by rw [b.out] <;> rfl⟩,Go.below_drewN (a.alloc a.size _) _⟩
    ·have h:((27:Int) != (info:Int))=true:=by rw [bne_iff_ne]; omega
     go_wp2
     go_roundw
     case rel=>exact ⟨4,by omega,by omega,rfl,rfl,rfl,a.alloc a.size _⟩
     case measure=>simp [intOf]
  ·obtain rfl:k=4:=by omega
   go_wp2
   go_step3
   go_wp2
   rw [jO]
   refine bodyPost_ret (v:=.tuple #[.int .i64 0,.int .i64 0,.int .u64 0,.string s,.int .i64 101]) (by simp [results,Tryz.results143,go_sem]) rfl ⟨.inr (.inr ⟨rfl,by omega⟩),a⟩
theorem zcc (s:ByteArray) (a b:Nat):s.extract a b=⟨((s.data.toList.drop a).take (b - a)).toArray⟩:=by
 apply ByteArray.ext
 apply Array.toList_inj.1
 rw [Lib.extract_data]
theorem zl0 (s:ByteArray) (a:Nat):s.extract a s.size=⟨(s.data.toList.drop a).toArray⟩:=by
 rw [zcc]
 congr 2
 exact List.take_of_length_le (by simp)
theorem zg9 (b:UInt8) (r:List UInt8):xd (b::r) =
  if b.toNat % 32<24 then ⟨b.toNat / 32,b.toNat % 32,b.toNat % 32,r,0⟩
  else if b.toNat % 32=31 then ⟨b.toNat / 32,31,0,r,0⟩
  else if 27<b.toNat % 32 then ⟨0,0,0,b::r,101⟩
  else if r.length<2 ^ (b.toNat % 32 - 24) then ⟨0,0,0,b::r,100⟩
  else ⟨b.toNat / 32,b.toNat % 32,xx (r.take (2 ^ (b.toNat % 32 - 24))),r.drop (2 ^ (b.toNat % 32 - 24)),0⟩:=rfl
theorem zjH (s:ByteArray) (m:s.size≤9223372036854775807) (w:World) :
  Calls Tryz.prog 143 #[.string s] w fun e w'=>e=.returned (zfb (xd s.data.toList))∧Below w.heap.size w w':=by
 by_cases k:0<s.size
 ·obtain ⟨b,r,a⟩:∃ b r,s.data.toList=b::r:=by
   cases h:s.data.toList with
   | nil =>
    have:s.data.toList.length=s.size:=by simp
    rw [h]at this
    simp at this
    omega
   | cons b r=>exact ⟨b,r,rfl⟩
  have y:s.size=r.length+1:=by
   have:s.data.toList.length=s.size:=by simp
   rw [a]at this
   simpa using this.symm
  have i:s[0]=b:=by
   have:s.data.toList[0]? = some b:=by rw [a]; rfl
   rw [ByteArray.getElem_eq_getElem_data]
   have x:s.data[0]? = some b:=by simpa using this
   exact (Array.getElem?_eq_some_iff.1 x).2
  have g:bits BinOp.and IntKind.u8 (s[0].toNat:Int) 31=((b.toNat % 32:Nat):Int):=by rw [i]; exact zjh b
  have l:(s[0].toNat:Int) / 32=((b.toNat / 32:Nat):Int):=by rw [i]; omega
  have q:=b.toNat_lt
  have c:b.toNat / 32≤7:=by omega
  have f:s.toList.isEmpty=false:=by
   rw [ByteArray.toList_eq,a]
   rfl
  have j:s.extract 1 s.size=⟨r.toArray⟩:=by rw [zl0,a]; rfl
  rw [a,zg9]
  by_cases c1:b.toNat % 32<24
  ·refine (zc8 s k m _ _ g l c c1 f w).mono fun e w' h=>?_
   rw [if_pos c1]
   rw [j]at h
   exact h
  ·rw [if_neg c1]
   by_cases c2:b.toNat % 32=31
   ·rw [c2]at g
    refine (zdL s k m _ g l c f w).mono fun e w' h=>?_
    rw [if_pos c2]
    rw [j]at h
    exact h
   ·rw [if_neg c2]
    refine (zdK s k m _ _ g l c (by omega) (by omega) f w).mono fun e w' h=>?_
    have o:(⟨(b::r).toArray⟩:ByteArray)=s:=by rw [← a]
    obtain ⟨h | h | h,n⟩:=h
    ·obtain ⟨d,p,rfl⟩:=h
     rw [if_neg (by omega),if_neg (by omega)]
     refine ⟨?_,n⟩
     have t:(s.extract 1 s.size).extract (2 ^ (b.toNat % 32 - 24)) (s.size - 1)=⟨(r.drop (2 ^ (b.toNat % 32 - 24))).toArray⟩:=by
      rw [j,zcc]
      congr 2
      exact List.take_of_length_le (by simp; omega)
     rw [t]
     have u:qJ s (2 ^ (b.toNat % 32 - 24))=xx (r.take (2 ^ (b.toNat % 32 - 24))):=by
      unfold qJ
      rw [a]
      rfl
     rw [u]
     rfl
    ·obtain ⟨rfl,d,p⟩:=h
     refine ⟨?_,n⟩
     rw [if_neg (by omega),if_pos (by omega)]
     unfold zfb
     rw [o]
     rfl
    ·obtain ⟨rfl,d⟩:=h
     rw [if_pos d]
     refine ⟨?_,n⟩
     unfold zfb
     rw [o]
     rfl
 ·have v:s=⟨#[]⟩:=by
   apply ByteArray.ext
   apply Array.eq_empty_of_size_eq_zero
   have:s.data.size=s.size:=rfl
   omega
  subst v
  exact zeS w
end Go.Proofs.YtonihophanmaaaaGreatDoor
namespace Go.Proofs.YtonihophanmaaaaGreatDoor
def zn1 {α:Type} (p:Psr α) (a:α) (l r:List UInt8):Prop:=
 ∃ own,l=own++r∧(∀ m,p (own++m)=.good a m)∧∀ k,k<own.length→p (own.take k)=.bad 100
def j7 {α:Type} (p:Psr α):Prop:=∀ l a r,p l=.good a r→zn1 p a l r
def kP {α:Type} (p:Psr α):Prop:=p []=.bad 100
theorem jI {α:Type} (a:α):j7 (jC a):=fun l b r h=>by
 unfold jC at h
 injection h with c d
 subst c d
 exact ⟨[],rfl,fun _=>rfl,fun k e=>absurd e (by simp)⟩
theorem xX {α:Type} (e:Int):j7 (wO (α:=α) e):=fun l b r h=>by
 unfold wO at h
 cases h
theorem qD {α β:Type} {p:Psr α} {f:α→Psr β} (t:j7 p) (o:∀ a,j7 (f a)):j7 (zS p f):=fun l b r h=>by
 obtain ⟨a,s,j,n⟩:=qk h
 obtain ⟨d,e,c,u⟩:=t l a s j
 obtain ⟨w,g,i,v⟩:=o a s b r n
 refine ⟨d++w,by rw [e,g,List.append_assoc],fun m=>?_,fun k q=>?_⟩
 ·rw [List.append_assoc,qL (c _),i]
 ·rcases Nat.lt_or_ge k d.length with h | h
  ·rw [List.take_append_of_le_length (by omega),xi (u k h)]
  ·rw [List.take_append,List.take_of_length_le h,qL (c _)]
   rw [List.length_append]at q
   exact v _ (by omega)
theorem vB {α β:Type} {p:Psr α} {f:α→Psr β} (a:kP p):kP (zS p f):=xi a
theorem jz {α:Type} {c:Prop} [Decidable c] {p q:Psr α} (hp:j7 p) (hq:j7 q):j7 (if c then p else q):=by
 split
 ·exact hp
 ·exact hq
theorem zdY {α:Type} {p:Psr α} (c:kP p) {own:List UInt8} {a:α} (h:∀ m,p (own++m)=.good a m):0<own.length:=by
 rcases Nat.eq_zero_or_pos own.length with b | b
 ·have e:=List.eq_nil_of_length_eq_zero b
  subst e
  have:=h []
  rw [List.append_nil]at this
  unfold kP at c
  rw [c]at this
  cases this
 ·exact b
def qm (n:Nat):Psr (List UInt8):=fun l=>if l.length<n then .bad 100 else .good (l.take n) (l.drop n)
theorem zb3 (n:Nat):j7 (qm n):=fun l a r h=>by
 unfold qm at h
 split at h
 ·cases h
 rename_i hn
 injection h with c d
 subst c d
 have b:(l.take n).length=n:=by
  rw [List.length_take]
  omega
 refine ⟨l.take n,(List.take_append_drop n l).symm,fun m=>?_,fun k e=>?_⟩
 ·unfold qm
  rw [if_neg (by rw [List.length_append,b]; omega),List.take_left' b,List.drop_left' b]
 ·unfold qm
  rw [if_pos (by rw [List.length_take,b]; omega)]
def ky {α:Type} (a:α) (p:Psr α):Psr α:=fun l=>match l with
 | []=>p []
 | c::r=>if c=255 then .good a r else p (c::r)
theorem zee {α:Type} {a:α} {p:Psr α} (z:j7 p) (f:kP p):j7 (ky a p):=fun l b r h=>by
 cases l with
 | nil =>
  have h:p []=.good b r:=h
  rw [f]at h
  cases h
 | cons c s =>
  by_cases hc:c=255
  ·subst hc
   have h:PR.good a s=.good b r:=by
    unfold ky at h
    simpa using h
   injection h with v w
   subst v w
   refine ⟨[255],rfl,fun m=>by simp [ky],fun k y=>?_⟩
   have:k=0:=by simpa using y
   subst this
   exact f
  ·have q:p (c::s)=.good b r:=by
    unfold ky at h
    simpa [hc] using h
   obtain ⟨own,e,g,k⟩:=z _ _ _ q
   have u:=zdY f g
   cases own with
   | nil=>simp at u
   | cons d t =>
    have o:d=c:=by injection e with n _; exact n.symm
    subst o
    refine ⟨d::t,e,fun m=>?_,fun j x=>?_⟩
    ·have:=g m
     have i:ky a p (d::(t++m))=p (d::(t++m)):=by
      unfold ky
      simp [hc]
     exact i.trans this
    ·cases j with
     | zero=>exact f
     | succ j =>
      have:=k (j+1) x
      have i:ky a p (d::t.take j)=p (d::t.take j):=by
       unfold ky
       simp [hc]
      exact i.trans this
def zar (e:Nat):Int:=if e=101 then 110 else e
def jT:Psr (Nat×Nat×Nat):=fun l=>if (xd l).err=0 then .good ((xd l).maj,(xd l).info,(xd l).arg) (xd l).rest else .bad (zar (xd l).err)
theorem zaP:kP jT:=rfl
theorem kT (b:UInt8) (r:List UInt8):xd (b::r)=if b.toNat % 32<24 then ⟨b.toNat / 32,b.toNat % 32,b.toNat % 32,r,0⟩
  else if b.toNat % 32=31 then ⟨b.toNat / 32,31,0,r,0⟩
  else if 27<b.toNat % 32 then ⟨0,0,0,b::r,101⟩
  else if r.length<2 ^ (b.toNat % 32 - 24) then ⟨0,0,0,b::r,100⟩
  else ⟨b.toNat / 32,b.toNat % 32,xx (r.take (2 ^ (b.toNat % 32 - 24))),r.drop (2 ^ (b.toNat % 32 - 24)),0⟩:=rfl
theorem vj:j7 jT:=fun l a r h=>by
 cases l with
 | nil=>cases h
 | cons b s =>
  unfold jT at h
  rw [kT]at h
  by_cases c:b.toNat % 32<24
  ·simp only [if_pos c,if_true]at h
   injection h with e f
   subst e f
   refine ⟨[b],rfl,fun m=>?_,fun k g=>?_⟩
   ·show jT (b::m)=_
    unfold jT
    rw [kT]
    simp only [if_pos c,if_true]
   ·have:k=0:=by simpa using g
    subst this
    rfl
  ·by_cases d:b.toNat % 32=31
   ·simp only [if_neg c,if_pos d,if_true]at h
    injection h with e f
    subst e f
    refine ⟨[b],rfl,fun m=>?_,fun k g=>?_⟩
    ·show jT (b::m)=_
     unfold jT
     rw [kT]
     simp only [if_neg c,if_pos d,if_true]
    ·have:k=0:=by simpa using g
     subst this
     rfl
   ·by_cases j:27<b.toNat % 32
    ·simp only [if_neg c,if_neg d,if_pos j]at h
     cases h
    ·simp only [if_neg c,if_neg d,if_neg j]at h
     obtain ⟨x,o⟩:∃ x,2 ^ (b.toNat % 32 - 24)=x:=⟨_,rfl⟩
     rw [o]at h
     by_cases p:s.length<x
     ·simp only [if_pos p]at h
      cases h
     ·simp only [if_neg p,if_true]at h
      injection h with e f
      subst e f
      have i:(s.take x).length=x:=by
       rw [List.length_take]
       omega
      refine ⟨b::s.take x,by rw [List.cons_append,List.take_append_drop],fun m=>?_,fun k g=>?_⟩
      ·show jT (b::(s.take x++m))=_
       unfold jT
       rw [kT]
       simp only [if_neg c,if_neg d,if_neg j,o]
       have n:¬ (s.take x++m).length<x:=by
        rw [List.length_append,i]
        omega
       simp only [if_neg n,if_true]
       rw [List.take_left' i,List.drop_left' i]
      ·cases k with
       | zero=>rfl
       | succ k =>
        show jT (b::(s.take x).take k)=_
        unfold jT
        rw [kT]
        simp only [if_neg c,if_neg d,if_neg j,o]
        have n:((s.take x).take k).length<x:=by
         rw [List.length_take,i]
         rw [List.length_cons,i]at g
         omega
        simp only [if_pos n]
        rfl
end Go.Proofs.YtonihophanmaaaaGreatDoor
namespace Go.Proofs.YtonihophanmaaaaGreatDoor
open Go.RowKit Go.Shelf
def vd (maj:Nat):Psr (List UInt8):=zS jT fun h=>if h.1≠maj∨h.2.1=31 then wO 110 else qm h.2.2
def xz (maj:Nat):Nat→List UInt8→Psr (List UInt8)
 | 0,_=>wO 100
 | f+1,acc=>ky acc (zS (vd maj) fun c=>xz maj f (acc++c))
def kV (F:Nat) (h:Nat×Nat×Nat):Psr (List UInt8):=if h.2.1=31 then xz h.1 F [] else qm h.2.2
def jr (p:Psr Tr):Nat→List Tr→Psr (List Tr)
 | 0,acc=>jC acc
 | n+1,acc=>zS p fun t=>jr p n (acc++[t])
def xc (p:Psr Tr) (size:Nat):Nat→List Tr→Psr (List Tr)
 | 0,_=>wO 100
 | f+1,acc=>ky acc (zS (jr p size acc) fun l=>xc p size f l)
def xB (F:Nat) (p:Psr Tr) (size:Nat) (h:Nat×Nat×Nat):Psr (List Tr):=if h.2.1=31 then xc p size F [] else jr p (size*h.2.2) []
def wl (neg:Bool) (n:Nat):Tr:=.nd { zv with kind:=3,neg:=(ofN neg n).1,dg:=(ofN neg n).2.1,ex:=(ofN neg n).2.2 } []
def kX (u wd:Nat):Tr:=.nd { zv with kind:=4,u:=u,wd:=wd } []
def wH (u:Nat):Tr:=.nd { zv with kind:=10,u:=u } []
def zaM (u:Nat) (t:Tr):Tr:=.nd { zv with kind:=9,u:=u } [t]
def vr (h:Nat×Nat×Nat):Psr Tr:=
 if h.2.1=20∨h.2.1=21 then jC (boolT (decide (h.2.1=21)))
 else if h.2.1=22 then jC zlz
 else if h.2.1=24 then (if h.2.2<32 then wO 110 else jC (wH h.2.2))
 else if h.2.1=25 then jC (kX h.2.2 16)
 else if h.2.1=26 then jC (kX h.2.2 32)
 else if h.2.1=27 then jC (kX h.2.2 64)
 else if h.2.1=31 then wO 110
 else jC (wH h.2.2)
def ql (F:Nat) (p:Psr Tr) (h:Nat×Nat×Nat):Psr Tr:=
 if (h.1<2∨h.1=6)∧h.2.1=31 then wO 110
 else if h.1=0 then jC (wl false h.2.2)
 else if h.1=1 then jC (wl true (h.2.2+1))
 else if h.1=2 then zS (kV F h) fun s=>jC (kU 6 s)
 else if h.1=3 then zS (kV F h) fun s=>jC (kU 5 s)
 else if h.1=4 then zS (xB F p 1 h) fun l=>jC (xM 7 l)
 else if h.1=5 then zS (xB F p 2 h) fun l=>jC (xM 8 l)
 else if h.1=6 then zS p fun t=>jC (zaM h.2.2 t)
 else vr h
def zE (F:Nat):Nat→Psr Tr
 | 0=>fun l=>if l=[] then .bad 100 else .bad 60
 | d+1=>zS jT fun h=>ql F (zE F d) h
theorem zgY (maj:Nat):j7 (vd maj):=qD vj fun _=>jz (xX _) (zb3 _)
theorem zhg (maj:Nat):kP (vd maj):=vB zaP
theorem zbl (maj:Nat):∀ f a,j7 (xz maj f a)
 | 0,_=>xX _
 | f+1,_=>zee (qD (zgY maj) fun _=>zbl maj f _) (vB (zhg maj))
theorem wx (F:Nat) (h:Nat×Nat×Nat):j7 (kV F h):=jz (zbl _ _ _) (zb3 _)
theorem yE {p:Psr Tr} (b:j7 p):∀ n a,j7 (jr p n a)
 | 0,_=>jI _
 | n+1,_=>qD b fun _=>yE b n _
theorem zcf {p:Psr Tr} (b:kP p) (n:Nat) (a:List Tr):kP (jr p (n+1) a):=vB b
theorem zc5 {p:Psr Tr} (b:j7 p) (c:kP p) (size:Nat):∀ f a,j7 (xc p (size+1) f a)
 | 0,_=>xX _
 | f+1,_=>zee (qD (yE b _ _) fun l=>zc5 b c size f l) (vB (zcf c _ _))
theorem zc4 {p:Psr Tr} (a:j7 p) (b:kP p) (F size:Nat) (h:Nat×Nat×Nat):j7 (xB F p (size+1) h):=jz (zc5 a b _ _ _) (yE a _ _)
theorem zgZ (h:Nat×Nat×Nat):j7 (vr h):=
 jz (jI _) (jz (jI _) (jz (jz (xX _) (jI _)) (jz (jI _) (jz (jI _) (jz (jI _) (jz (xX _) (jI _)))))))
theorem zig {p:Psr Tr} (a:j7 p) (b:kP p) (F:Nat) (h:Nat×Nat×Nat):j7 (ql F p h):=
 jz (xX _) (jz (jI _) (jz (jI _) (jz (qD (wx _ _) fun _=>jI _) (jz (qD (wx _ _) fun _=>jI _)
  (jz (qD (zc4 a b _ _ _) fun _=>jI _) (jz (qD (zc4 a b _ _ _) fun _=>jI _) (jz (qD a fun _=>jI _) (zgZ _))))))))
theorem wD (F d:Nat):kP (zE F d):=by
 cases d with
 | zero=>rfl
 | succ d=>exact vB zaP
theorem ww (F:Nat):∀ d,j7 (zE F d)
 | 0=>fun l a r h=>by
  unfold zE at h
  split at h <;> cases h
 | d+1=>qD vj fun h=>zig (ww F d) (wD F d) F h
end Go.Proofs.YtonihophanmaaaaGreatDoor
