/- The texts GateL, GateD, GateE, GateF, put together. -/
import Derived.Test.YtonihophanmaaaaGreatDoorPc09
import Derived.Test.YtonihophanmaaaaGreatDoorPc03
import Derived.Test.YtonihophanmaaaaGreatDoorPc07
import Derived.Lib.AsciiSet
import Derived.BigQuiet
import Derived.Deep.QuietTactic
import Derived.Deep.RegionHeld3
set_option maxHeartbeats 4000000
set_option maxRecDepth 100000
namespace Go.Proofs.YtonihophanmaaaaGreatDoor
open Go.RowKit Go.Shelf
def zhS (a:Bool) (w:World) (e:Ending) (w':World):Prop:=∃ r:Int,e=.returned (.int .i64 r)∧(0≤r↔a=true)∧Below w.heap.size w w'
theorem zg0 (p:Tr→Bool) (H:Nat) (l:List Tr) (A:Option Addr) (n c:Nat) (w:World) (B d:Nat) (E:zq w B d l (.slice A n c)) (hB:B≤w.heap.size) (hn:l.length=n)
  (N:∀ (k:Nat) (h:k<l.length) (x:Value) (W:World),Below w.heap.size w W→zq W B d l[k].kids x→zt l[k].own→Calls Tryz.prog 176 #[ze l[k].own x,.pointer (some ⟨H,0,none⟩)] W fun e W'=>e=.returned (.bool (p l[k]))∧Below W.heap.size W W') :
  Calls Tryz.prog 103 #[.slice A n c,.func (.func 176) #[] #[.pointer (some ⟨H,0,none⟩)]] w (zhS (l.any p) w):=by
 obtain ⟨ans,g⟩:∃ ans,l.any p=ans:=⟨_,rfl⟩
 rw [g]
 have HL:=Lib.hid E
 have HP:=Lib.hid N
 have G:=Lib.hid hn
 have H0:=Lib.hid (show (l.drop 0).any p=ans by rw [List.drop_zero]; exact g)
 have F:=E.slice.1
 rw [hn]at F
 clear E N hn g
 go_enter Tryz.func103,Tryz.ntmps103
 go_wp2_with fail
 go_loopw [8] (fun i wr=>∃ k:Nat,k≤n∧i=.int .i64 k∧Below w.heap.size w wr∧Hid ((l.drop k).any p=ans)) (fun i _=>n - (intOf i).toNat)
 case atStart=>exact ⟨0,by omega,rfl,Below.refl _ _,H0⟩
 case round =>
  obtain ⟨k,hk,rfl,a,O⟩:=hrel
  by_cases K:k<n
  ·have q:k<l.length:=by rw [G.out]; exact K
   have m:=O.out
   rw [List.drop_eq_getElem_cons q,List.any_cons]at m
   obtain ⟨d1,ad,x1,J,rfl,ah,C,r,j⟩:=(HL.out.below a hB).at_ q
   obtain ⟨_,Z,c2,rfl⟩:=j.slice
   obtain ⟨n2,z⟩:∃ n2,l[k].kids.length=n2:=⟨_,rfl⟩
   rw [z]at r j
   have f:=HP.out k q (.slice Z n2 c2) wr a (j.deeper (by omega)) C
   obtain ⟨b1,v⟩:∃ b1,p l[k]=b1:=⟨_,rfl⟩
   rw [v]at f m
   have y1:(k:Int)<n:=by omega
   obtain ⟨⟨kind,b,neg,dg,ex,u,wd,s⟩,M⟩:∃ o,l[k].own=o:=⟨_,rfl⟩
   rw [M]at f r
   unfold ze at f
   obtain ⟨P,Q,R,S,T,U,V,X,Y⟩:=r
   simp only []at P Q R S T U V X Y f
   have f:=Lib.hid f
   have t:=Lib.hid m
   clear m v M j C J z
   go_wp2_with fail
   refine f.out.mono ?_
   rintro e w2 ⟨rfl,I⟩
   have y:=a.trans (I.mono a.size)
   clear I a f P Q R S T U V X Y
   cases b1 with
   | true =>
    have D:ans=true:=by rw [← t.out,Bool.true_or]
    subst D
    go_wp2_with fail
    go_ret
    exact ⟨_,rfl,iff_of_true (by omega) rfl,y⟩
   | false =>
    have L:Hid ((l.drop (k+1)).any p=ans):=Lib.hid (by have:=t.out; rw [Bool.false_or]at this; exact this)
    go_wp2_with fail
    go_roundw
    case rel=>exact ⟨k+1,by omega,by go_num,y,L⟩
    case measure=>simp [intOf]; omega
  ·obtain rfl:k=n:=by omega
   have y1:¬ (k:Int)<k:=by omega
   have D:ans=false:=by
    rw [← O.out,List.drop_eq_nil_of_le (by rw [G.out]; exact Nat.le_refl _)]
    rfl
   subst D
   go_wp2_with fail
   go_ret
   exact ⟨-1,rfl,iff_of_false (by omega) (by decide),a⟩
theorem zdH (p:Tr→Bool) (f:Nat) (l:List Tr) (A:Option Addr) (n c:Nat) (w:World) (B d:Nat) (j:zq w B d l (.slice A n c)) (t:B≤w.heap.size) (hn:l.length=n)
  (m:∀ (k:Nat) (h:k<l.length) (x:Value) (W:World),Below w.heap.size w W→zq W B d l[k].kids x→zt l[k].own→Calls Tryz.prog 176 #[ze l[k].own x,.pointer (some ⟨f,0,none⟩)] W fun e o=>e=.returned (.bool (p l[k]))∧Below W.heap.size W o) :
  Calls Tryz.prog 65 #[.slice A n c,.func (.func 176) #[] #[.pointer (some ⟨f,0,none⟩)]] w fun e w'=>e=.returned (.bool (l.any p))∧Below w.heap.size w w':=by
 have g:=Lib.hid (zg0 p f l A n c w B d j t hn m)
 obtain ⟨ans,a⟩:∃ ans,l.any p=ans:=⟨_,rfl⟩
 rw [a]at g ⊢
 clear j m hn a
 go_enter Tryz.func65,Tryz.ntmps65
 go_wp2_with fail
 refine g.out.mono ?_
 rintro e v ⟨r,rfl,b,i⟩
 cases ans with
 | true =>
  have q:(0:Int)≤r:=b.2 rfl
  clear b
  go_wp2_with fail
  go_ret
  exact ⟨rfl,i⟩
 | false =>
  have q:r<0:=by
   by_cases h:(0:Int)≤r
   ·exact absurd (b.1 h) (by decide)
   ·omega
  have s:¬ (0:Int)≤r:=by omega
  have u:decide ((0:Int)≤r)=false:=decide_eq_false s
  clear b
  go_wp2_with fail
  go_ret
  exact ⟨rfl,i⟩
theorem zin (p:Tr→Bool) (H:Nat) (l:List Tr) (A:Option Addr) (n c:Nat) (w:World) (B d:Nat) (E:zq w B d l (.slice A n c)) (hB:B≤w.heap.size) (hn:l.length=n)
  (N:∀ (k:Nat) (h:k<l.length) (x:Value) (W:World),Below w.heap.size w W→zq W B d l[k].kids x→zt l[k].own→Calls Tryz.prog 85 #[ze l[k].own x,.pointer (some ⟨H,0,none⟩)] W fun e W'=>e=.returned (.bool (p l[k]))∧Below W.heap.size W W') :
  Calls Tryz.prog 103 #[.slice A n c,.func (.func 85) #[] #[.pointer (some ⟨H,0,none⟩)]] w (zhS (l.any p) w):=by
 obtain ⟨ans,g⟩:∃ ans,l.any p=ans:=⟨_,rfl⟩
 rw [g]
 have HL:=Lib.hid E
 have HP:=Lib.hid N
 have G:=Lib.hid hn
 have H0:=Lib.hid (show (l.drop 0).any p=ans by rw [List.drop_zero]; exact g)
 have F:=E.slice.1
 rw [hn]at F
 clear E N hn g
 go_enter Tryz.func103,Tryz.ntmps103
 go_wp2_with fail
 go_loopw [8] (fun i wr=>∃ k:Nat,k≤n∧i=.int .i64 k∧Below w.heap.size w wr∧Hid ((l.drop k).any p=ans)) (fun i _=>n - (intOf i).toNat)
 case atStart=>exact ⟨0,by omega,rfl,Below.refl _ _,H0⟩
 case round =>
  obtain ⟨k,hk,rfl,a,O⟩:=hrel
  by_cases K:k<n
  ·have q:k<l.length:=by rw [G.out]; exact K
   have m:=O.out
   rw [List.drop_eq_getElem_cons q,List.any_cons]at m
   obtain ⟨d1,ad,x1,J,rfl,ah,C,r,j⟩:=(HL.out.below a hB).at_ q
   obtain ⟨_,Z,c2,rfl⟩:=j.slice
   obtain ⟨n2,z⟩:∃ n2,l[k].kids.length=n2:=⟨_,rfl⟩
   rw [z]at r j
   have f:=HP.out k q (.slice Z n2 c2) wr a (j.deeper (by omega)) C
   obtain ⟨b1,v⟩:∃ b1,p l[k]=b1:=⟨_,rfl⟩
   rw [v]at f m
   have y1:(k:Int)<n:=by omega
   obtain ⟨⟨kind,b,neg,dg,ex,u,wd,s⟩,M⟩:∃ o,l[k].own=o:=⟨_,rfl⟩
   rw [M]at f r
   unfold ze at f
   obtain ⟨P,Q,R,S,T,U,V,X,Y⟩:=r
   simp only []at P Q R S T U V X Y f
   have f:=Lib.hid f
   have t:=Lib.hid m
   clear m v M j C J z
   go_wp2_with fail
   refine f.out.mono ?_
   rintro e w2 ⟨rfl,I⟩
   have y:=a.trans (I.mono a.size)
   clear I a f P Q R S T U V X Y
   cases b1 with
   | true =>
    have D:ans=true:=by rw [← t.out,Bool.true_or]
    subst D
    go_wp2_with fail
    go_ret
    exact ⟨_,rfl,iff_of_true (by omega) rfl,y⟩
   | false =>
    have L:Hid ((l.drop (k+1)).any p=ans):=Lib.hid (by have:=t.out; rw [Bool.false_or]at this; exact this)
    go_wp2_with fail
    go_roundw
    case rel=>exact ⟨k+1,by omega,by go_num,y,L⟩
    case measure=>simp [intOf]; omega
  ·obtain rfl:k=n:=by omega
   have y1:¬ (k:Int)<k:=by omega
   have D:ans=false:=by
    rw [← O.out,List.drop_eq_nil_of_le (by rw [G.out]; exact Nat.le_refl _)]
    rfl
   subst D
   go_wp2_with fail
   go_ret
   exact ⟨-1,rfl,iff_of_false (by omega) (by decide),a⟩
theorem zaS (p:Tr→Bool) (f:Nat) (l:List Tr) (A:Option Addr) (n c:Nat) (w:World) (B d:Nat) (j:zq w B d l (.slice A n c)) (t:B≤w.heap.size) (hn:l.length=n)
  (m:∀ (k:Nat) (h:k<l.length) (x:Value) (W:World),Below w.heap.size w W→zq W B d l[k].kids x→zt l[k].own→Calls Tryz.prog 85 #[ze l[k].own x,.pointer (some ⟨f,0,none⟩)] W fun e o=>e=.returned (.bool (p l[k]))∧Below W.heap.size W o) :
  Calls Tryz.prog 65 #[.slice A n c,.func (.func 85) #[] #[.pointer (some ⟨f,0,none⟩)]] w fun e w'=>e=.returned (.bool (l.any p))∧Below w.heap.size w w':=by
 have g:=Lib.hid (zin p f l A n c w B d j t hn m)
 obtain ⟨ans,a⟩:∃ ans,l.any p=ans:=⟨_,rfl⟩
 rw [a]at g ⊢
 clear j m hn a
 go_enter Tryz.func65,Tryz.ntmps65
 go_wp2_with fail
 refine g.out.mono ?_
 rintro e v ⟨r,rfl,b,i⟩
 cases ans with
 | true =>
  have q:(0:Int)≤r:=b.2 rfl
  clear b
  go_wp2_with fail
  go_ret
  exact ⟨rfl,i⟩
 | false =>
  have q:r<0:=by
   by_cases h:(0:Int)≤r
   ·exact absurd (b.1 h) (by decide)
   ·omega
  have s:¬ (0:Int)≤r:=by omega
  have u:decide ((0:Int)≤r)=false:=decide_eq_false s
  clear b
  go_wp2_with fail
  go_ret
  exact ⟨rfl,i⟩
def vg:List UInt8:=[48,49,50,51,52,53,54,55,56,57]
theorem zk4 (x:UInt8):vg.contains x=zy x:=by
 have h:∀ m:Fin 256,vg.contains (UInt8.ofNat m.val)=zy (UInt8.ofNat m.val):=by decide +kernel
 have:=h ⟨x.toNat,x.toNat_lt⟩
 simpa using this
def jK (l:List UInt8):List UInt8:=(l.reverse.dropWhile zy).reverse
theorem zkl (l:List UInt8) (c:UInt8) (h:zy c=true):jK (l++[c])=jK l:=by
 unfold jK
 rw [List.reverse_append]
 show (List.dropWhile zy (c::l.reverse)).reverse=_
 rw [List.dropWhile_cons_of_pos h]
theorem zlQ (l:List UInt8) (c:UInt8) (h:zy c=false):jK (l++[c])=l++[c]:=by
 unfold jK
 rw [List.reverse_append]
 show (List.dropWhile zy (c::l.reverse)).reverse=_
 rw [List.dropWhile_cons_of_neg (by rw [h]; decide)]
 simp
theorem ziP (l:List UInt8):jK l=[]∨∃ k c,jK l=k++[c]∧zy c=false:=by
 unfold jK
 cases h:l.reverse.dropWhile zy with
 | nil=>exact .inl rfl
 | cons c r =>
  refine .inr ⟨r.reverse,c,by simp,?_⟩
  have:=List.head?_dropWhile_not zy l.reverse
  rw [h]at this
  simpa using this
theorem drop_nil:∀ l:List UInt8,l.dropWhile zy=[]↔∀ c∈l,zy c=true
 | []=>by simp
 | c::l=>by
  cases h:zy c with
  | true =>
   rw [List.dropWhile_cons_of_pos h,drop_nil l]
   simp [h]
  | false =>
   rw [List.dropWhile_cons_of_neg (by rw [h]; decide)]
   simp [h]
theorem zkk (l:List UInt8):jK l=[]↔l.all zy=true:=by
 unfold jK
 rw [List.reverse_eq_nil_iff,drop_nil]
 simp [List.all_eq_true]
theorem zl3 (l:List UInt8):((jK l).dropWhile zy=[])↔l.all zy=true:=by
 rw [← zkk]
 constructor
 ·intro h
  rcases ziP l with a | ⟨k,c,b,d⟩
  ·exact a
  ·exfalso
   rw [b,drop_nil]at h
   have:=h c (by simp)
   rw [d]at this
   cases this
 ·intro h
  rw [h]
  rfl
def ziV:Value→Nat
 | .string s=>s.size
 | _=>0
theorem zl2 (t:ByteArray) (n:Nat) (h:t.size=n+1):t.data.toList=(t.extract 0 n).data.toList++[t[n]'(by omega)]:=by
 have e:(t.extract 0 n).data.toList=t.data.toList.take n:=by
  rw [ByteArray.data_extract,Array.toList_extract]
  simp [List.extract]
 rw [e]
 have a:t.data.toList.length=n+1:=by simpa using h
 conv=>lhs; rw [← List.take_of_length_le (l:=t.data.toList) (Nat.le_of_eq a)]
 rw [List.take_succ_eq_append_getElem (by omega)]
 simp [ByteArray.getElem_eq_getElem_data]
theorem zl1 (t:ByteArray) (h:0<t.size):t.data.toList=t[0]::(t.extract 1 t.size).data.toList:=by
 rw [zbh]
 have a:t.data.toList.length=t.size:=by simp
 conv=>lhs; rw [← List.drop_zero (l:=t.data.toList),List.drop_eq_getElem_cons (by omega)]
 simp [ByteArray.getElem_eq_getElem_data]
theorem zcD (s:ByteArray) (b:Nat) (w:World) (D:s.size≤9223372036854775807) (hc:∀ x:UInt8,w.cell? ⟨b,x.toNat,none⟩=some (.bool (zy x))) :
  Calls Tryz.prog 249 #[.string s,.pointer (some ⟨b,0,none⟩)] w fun e A=>e=.returned (.string ⟨(jK s.data.toList).toArray⟩)∧A=w:=by
 have q:=Lib.hid hc
 obtain ⟨r,m⟩:∃ r,jK s.data.toList=r:=⟨_,rfl⟩
 rw [m]
 have y:=Lib.hid m
 clear hc m
 go_enter Tryz.func249,Tryz.ntmps249
 go_wp2_with fail
 go_loop [0] (fun v=>∃ t:ByteArray,v=.string t∧t.size≤s.size∧Hid (jK t.data.toList=r)) (fun v=>ziV v)
 case atStart=>exact ⟨s,rfl,Nat.le_refl _,y⟩
 case round =>
  obtain ⟨t,rfl,C,d⟩:=hrel
  by_cases o:t.size=0
  ·have z:=wa o
   subst z
   have p:r=[]:=by rw [← d.out]; rfl
   subst p
   clear d o
   go_wp2_with fail
   go_ret
   exact ⟨rfl,rfl⟩
  ·obtain ⟨n,hn⟩:∃ n,t.size=n+1:=⟨t.size - 1,by omega⟩
   have i:=zl2 t n hn
   have B:t.size - 1<t.size:=by omega
   have a:t[t.size - 1]=t[n]'(by omega):=by congr 1; omega
   have F:(0:Int)<t.size:=by omega
   have G:(1:Int)≤t.size∧(t.size:Int) - 1<t.size∧(t.size:Int)≤9223372036854775807:=by omega
   obtain ⟨c,j⟩:∃ c,t[t.size - 1]=c:=⟨_,rfl⟩
   have g:Hid (zy c=true→jK t.data.toList=jK (t.extract 0 n).data.toList):=Lib.hid (fun h=>by
    rw [i,← a,j]
    exact zkl _ _ h)
   have f:Hid (zy c=false→jK t.data.toList=t.data.toList):=Lib.hid (fun h=>by
    rw [i,← a,j]
    exact zlQ _ _ h)
   have k:=Lib.hid (Tryz.asciiSet_contains b c (zy c) w (q.out c))
   have u:=Lib.hid hn
   clear i a hn
   go_wp2_with fail
   refine k.out.mono ?_
   rintro e E ⟨rfl,rfl⟩
   cases hd:zy c with
   | true =>
    rw [hd]at g
    clear hd k f
    go_wp2_with fail
    go_round
    case rel =>
     refine ⟨t.extract 0 (t.size - 1),rfl,?_,Lib.hid ?_⟩
     ·rw [ByteArray.size_extract]
      omega
     ·rw [show t.size - 1=n by have:=u.out; omega,← g.out trivial]
      exact d.out
    case measure =>
     simp only [ziV,ByteArray.size_extract]
     omega
   | false =>
    rw [hd]at f
    clear hd k g
    go_wp2_with fail
    go_ret
    exact ⟨congrArg (fun l:List UInt8=>Ending.returned (.string ⟨l.toArray⟩)) (show t.data.toList=r from by rw [← d.out,f.out trivial]),rfl⟩
theorem zdx (s:ByteArray) (b:Nat) (w:World) (A:s.size≤9223372036854775807) (hc:∀ x:UInt8,w.cell? ⟨b,x.toNat,none⟩=some (.bool (zy x))) :
  Calls Tryz.prog 248 #[.string s,.pointer (some ⟨b,0,none⟩)] w fun e y=>e=.returned (.string ⟨(s.data.toList.dropWhile zy).toArray⟩)∧y=w:=by
 have p:=Lib.hid hc
 obtain ⟨r,j⟩:∃ r,s.data.toList.dropWhile zy=r:=⟨_,rfl⟩
 rw [j]
 have q:=Lib.hid j
 clear hc j
 go_enter Tryz.func248,Tryz.ntmps248
 go_wp2_with fail
 go_loop [0] (fun v=>∃ t:ByteArray,v=.string t∧t.size≤s.size∧Hid (t.data.toList.dropWhile zy=r)) (fun v=>ziV v)
 case atStart=>exact ⟨s,rfl,Nat.le_refl _,q⟩
 case round =>
  obtain ⟨t,rfl,z,d⟩:=hrel
  by_cases k:t.size=0
  ·have u:=wa k
   subst u
   have o:r=[]:=by rw [← d.out]; rfl
   subst o
   clear d k
   go_wp2_with fail
   go_ret
   exact ⟨rfl,rfl⟩
  ·have n:0<t.size:=by omega
   have a:=zl1 t n
   have C:(0:Int)<t.size:=by omega
   have D:(1:Int)≤t.size∧(t.size:Int)≤9223372036854775807:=by omega
   obtain ⟨c,m⟩:∃ c,t[0]=c:=⟨_,rfl⟩
   rw [m]at a
   have g:Hid (zy c=true→t.data.toList.dropWhile zy=(t.extract 1 t.size).data.toList.dropWhile zy):=Lib.hid (fun h=>by
    rw [a]
    exact List.dropWhile_cons_of_pos h)
   have f:Hid (zy c=false→t.data.toList.dropWhile zy=t.data.toList):=Lib.hid (fun h=>by
    rw [a]
    exact List.dropWhile_cons_of_neg (by rw [h]; decide))
   have i:=Lib.hid (Tryz.asciiSet_contains b c (zy c) w (p.out c))
   clear a
   go_wp2_with fail
   refine i.out.mono ?_
   rintro e B ⟨rfl,rfl⟩
   cases hd:zy c with
   | true =>
    rw [hd]at g
    clear hd i f
    go_wp2_with fail
    go_round
    case rel =>
     refine ⟨t.extract 1 t.size,rfl,?_,Lib.hid ?_⟩
     ·rw [ByteArray.size_extract]
      omega
     ·rw [← g.out trivial]
      exact d.out
    case measure =>
     simp only [ziV,ByteArray.size_extract]
     omega
   | false =>
    rw [hd]at f
    clear hd i g
    go_wp2_with fail
    go_ret
    exact ⟨congrArg (fun l:List UInt8=>Ending.returned (.string ⟨l.toArray⟩)) (show t.data.toList=r from by rw [← d.out,f.out trivial]),rfl⟩
theorem zlU:∀ w,(zeroValue 279).run Tryz.prog w=.ok (.agg (Array.replicate 256 (.bool false))) w:=fun w=>by kernel_rfl
theorem zlT:(Tryz.prog.info? 279).map (·.size)=some 256:=by kernel_rfl
theorem ziQ (s:ByteArray):(⟨(jK s.data.toList).toArray⟩:ByteArray).size≤s.size:=by
 show (jK s.data.toList).toArray.size≤_
 unfold jK
 rw [List.size_toArray,List.length_reverse]
 refine Nat.le_trans (List.dropWhile_suffix _).length_le ?_
 simp
theorem zhe (s:ByteArray) (w:World) (y:s.size≤9223372036854775807) (K:0<s.size) :
  Calls Tryz.prog 214 #[.string s,.string ⟨#[48,49,50,51,52,53,54,55,56,57]⟩] w fun e w'=>e=.returned (.string ⟨((jK s.data.toList).dropWhile zy).toArray⟩)∧Below w.heap.size w w':=by
 have k:=Lib.hid (Tryz.strings_makeASCIISet zlU ⟨#[48,49,50,51,52,53,54,55,56,57]⟩ w (by decide) (by
  intro j b H
  have I:=List.mem_of_getElem? H
  have:∀ x∈vg,x.toNat<128:=by decide
  exact this b I))
 have d:∀ x:UInt8,(Lib.setCells vg)[x.toNat]? = some (.bool (zy x)):=fun x=>by rw [Lib.setCells_at,zk4]
 have i:(Lib.setCells vg).size=256:=Lib.setCells_size _
 have a:(Lib.setCells vg).all (·.oneCell')=true:=by decide +kernel
 have k:Hid (Calls Tryz.prog 247 #[.string ⟨#[48,49,50,51,52,53,54,55,56,57]⟩] w fun e w'=>e=.returned (.tuple #[.agg (Lib.setCells vg),.bool true])∧w'=w.alloc (.cells (Lib.setCells vg) 279)):=k
 obtain ⟨S,D⟩:∃ S,Lib.setCells vg=S:=⟨_,rfl⟩
 rw [D]at k d i a
 clear D
 have z:=Lib.hid d
 have n:=Lib.hid i
 have v:=Lib.hid a
 have B:=Lib.hid (fun b w hc=>zcD s b w y hc)
 have A:=Lib.hid (fun b w hc=>zdx ⟨(jK s.data.toList).toArray⟩ b w (Nat.le_trans (ziQ s) y) hc)
 have F:s.toList=[]→False:=fun h=>by
  rw [ByteArray.toList_eq]at h
  have L:s.data.toList.length=0:=by rw [h]; rfl
  have M:s.data.toList.length=s.size:=by simp
  omega
 have G:(!s.toList.isEmpty)=true:=by
  cases h:s.toList with
  | nil=>exact absurd h F
  | cons c r=>rfl
 have O:s.toList.isEmpty=false:=by simpa using G
 clear G
 obtain ⟨r1,t⟩:∃ r1:ByteArray,(⟨(jK s.data.toList).toArray⟩:ByteArray)=r1:=⟨_,rfl⟩
 obtain ⟨r2,g⟩:∃ r2:ByteArray,(⟨((jK s.data.toList).dropWhile zy).toArray⟩:ByteArray)=r2:=⟨_,rfl⟩
 simp only [t,g]at B A
 rw [g]
 clear d i a t g F y
 go_enter Tryz.func214,Tryz.ntmps214
 go_wp2_with fail
 refine k.out.mono ?_
 rintro e w1 ⟨rfl,u⟩
 have f:Below w.heap.size w w1:=by
  rw [u]
  exact (Below.refl _ _).alloc (Nat.le_refl _) _
 clear u
 have o:(w1.alloc (.cells Tryz.zeroCells279 279)).heap[w1.heap.size]? = some (.cells Tryz.zeroCells279 279 (0,0)):=World.alloc_heap_new w1 _
 have l:=Lib.hid o
 have C:=Lib.hid (show Tryz.zeroCells279.size=S.size by rw [n.out]; kernel_rfl)
 clear o
 go_wp2_with (refine wpList_store_row rfl 279 (.tmp 5) (.tmp 32) rfl w1.heap.size S rfl rfl 279 _ l.out (by rw [n.out]; exact zlT) C.out v.out ?_)
 have E:Below w.heap.size w ((w1.alloc (.cells Tryz.zeroCells279 279)).setRow w1.heap.size S):=
  (f.alloc f.size _).trans ⟨rfl,rfl,rfl,by simp,fun q N=>setRow_other _ _ _ _ (by have:=f.size; omega)⟩
 have p:∀ x:UInt8,((w1.alloc (.cells Tryz.zeroCells279 279)).setRow w1.heap.size S).cell? ⟨w1.heap.size,x.toNat,none⟩=some (.bool (zy x)):=fun x=>by
  have:=setRow_heap _ _ _ S _ _ l.out
  simp only [World.cell?,this]
  simpa using z.out x
 have m:=Lib.hid p
 clear p
 refine (B.out _ _ m.out).mono ?_
 rintro e J ⟨rfl,rfl⟩
 go_wp2_with fail
 refine (A.out _ _ m.out).mono ?_
 rintro e J ⟨rfl,rfl⟩
 go_wp2_with fail
 go_ret
 exact ⟨rfl,E⟩
theorem wA {s:ByteArray}:s.toList.isEmpty=decide (s.size=0):=by
 rw [ByteArray.toList_eq]
 by_cases h:s.size=0
 ·have:=wa h
  subst this
  rfl
 ·rw [decide_eq_false h]
  cases hl:s.data.toList with
  | nil =>
   exfalso
   apply h
   have:s.data.toList.length=s.size:=by simp
   rw [← this,hl]
   rfl
  | cons c r=>rfl
theorem zbu (s:ByteArray) (z:s.size≤9223372036854775807) (w:World) :
  Calls Tryz.prog 172 #[.string s] w fun e w'=>e=.returned (.bool (qR s))∧Below w.heap.size w w':=by
 obtain ⟨ans,a⟩:∃ ans,qR s=ans:=⟨_,rfl⟩
 rw [a]
 unfold qR at a
 by_cases p:1≤s.size
 case neg =>
  have A:s.toList.isEmpty=true:=by rw [wA]; exact decide_eq_true (by omega)
  rw [decide_eq_false p,Bool.false_and]at a
  subst a
  go_enter Tryz.func172,Tryz.ntmps172
  go_wp2_with fail
  go_ret
  exact ⟨rfl,Below.refl _ _⟩
 have A:s.toList.isEmpty=false:=by rw [wA]; exact decide_eq_false (by omega)
 have E:(0:Int)<s.size:=by omega
 have j:0<s.size:=by omega
 rw [decide_eq_true p,Bool.true_and]at a
 by_cases q:s.size≤400
 case neg =>
  have B:(400:Int)<s.size:=by omega
  rw [decide_eq_false q,Bool.false_and]at a
  subst a
  go_enter Tryz.func172,Tryz.ntmps172
  go_wp2_with fail
  go_ret
  exact ⟨rfl,Below.refl _ _⟩
 have B:¬ (400:Int)<s.size:=by omega
 rw [decide_eq_true q,Bool.true_and,zfL s j]at a
 obtain ⟨c,t⟩:∃ c,s[0]'j=c:=⟨_,rfl⟩
 rw [t]at a
 have m:∃ cn:Nat,c.toNat=cn:=⟨_,rfl⟩
 obtain ⟨cn,u⟩:=m
 have l:decide (some c=some (48:UInt8))=decide (cn=48):=by
  rw [decide_eq_decide,Option.some.injEq,← u]
  exact ⟨fun h=>by rw [h]; rfl,fun h=>UInt8.toNat_inj.1 h⟩
 rw [l]at a
 clear l
 by_cases d:1<s.size∧cn=48
 case pos =>
  have x:(1:Int)<s.size:=by omega
  have o:((cn:Int) == 48)=true:=by rw [beq_iff_eq]; omega
  rw [decide_eq_true d.1,decide_eq_true d.2]at a
  subst a
  clear d
  go_enter Tryz.func172,Tryz.ntmps172
  go_wp2_with fail
  go_ret
  exact ⟨rfl,Below.refl _ _⟩
 have i:ans=s.data.toList.all zy:=by
  rw [← a]
  have:(decide (1<s.size) && decide (cn=48))=false:=by
   rw [Bool.and_eq_false_iff,decide_eq_false_iff_not,decide_eq_false_iff_not]
   omega
  rw [this]
  rfl
 have k:=Lib.hid (zhe s w z (by omega))
 obtain ⟨r,n⟩:∃ r:ByteArray,(⟨((jK s.data.toList).dropWhile zy).toArray⟩:ByteArray)=r:=⟨_,rfl⟩
 have b:r.toList.isEmpty=ans:=by
  rw [i,Bool.eq_iff_iff,← zl3,ByteArray.toList_eq,← n]
  simp
 rw [n]at k
 clear n i a
 have f:=Lib.hid b
 clear b
 by_cases D:1<s.size
 ·have x:(1:Int)<s.size:=by omega
  have o:((cn:Int) == 48)=false:=by rw [beq_eq_false_iff_ne]; omega
  have C:¬ (cn:Int)=48:=by omega
  clear d
  go_enter Tryz.func172,Tryz.ntmps172
  go_wp2_with fail
  refine k.out.mono ?_
  rintro e v ⟨rfl,g⟩
  have b:=f.out
  go_wp2_with fail
  go_ret
  exact ⟨rfl,g⟩
 ·have x:¬ (1:Int)<s.size:=by omega
  by_cases y:cn=48
  ·have o:((cn:Int) == 48)=true:=by rw [beq_iff_eq]; omega
   clear d
   subst y
   go_enter Tryz.func172,Tryz.ntmps172
   go_wp2_with fail
   refine k.out.mono ?_
   rintro e v ⟨rfl,g⟩
   have b:=f.out
   go_wp2_with fail
   go_ret
   exact ⟨rfl,g⟩
  ·have o:((cn:Int) == 48)=false:=by rw [beq_eq_false_iff_ne]; omega
   have C:¬ (cn:Int)=48:=by omega
   clear d
   go_enter Tryz.func172,Tryz.ntmps172
   go_wp2_with fail
   refine k.out.mono ?_
   rintro e v ⟨rfl,g⟩
   have b:=f.out
   go_wp2_with fail
   go_ret
   exact ⟨rfl,g⟩
theorem zfr (w:World):Calls Tryz.prog 171 #[] w fun e w'=>e=.returned (.agg #[.bool false,.string ⟨#[48]⟩,.int .i64 0])∧Below w.heap.size w w':=by
 go_enter Tryz.func171,Tryz.ntmps171
 go_wp2
 exact bodyPost_ret (v:=.agg #[.bool false,.string ⟨#[48]⟩,.int .i64 0]) (by simp [results,Tryz.results171,go_sem]) rfl ⟨rfl,(Below.refl _ _).alloc (Nat.le_refl _) _⟩
theorem zcY (n m:Int) (c:0≤m) (d:m≤1000) (w:World):Calls Tryz.prog 173 #[.int .i64 n,.int .i64 m] w fun e w'=>e=.returned (.bool (decide (-m≤n) && decide (n≤m)))∧w=w':=by
 by_cases a : -m≤n
 ·by_cases b:n≤m
  ·rw [decide_eq_true a,decide_eq_true b]
   go_enter Tryz.func173,Tryz.ntmps173
   go_wp2
   go_ret
   exact ⟨rfl,rfl⟩
  ·rw [decide_eq_true a,decide_eq_false b]
   go_enter Tryz.func173,Tryz.ntmps173
   go_wp2
   go_ret
   exact ⟨rfl,rfl⟩
 ·rw [decide_eq_false a]
  go_enter Tryz.func173,Tryz.ntmps173
  go_wp2
  go_ret
  exact ⟨rfl,rfl⟩
theorem zhd (l:List UInt8) (h:l≠[]):Lib.hasSuffix l [48]=decide (l.getLast? = some 48):=by
 unfold Lib.hasSuffix
 rw [Bool.eq_iff_iff,List.isSuffixOf_iff_suffix,decide_eq_true_iff]
 constructor
 ·rintro ⟨k,rfl⟩
  simp
 ·intro e
  rw [List.getLast?_eq_some_getLast h]at e
  exact ⟨l.dropLast,by rw [← Option.some.inj e]; exact List.dropLast_concat_getLast h⟩
def zbO (dg:ByteArray) (ex:Int):Bool:=qR dg && (decide (dg.size≤100) && ((decide (-100≤ex) && decide (ex≤100)) && !Lib.hasSuffix dg.data.toList [48]))
theorem zh9:qo false ⟨#[48]⟩ 0=true:=by decide +kernel
theorem zh8 {neg:Bool} {dg:ByteArray} {ex:Int} (h:¬ (neg=false∧dg=⟨#[48]⟩∧ex=0)):qo neg dg ex=zbO dg ex:=by
 unfold qo zbO
 cases hn:qR dg with
 | false=>rfl
 | true =>
  have f:1≤dg.size:=by
   unfold qR at hn
   rw [Bool.and_eq_true,decide_eq_true_iff]at hn
   exact hn.1
  have d:dg.data.toList≠[]:=fun e=>by
   have:dg.data.toList.length=dg.size:=by simp
   rw [e]at this
   simp at this
   omega
  rw [zhd _ d]
  congr 2
  by_cases a:dg.toList=[48]
  ·rw [if_pos a]
   have b:dg.data.toList=[48]:=by rw [← ByteArray.toList_eq]; exact a
   have c:dg=⟨#[48]⟩:=zae b
   rw [b]
   have:decide (([48]:List UInt8).getLast? = some 48)=true:=by decide
   rw [this,Bool.not_true,Bool.and_false]
   cases neg with
   | true=>rw [Bool.not_true,Bool.and_false]
   | false =>
    rw [decide_eq_false (fun e=>h ⟨rfl,c,e⟩),Bool.false_and]
  ·rw [if_neg a,Bool.and_assoc]
theorem za9 (neg:Bool) (dg:ByteArray) (ex:Int) (I:dg.size≤9223372036854775807) (w:World) :
  Calls Tryz.prog 120 #[.agg #[.bool neg,.string dg,.int .i64 ex]] w fun e w'=>e=.returned (.bool (qo neg dg ex))∧Below w.heap.size w w':=by
 have s:=Lib.hid zfr
 have k:Below w.heap.size w (w.alloc (.cells #[.bool neg,.string dg,.int .i64 ex] 24)):=(Below.refl _ _).alloc (Nat.le_refl _) _
 have d:=Blk.new w #[.bool neg,.string dg,.int .i64 ex] 24
 by_cases B:neg=false∧dg=⟨#[48]⟩∧ex=0
 ·obtain ⟨rfl,rfl,rfl⟩:=B
  rw [zh9]
  have c0:=d.cell 0
  have c1:=d.cell 1
  have c2:=d.cell 2
  go_enter Tryz.func120,Tryz.ntmps120
  go_wp2_with fail
  go_region_held3 (fun w'=>w'.cell? ⟨w.heap.size,0,none⟩=some (.bool false)∧w'.cell? ⟨w.heap.size,1,none⟩=some (.string ⟨#[48]⟩)∧w'.cell? ⟨w.heap.size,2,none⟩=some (.int .i64 0)) (go_keep)
   (first | (go_at_call 171; refine (s.out _).mono ?_; rintro e w4 ⟨rfl,b⟩; have a:=(Blk.drew d).below b (Blk.drew d).lt; have m:=a.cell 0; have n:=a.cell 1; have o:=a.cell 2))
  have g:Below w.heap.size w w4:=(Go.below_drewN k 1).trans (b.mono k.size)
  go_wp2_with fail
  go_ret
  exact ⟨rfl,g⟩
 rw [zh8 B]
 have r:=Lib.hid (zbu dg I)
 have z:=Lib.hid (fun w=>zcY ex 100 (by decide) (by decide) w)
 have u:=Lib.hid (fun w=>Tryz.strings_HasSuffix dg ⟨#[48]⟩ w I)
 have t:neg=true∨(neg=false∧¬ dg=⟨#[48]⟩)∨(neg=false∧dg=⟨#[48]⟩∧¬ ex=0):=by
  cases neg with
  | true=>exact .inl rfl
  | false =>
   by_cases D:dg=⟨#[48]⟩
   ·exact .inr (.inr ⟨rfl,D,fun e=>B ⟨rfl,D,e⟩⟩)
   ·exact .inr (.inl ⟨rfl,D⟩)
 obtain ⟨ans,i⟩:∃ ans,zbO dg ex=ans:=⟨_,rfl⟩
 rw [i]
 unfold zbO at i
 obtain ⟨b1,v⟩:∃ b1,qR dg=b1:=⟨_,rfl⟩
 obtain ⟨b3,x⟩:∃ b3,(decide (-100≤ex) && decide (ex≤100))=b3:=⟨_,rfl⟩
 obtain ⟨b4,b⟩:∃ b4,Lib.hasSuffix dg.data.toList [48]=b4:=⟨_,rfl⟩
 have u:Hid (∀ w,Calls Tryz.prog 174 #[.string dg,.string ⟨#[48]⟩] w fun e w'=>e=.returned (.bool (Lib.hasSuffix dg.data.toList [48]))∧w'=w):=u
 simp only [v]at r
 simp only [x]at z
 simp only [b]at u
 rw [v,x,b]at i
 clear v x b B
 have c0:=d.cell 0
 have c1:=d.cell 1
 have c2:=d.cell 2
 have E:(dg.toList == [48])=decide (dg=⟨#[48]⟩):=by
  by_cases h:dg=⟨#[48]⟩
  ·subst h
   decide +kernel
  ·rw [decide_eq_false h,beq_eq_false_iff_ne,ByteArray.toList_eq]
   exact fun e=>h (zae e)
 rcases t with t | ⟨t,A⟩ | ⟨t,A,K⟩
 ·subst t
  clear E
  have c:=Lib.hid i
  clear i
  go_enter Tryz.func120,Tryz.ntmps120
  go_wp2_with fail
  go_region_held3 (fun w'=>w'.cell? ⟨w.heap.size,0,none⟩=some (.bool true)∧w'.cell? ⟨w.heap.size,1,none⟩=some (.string dg)∧w'.cell? ⟨w.heap.size,2,none⟩=some (.int .i64 ex)) (go_keep)
   (first | (go_at_call 171; refine (s.out _).mono ?_; rintro e w4 ⟨rfl,b⟩; have a:=(Blk.drew d).below b (Blk.drew d).lt; have m:=a.cell 0; have n:=a.cell 1; have o:=a.cell 2))
  have g:Below w.heap.size w w4:=(Go.below_drewN k 1).trans (b.mono k.size)
  go_wp2_with fail
  refine (r.out _).mono ?_
  rintro e J ⟨rfl,j⟩
  have l:=a.below j a.lt
  have f:=g.trans (j.mono g.size)
  have F:=l.cell 0
  have G:=l.cell 1
  have H:=l.cell 2
  clear a b g j c0 c1 c2 m n o d k r s
  cases b1 with
  | false =>
   obtain rfl:false=ans:=c.out
   go_wp2_with fail
   all_goals go_ret
   all_goals exact ⟨rfl,f⟩
  | true =>
   by_cases q:dg.size≤100
   ·have C:(dg.size:Int)≤100:=by omega
    have p:(b3 && !b4)=ans:=by
     have:=c.out
     rw [decide_eq_true q]at this
     exact this
    clear c
    go_wp2_with fail
    refine (z.out _).mono ?_
    rintro e y ⟨rfl,rfl⟩
    cases b3 with
    | false =>
     obtain rfl:false=ans:=p
     go_wp2_with fail
     all_goals go_ret
     all_goals exact ⟨rfl,f⟩
    | true =>
     obtain rfl:(!b4)=ans:=p
     go_wp2_with fail
     refine (u.out _).mono ?_
     rintro e y ⟨rfl,rfl⟩
     cases b4 with
     | false =>
      go_wp2_with fail
      all_goals go_ret
      all_goals exact ⟨rfl,f⟩
     | true =>
      go_wp2_with fail
      all_goals go_ret
      all_goals exact ⟨rfl,f⟩
   ·have C:¬ (dg.size:Int)≤100:=by omega
    have L:(100:Int)<dg.size:=by omega
    obtain rfl:false=ans:=by
     have:=c.out
     rw [decide_eq_false q]at this
     exact this
    go_wp2_with fail
    all_goals go_ret
    all_goals exact ⟨rfl,f⟩
 ·subst t
  rw [decide_eq_false A]at E
  clear A
  have c:=Lib.hid i
  clear i
  go_enter Tryz.func120,Tryz.ntmps120
  go_wp2_with fail
  go_region_held3 (fun w'=>w'.cell? ⟨w.heap.size,0,none⟩=some (.bool false)∧w'.cell? ⟨w.heap.size,1,none⟩=some (.string dg)∧w'.cell? ⟨w.heap.size,2,none⟩=some (.int .i64 ex)) (go_keep)
   (first | (go_at_call 171; refine (s.out _).mono ?_; rintro e w4 ⟨rfl,b⟩; have a:=(Blk.drew d).below b (Blk.drew d).lt; have m:=a.cell 0; have n:=a.cell 1; have o:=a.cell 2))
  have g:Below w.heap.size w w4:=(Go.below_drewN k 1).trans (b.mono k.size)
  go_wp2_with fail
  refine (r.out _).mono ?_
  rintro e J ⟨rfl,j⟩
  have l:=a.below j a.lt
  have f:=g.trans (j.mono g.size)
  have F:=l.cell 0
  have G:=l.cell 1
  have H:=l.cell 2
  clear a b g j c0 c1 c2 m n o d k r s
  cases b1 with
  | false =>
   obtain rfl:false=ans:=c.out
   go_wp2_with fail
   all_goals go_ret
   all_goals exact ⟨rfl,f⟩
  | true =>
   by_cases q:dg.size≤100
   ·have C:(dg.size:Int)≤100:=by omega
    have p:(b3 && !b4)=ans:=by
     have:=c.out
     rw [decide_eq_true q]at this
     exact this
    clear c
    go_wp2_with fail
    refine (z.out _).mono ?_
    rintro e y ⟨rfl,rfl⟩
    cases b3 with
    | false =>
     obtain rfl:false=ans:=p
     go_wp2_with fail
     all_goals go_ret
     all_goals exact ⟨rfl,f⟩
    | true =>
     obtain rfl:(!b4)=ans:=p
     go_wp2_with fail
     refine (u.out _).mono ?_
     rintro e y ⟨rfl,rfl⟩
     cases b4 with
     | false =>
      go_wp2_with fail
      all_goals go_ret
      all_goals exact ⟨rfl,f⟩
     | true =>
      go_wp2_with fail
      all_goals go_ret
      all_goals exact ⟨rfl,f⟩
   ·have C:¬ (dg.size:Int)≤100:=by omega
    have L:(100:Int)<dg.size:=by omega
    obtain rfl:false=ans:=by
     have:=c.out
     rw [decide_eq_false q]at this
     exact this
    go_wp2_with fail
    all_goals go_ret
    all_goals exact ⟨rfl,f⟩
 ·subst t
  subst A
  have M:(ex == 0)=false:=by rw [beq_eq_false_iff_ne]; exact K
  clear E
  have c:=Lib.hid i
  clear i
  go_enter Tryz.func120,Tryz.ntmps120
  go_wp2_with fail
  go_region_held3 (fun w'=>w'.cell? ⟨w.heap.size,0,none⟩=some (.bool false)∧w'.cell? ⟨w.heap.size,1,none⟩=some (.string ⟨#[48]⟩)∧w'.cell? ⟨w.heap.size,2,none⟩=some (.int .i64 ex)) (go_keep)
   (first | (go_at_call 171; refine (s.out _).mono ?_; rintro e w4 ⟨rfl,b⟩; have a:=(Blk.drew d).below b (Blk.drew d).lt; have m:=a.cell 0; have n:=a.cell 1; have o:=a.cell 2))
  have g:Below w.heap.size w w4:=(Go.below_drewN k 1).trans (b.mono k.size)
  go_wp2_with fail
  refine (r.out _).mono ?_
  rintro e J ⟨rfl,j⟩
  have l:=a.below j a.lt
  have f:=g.trans (j.mono g.size)
  have F:=l.cell 0
  have G:=l.cell 1
  have H:=l.cell 2
  clear a b g j c0 c1 c2 m n o d k r s
  cases b1 with
  | false =>
   obtain rfl:false=ans:=c.out
   go_wp2_with fail
   all_goals go_ret
   all_goals exact ⟨rfl,f⟩
  | true =>
   by_cases q:(⟨#[48]⟩:ByteArray).size≤100
   ·have C:((⟨#[48]⟩:ByteArray).size:Int)≤100:=by omega
    have p:(b3 && !b4)=ans:=by
     have:=c.out
     rw [decide_eq_true q]at this
     exact this
    clear c
    go_wp2_with fail
    refine (z.out _).mono ?_
    rintro e y ⟨rfl,rfl⟩
    cases b3 with
    | false =>
     obtain rfl:false=ans:=p
     go_wp2_with fail
     all_goals go_ret
     all_goals exact ⟨rfl,f⟩
    | true =>
     obtain rfl:(!b4)=ans:=p
     go_wp2_with fail
     refine (u.out _).mono ?_
     rintro e y ⟨rfl,rfl⟩
     cases b4 with
     | false =>
      go_wp2_with fail
      all_goals go_ret
      all_goals exact ⟨rfl,f⟩
     | true =>
      go_wp2_with fail
      all_goals go_ret
      all_goals exact ⟨rfl,f⟩
   ·exact absurd (show (⟨#[48]⟩:ByteArray).size≤100 by decide) q
end Go.Proofs.YtonihophanmaaaaGreatDoor
