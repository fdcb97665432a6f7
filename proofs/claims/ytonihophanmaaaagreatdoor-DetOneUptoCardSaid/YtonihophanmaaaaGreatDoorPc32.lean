/- The texts DsP, DecI, DecM, put together. -/
import Derived.Test.YtonihophanmaaaaGreatDoorPc31
import Derived.Test.YtonihophanmaaaaGreatDoorPc03
import Derived.Lib.OthersKept
import Derived.Test.YtonihophanmaaaaGreatDoorPc04
import Derived.Test.YtonihophanmaaaaGreatDoorPc10
import Derived.Test.YtonihophanmaaaaGreatDoorPc07
set_option maxHeartbeats 4000000
set_option maxRecDepth 100000
namespace Go.Proofs.YtonihophanmaaaaGreatDoor
open Go.RowKit Go.Shelf
noncomputable def zbb (t:Tr):Tr:=if zj 2 flC t=0 then zz cbT zD t else .nd zv []
noncomputable def qY (t:Tr):ByteArray:=if zj 2 flC t=0 then bs (cbT (zz cbT zD t)) else ⟨#[]⟩
theorem zaH {W:World} {S:Nat→Prop} {d:Nat} {t:Tr} {x:Value} (c:LAt W S d t.kids x) (e:zt t.own) (h:zj 2 flC t=0):ki t:=by
 obtain ⟨_,_,a,b⟩:=qn.1 h
 exact ⟨a,b,vX t d x c e a b⟩
theorem zey {t:Tr} (h:ki t):(zz cbT zD t).count=t.count:=(zad (it:=cbT) vH t h.all).1
theorem zcZ (t:Tr) (x:Value) (w:World) (S:Nat→Prop) (d:Nat) (aT aF:Addr) (R:LAt w S d t.kids x) (X:zt t.own) (I:∀ q,S q→q<w.heap.size) (hc:t.count≤1000000) (h:GW w aT aF) :
  Calls Tryz.prog 21 #[ze t.own x] w fun e w'=>(∃ A c,e=.returned (.tuple #[ze (zbb t).own (.slice A (zbb t).kids.length c),.int .i64 (zj 2 flC t)])∧LAt w' (fun q=>(S q∨w.heap.size≤q)∧q<w'.heap.size) d (zbb t).kids (.slice A (zbb t).kids.length c))∧Below w.heap.size w w':=by
 have v:=fun (W:World) (B:Below w.heap.size w W)=>vA 2 flC (yp aT aF) t x W w.heap.size d ((R.keep (fun q k=>B.block q (I q k))).mono I) X B.size (by omega) (h.below B)
 have j:=fun (W:World) (B:Below w.heap.size w W) (H:zj 2 flC t=0)=>zgW t.count t x W S d aT aF (Nat.le_refl _) (R.keep (fun q k=>B.block q (I q k))) X (fun q k=>Nat.lt_of_lt_of_le (I q k) B.size) (h.below B) hc (zaH R X H)
 unfold xU at j
 unfold zbb
 obtain ⟨e0,ad⟩:∃ e0,zj 2 flC t=e0:=⟨_,rfl⟩
 simp only [ad]at v j ⊢
 obtain ⟨al,A,c,rfl⟩:=R.slice
 obtain ⟨n,hn⟩:∃ n,t.kids.length=n:=⟨_,rfl⟩
 obtain ⟨st,aj⟩:∃ st,zz cbT zD t=st:=⟨_,rfl⟩
 simp only [aj]at j ⊢
 obtain ⟨⟨kind,b,neg,dg,ex,u,wd,s⟩,ai⟩:∃ o,t.own=o:=⟨_,rfl⟩
 rw [ai,hn]at v j ⊢
 unfold ze at v j ⊢
 simp only []at v j ⊢
 have Z:=Lib.hid (qa w #[.int .i64 kind,.bool b,.bool neg,.string dg,.int .i64 ex,.int .u64 u,.int .i64 wd,.string s,.slice A n c] #[.int .i64 0,.bool false,.bool false,.string ⟨#[]⟩,.int .i64 0,.int .u64 0,.int .i64 0,.string ⟨#[]⟩,.slice none 0 0] 28 28)
 obtain ⟨ab,af,ag⟩:=Z.out
 have D:=Lib.hid af
 have M:=Lib.hid ag
 have HB:=Lib.hid ab
 have v:=Lib.hid v
 have j:=Lib.hid j
 have HS:=Lib.hid I
 clear R X hc h ad hn aj ai ab af ag Z I al
 go_enter Tryz.func21,Tryz.ntmps21
 go_wp2_with (refine wpList_load_row rfl 28 (.tmp 1) rfl w.heap.size rfl 28 _ (0,0) _ D.out Tryz.underlying28 rfl (by kernel_rfl) ?_)
 refine (v.out _ HB.out).mono ?_
 rintro e w3 ⟨rfl,E⟩
 have O:=D.out.below E D.out.lt
 have P:=M.out.below E M.out.lt
 have ac:=HB.out.trans (E.mono (by simp; omega))
 have z:=Lib.hid O
 have a:=Lib.hid P
 have i:=Lib.hid ac
 clear O P ac E HB D M v
 by_cases H:e0=0
 ·subst H
  go_wp2_with (refine wpList_load_row rfl 28 (.tmp 1) rfl w.heap.size rfl 28 _ (0,0) _ z.out Tryz.underlying28 rfl (by kernel_rfl) ?_)
  refine (j.out _ i.out (by trivial)).mono ?_
  rintro e Y ⟨⟨r,c2,rfl,U⟩,F⟩
  obtain ⟨n2,G⟩:∃ n2,st.kids.length=n2:=⟨_,rfl⟩
  obtain ⟨⟨f,b2,g,l,m,K,p,J⟩,V⟩:∃ o,st.own=o:=⟨_,rfl⟩
  rw [G]at U
  rw [G,V]
  simp only []
  have Q:=a.out.below F a.out.lt
  have aw:=i.out.size
  have ax:=F.size
  have C:=i.out.trans (F.mono i.out.size)
  have av:=a.out.lt
  have ae:=zx Y (w.heap.size+1) #[.int .i64 f,.bool b2,.bool g,.string l,.int .i64 m,.int .u64 K,.int .i64 p,.string J,.slice r n2 c2]
  have y:Below w.heap.size w (Y.setRow (w.heap.size+1) #[.int .i64 f,.bool b2,.bool g,.string l,.int .i64 m,.int .u64 K,.int .i64 p,.string J,.slice r n2 c2]):=C.grown ae C.size (fun q e=>by cases e; omega)
  have ah:LAt (Y.setRow (w.heap.size+1) #[.int .i64 f,.bool b2,.bool g,.string l,.int .i64 m,.int .u64 K,.int .i64 p,.string J,.slice r n2 c2]) (fun q=>(S q∨w.heap.size≤q)∧q<(Y.setRow (w.heap.size+1) #[.int .i64 f,.bool b2,.bool g,.string l,.int .i64 m,.int .u64 K,.int .i64 p,.string J,.slice r n2 c2]).heap.size) d st.kids (.slice r n2 c2):=by
   refine (U.keep (fun q k=>setRow_other _ _ _ _ (fun e=>?_))).mono (fun q k=>⟨k.1.imp id (by omega),by rw [setRow_size]; exact k.2⟩)
   rcases k.1 with hh | hh
   ·have:=HS.out q hh
    omega
   ·omega
  have N:=Lib.hid Q
  have L:=Lib.hid y
  have am:=Lib.hid ah
  have aa:=Lib.hid G
  have an:=Lib.hid V
  clear G V Q ae y ah C F U z a i j
  go_wp2_with (refine wpList_store_row rfl 28 (.tmp 2) (.tmp 12) rfl (w.heap.size+1) #[.int .i64 f,.bool b2,.bool g,.string l,.int .i64 m,.int .u64 K,.int .i64 p,.string J,.slice r n2 c2] rfl rfl 28 _ N.out (by kernel_rfl) rfl (by simp [Value.oneCell']) ?_)
  refine bodyPost_ret (zo (T:=28) (u:=.int .i64 0) rfl rfl rfl (zB N.out #[.int .i64 f,.bool b2,.bool g,.string l,.int .i64 m,.int .u64 K,.int .i64 p,.string J,.slice r n2 c2]) Tryz.underlying28 rfl (by kernel_rfl)) rfl ?_
  exact ⟨⟨r,c2,by simp only [aa.out,an.out],by simp only [aa.out]; exact am.out⟩,L.out⟩
 ·have y0:(e0 == 0)=false:=by rw [beq_eq_false_iff_ne]; exact H
  have y:Below w.heap.size w (w3.setRow (w.heap.size+1) #[.int .i64 0,.bool false,.bool false,.string ⟨#[]⟩,.int .i64 0,.int .u64 0,.int .i64 0,.string ⟨#[]⟩,.slice none 0 0]):=i.out.grown (zx w3 (w.heap.size+1) #[.int .i64 0,.bool false,.bool false,.string ⟨#[]⟩,.int .i64 0,.int .u64 0,.int .i64 0,.string ⟨#[]⟩,.slice none 0 0]) i.out.size (fun q e=>by cases e; omega)
  have L:=Lib.hid y
  have au:=a.out.frozen
  have ar:=a.out.cell
  clear y i j z
  go_wp2_with (refine wpList_store_row rfl 28 (.tmp 2) (.tmp 9) rfl (w.heap.size+1) #[.int .i64 0,.bool false,.bool false,.string ⟨#[]⟩,.int .i64 0,.int .u64 0,.int .i64 0,.string ⟨#[]⟩,.slice none 0 0] rfl rfl 28 _ a.out (by kernel_rfl) rfl (by simp [Value.oneCell']) ?_)
  refine bodyPost_ret (zo (T:=28) (u:=.int .i64 e0) rfl rfl rfl (zB a.out #[.int .i64 0,.bool false,.bool false,.string ⟨#[]⟩,.int .i64 0,.int .u64 0,.int .i64 0,.string ⟨#[]⟩,.slice none 0 0]) Tryz.underlying28 rfl (by kernel_rfl)) rfl ?_
  exact ⟨⟨none,0,by first | rfl | (rw [if_neg H]; rfl),by first | exact LAt.nil _ _ _ _ _ | (rw [if_neg H]; exact LAt.nil _ _ _ _ _)⟩,L.out⟩
theorem yh (t:Tr) (x:Value) (w:World) (S:Nat→Prop) (d:Nat) (aT aF:Addr) (V:LAt w S d t.kids x) (X:zt t.own) (U:∀ q,S q→q<w.heap.size) (hc:t.count≤1000000) (h:GW w aT aF) :
  Calls Tryz.prog 18 #[ze t.own x] w fun e w'=>e=.returned (.tuple #[.string (qY t),.int .i64 (zj 2 flC t)])∧Below w.heap.size w w':=by
 have f:=fun (W:World) (M:Below w.heap.size w W)=>zcZ t x W S d aT aF (V.keep (fun q y=>M.block q (U q y))) X (fun q y=>Nat.lt_of_lt_of_le (U q y) M.size) hc (h.below M)
 have i:=fun (I:zj 2 flC t=0) (W:World) (M:Below w.heap.size w W) (x':Value) (hx:LAt W (fun q=>q<W.heap.size) d (zz cbT zD t).kids x')=>zkT (zz cbT zD t) x' W W.heap.size d aT aF hx (zbE X) (Nat.le_refl _) (by rw [zey (zaH V X I)]; omega) (h.below M)
 have p:=fun (I:zj 2 flC t=0)=>zex (it:=cbT) vH t I
 unfold qY
 unfold zbb at f
 obtain ⟨e0,ae⟩:∃ e0,zj 2 flC t=e0:=⟨_,rfl⟩
 simp only [ae]at f i p ⊢
 obtain ⟨ak,A,c,rfl⟩:=V.slice
 obtain ⟨n,hn⟩:∃ n,t.kids.length=n:=⟨_,rfl⟩
 obtain ⟨st,ai⟩:∃ st,zz cbT zD t=st:=⟨_,rfl⟩
 simp only [ai]at f i p ⊢
 obtain ⟨⟨kind,b,neg,dg,ex,u,wd,s⟩,ah⟩:∃ o,t.own=o:=⟨_,rfl⟩
 rw [ah,hn]at f ⊢
 unfold ze at f i ⊢
 simp only []at f i ⊢
 have ab:Below w.heap.size w (w.alloc (.cells #[.int .i64 kind,.bool b,.bool neg,.string dg,.int .i64 ex,.int .u64 u,.int .i64 wd,.string s,.slice A n c] 28)):=(Below.refl _ _).alloc (Nat.le_refl _) _
 have af:=Blk.new w #[.int .i64 kind,.bool b,.bool neg,.string dg,.int .i64 ex,.int .u64 u,.int .i64 wd,.string s,.slice A n c] 28
 have aa:=Lib.hid af
 have T:=Lib.hid ab
 have f:=Lib.hid f
 have i:=Lib.hid i
 have p:=Lib.hid p
 have HS:=Lib.hid U
 clear V X hc h ae hn ai ah ab af U ak
 go_enter Tryz.func18,Tryz.ntmps18
 go_wp2_with (refine wpList_load_row rfl 28 (.tmp 1) rfl w.heap.size rfl 28 _ (0,0) _ aa.out Tryz.underlying28 rfl (by kernel_rfl) ?_)
 refine (f.out _ T.out).mono ?_
 rintro e l ⟨⟨H,c2,rfl,E⟩,ac⟩
 obtain ⟨r,J⟩:∃ r,(if e0=0 then st else Tr.nd zv [])=r:=⟨_,rfl⟩
 simp only [J]at E ⊢
 obtain ⟨n2,F⟩:∃ n2,r.kids.length=n2:=⟨_,rfl⟩
 obtain ⟨⟨a,b2,k,B,C,Z,G,Y⟩,R⟩:∃ o,r.own=o:=⟨_,rfl⟩
 rw [F]at E
 rw [F,R]
 simp only []
 have P:=T.out.trans (ac.mono T.out.size)
 have O:=Blk.new l #[.int .i64 0,.bool false,.bool false,.string ⟨#[]⟩,.int .i64 0,.int .u64 0,.int .i64 0,.string ⟨#[]⟩,.slice none 0 0] 28
 have N:=zB O #[.int .i64 a,.bool b2,.bool k,.string B,.int .i64 C,.int .u64 Z,.int .i64 G,.string Y,.slice H n2 c2]
 obtain ⟨W5,D⟩:∃ W5,(l.alloc (.cells #[.int .i64 0,.bool false,.bool false,.string ⟨#[]⟩,.int .i64 0,.int .u64 0,.int .i64 0,.string ⟨#[]⟩,.slice none 0 0] 28)).setRow l.heap.size #[.int .i64 a,.bool b2,.bool k,.string B,.int .i64 C,.int .u64 Z,.int .i64 G,.string Y,.slice H n2 c2]=W5:=⟨_,rfl⟩
 have j:Below l.heap.size l W5:=by
  rw [← D]
  exact ((Below.refl _ l).alloc (Nat.le_refl _) _).grown (zx _ l.heap.size #[.int .i64 a,.bool b2,.bool k,.string B,.int .i64 C,.int .u64 Z,.int .i64 G,.string Y,.slice H n2 c2]) (by simp) (fun q e=>by cases e; exact Nat.le_refl _)
 have ag:LAt W5 (fun q=>q<W5.heap.size) d r.kids (.slice H n2 c2):=(E.keep (fun q y=>j.block q y.2)).mono (fun q y=>Nat.lt_of_lt_of_le y.2 j.size)
 have Q:=P.trans (j.mono P.size)
 rw [D]at N
 have am:=Lib.hid O
 have al:=Lib.hid N
 have ap:=Lib.hid D
 have K:=Lib.hid ag
 have g:=Lib.hid Q
 have HR:=Lib.hid J
 have aw:=Lib.hid F
 have ao:=Lib.hid R
 clear P j ag Q D O N E ac T aa f J F R
 go_upto_region 2 with (refine wpList_store_row rfl 28 (.tmp 4) (.tmp 9) rfl l.heap.size #[.int .i64 a,.bool b2,.bool k,.string B,.int .i64 C,.int .u64 Z,.int .i64 G,.string Y,.slice H n2 c2] rfl rfl 28 _ am.out (by kernel_rfl) rfl (by simp [Value.oneCell']) ?_)
 rw [ap.out]
 by_cases I:e0=0
 ·subst I
  have J:=HR.out
  rw [if_pos rfl]at J
  subst J
  have m:=i.out rfl W5 g.out (.slice H n2 c2) K.out
  have hz:=p.out rfl
  rw [hz,ao.out]at m
  have aj:kr st 0=bs (cbT st):=rfl
  rw [aj]at m
  obtain ⟨str,z⟩:∃ str,bs (cbT st)=str:=⟨_,rfl⟩
  rw [z]at m
  have an:=Lib.hid m
  have L:=Lib.hid z
  clear m z aj hz p i K
  go_wp2_with (refine wpList_load_row rfl 28 (.tmp 4) rfl l.heap.size rfl 28 _ (0,0) _ al.out Tryz.underlying28 rfl (by kernel_rfl) ?_)
  refine an.out.mono ?_
  rintro e w6 ⟨rfl,ad⟩
  have v:=g.out.trans (ad.mono g.out.size)
  clear ad
  go_wp2_with fail
  go_ret2
  exact ⟨by first | (rw [L.out]; rfl) | simp [L.out],v⟩
 ·have y0:(e0 == 0)=false:=by rw [beq_eq_false_iff_ne]; exact I
  have v:=g.out
  clear i p K
  go_wp2_with fail
  go_ret2
  exact ⟨by first | rfl | simp,v⟩
end Go.Proofs.YtonihophanmaaaaGreatDoor
namespace Go.Proofs.YtonihophanmaaaaGreatDoor
open Go.RowKit Go.Shelf
attribute [local go_sem] Oper.semAt_some
theorem ziC (c:Nat) (d:48≤c) (f:c≤57) (w:World):Calls Tryz.prog 234 #[.int .i32 c] w fun e a=>e=.returned (.bool false)∧a=w:=by
 have g:(48:Int)≤c:=by omega
 have h:(c:Int)≤57:=by omega
 have b:Calls Tryz.prog 235 #[.int .i32 c] w fun e a=>e=.returned (.bool true)∧a=w:=by
  go_enter Tryz.func235,Tryz.ntmps235
  go_wp2_with fail
  go_ret
  exact ⟨rfl,rfl⟩
 go_enter Tryz.func234,Tryz.ntmps234
 go_wp2_with fail
 refine b.mono ?_
 rintro e a ⟨rfl,rfl⟩
 go_wp2_with fail
 go_ret
 exact ⟨rfl,rfl⟩
theorem zfN (s:ByteArray) (x:s.size≤1000000000) (hd:s.data.toList.all zy=true) (w:World) :
  Calls Tryz.prog 266 #[.string s,.func (.func 234) #[] #[],.bool true] w fun e w'=>e=.returned (.int .i64 (-1))∧Below w.heap.size w w':=by
 have u:∀ g w,(callFunc 234 g).run Tryz.prog w=.ok (.enter 234 g) w:=enters_of Tryz.func234 (by kernel_rfl) rfl
 have p:=Lib.hid ziC
 go_enter Tryz.func266,Tryz.ntmps266
 go_wp2_with fail
 go_loopw [] (fun wr=>∃ k:Nat,k≤s.size∧wr.heap[w.heap.size]? = some (.stringIter s k)∧Below w.heap.size w wr) (fun wr=>s.size - wr.iterPos w.heap.size)
 case atStart=>exact ⟨0,by omega,World.iter_heap w s 0,(Below.refl _ w).alloc (Nat.le_refl _) _⟩
 case round =>
  obtain ⟨k,v,a,n⟩:=hrel
  have t:w.heap.size<wr.heap.size:=(Array.getElem?_eq_some_iff.1 a).1
  have o:s.data.toList.length=s.size:=by simp
  by_cases m:k<s.size
  ·obtain ⟨b,j⟩:∃ b,s[k]'m=b:=⟨_,rfl⟩
   have l:zy b=true:=by
    have h:=List.all_eq_true.1 hd (s.data.toList[k]'(by rw [o]; exact m)) (List.getElem_mem _)
    rw [← j]
    exact h
   unfold zy at l
   rw [Bool.and_eq_true,decide_eq_true_iff,decide_eq_true_iff]at l
   have f:∀ ty,(Instr.next (.pointer (some ⟨w.heap.size,0,none⟩)) true ty).run Tryz.prog wr=_:=fun ty=>Lib.run_next_ascii_at wr w.heap.size s k ty a m (by rw [j]; omega)
   rw [j]at f
   have d:=Lib.iterAt_heap wr w.heap.size s k (k+1) a
   have i:=Lib.below_iterAt n (k:=w.heap.size) (Nat.le_refl _) s (k+1)
   obtain ⟨c,hc⟩:∃ c,b.toNat=c:=⟨_,rfl⟩
   rw [hc]at f l
   obtain ⟨q,r⟩:=l
   clear j hc
   generalize wr.iterAt w.heap.size s (k+1)=W at f d i
   go_wp2_with fail
   refine (p.out c q r _).mono ?_
   rintro e w' ⟨rfl,rfl⟩
   go_wp2_with fail
   go_roundw
   case rel=>exact ⟨k+1,by omega,d,i⟩
   case measure =>
    simp only [World.iterPos,d,a]
    omega
  ·have f:∀ ty,(Instr.next (.pointer (some ⟨w.heap.size,0,none⟩)) true ty).run Tryz.prog wr=_:=fun ty=>Lib.run_next_end_at wr w.heap.size s k ty a m
   go_wp2_with fail
   go_ret
   exact ⟨rfl,n⟩
theorem zeU (s:ByteArray) (c:s.size≤1000000000) (hd:s.data.toList.all zy=true) (w:World) :
  Calls Tryz.prog 236 #[.string s,.func (.func 234) #[] #[]] w fun e w'=>e=.returned (.int .i64 (-1))∧Below w.heap.size w w':=by
 have a:=Lib.hid (zfN s c hd)
 go_enter Tryz.func236,Tryz.ntmps236
 go_wp2_with fail
 refine (a.out _).mono ?_
 rintro e w' ⟨rfl,b⟩
 go_wp2_with fail
 go_ret
 exact ⟨rfl,b⟩
end Go.Proofs.YtonihophanmaaaaGreatDoor
namespace Go.Proofs.YtonihophanmaaaaGreatDoor
open Go.RowKit Go.Shelf
attribute [local go_sem] Oper.semAt_some
theorem zku (l:List UInt8):Lib.trimLeftB l 48=qj l:=rfl
theorem zkv (l:List UInt8):Lib.trimRightB l 48=kq l:=rfl
theorem zfq (neg:Bool) (dg:ByteArray) (ex:Int) (n:Bool) (d:ByteArray) (e:Int) (f:zav neg dg.data.toList ex=some (n,d,e)) (w:World) :
  Calls Tryz.prog 205 #[.bool neg,.string dg,.int .i64 ex] w fun x w'=>x=.returned (.tuple #[.agg #[.bool n,.string d,.int .i64 e],.int .i64 0])∧Below w.heap.size w w':=by
 have o:dg.data.toList.length=dg.size:=by simp
 unfold zav at f
 split at f
 ·cases f
 rename_i hc
 have ah:1≤dg.size:=by
  rw [← o]
  cases h:dg.data.toList with
  | nil=>exact (hc (.inl h)).elim
  | cons a l=>simp
 have z2:dg.toList.isEmpty=false:=by rw [wA]; exact decide_eq_false (by omega)
 have hl:dg.size≤400:=by rw [← o]; exact Nat.le_of_not_lt (fun h=>hc (.inr (.inl h)))
 have P : -1000≤ex∧ex≤1000:=Classical.byContradiction (fun h=>hc (.inr (.inr (.inl h))))
 have hd:dg.data.toList.all zy=true:=Classical.byContradiction (fun h=>hc (.inr (.inr (.inr h))))
 clear hc
 have H:=Lib.hid (zcY ex 1000 (by decide) (by decide))
 rw [decide_eq_true P.1,decide_eq_true P.2]at H
 have M:=Lib.hid (zeU dg (by omega) hd)
 have F:=Lib.hid (fun w=>Tryz.strings_TrimLeft_one dg 48 (by decide) w)
 have y1:¬ (400:Int)<dg.size:=by omega
 simp only [zku]at F
 obtain ⟨s1,t⟩:∃ s1:ByteArray,(⟨(qj dg.data.toList).toArray⟩:ByteArray)=s1:=⟨_,rfl⟩
 have v:s1.data.toList=qj dg.data.toList:=by rw [← t]
 have i:s1.size=(qj dg.data.toList).length:=by rw [← v]; simp
 simp only [t]at F
 have I:s1.size≤dg.size:=by
  obtain ⟨k,h,_⟩:=yP dg.data.toList
  have:=congrArg List.length h
  rw [List.length_append,o,← i]at this
  omega
 by_cases N:qj dg.data.toList=[]
 ·rw [if_pos N]at f
  injection f with f
  injection f with V q
  injection q with q G
  subst V q G
  have hs:s1=⟨#[]⟩:=by rw [← t,N]
  subst hs
  have Y:=Lib.hid zfr
  have u:=Blk.new w #[.bool false,.string ⟨#[]⟩,.int .i64 0] 24
  clear t v i I o
  refine jo Tryz.func205 rfl ?_
  simp only [Tryz.ntmps205,List.size_toArray,List.length_cons,List.length_nil,Nat.reduceAdd,Nat.reduceSub,Array.replicate_succ,Array.replicate_zero,List.push_toArray,List.append_toArray,List.nil_append,List.cons_append]
  go_wp2_with fail
  go_step3
  go_wp2_with fail
  refine (H.out _).mono ?_
  rintro x w1 ⟨rfl,rfl⟩
  go_wp2_with fail
  refine (M.out _).mono ?_
  rintro x w2 ⟨rfl,c⟩
  go_wp2_with fail
  refine (F.out _).mono ?_
  rintro x w3 ⟨rfl,rfl⟩
  go_wp2_with fail
  refine (Y.out _).mono ?_
  rintro x w4 ⟨rfl,J⟩
  have r:=((u.alloc (.cells #[.bool false,.string ⟨#[]⟩,.int .i64 0] 24)).below c (u.alloc _).lt)
  have j:=r.below J r.lt
  have c0:=j.cell 0
  have c1:=j.cell 1
  have c2:=j.cell 2
  have R:=j.frozen 0
  have S:=j.frozen 1
  have U:=j.frozen 2
  have A:Below w.heap.size w w4:=(((Below.refl _ w).alloc (Nat.le_refl _) _).alloc (by simp) _).trans (((c.mono (by simp; omega))).trans (J.mono (by have:=c.size; simp at this; omega)))
  clear Y F M H r c J u
  go_wp2_with fail
  rw [Exit.noGoto_ret]
  have ab:=((j.set 0 (.bool false)).set 1 (.string ⟨#[48]⟩)).set 2 (.int .i64 0)
  refine leave0 (zo (T:=24) (b:=w.heap.size) rfl (by kernel_rfl) (by kernel_rfl) ab Tryz.underlying24 rfl (by kernel_rfl)) rfl ⟨rfl,?_⟩
  exact A.trans (((Below.refl _ _).setCell (by simp) _).trans (((Below.refl _ _).setCell (by simp) _).trans ((Below.refl _ _).setCell (by simp) _)))
 ·rw [if_neg N]at f
  split at f
  case isFalse=>cases f
  rename_i s
  injection f with f
  injection f with V q
  injection q with q G
  subst V
  have L:=Lib.hid (fun w=>Tryz.strings_TrimRight_one s1 48 (by decide) w (by omega))
  simp only [zkv,v]at L
  rw [q]at s
  simp only [q]at L
  have y:(kq (qj dg.data.toList)).length=d.size:=by rw [← q]; rfl
  rw [y,← i]at G s
  rw [G]at s
  have Q:=Lib.hid (za9 neg d e (by
   obtain ⟨k,h,_⟩:=yQ (qj dg.data.toList)
   have:=congrArg List.length h
   rw [List.length_append,y,← i]at this
   omega))
  simp only [s]at Q
  have z3:s1.toList.isEmpty=false:=by
   rw [wA]
   refine decide_eq_false (fun h=>N ?_)
   rw [i]at h
   exact List.eq_nil_of_length_eq_zero h
  have u:=Blk.new w #[.bool false,.string ⟨#[]⟩,.int .i64 0] 24
  have C:=Blk.new (w.alloc (.cells #[.bool false,.string ⟨#[]⟩,.int .i64 0] 24)) #[.bool false,.string ⟨#[]⟩,.int .i64 0] 24
  rw [World.size_alloc]at C
  have aa:d.size≤s1.size:=by
   obtain ⟨k,h,_⟩:=yQ (qj dg.data.toList)
   have:=congrArg List.length h
   rw [List.length_append,y,← i]at this
   omega
  have y5:wrap64 (ex+s1.size)=ex+s1.size:=by unfold wrap64; omega
  have y6:wrap64 (ex+s1.size - d.size)=e:=by rw [← G]; unfold wrap64; omega
  clear s y q t v i I o aa G
  refine jo Tryz.func205 rfl ?_
  simp only [Tryz.ntmps205,List.size_toArray,List.length_cons,List.length_nil,Nat.reduceAdd,Nat.reduceSub,Array.replicate_succ,Array.replicate_zero,List.push_toArray,List.append_toArray,List.nil_append,List.cons_append]
  go_wp2_with fail
  go_step3
  go_wp2_with fail
  refine (H.out _).mono ?_
  rintro x w1 ⟨rfl,rfl⟩
  go_wp2_with fail
  refine (M.out _).mono ?_
  rintro x w2 ⟨rfl,c⟩
  go_wp2_with fail
  refine (F.out _).mono ?_
  rintro x w3 ⟨rfl,rfl⟩
  go_wp2_with fail
  refine (L.out _).mono ?_
  rintro x w4 ⟨rfl,rfl⟩
  have r:=(u.alloc (.cells #[.bool false,.string ⟨#[]⟩,.int .i64 0] 24)).below c (u.alloc _).lt
  have g:=C.below c C.lt
  have c0:=g.cell 0
  have c1:=g.cell 1
  have c2:=g.cell 2
  have R:=g.frozen 0
  have S:=g.frozen 1
  have U:=g.frozen 2
  have A:Below w.heap.size w w4:=(((Below.refl _ w).alloc (Nat.le_refl _) _).alloc (by simp) _).trans (c.mono (by simp; omega))
  clear M H F L c u C
  go_wp2_with fail
  have D:=((g.set 0 (.bool neg)).set 1 (.string d)).set 2 (.int .i64 e)
  have E:=((r.other (b':=w.heap.size+1) (by omega) 0 (.bool neg)).other (b':=w.heap.size+1) (by omega) 1 (.string d)).other (b':=w.heap.size+1) (by omega) 2 (.int .i64 e)
  have B:=((A.setCell (p:=⟨w.heap.size+1,0,none⟩) (by simp) (.bool neg)).setCell (p:=⟨w.heap.size+1,1,none⟩) (by simp) (.string d)).setCell (p:=⟨w.heap.size+1,2,none⟩) (by simp) (.int .i64 e)
  clear c0 c1 c2 R S U r g A
  obtain ⟨W5,O⟩:∃ W,((w4.setCell ⟨w.heap.size+1,0,none⟩ (.bool neg)).setCell ⟨w.heap.size+1,1,none⟩ (.string d)).setCell ⟨w.heap.size+1,2,none⟩ (.int .i64 e)=W:=⟨_,rfl⟩
  rw [O]at D E B ⊢
  clear O
  refine (Q.out _).mono ?_
  rintro x X ⟨rfl,z⟩
  have m:=E.below z E.lt
  have K:=D.below z D.lt
  have Z:=B.trans (z.mono B.size)
  have c0:=m.cell 0
  have c1:=m.cell 1
  have c2:=m.cell 2
  have R:=m.frozen 0
  have S:=m.frozen 1
  have U:=m.frozen 2
  have d0:X.cell? ⟨w.heap.size+1,0,none⟩=some (.bool neg):=K.cell 0
  have d1:X.cell? ⟨w.heap.size+1,1,none⟩=some (.string d):=K.cell 1
  have d2:X.cell? ⟨w.heap.size+1,2,none⟩=some (.int .i64 e):=K.cell 2
  clear D E B Q z
  go_wp2_with fail
  rw [Exit.noGoto_ret]
  have ac:=((m.set 0 (.bool neg)).set 1 (.string d)).set 2 (.int .i64 e)
  refine leave0 (zo (T:=24) (b:=w.heap.size) rfl (by kernel_rfl) (by kernel_rfl) ac Tryz.underlying24 rfl (by kernel_rfl)) rfl ⟨rfl,?_⟩
  exact Z.trans (((Below.refl _ _).setCell (by simp) _).trans (((Below.refl _ _).setCell (by simp) _).trans ((Below.refl _ _).setCell (by simp) _)))
end Go.Proofs.YtonihophanmaaaaGreatDoor
