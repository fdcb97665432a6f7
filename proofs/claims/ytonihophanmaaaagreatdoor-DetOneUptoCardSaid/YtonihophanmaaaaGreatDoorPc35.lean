/- The texts CrJ, CrK, put together. -/
import Derived.Test.YtonihophanmaaaaGreatDoorPc34
import Derived.Test.YtonihophanmaaaaGreatDoorPc17
set_option maxHeartbeats 4000000
set_option maxRecDepth 100000
namespace Go.Proofs.YtonihophanmaaaaGreatDoor
open Go.RowKit Go.Shelf
theorem zhu {α:Type} {a:α} {p:Psr α} {l:List UInt8} (h:l.head?≠some 255):ky a p l=p l:=by
 cases l with
 | nil=>rfl
 | cons c r =>
  have hc:¬ c=255:=fun e=>h (by rw [e]; rfl)
  unfold ky
  simp [hc]
theorem zfz {α:Type} {a:α} {p:Psr α} {l:List UInt8} (h:l.head? = some 255):ky a p l=.good a (l.drop 1):=by
 cases l with
 | nil=>cases h
 | cons c r =>
  have hc:c=255:=by simpa using h
  subst hc
  rfl
def zdg (p:Nat) (W:World):Nat:=match W.cell? ⟨p,0,none⟩ with
 | some (.string s)=>s.size
 | _=>0
theorem vG {W:World} {p d:Nat} {s:ByteArray} (h:RdB W p s d):zdg p W=s.size:=by
 unfold zdg
 have:W.cell? ⟨p,0,none⟩=some (.string s):=h.cell 0
 rw [this]
theorem zkI (a b:ByteArray):(a++b).data.toList=a.data.toList++b.data.toList:=by
 rw [ByteArray.data_append,Array.toList_append]
theorem zh5 {maj:Nat} {l a r:List UInt8} (h:vd maj l=.good a r):a.length+r.length+1≤l.length:=zjm h
theorem zhr (F p d:Nat) (h:Nat×Nat×Nat) (s:ByteArray) (w:World) (hr:RdB w p s d) (hs:s.size≤1000000000) (hF:s.size<F) :
  Calls Tryz.prog 206 #[.pointer (some ⟨p,0,none⟩),qu h] w (xw p d w s (kV F h s.data.toList)):=by
 obtain ⟨q,T,u⟩:=h
 have aN:s.data.toList.length=s.size:=by simp
 have r:=(Below.refl w.heap.size w).alloc (Nat.le_refl _) (.cells #[.int .i64 q,.int .i64 T,.int .u64 u] 137)
 have n:=Blk.new w #[.int .i64 q,.int .i64 T,.int .u64 u] 137
 have l:=hr.below r hr.lt
 have z0:=n.cell 0
 have z1:=n.cell 1
 have Z:=n.cell 2
 have aF:=hr.lt
 have O:=Lib.hid (fun w=>xW q T u w)
 unfold kV
 by_cases R:T=31
 ·subst R
  rw [if_pos rfl]
  have ab:Hid (∀ w:World,Calls Tryz.prog 106 #[.agg #[.int .i64 q,.int .i64 31,.int .u64 u]] w fun x w'=>x=.returned (.bool true)∧Below w.heap.size w w'):=O
  obtain ⟨res,H⟩:∃ res,xz q F [] s.data.toList=res:=⟨_,rfl⟩
  show Calls _ _ _ _ (xw p d w s (xz q F [] s.data.toList))
  rw [H]
  have P:=Lib.hid H
  clear H O
  go_enter Tryz.func206,Tryz.ntmps206
  go_wp2_with fail
  refine (ab.out _).mono ?_
  rintro Q X ⟨rfl,i⟩
  have C:=n.below i n.lt
  have D:=l.below i l.lt
  have B:w.grownBy X (some p):=below_grown (r.trans (i.mono r.size)) _
  clear z0 z1 Z i l n r ab
  go_wp2_with fail
  go_loopw [6] (fun z wr=>∃ (f:Nat) (b a:ByteArray),z=.string b∧a.size<f∧b.size+a.size≤s.size∧Hid (xz q f b.data.toList a.data.toList=res)∧w.grownBy wr (some p)∧RdB wr p a d∧Blk wr w.heap.size #[.int .i64 q,.int .i64 31,.int .u64 u] 137) (fun _ wr=>zdg p wr)
  case atStart=>exact ⟨F,⟨#[]⟩,s,rfl,hF,by show 0+s.size≤s.size; omega,P,B,D,C⟩
  case round =>
   obtain ⟨f,b,a,rfl,hf,aO,I,hg,aj,ah⟩:=hrel
   clear P B D C
   obtain ⟨f,rfl⟩:∃ g,f=g+1:=⟨f - 1,by omega⟩
   have aB:=vG aj
   have N:=zfm p d a wr aj (by omega)
   by_cases j:a.data.toList.head? = some 255
   ·rw [if_pos j,decide_eq_true j]at N
    have hc:ky b.data.toList _ a.data.toList=res:=I.out
    rw [zfz j]at hc
    have M:(bs (a.data.toList.drop 1)).size≤s.size:=by
     rw [jR,List.length_drop]
     have:a.data.toList.length=a.size:=by simp
     omega
    have aw:b.data.toList.length≤s.size:=by
     have:b.data.toList.length=b.size:=by simp
     omega
    have ae:=zal b
    subst hc
    unfold xw
    simp only []
    rw [ae]
    obtain ⟨r1,l⟩:∃ r1,bs (a.data.toList.drop 1)=r1:=⟨_,rfl⟩
    rw [l]at N M ⊢
    have ac:=Lib.hid l
    clear j I l ae
    go_wp2_with fail
    refine N.mono ?_
    rintro Q w3 ⟨k,rfl,o⟩
    go_wp2_with fail
    refine bodyPost_ret (v:=.tuple #[.string b,.nilIface]) (by simp [results,Tryz.results206,go_sem]) rfl ⟨zu hg k,rfl,by rw [ac.out]; exact o,by rw [ac.out]; exact M,aw⟩
   ·rw [if_neg j,decide_eq_false j]at N
    have hc:ky b.data.toList (zS (vd q) fun c=>xz q f (b.data.toList++c)) a.data.toList=res:=I.out
    rw [zhu j]at hc
    have m:=Lib.hid (fun W (h:RdB W p a d)=>zkV p d q a W h (by omega))
    clear j I
    cases hck:vd q a.data.toList with
    | bad e =>
     rw [xi hck]at hc
     subst hc
     rw [hck]at m
     unfold xw at m ⊢
     simp only []at m ⊢
     obtain ⟨ev,A⟩:∃ ev,jD e=ev:=⟨_,rfl⟩
     have az:e≠0→∃ y,ev=.iface 144 y:=fun h=>⟨_,by rw [← A,xA h]⟩
     rw [A]at m ⊢
     clear hck A
     go_wp2_with fail
     refine N.mono ?_
     rintro Q w3 ⟨k,rfl,o⟩
     have t:=RdB.grown ah k (by omega)
     have y0:=t.cell 0
     have Y:=t.cell 1
     have y2:=t.cell 2
     go_wp2_with fail
     refine (m.out _ o).mono ?_
     rintro e2 w4 ⟨J,rfl,ai,s',L,aM⟩
     obtain ⟨y,rfl⟩:=az ai
     clear y0 Y y2
     go_wp2_with fail
     refine bodyPost_ret (v:=.tuple #[.string ⟨#[]⟩,.iface 144 y]) (by simp [results,Tryz.results206,go_sem]) rfl ⟨zu (zu hg k) J,rfl,ai,s',L,by omega⟩
    | good c r1 =>
     rw [qL hck]at hc
     rw [hck]at m
     have ax:=zh5 hck
     have M:a.data.toList.length=a.size:=by simp
     unfold xw at m
     simp only []at m
     have ay:=jR c
     have aC:=jR r1
     have S:xz q f (b++bs c).data.toList (bs r1).data.toList=res:=by
      rw [zkI]
      exact hc
     have ao:b.size+(bs c).size+(bs r1).size+1≤s.size:=by omega
     have ag:(bs r1).size<f:=by omega
     have U:(bs r1).size<a.size:=by omega
     obtain ⟨cb,af⟩:∃ cb,bs c=cb:=⟨_,rfl⟩
     obtain ⟨rb,V⟩:∃ rb,bs r1=rb:=⟨_,rfl⟩
     rw [af,V]at m ao S
     rw [V]at ag U
     have av:=Lib.hid S
     have y6:b.size+cb.size≤1000000000:=by omega
     clear hck hc S ax af V M ay aC
     go_wp2_with fail
     refine N.mono ?_
     rintro Q w3 ⟨k,rfl,o⟩
     have t:=RdB.grown ah k (by omega)
     have y0:=t.cell 0
     have Y:=t.cell 1
     have y2:=t.cell 2
     go_wp2_with fail
     refine (m.out _ o).mono ?_
     rintro e2 w4 ⟨J,rfl,L,aK,aL⟩
     have aA:=RdB.grown t J (by omega)
     clear y0 Y y2
     go_wp2_with fail
     go_roundw
     case rel=>exact ⟨f,b++cb,rb,rfl,ag,by rw [ByteArray.size_append]; omega,av,zu (zu hg k) J,L,aA⟩
     case measure=>rw [vG L,aB]; exact U
 ·rw [if_neg R]
  have Y:((T:Int) == 31)=false:=by rw [beq_eq_false_iff_ne]; omega
  rw [Y]at O
  have E:=Lib.hid (fun W (h:RdB W p s d)=>zfl p d u s W h hs)
  clear R
  show Calls _ _ _ _ (xw p d w s (qm u s.data.toList))
  unfold qm at E ⊢
  by_cases K:s.data.toList.length<u
  ·rw [if_pos K]at E ⊢
   unfold xw
   simp only []at E ⊢
   obtain ⟨ev,A⟩:∃ ev,jD 100=ev:=⟨_,rfl⟩
   rw [A]at E ⊢
   clear A K
   go_enter Tryz.func206,Tryz.ntmps206
   go_wp2_with fail
   refine (O.out _).mono ?_
   rintro Q X ⟨rfl,i⟩
   have C:=n.below i n.lt
   have D:=l.below i l.lt
   have B:w.grownBy X (some p):=below_grown (r.trans (i.mono r.size)) _
   clear z0 z1 Z
   have Z:=C.cell 2
   go_wp2_with fail
   refine (E.out _ D).mono ?_
   rintro e3 w3 ⟨k,rfl,o⟩
   go_wp2_with fail
   refine bodyPost_ret (v:=.tuple #[.string ⟨#[]⟩,ev]) (by simp [results,Tryz.results206,go_sem]) rfl ⟨zu B k,rfl,by decide,s,o,Nat.le_refl _⟩
  ·rw [if_neg K]at E ⊢
   unfold xw
   simp only []at E ⊢
   obtain ⟨a1,ad⟩:∃ a1,bs (s.data.toList.take u)=a1:=⟨_,rfl⟩
   obtain ⟨r1,G⟩:∃ r1,bs (s.data.toList.drop u)=r1:=⟨_,rfl⟩
   have an:r1.size≤s.size:=by rw [← G,jR,List.length_drop]; omega
   have ak:(s.data.toList.take u).length≤s.size:=by rw [List.length_take]; omega
   rw [ad,G]at E ⊢
   clear ad G K
   go_enter Tryz.func206,Tryz.ntmps206
   go_wp2_with fail
   refine (O.out _).mono ?_
   rintro Q X ⟨rfl,i⟩
   have C:=n.below i n.lt
   have D:=l.below i l.lt
   have B:w.grownBy X (some p):=below_grown (r.trans (i.mono r.size)) _
   clear z0 z1 Z
   have Z:=C.cell 2
   go_wp2_with fail
   refine (E.out _ D).mono ?_
   rintro e3 w3 ⟨k,rfl,o⟩
   go_wp2_with fail
   refine bodyPost_ret (v:=.tuple #[.string a1,.nilIface]) (by simp [results,Tryz.results206,go_sem]) rfl ⟨zu B k,rfl,o,an,ak⟩
def jc (p d D:Nat) (w:World) (s:ByteArray) (r:PR Tr) (x:Ending) (w':World):Prop:=
 w.grownBy w' (some p)∧match r with
  | .good t r=>(∃ A n c,x=.returned (.tuple #[ze t.own (.slice A n c),.nilIface])∧LAt w' (fun q=>w.heap.size≤q∧q<w'.heap.size) D t.kids (.slice A n c))∧zt t.own∧RdB w' p (bs r) d∧(bs r).size≤s.size
  | .bad e=>(∃ o A n c,x=.returned (.tuple #[ze o (.slice A n c),jD e]))∧e≠0∧∃ s',RdB w' p s' d∧s'.size≤s.size
def zn9 {α β:Type} (f:α→β):PR α→PR β
 | .good a r=>.good (f a) r
 | .bad e=>.bad e
theorem yd {α β:Type} (p:Psr α) (f:α→β) (l:List UInt8):zS p (fun a=>jC (f a)) l=zn9 f (p l):=by
 unfold zS
 cases p l <;> rfl
theorem zkY (p d:Nat) (h:Nat×Nat×Nat) (s:ByteArray) (w:World) (m:RdB w p s d) (M:h.2.1≤31) (v:h.2.2<18446744073709551616) :
  Calls Tryz.prog 149 #[.pointer (some ⟨p,0,none⟩),qu h] w (jc p d 0 w s (vr h s.data.toList)):=by
 obtain ⟨g,l,a⟩:=h
 simp only []at M v
 have k:=zal s
 have Z:(a:Int)<18446744073709551616:=by omega
 unfold vr
 simp only []
 by_cases B:l=20
 ·subst B
  rw [if_pos (.inl rfl)]
  show Calls _ _ _ _ (jc p d 0 w s (.good (boolT (decide ((20:Nat)=21))) s.data.toList))
  have c:=(Below.refl w.heap.size w).alloc (Nat.le_refl _) (.cells #[.int .i64 g,.int .i64 20,.int .u64 a] 137)
  have i:=c.alloc c.size (.cells #[.int .i64 2,.bool false,.bool false,.string ⟨#[]⟩,.int .i64 0,.int .u64 0,.int .i64 0,.string ⟨#[]⟩,.slice none 0 0] 28)
  have e:=(Blk.new w #[.int .i64 g,.int .i64 20,.int .u64 a] 137).alloc (.cells #[.int .i64 0,.bool false,.bool false,.string ⟨#[]⟩,.int .i64 0,.int .u64 0,.int .i64 0,.string ⟨#[]⟩,.slice none 0 0] 28)
  have f:=Blk.new (w.alloc (.cells #[.int .i64 g,.int .i64 20,.int .u64 a] 137)) #[.int .i64 2,.bool false,.bool false,.string ⟨#[]⟩,.int .i64 0,.int .u64 0,.int .i64 0,.string ⟨#[]⟩,.slice none 0 0] 28
  have j:=(m.alloc (.cells #[.int .i64 g,.int .i64 20,.int .u64 a] 137)).alloc (.cells #[.int .i64 2,.bool false,.bool false,.string ⟨#[]⟩,.int .i64 0,.int .u64 0,.int .i64 0,.string ⟨#[]⟩,.slice none 0 0] 28)
  rw [World.size_alloc]at f
  have o:=e.cell 0
  have q:=e.cell 1
  have r:=e.cell 2
  have n:=m.lt
  clear c
  go_enter Tryz.func149,Tryz.ntmps149
  go_wp2_with fail
  refine bodyPost_ret (zo (T:=28) rfl rfl rfl f Tryz.underlying28 rfl (by kernel_rfl)) rfl ?_
  exact ⟨below_grown i _,⟨none,0,0,rfl,LAt.nil _ _ _ _ _⟩,⟨by decide,by decide,by decide,by decide,by decide,by decide⟩,by rw [k]; exact j,by rw [k]; exact Nat.le_refl _⟩
 by_cases C:l=21
 ·subst C
  rw [if_pos (.inr rfl)]
  show Calls _ _ _ _ (jc p d 0 w s (.good (boolT (decide ((21:Nat)=21))) s.data.toList))
  have c:=(Below.refl w.heap.size w).alloc (Nat.le_refl _) (.cells #[.int .i64 g,.int .i64 21,.int .u64 a] 137)
  have i:=c.alloc c.size (.cells #[.int .i64 2,.bool true,.bool false,.string ⟨#[]⟩,.int .i64 0,.int .u64 0,.int .i64 0,.string ⟨#[]⟩,.slice none 0 0] 28)
  have e:=(Blk.new w #[.int .i64 g,.int .i64 21,.int .u64 a] 137).alloc (.cells #[.int .i64 0,.bool false,.bool false,.string ⟨#[]⟩,.int .i64 0,.int .u64 0,.int .i64 0,.string ⟨#[]⟩,.slice none 0 0] 28)
  have f:=Blk.new (w.alloc (.cells #[.int .i64 g,.int .i64 21,.int .u64 a] 137)) #[.int .i64 2,.bool true,.bool false,.string ⟨#[]⟩,.int .i64 0,.int .u64 0,.int .i64 0,.string ⟨#[]⟩,.slice none 0 0] 28
  have j:=(m.alloc (.cells #[.int .i64 g,.int .i64 21,.int .u64 a] 137)).alloc (.cells #[.int .i64 2,.bool true,.bool false,.string ⟨#[]⟩,.int .i64 0,.int .u64 0,.int .i64 0,.string ⟨#[]⟩,.slice none 0 0] 28)
  rw [World.size_alloc]at f
  have o:=e.cell 0
  have q:=e.cell 1
  have r:=e.cell 2
  have n:=m.lt
  clear c
  go_enter Tryz.func149,Tryz.ntmps149
  go_wp2_with fail
  refine bodyPost_ret (zo (T:=28) rfl rfl rfl f Tryz.underlying28 rfl (by kernel_rfl)) rfl ?_
  exact ⟨below_grown i _,⟨none,0,0,rfl,LAt.nil _ _ _ _ _⟩,⟨by decide,by decide,by decide,by decide,by decide,by decide⟩,by rw [k]; exact j,by rw [k]; exact Nat.le_refl _⟩
 rw [if_neg (fun h=>h.elim B C)]
 by_cases D:l=22
 ·subst D
  rw [if_pos rfl]
  show Calls _ _ _ _ (jc p d 0 w s (.good zlz s.data.toList))
  have c:=(Below.refl w.heap.size w).alloc (Nat.le_refl _) (.cells #[.int .i64 g,.int .i64 22,.int .u64 a] 137)
  have i:=c.alloc c.size (.cells #[.int .i64 1,.bool false,.bool false,.string ⟨#[]⟩,.int .i64 0,.int .u64 0,.int .i64 0,.string ⟨#[]⟩,.slice none 0 0] 28)
  have e:=(Blk.new w #[.int .i64 g,.int .i64 22,.int .u64 a] 137).alloc (.cells #[.int .i64 0,.bool false,.bool false,.string ⟨#[]⟩,.int .i64 0,.int .u64 0,.int .i64 0,.string ⟨#[]⟩,.slice none 0 0] 28)
  have f:=Blk.new (w.alloc (.cells #[.int .i64 g,.int .i64 22,.int .u64 a] 137)) #[.int .i64 1,.bool false,.bool false,.string ⟨#[]⟩,.int .i64 0,.int .u64 0,.int .i64 0,.string ⟨#[]⟩,.slice none 0 0] 28
  have j:=(m.alloc (.cells #[.int .i64 g,.int .i64 22,.int .u64 a] 137)).alloc (.cells #[.int .i64 1,.bool false,.bool false,.string ⟨#[]⟩,.int .i64 0,.int .u64 0,.int .i64 0,.string ⟨#[]⟩,.slice none 0 0] 28)
  rw [World.size_alloc]at f
  have o:=e.cell 0
  have q:=e.cell 1
  have r:=e.cell 2
  have n:=m.lt
  clear c
  go_enter Tryz.func149,Tryz.ntmps149
  go_wp2_with fail
  refine bodyPost_ret (zo (T:=28) rfl rfl rfl f Tryz.underlying28 rfl (by kernel_rfl)) rfl ?_
  exact ⟨below_grown i _,⟨none,0,0,rfl,LAt.nil _ _ _ _ _⟩,⟨by decide,by decide,by decide,by decide,by decide,by decide⟩,by rw [k]; exact j,by rw [k]; exact Nat.le_refl _⟩
 rw [if_neg D]
 by_cases E:l=24
 ·subst E
  rw [if_pos rfl]
  by_cases A:a<32
  ·rw [if_pos A]
   have O:(a:Int)<32:=by omega
   show Calls _ _ _ _ (jc p d 0 w s (.bad 110))
   have x:=Lib.hid (fun (W:World) (b:Nat) (K:Blk W b #[.int .i64 110] 29)=>xj b 110 W K)
   rw [if_neg (by decide)]at x
   have c:=(Below.refl w.heap.size w).alloc (Nat.le_refl _) (.cells #[.int .i64 g,.int .i64 24,.int .u64 a] 137)
   have i:=c.alloc c.size (.cells #[.int .i64 0,.bool false,.bool false,.string ⟨#[]⟩,.int .i64 0,.int .u64 0,.int .i64 0,.string ⟨#[]⟩,.slice none 0 0] 28)
   have e:=(Blk.new w #[.int .i64 g,.int .i64 24,.int .u64 a] 137).alloc (.cells #[.int .i64 0,.bool false,.bool false,.string ⟨#[]⟩,.int .i64 0,.int .u64 0,.int .i64 0,.string ⟨#[]⟩,.slice none 0 0] 28)
   have f:=Blk.new (w.alloc (.cells #[.int .i64 g,.int .i64 24,.int .u64 a] 137)) #[.int .i64 0,.bool false,.bool false,.string ⟨#[]⟩,.int .i64 0,.int .u64 0,.int .i64 0,.string ⟨#[]⟩,.slice none 0 0] 28
   have j:=(m.alloc (.cells #[.int .i64 g,.int .i64 24,.int .u64 a] 137)).alloc (.cells #[.int .i64 0,.bool false,.bool false,.string ⟨#[]⟩,.int .i64 0,.int .u64 0,.int .i64 0,.string ⟨#[]⟩,.slice none 0 0] 28)
   rw [World.size_alloc]at f
   have o:=e.cell 0
   have q:=e.cell 1
   have r:=e.cell 2
   have n:=m.lt
   clear c
   have u:=Blk.new ((w.alloc (.cells #[.int .i64 g,.int .i64 24,.int .u64 a] 137)).alloc (.cells #[.int .i64 0,.bool false,.bool false,.string ⟨#[]⟩,.int .i64 0,.int .u64 0,.int .i64 0,.string ⟨#[]⟩,.slice none 0 0] 28)) #[.int .i64 110] 29
   simp only [World.size_alloc]at u
   have t:=f.alloc (.cells #[.int .i64 110] 29)
   have z:=j.alloc (.cells #[.int .i64 110] 29)
   have y:=i.alloc i.size (.cells #[.int .i64 110] 29)
   go_enter Tryz.func149,Tryz.ntmps149
   go_wp2_with fail
   refine (x.out _ _ u).mono ?_
   rintro L N ⟨rfl,rfl⟩
   go_wp2_with (refine wpList_store_row rfl 28 (.tmp 4) (.tmp 23) rfl (w.heap.size+1) #[.int .i64 0,.bool false,.bool false,.string ⟨#[]⟩,.int .i64 0,.int .u64 0,.int .i64 0,.string ⟨#[]⟩,.slice none 0 0] rfl rfl 28 _ t (by kernel_rfl) rfl (by simp [Value.oneCell']) ?_)
   have J:=xK (p:=p) y (Nat.le_succ w.heap.size) #[.int .i64 0,.bool false,.bool false,.string ⟨#[]⟩,.int .i64 0,.int .u64 0,.int .i64 0,.string ⟨#[]⟩,.slice none 0 0]
   refine bodyPost_ret (zo (T:=28) rfl rfl rfl (zB t #[.int .i64 0,.bool false,.bool false,.string ⟨#[]⟩,.int .i64 0,.int .u64 0,.int .i64 0,.string ⟨#[]⟩,.slice none 0 0]) Tryz.underlying28 rfl (by kernel_rfl)) rfl ?_
   exact ⟨J,⟨zv,none,0,0,rfl⟩,by decide,s,zH z (by omega) _,Nat.le_refl _⟩
  ·rw [if_neg A]
   have O:¬ (a:Int)<32:=by omega
   show Calls _ _ _ _ (jc p d 0 w s (.good (wH a) s.data.toList))
   have c:=(Below.refl w.heap.size w).alloc (Nat.le_refl _) (.cells #[.int .i64 g,.int .i64 24,.int .u64 a] 137)
   have i:=c.alloc c.size (.cells #[.int .i64 10,.bool false,.bool false,.string ⟨#[]⟩,.int .i64 0,.int .u64 a,.int .i64 0,.string ⟨#[]⟩,.slice none 0 0] 28)
   have e:=(Blk.new w #[.int .i64 g,.int .i64 24,.int .u64 a] 137).alloc (.cells #[.int .i64 0,.bool false,.bool false,.string ⟨#[]⟩,.int .i64 0,.int .u64 0,.int .i64 0,.string ⟨#[]⟩,.slice none 0 0] 28)
   have f:=Blk.new (w.alloc (.cells #[.int .i64 g,.int .i64 24,.int .u64 a] 137)) #[.int .i64 10,.bool false,.bool false,.string ⟨#[]⟩,.int .i64 0,.int .u64 a,.int .i64 0,.string ⟨#[]⟩,.slice none 0 0] 28
   have j:=(m.alloc (.cells #[.int .i64 g,.int .i64 24,.int .u64 a] 137)).alloc (.cells #[.int .i64 10,.bool false,.bool false,.string ⟨#[]⟩,.int .i64 0,.int .u64 a,.int .i64 0,.string ⟨#[]⟩,.slice none 0 0] 28)
   rw [World.size_alloc]at f
   have o:=e.cell 0
   have q:=e.cell 1
   have r:=e.cell 2
   have n:=m.lt
   clear c
   go_enter Tryz.func149,Tryz.ntmps149
   go_wp2_with fail
   refine bodyPost_ret (zo (T:=28) rfl rfl rfl f Tryz.underlying28 rfl (by kernel_rfl)) rfl ?_
   exact ⟨below_grown i _,⟨none,0,0,rfl,LAt.nil _ _ _ _ _⟩,zaz 10 a 0 (by decide) v (by decide),by rw [k]; exact j,by rw [k]; exact Nat.le_refl _⟩
 rw [if_neg E]
 by_cases F:l=25
 ·subst F
  rw [if_pos rfl]
  show Calls _ _ _ _ (jc p d 0 w s (.good (kX a 16) s.data.toList))
  have c:=(Below.refl w.heap.size w).alloc (Nat.le_refl _) (.cells #[.int .i64 g,.int .i64 25,.int .u64 a] 137)
  have i:=c.alloc c.size (.cells #[.int .i64 4,.bool false,.bool false,.string ⟨#[]⟩,.int .i64 0,.int .u64 a,.int .i64 16,.string ⟨#[]⟩,.slice none 0 0] 28)
  have e:=(Blk.new w #[.int .i64 g,.int .i64 25,.int .u64 a] 137).alloc (.cells #[.int .i64 0,.bool false,.bool false,.string ⟨#[]⟩,.int .i64 0,.int .u64 0,.int .i64 0,.string ⟨#[]⟩,.slice none 0 0] 28)
  have f:=Blk.new (w.alloc (.cells #[.int .i64 g,.int .i64 25,.int .u64 a] 137)) #[.int .i64 4,.bool false,.bool false,.string ⟨#[]⟩,.int .i64 0,.int .u64 a,.int .i64 16,.string ⟨#[]⟩,.slice none 0 0] 28
  have j:=(m.alloc (.cells #[.int .i64 g,.int .i64 25,.int .u64 a] 137)).alloc (.cells #[.int .i64 4,.bool false,.bool false,.string ⟨#[]⟩,.int .i64 0,.int .u64 a,.int .i64 16,.string ⟨#[]⟩,.slice none 0 0] 28)
  rw [World.size_alloc]at f
  have o:=e.cell 0
  have q:=e.cell 1
  have r:=e.cell 2
  have n:=m.lt
  clear c
  go_enter Tryz.func149,Tryz.ntmps149
  go_wp2_with fail
  go_region
  all_goals (
   go_wp2_with fail
   refine bodyPost_ret (zo (T:=28) rfl rfl rfl (Blk.drew f) Tryz.underlying28 rfl (by kernel_rfl)) rfl ?_
   exact ⟨below_grown (Below.drew i) _,⟨none,0,0,rfl,LAt.nil _ _ _ _ _⟩,zaz 4 a 16 (by decide) v (by decide),by rw [k]; exact Blk.drew j,by rw [k]; exact Nat.le_refl _⟩)
 rw [if_neg F]
 by_cases G:l=26
 ·subst G
  rw [if_pos rfl]
  show Calls _ _ _ _ (jc p d 0 w s (.good (kX a 32) s.data.toList))
  have c:=(Below.refl w.heap.size w).alloc (Nat.le_refl _) (.cells #[.int .i64 g,.int .i64 26,.int .u64 a] 137)
  have i:=c.alloc c.size (.cells #[.int .i64 4,.bool false,.bool false,.string ⟨#[]⟩,.int .i64 0,.int .u64 a,.int .i64 32,.string ⟨#[]⟩,.slice none 0 0] 28)
  have e:=(Blk.new w #[.int .i64 g,.int .i64 26,.int .u64 a] 137).alloc (.cells #[.int .i64 0,.bool false,.bool false,.string ⟨#[]⟩,.int .i64 0,.int .u64 0,.int .i64 0,.string ⟨#[]⟩,.slice none 0 0] 28)
  have f:=Blk.new (w.alloc (.cells #[.int .i64 g,.int .i64 26,.int .u64 a] 137)) #[.int .i64 4,.bool false,.bool false,.string ⟨#[]⟩,.int .i64 0,.int .u64 a,.int .i64 32,.string ⟨#[]⟩,.slice none 0 0] 28
  have j:=(m.alloc (.cells #[.int .i64 g,.int .i64 26,.int .u64 a] 137)).alloc (.cells #[.int .i64 4,.bool false,.bool false,.string ⟨#[]⟩,.int .i64 0,.int .u64 a,.int .i64 32,.string ⟨#[]⟩,.slice none 0 0] 28)
  rw [World.size_alloc]at f
  have o:=e.cell 0
  have q:=e.cell 1
  have r:=e.cell 2
  have n:=m.lt
  clear c
  go_enter Tryz.func149,Tryz.ntmps149
  go_wp2_with fail
  go_region
  all_goals (
   go_wp2_with fail
   refine bodyPost_ret (zo (T:=28) rfl rfl rfl (Blk.drew f) Tryz.underlying28 rfl (by kernel_rfl)) rfl ?_
   exact ⟨below_grown (Below.drew i) _,⟨none,0,0,rfl,LAt.nil _ _ _ _ _⟩,zaz 4 a 32 (by decide) v (by decide),by rw [k]; exact Blk.drew j,by rw [k]; exact Nat.le_refl _⟩)
 rw [if_neg G]
 by_cases H:l=27
 ·subst H
  rw [if_pos rfl]
  show Calls _ _ _ _ (jc p d 0 w s (.good (kX a 64) s.data.toList))
  have c:=(Below.refl w.heap.size w).alloc (Nat.le_refl _) (.cells #[.int .i64 g,.int .i64 27,.int .u64 a] 137)
  have i:=c.alloc c.size (.cells #[.int .i64 4,.bool false,.bool false,.string ⟨#[]⟩,.int .i64 0,.int .u64 a,.int .i64 64,.string ⟨#[]⟩,.slice none 0 0] 28)
  have e:=(Blk.new w #[.int .i64 g,.int .i64 27,.int .u64 a] 137).alloc (.cells #[.int .i64 0,.bool false,.bool false,.string ⟨#[]⟩,.int .i64 0,.int .u64 0,.int .i64 0,.string ⟨#[]⟩,.slice none 0 0] 28)
  have f:=Blk.new (w.alloc (.cells #[.int .i64 g,.int .i64 27,.int .u64 a] 137)) #[.int .i64 4,.bool false,.bool false,.string ⟨#[]⟩,.int .i64 0,.int .u64 a,.int .i64 64,.string ⟨#[]⟩,.slice none 0 0] 28
  have j:=(m.alloc (.cells #[.int .i64 g,.int .i64 27,.int .u64 a] 137)).alloc (.cells #[.int .i64 4,.bool false,.bool false,.string ⟨#[]⟩,.int .i64 0,.int .u64 a,.int .i64 64,.string ⟨#[]⟩,.slice none 0 0] 28)
  rw [World.size_alloc]at f
  have o:=e.cell 0
  have q:=e.cell 1
  have r:=e.cell 2
  have n:=m.lt
  clear c
  go_enter Tryz.func149,Tryz.ntmps149
  go_wp2_with fail
  go_region
  all_goals (
   go_wp2_with fail
   refine bodyPost_ret (zo (T:=28) rfl rfl rfl (Blk.drew f) Tryz.underlying28 rfl (by kernel_rfl)) rfl ?_
   exact ⟨below_grown (Below.drew i) _,⟨none,0,0,rfl,LAt.nil _ _ _ _ _⟩,zaz 4 a 64 (by decide) v (by decide),by rw [k]; exact Blk.drew j,by rw [k]; exact Nat.le_refl _⟩)
 rw [if_neg H]
 by_cases I:l=31
 ·subst I
  rw [if_pos rfl]
  show Calls _ _ _ _ (jc p d 0 w s (.bad 110))
  have x:=Lib.hid (fun (W:World) (b:Nat) (K:Blk W b #[.int .i64 110] 29)=>xj b 110 W K)
  rw [if_neg (by decide)]at x
  have c:=(Below.refl w.heap.size w).alloc (Nat.le_refl _) (.cells #[.int .i64 g,.int .i64 31,.int .u64 a] 137)
  have i:=c.alloc c.size (.cells #[.int .i64 0,.bool false,.bool false,.string ⟨#[]⟩,.int .i64 0,.int .u64 0,.int .i64 0,.string ⟨#[]⟩,.slice none 0 0] 28)
  have e:=(Blk.new w #[.int .i64 g,.int .i64 31,.int .u64 a] 137).alloc (.cells #[.int .i64 0,.bool false,.bool false,.string ⟨#[]⟩,.int .i64 0,.int .u64 0,.int .i64 0,.string ⟨#[]⟩,.slice none 0 0] 28)
  have f:=Blk.new (w.alloc (.cells #[.int .i64 g,.int .i64 31,.int .u64 a] 137)) #[.int .i64 0,.bool false,.bool false,.string ⟨#[]⟩,.int .i64 0,.int .u64 0,.int .i64 0,.string ⟨#[]⟩,.slice none 0 0] 28
  have j:=(m.alloc (.cells #[.int .i64 g,.int .i64 31,.int .u64 a] 137)).alloc (.cells #[.int .i64 0,.bool false,.bool false,.string ⟨#[]⟩,.int .i64 0,.int .u64 0,.int .i64 0,.string ⟨#[]⟩,.slice none 0 0] 28)
  rw [World.size_alloc]at f
  have o:=e.cell 0
  have q:=e.cell 1
  have r:=e.cell 2
  have n:=m.lt
  clear c
  have u:=Blk.new ((w.alloc (.cells #[.int .i64 g,.int .i64 31,.int .u64 a] 137)).alloc (.cells #[.int .i64 0,.bool false,.bool false,.string ⟨#[]⟩,.int .i64 0,.int .u64 0,.int .i64 0,.string ⟨#[]⟩,.slice none 0 0] 28)) #[.int .i64 110] 29
  simp only [World.size_alloc]at u
  have t:=f.alloc (.cells #[.int .i64 110] 29)
  have z:=j.alloc (.cells #[.int .i64 110] 29)
  have y:=i.alloc i.size (.cells #[.int .i64 110] 29)
  go_enter Tryz.func149,Tryz.ntmps149
  go_wp2_with fail
  refine (x.out _ _ u).mono ?_
  rintro L N ⟨rfl,rfl⟩
  go_wp2_with (refine wpList_store_row rfl 28 (.tmp 4) (.tmp 39) rfl (w.heap.size+1) #[.int .i64 0,.bool false,.bool false,.string ⟨#[]⟩,.int .i64 0,.int .u64 0,.int .i64 0,.string ⟨#[]⟩,.slice none 0 0] rfl rfl 28 _ t (by kernel_rfl) rfl (by simp [Value.oneCell']) ?_)
  have J:=xK (p:=p) y (Nat.le_succ w.heap.size) #[.int .i64 0,.bool false,.bool false,.string ⟨#[]⟩,.int .i64 0,.int .u64 0,.int .i64 0,.string ⟨#[]⟩,.slice none 0 0]
  refine bodyPost_ret (zo (T:=28) rfl rfl rfl (zB t #[.int .i64 0,.bool false,.bool false,.string ⟨#[]⟩,.int .i64 0,.int .u64 0,.int .i64 0,.string ⟨#[]⟩,.slice none 0 0]) Tryz.underlying28 rfl (by kernel_rfl)) rfl ?_
  exact ⟨J,⟨zv,none,0,0,rfl⟩,by decide,s,zH z (by omega) _,Nat.le_refl _⟩
 rw [if_neg I]
 have P:((l:Int) == 20)=false:=by rw [beq_eq_false_iff_ne]; omega
 have Q:((l:Int) == 21)=false:=by rw [beq_eq_false_iff_ne]; omega
 have R:((l:Int) == 22)=false:=by rw [beq_eq_false_iff_ne]; omega
 have S:((l:Int) == 24)=false:=by rw [beq_eq_false_iff_ne]; omega
 have U:((l:Int) == 25)=false:=by rw [beq_eq_false_iff_ne]; omega
 have V:((l:Int) == 26)=false:=by rw [beq_eq_false_iff_ne]; omega
 have X:((l:Int) == 27)=false:=by rw [beq_eq_false_iff_ne]; omega
 have Y:((l:Int) == 31)=false:=by rw [beq_eq_false_iff_ne]; omega
 show Calls _ _ _ _ (jc p d 0 w s (.good (wH a) s.data.toList))
 have c:=(Below.refl w.heap.size w).alloc (Nat.le_refl _) (.cells #[.int .i64 g,.int .i64 l,.int .u64 a] 137)
 have i:=c.alloc c.size (.cells #[.int .i64 10,.bool false,.bool false,.string ⟨#[]⟩,.int .i64 0,.int .u64 a,.int .i64 0,.string ⟨#[]⟩,.slice none 0 0] 28)
 have e:=(Blk.new w #[.int .i64 g,.int .i64 l,.int .u64 a] 137).alloc (.cells #[.int .i64 0,.bool false,.bool false,.string ⟨#[]⟩,.int .i64 0,.int .u64 0,.int .i64 0,.string ⟨#[]⟩,.slice none 0 0] 28)
 have f:=Blk.new (w.alloc (.cells #[.int .i64 g,.int .i64 l,.int .u64 a] 137)) #[.int .i64 10,.bool false,.bool false,.string ⟨#[]⟩,.int .i64 0,.int .u64 a,.int .i64 0,.string ⟨#[]⟩,.slice none 0 0] 28
 have j:=(m.alloc (.cells #[.int .i64 g,.int .i64 l,.int .u64 a] 137)).alloc (.cells #[.int .i64 10,.bool false,.bool false,.string ⟨#[]⟩,.int .i64 0,.int .u64 a,.int .i64 0,.string ⟨#[]⟩,.slice none 0 0] 28)
 rw [World.size_alloc]at f
 have o:=e.cell 0
 have q:=e.cell 1
 have r:=e.cell 2
 have n:=m.lt
 clear c
 go_enter Tryz.func149,Tryz.ntmps149
 go_wp2_with fail
 refine bodyPost_ret (zo (T:=28) rfl rfl rfl f Tryz.underlying28 rfl (by kernel_rfl)) rfl ?_
 exact ⟨below_grown i _,⟨none,0,0,rfl,LAt.nil _ _ _ _ _⟩,zaz 10 a 0 (by decide) v (by decide),by rw [k]; exact j,by rw [k]; exact Nat.le_refl _⟩
theorem zml (k:Int) (s:ByteArray) (a:0≤k∧k≤100) (b:s.size≤1000000000):zt { zv with kind:=k,s:=s }:=
 ⟨by show (0:Nat)≤_; omega,by show s.size≤_; omega,by show _≤k∧k<_; omega,by show _≤(0:Int)∧(0:Int)<_; omega,by show (0:Int)≤(0:Int)∧(0:Int)<_; omega,by show _≤(0:Int)∧(0:Int)<_; omega⟩
theorem zjn (F p d hm hi ha:Nat) (hmm:hm=2∨hm=3) (s:ByteArray) (w:World) (hr:RdB w p s d) (hs:s.size≤1000000000) (hF:s.size<F) :
  Calls Tryz.prog 146 #[.pointer (some ⟨p,0,none⟩),qu (hm,hi,ha)] w (jc p d 0 w s (zS (kV F (hm,hi,ha)) (fun s=>jC (kU (znP hm) s)) s.data.toList)):=by
 rcases hmm with rfl|rfl
 ·have HT:=Lib.hid (fun W (hR:RdB W p s d)=>zhr F p d (2,hi,ha) s W hR hs hF)
  have hb1:=(Below.refl w.heap.size w).alloc (Nat.le_refl _) (.cells #[.int .i64 2,.int .i64 hi,.int .u64 ha] 137)
  have hb2:=hb1.alloc hb1.size (.cells #[.int .i64 0,.bool false,.bool false,.string ⟨#[]⟩,.int .i64 0,.int .u64 0,.int .i64 0,.string ⟨#[]⟩,.slice none 0 0] 28)
  have hk1:=(Blk.new w #[.int .i64 2,.int .i64 hi,.int .u64 ha] 137).alloc (.cells #[.int .i64 0,.bool false,.bool false,.string ⟨#[]⟩,.int .i64 0,.int .u64 0,.int .i64 0,.string ⟨#[]⟩,.slice none 0 0] 28)
  have hk2:=Blk.new (w.alloc (.cells #[.int .i64 2,.int .i64 hi,.int .u64 ha] 137)) #[.int .i64 0,.bool false,.bool false,.string ⟨#[]⟩,.int .i64 0,.int .u64 0,.int .i64 0,.string ⟨#[]⟩,.slice none 0 0] 28
  have hr2:=(hr.alloc (.cells #[.int .i64 2,.int .i64 hi,.int .u64 ha] 137)).alloc (.cells #[.int .i64 0,.bool false,.bool false,.string ⟨#[]⟩,.int .i64 0,.int .u64 0,.int .i64 0,.string ⟨#[]⟩,.slice none 0 0] 28)
  rw [World.size_alloc]at hk2
  have z0:=hk1.cell 0
  have z1:=hk1.cell 1
  have z2:=hk1.cell 2
  have hplt:=hr.lt
  obtain ⟨res,hres⟩:∃ res,kV F (2,hi,ha) s.data.toList=res:=⟨_,rfl⟩
  rw [hres]at HT
  show Calls _ _ _ _ (jc p d 0 w s (zS (kV F (2,hi,ha)) (fun s=>jC (kU 6 s)) s.data.toList))
  have hbp:=yd (kV F (2,hi,ha)) (kU 6) s.data.toList
  rw [hres]at hbp
  rw [hbp]
  clear hres hbp hb1
  cases res with
  | bad e =>
   have HT:Hid (∀ W:World,RdB W p s d→Calls Tryz.prog 206 #[.pointer (some ⟨p,0,none⟩),.agg #[.int .i64 2,.int .i64 hi,.int .u64 ha]] W fun x w'=>W.grownBy w' (some p)∧x=.returned (.tuple #[.string ⟨#[]⟩,jD e])∧e≠0∧∃ s',RdB w' p s' d∧s'.size≤s.size):=HT
   show Calls _ _ _ _ (jc p d 0 w s (.bad e))
   go_enter Tryz.func146,Tryz.ntmps146
   go_wp2_with fail
   refine (HT.out _ hr2).mono ?_
   rintro e1 w3 ⟨hg3,rfl,he,s',hr3,hs3⟩
   have hk3:=RdB.grown hk2 hg3 (by omega)
   go_wp2_with (refine wpList_store_row rfl 28 (.tmp 4) (.tmp 20) rfl (w.heap.size+1) #[.int .i64 6,.bool false,.bool false,.string ⟨#[]⟩,.int .i64 0,.int .u64 0,.int .i64 0,.string ⟨#[]⟩,.slice none 0 0] rfl rfl 28 _ hk3 (by kernel_rfl) rfl (by simp [Value.oneCell']) ?_)
   have hg:=jE (zu (below_grown hb2 (some p)) hg3) (zx w3 (w.heap.size+1) #[.int .i64 6,.bool false,.bool false,.string ⟨#[]⟩,.int .i64 0,.int .u64 0,.int .i64 0,.string ⟨#[]⟩,.slice none 0 0]) (Nat.le_succ w.heap.size)
   refine bodyPost_ret (zo (T:=28) rfl rfl rfl (zB hk3 #[.int .i64 6,.bool false,.bool false,.string ⟨#[]⟩,.int .i64 0,.int .u64 0,.int .i64 0,.string ⟨#[]⟩,.slice none 0 0]) Tryz.underlying28 rfl (by kernel_rfl)) rfl ?_
   exact ⟨hg,⟨{ zv with kind:=6 },none,0,0,rfl⟩,he,s',zH hr3 (by omega) _,hs3⟩
  | good a r =>
   have HT:Hid (∀ W:World,RdB W p s d→Calls Tryz.prog 206 #[.pointer (some ⟨p,0,none⟩),.agg #[.int .i64 2,.int .i64 hi,.int .u64 ha]] W fun x w'=>W.grownBy w' (some p)∧x=.returned (.tuple #[.string (bs a),.nilIface])∧RdB w' p (bs r) d∧(bs r).size≤s.size∧a.length≤s.size):=HT
   show Calls _ _ _ _ (jc p d 0 w s (.good (kU 6 a) r))
   have hab:(kU 6 a).own={ zv with kind:=6,s:=bs a }:=rfl
   have hbz:=jR a
   obtain ⟨ab,habe⟩:∃ ab,bs a=ab:=⟨_,rfl⟩
   rw [habe]at HT hab hbz
   have HAB:=Lib.hid hab
   clear hab habe
   go_enter Tryz.func146,Tryz.ntmps146
   go_wp2_with fail
   refine (HT.out _ hr2).mono ?_
   rintro e1 w3 ⟨hg3,rfl,hr3,hs3,hs4⟩
   have hk3:=RdB.grown hk2 hg3 (by omega)
   go_wp2_with (refine wpList_store_row rfl 28 (.tmp 4) (.tmp 20) rfl (w.heap.size+1) #[.int .i64 6,.bool false,.bool false,.string ⟨#[]⟩,.int .i64 0,.int .u64 0,.int .i64 0,.string ab,.slice none 0 0] rfl rfl 28 _ hk3 (by kernel_rfl) rfl (by simp [Value.oneCell']) ?_)
   have hg:=jE (zu (below_grown hb2 (some p)) hg3) (zx w3 (w.heap.size+1) #[.int .i64 6,.bool false,.bool false,.string ⟨#[]⟩,.int .i64 0,.int .u64 0,.int .i64 0,.string ab,.slice none 0 0]) (Nat.le_succ w.heap.size)
   refine bodyPost_ret (zo (T:=28) rfl rfl rfl (zB hk3 #[.int .i64 6,.bool false,.bool false,.string ⟨#[]⟩,.int .i64 0,.int .u64 0,.int .i64 0,.string ab,.slice none 0 0]) Tryz.underlying28 rfl (by kernel_rfl)) rfl ?_
   refine ⟨hg,⟨none,0,0,by rw [HAB.out]; rfl,LAt.nil _ _ _ _ _⟩,by rw [HAB.out]; exact zml 6 ab (by decide) (by omega),zH hr3 (by omega) _,hs3⟩
 ·have HT:=Lib.hid (fun W (hR:RdB W p s d)=>zhr F p d (3,hi,ha) s W hR hs hF)
  have hb1:=(Below.refl w.heap.size w).alloc (Nat.le_refl _) (.cells #[.int .i64 3,.int .i64 hi,.int .u64 ha] 137)
  have hb2:=hb1.alloc hb1.size (.cells #[.int .i64 0,.bool false,.bool false,.string ⟨#[]⟩,.int .i64 0,.int .u64 0,.int .i64 0,.string ⟨#[]⟩,.slice none 0 0] 28)
  have hk1:=(Blk.new w #[.int .i64 3,.int .i64 hi,.int .u64 ha] 137).alloc (.cells #[.int .i64 0,.bool false,.bool false,.string ⟨#[]⟩,.int .i64 0,.int .u64 0,.int .i64 0,.string ⟨#[]⟩,.slice none 0 0] 28)
  have hk2:=Blk.new (w.alloc (.cells #[.int .i64 3,.int .i64 hi,.int .u64 ha] 137)) #[.int .i64 0,.bool false,.bool false,.string ⟨#[]⟩,.int .i64 0,.int .u64 0,.int .i64 0,.string ⟨#[]⟩,.slice none 0 0] 28
  have hr2:=(hr.alloc (.cells #[.int .i64 3,.int .i64 hi,.int .u64 ha] 137)).alloc (.cells #[.int .i64 0,.bool false,.bool false,.string ⟨#[]⟩,.int .i64 0,.int .u64 0,.int .i64 0,.string ⟨#[]⟩,.slice none 0 0] 28)
  rw [World.size_alloc]at hk2
  have z0:=hk1.cell 0
  have z1:=hk1.cell 1
  have z2:=hk1.cell 2
  have hplt:=hr.lt
  obtain ⟨res,hres⟩:∃ res,kV F (3,hi,ha) s.data.toList=res:=⟨_,rfl⟩
  rw [hres]at HT
  show Calls _ _ _ _ (jc p d 0 w s (zS (kV F (3,hi,ha)) (fun s=>jC (kU 5 s)) s.data.toList))
  have hbp:=yd (kV F (3,hi,ha)) (kU 5) s.data.toList
  rw [hres]at hbp
  rw [hbp]
  clear hres hbp hb1
  cases res with
  | bad e =>
   have HT:Hid (∀ W:World,RdB W p s d→Calls Tryz.prog 206 #[.pointer (some ⟨p,0,none⟩),.agg #[.int .i64 3,.int .i64 hi,.int .u64 ha]] W fun x w'=>W.grownBy w' (some p)∧x=.returned (.tuple #[.string ⟨#[]⟩,jD e])∧e≠0∧∃ s',RdB w' p s' d∧s'.size≤s.size):=HT
   show Calls _ _ _ _ (jc p d 0 w s (.bad e))
   go_enter Tryz.func146,Tryz.ntmps146
   go_wp2_with fail
   refine (HT.out _ hr2).mono ?_
   rintro e1 w3 ⟨hg3,rfl,he,s',hr3,hs3⟩
   have hk3:=RdB.grown hk2 hg3 (by omega)
   go_wp2_with (refine wpList_store_row rfl 28 (.tmp 4) (.tmp 20) rfl (w.heap.size+1) #[.int .i64 5,.bool false,.bool false,.string ⟨#[]⟩,.int .i64 0,.int .u64 0,.int .i64 0,.string ⟨#[]⟩,.slice none 0 0] rfl rfl 28 _ hk3 (by kernel_rfl) rfl (by simp [Value.oneCell']) ?_)
   have hg:=jE (zu (below_grown hb2 (some p)) hg3) (zx w3 (w.heap.size+1) #[.int .i64 5,.bool false,.bool false,.string ⟨#[]⟩,.int .i64 0,.int .u64 0,.int .i64 0,.string ⟨#[]⟩,.slice none 0 0]) (Nat.le_succ w.heap.size)
   refine bodyPost_ret (zo (T:=28) rfl rfl rfl (zB hk3 #[.int .i64 5,.bool false,.bool false,.string ⟨#[]⟩,.int .i64 0,.int .u64 0,.int .i64 0,.string ⟨#[]⟩,.slice none 0 0]) Tryz.underlying28 rfl (by kernel_rfl)) rfl ?_
   exact ⟨hg,⟨{ zv with kind:=5 },none,0,0,rfl⟩,he,s',zH hr3 (by omega) _,hs3⟩
  | good a r =>
   have HT:Hid (∀ W:World,RdB W p s d→Calls Tryz.prog 206 #[.pointer (some ⟨p,0,none⟩),.agg #[.int .i64 3,.int .i64 hi,.int .u64 ha]] W fun x w'=>W.grownBy w' (some p)∧x=.returned (.tuple #[.string (bs a),.nilIface])∧RdB w' p (bs r) d∧(bs r).size≤s.size∧a.length≤s.size):=HT
   show Calls _ _ _ _ (jc p d 0 w s (.good (kU 5 a) r))
   have hab:(kU 5 a).own={ zv with kind:=5,s:=bs a }:=rfl
   have hbz:=jR a
   obtain ⟨ab,habe⟩:∃ ab,bs a=ab:=⟨_,rfl⟩
   rw [habe]at HT hab hbz
   have HAB:=Lib.hid hab
   clear hab habe
   go_enter Tryz.func146,Tryz.ntmps146
   go_wp2_with fail
   refine (HT.out _ hr2).mono ?_
   rintro e1 w3 ⟨hg3,rfl,hr3,hs3,hs4⟩
   have hk3:=RdB.grown hk2 hg3 (by omega)
   go_wp2_with (refine wpList_store_row rfl 28 (.tmp 4) (.tmp 20) rfl (w.heap.size+1) #[.int .i64 5,.bool false,.bool false,.string ⟨#[]⟩,.int .i64 0,.int .u64 0,.int .i64 0,.string ab,.slice none 0 0] rfl rfl 28 _ hk3 (by kernel_rfl) rfl (by simp [Value.oneCell']) ?_)
   have hg:=jE (zu (below_grown hb2 (some p)) hg3) (zx w3 (w.heap.size+1) #[.int .i64 5,.bool false,.bool false,.string ⟨#[]⟩,.int .i64 0,.int .u64 0,.int .i64 0,.string ab,.slice none 0 0]) (Nat.le_succ w.heap.size)
   refine bodyPost_ret (zo (T:=28) rfl rfl rfl (zB hk3 #[.int .i64 5,.bool false,.bool false,.string ⟨#[]⟩,.int .i64 0,.int .u64 0,.int .i64 0,.string ab,.slice none 0 0]) Tryz.underlying28 rfl (by kernel_rfl)) rfl ?_
   refine ⟨hg,⟨none,0,0,by rw [HAB.out]; rfl,LAt.nil _ _ _ _ _⟩,by rw [HAB.out]; exact zml 5 ab (by decide) (by omega),zH hr3 (by omega) _,hs3⟩
end Go.Proofs.YtonihophanmaaaaGreatDoor
