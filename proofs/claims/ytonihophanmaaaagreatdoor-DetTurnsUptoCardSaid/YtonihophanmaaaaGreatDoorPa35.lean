/- The texts CrH, CrI, CrJ, put together. -/
import Derived.Test.YtonihophanmaaaaGreatDoorPa34
namespace Go.Proofs.YtonihophanmaaaaGreatDoor
open Go.RowKit Go.Shelf
theorem cut_front (s:ByteArray) (n:Nat):s.extract 0 n=bs (s.data.toList.take n):=by
 apply ByteArray.ext
 apply Array.toList_inj.1
 rw [ByteArray.data_extract,Array.toList_extract]
 simp [List.extract,bs]
theorem cut_back (s:ByteArray) (n:Nat):s.extract n s.size=bs (s.data.toList.drop n):=by
 apply ByteArray.ext
 apply Array.toList_inj.1
 rw [extract_list]
 rfl
set_option maxHeartbeats 2000000 in
set_option maxRecDepth 100000 in
theorem cr_bytes (p d n:Nat) (s:ByteArray) (w:World) (hr:RdB w p s d) (hs:s.size≤1000000000) :
  Calls Tryz.prog 239 #[.pointer (some ⟨p,0,none⟩),.int .u64 n] w fun x w'=>w.grownBy w' (some p)∧match bytesP n s.data.toList with
   | .good a r=>x=.returned (.tuple #[.string (bs a),.nilIface])∧RdB w' p (bs r) d
   | .bad e=>x=.returned (.tuple #[.string ⟨#[]⟩,errW e])∧RdB w' p s d:=by
 have hlen:s.data.toList.length=s.size:=by simp
 have zr:=hr.cell 0
 have fr:=hr.frozen 0
 have y0:IntKind.u64.wrap (s.size:Int)=s.size:=by rw [IntKind.wrap_u64]; omega
 unfold bytesP
 rw [hlen]
 by_cases h:s.size<n
 ·rw [if_pos h]
  have HF:=Lib.hid (fun (W:World) (b:Nat) (hk:Blk W b #[.int .i64 100] 29)=>cr_first b 100 W hk)
  rw [if_neg (by decide)]at HF
  show Calls _ _ _ _ fun x w'=>w.grownBy w' (some p)∧x=.returned (.tuple #[.string ⟨#[]⟩,errW 100])∧RdB w' p s d
  obtain ⟨ev,hev⟩:∃ ev,errW 100=ev:=⟨_,rfl⟩
  rw [hev]at HF ⊢
  have y1:(s.size:Int)<n:=by omega
  clear hev hlen h
  go_enter Tryz.func239,Tryz.ntmps239
  go_wp2_with fail
  refine (HF.out _ _ (Blk.new w #[.int .i64 100] 29)).mono ?_
  rintro e w3 ⟨rfl,rfl⟩
  go_wp2_with fail
  refine bodyPost_ret (v:=.tuple #[.string ⟨#[]⟩,ev]) (by simp [results,Tryz.results239,go_sem]) rfl ⟨below_grown ((Below.refl w.heap.size w).alloc (Nat.le_refl _) (.cells #[.int .i64 100] 29)) _,rfl,hr.alloc _⟩
 ·rw [if_neg h]
  show Calls _ _ _ _ fun x w'=>w.grownBy w' (some p)∧x=.returned (.tuple #[.string (bs (s.data.toList.take n)),.nilIface])∧RdB w' p (bs (s.data.toList.drop n)) d
  have y1:¬ (s.size:Int)<n:=by omega
  have y2:n≤s.size:=by omega
  rw [← cut_front,← cut_back]
  have hr3:=RdB.set hr (s.extract n s.size)
  clear h hlen
  go_enter Tryz.func239,Tryz.ntmps239
  go_wp2_with fail
  refine bodyPost_ret (v:=.tuple #[.string (s.extract 0 n),.nilIface]) (by simp [results,Tryz.results239,go_sem]) rfl ⟨grown_set w p 0 _,rfl,hr3⟩
set_option maxHeartbeats 2000000 in
set_option maxRecDepth 100000 in
theorem cr_isEnd (p d:Nat) (s:ByteArray) (w:World) (hr:RdB w p s d) (hs:s.size≤1000000000) :
  Calls Tryz.prog 240 #[.pointer (some ⟨p,0,none⟩)] w fun x w'=>w.grownBy w' (some p)∧x=.returned (.bool (decide (s.data.toList.head? = some 255)))∧RdB w' p (if s.data.toList.head? = some 255 then bs (s.data.toList.drop 1) else s) d:=by
 have zr:=hr.cell 0
 have fr:=hr.frozen 0
 by_cases h0:s.size=0
 ·have e0:=str_empty h0
  subst e0
  rw [if_neg (by simp)]
  show Calls _ _ _ _ fun x w'=>w.grownBy w' (some p)∧x=.returned (.bool false)∧RdB w' p ⟨#[]⟩ d
  go_enter Tryz.func240,Tryz.ntmps240
  go_wp2_with fail
  go_ret
  exact ⟨grown_drew w _ 0,rfl,hr⟩
 ·have hne:=str_noneQ h0
  have hpos:0<s.size:=by omega
  have hh:=head_at0 s hpos
  rw [hh]
  by_cases h1:s[0]=255
  ·rw [if_pos (by rw [h1]),h1,← cut_back]
   show Calls _ _ _ _ fun x w'=>w.grownBy w' (some p)∧x=.returned (.bool true)∧RdB w' p (s.extract 1 s.size) d
   have y1:((s[0].toNat:Int) != 255)=false:=by rw [h1]; rfl
   have y2:1≤s.size:=hpos
   have hr3:=RdB.set hr (s.extract 1 s.size)
   clear hh h1 h0
   go_enter Tryz.func240,Tryz.ntmps240
   go_wp2_with fail
   go_ret
   exact ⟨grown_set w p 0 _,rfl,hr3⟩
  ·have h2:¬ some s[0]=some (255:UInt8):=fun e=>h1 (Option.some.inj e)
   rw [if_neg h2,decide_eq_false h2]
   have y1:((s[0].toNat:Int) != 255)=true:=by
    rw [bne_iff_ne]
    intro e
    apply h1
    apply UInt8.toNat_inj.1
    have:(255:UInt8).toNat=255:=rfl
    omega
   clear hh h1 h0 h2
   go_enter Tryz.func240,Tryz.ntmps240
   go_wp2_with fail
   go_ret
   exact ⟨grown_drew w _ 0,rfl,hr⟩
theorem maj_le (l:List UInt8):(readL l).maj≤7:=by
 cases l with
 | nil=>exact Nat.zero_le _
 | cons b s =>
  have hb:=b.toNat_lt
  rw [readL_cons]
  repeat' split
  all_goals (simp only []; omega)
theorem head_arg {l r:List UInt8} {h:Nat×Nat×Nat} (hp:headP l=.good h r):h.1≤7∧h.2.1≤31∧h.2.2<18446744073709551616∧r.length+1≤l.length:=by
 have hm:h.1≤7:=by
  have:=maj_le l
  unfold headP at hp
  split at hp
  ·injection hp with e1 e2
   rw [← e1]
   exact this
  ·cases hp
 rcases head_facts hp with ⟨q1,q2,q3⟩ | ⟨q1,q2,q3,q4⟩
 ·exact ⟨hm,by omega,by omega,by omega⟩
 ·refine ⟨hm,by omega,?_,by omega⟩
  by_cases q:h.2.1<24
  ·have:=q2 q
   omega
  ·have:=q3 (by omega)
   rcases (by omega:h.2.1=24∨h.2.1=25∨h.2.1=26∨h.2.1=27) with z | z | z | z <;> rw [z]at this <;> simp at this <;> omega
def ReadS (p d:Nat) (w:World) (s:ByteArray) (r:PR (List UInt8)) (x:Ending) (w':World):Prop:=
 w.grownBy w' (some p)∧match r with
  | .good a r=>x=.returned (.tuple #[.string (bs a),.nilIface])∧RdB w' p (bs r) d∧(bs r).size≤s.size∧a.length≤s.size
  | .bad e=>x=.returned (.tuple #[.string ⟨#[]⟩,errW e])∧e≠0∧∃ s',RdB w' p s' d∧s'.size≤s.size
set_option maxHeartbeats 4000000 in
set_option maxRecDepth 100000 in
theorem cr_chunk (p d maj:Nat) (s:ByteArray) (w:World) (hr:RdB w p s d) (hs:s.size≤1000000000) :
  Calls Tryz.prog 241 #[.pointer (some ⟨p,0,none⟩),.int .i64 maj] w (ReadS p d w s (chunkP maj s.data.toList)):=by
 have HS:=cr_start p d s w hr hs
 have hsl:s.data.toList.length=s.size:=by simp
 unfold chunkP bindP
 cases hh:headP s.data.toList with
 | bad e =>
  have he:=errP_head _ _ hh
  simp only [hh]at HS
  have HE:=Lib.hid he
  obtain ⟨x,hx⟩:∃ x,errW e=.iface 144 x:=⟨_,errW_ne he⟩
  unfold ReadS
  simp only []
  rw [hx]at HS ⊢
  clear hh he hx
  go_enter Tryz.func241,Tryz.ntmps241
  go_wp2_with fail
  refine HS.mono ?_
  rintro e1 w1 ⟨hg,rfl,hr1⟩
  go_wp2_with fail
  refine bodyPost_ret (v:=.tuple #[.string ⟨#[]⟩,.iface 144 x]) (by simp [results,Tryz.results241,go_sem]) rfl ⟨?_,rfl,HE.out,s,hr1.alloc _,Nat.le_refl _⟩
  exact grown_of hg ((Below.refl w1.heap.size w1).alloc (Nat.le_refl _) _)
 | good h r =>
  obtain ⟨q1,q2,q3,q4⟩:=head_arg hh
  simp only [hh]at HS
  obtain ⟨hm,hi,ha⟩:=h
  simp only []at q1 q2 q3 HS ⊢
  clear hh
  have hrl:(bs r).size≤s.size:=by rw [bs_size]; omega
  by_cases hbad:hm≠maj∨hi=31
  ·rw [if_pos hbad]
   unfold ReadS badP
   simp only []
   have HF:=Lib.hid (fun (W:World) (b:Nat) (hk:Blk W b #[.int .i64 110] 29)=>cr_first b 110 W hk)
   rw [if_neg (by decide)]at HF
   obtain ⟨ev,hev⟩:∃ ev,errW 110=ev:=⟨_,rfl⟩
   rw [hev]at HF ⊢
   have HO:=Lib.hid (fun w=>cr_isOpen hm hi ha w)
   clear hev
   by_cases hmj:hm=maj
   ·subst hmj
    have hi31:hi=31:=hbad.elim (fun h=>absurd rfl h) id
    subst hi31
    clear hbad
    go_enter Tryz.func241,Tryz.ntmps241
    go_wp2_with fail
    refine HS.mono ?_
    rintro e1 w1 ⟨hg,rfl,hr1⟩
    have hk1:=Blk.new w1 #[.int .i64 hm,.int .i64 31,.int .u64 ha] 137
    have z0:=hk1.cell 0
    have z1:=hk1.cell 1
    have z2:=hk1.cell 2
    clear HS
    go_wp2_with fail
    refine (HO.out _).mono ?_
    rintro e2 w2 ⟨rfl,hb2⟩
    go_wp2_with fail
    refine (HF.out _ _ (Blk.new w2 #[.int .i64 110] 29)).mono ?_
    rintro e3 w3 ⟨rfl,rfl⟩
    go_wp2_with fail
    refine bodyPost_ret (v:=.tuple #[.string ⟨#[]⟩,ev]) (by simp [results,Tryz.results241,go_sem]) rfl ⟨?_,rfl,by decide,bs r,?_,hrl⟩
    ·exact grown_of (grown_of hg (((Below.refl w1.heap.size w1).alloc (Nat.le_refl _) _).trans (hb2.mono (by simp)))) ((Below.refl w2.heap.size w2).alloc (Nat.le_refl _) _)
    ·exact ((hr1.alloc _).below hb2 (hr1.alloc _).lt).alloc _
   ·have y1:((hm:Int) != (maj:Int))=true:=by rw [bne_iff_ne]; omega
    clear hbad hmj
    go_enter Tryz.func241,Tryz.ntmps241
    go_wp2_with fail
    refine HS.mono ?_
    rintro e1 w1 ⟨hg,rfl,hr1⟩
    have hk1:=Blk.new w1 #[.int .i64 hm,.int .i64 hi,.int .u64 ha] 137
    have z0:=hk1.cell 0
    have z1:=hk1.cell 1
    have z2:=hk1.cell 2
    have hkE:=Blk.new (w1.alloc (.cells #[.int .i64 hm,.int .i64 hi,.int .u64 ha] 137)) #[.int .i64 110] 29
    rw [World.size_alloc]at hkE
    clear HS
    go_wp2_with fail
    refine (HF.out _ _ hkE).mono ?_
    rintro e3 w3 ⟨rfl,rfl⟩
    go_wp2_with fail
    refine bodyPost_ret (v:=.tuple #[.string ⟨#[]⟩,ev]) (by simp [results,Tryz.results241,go_sem]) rfl ⟨?_,rfl,by decide,bs r,(hr1.alloc _).alloc _,hrl⟩
    exact grown_of (grown_of hg ((Below.refl w1.heap.size w1).alloc (Nat.le_refl _) _)) ((Below.refl _ _).alloc (Nat.le_refl _) _)
  ·rw [if_neg hbad]
   have hmj:hm=maj:=Decidable.byContradiction fun h=>hbad (.inl h)
   have hi31:¬ hi=31:=fun h=>hbad (.inr h)
   subst hmj
   have y1:((hi:Int) == 31)=false:=by rw [beq_eq_false_iff_ne]; omega
   have HO:=Lib.hid (fun w=>cr_isOpen hm hi ha w)
   rw [y1]at HO
   have HB:=Lib.hid (fun W (h:RdB W p (bs r) d)=>cr_bytes p d ha (bs r) W h (by omega))
   rw [bs_list]at HB
   clear hbad hi31
   unfold bytesP at HB ⊢
   by_cases hlt:r.length<ha
   ·rw [if_pos hlt]at HB ⊢
    unfold ReadS
    simp only []at HB ⊢
    obtain ⟨ev,hev⟩:∃ ev,errW 100=ev:=⟨_,rfl⟩
    rw [hev]at HB ⊢
    clear hev
    go_enter Tryz.func241,Tryz.ntmps241
    go_wp2_with fail
    refine HS.mono ?_
    rintro e1 w1 ⟨hg,rfl,hr1⟩
    have hk1:=Blk.new w1 #[.int .i64 hm,.int .i64 hi,.int .u64 ha] 137
    have z0:=hk1.cell 0
    have z1:=hk1.cell 1
    have z2:=hk1.cell 2
    clear HS
    go_wp2_with fail
    refine (HO.out _).mono ?_
    rintro e2 w2 ⟨rfl,hb2⟩
    have hk2:=hk1.below hb2 hk1.lt
    have hr2:=(hr1.alloc (.cells #[.int .i64 hm,.int .i64 hi,.int .u64 ha] 137)).below hb2 (hr1.alloc _).lt
    have hg2:=grown_of hg (((Below.refl w1.heap.size w1).alloc (Nat.le_refl _) _).trans (hb2.mono (by simp)))
    clear z0 z1 z2
    have z0:=hk2.cell 0
    have z1:=hk2.cell 1
    have z2:=hk2.cell 2
    go_wp2_with fail
    refine (HB.out _ hr2).mono ?_
    rintro e3 w3 ⟨hg3,rfl,hr3⟩
    go_wp2_with fail
    refine bodyPost_ret (v:=.tuple #[.string ⟨#[]⟩,ev]) (by simp [results,Tryz.results241,go_sem]) rfl ⟨grown_trans hg2 hg3,rfl,by decide,bs r,hr3,hrl⟩
   ·rw [if_neg hlt]at HB ⊢
    unfold ReadS
    simp only []at HB ⊢
    obtain ⟨a1,ha1⟩:∃ a1,bs (r.take ha)=a1:=⟨_,rfl⟩
    obtain ⟨r1,hr1e⟩:∃ r1,bs (r.drop ha)=r1:=⟨_,rfl⟩
    have hr1s:r1.size≤s.size:=by rw [← hr1e,bs_size,List.length_drop]; omega
    have hals:(r.take ha).length≤s.size:=by rw [List.length_take]; omega
    rw [ha1,hr1e]at HB ⊢
    clear ha1 hr1e
    go_enter Tryz.func241,Tryz.ntmps241
    go_wp2_with fail
    refine HS.mono ?_
    rintro e1 w1 ⟨hg,rfl,hr1⟩
    have hk1:=Blk.new w1 #[.int .i64 hm,.int .i64 hi,.int .u64 ha] 137
    have z0:=hk1.cell 0
    have z1:=hk1.cell 1
    have z2:=hk1.cell 2
    clear HS
    go_wp2_with fail
    refine (HO.out _).mono ?_
    rintro e2 w2 ⟨rfl,hb2⟩
    have hk2:=hk1.below hb2 hk1.lt
    have hr2:=(hr1.alloc (.cells #[.int .i64 hm,.int .i64 hi,.int .u64 ha] 137)).below hb2 (hr1.alloc _).lt
    have hg2:=grown_of hg (((Below.refl w1.heap.size w1).alloc (Nat.le_refl _) _).trans (hb2.mono (by simp)))
    clear z0 z1 z2
    have z0:=hk2.cell 0
    have z1:=hk2.cell 1
    have z2:=hk2.cell 2
    go_wp2_with fail
    refine (HB.out _ hr2).mono ?_
    rintro e3 w3 ⟨hg3,rfl,hr3⟩
    go_wp2_with fail
    refine bodyPost_ret (v:=.tuple #[.string a1,.nilIface]) (by simp [results,Tryz.results241,go_sem]) rfl ⟨grown_trans hg2 hg3,rfl,hr3,hr1s,hals⟩
theorem endP_no {α:Type} {a:α} {p:Psr α} {l:List UInt8} (h:l.head?≠some 255):endP a p l=p l:=by
 cases l with
 | nil=>rfl
 | cons c r =>
  have hc:¬ c=255:=fun e=>h (by rw [e]; rfl)
  unfold endP
  simp [hc]
theorem endP_yes {α:Type} {a:α} {p:Psr α} {l:List UInt8} (h:l.head? = some 255):endP a p l=.good a (l.drop 1):=by
 cases l with
 | nil=>cases h
 | cons c r =>
  have hc:c=255:=by simpa using h
  subst hc
  rfl
def leftN (p:Nat) (W:World):Nat:=match W.cell? ⟨p,0,none⟩ with
 | some (.string s)=>s.size
 | _=>0
theorem leftN_of {W:World} {p d:Nat} {s:ByteArray} (h:RdB W p s d):leftN p W=s.size:=by
 unfold leftN
 have:W.cell? ⟨p,0,none⟩=some (.string s):=h.cell 0
 rw [this]
theorem app_list (a b:ByteArray):(a++b).data.toList=a.data.toList++b.data.toList:=by
 rw [ByteArray.data_append,Array.toList_append]
theorem chunk_less {maj:Nat} {l a r:List UInt8} (h:chunkP maj l=.good a r):a.length+r.length+1≤l.length:=chunk_len h
set_option maxHeartbeats 4000000 in
set_option maxRecDepth 100000 in
theorem cr_text (F p d:Nat) (h:Nat×Nat×Nat) (s:ByteArray) (w:World) (hr:RdB w p s d) (hs:s.size≤1000000000) (hF:s.size<F) :
  Calls Tryz.prog 206 #[.pointer (some ⟨p,0,none⟩),startV h] w (ReadS p d w s (textP F h s.data.toList)):=by
 obtain ⟨hm,hi,ha⟩:=h
 have hsl:s.data.toList.length=s.size:=by simp
 have hb1:=(Below.refl w.heap.size w).alloc (Nat.le_refl _) (.cells #[.int .i64 hm,.int .i64 hi,.int .u64 ha] 137)
 have hk1:=Blk.new w #[.int .i64 hm,.int .i64 hi,.int .u64 ha] 137
 have hr1:=hr.below hb1 hr.lt
 have z0:=hk1.cell 0
 have z1:=hk1.cell 1
 have z2:=hk1.cell 2
 have hplt:=hr.lt
 have HO:=Lib.hid (fun w=>cr_isOpen hm hi ha w)
 unfold textP
 by_cases h31:hi=31
 ·subst h31
  rw [if_pos rfl]
  have HO':Hid (∀ w:World,Calls Tryz.prog 106 #[.agg #[.int .i64 hm,.int .i64 31,.int .u64 ha]] w fun x w'=>x=.returned (.bool true)∧Below w.heap.size w w'):=HO
  obtain ⟨res,hres⟩:∃ res,chunksP hm F [] s.data.toList=res:=⟨_,rfl⟩
  show Calls _ _ _ _ (ReadS p d w s (chunksP hm F [] s.data.toList))
  rw [hres]
  have HRES:=Lib.hid hres
  clear hres HO
  go_enter Tryz.func206,Tryz.ntmps206
  go_wp2_with fail
  refine (HO'.out _).mono ?_
  rintro e1 w2 ⟨rfl,hb2⟩
  have hk2:=hk1.below hb2 hk1.lt
  have hr2:=hr1.below hb2 hr1.lt
  have hg2:w.grownBy w2 (some p):=below_grown (hb1.trans (hb2.mono hb1.size)) _
  clear z0 z1 z2 hb2 hr1 hk1 hb1 HO'
  go_wp2_with fail
  go_loopw [6] (fun z wr=>∃ (f:Nat) (acc rst:ByteArray),z=.string acc∧rst.size<f∧acc.size+rst.size≤s.size∧Hid (chunksP hm f acc.data.toList rst.data.toList=res)∧w.grownBy wr (some p)∧RdB wr p rst d∧Blk wr w.heap.size #[.int .i64 hm,.int .i64 31,.int .u64 ha] 137) (fun _ wr=>leftN p wr)
  case atStart=>exact ⟨F,⟨#[]⟩,s,rfl,hF,by show 0+s.size≤s.size; omega,HRES,hg2,hr2,hk2⟩
  case round =>
   obtain ⟨f,acc,rst,rfl,hf,hsz,hch,hg,hrd,hkk⟩:=hrel
   clear HRES hg2 hr2 hk2
   obtain ⟨f,rfl⟩:∃ g,f=g+1:=⟨f - 1,by omega⟩
   have hlr:=leftN_of hrd
   have HE:=cr_isEnd p d rst wr hrd (by omega)
   by_cases hend:rst.data.toList.head? = some 255
   ·rw [if_pos hend,decide_eq_true hend]at HE
    have hc:endP acc.data.toList _ rst.data.toList=res:=hch.out
    rw [endP_yes hend]at hc
    have hrl:(bs (rst.data.toList.drop 1)).size≤s.size:=by
     rw [bs_size,List.length_drop]
     have:rst.data.toList.length=rst.size:=by simp
     omega
    have hal:acc.data.toList.length≤s.size:=by
     have:acc.data.toList.length=acc.size:=by simp
     omega
    have hba:=bs_of acc
    subst hc
    unfold ReadS
    simp only []
    rw [hba]
    obtain ⟨r1,hr1⟩:∃ r1,bs (rst.data.toList.drop 1)=r1:=⟨_,rfl⟩
    rw [hr1]at HE hrl ⊢
    have HR1:=Lib.hid hr1
    clear hend hch hr1 hba
    go_wp2_with fail
    refine HE.mono ?_
    rintro e1 w3 ⟨hg3,rfl,hr3⟩
    go_wp2_with fail
    refine bodyPost_ret (v:=.tuple #[.string acc,.nilIface]) (by simp [results,Tryz.results206,go_sem]) rfl ⟨grown_trans hg hg3,rfl,by rw [HR1.out]; exact hr3,by rw [HR1.out]; exact hrl,hal⟩
   ·rw [if_neg hend,decide_eq_false hend]at HE
    have hc:endP acc.data.toList (bindP (chunkP hm) fun c=>chunksP hm f (acc.data.toList++c)) rst.data.toList=res:=hch.out
    rw [endP_no hend]at hc
    have HCK:=Lib.hid (fun W (h:RdB W p rst d)=>cr_chunk p d hm rst W h (by omega))
    clear hend hch
    cases hck:chunkP hm rst.data.toList with
    | bad e =>
     rw [bindP_bad hck]at hc
     subst hc
     rw [hck]at HCK
     unfold ReadS at HCK ⊢
     simp only []at HCK ⊢
     obtain ⟨ev,hev⟩:∃ ev,errW e=ev:=⟨_,rfl⟩
     have hei:e≠0→∃ y,ev=.iface 144 y:=fun h=>⟨_,by rw [← hev,errW_ne h]⟩
     rw [hev]at HCK ⊢
     clear hck hev
     go_wp2_with fail
     refine HE.mono ?_
     rintro e1 w3 ⟨hg3,rfl,hr3⟩
     have hk3:=RdB.grown hkk hg3 (by omega)
     have y0:=hk3.cell 0
     have y1:=hk3.cell 1
     have y2:=hk3.cell 2
     go_wp2_with fail
     refine (HCK.out _ hr3).mono ?_
     rintro e2 w4 ⟨hg4,rfl,hne,s',hr4,hs4⟩
     obtain ⟨y,rfl⟩:=hei hne
     clear y0 y1 y2
     go_wp2_with fail
     refine bodyPost_ret (v:=.tuple #[.string ⟨#[]⟩,.iface 144 y]) (by simp [results,Tryz.results206,go_sem]) rfl ⟨grown_trans (grown_trans hg hg3) hg4,rfl,hne,s',hr4,by omega⟩
    | good c r1 =>
     rw [bindP_of hck]at hc
     rw [hck]at HCK
     have hcl:=chunk_less hck
     have hrl:rst.data.toList.length=rst.size:=by simp
     unfold ReadS at HCK
     simp only []at HCK
     have hcs:=bs_size c
     have hrs:=bs_size r1
     have hcc:chunksP hm f (acc++bs c).data.toList (bs r1).data.toList=res:=by
      rw [app_list]
      exact hc
     have hsz2:acc.size+(bs c).size+(bs r1).size+1≤s.size:=by omega
     have hf2:(bs r1).size<f:=by omega
     have hlt2:(bs r1).size<rst.size:=by omega
     obtain ⟨cb,hcb⟩:∃ cb,bs c=cb:=⟨_,rfl⟩
     obtain ⟨rb,hrb⟩:∃ rb,bs r1=rb:=⟨_,rfl⟩
     rw [hcb,hrb]at HCK hsz2 hcc
     rw [hrb]at hf2 hlt2
     have HCC:=Lib.hid hcc
     have y6:acc.size+cb.size≤1000000000:=by omega
     clear hck hc hcc hcl hcb hrb hrl hcs hrs
     go_wp2_with fail
     refine HE.mono ?_
     rintro e1 w3 ⟨hg3,rfl,hr3⟩
     have hk3:=RdB.grown hkk hg3 (by omega)
     have y0:=hk3.cell 0
     have y1:=hk3.cell 1
     have y2:=hk3.cell 2
     go_wp2_with fail
     refine (HCK.out _ hr3).mono ?_
     rintro e2 w4 ⟨hg4,rfl,hr4,hr5,hr6⟩
     have hk4:=RdB.grown hk3 hg4 (by omega)
     clear y0 y1 y2
     go_wp2_with fail
     go_roundw
     case rel=>exact ⟨f,acc++cb,rb,rfl,hf2,by rw [ByteArray.size_append]; omega,HCC,grown_trans (grown_trans hg hg3) hg4,hr4,hk4⟩
     case measure=>rw [leftN_of hr4,hlr]; exact hlt2
 ·rw [if_neg h31]
  have y1:((hi:Int) == 31)=false:=by rw [beq_eq_false_iff_ne]; omega
  rw [y1]at HO
  have HB:=Lib.hid (fun W (h:RdB W p s d)=>cr_bytes p d ha s W h hs)
  clear h31
  show Calls _ _ _ _ (ReadS p d w s (bytesP ha s.data.toList))
  unfold bytesP at HB ⊢
  by_cases hlt:s.data.toList.length<ha
  ·rw [if_pos hlt]at HB ⊢
   unfold ReadS
   simp only []at HB ⊢
   obtain ⟨ev,hev⟩:∃ ev,errW 100=ev:=⟨_,rfl⟩
   rw [hev]at HB ⊢
   clear hev hlt
   go_enter Tryz.func206,Tryz.ntmps206
   go_wp2_with fail
   refine (HO.out _).mono ?_
   rintro e1 w2 ⟨rfl,hb2⟩
   have hk2:=hk1.below hb2 hk1.lt
   have hr2:=hr1.below hb2 hr1.lt
   have hg2:w.grownBy w2 (some p):=below_grown (hb1.trans (hb2.mono hb1.size)) _
   clear z0 z1 z2
   have z2:=hk2.cell 2
   go_wp2_with fail
   refine (HB.out _ hr2).mono ?_
   rintro e3 w3 ⟨hg3,rfl,hr3⟩
   go_wp2_with fail
   refine bodyPost_ret (v:=.tuple #[.string ⟨#[]⟩,ev]) (by simp [results,Tryz.results206,go_sem]) rfl ⟨grown_trans hg2 hg3,rfl,by decide,s,hr3,Nat.le_refl _⟩
  ·rw [if_neg hlt]at HB ⊢
   unfold ReadS
   simp only []at HB ⊢
   obtain ⟨a1,ha1⟩:∃ a1,bs (s.data.toList.take ha)=a1:=⟨_,rfl⟩
   obtain ⟨r1,hr1e⟩:∃ r1,bs (s.data.toList.drop ha)=r1:=⟨_,rfl⟩
   have hr1s:r1.size≤s.size:=by rw [← hr1e,bs_size,List.length_drop]; omega
   have hals:(s.data.toList.take ha).length≤s.size:=by rw [List.length_take]; omega
   rw [ha1,hr1e]at HB ⊢
   clear ha1 hr1e hlt
   go_enter Tryz.func206,Tryz.ntmps206
   go_wp2_with fail
   refine (HO.out _).mono ?_
   rintro e1 w2 ⟨rfl,hb2⟩
   have hk2:=hk1.below hb2 hk1.lt
   have hr2:=hr1.below hb2 hr1.lt
   have hg2:w.grownBy w2 (some p):=below_grown (hb1.trans (hb2.mono hb1.size)) _
   clear z0 z1 z2
   have z2:=hk2.cell 2
   go_wp2_with fail
   refine (HB.out _ hr2).mono ?_
   rintro e3 w3 ⟨hg3,rfl,hr3⟩
   go_wp2_with fail
   refine bodyPost_ret (v:=.tuple #[.string a1,.nilIface]) (by simp [results,Tryz.results206,go_sem]) rfl ⟨grown_trans hg2 hg3,rfl,hr3,hr1s,hals⟩
end Go.Proofs.YtonihophanmaaaaGreatDoor
