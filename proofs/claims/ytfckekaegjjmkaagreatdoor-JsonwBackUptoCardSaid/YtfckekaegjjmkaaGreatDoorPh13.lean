/- The texts GateD, GateE, GateF, ResC, put together. -/
import Derived.Test.YtfckekaegjjmkaaGreatDoorPh09
import Derived.Test.YtfckekaegjjmkaaGreatDoorPh04
import Derived.Lib.AsciiSet
import Derived.BigQuiet
import Derived.Deep.QuietTactic
import Derived.Deep.RegionHeld3
import Derived.Test.YtfckekaegjjmkaaGreatDoorPh03
import Derived.Deep.MidRow
namespace Go.Proofs.YtfckekaegjjmkaaGreatDoor
open Go.RowKit Go.Shelf

def digs10:List UInt8:=[48,49,50,51,52,53,54,55,56,57]
theorem digs_mem (x:UInt8):digs10.contains x=isDig x:=by
 have h:∀ m:Fin 256,digs10.contains (UInt8.ofNat m.val)=isDig (UInt8.ofNat m.val):=by decide +kernel
 have:=h ⟨x.toNat,x.toNat_lt⟩
 simpa using this
def rtrimD (l:List UInt8):List UInt8:=(l.reverse.dropWhile isDig).reverse
theorem rtrim_yes (l:List UInt8) (c:UInt8) (h:isDig c=true):rtrimD (l ++ [c])=rtrimD l:=by
 unfold rtrimD
 rw [List.reverse_append]
 show (List.dropWhile isDig (c :: l.reverse)).reverse=_
 rw [List.dropWhile_cons_of_pos h]
theorem rtrim_no (l:List UInt8) (c:UInt8) (h:isDig c=false):rtrimD (l ++ [c])=l ++ [c]:=by
 unfold rtrimD
 rw [List.reverse_append]
 show (List.dropWhile isDig (c :: l.reverse)).reverse=_
 rw [List.dropWhile_cons_of_neg (by rw [h]; decide)]
 simp
theorem rtrim_last (l:List UInt8):rtrimD l=[] ∨ ∃ k c,rtrimD l=k ++ [c] ∧ isDig c=false:=by
 unfold rtrimD
 cases h:l.reverse.dropWhile isDig with
 | nil=>exact .inl rfl
 | cons c r =>
  refine .inr ⟨r.reverse,c,by simp,?_⟩
  have:=List.head?_dropWhile_not isDig l.reverse
  rw [h] at this
  simpa using this
theorem drop_nil:∀ l:List UInt8,l.dropWhile isDig=[] ↔ ∀ c ∈ l,isDig c=true
 | []=>by simp
 | c :: l=>by
  cases h:isDig c with
  | true =>
   rw [List.dropWhile_cons_of_pos h,drop_nil l]
   simp [h]
  | false =>
   rw [List.dropWhile_cons_of_neg (by rw [h]; decide)]
   simp [h]
theorem rtrim_all (l:List UInt8):rtrimD l=[] ↔ l.all isDig=true:=by
 unfold rtrimD
 rw [List.reverse_eq_nil_iff,drop_nil]
 simp [List.all_eq_true]
theorem trim_nil (l:List UInt8):((rtrimD l).dropWhile isDig=[]) ↔ l.all isDig=true:=by
 rw [← rtrim_all]
 constructor
 ·intro h
  rcases rtrim_last l with h0 | ⟨k,c,h1,h2⟩
  ·exact h0
  ·exfalso
   rw [h1,drop_nil] at h
   have:=h c (by simp)
   rw [h2] at this
   cases this
 ·intro h
  rw [h]
  rfl
def strN:Value → Nat
 | .string s=>s.size
 | _=>0
theorem str_snoc (t:ByteArray) (n:Nat) (h:t.size=n + 1):t.data.toList=(t.extract 0 n).data.toList ++ [t[n]'(by omega)]:=by
 have e:(t.extract 0 n).data.toList=t.data.toList.take n:=by
  rw [ByteArray.data_extract,Array.toList_extract]
  simp [List.extract]
 rw [e]
 have hl:t.data.toList.length=n + 1:=by simpa using h
 conv=>lhs; rw [← List.take_of_length_le (l:=t.data.toList) (Nat.le_of_eq hl)]
 rw [List.take_succ_eq_append_getElem (by omega)]
 simp [ByteArray.getElem_eq_getElem_data]
theorem str_head (t:ByteArray) (h:0 < t.size):t.data.toList=t[0] :: (t.extract 1 t.size).data.toList:=by
 rw [extract_list]
 have hl:t.data.toList.length=t.size:=by simp
 conv=>lhs; rw [← List.drop_zero (l:=t.data.toList),List.drop_eq_getElem_cons (by omega)]
 simp [ByteArray.getElem_eq_getElem_data]

set_option maxHeartbeats 2000000 in
set_option maxRecDepth 100000 in
theorem trimRight_digits (s:ByteArray) (b:Nat) (w:World) (hs:s.size ≤ 9223372036854775807) (hc:∀ x:UInt8,w.cell? ⟨b,x.toNat,none⟩=some (.bool (isDig x))) :
  Calls Tryz.prog 196 #[.string s,.pointer (some ⟨b,0,none⟩)] w fun e w'=>e=.returned (.string ⟨(rtrimD s.data.toList).toArray⟩) ∧ w'=w:=by
 have HC:=Lib.hid hc
 obtain ⟨r,hr⟩:∃ r,rtrimD s.data.toList=r:=⟨_,rfl⟩
 rw [hr]
 have HR:=Lib.hid hr
 clear hc hr
 go_enter Tryz.func196,Tryz.ntmps196
 go_wp2_with fail
 go_loop [0] (fun v=>∃ t:ByteArray,v=.string t ∧ t.size ≤ s.size ∧ Hid (rtrimD t.data.toList=r)) (fun v=>strN v)
 case atStart=>exact ⟨s,rfl,Nat.le_refl _,HR⟩
 case round =>
  obtain ⟨t,rfl,hts,htr⟩:=hrel
  by_cases h0:t.size=0
  ·have e0:=str_empty h0
   subst e0
   have hr0:r=[]:=by rw [← htr.out]; rfl
   subst hr0
   clear htr h0
   go_wp2_with fail
   go_ret
   exact ⟨rfl,rfl⟩
  ·obtain ⟨n,hn⟩:∃ n,t.size=n + 1:=⟨t.size - 1,by omega⟩
   have hsn:=str_snoc t n hn
   have hlt:t.size - 1 < t.size:=by omega
   have hlast:t[t.size - 1]=t[n]'(by omega):=by congr 1; omega
   have z1:(0:Int) < t.size:=by omega
   have z2:(1:Int) ≤ t.size ∧ (t.size:Int) - 1 < t.size ∧ (t.size:Int) ≤ 9223372036854775807:=by omega
   obtain ⟨c,hcc⟩:∃ c,t[t.size - 1]=c:=⟨_,rfl⟩
   have HRY:Hid (isDig c=true → rtrimD t.data.toList=rtrimD (t.extract 0 n).data.toList):=Lib.hid (fun h=>by
    rw [hsn,← hlast,hcc]
    exact rtrim_yes _ _ h)
   have HRF:Hid (isDig c=false → rtrimD t.data.toList=t.data.toList):=Lib.hid (fun h=>by
    rw [hsn,← hlast,hcc]
    exact rtrim_no _ _ h)
   have HA:=Lib.hid (Tryz.asciiSet_contains b c (isDig c) w (HC.out c))
   have HN:=Lib.hid hn
   clear hsn hlast hn
   go_wp2_with fail
   refine HA.out.mono ?_
   rintro e w2 ⟨rfl,rfl⟩
   cases hd:isDig c with
   | true =>
    rw [hd] at HRY
    clear hd HA HRF
    go_wp2_with fail
    go_round
    case rel =>
     refine ⟨t.extract 0 (t.size - 1),rfl,?_,Lib.hid ?_⟩
     ·rw [ByteArray.size_extract]
      omega
     ·rw [show t.size - 1=n by have:=HN.out; omega,← HRY.out trivial]
      exact htr.out
    case measure =>
     simp only [strN,ByteArray.size_extract]
     omega
   | false =>
    rw [hd] at HRF
    clear hd HA HRY
    go_wp2_with fail
    go_ret
    exact ⟨congrArg (fun l:List UInt8=>Ending.returned (.string ⟨l.toArray⟩)) (show t.data.toList=r from by rw [← htr.out,HRF.out trivial]),rfl⟩

set_option maxHeartbeats 2000000 in
set_option maxRecDepth 100000 in
theorem trimLeft_digits (s:ByteArray) (b:Nat) (w:World) (hs:s.size ≤ 9223372036854775807) (hc:∀ x:UInt8,w.cell? ⟨b,x.toNat,none⟩=some (.bool (isDig x))) :
  Calls Tryz.prog 193 #[.string s,.pointer (some ⟨b,0,none⟩)] w fun e w'=>e=.returned (.string ⟨(s.data.toList.dropWhile isDig).toArray⟩) ∧ w'=w:=by
 have HC:=Lib.hid hc
 obtain ⟨r,hr⟩:∃ r,s.data.toList.dropWhile isDig=r:=⟨_,rfl⟩
 rw [hr]
 have HR:=Lib.hid hr
 clear hc hr
 go_enter Tryz.func193,Tryz.ntmps193
 go_wp2_with fail
 go_loop [0] (fun v=>∃ t:ByteArray,v=.string t ∧ t.size ≤ s.size ∧ Hid (t.data.toList.dropWhile isDig=r)) (fun v=>strN v)
 case atStart=>exact ⟨s,rfl,Nat.le_refl _,HR⟩
 case round =>
  obtain ⟨t,rfl,hts,htr⟩:=hrel
  by_cases h0:t.size=0
  ·have e0:=str_empty h0
   subst e0
   have hr0:r=[]:=by rw [← htr.out]; rfl
   subst hr0
   clear htr h0
   go_wp2_with fail
   go_ret
   exact ⟨rfl,rfl⟩
  ·have hlt:0 < t.size:=by omega
   have hsn:=str_head t hlt
   have z1:(0:Int) < t.size:=by omega
   have z2:(1:Int) ≤ t.size ∧ (t.size:Int) ≤ 9223372036854775807:=by omega
   obtain ⟨c,hcc⟩:∃ c,t[0]=c:=⟨_,rfl⟩
   rw [hcc] at hsn
   have HRY:Hid (isDig c=true → t.data.toList.dropWhile isDig=(t.extract 1 t.size).data.toList.dropWhile isDig):=Lib.hid (fun h=>by
    rw [hsn]
    exact List.dropWhile_cons_of_pos h)
   have HRF:Hid (isDig c=false → t.data.toList.dropWhile isDig=t.data.toList):=Lib.hid (fun h=>by
    rw [hsn]
    exact List.dropWhile_cons_of_neg (by rw [h]; decide))
   have HA:=Lib.hid (Tryz.asciiSet_contains b c (isDig c) w (HC.out c))
   clear hsn
   go_wp2_with fail
   refine HA.out.mono ?_
   rintro e w2 ⟨rfl,rfl⟩
   cases hd:isDig c with
   | true =>
    rw [hd] at HRY
    clear hd HA HRF
    go_wp2_with fail
    go_round
    case rel =>
     refine ⟨t.extract 1 t.size,rfl,?_,Lib.hid ?_⟩
     ·rw [ByteArray.size_extract]
      omega
     ·rw [← HRY.out trivial]
      exact htr.out
    case measure =>
     simp only [strN,ByteArray.size_extract]
     omega
   | false =>
    rw [hd] at HRF
    clear hd HA HRY
    go_wp2_with fail
    go_ret
    exact ⟨congrArg (fun l:List UInt8=>Ending.returned (.string ⟨l.toArray⟩)) (show t.data.toList=r from by rw [← htr.out,HRF.out trivial]),rfl⟩

set_option maxRecDepth 100000 in
theorem set_zero:∀ w,(zeroValue 236).run Tryz.prog w=.ok (.agg (Array.replicate 256 (.bool false))) w:=fun w=>by kernel_rfl
set_option maxRecDepth 100000 in
theorem set_info:(Tryz.prog.info? 236).map (·.size)=some 256:=by kernel_rfl
theorem rtrim_size (s:ByteArray):(⟨(rtrimD s.data.toList).toArray⟩:ByteArray).size ≤ s.size:=by
 show (rtrimD s.data.toList).toArray.size ≤ _
 unfold rtrimD
 rw [List.size_toArray,List.length_reverse]
 refine Nat.le_trans (List.dropWhile_suffix _).length_le ?_
 simp

set_option maxHeartbeats 2000000 in
set_option maxRecDepth 100000 in
theorem trim_digits (s:ByteArray) (w:World) (hs:s.size ≤ 9223372036854775807) (h0:0 < s.size) :
  Calls Tryz.prog 199 #[.string s,.string ⟨#[48,49,50,51,52,53,54,55,56,57]⟩] w fun e w'=>e=.returned (.string ⟨((rtrimD s.data.toList).dropWhile isDig).toArray⟩) ∧ Below w.heap.size w w':=by
 have HM:=Lib.hid (Tryz.strings_makeASCIISet set_zero ⟨#[48,49,50,51,52,53,54,55,56,57]⟩ w (by decide) (by
  intro j b hb
  have hm:=List.mem_of_getElem? hb
  have:∀ x ∈ digs10,x.toNat < 128:=by decide
  exact this b hm))
 have hat:∀ x:UInt8,(Lib.setCells digs10)[x.toNat]? = some (.bool (isDig x)):=fun x=>by rw [Lib.setCells_at,digs_mem]
 have hsz:(Lib.setCells digs10).size=256:=Lib.setCells_size _
 have hone:(Lib.setCells digs10).all (·.oneCell')=true:=by decide +kernel
 have HM:Hid (Calls Tryz.prog 192 #[.string ⟨#[48,49,50,51,52,53,54,55,56,57]⟩] w fun e w'=>e=.returned (.tuple #[.agg (Lib.setCells digs10),.bool true]) ∧ w'=w.alloc (.cells (Lib.setCells digs10) 236)):=HM
 obtain ⟨S,hS⟩:∃ S,Lib.setCells digs10=S:=⟨_,rfl⟩
 rw [hS] at HM hat hsz hone
 clear hS
 have HAT:=Lib.hid hat
 have HSZ:=Lib.hid hsz
 have HONE:=Lib.hid hone
 have HR:=Lib.hid (fun b w hc=>trimRight_digits s b w hs hc)
 have HL:=Lib.hid (fun b w hc=>trimLeft_digits ⟨(rtrimD s.data.toList).toArray⟩ b w (Nat.le_trans (rtrim_size s) hs) hc)
 have z0:s.toList=[] → False:=fun h=>by
  rw [ByteArray.toList_eq] at h
  have h2:s.data.toList.length=0:=by rw [h]; rfl
  have h3:s.data.toList.length=s.size:=by simp
  omega
 have z1:(!s.toList.isEmpty)=true:=by
  cases h:s.toList with
  | nil=>exact absurd h z0
  | cons c r=>rfl
 have z2:s.toList.isEmpty=false:=by simpa using z1
 clear z1
 obtain ⟨r1,hr1⟩:∃ r1:ByteArray,(⟨(rtrimD s.data.toList).toArray⟩:ByteArray)=r1:=⟨_,rfl⟩
 obtain ⟨r2,hr2⟩:∃ r2:ByteArray,(⟨((rtrimD s.data.toList).dropWhile isDig).toArray⟩:ByteArray)=r2:=⟨_,rfl⟩
 simp only [hr1,hr2] at HR HL
 rw [hr2]
 clear hat hsz hone hr1 hr2 z0 hs
 go_enter Tryz.func199,Tryz.ntmps199
 go_wp2_with fail
 refine HM.out.mono ?_
 rintro e w1 ⟨rfl,hw1⟩
 have hb1:Below w.heap.size w w1:=by
  rw [hw1]
  exact (Below.refl _ _).alloc (Nat.le_refl _) _
 clear hw1
 have hbz:(w1.alloc (.cells Tryz.zeroCells236 236)).heap[w1.heap.size]? = some (.cells Tryz.zeroCells236 236 (0,0)):=World.alloc_heap_new w1 _
 have HBZ:=Lib.hid hbz
 have HZZ:=Lib.hid (show Tryz.zeroCells236.size=S.size by rw [HSZ.out]; kernel_rfl)
 clear hbz
 go_wp2_with (refine wpList_store_row rfl 236 (.tmp 5) (.tmp 32) rfl w1.heap.size S rfl rfl 236 _ HBZ.out (by rw [HSZ.out]; exact set_info) HZZ.out HONE.out ?_)
 have hb2:Below w.heap.size w ((w1.alloc (.cells Tryz.zeroCells236 236)).setRow w1.heap.size S):=
  (hb1.alloc hb1.size _).trans ⟨rfl,rfl,rfl,by simp,fun q hq=>setRow_other _ _ _ _ (by have:=hb1.size; omega)⟩
 have hcs:∀ x:UInt8,((w1.alloc (.cells Tryz.zeroCells236 236)).setRow w1.heap.size S).cell? ⟨w1.heap.size,x.toNat,none⟩=some (.bool (isDig x)):=fun x=>by
  have:=setRow_heap _ _ _ S _ _ HBZ.out
  simp only [World.cell?,this]
  simpa using HAT.out x
 have HCS:=Lib.hid hcs
 clear hcs
 refine (HR.out _ _ HCS.out).mono ?_
 rintro e w2 ⟨rfl,rfl⟩
 go_wp2_with fail
 refine (HL.out _ _ HCS.out).mono ?_
 rintro e w2 ⟨rfl,rfl⟩
 go_wp2_with fail
 go_ret
 exact ⟨rfl,hb2⟩
end Go.Proofs.YtfckekaegjjmkaaGreatDoor
namespace Go.Proofs.YtfckekaegjjmkaaGreatDoor
open Go.RowKit Go.Shelf

theorem list_empty {s:ByteArray}:s.toList.isEmpty=decide (s.size=0):=by
 rw [ByteArray.toList_eq]
 by_cases h:s.size=0
 ·have:=str_empty h
  subst this
  rfl
 ·rw [decide_eq_false h]
  cases hl:s.data.toList with
  | nil =>
   exfalso
   apply h
   have:s.data.toList.length=s.size:=by simp
   rw [← this,hl]
   rfl
  | cons c r=>rfl

set_option maxHeartbeats 2000000 in
set_option maxRecDepth 100000 in
theorem nat_Right (s:ByteArray) (hs:s.size ≤ 9223372036854775807) (w:World) :
  Calls Tryz.prog 162 #[.string s] w fun e w'=>e=.returned (.bool (natOk s)) ∧ Below w.heap.size w w':=by
 obtain ⟨ans,hans⟩:∃ ans,natOk s=ans:=⟨_,rfl⟩
 rw [hans]
 unfold natOk at hans
 by_cases h1:1 ≤ s.size
 case neg =>
  have z2:s.toList.isEmpty=true:=by rw [list_empty]; exact decide_eq_true (by omega)
  rw [decide_eq_false h1,Bool.false_and] at hans
  subst hans
  go_enter Tryz.func162,Tryz.ntmps162
  go_wp2_with fail
  go_ret
  exact ⟨rfl,Below.refl _ _⟩
 have z2:s.toList.isEmpty=false:=by rw [list_empty]; exact decide_eq_false (by omega)
 have z3:(0:Int) < s.size:=by omega
 have hpos:0 < s.size:=by omega
 rw [decide_eq_true h1,Bool.true_and] at hans
 by_cases h4:s.size ≤ 400
 case neg =>
  have z4:(400:Int) < s.size:=by omega
  rw [decide_eq_false h4,Bool.false_and] at hans
  subst hans
  go_enter Tryz.func162,Tryz.ntmps162
  go_wp2_with fail
  go_ret
  exact ⟨rfl,Below.refl _ _⟩
 have z4:¬ (400:Int) < s.size:=by omega
 rw [decide_eq_true h4,Bool.true_and,head_at0 s hpos] at hans
 obtain ⟨c,hcc⟩:∃ c,s[0]'hpos=c:=⟨_,rfl⟩
 rw [hcc] at hans
 have hcc2:∃ cn:Nat,c.toNat=cn:=⟨_,rfl⟩
 obtain ⟨cn,hcn⟩:=hcc2
 have h48:decide (some c=some (48:UInt8))=decide (cn=48):=by
  rw [decide_eq_decide,Option.some.injEq,← hcn]
  exact ⟨fun h=>by rw [h]; rfl,fun h=>UInt8.toNat_inj.1 h⟩
 rw [h48] at hans
 clear h48
 by_cases h2:1 < s.size ∧ cn=48
 case pos =>
  have z5:(1:Int) < s.size:=by omega
  have z6:((cn:Int) == 48)=true:=by rw [beq_iff_eq]; omega
  rw [decide_eq_true h2.1,decide_eq_true h2.2] at hans
  subst hans
  clear h2
  go_enter Tryz.func162,Tryz.ntmps162
  go_wp2_with fail
  go_ret
  exact ⟨rfl,Below.refl _ _⟩
 have hfin:ans=s.data.toList.all isDig:=by
  rw [← hans]
  have:(decide (1 < s.size) && decide (cn=48))=false:=by
   rw [Bool.and_eq_false_iff,decide_eq_false_iff_not,decide_eq_false_iff_not]
   omega
  rw [this]
  rfl
 have HT:=Lib.hid (trim_digits s w hs (by omega))
 obtain ⟨r,hr⟩:∃ r:ByteArray,(⟨((rtrimD s.data.toList).dropWhile isDig).toArray⟩:ByteArray)=r:=⟨_,rfl⟩
 have hre:r.toList.isEmpty=ans:=by
  rw [hfin,Bool.eq_iff_iff,← trim_nil,ByteArray.toList_eq,← hr]
  simp
 rw [hr] at HT
 clear hr hfin hans
 have HRE:=Lib.hid hre
 clear hre
 by_cases h5:1 < s.size
 ·have z5:(1:Int) < s.size:=by omega
  have z6:((cn:Int) == 48)=false:=by rw [beq_eq_false_iff_ne]; omega
  have z7:¬ (cn:Int)=48:=by omega
  clear h2
  go_enter Tryz.func162,Tryz.ntmps162
  go_wp2_with fail
  refine HT.out.mono ?_
  rintro e w2 ⟨rfl,hb⟩
  have hre:=HRE.out
  go_wp2_with fail
  go_ret
  exact ⟨rfl,hb⟩
 ·have z5:¬ (1:Int) < s.size:=by omega
  by_cases h6:cn=48
  ·have z6:((cn:Int) == 48)=true:=by rw [beq_iff_eq]; omega
   clear h2
   subst h6
   go_enter Tryz.func162,Tryz.ntmps162
   go_wp2_with fail
   refine HT.out.mono ?_
   rintro e w2 ⟨rfl,hb⟩
   have hre:=HRE.out
   go_wp2_with fail
   go_ret
   exact ⟨rfl,hb⟩
  ·have z6:((cn:Int) == 48)=false:=by rw [beq_eq_false_iff_ne]; omega
   have z7:¬ (cn:Int)=48:=by omega
   clear h2
   go_enter Tryz.func162,Tryz.ntmps162
   go_wp2_with fail
   refine HT.out.mono ?_
   rintro e w2 ⟨rfl,hb⟩
   have hre:=HRE.out
   go_wp2_with fail
   go_ret
   exact ⟨rfl,hb⟩
end Go.Proofs.YtfckekaegjjmkaaGreatDoor
namespace Go.Proofs.YtfckekaegjjmkaaGreatDoor
open Go.RowKit Go.Shelf

set_option maxRecDepth 100000 in
theorem dec_zero (w:World):Calls Tryz.prog 159 #[] w fun e w'=>e=.returned (.agg #[.bool false,.string ⟨#[48]⟩,.int .i64 0]) ∧ Below w.heap.size w w':=by
 go_enter Tryz.func159,Tryz.ntmps159
 go_wp2
 exact bodyPost_ret (v:=.agg #[.bool false,.string ⟨#[48]⟩,.int .i64 0]) (by simp [results,Tryz.results159,go_sem]) rfl ⟨rfl,(Below.refl _ _).alloc (Nat.le_refl _) _⟩

theorem dec_within (n m:Int) (h0:0 ≤ m) (h1:m ≤ 1000) (w:World):Calls Tryz.prog 156 #[.int .i64 n,.int .i64 m] w fun e w'=>e=.returned (.bool (decide (-m ≤ n) && decide (n ≤ m))) ∧ w=w':=by
 by_cases h2 : -m ≤ n
 ·by_cases h3:n ≤ m
  ·rw [decide_eq_true h2,decide_eq_true h3]
   go_enter Tryz.func156,Tryz.ntmps156
   go_wp2
   go_ret
   exact ⟨rfl,rfl⟩
  ·rw [decide_eq_true h2,decide_eq_false h3]
   go_enter Tryz.func156,Tryz.ntmps156
   go_wp2
   go_ret
   exact ⟨rfl,rfl⟩
 ·rw [decide_eq_false h2]
  go_enter Tryz.func156,Tryz.ntmps156
  go_wp2
  go_ret
  exact ⟨rfl,rfl⟩

theorem suffix_last (l:List UInt8) (h:l ≠ []):Lib.hasSuffix l [48]=decide (l.getLast? = some 48):=by
 unfold Lib.hasSuffix
 rw [Bool.eq_iff_iff,List.isSuffixOf_iff_suffix,decide_eq_true_iff]
 constructor
 ·rintro ⟨k,rfl⟩
  simp
 ·intro e
  rw [List.getLast?_eq_some_getLast h] at e
  exact ⟨l.dropLast,by rw [← Option.some.inj e]; exact List.dropLast_concat_getLast h⟩
def decRest (dg:ByteArray) (ex:Int):Bool:=natOk dg && (decide (dg.size ≤ 100) && ((decide (-100 ≤ ex) && decide (ex ≤ 100)) && !Lib.hasSuffix dg.data.toList [48]))
theorem decOk_zero:decOk false ⟨#[48]⟩ 0=true:=by decide +kernel
theorem decOk_rest {neg:Bool} {dg:ByteArray} {ex:Int} (h:¬ (neg=false ∧ dg=⟨#[48]⟩ ∧ ex=0)):decOk neg dg ex=decRest dg ex:=by
 unfold decOk decRest
 cases hn:natOk dg with
 | false=>rfl
 | true =>
  have h1:1 ≤ dg.size:=by
   unfold natOk at hn
   rw [Bool.and_eq_true,decide_eq_true_iff] at hn
   exact hn.1
  have hne:dg.data.toList ≠ []:=fun e=>by
   have:dg.data.toList.length=dg.size:=by simp
   rw [e] at this
   simp at this
   omega
  rw [suffix_last _ hne]
  congr 2
  by_cases h0:dg.toList=[48]
  ·rw [if_pos h0]
   have hd:dg.data.toList=[48]:=by rw [← ByteArray.toList_eq]; exact h0
   have hd2:dg=⟨#[48]⟩:=str_ext hd
   rw [hd]
   have:decide (([48]:List UInt8).getLast? = some 48)=true:=by decide
   rw [this,Bool.not_true,Bool.and_false]
   cases neg with
   | true=>rw [Bool.not_true,Bool.and_false]
   | false =>
    rw [decide_eq_false (fun e=>h ⟨rfl,hd2,e⟩),Bool.false_and]
  ·rw [if_neg h0,Bool.and_assoc]

set_option maxHeartbeats 4000000 in
set_option maxRecDepth 100000 in
theorem dec_Right (neg:Bool) (dg:ByteArray) (ex:Int) (hs:dg.size ≤ 9223372036854775807) (w:World) :
  Calls Tryz.prog 127 #[.agg #[.bool neg,.string dg,.int .i64 ex]] w fun e w'=>e=.returned (.bool (decOk neg dg ex)) ∧ Below w.heap.size w w':=by
 have HZ:=Lib.hid dec_zero
 have hbx:Below w.heap.size w (w.alloc (.cells #[.bool neg,.string dg,.int .i64 ex] 23)):=(Below.refl _ _).alloc (Nat.le_refl _) _
 have hkx:=Blk.new w #[.bool neg,.string dg,.int .i64 ex] 23
 by_cases hz:neg=false ∧ dg=⟨#[48]⟩ ∧ ex=0
 ·obtain ⟨rfl,rfl,rfl⟩:=hz
  rw [decOk_zero]
  have c0:=hkx.cell 0
  have c1:=hkx.cell 1
  have c2:=hkx.cell 2
  go_enter Tryz.func127,Tryz.ntmps127
  go_wp2_with fail
  go_region_held3 (fun w'=>w'.cell? ⟨w.heap.size,0,none⟩=some (.bool false) ∧ w'.cell? ⟨w.heap.size,1,none⟩=some (.string ⟨#[48]⟩) ∧ w'.cell? ⟨w.heap.size,2,none⟩=some (.int .i64 0)) (go_keep)
   (first | (go_at_call 159; refine (HZ.out _).mono ?_; rintro e w4 ⟨rfl,hb4⟩; have hk4:=(Blk.drew hkx).below hb4 (Blk.drew hkx).lt; have c40:=hk4.cell 0; have c41:=hk4.cell 1; have c42:=hk4.cell 2))
  have hb5:Below w.heap.size w w4:=(below_drewN hbx 1).trans (hb4.mono hbx.size)
  go_wp2_with fail
  go_ret
  exact ⟨rfl,hb5⟩
 rw [decOk_rest hz]
 have HN:=Lib.hid (nat_Right dg hs)
 have HW:=Lib.hid (fun w=>dec_within ex 100 (by decide) (by decide) w)
 have HS:=Lib.hid (fun w=>Tryz.strings_HasSuffix dg ⟨#[48]⟩ w hs)
 have h3:neg=true ∨ (neg=false ∧ ¬ dg=⟨#[48]⟩) ∨ (neg=false ∧ dg=⟨#[48]⟩ ∧ ¬ ex=0):=by
  cases neg with
  | true=>exact .inl rfl
  | false =>
   by_cases h1:dg=⟨#[48]⟩
   ·exact .inr (.inr ⟨rfl,h1,fun e=>hz ⟨rfl,h1,e⟩⟩)
   ·exact .inr (.inl ⟨rfl,h1⟩)
 obtain ⟨ans,hans⟩:∃ ans,decRest dg ex=ans:=⟨_,rfl⟩
 rw [hans]
 unfold decRest at hans
 obtain ⟨b1,hb1⟩:∃ b1,natOk dg=b1:=⟨_,rfl⟩
 obtain ⟨b3,hb3⟩:∃ b3,(decide (-100 ≤ ex) && decide (ex ≤ 100))=b3:=⟨_,rfl⟩
 obtain ⟨b4,hb4⟩:∃ b4,Lib.hasSuffix dg.data.toList [48]=b4:=⟨_,rfl⟩
 have HS:Hid (∀ w,Calls Tryz.prog 163 #[.string dg,.string ⟨#[48]⟩] w fun e w'=>e=.returned (.bool (Lib.hasSuffix dg.data.toList [48])) ∧ w'=w):=HS
 simp only [hb1] at HN
 simp only [hb3] at HW
 simp only [hb4] at HS
 rw [hb1,hb3,hb4] at hans
 clear hb1 hb3 hb4 hz
 have c0:=hkx.cell 0
 have c1:=hkx.cell 1
 have c2:=hkx.cell 2
 have hq:(dg.toList == [48])=decide (dg=⟨#[48]⟩):=by
  by_cases h:dg=⟨#[48]⟩
  ·subst h
   decide +kernel
  ·rw [decide_eq_false h,beq_eq_false_iff_ne,ByteArray.toList_eq]
   exact fun e=>h (str_ext e)
 rcases h3 with h3 | ⟨h3,h4⟩ | ⟨h3,h4,h5⟩
 ·subst h3
  clear hq
  have HANS:=Lib.hid hans
  clear hans
  go_enter Tryz.func127,Tryz.ntmps127
  go_wp2_with fail
  go_region_held3 (fun w'=>w'.cell? ⟨w.heap.size,0,none⟩=some (.bool true) ∧ w'.cell? ⟨w.heap.size,1,none⟩=some (.string dg) ∧ w'.cell? ⟨w.heap.size,2,none⟩=some (.int .i64 ex)) (go_keep)
   (first | (go_at_call 159; refine (HZ.out _).mono ?_; rintro e w4 ⟨rfl,hb4⟩; have hk4:=(Blk.drew hkx).below hb4 (Blk.drew hkx).lt; have c40:=hk4.cell 0; have c41:=hk4.cell 1; have c42:=hk4.cell 2))
  have hb5:Below w.heap.size w w4:=(below_drewN hbx 1).trans (hb4.mono hbx.size)
  go_wp2_with fail
  refine (HN.out _).mono ?_
  rintro e w5 ⟨rfl,hb6⟩
  have hk5:=hk4.below hb6 hk4.lt
  have hb7:=hb5.trans (hb6.mono hb5.size)
  have d0:=hk5.cell 0
  have d1:=hk5.cell 1
  have d2:=hk5.cell 2
  clear hk4 hb4 hb5 hb6 c0 c1 c2 c40 c41 c42 hkx hbx HN HZ
  cases b1 with
  | false =>
   obtain rfl:false=ans:=HANS.out
   go_wp2_with fail
   all_goals go_ret
   all_goals exact ⟨rfl,hb7⟩
  | true =>
   by_cases hl:dg.size ≤ 100
   ·have z1:(dg.size:Int) ≤ 100:=by omega
    have ha:(b3 && !b4)=ans:=by
     have:=HANS.out
     rw [decide_eq_true hl] at this
     exact this
    clear HANS
    go_wp2_with fail
    refine (HW.out _).mono ?_
    rintro e w6 ⟨rfl,rfl⟩
    cases b3 with
    | false =>
     obtain rfl:false=ans:=ha
     go_wp2_with fail
     all_goals go_ret
     all_goals exact ⟨rfl,hb7⟩
    | true =>
     obtain rfl:(!b4)=ans:=ha
     go_wp2_with fail
     refine (HS.out _).mono ?_
     rintro e w6 ⟨rfl,rfl⟩
     cases b4 with
     | false =>
      go_wp2_with fail
      all_goals go_ret
      all_goals exact ⟨rfl,hb7⟩
     | true =>
      go_wp2_with fail
      all_goals go_ret
      all_goals exact ⟨rfl,hb7⟩
   ·have z1:¬ (dg.size:Int) ≤ 100:=by omega
    have z2:(100:Int) < dg.size:=by omega
    obtain rfl:false=ans:=by
     have:=HANS.out
     rw [decide_eq_false hl] at this
     exact this
    go_wp2_with fail
    all_goals go_ret
    all_goals exact ⟨rfl,hb7⟩
 ·subst h3
  rw [decide_eq_false h4] at hq
  clear h4
  have HANS:=Lib.hid hans
  clear hans
  go_enter Tryz.func127,Tryz.ntmps127
  go_wp2_with fail
  go_region_held3 (fun w'=>w'.cell? ⟨w.heap.size,0,none⟩=some (.bool false) ∧ w'.cell? ⟨w.heap.size,1,none⟩=some (.string dg) ∧ w'.cell? ⟨w.heap.size,2,none⟩=some (.int .i64 ex)) (go_keep)
   (first | (go_at_call 159; refine (HZ.out _).mono ?_; rintro e w4 ⟨rfl,hb4⟩; have hk4:=(Blk.drew hkx).below hb4 (Blk.drew hkx).lt; have c40:=hk4.cell 0; have c41:=hk4.cell 1; have c42:=hk4.cell 2))
  have hb5:Below w.heap.size w w4:=(below_drewN hbx 1).trans (hb4.mono hbx.size)
  go_wp2_with fail
  refine (HN.out _).mono ?_
  rintro e w5 ⟨rfl,hb6⟩
  have hk5:=hk4.below hb6 hk4.lt
  have hb7:=hb5.trans (hb6.mono hb5.size)
  have d0:=hk5.cell 0
  have d1:=hk5.cell 1
  have d2:=hk5.cell 2
  clear hk4 hb4 hb5 hb6 c0 c1 c2 c40 c41 c42 hkx hbx HN HZ
  cases b1 with
  | false =>
   obtain rfl:false=ans:=HANS.out
   go_wp2_with fail
   all_goals go_ret
   all_goals exact ⟨rfl,hb7⟩
  | true =>
   by_cases hl:dg.size ≤ 100
   ·have z1:(dg.size:Int) ≤ 100:=by omega
    have ha:(b3 && !b4)=ans:=by
     have:=HANS.out
     rw [decide_eq_true hl] at this
     exact this
    clear HANS
    go_wp2_with fail
    refine (HW.out _).mono ?_
    rintro e w6 ⟨rfl,rfl⟩
    cases b3 with
    | false =>
     obtain rfl:false=ans:=ha
     go_wp2_with fail
     all_goals go_ret
     all_goals exact ⟨rfl,hb7⟩
    | true =>
     obtain rfl:(!b4)=ans:=ha
     go_wp2_with fail
     refine (HS.out _).mono ?_
     rintro e w6 ⟨rfl,rfl⟩
     cases b4 with
     | false =>
      go_wp2_with fail
      all_goals go_ret
      all_goals exact ⟨rfl,hb7⟩
     | true =>
      go_wp2_with fail
      all_goals go_ret
      all_goals exact ⟨rfl,hb7⟩
   ·have z1:¬ (dg.size:Int) ≤ 100:=by omega
    have z2:(100:Int) < dg.size:=by omega
    obtain rfl:false=ans:=by
     have:=HANS.out
     rw [decide_eq_false hl] at this
     exact this
    go_wp2_with fail
    all_goals go_ret
    all_goals exact ⟨rfl,hb7⟩
 ·subst h3
  subst h4
  have hx:(ex == 0)=false:=by rw [beq_eq_false_iff_ne]; exact h5
  clear hq
  have HANS:=Lib.hid hans
  clear hans
  go_enter Tryz.func127,Tryz.ntmps127
  go_wp2_with fail
  go_region_held3 (fun w'=>w'.cell? ⟨w.heap.size,0,none⟩=some (.bool false) ∧ w'.cell? ⟨w.heap.size,1,none⟩=some (.string ⟨#[48]⟩) ∧ w'.cell? ⟨w.heap.size,2,none⟩=some (.int .i64 ex)) (go_keep)
   (first | (go_at_call 159; refine (HZ.out _).mono ?_; rintro e w4 ⟨rfl,hb4⟩; have hk4:=(Blk.drew hkx).below hb4 (Blk.drew hkx).lt; have c40:=hk4.cell 0; have c41:=hk4.cell 1; have c42:=hk4.cell 2))
  have hb5:Below w.heap.size w w4:=(below_drewN hbx 1).trans (hb4.mono hbx.size)
  go_wp2_with fail
  refine (HN.out _).mono ?_
  rintro e w5 ⟨rfl,hb6⟩
  have hk5:=hk4.below hb6 hk4.lt
  have hb7:=hb5.trans (hb6.mono hb5.size)
  have d0:=hk5.cell 0
  have d1:=hk5.cell 1
  have d2:=hk5.cell 2
  clear hk4 hb4 hb5 hb6 c0 c1 c2 c40 c41 c42 hkx hbx HN HZ
  cases b1 with
  | false =>
   obtain rfl:false=ans:=HANS.out
   go_wp2_with fail
   all_goals go_ret
   all_goals exact ⟨rfl,hb7⟩
  | true =>
   by_cases hl:(⟨#[48]⟩:ByteArray).size ≤ 100
   ·have z1:((⟨#[48]⟩:ByteArray).size:Int) ≤ 100:=by omega
    have ha:(b3 && !b4)=ans:=by
     have:=HANS.out
     rw [decide_eq_true hl] at this
     exact this
    clear HANS
    go_wp2_with fail
    refine (HW.out _).mono ?_
    rintro e w6 ⟨rfl,rfl⟩
    cases b3 with
    | false =>
     obtain rfl:false=ans:=ha
     go_wp2_with fail
     all_goals go_ret
     all_goals exact ⟨rfl,hb7⟩
    | true =>
     obtain rfl:(!b4)=ans:=ha
     go_wp2_with fail
     refine (HS.out _).mono ?_
     rintro e w6 ⟨rfl,rfl⟩
     cases b4 with
     | false =>
      go_wp2_with fail
      all_goals go_ret
      all_goals exact ⟨rfl,hb7⟩
     | true =>
      go_wp2_with fail
      all_goals go_ret
      all_goals exact ⟨rfl,hb7⟩
   ·exact absurd (show (⟨#[48]⟩:ByteArray).size ≤ 100 by decide) hl
end Go.Proofs.YtfckekaegjjmkaaGreatDoor
namespace Go.Proofs.YtfckekaegjjmkaaGreatDoor
open Go.RowKit Go.Shelf

theorem results_cell {P:Program} {fn:Func} {tmps:Array Value} {W:World} {a s b:Nat} {T t:TypeId} {cs:Array Value} {fr:Nat × Nat} {d:TypeDesc} {u:Value} (hr:fn.results = #[.cell a T,.tmp s])
  (ha:tmps.getD a undef=.pointer (some ⟨b,0,none⟩)) (hs:tmps.getD s undef=u) (hk:W.heap[b]? = some (.cells cs t fr))
  (hu:P.underlying T=some d) (hd:(match d with | .struct _ | .array _ _=>true | _=>false)=true) (hi:(P.info? T).map (·.size)=some cs.size) :
  (results fn tmps).run P W=.ok (.tuple #[.agg cs,u]) W:=by
 unfold results
 rw [hr]
 have h1:=run_loadVar_row (P:=P) W b t T cs fr d hk hu hd hi
 rw [Array.getD_eq_getD_getElem?] at ha hs
 simp [Array.mapM_eq_foldlM,ha,hs,asAddr,h1,Result.andThen]

theorem results_cell3 {P:Program} {fn:Func} {tmps:Array Value} {W:World} {a s s2 b:Nat} {T t:TypeId} {cs:Array Value} {fr:Nat × Nat} {d:TypeDesc} {u u2:Value} (hr:fn.results = #[.cell a T,.tmp s,.tmp s2])
  (ha:tmps.getD a undef=.pointer (some ⟨b,0,none⟩)) (hs:tmps.getD s undef=u) (hs2:tmps.getD s2 undef=u2) (hk:W.heap[b]? = some (.cells cs t fr))
  (hu:P.underlying T=some d) (hd:(match d with | .struct _ | .array _ _=>true | _=>false)=true) (hi:(P.info? T).map (·.size)=some cs.size) :
  (results fn tmps).run P W=.ok (.tuple #[.agg cs,u,u2]) W:=by
 unfold results
 rw [hr]
 have h1:=run_loadVar_row (P:=P) W b t T cs fr d hk hu hd hi
 rw [Array.getD_eq_getD_getElem?] at ha hs hs2
 simp [Array.mapM_eq_foldlM,ha,hs,hs2,asAddr,h1,Result.andThen]
theorem results_cell2 {P:Program} {fn:Func} {tmps:Array Value} {W:World} {a a2 b b2:Nat} {T T2 t:TypeId} {cs:Array Value} {fr:Nat × Nat} {d d2:TypeDesc} {u:Value} (hr:fn.results = #[.cell a T,.cell a2 T2])
  (ha:tmps.getD a undef=.pointer (some ⟨b,0,none⟩)) (ha2:tmps.getD a2 undef=.pointer (some ⟨b2,0,none⟩)) (hk:W.heap[b]? = some (.cells cs t fr))
  (hu:P.underlying T=some d) (hd:(match d with | .struct _ | .array _ _=>true | _=>false)=true) (hi:(P.info? T).map (·.size)=some cs.size)
  (hu2:P.underlying T2=some d2) (hd2:(match d2 with | .struct _ | .array _ _=>true | _=>false)=false) (h2:W.cell? ⟨b2,0,none⟩=some u) :
  (results fn tmps).run P W=.ok (.tuple #[.agg cs,u]) W:=by
 unfold results
 rw [hr]
 have h1:=run_loadVar_row (P:=P) W b t T cs fr d hk hu hd hi
 have h3:(loadVar T2 ⟨b2,0,none⟩).run P W=.ok u W:=by
  have hagg:(isAgg T2).run P W=.ok false W:=by
   unfold isAgg
   rw [Sem.run_bind,run_underlying hu2 W]
   cases d2 <;> simp_all
  simp [loadVar,Sem.run_bind,hagg,go_sem,h2]
 rw [Array.getD_eq_getD_getElem?] at ha ha2
 simp [Array.mapM_eq_foldlM,ha,ha2,asAddr,h1,h3,Result.andThen]
end Go.Proofs.YtfckekaegjjmkaaGreatDoor
