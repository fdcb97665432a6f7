/- The texts GateL, GateD, GateE, put together. -/
import Derived.Test.YtonihophanmaaaaGreatDoorPa09
import Derived.Test.YtonihophanmaaaaGreatDoorPa03
import Derived.Test.YtonihophanmaaaaGreatDoorPa07
import Derived.Lib.AsciiSet
import Derived.BigQuiet
import Derived.Deep.QuietTactic
namespace Go.Proofs.YtonihophanmaaaaGreatDoor
open Go.RowKit Go.Shelf
def AnyIx (a:Bool) (w:World) (e:Ending) (w':World):Prop:=∃ r:Int,e=.returned (.int .i64 r)∧(0≤r↔a=true)∧Below w.heap.size w w'
set_option maxHeartbeats 4000000 in
set_option maxRecDepth 100000 in
theorem index_twice (p:Tr→Bool) (bx:Nat) (l:List Tr) (A:Option Addr) (n c:Nat) (w:World) (B d:Nat) (hl:ListAt w B d l (.slice A n c)) (hB:B≤w.heap.size) (hn:l.length=n)
  (hp:∀ (k:Nat) (h:k<l.length) (x:Value) (W:World),Below w.heap.size w W→ListAt W B d l[k].kids x→OwnOk l[k].own→Calls Tryz.prog 176 #[nodeV l[k].own x,.pointer (some ⟨bx,0,none⟩)] W fun e W'=>e=.returned (.bool (p l[k]))∧Below W.heap.size W W') :
  Calls Tryz.prog 103 #[.slice A n c,.func (.func 176) #[] #[.pointer (some ⟨bx,0,none⟩)]] w (AnyIx (l.any p) w):=by
 obtain ⟨ans,hans⟩:∃ ans,l.any p=ans:=⟨_,rfl⟩
 rw [hans]
 have HL:=Lib.hid hl
 have HP:=Lib.hid hp
 have HN:=Lib.hid hn
 have H0:=Lib.hid (show (l.drop 0).any p=ans by rw [List.drop_zero]; exact hans)
 have hlen:=hl.slice.1
 rw [hn]at hlen
 clear hl hp hn hans
 go_enter Tryz.func103,Tryz.ntmps103
 go_wp2_with fail
 go_loopw [8] (fun i wr=>∃ k:Nat,k≤n∧i=.int .i64 k∧Below w.heap.size w wr∧Hid ((l.drop k).any p=ans)) (fun i _=>n - (intOf i).toNat)
 case atStart=>exact ⟨0,by omega,rfl,Below.refl _ _,H0⟩
 case round =>
  obtain ⟨k,hk,rfl,hbw,hs⟩:=hrel
  by_cases hlt:k<n
  ·have hkl:k<l.length:=by rw [HN.out]; exact hlt
   have hsd:=hs.out
   rw [List.drop_eq_getElem_cons hkl,List.any_cons]at hsd
   obtain ⟨d1,ad,x1,hd1,rfl,hab,hok,hna,hkk⟩:=(HL.out.below hbw hB).at_ hkl
   obtain ⟨_,A2,c2,rfl⟩:=hkk.slice
   obtain ⟨n2,hn2⟩:∃ n2,l[k].kids.length=n2:=⟨_,rfl⟩
   rw [hn2]at hna hkk
   have HC:=HP.out k hkl (.slice A2 n2 c2) wr hbw (hkk.deeper (by omega)) hok
   obtain ⟨b1,hb1⟩:∃ b1,p l[k]=b1:=⟨_,rfl⟩
   rw [hb1]at HC hsd
   have y1:(k:Int)<n:=by omega
   obtain ⟨⟨kind,b,neg,dg,ex,u,wd,s⟩,ho⟩:∃ o,l[k].own=o:=⟨_,rfl⟩
   rw [ho]at HC hna
   unfold nodeV at HC
   obtain ⟨k0,k1,k2,k3,k4,k5,k6,k7,k8⟩:=hna
   simp only []at k0 k1 k2 k3 k4 k5 k6 k7 k8 HC
   have HC:=Lib.hid HC
   have HSD:=Lib.hid hsd
   clear hsd hb1 ho hkk hok hd1 hn2
   go_wp2_with fail
   refine HC.out.mono ?_
   rintro e w2 ⟨rfl,hb⟩
   have hb4:=hbw.trans (hb.mono hbw.size)
   clear hb hbw HC k0 k1 k2 k3 k4 k5 k6 k7 k8
   cases b1 with
   | true =>
    have hf:ans=true:=by rw [← HSD.out,Bool.true_or]
    subst hf
    go_wp2_with fail
    go_ret
    exact ⟨_,rfl,iff_of_true (by omega) rfl,hb4⟩
   | false =>
    have hnx:Hid ((l.drop (k+1)).any p=ans):=Lib.hid (by have:=HSD.out; rw [Bool.false_or]at this; exact this)
    go_wp2_with fail
    go_roundw
    case rel=>exact ⟨k+1,by omega,by go_num,hb4,hnx⟩
    case measure=>simp [intOf]; omega
  ·obtain rfl:k=n:=by omega
   have y1:¬ (k:Int)<k:=by omega
   have hf:ans=false:=by
    rw [← hs.out,List.drop_eq_nil_of_le (by rw [HN.out]; exact Nat.le_refl _)]
    rfl
   subst hf
   go_wp2_with fail
   go_ret
   exact ⟨-1,rfl,iff_of_false (by omega) (by decide),hbw⟩
set_option maxHeartbeats 4000000 in
set_option maxRecDepth 100000 in
theorem contains_twice (p:Tr→Bool) (bx:Nat) (l:List Tr) (A:Option Addr) (n c:Nat) (w:World) (B d:Nat) (hl:ListAt w B d l (.slice A n c)) (hB:B≤w.heap.size) (hn:l.length=n)
  (hp:∀ (k:Nat) (h:k<l.length) (x:Value) (W:World),Below w.heap.size w W→ListAt W B d l[k].kids x→OwnOk l[k].own→Calls Tryz.prog 176 #[nodeV l[k].own x,.pointer (some ⟨bx,0,none⟩)] W fun e W'=>e=.returned (.bool (p l[k]))∧Below W.heap.size W W') :
  Calls Tryz.prog 65 #[.slice A n c,.func (.func 176) #[] #[.pointer (some ⟨bx,0,none⟩)]] w fun e w'=>e=.returned (.bool (l.any p))∧Below w.heap.size w w':=by
 have HI:=Lib.hid (index_twice p bx l A n c w B d hl hB hn hp)
 obtain ⟨ans,hans⟩:∃ ans,l.any p=ans:=⟨_,rfl⟩
 rw [hans]at HI ⊢
 clear hl hp hn hans
 go_enter Tryz.func65,Tryz.ntmps65
 go_wp2_with fail
 refine HI.out.mono ?_
 rintro e w2 ⟨r,rfl,hr,hb⟩
 cases ans with
 | true =>
  have h0:(0:Int)≤r:=hr.2 rfl
  clear hr
  go_wp2_with fail
  go_ret
  exact ⟨rfl,hb⟩
 | false =>
  have h0:r<0:=by
   by_cases h:(0:Int)≤r
   ·exact absurd (hr.1 h) (by decide)
   ·omega
  have h1:¬ (0:Int)≤r:=by omega
  have h2:decide ((0:Int)≤r)=false:=decide_eq_false h1
  clear hr
  go_wp2_with fail
  go_ret
  exact ⟨rfl,hb⟩
set_option maxHeartbeats 4000000 in
set_option maxRecDepth 100000 in
theorem index_fits (p:Tr→Bool) (bx:Nat) (l:List Tr) (A:Option Addr) (n c:Nat) (w:World) (B d:Nat) (hl:ListAt w B d l (.slice A n c)) (hB:B≤w.heap.size) (hn:l.length=n)
  (hp:∀ (k:Nat) (h:k<l.length) (x:Value) (W:World),Below w.heap.size w W→ListAt W B d l[k].kids x→OwnOk l[k].own→Calls Tryz.prog 85 #[nodeV l[k].own x,.pointer (some ⟨bx,0,none⟩)] W fun e W'=>e=.returned (.bool (p l[k]))∧Below W.heap.size W W') :
  Calls Tryz.prog 103 #[.slice A n c,.func (.func 85) #[] #[.pointer (some ⟨bx,0,none⟩)]] w (AnyIx (l.any p) w):=by
 obtain ⟨ans,hans⟩:∃ ans,l.any p=ans:=⟨_,rfl⟩
 rw [hans]
 have HL:=Lib.hid hl
 have HP:=Lib.hid hp
 have HN:=Lib.hid hn
 have H0:=Lib.hid (show (l.drop 0).any p=ans by rw [List.drop_zero]; exact hans)
 have hlen:=hl.slice.1
 rw [hn]at hlen
 clear hl hp hn hans
 go_enter Tryz.func103,Tryz.ntmps103
 go_wp2_with fail
 go_loopw [8] (fun i wr=>∃ k:Nat,k≤n∧i=.int .i64 k∧Below w.heap.size w wr∧Hid ((l.drop k).any p=ans)) (fun i _=>n - (intOf i).toNat)
 case atStart=>exact ⟨0,by omega,rfl,Below.refl _ _,H0⟩
 case round =>
  obtain ⟨k,hk,rfl,hbw,hs⟩:=hrel
  by_cases hlt:k<n
  ·have hkl:k<l.length:=by rw [HN.out]; exact hlt
   have hsd:=hs.out
   rw [List.drop_eq_getElem_cons hkl,List.any_cons]at hsd
   obtain ⟨d1,ad,x1,hd1,rfl,hab,hok,hna,hkk⟩:=(HL.out.below hbw hB).at_ hkl
   obtain ⟨_,A2,c2,rfl⟩:=hkk.slice
   obtain ⟨n2,hn2⟩:∃ n2,l[k].kids.length=n2:=⟨_,rfl⟩
   rw [hn2]at hna hkk
   have HC:=HP.out k hkl (.slice A2 n2 c2) wr hbw (hkk.deeper (by omega)) hok
   obtain ⟨b1,hb1⟩:∃ b1,p l[k]=b1:=⟨_,rfl⟩
   rw [hb1]at HC hsd
   have y1:(k:Int)<n:=by omega
   obtain ⟨⟨kind,b,neg,dg,ex,u,wd,s⟩,ho⟩:∃ o,l[k].own=o:=⟨_,rfl⟩
   rw [ho]at HC hna
   unfold nodeV at HC
   obtain ⟨k0,k1,k2,k3,k4,k5,k6,k7,k8⟩:=hna
   simp only []at k0 k1 k2 k3 k4 k5 k6 k7 k8 HC
   have HC:=Lib.hid HC
   have HSD:=Lib.hid hsd
   clear hsd hb1 ho hkk hok hd1 hn2
   go_wp2_with fail
   refine HC.out.mono ?_
   rintro e w2 ⟨rfl,hb⟩
   have hb4:=hbw.trans (hb.mono hbw.size)
   clear hb hbw HC k0 k1 k2 k3 k4 k5 k6 k7 k8
   cases b1 with
   | true =>
    have hf:ans=true:=by rw [← HSD.out,Bool.true_or]
    subst hf
    go_wp2_with fail
    go_ret
    exact ⟨_,rfl,iff_of_true (by omega) rfl,hb4⟩
   | false =>
    have hnx:Hid ((l.drop (k+1)).any p=ans):=Lib.hid (by have:=HSD.out; rw [Bool.false_or]at this; exact this)
    go_wp2_with fail
    go_roundw
    case rel=>exact ⟨k+1,by omega,by go_num,hb4,hnx⟩
    case measure=>simp [intOf]; omega
  ·obtain rfl:k=n:=by omega
   have y1:¬ (k:Int)<k:=by omega
   have hf:ans=false:=by
    rw [← hs.out,List.drop_eq_nil_of_le (by rw [HN.out]; exact Nat.le_refl _)]
    rfl
   subst hf
   go_wp2_with fail
   go_ret
   exact ⟨-1,rfl,iff_of_false (by omega) (by decide),hbw⟩
set_option maxHeartbeats 4000000 in
set_option maxRecDepth 100000 in
theorem contains_fits (p:Tr→Bool) (bx:Nat) (l:List Tr) (A:Option Addr) (n c:Nat) (w:World) (B d:Nat) (hl:ListAt w B d l (.slice A n c)) (hB:B≤w.heap.size) (hn:l.length=n)
  (hp:∀ (k:Nat) (h:k<l.length) (x:Value) (W:World),Below w.heap.size w W→ListAt W B d l[k].kids x→OwnOk l[k].own→Calls Tryz.prog 85 #[nodeV l[k].own x,.pointer (some ⟨bx,0,none⟩)] W fun e W'=>e=.returned (.bool (p l[k]))∧Below W.heap.size W W') :
  Calls Tryz.prog 65 #[.slice A n c,.func (.func 85) #[] #[.pointer (some ⟨bx,0,none⟩)]] w fun e w'=>e=.returned (.bool (l.any p))∧Below w.heap.size w w':=by
 have HI:=Lib.hid (index_fits p bx l A n c w B d hl hB hn hp)
 obtain ⟨ans,hans⟩:∃ ans,l.any p=ans:=⟨_,rfl⟩
 rw [hans]at HI ⊢
 clear hl hp hn hans
 go_enter Tryz.func65,Tryz.ntmps65
 go_wp2_with fail
 refine HI.out.mono ?_
 rintro e w2 ⟨r,rfl,hr,hb⟩
 cases ans with
 | true =>
  have h0:(0:Int)≤r:=hr.2 rfl
  clear hr
  go_wp2_with fail
  go_ret
  exact ⟨rfl,hb⟩
 | false =>
  have h0:r<0:=by
   by_cases h:(0:Int)≤r
   ·exact absurd (hr.1 h) (by decide)
   ·omega
  have h1:¬ (0:Int)≤r:=by omega
  have h2:decide ((0:Int)≤r)=false:=decide_eq_false h1
  clear hr
  go_wp2_with fail
  go_ret
  exact ⟨rfl,hb⟩
def digs10:List UInt8:=[48,49,50,51,52,53,54,55,56,57]
theorem digs_mem (x:UInt8):digs10.contains x=isDig x:=by
 have h:∀ m:Fin 256,digs10.contains (UInt8.ofNat m.val)=isDig (UInt8.ofNat m.val):=by decide +kernel
 have:=h ⟨x.toNat,x.toNat_lt⟩
 simpa using this
def rtrimD (l:List UInt8):List UInt8:=(l.reverse.dropWhile isDig).reverse
theorem rtrim_yes (l:List UInt8) (c:UInt8) (h:isDig c=true):rtrimD (l++[c])=rtrimD l:=by
 unfold rtrimD
 rw [List.reverse_append]
 show (List.dropWhile isDig (c::l.reverse)).reverse=_
 rw [List.dropWhile_cons_of_pos h]
theorem rtrim_no (l:List UInt8) (c:UInt8) (h:isDig c=false):rtrimD (l++[c])=l++[c]:=by
 unfold rtrimD
 rw [List.reverse_append]
 show (List.dropWhile isDig (c::l.reverse)).reverse=_
 rw [List.dropWhile_cons_of_neg (by rw [h]; decide)]
 simp
theorem rtrim_last (l:List UInt8):rtrimD l=[]∨∃ k c,rtrimD l=k++[c]∧isDig c=false:=by
 unfold rtrimD
 cases h:l.reverse.dropWhile isDig with
 | nil=>exact .inl rfl
 | cons c r =>
  refine .inr ⟨r.reverse,c,by simp,?_⟩
  have:=List.head?_dropWhile_not isDig l.reverse
  rw [h]at this
  simpa using this
theorem drop_nil:∀ l:List UInt8,l.dropWhile isDig=[]↔∀ c∈l,isDig c=true
 | []=>by simp
 | c::l=>by
  cases h:isDig c with
  | true =>
   rw [List.dropWhile_cons_of_pos h,drop_nil l]
   simp [h]
  | false =>
   rw [List.dropWhile_cons_of_neg (by rw [h]; decide)]
   simp [h]
theorem rtrim_all (l:List UInt8):rtrimD l=[]↔l.all isDig=true:=by
 unfold rtrimD
 rw [List.reverse_eq_nil_iff,drop_nil]
 simp [List.all_eq_true]
theorem trim_nil (l:List UInt8):((rtrimD l).dropWhile isDig=[])↔l.all isDig=true:=by
 rw [← rtrim_all]
 constructor
 ·intro h
  rcases rtrim_last l with h0 | ⟨k,c,h1,h2⟩
  ·exact h0
  ·exfalso
   rw [h1,drop_nil]at h
   have:=h c (by simp)
   rw [h2]at this
   cases this
 ·intro h
  rw [h]
  rfl
def strN:Value→Nat
 | .string s=>s.size
 | _=>0
theorem str_snoc (t:ByteArray) (n:Nat) (h:t.size=n+1):t.data.toList=(t.extract 0 n).data.toList++[t[n]'(by omega)]:=by
 have e:(t.extract 0 n).data.toList=t.data.toList.take n:=by
  rw [ByteArray.data_extract,Array.toList_extract]
  simp [List.extract]
 rw [e]
 have hl:t.data.toList.length=n+1:=by simpa using h
 conv=>lhs; rw [← List.take_of_length_le (l:=t.data.toList) (Nat.le_of_eq hl)]
 rw [List.take_succ_eq_append_getElem (by omega)]
 simp [ByteArray.getElem_eq_getElem_data]
theorem str_head (t:ByteArray) (h:0<t.size):t.data.toList=t[0]::(t.extract 1 t.size).data.toList:=by
 rw [extract_list]
 have hl:t.data.toList.length=t.size:=by simp
 conv=>lhs; rw [← List.drop_zero (l:=t.data.toList),List.drop_eq_getElem_cons (by omega)]
 simp [ByteArray.getElem_eq_getElem_data]
set_option maxHeartbeats 2000000 in
set_option maxRecDepth 100000 in
theorem trimRight_digits (s:ByteArray) (b:Nat) (w:World) (hs:s.size≤9223372036854775807) (hc:∀ x:UInt8,w.cell? ⟨b,x.toNat,none⟩=some (.bool (isDig x))) :
  Calls Tryz.prog 249 #[.string s,.pointer (some ⟨b,0,none⟩)] w fun e w'=>e=.returned (.string ⟨(rtrimD s.data.toList).toArray⟩)∧w'=w:=by
 have HC:=Lib.hid hc
 obtain ⟨r,hr⟩:∃ r,rtrimD s.data.toList=r:=⟨_,rfl⟩
 rw [hr]
 have HR:=Lib.hid hr
 clear hc hr
 go_enter Tryz.func249,Tryz.ntmps249
 go_wp2_with fail
 go_loop [0] (fun v=>∃ t:ByteArray,v=.string t∧t.size≤s.size∧Hid (rtrimD t.data.toList=r)) (fun v=>strN v)
 case atStart=>exact ⟨s,rfl,Nat.le_refl _,HR⟩
 case round =>
  obtain ⟨t,rfl,hts,htr⟩:=hrel
  by_cases h0:t.size=0
  ·have e0:=str_empty h0
   subst e0
   have hr0:r=[]:=by rw [← htr.out]; rfl
   subst hr0
   clear htr h0
   go_wp2_with fail
   go_ret
   exact ⟨rfl,rfl⟩
  ·obtain ⟨n,hn⟩:∃ n,t.size=n+1:=⟨t.size - 1,by omega⟩
   have hsn:=str_snoc t n hn
   have hlt:t.size - 1<t.size:=by omega
   have hlast:t[t.size - 1]=t[n]'(by omega):=by congr 1; omega
   have z1:(0:Int)<t.size:=by omega
   have z2:(1:Int)≤t.size∧(t.size:Int) - 1<t.size∧(t.size:Int)≤9223372036854775807:=by omega
   obtain ⟨c,hcc⟩:∃ c,t[t.size - 1]=c:=⟨_,rfl⟩
   have HRY:Hid (isDig c=true→rtrimD t.data.toList=rtrimD (t.extract 0 n).data.toList):=Lib.hid (fun h=>by
    rw [hsn,← hlast,hcc]
    exact rtrim_yes _ _ h)
   have HRF:Hid (isDig c=false→rtrimD t.data.toList=t.data.toList):=Lib.hid (fun h=>by
    rw [hsn,← hlast,hcc]
    exact rtrim_no _ _ h)
   have HA:=Lib.hid (Tryz.asciiSet_contains b c (isDig c) w (HC.out c))
   have HN:=Lib.hid hn
   clear hsn hlast hn
   go_wp2_with fail
   refine HA.out.mono ?_
   rintro e w2 ⟨rfl,rfl⟩
   cases hd:isDig c with
   | true =>
    rw [hd]at HRY
    clear hd HA HRF
    go_wp2_with fail
    go_round
    case rel =>
     refine ⟨t.extract 0 (t.size - 1),rfl,?_,Lib.hid ?_⟩
     ·rw [ByteArray.size_extract]
      omega
     ·rw [show t.size - 1=n by have:=HN.out; omega,← HRY.out trivial]
      exact htr.out
    case measure =>
     simp only [strN,ByteArray.size_extract]
     omega
   | false =>
    rw [hd]at HRF
    clear hd HA HRY
    go_wp2_with fail
    go_ret
    exact ⟨congrArg (fun l:List UInt8=>Ending.returned (.string ⟨l.toArray⟩)) (show t.data.toList=r from by rw [← htr.out,HRF.out trivial]),rfl⟩
set_option maxHeartbeats 2000000 in
set_option maxRecDepth 100000 in
theorem trimLeft_digits (s:ByteArray) (b:Nat) (w:World) (hs:s.size≤9223372036854775807) (hc:∀ x:UInt8,w.cell? ⟨b,x.toNat,none⟩=some (.bool (isDig x))) :
  Calls Tryz.prog 248 #[.string s,.pointer (some ⟨b,0,none⟩)] w fun e w'=>e=.returned (.string ⟨(s.data.toList.dropWhile isDig).toArray⟩)∧w'=w:=by
 have HC:=Lib.hid hc
 obtain ⟨r,hr⟩:∃ r,s.data.toList.dropWhile isDig=r:=⟨_,rfl⟩
 rw [hr]
 have HR:=Lib.hid hr
 clear hc hr
 go_enter Tryz.func248,Tryz.ntmps248
 go_wp2_with fail
 go_loop [0] (fun v=>∃ t:ByteArray,v=.string t∧t.size≤s.size∧Hid (t.data.toList.dropWhile isDig=r)) (fun v=>strN v)
 case atStart=>exact ⟨s,rfl,Nat.le_refl _,HR⟩
 case round =>
  obtain ⟨t,rfl,hts,htr⟩:=hrel
  by_cases h0:t.size=0
  ·have e0:=str_empty h0
   subst e0
   have hr0:r=[]:=by rw [← htr.out]; rfl
   subst hr0
   clear htr h0
   go_wp2_with fail
   go_ret
   exact ⟨rfl,rfl⟩
  ·have hlt:0<t.size:=by omega
   have hsn:=str_head t hlt
   have z1:(0:Int)<t.size:=by omega
   have z2:(1:Int)≤t.size∧(t.size:Int)≤9223372036854775807:=by omega
   obtain ⟨c,hcc⟩:∃ c,t[0]=c:=⟨_,rfl⟩
   rw [hcc]at hsn
   have HRY:Hid (isDig c=true→t.data.toList.dropWhile isDig=(t.extract 1 t.size).data.toList.dropWhile isDig):=Lib.hid (fun h=>by
    rw [hsn]
    exact List.dropWhile_cons_of_pos h)
   have HRF:Hid (isDig c=false→t.data.toList.dropWhile isDig=t.data.toList):=Lib.hid (fun h=>by
    rw [hsn]
    exact List.dropWhile_cons_of_neg (by rw [h]; decide))
   have HA:=Lib.hid (Tryz.asciiSet_contains b c (isDig c) w (HC.out c))
   clear hsn
   go_wp2_with fail
   refine HA.out.mono ?_
   rintro e w2 ⟨rfl,rfl⟩
   cases hd:isDig c with
   | true =>
    rw [hd]at HRY
    clear hd HA HRF
    go_wp2_with fail
    go_round
    case rel =>
     refine ⟨t.extract 1 t.size,rfl,?_,Lib.hid ?_⟩
     ·rw [ByteArray.size_extract]
      omega
     ·rw [← HRY.out trivial]
      exact htr.out
    case measure =>
     simp only [strN,ByteArray.size_extract]
     omega
   | false =>
    rw [hd]at HRF
    clear hd HA HRY
    go_wp2_with fail
    go_ret
    exact ⟨congrArg (fun l:List UInt8=>Ending.returned (.string ⟨l.toArray⟩)) (show t.data.toList=r from by rw [← htr.out,HRF.out trivial]),rfl⟩
set_option maxRecDepth 100000 in
theorem set_zero:∀ w,(zeroValue 279).run Tryz.prog w=.ok (.agg (Array.replicate 256 (.bool false))) w:=fun w=>by kernel_rfl
set_option maxRecDepth 100000 in
theorem set_info:(Tryz.prog.info? 279).map (·.size)=some 256:=by kernel_rfl
theorem rtrim_size (s:ByteArray):(⟨(rtrimD s.data.toList).toArray⟩:ByteArray).size≤s.size:=by
 show (rtrimD s.data.toList).toArray.size≤_
 unfold rtrimD
 rw [List.size_toArray,List.length_reverse]
 refine Nat.le_trans (List.dropWhile_suffix _).length_le ?_
 simp
set_option maxHeartbeats 2000000 in
set_option maxRecDepth 100000 in
theorem trim_digits (s:ByteArray) (w:World) (hs:s.size≤9223372036854775807) (h0:0<s.size) :
  Calls Tryz.prog 214 #[.string s,.string ⟨#[48,49,50,51,52,53,54,55,56,57]⟩] w fun e w'=>e=.returned (.string ⟨((rtrimD s.data.toList).dropWhile isDig).toArray⟩)∧Below w.heap.size w w':=by
 have HM:=Lib.hid (Tryz.strings_makeASCIISet set_zero ⟨#[48,49,50,51,52,53,54,55,56,57]⟩ w (by decide) (by
  intro j b hb
  have hm:=List.mem_of_getElem? hb
  have:∀ x∈digs10,x.toNat<128:=by decide
  exact this b hm))
 have hat:∀ x:UInt8,(Lib.setCells digs10)[x.toNat]? = some (.bool (isDig x)):=fun x=>by rw [Lib.setCells_at,digs_mem]
 have hsz:(Lib.setCells digs10).size=256:=Lib.setCells_size _
 have hone:(Lib.setCells digs10).all (·.oneCell')=true:=by decide +kernel
 have HM:Hid (Calls Tryz.prog 247 #[.string ⟨#[48,49,50,51,52,53,54,55,56,57]⟩] w fun e w'=>e=.returned (.tuple #[.agg (Lib.setCells digs10),.bool true])∧w'=w.alloc (.cells (Lib.setCells digs10) 279)):=HM
 obtain ⟨S,hS⟩:∃ S,Lib.setCells digs10=S:=⟨_,rfl⟩
 rw [hS]at HM hat hsz hone
 clear hS
 have HAT:=Lib.hid hat
 have HSZ:=Lib.hid hsz
 have HONE:=Lib.hid hone
 have HR:=Lib.hid (fun b w hc=>trimRight_digits s b w hs hc)
 have HL:=Lib.hid (fun b w hc=>trimLeft_digits ⟨(rtrimD s.data.toList).toArray⟩ b w (Nat.le_trans (rtrim_size s) hs) hc)
 have z0:s.toList=[]→False:=fun h=>by
  rw [ByteArray.toList_eq]at h
  have h2:s.data.toList.length=0:=by rw [h]; rfl
  have h3:s.data.toList.length=s.size:=by simp
  omega
 have z1:(!s.toList.isEmpty)=true:=by
  cases h:s.toList with
  | nil=>exact absurd h z0
  | cons c r=>rfl
 have z2:s.toList.isEmpty=false:=by simpa using z1
 clear z1
 obtain ⟨r1,hr1⟩:∃ r1:ByteArray,(⟨(rtrimD s.data.toList).toArray⟩:ByteArray)=r1:=⟨_,rfl⟩
 obtain ⟨r2,hr2⟩:∃ r2:ByteArray,(⟨((rtrimD s.data.toList).dropWhile isDig).toArray⟩:ByteArray)=r2:=⟨_,rfl⟩
 simp only [hr1,hr2]at HR HL
 rw [hr2]
 clear hat hsz hone hr1 hr2 z0 hs
 go_enter Tryz.func214,Tryz.ntmps214
 go_wp2_with fail
 refine HM.out.mono ?_
 rintro e w1 ⟨rfl,hw1⟩
 have hb1:Below w.heap.size w w1:=by
  rw [hw1]
  exact (Below.refl _ _).alloc (Nat.le_refl _) _
 clear hw1
 have hbz:(w1.alloc (.cells Tryz.zeroCells279 279)).heap[w1.heap.size]? = some (.cells Tryz.zeroCells279 279 (0,0)):=World.alloc_heap_new w1 _
 have HBZ:=Lib.hid hbz
 have HZZ:=Lib.hid (show Tryz.zeroCells279.size=S.size by rw [HSZ.out]; kernel_rfl)
 clear hbz
 go_wp2_with (refine wpList_store_row rfl 279 (.tmp 5) (.tmp 32) rfl w1.heap.size S rfl rfl 279 _ HBZ.out (by rw [HSZ.out]; exact set_info) HZZ.out HONE.out ?_)
 have hb2:Below w.heap.size w ((w1.alloc (.cells Tryz.zeroCells279 279)).setRow w1.heap.size S):=
  (hb1.alloc hb1.size _).trans ⟨rfl,rfl,rfl,by simp,fun q hq=>setRow_other _ _ _ _ (by have:=hb1.size; omega)⟩
 have hcs:∀ x:UInt8,((w1.alloc (.cells Tryz.zeroCells279 279)).setRow w1.heap.size S).cell? ⟨w1.heap.size,x.toNat,none⟩=some (.bool (isDig x)):=fun x=>by
  have:=setRow_heap _ _ _ S _ _ HBZ.out
  simp only [World.cell?,this]
  simpa using HAT.out x
 have HCS:=Lib.hid hcs
 clear hcs
 refine (HR.out _ _ HCS.out).mono ?_
 rintro e w2 ⟨rfl,rfl⟩
 go_wp2_with fail
 refine (HL.out _ _ HCS.out).mono ?_
 rintro e w2 ⟨rfl,rfl⟩
 go_wp2_with fail
 go_ret
 exact ⟨rfl,hb2⟩
theorem list_empty {s:ByteArray}:s.toList.isEmpty=decide (s.size=0):=by
 rw [ByteArray.toList_eq]
 by_cases h:s.size=0
 ·have:=str_empty h
  subst this
  rfl
 ·rw [decide_eq_false h]
  cases hl:s.data.toList with
  | nil =>
   exfalso
   apply h
   have:s.data.toList.length=s.size:=by simp
   rw [← this,hl]
   rfl
  | cons c r=>rfl
set_option maxHeartbeats 2000000 in
set_option maxRecDepth 100000 in
theorem nat_Right (s:ByteArray) (hs:s.size≤9223372036854775807) (w:World) :
  Calls Tryz.prog 172 #[.string s] w fun e w'=>e=.returned (.bool (natOk s))∧Below w.heap.size w w':=by
 obtain ⟨ans,hans⟩:∃ ans,natOk s=ans:=⟨_,rfl⟩
 rw [hans]
 unfold natOk at hans
 by_cases h1:1≤s.size
 case neg =>
  have z2:s.toList.isEmpty=true:=by rw [list_empty]; exact decide_eq_true (by omega)
  rw [decide_eq_false h1,Bool.false_and]at hans
  subst hans
  go_enter Tryz.func172,Tryz.ntmps172
  go_wp2_with fail
  go_ret
  exact ⟨rfl,Below.refl _ _⟩
 have z2:s.toList.isEmpty=false:=by rw [list_empty]; exact decide_eq_false (by omega)
 have z3:(0:Int)<s.size:=by omega
 have hpos:0<s.size:=by omega
 rw [decide_eq_true h1,Bool.true_and]at hans
 by_cases h4:s.size≤400
 case neg =>
  have z4:(400:Int)<s.size:=by omega
  rw [decide_eq_false h4,Bool.false_and]at hans
  subst hans
  go_enter Tryz.func172,Tryz.ntmps172
  go_wp2_with fail
  go_ret
  exact ⟨rfl,Below.refl _ _⟩
 have z4:¬ (400:Int)<s.size:=by omega
 rw [decide_eq_true h4,Bool.true_and,head_at0 s hpos]at hans
 obtain ⟨c,hcc⟩:∃ c,s[0]'hpos=c:=⟨_,rfl⟩
 rw [hcc]at hans
 have hcc2:∃ cn:Nat,c.toNat=cn:=⟨_,rfl⟩
 obtain ⟨cn,hcn⟩:=hcc2
 have h48:decide (some c=some (48:UInt8))=decide (cn=48):=by
  rw [decide_eq_decide,Option.some.injEq,← hcn]
  exact ⟨fun h=>by rw [h]; rfl,fun h=>UInt8.toNat_inj.1 h⟩
 rw [h48]at hans
 clear h48
 by_cases h2:1<s.size∧cn=48
 case pos =>
  have z5:(1:Int)<s.size:=by omega
  have z6:((cn:Int) == 48)=true:=by rw [beq_iff_eq]; omega
  rw [decide_eq_true h2.1,decide_eq_true h2.2]at hans
  subst hans
  clear h2
  go_enter Tryz.func172,Tryz.ntmps172
  go_wp2_with fail
  go_ret
  exact ⟨rfl,Below.refl _ _⟩
 have hfin:ans=s.data.toList.all isDig:=by
  rw [← hans]
  have:(decide (1<s.size) && decide (cn=48))=false:=by
   rw [Bool.and_eq_false_iff,decide_eq_false_iff_not,decide_eq_false_iff_not]
   omega
  rw [this]
  rfl
 have HT:=Lib.hid (trim_digits s w hs (by omega))
 obtain ⟨r,hr⟩:∃ r:ByteArray,(⟨((rtrimD s.data.toList).dropWhile isDig).toArray⟩:ByteArray)=r:=⟨_,rfl⟩
 have hre:r.toList.isEmpty=ans:=by
  rw [hfin,Bool.eq_iff_iff,← trim_nil,ByteArray.toList_eq,← hr]
  simp
 rw [hr]at HT
 clear hr hfin hans
 have HRE:=Lib.hid hre
 clear hre
 by_cases h5:1<s.size
 ·have z5:(1:Int)<s.size:=by omega
  have z6:((cn:Int) == 48)=false:=by rw [beq_eq_false_iff_ne]; omega
  have z7:¬ (cn:Int)=48:=by omega
  clear h2
  go_enter Tryz.func172,Tryz.ntmps172
  go_wp2_with fail
  refine HT.out.mono ?_
  rintro e w2 ⟨rfl,hb⟩
  have hre:=HRE.out
  go_wp2_with fail
  go_ret
  exact ⟨rfl,hb⟩
 ·have z5:¬ (1:Int)<s.size:=by omega
  by_cases h6:cn=48
  ·have z6:((cn:Int) == 48)=true:=by rw [beq_iff_eq]; omega
   clear h2
   subst h6
   go_enter Tryz.func172,Tryz.ntmps172
   go_wp2_with fail
   refine HT.out.mono ?_
   rintro e w2 ⟨rfl,hb⟩
   have hre:=HRE.out
   go_wp2_with fail
   go_ret
   exact ⟨rfl,hb⟩
  ·have z6:((cn:Int) == 48)=false:=by rw [beq_eq_false_iff_ne]; omega
   have z7:¬ (cn:Int)=48:=by omega
   clear h2
   go_enter Tryz.func172,Tryz.ntmps172
   go_wp2_with fail
   refine HT.out.mono ?_
   rintro e w2 ⟨rfl,hb⟩
   have hre:=HRE.out
   go_wp2_with fail
   go_ret
   exact ⟨rfl,hb⟩
end Go.Proofs.YtonihophanmaaaaGreatDoor
