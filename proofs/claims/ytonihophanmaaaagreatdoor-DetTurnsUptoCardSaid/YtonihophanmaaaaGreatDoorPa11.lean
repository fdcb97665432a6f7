/- The texts GateF, GateG, GateH, put together. -/
import Derived.Test.YtonihophanmaaaaGreatDoorPa10
import Derived.Deep.RegionHeld3
import Derived.Test.YtonihophanmaaaaGreatDoorPa03
import Derived.Lib.ParseIntBCases
import Derived.Lib.AtoiErrMem
namespace Go.Proofs.YtonihophanmaaaaGreatDoor
open Go.RowKit Go.Shelf
set_option maxRecDepth 100000 in
theorem dec_zero (w:World):Calls Tryz.prog 171 #[] w fun e w'=>e=.returned (.agg #[.bool false,.string ⟨#[48]⟩,.int .i64 0])∧Below w.heap.size w w':=by
 go_enter Tryz.func171,Tryz.ntmps171
 go_wp2
 exact bodyPost_ret (v:=.agg #[.bool false,.string ⟨#[48]⟩,.int .i64 0]) (by simp [results,Tryz.results171,go_sem]) rfl ⟨rfl,(Below.refl _ _).alloc (Nat.le_refl _) _⟩
theorem dec_within (n m:Int) (h0:0≤m) (h1:m≤1000) (w:World):Calls Tryz.prog 173 #[.int .i64 n,.int .i64 m] w fun e w'=>e=.returned (.bool (decide (-m≤n) && decide (n≤m)))∧w=w':=by
 by_cases h2 : -m≤n
 ·by_cases h3:n≤m
  ·rw [decide_eq_true h2,decide_eq_true h3]
   go_enter Tryz.func173,Tryz.ntmps173
   go_wp2
   go_ret
   exact ⟨rfl,rfl⟩
  ·rw [decide_eq_true h2,decide_eq_false h3]
   go_enter Tryz.func173,Tryz.ntmps173
   go_wp2
   go_ret
   exact ⟨rfl,rfl⟩
 ·rw [decide_eq_false h2]
  go_enter Tryz.func173,Tryz.ntmps173
  go_wp2
  go_ret
  exact ⟨rfl,rfl⟩
theorem suffix_last (l:List UInt8) (h:l≠[]):Lib.hasSuffix l [48]=decide (l.getLast? = some 48):=by
 unfold Lib.hasSuffix
 rw [Bool.eq_iff_iff,List.isSuffixOf_iff_suffix,decide_eq_true_iff]
 constructor
 ·rintro ⟨k,rfl⟩
  simp
 ·intro e
  rw [List.getLast?_eq_some_getLast h]at e
  exact ⟨l.dropLast,by rw [← Option.some.inj e]; exact List.dropLast_concat_getLast h⟩
def decRest (dg:ByteArray) (ex:Int):Bool:=natOk dg && (decide (dg.size≤100) && ((decide (-100≤ex) && decide (ex≤100)) && !Lib.hasSuffix dg.data.toList [48]))
theorem decOk_zero:decOk false ⟨#[48]⟩ 0=true:=by decide +kernel
theorem decOk_rest {neg:Bool} {dg:ByteArray} {ex:Int} (h:¬ (neg=false∧dg=⟨#[48]⟩∧ex=0)):decOk neg dg ex=decRest dg ex:=by
 unfold decOk decRest
 cases hn:natOk dg with
 | false=>rfl
 | true =>
  have h1:1≤dg.size:=by
   unfold natOk at hn
   rw [Bool.and_eq_true,decide_eq_true_iff]at hn
   exact hn.1
  have hne:dg.data.toList≠[]:=fun e=>by
   have:dg.data.toList.length=dg.size:=by simp
   rw [e]at this
   simp at this
   omega
  rw [suffix_last _ hne]
  congr 2
  by_cases h0:dg.toList=[48]
  ·rw [if_pos h0]
   have hd:dg.data.toList=[48]:=by rw [← ByteArray.toList_eq]; exact h0
   have hd2:dg=⟨#[48]⟩:=str_ext hd
   rw [hd]
   have:decide (([48]:List UInt8).getLast? = some 48)=true:=by decide
   rw [this,Bool.not_true,Bool.and_false]
   cases neg with
   | true=>rw [Bool.not_true,Bool.and_false]
   | false =>
    rw [decide_eq_false (fun e=>h ⟨rfl,hd2,e⟩),Bool.false_and]
  ·rw [if_neg h0,Bool.and_assoc]
set_option maxHeartbeats 4000000 in
set_option maxRecDepth 100000 in
theorem dec_Right (neg:Bool) (dg:ByteArray) (ex:Int) (hs:dg.size≤9223372036854775807) (w:World) :
  Calls Tryz.prog 120 #[.agg #[.bool neg,.string dg,.int .i64 ex]] w fun e w'=>e=.returned (.bool (decOk neg dg ex))∧Below w.heap.size w w':=by
 have HZ:=Lib.hid dec_zero
 have hbx:Below w.heap.size w (w.alloc (.cells #[.bool neg,.string dg,.int .i64 ex] 24)):=(Below.refl _ _).alloc (Nat.le_refl _) _
 have hkx:=Blk.new w #[.bool neg,.string dg,.int .i64 ex] 24
 by_cases hz:neg=false∧dg=⟨#[48]⟩∧ex=0
 ·obtain ⟨rfl,rfl,rfl⟩:=hz
  rw [decOk_zero]
  have c0:=hkx.cell 0
  have c1:=hkx.cell 1
  have c2:=hkx.cell 2
  go_enter Tryz.func120,Tryz.ntmps120
  go_wp2_with fail
  go_region_held3 (fun w'=>w'.cell? ⟨w.heap.size,0,none⟩=some (.bool false)∧w'.cell? ⟨w.heap.size,1,none⟩=some (.string ⟨#[48]⟩)∧w'.cell? ⟨w.heap.size,2,none⟩=some (.int .i64 0)) (go_keep)
   (first | (go_at_call 171; refine (HZ.out _).mono ?_; rintro e w4 ⟨rfl,hb4⟩; have hk4:=(Blk.drew hkx).below hb4 (Blk.drew hkx).lt; have c40:=hk4.cell 0; have c41:=hk4.cell 1; have c42:=hk4.cell 2))
  have hb5:Below w.heap.size w w4:=(below_drewN hbx 1).trans (hb4.mono hbx.size)
  go_wp2_with fail
  go_ret
  exact ⟨rfl,hb5⟩
 rw [decOk_rest hz]
 have HN:=Lib.hid (nat_Right dg hs)
 have HW:=Lib.hid (fun w=>dec_within ex 100 (by decide) (by decide) w)
 have HS:=Lib.hid (fun w=>Tryz.strings_HasSuffix dg ⟨#[48]⟩ w hs)
 have h3:neg=true∨(neg=false∧¬ dg=⟨#[48]⟩)∨(neg=false∧dg=⟨#[48]⟩∧¬ ex=0):=by
  cases neg with
  | true=>exact .inl rfl
  | false =>
   by_cases h1:dg=⟨#[48]⟩
   ·exact .inr (.inr ⟨rfl,h1,fun e=>hz ⟨rfl,h1,e⟩⟩)
   ·exact .inr (.inl ⟨rfl,h1⟩)
 obtain ⟨ans,hans⟩:∃ ans,decRest dg ex=ans:=⟨_,rfl⟩
 rw [hans]
 unfold decRest at hans
 obtain ⟨b1,hb1⟩:∃ b1,natOk dg=b1:=⟨_,rfl⟩
 obtain ⟨b3,hb3⟩:∃ b3,(decide (-100≤ex) && decide (ex≤100))=b3:=⟨_,rfl⟩
 obtain ⟨b4,hb4⟩:∃ b4,Lib.hasSuffix dg.data.toList [48]=b4:=⟨_,rfl⟩
 have HS:Hid (∀ w,Calls Tryz.prog 174 #[.string dg,.string ⟨#[48]⟩] w fun e w'=>e=.returned (.bool (Lib.hasSuffix dg.data.toList [48]))∧w'=w):=HS
 simp only [hb1]at HN
 simp only [hb3]at HW
 simp only [hb4]at HS
 rw [hb1,hb3,hb4]at hans
 clear hb1 hb3 hb4 hz
 have c0:=hkx.cell 0
 have c1:=hkx.cell 1
 have c2:=hkx.cell 2
 have hq:(dg.toList == [48])=decide (dg=⟨#[48]⟩):=by
  by_cases h:dg=⟨#[48]⟩
  ·subst h
   decide +kernel
  ·rw [decide_eq_false h,beq_eq_false_iff_ne,ByteArray.toList_eq]
   exact fun e=>h (str_ext e)
 rcases h3 with h3 | ⟨h3,h4⟩ | ⟨h3,h4,h5⟩
 ·subst h3
  clear hq
  have HANS:=Lib.hid hans
  clear hans
  go_enter Tryz.func120,Tryz.ntmps120
  go_wp2_with fail
  go_region_held3 (fun w'=>w'.cell? ⟨w.heap.size,0,none⟩=some (.bool true)∧w'.cell? ⟨w.heap.size,1,none⟩=some (.string dg)∧w'.cell? ⟨w.heap.size,2,none⟩=some (.int .i64 ex)) (go_keep)
   (first | (go_at_call 171; refine (HZ.out _).mono ?_; rintro e w4 ⟨rfl,hb4⟩; have hk4:=(Blk.drew hkx).below hb4 (Blk.drew hkx).lt; have c40:=hk4.cell 0; have c41:=hk4.cell 1; have c42:=hk4.cell 2))
  have hb5:Below w.heap.size w w4:=(below_drewN hbx 1).trans (hb4.mono hbx.size)
  go_wp2_with fail
  refine (HN.out _).mono ?_
  rintro e w5 ⟨rfl,hb6⟩
  have hk5:=hk4.below hb6 hk4.lt
  have hb7:=hb5.trans (hb6.mono hb5.size)
  have d0:=hk5.cell 0
  have d1:=hk5.cell 1
  have d2:=hk5.cell 2
  clear hk4 hb4 hb5 hb6 c0 c1 c2 c40 c41 c42 hkx hbx HN HZ
  cases b1 with
  | false =>
   obtain rfl:false=ans:=HANS.out
   go_wp2_with fail
   all_goals go_ret
   all_goals exact ⟨rfl,hb7⟩
  | true =>
   by_cases hl:dg.size≤100
   ·have z1:(dg.size:Int)≤100:=by omega
    have ha:(b3 && !b4)=ans:=by
     have:=HANS.out
     rw [decide_eq_true hl]at this
     exact this
    clear HANS
    go_wp2_with fail
    refine (HW.out _).mono ?_
    rintro e w6 ⟨rfl,rfl⟩
    cases b3 with
    | false =>
     obtain rfl:false=ans:=ha
     go_wp2_with fail
     all_goals go_ret
     all_goals exact ⟨rfl,hb7⟩
    | true =>
     obtain rfl:(!b4)=ans:=ha
     go_wp2_with fail
     refine (HS.out _).mono ?_
     rintro e w6 ⟨rfl,rfl⟩
     cases b4 with
     | false =>
      go_wp2_with fail
      all_goals go_ret
      all_goals exact ⟨rfl,hb7⟩
     | true =>
      go_wp2_with fail
      all_goals go_ret
      all_goals exact ⟨rfl,hb7⟩
   ·have z1:¬ (dg.size:Int)≤100:=by omega
    have z2:(100:Int)<dg.size:=by omega
    obtain rfl:false=ans:=by
     have:=HANS.out
     rw [decide_eq_false hl]at this
     exact this
    go_wp2_with fail
    all_goals go_ret
    all_goals exact ⟨rfl,hb7⟩
 ·subst h3
  rw [decide_eq_false h4]at hq
  clear h4
  have HANS:=Lib.hid hans
  clear hans
  go_enter Tryz.func120,Tryz.ntmps120
  go_wp2_with fail
  go_region_held3 (fun w'=>w'.cell? ⟨w.heap.size,0,none⟩=some (.bool false)∧w'.cell? ⟨w.heap.size,1,none⟩=some (.string dg)∧w'.cell? ⟨w.heap.size,2,none⟩=some (.int .i64 ex)) (go_keep)
   (first | (go_at_call 171; refine (HZ.out _).mono ?_; rintro e w4 ⟨rfl,hb4⟩; have hk4:=(Blk.drew hkx).below hb4 (Blk.drew hkx).lt; have c40:=hk4.cell 0; have c41:=hk4.cell 1; have c42:=hk4.cell 2))
  have hb5:Below w.heap.size w w4:=(below_drewN hbx 1).trans (hb4.mono hbx.size)
  go_wp2_with fail
  refine (HN.out _).mono ?_
  rintro e w5 ⟨rfl,hb6⟩
  have hk5:=hk4.below hb6 hk4.lt
  have hb7:=hb5.trans (hb6.mono hb5.size)
  have d0:=hk5.cell 0
  have d1:=hk5.cell 1
  have d2:=hk5.cell 2
  clear hk4 hb4 hb5 hb6 c0 c1 c2 c40 c41 c42 hkx hbx HN HZ
  cases b1 with
  | false =>
   obtain rfl:false=ans:=HANS.out
   go_wp2_with fail
   all_goals go_ret
   all_goals exact ⟨rfl,hb7⟩
  | true =>
   by_cases hl:dg.size≤100
   ·have z1:(dg.size:Int)≤100:=by omega
    have ha:(b3 && !b4)=ans:=by
     have:=HANS.out
     rw [decide_eq_true hl]at this
     exact this
    clear HANS
    go_wp2_with fail
    refine (HW.out _).mono ?_
    rintro e w6 ⟨rfl,rfl⟩
    cases b3 with
    | false =>
     obtain rfl:false=ans:=ha
     go_wp2_with fail
     all_goals go_ret
     all_goals exact ⟨rfl,hb7⟩
    | true =>
     obtain rfl:(!b4)=ans:=ha
     go_wp2_with fail
     refine (HS.out _).mono ?_
     rintro e w6 ⟨rfl,rfl⟩
     cases b4 with
     | false =>
      go_wp2_with fail
      all_goals go_ret
      all_goals exact ⟨rfl,hb7⟩
     | true =>
      go_wp2_with fail
      all_goals go_ret
      all_goals exact ⟨rfl,hb7⟩
   ·have z1:¬ (dg.size:Int)≤100:=by omega
    have z2:(100:Int)<dg.size:=by omega
    obtain rfl:false=ans:=by
     have:=HANS.out
     rw [decide_eq_false hl]at this
     exact this
    go_wp2_with fail
    all_goals go_ret
    all_goals exact ⟨rfl,hb7⟩
 ·subst h3
  subst h4
  have hx:(ex == 0)=false:=by rw [beq_eq_false_iff_ne]; exact h5
  clear hq
  have HANS:=Lib.hid hans
  clear hans
  go_enter Tryz.func120,Tryz.ntmps120
  go_wp2_with fail
  go_region_held3 (fun w'=>w'.cell? ⟨w.heap.size,0,none⟩=some (.bool false)∧w'.cell? ⟨w.heap.size,1,none⟩=some (.string ⟨#[48]⟩)∧w'.cell? ⟨w.heap.size,2,none⟩=some (.int .i64 ex)) (go_keep)
   (first | (go_at_call 171; refine (HZ.out _).mono ?_; rintro e w4 ⟨rfl,hb4⟩; have hk4:=(Blk.drew hkx).below hb4 (Blk.drew hkx).lt; have c40:=hk4.cell 0; have c41:=hk4.cell 1; have c42:=hk4.cell 2))
  have hb5:Below w.heap.size w w4:=(below_drewN hbx 1).trans (hb4.mono hbx.size)
  go_wp2_with fail
  refine (HN.out _).mono ?_
  rintro e w5 ⟨rfl,hb6⟩
  have hk5:=hk4.below hb6 hk4.lt
  have hb7:=hb5.trans (hb6.mono hb5.size)
  have d0:=hk5.cell 0
  have d1:=hk5.cell 1
  have d2:=hk5.cell 2
  clear hk4 hb4 hb5 hb6 c0 c1 c2 c40 c41 c42 hkx hbx HN HZ
  cases b1 with
  | false =>
   obtain rfl:false=ans:=HANS.out
   go_wp2_with fail
   all_goals go_ret
   all_goals exact ⟨rfl,hb7⟩
  | true =>
   by_cases hl:(⟨#[48]⟩:ByteArray).size≤100
   ·have z1:((⟨#[48]⟩:ByteArray).size:Int)≤100:=by omega
    have ha:(b3 && !b4)=ans:=by
     have:=HANS.out
     rw [decide_eq_true hl]at this
     exact this
    clear HANS
    go_wp2_with fail
    refine (HW.out _).mono ?_
    rintro e w6 ⟨rfl,rfl⟩
    cases b3 with
    | false =>
     obtain rfl:false=ans:=ha
     go_wp2_with fail
     all_goals go_ret
     all_goals exact ⟨rfl,hb7⟩
    | true =>
     obtain rfl:(!b4)=ans:=ha
     go_wp2_with fail
     refine (HS.out _).mono ?_
     rintro e w6 ⟨rfl,rfl⟩
     cases b4 with
     | false =>
      go_wp2_with fail
      all_goals go_ret
      all_goals exact ⟨rfl,hb7⟩
     | true =>
      go_wp2_with fail
      all_goals go_ret
      all_goals exact ⟨rfl,hb7⟩
   ·exact absurd (show (⟨#[48]⟩:ByteArray).size≤100 by decide) hl
structure GW (w:World) (aT aF:Addr):Prop where
 hT:w.cell? ⟨0,0,none⟩=some (.iface 321 (.pointer (some aT)))
 hF:w.cell? ⟨1,0,none⟩=some (.iface 321 (.pointer (some aF)))
 ne:aT≠aF
 bT:∃ c t,w.heap[aT.block]? = some (.cells c t (0,0))
 bF:∃ c t,w.heap[aF.block]? = some (.cells c t (0,0))
 tabs:Lib.Utf8Tabs 3 4 w
 rng:∃ tp p,w.var? Tryz.prog "strconv.ErrRange" = some #[.iface tp p]
theorem GW.below {w w':World} {aT aF:Addr} (h:GW w aT aF) (hb:Below w.heap.size w w'):GW w' aT aF where
 hT:=cell_below hb h.hT
 hF:=cell_below hb h.hF
 ne:=h.ne
 bT:=let ⟨c,t,e⟩:=h.bT; ⟨c,t,block_below hb e⟩
 bF:=let ⟨c,t,e⟩:=h.bF; ⟨c,t,block_below hb e⟩
 tabs:=Utf8Tabs_below h.tabs hb
 rng:=let ⟨tp,p,e⟩:=h.rng; ⟨tp,p,var_below e hb⟩
def natTo (s:ByteArray):Option Nat:=if natOk s=true∧dval 0 s.data.toList<18446744073709551616 then some (dval 0 s.data.toList) else none
def natToV:Option Nat→Value
 | some n=>.tuple #[.int .u64 (n:Nat),.bool true]
 | none=>.tuple #[.int .u64 0,.bool false]
theorem natOk_parts {s:ByteArray} (h:natOk s=true):1≤s.size∧s.size≤400∧(∀ c∈s.data.toList,isDig c=true):=by
 unfold natOk at h
 rw [Bool.and_eq_true,Bool.and_eq_true,Bool.and_eq_true,decide_eq_true_iff,decide_eq_true_iff]at h
 exact ⟨h.1,h.2.1,fun c hc=>List.all_eq_true.1 h.2.2.2 c hc⟩
set_option maxHeartbeats 2000000 in
set_option maxRecDepth 100000 in
theorem nat_To {aT aF:Addr} (s:ByteArray) (hs:s.size≤1000000000000) (w:World) (h:GW w aT aF) :
  Calls Tryz.prog 132 #[.string s] w fun e w'=>e=.returned (natToV (natTo s))∧Below w.heap.size w w':=by
 obtain ⟨ans,hans⟩:∃ ans,natTo s=ans:=⟨_,rfl⟩
 rw [hans]
 unfold natTo at hans
 have HN:=Lib.hid (nat_Right s (by omega) w)
 cases hn:natOk s with
 | false =>
  rw [hn]at HN hans
  rw [if_neg (fun q=>absurd q.1 (by decide))]at hans
  subst hans
  clear hn h
  go_enter Tryz.func132,Tryz.ntmps132
  go_wp2_with fail
  refine HN.out.mono ?_
  rintro e w1 ⟨rfl,hb⟩
  go_wp2_with fail
  go_ret2
  exact ⟨rfl,hb⟩
 | true =>
  obtain ⟨h1,h4,hd⟩:=natOk_parts hn
  have hne:s.data.toList≠[]:=fun e=>by
   have:s.data.toList.length=s.size:=by simp
   rw [e]at this
   simp at this
   omega
  have hp:Lib.parseUintB 64 s.data.toList=if dval 0 s.data.toList<18446744073709551616 then .ok (dval 0 s.data.toList) else .range:=by
   rw [Lib.parseUintB_64]
   unfold Lib.parseMag
   rw [if_neg hne,parse_digits _ 0 (by decide) hd]
  rw [hn]at HN hans
  by_cases hlt:dval 0 s.data.toList<18446744073709551616
  ·rw [if_pos ⟨rfl,hlt⟩]at hans
   rw [if_pos hlt]at hp
   subst hans
   have HP:=Lib.hid (fun w=>Tryz.strconv_ParseUint_10_at64_ok s (by omega) _ hp w)
   obtain ⟨v,hv⟩:∃ v,dval 0 s.data.toList=v:=⟨_,rfl⟩
   rw [hv]at HP ⊢
   clear hn h hp hlt hv hd hne
   go_enter Tryz.func132,Tryz.ntmps132
   go_wp2_with fail
   refine HN.out.mono ?_
   rintro e w1 ⟨rfl,hb⟩
   go_wp2_with fail
   refine (HP.out _).mono ?_
   rintro e w2 ⟨rfl,hw2⟩
   have hb2:Below w.heap.size w w2:=by
    rcases hw2 with rfl|rfl
    ·exact hb
    ·exact hb.trans ((Lib.bytesWorld_below _ _ _).mono hb.size)
   clear hw2
   go_wp2_with fail
   go_ret2
   exact ⟨rfl,hb2⟩
  ·rw [if_neg (fun q=>hlt q.2)]at hans
   rw [if_neg hlt]at hp
   subst hans
   obtain ⟨tp,p,hr⟩:=h.rng
   have HP:=Lib.hid (fun w (hw:w.var? Tryz.prog "strconv.ErrRange" = some #[.iface tp p])=>Tryz.strconv_ParseUint_10_at64_range_var s (by omega) hp tp p w hw)
   have HR:=Lib.hid hr
   clear hn h hp hlt hd hne hr
   go_enter Tryz.func132,Tryz.ntmps132
   go_wp2_with fail
   refine HN.out.mono ?_
   rintro e w1 ⟨rfl,hb⟩
   have HR1:=Lib.hid (var_below HR.out hb)
   go_wp2_with fail
   refine (HP.out _ HR1.out).mono ?_
   rintro e w2 ⟨N,rfl,_,_,hb2⟩
   have hb3:=hb.trans (hb2.mono hb.size)
   go_wp2_with fail
   go_ret2
   exact ⟨rfl,hb3⟩
def toIntV:Option (Bool×Nat)→Value
 | some (n,k)=>.tuple #[.bool n,.int .u64 (k:Nat),.bool true]
 | none=>.tuple #[.bool false,.int .u64 0,.bool false]
theorem repeat_zeros:∀ c:Nat,Lib.repeatL [48] c=List.replicate c 48
 | 0=>rfl
 | c+1=>by
  show 48::Lib.repeatL [48] c=_
  rw [repeat_zeros c]
  rfl
theorem dval_zeros (l:List UInt8):∀ c:Nat,dval 0 (l++List.replicate c 48)=dval 0 l*10 ^ c
 | 0=>by simp
 | c+1=>by
  rw [List.replicate_succ',← List.append_assoc,dval_append,dval_zeros l c]
  have:(48:UInt8).toNat=48:=rfl
  rw [this,Nat.pow_succ,← Nat.mul_assoc]
  omega
theorem whole_nat {neg:Bool} {dg s:ByteArray} {ex:Int} (h:decOk neg dg ex=true) (h0:0≤ex) (h1:ex≤20) (hs:s.data.toList=dg.data.toList++List.replicate ex.toNat 48) :
  natOk s=true∧dval 0 s.data.toList=wholeN dg ex:=by
 have hv:dval 0 s.data.toList=wholeN dg ex:=by
  rw [hs,dval_zeros]
  rfl
 refine ⟨?_,hv⟩
 have hp:=dec_parts h
 unfold decOk at h
 rw [Bool.and_eq_true,Bool.and_eq_true,decide_eq_true_iff]at h
 obtain ⟨hn,h100,_⟩:=h
 obtain ⟨n1,n2,n3⟩:=natOk_parts hn
 have hsz:s.size=dg.size+ex.toNat:=by
  have e1:s.data.toList.length=s.size:=by simp
  have e2:dg.data.toList.length=dg.size:=by simp
  rw [hs,List.length_append,e2,List.length_replicate]at e1
  exact e1.symm
 rcases hp with ⟨a1,a2,_⟩ | ⟨a1,a2,a3,_⟩
 ·have:s.data.toList=dg.data.toList:=by
   rw [hs,a2]
   simp
  rw [str_ext this]
  exact hn
 ·unfold natOk
  rw [decide_eq_true (by omega:1≤s.size),decide_eq_true (by omega:s.size≤400),Bool.true_and,Bool.true_and,Bool.and_eq_true]
  constructor
  ·have:s.data.toList.head? = dg.data.toList.head? := by
    rw [hs]
    exact head_append a1
   rw [this,decide_eq_false a3,Bool.and_false]
   rfl
  ·rw [List.all_eq_true]
   intro c hc
   rw [hs]at hc
   rcases List.mem_append.1 hc with q | q
   ·exact a2 c q
   ·rw [(List.mem_replicate.1 q).2]
    decide
theorem append_list (a b:ByteArray):(a++b).data.toList=a.data.toList++b.data.toList:=by
 rw [ByteArray.data_append,Array.toList_append]
set_option maxHeartbeats 4000000 in
set_option maxRecDepth 100000 in
theorem dec_ToInt {aT aF:Addr} (neg:Bool) (dg:ByteArray) (ex:Int) (hs:dg.size≤9223372036854775807) (w:World) (h:GW w aT aF) :
  Calls Tryz.prog 90 #[.agg #[.bool neg,.string dg,.int .i64 ex]] w fun e w'=>e=.returned (toIntV (toIntD neg dg ex))∧Below w.heap.size w w':=by
 obtain ⟨ans,hans⟩:∃ ans,toIntD neg dg ex=ans:=⟨_,rfl⟩
 rw [hans]
 unfold toIntD at hans
 have HR:=Lib.hid (dec_Right neg dg ex hs)
 have hbx:Below w.heap.size w (w.alloc (.cells #[.bool neg,.string dg,.int .i64 ex] 24)):=(Below.refl _ _).alloc (Nat.le_refl _) _
 have hkx:=Blk.new w #[.bool neg,.string dg,.int .i64 ex] 24
 have c0:=hkx.cell 0
 have c1:=hkx.cell 1
 have c2:=hkx.cell 2
 cases hd:decOk neg dg ex with
 | false =>
  rw [hd]at HR hans
  rw [if_neg (fun q=>absurd q.1 (by decide))]at hans
  subst hans
  clear hd h
  go_enter Tryz.func90,Tryz.ntmps90
  go_wp2_with fail
  refine (HR.out _).mono ?_
  rintro e w1 ⟨rfl,hb⟩
  have hb2:=hbx.trans (hb.mono hbx.size)
  clear hb hbx
  go_wp2_with fail
  refine bodyPost_ret (v:=.tuple #[.bool false,.int .u64 0,.bool false]) (by simp [results,Tryz.results90,go_sem]) rfl ⟨rfl,hb2⟩
 | true =>
  by_cases hx:0≤ex∧ex≤20
  ·obtain ⟨x0,x1⟩:=hx
   have hd':=hd
   rw [hd]at HR hans
   have h100:dg.size≤100:=by
    unfold decOk at hd'
    rw [Bool.and_eq_true,Bool.and_eq_true,decide_eq_true_iff]at hd'
    exact hd'.2.1
   obtain ⟨r,hr⟩:∃ r:ByteArray,(⟨(Lib.repeatL [48] ex.toNat).toArray⟩:ByteArray)=r:=⟨_,rfl⟩
   have hrl:r.data.toList=List.replicate ex.toNat 48:=by rw [← hr,← repeat_zeros]
   have y4:dg.size+r.size≤1000000:=by
    have e1:r.data.toList.length=r.size:=by simp
    rw [hrl,List.length_replicate]at e1
    omega
   have y5:¬ 9223372036854775807<dg.size+r.size:=by omega
   obtain ⟨s,hse⟩:∃ s,dg++r=s:=⟨_,rfl⟩
   have hsl:s.data.toList=dg.data.toList++List.replicate ex.toNat 48:=by rw [← hse,append_list,hrl]
   obtain ⟨g1,g2⟩:=whole_nat hd' x0 x1 hsl
   have hsz:s.size≤400:=(natOk_parts g1).2.1
   have hnt:natTo s=if wholeN dg ex<18446744073709551616 then some (wholeN dg ex) else none:=by
    unfold natTo
    rw [g1,g2]
    by_cases q:wholeN dg ex<18446744073709551616
    ·rw [if_pos ⟨rfl,q⟩,if_pos q]
    ·rw [if_neg (fun z=>q z.2),if_neg q]
   have hcx:((ex.toNat:Nat):Int)=ex:=by omega
   have HP:Hid (∀ w,Calls Tryz.prog 133 #[.string ⟨#[48]⟩,.int .i64 ex] w fun e w'=>e=.returned (.string r)∧Below w.heap.size w w'):=Lib.hid (fun w=>by
    have:=Tryz.strings_Repeat ⟨#[48]⟩ ex.toNat w (by omega) (by show 1*ex.toNat≤_; omega)
    rw [hcx]at this
    rw [← hr]
    exact this)
   have HT:=Lib.hid (fun w (h:GW w aT aF)=>nat_To s (by omega) w h)
   rw [hnt]at HT
   obtain ⟨wn,hwn⟩:∃ wn,wholeN dg ex=wn:=⟨_,rfl⟩
   rw [hwn]at HT hans
   obtain ⟨vn,vb,hv1,hv2⟩:∃ (vn:Int) (vb:Bool),natToV (if wn<18446744073709551616 then some wn else none)=.tuple #[.int .u64 vn,.bool vb]∧toIntV ans=.tuple #[.bool (vb && neg),.int .u64 vn,.bool vb]:=by
    rw [← hans]
    by_cases q:wn<18446744073709551616
    ·rw [if_pos q,if_pos ⟨rfl,x0,x1,q⟩]
     exact ⟨wn,true,rfl,rfl⟩
    ·rw [if_neg q,if_neg (fun z=>q z.2.2.2)]
     exact ⟨0,false,rfl,rfl⟩
   rw [hv1]at HT
   rw [hv2]
   have HG:=Lib.hid (h.below hbx)
   have HSE:=Lib.hid hse
   clear hd hd' hans h hsl hrl hr g1 g2 hnt hcx hwn hse hsz h100 hv1 hv2
   go_enter Tryz.func90,Tryz.ntmps90
   go_wp2_with fail
   refine (HR.out _).mono ?_
   rintro e w1 ⟨rfl,hb⟩
   have hb2:=hbx.trans (hb.mono hbx.size)
   have hk2:=hkx.below hb hkx.lt
   have HG2:=Lib.hid (HG.out.below hb)
   have d0:=hk2.cell 0
   have d1:=hk2.cell 1
   have d2:=hk2.cell 2
   clear hb hbx hkx c0 c1 c2 HG HR
   go_wp2_with fail
   go_region_held3 (fun w'=>w'.cell? ⟨w.heap.size,0,none⟩=some (.bool neg)∧w'.cell? ⟨w.heap.size,1,none⟩=some (.string dg)∧w'.cell? ⟨w.heap.size,2,none⟩=some (.int .i64 ex)) (go_keep)
    (first | (go_at_call 133; refine (HP.out _).mono ?_; rintro e w4 ⟨rfl,hb4⟩; have hk4:=(Blk.drew hk2).below hb4 (Blk.drew hk2).lt; have c40:=hk4.cell 0; have c41:=hk4.cell 1; have c42:=hk4.cell 2) | (go_at_call 132; rw [HSE.out]; refine (HT.out _ ((HG2.out.below (below_drewN (Below.refl _ w1) 1)).below hb4)).mono ?_; rintro e w5 ⟨rfl,hb5⟩; have hk5:=hk4.below hb5 hk4.lt; have c50:=hk5.cell 0; have c51:=hk5.cell 1; have c52:=hk5.cell 2))
   have hb6:Below w.heap.size w w5:=(below_drewN hb2 1).trans ((hb4.trans (hb5.mono hb4.size)).mono hb2.size)
   clear hb2 hb4 hb5 hk2 hk4 c40 c41 c42 d0 d1 d2 HT HP HG2
   cases vb with
   | true =>
    go_wp2_with fail
    refine bodyPost_ret (v:=.tuple #[.bool neg,.int .u64 vn,.bool true]) (by simp [results,Tryz.results90,go_sem]) rfl ⟨rfl,hb6⟩
   | false =>
    go_wp2_with fail
    refine bodyPost_ret (v:=.tuple #[.bool false,.int .u64 vn,.bool false]) (by simp [results,Tryz.results90,go_sem]) rfl ⟨rfl,hb6⟩
  ·rw [hd]at HR hans
   rw [if_neg (fun q=>hx ⟨q.2.1,q.2.2.1⟩)]at hans
   subst hans
   clear hd h
   by_cases x0:0≤ex
   ·have x1:20<ex:=by omega
    clear hx
    go_enter Tryz.func90,Tryz.ntmps90
    go_wp2_with fail
    refine (HR.out _).mono ?_
    rintro e w1 ⟨rfl,hb⟩
    have hb2:=hbx.trans (hb.mono hbx.size)
    have hk2:=hkx.below hb hkx.lt
    have d0:=hk2.cell 0
    have d1:=hk2.cell 1
    have d2:=hk2.cell 2
    clear hb hbx hkx c0 c1 c2
    go_wp2_with fail
    refine bodyPost_ret (v:=.tuple #[.bool false,.int .u64 0,.bool false]) (by simp [results,Tryz.results90,go_sem]) rfl ⟨rfl,hb2⟩
   ·have x1:ex<0:=by omega
    clear hx x0
    go_enter Tryz.func90,Tryz.ntmps90
    go_wp2_with fail
    refine (HR.out _).mono ?_
    rintro e w1 ⟨rfl,hb⟩
    have hb2:=hbx.trans (hb.mono hbx.size)
    have hk2:=hkx.below hb hkx.lt
    have d0:=hk2.cell 0
    have d1:=hk2.cell 1
    have d2:=hk2.cell 2
    clear hb hbx hkx c0 c1 c2
    go_wp2_with fail
    refine bodyPost_ret (v:=.tuple #[.bool false,.int .u64 0,.bool false]) (by simp [results,Tryz.results90,go_sem]) rfl ⟨rfl,hb2⟩
end Go.Proofs.YtonihophanmaaaaGreatDoor
