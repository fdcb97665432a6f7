/- The texts GateG, GateH, FloA, put together. -/
import Derived.Test.YtfckekaegjjmkaaGreatDoorPh13
import Derived.Test.YtfckekaegjjmkaaGreatDoorPh09
import Derived.Lib.ParseIntBCases
import Derived.Lib.AtoiErrMem
import Derived.Test.YtfckekaegjjmkaaGreatDoorPh01
import Derived.RegionTactic
namespace Go.Proofs.YtfckekaegjjmkaaGreatDoor
open Go.RowKit Go.Shelf

structure GW (w:World) (aT aF:Addr):Prop where
 hT:w.cell? ⟨0,0,none⟩=some (.iface 289 (.pointer (some aT)))
 hF:w.cell? ⟨1,0,none⟩=some (.iface 289 (.pointer (some aF)))
 ne:aT ≠ aF
 bT:∃ c t,w.heap[aT.block]? = some (.cells c t (0,0))
 bF:∃ c t,w.heap[aF.block]? = some (.cells c t (0,0))
 tabs:Lib.Utf8Tabs 4 5 w
 rng:∃ tp p,w.var? Tryz.prog "strconv.ErrRange" = some #[.iface tp p]
theorem GW.below {w w':World} {aT aF:Addr} (h:GW w aT aF) (hb:Below w.heap.size w w'):GW w' aT aF where
 hT:=cell_below hb h.hT
 hF:=cell_below hb h.hF
 ne:=h.ne
 bT:=let ⟨c,t,e⟩:=h.bT; ⟨c,t,block_below hb e⟩
 bF:=let ⟨c,t,e⟩:=h.bF; ⟨c,t,block_below hb e⟩
 tabs:=Utf8Tabs_below h.tabs hb
 rng:=let ⟨tp,p,e⟩:=h.rng; ⟨tp,p,var_below e hb⟩

def natTo (s:ByteArray):Option Nat:=if natOk s=true ∧ dval 0 s.data.toList < 18446744073709551616 then some (dval 0 s.data.toList) else none
def natToV:Option Nat → Value
 | some n=>.tuple #[.int .u64 (n:Nat),.bool true]
 | none=>.tuple #[.int .u64 0,.bool false]
theorem natOk_parts {s:ByteArray} (h:natOk s=true):1 ≤ s.size ∧ s.size ≤ 400 ∧ (∀ c ∈ s.data.toList,isDig c=true):=by
 unfold natOk at h
 rw [Bool.and_eq_true,Bool.and_eq_true,Bool.and_eq_true,decide_eq_true_iff,decide_eq_true_iff] at h
 exact ⟨h.1,h.2.1,fun c hc=>List.all_eq_true.1 h.2.2.2 c hc⟩

set_option maxHeartbeats 2000000 in
set_option maxRecDepth 100000 in
theorem nat_To {aT aF:Addr} (s:ByteArray) (hs:s.size ≤ 1000000000000) (w:World) (h:GW w aT aF) :
  Calls Tryz.prog 140 #[.string s] w fun e w'=>e=.returned (natToV (natTo s)) ∧ Below w.heap.size w w':=by
 obtain ⟨ans,hans⟩:∃ ans,natTo s=ans:=⟨_,rfl⟩
 rw [hans]
 unfold natTo at hans
 have HN:=Lib.hid (nat_Right s (by omega) w)
 cases hn:natOk s with
 | false =>
  rw [hn] at HN hans
  rw [if_neg (fun q=>absurd q.1 (by decide))] at hans
  subst hans
  clear hn h
  go_enter Tryz.func140,Tryz.ntmps140
  go_wp2_with fail
  refine HN.out.mono ?_
  rintro e w1 ⟨rfl,hb⟩
  go_wp2_with fail
  go_ret2
  exact ⟨rfl,hb⟩
 | true =>
  obtain ⟨h1,h4,hd⟩:=natOk_parts hn
  have hne:s.data.toList ≠ []:=fun e=>by
   have:s.data.toList.length=s.size:=by simp
   rw [e] at this
   simp at this
   omega
  have hp:Lib.parseUintB 64 s.data.toList=if dval 0 s.data.toList < 18446744073709551616 then .ok (dval 0 s.data.toList) else .range:=by
   rw [Lib.parseUintB_64]
   unfold Lib.parseMag
   rw [if_neg hne,parse_digits _ 0 (by decide) hd]
  rw [hn] at HN hans
  by_cases hlt:dval 0 s.data.toList < 18446744073709551616
  ·rw [if_pos ⟨rfl,hlt⟩] at hans
   rw [if_pos hlt] at hp
   subst hans
   have HP:=Lib.hid (fun w=>Tryz.strconv_ParseUint_10_at64_ok s (by omega) _ hp w)
   obtain ⟨v,hv⟩:∃ v,dval 0 s.data.toList=v:=⟨_,rfl⟩
   rw [hv] at HP ⊢
   clear hn h hp hlt hv hd hne
   go_enter Tryz.func140,Tryz.ntmps140
   go_wp2_with fail
   refine HN.out.mono ?_
   rintro e w1 ⟨rfl,hb⟩
   go_wp2_with fail
   refine (HP.out _).mono ?_
   rintro e w2 ⟨rfl,hw2⟩
   have hb2:Below w.heap.size w w2:=by
    rcases hw2 with rfl | rfl
    ·exact hb
    ·exact hb.trans ((Lib.bytesWorld_below _ _ _).mono hb.size)
   clear hw2
   go_wp2_with fail
   go_ret2
   exact ⟨rfl,hb2⟩
  ·rw [if_neg (fun q=>hlt q.2)] at hans
   rw [if_neg hlt] at hp
   subst hans
   obtain ⟨tp,p,hr⟩:=h.rng
   have HP:=Lib.hid (fun w (hw:w.var? Tryz.prog "strconv.ErrRange" = some #[.iface tp p])=>Tryz.strconv_ParseUint_10_at64_range_var s (by omega) hp tp p w hw)
   have HR:=Lib.hid hr
   clear hn h hp hlt hd hne hr
   go_enter Tryz.func140,Tryz.ntmps140
   go_wp2_with fail
   refine HN.out.mono ?_
   rintro e w1 ⟨rfl,hb⟩
   have HR1:=Lib.hid (var_below HR.out hb)
   go_wp2_with fail
   refine (HP.out _ HR1.out).mono ?_
   rintro e w2 ⟨N,rfl,_,_,hb2⟩
   have hb3:=hb.trans (hb2.mono hb.size)
   go_wp2_with fail
   go_ret2
   exact ⟨rfl,hb3⟩
end Go.Proofs.YtfckekaegjjmkaaGreatDoor
namespace Go.Proofs.YtfckekaegjjmkaaGreatDoor
open Go.RowKit Go.Shelf

def toIntV:Option (Bool × Nat) → Value
 | some (n,k)=>.tuple #[.bool n,.int .u64 (k:Nat),.bool true]
 | none=>.tuple #[.bool false,.int .u64 0,.bool false]
theorem repeat_zeros:∀ c:Nat,Lib.repeatL [48] c=List.replicate c 48
 | 0=>rfl
 | c + 1=>by
  show 48 :: Lib.repeatL [48] c=_
  rw [repeat_zeros c]
  rfl
theorem dval_zeros (l:List UInt8):∀ c:Nat,dval 0 (l ++ List.replicate c 48)=dval 0 l * 10 ^ c
 | 0=>by simp
 | c + 1=>by
  rw [List.replicate_succ',← List.append_assoc,dval_append,dval_zeros l c]
  have:(48:UInt8).toNat=48:=rfl
  rw [this,Nat.pow_succ,← Nat.mul_assoc]
  omega
theorem whole_nat {neg:Bool} {dg s:ByteArray} {ex:Int} (h:decOk neg dg ex=true) (h0:0 ≤ ex) (h1:ex ≤ 20) (hs:s.data.toList=dg.data.toList ++ List.replicate ex.toNat 48) :
  natOk s=true ∧ dval 0 s.data.toList=wholeN dg ex:=by
 have hv:dval 0 s.data.toList=wholeN dg ex:=by
  rw [hs,dval_zeros]
  rfl
 refine ⟨?_,hv⟩
 have hp:=dec_parts h
 unfold decOk at h
 rw [Bool.and_eq_true,Bool.and_eq_true,decide_eq_true_iff] at h
 obtain ⟨hn,h100,_⟩:=h
 obtain ⟨n1,n2,n3⟩:=natOk_parts hn
 have hsz:s.size=dg.size + ex.toNat:=by
  have e1:s.data.toList.length=s.size:=by simp
  have e2:dg.data.toList.length=dg.size:=by simp
  rw [hs,List.length_append,e2,List.length_replicate] at e1
  exact e1.symm
 rcases hp with ⟨a1,a2,_⟩ | ⟨a1,a2,a3,_⟩
 ·have:s.data.toList=dg.data.toList:=by
   rw [hs,a2]
   simp
  rw [str_ext this]
  exact hn
 ·unfold natOk
  rw [decide_eq_true (by omega:1 ≤ s.size),decide_eq_true (by omega:s.size ≤ 400),Bool.true_and,Bool.true_and,Bool.and_eq_true]
  constructor
  ·have:s.data.toList.head? = dg.data.toList.head? := by
    rw [hs]
    exact head_append a1
   rw [this,decide_eq_false a3,Bool.and_false]
   rfl
  ·rw [List.all_eq_true]
   intro c hc
   rw [hs] at hc
   rcases List.mem_append.1 hc with q | q
   ·exact a2 c q
   ·rw [(List.mem_replicate.1 q).2]
    decide
theorem append_list (a b:ByteArray):(a ++ b).data.toList=a.data.toList ++ b.data.toList:=by
 rw [ByteArray.data_append,Array.toList_append]

set_option maxHeartbeats 4000000 in
set_option maxRecDepth 100000 in
theorem dec_ToInt {aT aF:Addr} (neg:Bool) (dg:ByteArray) (ex:Int) (hs:dg.size ≤ 9223372036854775807) (w:World) (h:GW w aT aF) :
  Calls Tryz.prog 97 #[.agg #[.bool neg,.string dg,.int .i64 ex]] w fun e w'=>e=.returned (toIntV (toIntD neg dg ex)) ∧ Below w.heap.size w w':=by
 obtain ⟨ans,hans⟩:∃ ans,toIntD neg dg ex=ans:=⟨_,rfl⟩
 rw [hans]
 unfold toIntD at hans
 have HR:=Lib.hid (dec_Right neg dg ex hs)
 have hbx:Below w.heap.size w (w.alloc (.cells #[.bool neg,.string dg,.int .i64 ex] 23)):=(Below.refl _ _).alloc (Nat.le_refl _) _
 have hkx:=Blk.new w #[.bool neg,.string dg,.int .i64 ex] 23
 have c0:=hkx.cell 0
 have c1:=hkx.cell 1
 have c2:=hkx.cell 2
 cases hd:decOk neg dg ex with
 | false =>
  rw [hd] at HR hans
  rw [if_neg (fun q=>absurd q.1 (by decide))] at hans
  subst hans
  clear hd h
  go_enter Tryz.func97,Tryz.ntmps97
  go_wp2_with fail
  refine (HR.out _).mono ?_
  rintro e w1 ⟨rfl,hb⟩
  have hb2:=hbx.trans (hb.mono hbx.size)
  clear hb hbx
  go_wp2_with fail
  refine bodyPost_ret (v:=.tuple #[.bool false,.int .u64 0,.bool false]) (by simp [results,Tryz.results97,go_sem]) rfl ⟨rfl,hb2⟩
 | true =>
  by_cases hx:0 ≤ ex ∧ ex ≤ 20
  ·obtain ⟨x0,x1⟩:=hx
   have hd':=hd
   rw [hd] at HR hans
   have h100:dg.size ≤ 100:=by
    unfold decOk at hd'
    rw [Bool.and_eq_true,Bool.and_eq_true,decide_eq_true_iff] at hd'
    exact hd'.2.1
   obtain ⟨r,hr⟩:∃ r:ByteArray,(⟨(Lib.repeatL [48] ex.toNat).toArray⟩:ByteArray)=r:=⟨_,rfl⟩
   have hrl:r.data.toList=List.replicate ex.toNat 48:=by rw [← hr,← repeat_zeros]
   have y4:dg.size + r.size ≤ 1000000:=by
    have e1:r.data.toList.length=r.size:=by simp
    rw [hrl,List.length_replicate] at e1
    omega
   have y5:¬ 9223372036854775807 < dg.size + r.size:=by omega
   obtain ⟨s,hse⟩:∃ s,dg ++ r=s:=⟨_,rfl⟩
   have hsl:s.data.toList=dg.data.toList ++ List.replicate ex.toNat 48:=by rw [← hse,append_list,hrl]
   obtain ⟨g1,g2⟩:=whole_nat hd' x0 x1 hsl
   have hsz:s.size ≤ 400:=(natOk_parts g1).2.1
   have hnt:natTo s=if wholeN dg ex < 18446744073709551616 then some (wholeN dg ex) else none:=by
    unfold natTo
    rw [g1,g2]
    by_cases q:wholeN dg ex < 18446744073709551616
    ·rw [if_pos ⟨rfl,q⟩,if_pos q]
    ·rw [if_neg (fun z=>q z.2),if_neg q]
   have hcx:((ex.toNat:Nat):Int)=ex:=by omega
   have HP:Hid (∀ w,Calls Tryz.prog 141 #[.string ⟨#[48]⟩,.int .i64 ex] w fun e w'=>e=.returned (.string r) ∧ Below w.heap.size w w'):=Lib.hid (fun w=>by
    have:=Tryz.strings_Repeat ⟨#[48]⟩ ex.toNat w (by omega) (by show 1 * ex.toNat ≤ _; omega)
    rw [hcx] at this
    rw [← hr]
    exact this)
   have HT:=Lib.hid (fun w (h:GW w aT aF)=>nat_To s (by omega) w h)
   rw [hnt] at HT
   obtain ⟨wn,hwn⟩:∃ wn,wholeN dg ex=wn:=⟨_,rfl⟩
   rw [hwn] at HT hans
   obtain ⟨vn,vb,hv1,hv2⟩:∃ (vn:Int) (vb:Bool),natToV (if wn < 18446744073709551616 then some wn else none)=.tuple #[.int .u64 vn,.bool vb] ∧ toIntV ans=.tuple #[.bool (vb && neg),.int .u64 vn,.bool vb]:=by
    rw [← hans]
    by_cases q:wn < 18446744073709551616
    ·rw [if_pos q,if_pos ⟨rfl,x0,x1,q⟩]
     exact ⟨wn,true,rfl,rfl⟩
    ·rw [if_neg q,if_neg (fun z=>q z.2.2.2)]
     exact ⟨0,false,rfl,rfl⟩
   rw [hv1] at HT
   rw [hv2]
   have HG:=Lib.hid (h.below hbx)
   have HSE:=Lib.hid hse
   clear hd hd' hans h hsl hrl hr g1 g2 hnt hcx hwn hse hsz h100 hv1 hv2
   go_enter Tryz.func97,Tryz.ntmps97
   go_wp2_with fail
   refine (HR.out _).mono ?_
   rintro e w1 ⟨rfl,hb⟩
   have hb2:=hbx.trans (hb.mono hbx.size)
   have hk2:=hkx.below hb hkx.lt
   have HG2:=Lib.hid (HG.out.below hb)
   have d0:=hk2.cell 0
   have d1:=hk2.cell 1
   have d2:=hk2.cell 2
   clear hb hbx hkx c0 c1 c2 HG HR
   go_wp2_with fail
   go_region_held3 (fun w'=>w'.cell? ⟨w.heap.size,0,none⟩=some (.bool neg) ∧ w'.cell? ⟨w.heap.size,1,none⟩=some (.string dg) ∧ w'.cell? ⟨w.heap.size,2,none⟩=some (.int .i64 ex)) (go_keep)
    (first | (go_at_call 141; refine (HP.out _).mono ?_; rintro e w4 ⟨rfl,hb4⟩; have hk4:=(Blk.drew hk2).below hb4 (Blk.drew hk2).lt; have c40:=hk4.cell 0; have c41:=hk4.cell 1; have c42:=hk4.cell 2) | (go_at_call 140; rw [HSE.out]; refine (HT.out _ ((HG2.out.below (below_drewN (Below.refl _ w1) 1)).below hb4)).mono ?_; rintro e w5 ⟨rfl,hb5⟩; have hk5:=hk4.below hb5 hk4.lt; have c50:=hk5.cell 0; have c51:=hk5.cell 1; have c52:=hk5.cell 2))
   have hb6:Below w.heap.size w w5:=(below_drewN hb2 1).trans ((hb4.trans (hb5.mono hb4.size)).mono hb2.size)
   clear hb2 hb4 hb5 hk2 hk4 c40 c41 c42 d0 d1 d2 HT HP HG2
   cases vb with
   | true =>
    go_wp2_with fail
    refine bodyPost_ret (v:=.tuple #[.bool neg,.int .u64 vn,.bool true]) (by simp [results,Tryz.results97,go_sem]) rfl ⟨rfl,hb6⟩
   | false =>
    go_wp2_with fail
    refine bodyPost_ret (v:=.tuple #[.bool false,.int .u64 vn,.bool false]) (by simp [results,Tryz.results97,go_sem]) rfl ⟨rfl,hb6⟩
  ·rw [hd] at HR hans
   rw [if_neg (fun q=>hx ⟨q.2.1,q.2.2.1⟩)] at hans
   subst hans
   clear hd h
   by_cases x0:0 ≤ ex
   ·have x1:20 < ex:=by omega
    clear hx
    go_enter Tryz.func97,Tryz.ntmps97
    go_wp2_with fail
    refine (HR.out _).mono ?_
    rintro e w1 ⟨rfl,hb⟩
    have hb2:=hbx.trans (hb.mono hbx.size)
    have hk2:=hkx.below hb hkx.lt
    have d0:=hk2.cell 0
    have d1:=hk2.cell 1
    have d2:=hk2.cell 2
    clear hb hbx hkx c0 c1 c2
    go_wp2_with fail
    refine bodyPost_ret (v:=.tuple #[.bool false,.int .u64 0,.bool false]) (by simp [results,Tryz.results97,go_sem]) rfl ⟨rfl,hb2⟩
   ·have x1:ex < 0:=by omega
    clear hx x0
    go_enter Tryz.func97,Tryz.ntmps97
    go_wp2_with fail
    refine (HR.out _).mono ?_
    rintro e w1 ⟨rfl,hb⟩
    have hb2:=hbx.trans (hb.mono hbx.size)
    have hk2:=hkx.below hb hkx.lt
    have d0:=hk2.cell 0
    have d1:=hk2.cell 1
    have d2:=hk2.cell 2
    clear hb hbx hkx c0 c1 c2
    go_wp2_with fail
    refine bodyPost_ret (v:=.tuple #[.bool false,.int .u64 0,.bool false]) (by simp [results,Tryz.results97,go_sem]) rfl ⟨rfl,hb2⟩
end Go.Proofs.YtfckekaegjjmkaaGreatDoor
namespace Go.Proofs.YtfckekaegjjmkaaGreatDoor
open Go.RowKit Go.Shelf

abbrev Fm:=Int × Int × Int
def formsL:List Fm:=[(10,5,16),(23,8,32),(52,11,64)]
abbrev fmV (f:Fm):Value:=.agg #[.int .i64 f.1,.int .i64 f.2.1,.int .i64 f.2.2]
theorem float_forms (w:World) :
  Calls Tryz.prog 166 #[] w fun e w'=>e=.returned (.agg #[.int .i64 10,.int .i64 5,.int .i64 16,.int .i64 23,.int .i64 8,.int .i64 32,.int .i64 52,.int .i64 11,.int .i64 64]) ∧ Below w.heap.size w w':=by
 go_enter Tryz.func166,Tryz.ntmps166
 go_wp2
 exact bodyPost_ret (v:=.agg #[.int .i64 10,.int .i64 5,.int .i64 16,.int .i64 23,.int .i64 8,.int .i64 32,.int .i64 52,.int .i64 11,.int .i64 64]) (by simp [results,Tryz.results166,go_sem]) rfl ⟨rfl,(Below.refl _ _).alloc (Nat.le_refl _) _⟩
theorem float_widths (w:World) :
  Calls Tryz.prog 138 #[] w fun e w'=>e=.returned (.func (.func 168) #[] #[]) ∧ w=w':=by
 go_enter Tryz.func138,Tryz.ntmps138
 go_wp2
 go_ret
 exact ⟨rfl,rfl⟩
theorem fmA0 (w:World):(Instr.index 199 (.agg #[.int .i64 10,.int .i64 5,.int .i64 16,.int .i64 23,.int .i64 8,.int .i64 32,.int .i64 52,.int .i64 11,.int .i64 64]) (.int .i64 0)).run Tryz.prog w=.ok (.agg #[.int .i64 10,.int .i64 5,.int .i64 16]) w:=by kernel_rfl
theorem fmA1 (w:World):(Instr.index 199 (.agg #[.int .i64 10,.int .i64 5,.int .i64 16,.int .i64 23,.int .i64 8,.int .i64 32,.int .i64 52,.int .i64 11,.int .i64 64]) (.int .i64 1)).run Tryz.prog w=.ok (.agg #[.int .i64 23,.int .i64 8,.int .i64 32]) w:=by kernel_rfl
theorem fmA2 (w:World):(Instr.index 199 (.agg #[.int .i64 10,.int .i64 5,.int .i64 16,.int .i64 23,.int .i64 8,.int .i64 32,.int .i64 52,.int .i64 11,.int .i64 64]) (.int .i64 2)).run Tryz.prog w=.ok (.agg #[.int .i64 52,.int .i64 11,.int .i64 64]) w:=by kernel_rfl
theorem float_wide (w:World) :
  Calls Tryz.prog 132 #[] w fun e w'=>e=.returned (.agg #[.int .i64 52,.int .i64 11,.int .i64 64]) ∧ Below w.heap.size w w':=by
 have i2:=fmA2
 have HF:=Lib.hid float_forms
 go_enter Tryz.func132,Tryz.ntmps132
 go_wp2_with fail
 refine (HF.out _).mono ?_
 rintro e w1 ⟨rfl,hb⟩
 have hk:=(Blk.new w #[.int .i64 0,.int .i64 0,.int .i64 0] 167).below hb (by simp)
 have h0:=hk.frozen
 have k0:=hk.cell 0
 have k1:=hk.cell 1
 have k2:=hk.cell 2
 have hb2:Below w.heap.size w w1:=((Below.refl w.heap.size w).alloc (Nat.le_refl _) (.cells #[.int .i64 0,.int .i64 0,.int .i64 0] 167)).trans (hb.mono (by simp))
 go_wp2_with fail
 have hk2:=((hk.set 0 (.int .i64 52)).set 1 (.int .i64 11)).set 2 (.int .i64 64)
 have c0:=hk2.cell 0
 have c1:=hk2.cell 1
 have c2:=hk2.cell 2
 exact bodyPost_ret (v:=.agg #[.int .i64 52,.int .i64 11,.int .i64 64]) (by simp [results,Tryz.results132,go_sem,c0,c1,c2]) rfl ⟨rfl,((hb2.setCell (by simp) _).setCell (by simp) _).setCell (by simp) _⟩

section
attribute [local go_sem] Oper.semAt_some wide_fn wide_depth
set_option maxRecDepth 100000 in
set_option maxHeartbeats 1000000 in
theorem float_widths1 (m l n₀:Nat) (J Jx:List Fm → World → Prop) (hJ:∀ s (A B:World),J s A → A.grownBy B none → J s B)
  (hY:∀ pre x W,J pre W → pre.length < 3 → YieldAt Fence.wide (m - 1) Tryz.prog l #[fmV x] W fun e W' =>
   (e=.returned (.bool true) ∧ J (pre ++ [x]) W' ∧ Below n₀ W W') ∨ (e=.returned (.bool false) ∧ Jx (pre ++ [x]) W'))
  (W:World) (h0:J [] W) :
  CallsIn Fence.wide m Tryz.prog 168 #[.func (.yield l) #[] #[]] W fun e W'=>(∃ v,e=.returned v) ∧
   ((∃ ys,ys=formsL ∧ J ys W') ∨ (∃ pre,pre <+: formsL ∧ Jx pre W')):=by
 have i0:=fmA0
 have i1:=fmA1
 have i2:=fmA2
 refine callsIn_of_wp Tryz.func168 rfl trivial ?_ rfl
 simp only [Tryz.ntmps168,List.size_toArray,List.length_cons,List.length_nil,Nat.reduceAdd,Nat.reduceSub,Array.replicate_succ,Array.replicate_zero,List.push_toArray,List.append_toArray,List.nil_append,List.cons_append]
 gi_wp2_with (gi_at_call 166; refine (callsIn_wide.2 (float_forms _)).mono ?_; rintro e w1 ⟨rfl,hb1⟩)
 gi_loopw [5] (fun i wr=>∃ k:Nat,k ≤ 3 ∧ i=.int .i64 k ∧ J (formsL.take k) wr) (fun i _=>3 - (intOf i).toNat)
 case atStart=>exact ⟨0,by omega,rfl,hJ _ _ _ h0 ⟨hb1.os,hb1.tape,hb1.output,hb1.size,fun k hk _=>hb1.block k hk⟩⟩
 case round =>
  obtain ⟨k,hk,rfl,hj⟩:=hrel
  have hja:∀ o,J (formsL.take k) (wr.alloc o):=fun o=>hJ _ _ _ hj (World.grownBy_alloc wr o none)
  obtain rfl | rfl | rfl | rfl:k=0 ∨ k=1 ∨ k=2 ∨ k=3:=by omega
  ·obtain ⟨fn,tmps,assign,body,hy,hR⟩:=hY (formsL.take 0) (10,5,16) _ (hja (.cells #[.int .i64 10,.int .i64 5,.int .i64 16] 167)) (by decide)
   gi_wp2
   refine hR.mono ?_
   rintro e W3 (⟨rfl,hJ3,hk3⟩ | ⟨rfl,hJx3⟩)
   ·gi_wp2
    go_roundw
    case rel=>exact ⟨1,by omega,rfl,hJ3⟩
    case measure=>simp [intOf]
   ·gi_wp2
    refine bodyPost_ret (results_none rfl _ _ _) rfl ?_
    exact ⟨⟨_,rfl⟩,.inr ⟨_,⟨[(23,8,32),(52,11,64)],rfl⟩,hJx3⟩⟩
  ·obtain ⟨fn,tmps,assign,body,hy,hR⟩:=hY (formsL.take 1) (23,8,32) _ (hja (.cells #[.int .i64 23,.int .i64 8,.int .i64 32] 167)) (by decide)
   gi_wp2
   refine hR.mono ?_
   rintro e W3 (⟨rfl,hJ3,hk3⟩ | ⟨rfl,hJx3⟩)
   ·gi_wp2
    go_roundw
    case rel=>exact ⟨2,by omega,rfl,hJ3⟩
    case measure=>simp [intOf]
   ·gi_wp2
    refine bodyPost_ret (results_none rfl _ _ _) rfl ?_
    exact ⟨⟨_,rfl⟩,.inr ⟨_,⟨[(52,11,64)],rfl⟩,hJx3⟩⟩
  ·obtain ⟨fn,tmps,assign,body,hy,hR⟩:=hY (formsL.take 2) (52,11,64) _ (hja (.cells #[.int .i64 52,.int .i64 11,.int .i64 64] 167)) (by decide)
   gi_wp2
   refine hR.mono ?_
   rintro e W3 (⟨rfl,hJ3,hk3⟩ | ⟨rfl,hJx3⟩)
   ·gi_wp2
    go_roundw
    case rel=>exact ⟨3,by omega,rfl,hJ3⟩
    case measure=>simp [intOf]
   ·gi_wp2
    refine bodyPost_ret (results_none rfl _ _ _) rfl ?_
    exact ⟨⟨_,rfl⟩,.inr ⟨_,⟨[],rfl⟩,hJx3⟩⟩
  ·gi_wp2
   go_end0
   exact ⟨⟨_,rfl⟩,.inl ⟨_,rfl,hj⟩⟩
theorem float_widths_stops (m n₀:Nat) (w:World) :
  SeqStopsK Fence.wide m Tryz.prog 168 #[] (fun x:Fm=>#[fmV x]) (Below n₀) (fun ys=>ys=formsL) (fun pre=>pre <+: formsL) 3 w:=fun l J Jx W _ hJ _ hY h0 =>
 float_widths1 m l n₀ J Jx (fun s A B hs hg=>hJ s A B none hs hg (fun r e=>by cases e)) hY W h0

def ofW (wd:Int):Fm × Bool:=if wd=16 then ((10,5,16),true) else if wd=32 then ((23,8,32),true) else if wd=64 then ((52,11,64),true) else ((0,0,0),false)
theorem ofW_none {wd:Int} (h:∀ f ∈ formsL,f.2.2 ≠ wd):ofW wd=((0,0,0),false):=by
 have h1:=h (10,5,16) (by simp [formsL])
 have h2:=h (23,8,32) (by simp [formsL])
 have h3:=h (52,11,64) (by simp [formsL])
 unfold ofW
 rw [if_neg (fun e=>h1 e.symm),if_neg (fun e=>h2 e.symm),if_neg (fun e=>h3 e.symm)]
theorem ofW_some {f:Fm} (h:f ∈ formsL):ofW f.2.2=(f,true):=by
 simp [formsL] at h
 rcases h with rfl | rfl | rfl <;> rfl

set_option maxRecDepth 100000 in
set_option maxHeartbeats 2000000 in
theorem float_of (wd:Int) (w:World) :
  Calls Tryz.prog 130 #[.int .i64 wd] w fun e w'=>e=.returned (.tuple #[fmV (ofW wd).1,.bool (ofW wd).2]) ∧ Below w.heap.size w w':=by
 refine calls_of_marks Tryz.func130 rfl ?_
 simp only [Tryz.ntmps130,List.size_toArray,List.length_cons,List.length_nil,Nat.reduceAdd,Nat.reduceSub,Array.replicate_succ,Array.replicate_zero,List.push_toArray,List.append_toArray,List.nil_append,List.cons_append]
 have HW:=Lib.hid float_widths
 go_wp2_with fail
 go_step3
 go_wp2_with fail
 go_step3
 go_wp2_with fail
 refine (HW.out _).mono ?_
 rintro e w' ⟨rfl,rfl⟩
 go_wp2_with fail
 clear HW
 have hW0f:∀ W0,W0=(((w.alloc (Obj.cells #[Value.int IntKind.i64 wd] 3)).alloc (Obj.cells #[Value.int IntKind.i64 0,Value.int IntKind.i64 0,Value.int IntKind.i64 0] 167)).alloc (Obj.cells #[Value.int IntKind.i64 0,Value.int IntKind.i64 0,Value.int IntKind.i64 0] 167)).alloc (Obj.cells #[Value.bool false] 4) → Blk W0 w.heap.size #[.int .i64 wd] 3 ∧ Blk W0 (w.heap.size + 1) #[Value.int IntKind.i64 0,Value.int IntKind.i64 0,Value.int IntKind.i64 0] 167 ∧ Blk W0 (w.heap.size + 1 + 1) #[Value.int IntKind.i64 0,Value.int IntKind.i64 0,Value.int IntKind.i64 0] 167 ∧ Blk W0 (w.heap.size + 1 + 1 + 1) #[.bool false] 4 ∧ Below w.heap.size w W0 ∧ W0.heap.size=w.heap.size + 4:=by
  rintro W0 rfl
  refine ⟨(((Blk.new w #[.int .i64 wd] 3).alloc _).alloc _).alloc _,?_,?_,?_,((((Below.refl _ w).alloc (Nat.le_refl _) _).alloc (by simp) _).alloc (by simp; omega) _).alloc (by simp; omega) _,by simp⟩
  ·have:=((Blk.new (w.alloc (Obj.cells #[Value.int IntKind.i64 wd] 3)) #[Value.int IntKind.i64 0,Value.int IntKind.i64 0,Value.int IntKind.i64 0] 167).alloc (Obj.cells #[Value.int IntKind.i64 0,Value.int IntKind.i64 0,Value.int IntKind.i64 0] 167)).alloc (Obj.cells #[Value.bool false] 4)
   simpa only [World.size_alloc] using this
  ·have:=(Blk.new ((w.alloc (Obj.cells #[Value.int IntKind.i64 wd] 3)).alloc (Obj.cells #[Value.int IntKind.i64 0,Value.int IntKind.i64 0,Value.int IntKind.i64 0] 167)) #[Value.int IntKind.i64 0,Value.int IntKind.i64 0,Value.int IntKind.i64 0] 167).alloc (Obj.cells #[Value.bool false] 4)
   simpa only [World.size_alloc] using this
  ·have:=Blk.new (((w.alloc (Obj.cells #[Value.int IntKind.i64 wd] 3)).alloc (Obj.cells #[Value.int IntKind.i64 0,Value.int IntKind.i64 0,Value.int IntKind.i64 0] 167)).alloc (Obj.cells #[Value.int IntKind.i64 0,Value.int IntKind.i64 0,Value.int IntKind.i64 0] 167)) #[.bool false] 4
   simpa only [World.size_alloc] using this
 obtain ⟨W0,hW0⟩:∃ W0,(((w.alloc (Obj.cells #[Value.int IntKind.i64 wd] 3)).alloc (Obj.cells #[Value.int IntKind.i64 0,Value.int IntKind.i64 0,Value.int IntKind.i64 0] 167)).alloc (Obj.cells #[Value.int IntKind.i64 0,Value.int IntKind.i64 0,Value.int IntKind.i64 0] 167)).alloc (Obj.cells #[Value.bool false] 4)=W0:=⟨_,rfl⟩
 obtain ⟨b0,b1,b2,b3,hB0,hsz⟩:=hW0f W0 hW0.symm
 rw [hW0]
 clear hW0 hW0f
 refine wp_rangeFunc (gf:=168) (lb:=#[]) rfl (enters_of Tryz.func168 (by kernel_rfl) rfl)
  (float_widths_stops 8 (w.heap.size + 4) W0) (by omega) (Below.refl _ _) (fun _=>rfl)
  (fun pre W=>((∀ f ∈ pre,f.2.2 ≠ wd) ∧ Blk W w.heap.size #[.int .i64 wd] 3 ∧ Blk W (w.heap.size + 1) #[Value.int IntKind.i64 0,Value.int IntKind.i64 0,Value.int IntKind.i64 0] 167 ∧ Blk W (w.heap.size + 1 + 1) #[Value.int IntKind.i64 0,Value.int IntKind.i64 0,Value.int IntKind.i64 0] 167 ∧ Blk W (w.heap.size + 1 + 1 + 1) #[.bool false] 4) ∧ Below w.heap.size W0 W)
  (fun c pre W=>(c=.exit 0 ∧ ∃ x:Fm,x ∈ pre ∧ x.2.2=wd ∧ Blk W (w.heap.size + 1) #[Value.int IntKind.i64 0,Value.int IntKind.i64 0,Value.int IntKind.i64 0] 167 ∧ Blk W (w.heap.size + 1 + 1) #[.int .i64 x.1,.int .i64 x.2.1,.int .i64 x.2.2] 167 ∧ Blk W (w.heap.size + 1 + 1 + 1) #[.bool true] 4) ∧ Below w.heap.size W0 W)
  ?hI ?hIx ⟨⟨fun f h=>absurd h (by simp),b0,b1,b2,b3⟩,Below.refl _ _⟩
  (fun T x a' W=>∃ Bx,w.heap.size + 1 + 1 + 1 < Bx ∧ Blk W Bx #[.int .i64 x.1,.int .i64 x.2.1,.int .i64 x.2.2] 167 ∧ a'={ tmps:=(T.setIfInBounds 8 (fmV x)).setIfInBounds 6 (.pointer (some ⟨Bx,0,none⟩)),defers:=[] })
  ?hAx ?assign ?body ?done ?stop
 case hI =>
  refine OwnFrom.and (Own.from ?_ _) (ownFrom_below (by omega) (by omega))
  rintro s X Y row ⟨h1,h2,h3,h4,h5⟩ hg hr
  exact ⟨h1,blk_own _ _ (fun _:Unit=>_) () X Y row h2 hg hr,blk_own _ _ (fun _:Unit=>_) () X Y row h3 hg hr,blk_own _ _ (fun _:Unit=>_) () X Y row h4 hg hr,blk_own _ _ (fun _:Unit=>_) () X Y row h5 hg hr⟩
 case hIx =>
  intro c
  refine OwnFrom.and (Own.from ?_ _) (ownFrom_below (by omega) (by omega))
  rintro s X Y row ⟨h1,x,hx,hw,h2,h3,h4⟩ hg hr
  exact ⟨h1,x,hx,hw,blk_own _ _ (fun _:Unit=>_) () X Y row h2 hg hr,blk_own _ _ (fun _:Unit=>_) () X Y row h3 hg hr,blk_own _ _ (fun _:Unit=>_) () X Y row h4 hg hr⟩
 case hAx =>
  rintro x a' _ X Y row ⟨Bx,h1,h2,h3⟩ hg hr
  exact ⟨Bx,h1,blk_own _ _ (fun _:Unit=>_) () X Y row h2 hg (fun r e=>(hr r e).2),h3⟩
 case assign =>
  rintro l pre x W K ⟨⟨hp,h0,h1,h2,h3⟩,hB⟩ hK
  have HK:=Lib.hid hK
  clear hK
  have hz:=hB.size
  gi_wp2
  exact HK.out _ _ ((KeepsOthers.alloc _ _).from _) ((Below.refl _ _).alloc (by omega) _) ⟨⟨hp,h0.alloc _,h1.alloc _,h2.alloc _,h3.alloc _⟩,hB.alloc (by omega) _⟩ ⟨W.heap.size,h3.lt,Blk.new _ _ _,rfl⟩
 case body =>
  rintro l pre x a' W hl ⟨r,hr⟩ ⟨⟨hp,h0,h1,h2,h3⟩,hB⟩ ⟨Bx,hBx,bX,rfl⟩ hlt
  have hx0:=bX.cell 0
  have hx1:=bX.cell 1
  have hx2:=bX.cell 2
  have hw0:=h0.cell 0
  have ho0:=h2.cell 0
  have ho1:=h2.cell 1
  have ho2:=h2.cell 2
  have ht0:=h3.cell 0
  have hf:=h2.frozen
  have hf3:=h3.frozen
  simp only [List.setIfInBounds_toArray,List.set_cons_zero,List.set_cons_succ]
  by_cases hm:x.2.2=wd
  ·subst hm
   gi_wp2
   exact ⟨((((KeepsOthers.setCell _ _ _).trans (KeepsOthers.setCell _ _ _)).trans (KeepsOthers.setCell _ _ _)).trans (KeepsOthers.setCell _ _ _)).from _,⟨rfl,x,by simp,rfl,(((h1.other (by omega) _ _).other (by omega) _ _).other (by omega) _ _).other (by omega) _ _,(((h2.set 0 _).set 1 _).set 2 _).other (by omega) _ _,(((h3.other (by omega) _ _).other (by omega) _ _).other (by omega) _ _).set 0 _⟩,(((hB.setCell (by simp; omega) _).setCell (by simp; omega) _).setCell (by simp; omega) _).setCell (by simp; omega) _⟩
  ·have hm':(x.2.2 == wd)=false:=by rw [beq_eq_false_iff_ne]; exact hm
   gi_wp2
   exact ⟨KeepsFrom.refl _ _,Below.refl _ _,⟨fun f hf'=>(List.mem_append.1 hf').elim (hp f) (fun h=>by rw [List.mem_singleton.1 h]; exact hm),h0,h1,h2,h3⟩,hB⟩
 case done =>
  rintro D ys W hD rfl ⟨⟨hp,h0,h1,h2,h3⟩,hB⟩ hK
  have HO:=Lib.hid (ofW_none hp)
  clear hp
  have ho0:=h2.cell 0
  have ho1:=h2.cell 1
  have ho2:=h2.cell 2
  have ht0:=h3.cell 0
  have hr0:=h1.cell 0
  have hr1:=h1.cell 1
  have hr2:=h1.cell 2
  have hf:=h1.frozen
  go_wp2_with fail
  go_region
  go_wp2_with fail
  rw [Exit.noGoto_ret]
  have bR':=((h1.set 0 (Value.int IntKind.i64 0)).set 1 (Value.int IntKind.i64 0)).set 2 (Value.int IntKind.i64 0)
  have hK':(((W.setCell { block:=w.heap.size + 1,off:=0 } (Value.int IntKind.i64 0)).setCell { block:=w.heap.size + 1,off:=1 } (Value.int IntKind.i64 0)).setCell { block:=w.heap.size + 1,off:=2 } (Value.int IntKind.i64 0)).drew.heap[D]? = some (.deferred (some [])):=
   ((Below.heap_setCell _ _ _ D (by simp; omega)).trans ((Below.heap_setCell _ _ _ D (by simp; omega)).trans (Below.heap_setCell _ _ _ D (by simp; omega)))).trans hK
  have bR2:=(Blk.drew bR').shut hK' rfl (.deferred none)
  have hq0:=bR2.cell 0
  have hq1:=bR2.cell 1
  have hq2:=bR2.cell 2
  have hz:=hB.size
  have hb9:Below w.heap.size w (((W.setCell { block:=w.heap.size + 1,off:=0 } (Value.int IntKind.i64 0)).setCell { block:=w.heap.size + 1,off:=1 } (Value.int IntKind.i64 0)).setCell { block:=w.heap.size + 1,off:=2 } (Value.int IntKind.i64 0)).drew:=below_drewN (hB0.trans (((hB.setCell (by simp) _).setCell (by simp) _).setCell (by simp) _)) 1
  refine leave1 (v:=.tuple #[.agg #[.int .i64 0,.int .i64 0,.int .i64 0],.bool false]) hK' (by simp [results,Tryz.results130,go_sem,hq0,hq1,hq2]) rfl ⟨by rw [HO.out],below_shut hb9 (by omega) (by simp [World.setCell]; omega) _⟩
 case stop =>
  rintro D c pre W hD hp ⟨⟨rfl,x,hx,hw,h1,h2,h3⟩,hB⟩ hK
  have HO:=Lib.hid (show ofW wd=(x,true) by rw [← hw]; exact ofW_some (hp.subset hx))
  have HX:=Lib.hid hw
  clear hw hx hp
  have ho0:=h2.cell 0
  have ho1:=h2.cell 1
  have ho2:=h2.cell 2
  have ht0:=h3.cell 0
  have hr0:=h1.cell 0
  have hr1:=h1.cell 1
  have hr2:=h1.cell 2
  have hf:=h1.frozen
  go_wp2_with fail
  go_region
  go_wp2_with fail
  rw [Exit.noGoto_ret]
  have bR':=((h1.set 0 (Value.int IntKind.i64 x.1)).set 1 (Value.int IntKind.i64 x.2.1)).set 2 (Value.int IntKind.i64 x.2.2)
  have hK':(((W.setCell { block:=w.heap.size + 1,off:=0 } (Value.int IntKind.i64 x.1)).setCell { block:=w.heap.size + 1,off:=1 } (Value.int IntKind.i64 x.2.1)).setCell { block:=w.heap.size + 1,off:=2 } (Value.int IntKind.i64 x.2.2)).drew.heap[D]? = some (.deferred (some [])):=
   ((Below.heap_setCell _ _ _ D (by simp; omega)).trans ((Below.heap_setCell _ _ _ D (by simp; omega)).trans (Below.heap_setCell _ _ _ D (by simp; omega)))).trans hK
  have bR2:=(Blk.drew bR').shut hK' rfl (.deferred none)
  have hq0:=bR2.cell 0
  have hq1:=bR2.cell 1
  have hq2:=bR2.cell 2
  have hz:=hB.size
  have hb9:Below w.heap.size w (((W.setCell { block:=w.heap.size + 1,off:=0 } (Value.int IntKind.i64 x.1)).setCell { block:=w.heap.size + 1,off:=1 } (Value.int IntKind.i64 x.2.1)).setCell { block:=w.heap.size + 1,off:=2 } (Value.int IntKind.i64 x.2.2)).drew:=below_drewN (hB0.trans (((hB.setCell (by simp) _).setCell (by simp) _).setCell (by simp) _)) 1
  refine leave1 (v:=.tuple #[.agg #[.int .i64 x.1,.int .i64 x.2.1,.int .i64 x.2.2],.bool true]) hK' (by simp [results,Tryz.results130,go_sem,hq0,hq1,hq2]) rfl ⟨by rw [HO.out],below_shut hb9 (by omega) (by simp [World.setCell]; omega) _⟩
end
end Go.Proofs.YtfckekaegjjmkaaGreatDoor
