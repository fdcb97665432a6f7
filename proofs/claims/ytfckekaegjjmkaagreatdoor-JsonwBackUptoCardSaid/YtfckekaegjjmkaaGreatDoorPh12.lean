/- The texts DrF, DecI, put together. -/
import Derived.Test.YtfckekaegjjmkaaGreatDoorPh11
import Derived.Test.YtfckekaegjjmkaaGreatDoorPh04
import Derived.Lib.SmallJoins
import Derived.IntWalk
import Derived.Test.YtfckekaegjjmkaaGreatDoorPh09
import Derived.Lib.OthersKept
namespace Go.Proofs.YtfckekaegjjmkaaGreatDoor
open Go.RowKit Go.Shelf
attribute [local go_sem] Oper.semAt_some

structure AtW (w:World):Prop where
 syn:∃ tp p,w.cell? ⟨7,0,none⟩=some (.iface tp p)
 rng:∃ tp p,w.var? Tryz.prog "strconv.ErrRange" = some #[.iface tp p]
theorem AtW.below {w w':World} {n:Nat} (h:AtW w) (hb:Below n w w') (hn:w.heap.size ≤ n):AtW w' where
 syn:=let ⟨tp,p,e⟩:=h.syn; ⟨tp,p,cell_below (hb.mono hn) e⟩
 rng:=let ⟨tp,p,e⟩:=h.rng; ⟨tp,p,var_below e (hb.mono hn)⟩
theorem digits_all_dig (l:List UInt8):∀ c ∈ (digits l).1,isDig c=true:=fun c hc=>by
 unfold digits at hc
 exact takeWhile_all l c hc
theorem atoi_dig (a:List UInt8) (hd:∀ c ∈ a,isDig c=true) (hz:a.length ≤ 1000000000) (w:World) (hA:AtW w) :
  Calls Tryz.prog 153 #[.string (bsD a)] w fun e w'=>Below w.heap.size w w' ∧ ((a ≠ [] ∧ dval 0 a < 9223372036854775808 ∧ e=.returned (.tuple #[.int .i64 (dval 0 a:Nat),.nilIface])) ∨ ((a=[] ∨ 4 < a.length) ∧ ∃ (v:Int) (N:Addr),e=.returned (.tuple #[.int .i64 v,.iface 267 (.pointer (some N))]))):=by
 by_cases h0:a=[]
 ·subst h0
  obtain ⟨tp,p,hs⟩:=hA.syn
  refine (Tryz.strconv_Atoi_err (bsD []) (by decide) (by decide) _ w hs (.inr ⟨_,_,rfl⟩)).mono ?_
  rintro e w' ⟨N,he,_,_,hb⟩
  exact ⟨hb,.inr ⟨.inl rfl,_,_,he⟩⟩
 ·have ha:=atoi_digits h0 hd
  by_cases hv:dval 0 a < 9223372036854775808
  ·rw [if_pos hv] at ha
   refine (Tryz.strconv_Atoi_ok (bsD a) (by rw [bsD_size]; omega) _ ha w).mono ?_
   rintro e w' ⟨he,rfl | ⟨t,rfl⟩⟩
   ·exact ⟨Below.refl _ _,.inl ⟨h0,hv,he⟩⟩
   ·exact ⟨Joins.below_bytesWorld _ _ _ _ (Nat.le_refl _),.inl ⟨h0,hv,he⟩⟩
  ·rw [if_neg hv] at ha
   obtain ⟨tp,p,hr⟩:=hA.rng
   refine (Tryz.strconv_Atoi_range_var (bsD a) (by rw [bsD_size]; omega) ha tp p w hr).mono ?_
   rintro e w' ⟨N,he,_,_,hb⟩
   refine ⟨hb,.inr ⟨.inr ?_,_,_,he⟩⟩
   have:=dval_up hd
   refine Classical.byContradiction fun hl=>?_
   have h4:a.length ≤ 4:=by omega
   have:=Nat.pow_le_pow_right (n:=10) (by decide) h4
   omega
theorem sign_next (l:List UInt8):signP l=if (nextD [45] l).1=true then (-1,(nextD [45] l).2) else (1,(nextD [43] (nextD [45] l).2).2):=by
 unfold signP
 split
 ·simp [nextD]
 ·simp [nextD]
 ·rename_i h1 h2
  cases l with
  | nil=>rfl
  | cons x r =>
   have h3:¬ x=45:=fun e=>h1 r (by rw [e])
   have h4:¬ x=43:=fun e=>h2 r (by rw [e])
   simp [nextD,h3,h4]
theorem power_next (l:List UInt8):powerP l=if (nextD [101,69] l).1=true then (if (digits (signP (nextD [101,69] l).2).2).1=[] then some (0,l) else if (digits (signP (nextD [101,69] l).2).2).1.length ≤ 4 then some ((signP (nextD [101,69] l).2).1 * (dval 0 (digits (signP (nextD [101,69] l).2).2).1:Nat),(digits (signP (nextD [101,69] l).2).2).2) else none) else some (0,l):=by
 cases l with
 | nil=>rfl
 | cons x r =>
  unfold powerP
  simp only [nextD,List.mem_cons,List.not_mem_nil,or_false]
  by_cases h:x=101 ∨ x=69
  ·simp [h]
  ·simp [h]
def PowPost (p:Nat) (w:World) (res:Option (Int × List UInt8)) (x:Ending) (w':World):Prop:=(w.grownBy w' (some p) ∧ ∃ s',RdD w' p s' ∧ match res with
 | some (_,r)=>s'=bsD r
 | none=>True) ∧ match res with
 | some (e,_)=>x=.returned (.tuple #[.int .i64 e,.bool true])
 | none=>∃ n:Int,x=.returned (.tuple #[.int .i64 n,.bool false])

set_option maxHeartbeats 4000000 in
set_option maxRecDepth 100000 in
theorem dec_power (p:Nat) (s:ByteArray) (w:World) (hR:RdD w p s) (hz:s.size ≤ 1000000000) (n0:Nat) (w0:World) (hA:AtW w0) (hn0:w0.heap.size=n0) (hp0:n0 ≤ p) (hb0:Below n0 w0 w) :
  Calls Tryz.prog 122 #[.pointer (some ⟨p,0,none⟩)] w (PowPost p w (powerP s.data.toList)):=by
 rw [power_next]
 have hplt:=hR.lt
 have HAW:=Lib.hid (fun (W:World) (hg:w.grownBy W (some p))=>hA.below (hb0.trans (grown_below hg hp0 hplt)) (by omega))
 have HN:=Lib.hid (rd_next2 p s 101 69 101 69 rfl rfl w hR hz)
 have hlen:=nextD_len [101,69] s.data.toList
 have hsl:s.data.toList.length=s.size:=by simp
 obtain ⟨⟨b,r⟩,hx⟩:∃ x,nextD [101,69] s.data.toList=x:=⟨_,rfl⟩
 rw [hx] at HN hlen ⊢
 simp only [] at HN hlen ⊢
 have hbs:=bsD_of s
 have q0:=hR.cell 0
 clear hx hA hb0
 cases b with
 | false =>
  simp only [Bool.false_eq_true,if_false]
  clear HAW
  go_enter Tryz.func122,Tryz.ntmps122
  go_wp2_with fail
  refine HN.out.mono ?_
  rintro e w1 ⟨rfl,hg,hr⟩
  have f0:=hr.frozen 0
  have q1:=hr.cell 0
  have hr3:=hr.set 0 (.string s)
  have hg3:=grown_trans hg (grown_set w1 p 0 (.string s))
  clear q0
  go_wp2_with fail
  go_ret2
  exact ⟨⟨hg3,s,hr3,hbs.symm⟩,rfl⟩
 | true =>
  simp only [if_true]
  have HM:=Lib.hid (fun W h=>rd_next1 p (bsD r) 45 45 rfl W h (by rw [bsD_size]; omega))
  rw [bsD_list] at HM
  have hlen1:=nextD_len [45] r
  rw [sign_next r]
  obtain ⟨⟨b1,r1⟩,hx1⟩:∃ x,nextD [45] r=x:=⟨_,rfl⟩
  rw [hx1] at HM hlen1 ⊢
  simp only [] at HM hlen1 ⊢
  clear hx1
  cases b1 with
  | true =>
   simp only [if_true]
   have HD:=Lib.hid (fun W h=>dec_digits p (bsD r1) W h (by rw [bsD_size]; omega))
   rw [bsD_list] at HD
   have hda:=digits_all_dig r1
   have hdl:(digits r1).1.length ≤ r1.length:=by unfold digits; rw [List.length_take]; omega
   obtain ⟨⟨a,t⟩,hd⟩:∃ x,digits r1=x:=⟨_,rfl⟩
   rw [hd] at HD hda hdl ⊢
   simp only [] at HD hda hdl ⊢
   have HT:=Lib.hid (fun W h=>atoi_dig a hda (by omega) W h)
   have hup:=dval_up hda
   clear hd hda
   by_cases ha:a=[]
   ·subst ha
    simp only [if_true]
    have HD:Hid (∀ (W:World),RdD W p (bsD r1) → Calls Tryz.prog 152 #[.pointer (some ⟨p,0,none⟩)] W fun e w'=>e=.returned (.string ⟨#[]⟩) ∧ W.grownBy w' (some p) ∧ RdD w' p (bsD t)):=HD
    have HE:Hid (∀ (W:World),AtW W → Calls Tryz.prog 153 #[.string ⟨#[]⟩] W fun e w'=>Below W.heap.size W w' ∧ (∃ (v:Int) (N:Addr),e=.returned (.tuple #[.int .i64 v,.iface 267 (.pointer (some N))]))):=Lib.hid (fun W h=>by
     refine (HT.out W h).mono ?_
     rintro e w' ⟨hb,⟨h1,_⟩ | ⟨_,h2⟩⟩
     ·exact absurd rfl h1
     ·exact ⟨hb,h2⟩)
    clear HT
    go_enter Tryz.func122,Tryz.ntmps122
    go_wp2_with fail
    refine HN.out.mono ?_
    rintro e w1 ⟨rfl,hg1,hr1⟩
    clear q0
    go_wp2_with fail
    refine (HM.out _ hr1).mono ?_
    rintro e w2 ⟨rfl,hg2,hr2⟩
    have hgA:=grown_trans hg1 hg2
    go_wp2_with fail
    have hgB:=hgA
    refine (HD.out _ hr2).mono ?_
    rintro e w4 ⟨rfl,hg4,hr4⟩
    have hgC:=grown_trans hgB hg4
    go_wp2_with fail
    refine (HE.out _ (HAW.out _ hgC)).mono ?_
    rintro e w5 ⟨hb5,v,N,rfl⟩
    have hgD:=grown_trans hgC (below_grown hb5 _)
    have hr5:=hr4.below hb5 hr4.lt
    have f0:=hr5.frozen 0
    have q1:=hr5.cell 0
    have hr6:=hr5.set 0 (.string s)
    have hgE:=grown_trans hgD (grown_set w5 p 0 (.string s))
    go_wp2_with fail
    go_ret2
    exact ⟨⟨hgE,s,hr6,hbs.symm⟩,rfl⟩
   ·rw [if_neg ha]
    have z:=str_isE ha
    have hsz:(bsD a).size=a.length:=rfl
    have HBT:=Lib.hid (bsD_of s)
    obtain ⟨av,hav⟩:∃ x,bsD a=x:=⟨_,rfl⟩
    rw [hav] at HD HT z hsz
    by_cases h4:a.length ≤ 4
    ·rw [if_pos h4]
     have hv4:dval 0 a < 10000:=Nat.lt_of_lt_of_le hup (Nat.pow_le_pow_right (n:=10) (by decide) h4)
     have HT:Hid (∀ (W:World),AtW W → Calls Tryz.prog 153 #[.string av] W fun e w'=>Below W.heap.size W w' ∧ e=.returned (.tuple #[.int .i64 (dval 0 a:Nat),.nilIface])):=Lib.hid (fun W h=>by
      refine (HT.out W h).mono ?_
      rintro e w' ⟨hb,⟨_,_,h2⟩ | ⟨h1,_⟩⟩
      ·exact ⟨hb,h2⟩
      ·rcases h1 with h1 | h1
       ·exact absurd h1 ha
       ·omega)
     generalize dval 0 a=v at HT hv4 ⊢
     have z4:(av.size:Int) ≤ 4:=by omega
     clear hav ha hup h4 hsz hdl
     go_enter Tryz.func122,Tryz.ntmps122
     go_wp2_with fail
     refine HN.out.mono ?_
     rintro e w1 ⟨rfl,hg1,hr1⟩
     clear q0
     go_wp2_with fail
     refine (HM.out _ hr1).mono ?_
     rintro e w2 ⟨rfl,hg2,hr2⟩
     have hgA:=grown_trans hg1 hg2
     go_wp2_with fail
     have hgB:=hgA
     refine (HD.out _ hr2).mono ?_
     rintro e w4 ⟨rfl,hg4,hr4⟩
     have hgC:=grown_trans hgB hg4
     go_wp2_with fail
     refine (HT.out _ (HAW.out _ hgC)).mono ?_
     rintro e w5 ⟨hb5,rfl⟩
     have hgD:=grown_trans hgC (below_grown hb5 _)
     have hr5:=hr4.below hb5 hr4.lt
     have y1:IntKind.i64.wrap (-(v:Int)) = -(v:Int):=by rw [IntKind.wrap_i64]; omega
     go_wp2_with fail
     go_ret2
     refine ⟨⟨hgD,_,hr5,rfl⟩,?_⟩
     simp
    ·rw [if_neg h4]
     have z4:¬ (av.size:Int) ≤ 4:=by omega
     have HT:Hid (∀ (W:World),AtW W → Calls Tryz.prog 153 #[.string av] W fun e w'=>Below W.heap.size W w' ∧ ∃ (v:Int) (ev:Value),(ev=.nilIface ∨ ∃ N:Addr,ev=.iface 267 (.pointer (some N))) ∧ e=.returned (.tuple #[.int .i64 v,ev])):=Lib.hid (fun W h=>by
      refine (HT.out W h).mono ?_
      rintro e w' ⟨hb,⟨_,_,h2⟩ | ⟨h1,v,N,h2⟩⟩
      ·exact ⟨hb,_,_,.inl rfl,h2⟩
      ·exact ⟨hb,_,_,.inr ⟨N,rfl⟩,h2⟩)
     clear hav ha hup h4 hsz hdl
     go_enter Tryz.func122,Tryz.ntmps122
     go_wp2_with fail
     refine HN.out.mono ?_
     rintro e w1 ⟨rfl,hg1,hr1⟩
     clear q0
     go_wp2_with fail
     refine (HM.out _ hr1).mono ?_
     rintro e w2 ⟨rfl,hg2,hr2⟩
     have hgA:=grown_trans hg1 hg2
     go_wp2_with fail
     have hgB:=hgA
     refine (HD.out _ hr2).mono ?_
     rintro e w4 ⟨rfl,hg4,hr4⟩
     have hgC:=grown_trans hgB hg4
     go_wp2_with fail
     refine (HT.out _ (HAW.out _ hgC)).mono ?_
     rintro e w5 ⟨hb5,v,ev,hev,rfl⟩
     have hgD:=grown_trans hgC (below_grown hb5 _)
     have hr5:=hr4.below hb5 hr4.lt
     rcases hev with rfl | ⟨N,rfl⟩
     ·go_wp2_with fail
      go_ret2
      refine ⟨⟨hgD,_,hr5,trivial⟩,IntKind.i64.wrap (-1 * v),?_⟩
      simp
      exact ⟨(by rw [IntKind.wrap_i64]; unfold wrap64; rfl),by omega⟩
     ·go_wp2_with fail
      go_ret2
      exact ⟨⟨hgD,_,hr5,trivial⟩,_,rfl⟩
  | false =>
   simp only [Bool.false_eq_true,if_false]
   have HP:=Lib.hid (fun W h=>rd_next1 p (bsD r1) 43 43 rfl W h (by rw [bsD_size]; omega))
   rw [bsD_list] at HP
   have hlen2:=nextD_len [43] r1
   obtain ⟨⟨b2,r2⟩,hx2⟩:∃ x,nextD [43] r1=x:=⟨_,rfl⟩
   rw [hx2] at HP hlen2 ⊢
   simp only [] at HP hlen2 ⊢
   clear hx2
   have HD:=Lib.hid (fun W h=>dec_digits p (bsD r2) W h (by rw [bsD_size]; omega))
   rw [bsD_list] at HD
   have hda:=digits_all_dig r2
   have hdl:(digits r2).1.length ≤ r2.length:=by unfold digits; rw [List.length_take]; omega
   obtain ⟨⟨a,t⟩,hd⟩:∃ x,digits r2=x:=⟨_,rfl⟩
   rw [hd] at HD hda hdl ⊢
   simp only [] at HD hda hdl ⊢
   have HT:=Lib.hid (fun W h=>atoi_dig a hda (by omega) W h)
   have hup:=dval_up hda
   clear hd hda
   by_cases ha:a=[]
   ·subst ha
    simp only [if_true]
    have HD:Hid (∀ (W:World),RdD W p (bsD r2) → Calls Tryz.prog 152 #[.pointer (some ⟨p,0,none⟩)] W fun e w'=>e=.returned (.string ⟨#[]⟩) ∧ W.grownBy w' (some p) ∧ RdD w' p (bsD t)):=HD
    have HE:Hid (∀ (W:World),AtW W → Calls Tryz.prog 153 #[.string ⟨#[]⟩] W fun e w'=>Below W.heap.size W w' ∧ (∃ (v:Int) (N:Addr),e=.returned (.tuple #[.int .i64 v,.iface 267 (.pointer (some N))]))):=Lib.hid (fun W h=>by
     refine (HT.out W h).mono ?_
     rintro e w' ⟨hb,⟨h1,_⟩ | ⟨_,h2⟩⟩
     ·exact absurd rfl h1
     ·exact ⟨hb,h2⟩)
    clear HT
    go_enter Tryz.func122,Tryz.ntmps122
    go_wp2_with fail
    refine HN.out.mono ?_
    rintro e w1 ⟨rfl,hg1,hr1⟩
    clear q0
    go_wp2_with fail
    refine (HM.out _ hr1).mono ?_
    rintro e w2 ⟨rfl,hg2,hr2⟩
    have hgA:=grown_trans hg1 hg2
    go_wp2_with fail
    refine (HP.out _ hr2).mono ?_
    rintro e w3 ⟨rfl,hg3,hr3⟩
    have hgB:=grown_trans hgA hg3
    go_wp2_with fail
    refine (HD.out _ hr3).mono ?_
    rintro e w4 ⟨rfl,hg4,hr4⟩
    have hgC:=grown_trans hgB hg4
    go_wp2_with fail
    refine (HE.out _ (HAW.out _ hgC)).mono ?_
    rintro e w5 ⟨hb5,v,N,rfl⟩
    have hgD:=grown_trans hgC (below_grown hb5 _)
    have hr5:=hr4.below hb5 hr4.lt
    have f0:=hr5.frozen 0
    have q1:=hr5.cell 0
    have hr6:=hr5.set 0 (.string s)
    have hgE:=grown_trans hgD (grown_set w5 p 0 (.string s))
    go_wp2_with fail
    go_ret2
    exact ⟨⟨hgE,s,hr6,hbs.symm⟩,rfl⟩
   ·rw [if_neg ha]
    have z:=str_isE ha
    have hsz:(bsD a).size=a.length:=rfl
    have HBT:=Lib.hid (bsD_of s)
    obtain ⟨av,hav⟩:∃ x,bsD a=x:=⟨_,rfl⟩
    rw [hav] at HD HT z hsz
    by_cases h4:a.length ≤ 4
    ·rw [if_pos h4]
     have hv4:dval 0 a < 10000:=Nat.lt_of_lt_of_le hup (Nat.pow_le_pow_right (n:=10) (by decide) h4)
     have HT:Hid (∀ (W:World),AtW W → Calls Tryz.prog 153 #[.string av] W fun e w'=>Below W.heap.size W w' ∧ e=.returned (.tuple #[.int .i64 (dval 0 a:Nat),.nilIface])):=Lib.hid (fun W h=>by
      refine (HT.out W h).mono ?_
      rintro e w' ⟨hb,⟨_,_,h2⟩ | ⟨h1,_⟩⟩
      ·exact ⟨hb,h2⟩
      ·rcases h1 with h1 | h1
       ·exact absurd h1 ha
       ·omega)
     generalize dval 0 a=v at HT hv4 ⊢
     have z4:(av.size:Int) ≤ 4:=by omega
     clear hav ha hup h4 hsz hdl
     go_enter Tryz.func122,Tryz.ntmps122
     go_wp2_with fail
     refine HN.out.mono ?_
     rintro e w1 ⟨rfl,hg1,hr1⟩
     clear q0
     go_wp2_with fail
     refine (HM.out _ hr1).mono ?_
     rintro e w2 ⟨rfl,hg2,hr2⟩
     have hgA:=grown_trans hg1 hg2
     go_wp2_with fail
     refine (HP.out _ hr2).mono ?_
     rintro e w3 ⟨rfl,hg3,hr3⟩
     have hgB:=grown_trans hgA hg3
     go_wp2_with fail
     refine (HD.out _ hr3).mono ?_
     rintro e w4 ⟨rfl,hg4,hr4⟩
     have hgC:=grown_trans hgB hg4
     go_wp2_with fail
     refine (HT.out _ (HAW.out _ hgC)).mono ?_
     rintro e w5 ⟨hb5,rfl⟩
     have hgD:=grown_trans hgC (below_grown hb5 _)
     have hr5:=hr4.below hb5 hr4.lt
     go_wp2_with fail
     go_ret2
     refine ⟨⟨hgD,_,hr5,rfl⟩,?_⟩
     simp
    ·rw [if_neg h4]
     have z4:¬ (av.size:Int) ≤ 4:=by omega
     have HT:Hid (∀ (W:World),AtW W → Calls Tryz.prog 153 #[.string av] W fun e w'=>Below W.heap.size W w' ∧ ∃ (v:Int) (ev:Value),(ev=.nilIface ∨ ∃ N:Addr,ev=.iface 267 (.pointer (some N))) ∧ e=.returned (.tuple #[.int .i64 v,ev])):=Lib.hid (fun W h=>by
      refine (HT.out W h).mono ?_
      rintro e w' ⟨hb,⟨_,_,h2⟩ | ⟨h1,v,N,h2⟩⟩
      ·exact ⟨hb,_,_,.inl rfl,h2⟩
      ·exact ⟨hb,_,_,.inr ⟨N,rfl⟩,h2⟩)
     clear hav ha hup h4 hsz hdl
     go_enter Tryz.func122,Tryz.ntmps122
     go_wp2_with fail
     refine HN.out.mono ?_
     rintro e w1 ⟨rfl,hg1,hr1⟩
     clear q0
     go_wp2_with fail
     refine (HM.out _ hr1).mono ?_
     rintro e w2 ⟨rfl,hg2,hr2⟩
     have hgA:=grown_trans hg1 hg2
     go_wp2_with fail
     refine (HP.out _ hr2).mono ?_
     rintro e w3 ⟨rfl,hg3,hr3⟩
     have hgB:=grown_trans hgA hg3
     go_wp2_with fail
     refine (HD.out _ hr3).mono ?_
     rintro e w4 ⟨rfl,hg4,hr4⟩
     have hgC:=grown_trans hgB hg4
     go_wp2_with fail
     refine (HT.out _ (HAW.out _ hgC)).mono ?_
     rintro e w5 ⟨hb5,v,ev,hev,rfl⟩
     have hgD:=grown_trans hgC (below_grown hb5 _)
     have hr5:=hr4.below hb5 hr4.lt
     rcases hev with rfl | ⟨N,rfl⟩
     ·go_wp2_with fail
      go_ret2
      refine ⟨⟨hgD,_,hr5,trivial⟩,IntKind.i64.wrap (1 * v),?_⟩
      simp
      exact ⟨(by rw [IntKind.wrap_i64]; unfold wrap64; rfl),by omega⟩
     ·go_wp2_with fail
      go_ret2
      exact ⟨⟨hgD,_,hr5,trivial⟩,_,rfl⟩
end Go.Proofs.YtfckekaegjjmkaaGreatDoor
namespace Go.Proofs.YtfckekaegjjmkaaGreatDoor
open Go.RowKit Go.Shelf
attribute [local go_sem] Oper.semAt_some

theorem make_digit (c:Nat) (h1:48 ≤ c) (h2:c ≤ 57) (w:World):Calls Tryz.prog 154 #[.int .i32 c] w fun e w'=>e=.returned (.bool false) ∧ w'=w:=by
 have z1:(48:Int) ≤ c:=by omega
 have z2:(c:Int) ≤ 57:=by omega
 have hD:Calls Tryz.prog 155 #[.int .i32 c] w fun e w'=>e=.returned (.bool true) ∧ w'=w:=by
  go_enter Tryz.func155,Tryz.ntmps155
  go_wp2_with fail
  go_ret
  exact ⟨rfl,rfl⟩
 go_enter Tryz.func154,Tryz.ntmps154
 go_wp2_with fail
 refine hD.mono ?_
 rintro e w' ⟨rfl,rfl⟩
 go_wp2_with fail
 go_ret
 exact ⟨rfl,rfl⟩
set_option maxHeartbeats 2000000 in
set_option maxRecDepth 100000 in
theorem index_digits (s:ByteArray) (hs:s.size ≤ 1000000000) (hd:s.data.toList.all isDig=true) (w:World) :
  Calls Tryz.prog 190 #[.string s,.func (.func 154) #[] #[],.bool true] w fun e w'=>e=.returned (.int .i64 (-1)) ∧ Below w.heap.size w w':=by
 have eg:∀ args w,(callFunc 154 args).run Tryz.prog w=.ok (.enter 154 args) w:=enters_of Tryz.func154 (by kernel_rfl) rfl
 have HM:=Lib.hid make_digit
 go_enter Tryz.func190,Tryz.ntmps190
 go_wp2_with fail
 go_loopw [] (fun wr=>∃ k:Nat,k ≤ s.size ∧ wr.heap[w.heap.size]? = some (.stringIter s k) ∧ Below w.heap.size w wr) (fun wr=>s.size - wr.iterPos w.heap.size)
 case atStart=>exact ⟨0,by omega,World.iter_heap w s 0,(Below.refl _ w).alloc (Nat.le_refl _) _⟩
 case round =>
  obtain ⟨k,hk,hit,hbw⟩:=hrel
  have hsz:w.heap.size < wr.heap.size:=(Array.getElem?_eq_some_iff.1 hit).1
  have hlen:s.data.toList.length=s.size:=by simp
  by_cases hp:k < s.size
  ·obtain ⟨b,hb⟩:∃ b,s[k]'hp=b:=⟨_,rfl⟩
   have hg:isDig b=true:=by
    have h:=List.all_eq_true.1 hd (s.data.toList[k]'(by rw [hlen]; exact hp)) (List.getElem_mem _)
    rw [← hb]
    exact h
   unfold isDig at hg
   rw [Bool.and_eq_true,decide_eq_true_iff,decide_eq_true_iff] at hg
   have hnx:∀ ty,(Instr.next (.pointer (some ⟨w.heap.size,0,none⟩)) true ty).run Tryz.prog wr=_:=fun ty=>Lib.run_next_ascii_at wr w.heap.size s k ty hit hp (by rw [hb]; omega)
   rw [hb] at hnx
   have hit2:=Lib.iterAt_heap wr w.heap.size s k (k + 1) hit
   have hbw2:=Lib.below_iterAt hbw (k:=w.heap.size) (Nat.le_refl _) s (k + 1)
   obtain ⟨c,hc⟩:∃ c,b.toNat=c:=⟨_,rfl⟩
   rw [hc] at hnx hg
   obtain ⟨g1,g2⟩:=hg
   clear hb hc
   generalize wr.iterAt w.heap.size s (k + 1)=W at hnx hit2 hbw2
   go_wp2_with fail
   refine (HM.out c g1 g2 _).mono ?_
   rintro e w' ⟨rfl,rfl⟩
   go_wp2_with fail
   go_roundw
   case rel=>exact ⟨k + 1,by omega,hit2,hbw2⟩
   case measure =>
    simp only [World.iterPos,hit2,hit]
    omega
  ·have hnx:∀ ty,(Instr.next (.pointer (some ⟨w.heap.size,0,none⟩)) true ty).run Tryz.prog wr=_:=fun ty=>Lib.run_next_end_at wr w.heap.size s k ty hit hp
   go_wp2_with fail
   go_ret
   exact ⟨rfl,hbw⟩
theorem indexF_digits (s:ByteArray) (hs:s.size ≤ 1000000000) (hd:s.data.toList.all isDig=true) (w:World) :
  Calls Tryz.prog 157 #[.string s,.func (.func 154) #[] #[]] w fun e w'=>e=.returned (.int .i64 (-1)) ∧ Below w.heap.size w w':=by
 have HI:=Lib.hid (index_digits s hs hd)
 go_enter Tryz.func157,Tryz.ntmps157
 go_wp2_with fail
 refine (HI.out _).mono ?_
 rintro e w' ⟨rfl,hb⟩
 go_wp2_with fail
 go_ret
 exact ⟨rfl,hb⟩
end Go.Proofs.YtfckekaegjjmkaaGreatDoor
