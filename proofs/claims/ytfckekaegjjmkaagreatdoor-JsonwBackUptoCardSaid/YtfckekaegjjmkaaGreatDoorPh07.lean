/- The texts UtfH, UtfI, Range, put together. -/
import Derived.Test.YtfckekaegjjmkaaGreatDoorPh06
import Derived.Test.YtfckekaegjjmkaaGreatDoorPh01
namespace Go.Proofs.YtfckekaegjjmkaaGreatDoor
open Go.RowKit Go.Shelf

def EscPost (aQ:Addr) (p:Nat) (s:ByteArray) (w:World) (e:Ending) (w':World):Prop:=
 w.grownBy w' (some p) ∧ match escL s.data.toList with
  | some (x,r)=>e=.returned (.tuple #[.int .i32 (x:Int),.nilIface]) ∧ Rd w' p ⟨r.toArray⟩
  | none=>e=.returned (.tuple #[.int .i32 0,errV aQ])

theorem str_nonempty {s:ByteArray} (h0:s.size ≠ 0):s.toList.isEmpty=false:=by
 rw [ByteArray.toList_eq]
 cases hl:s.data.toList with
 | nil=>exact absurd (show s.data.toList.length=0 by rw [hl]; rfl) (by simpa using h0)
 | cons a l=>rfl
theorem str_cons {s:ByteArray} (h0:0 < s.size):s.data.toList=s[0] :: s.data.toList.drop 1:=by
 have hl:0 < s.data.toList.length:=by simpa using h0
 have:=List.drop_eq_getElem_cons hl
 rw [List.drop_zero] at this
 exact this

theorem cut_u (l:List UInt8):Lib.hasPrefix l [92,117]=decide (l.take 2=[92,117]) ∧ Lib.trimPrefix l [92,117]=if l.take 2=[92,117] then l.drop 2 else l:=by
 have h:Lib.hasPrefix l [92,117]=decide (l.take 2=[92,117]):=by
  unfold Lib.hasPrefix
  rw [Bool.eq_iff_iff,decide_eq_true_iff,List.isPrefixOf_iff_prefix,List.prefix_iff_eq_take]
  exact eq_comm
 refine ⟨h,?_⟩
 unfold Lib.trimPrefix
 rw [h]
 simp

theorem cut_u_call (s:ByteArray) (w:World):Calls Tryz.prog 212 #[.string s,.string ⟨#[92,117]⟩] w fun e w'=>e=.returned (.tuple #[.string ⟨(if s.data.toList.take 2=[92,117] then s.data.toList.drop 2 else s.data.toList).toArray⟩,.bool (decide (s.data.toList.take 2=[92,117]))]) ∧ w'=w:=by
 have h:=Tryz.strings_CutPrefix s ⟨#[92,117]⟩ w
 rw [show (⟨#[92,117]⟩:ByteArray).data.toList=[92,117] from rfl,(cut_u _).1,(cut_u _).2] at h
 exact h

set_option maxHeartbeats 4000000 in
set_option maxRecDepth 100000 in
theorem utf_escaped {n:Nat} {aT aQ:Addr} (s:ByteArray) (p:Nat) (w:World) (h:UWB n w aT aQ) (hn:n ≤ p) (hp:Rd w p s) :
  Calls Tryz.prog 236 #[.pointer (some ⟨p,0,none⟩)] w (EscPost aQ p s w):=by
 have hc:w.cell? ⟨p,0,none⟩=some (.string s):=hp.cell 0
 have hfz:=hp.frozen 0
 have hQ:=h.uw.hQ
 by_cases h0:s.size=0
 ·have e0:=str_empty h0
  subst e0
  have hfin:∀ e w',e=.returned (.tuple #[.int .i32 0,errV aQ]) → w.grownBy w' (some p) → EscPost aQ p ⟨#[]⟩ w e w':=fun e w' he hg=>⟨hg,he⟩
  have hfin:=Lib.hid hfin
  clear h0 h
  go_enter Tryz.func236,Tryz.ntmps236
  go_wp2_with fail
  go_quiet (fail)
  go_wp2_with fail
  go_ret2
  exact hfin.out _ _ rfl (below_grown (below_drewN (Below.refl _ _) _) _)
 ·have hne:=str_nonempty h0
  have hpos:0 < s.size:=by omega
  have hl:=str_cons hpos
  have hz1:(1:Int) ≤ s.size:=by omega
  have hex1:=extract_list s 1
  obtain ⟨r,hr⟩:∃ r,s.extract 1 s.size=r:=⟨_,rfl⟩
  rw [hr] at hex1
  rw [← hex1] at hl
  obtain ⟨c,hcc⟩:∃ c,s[0]=c:=⟨_,rfl⟩
  rw [hcc] at hl
  have HR:=Lib.hid hr
  have HL:=Lib.hid hl
  have hg0:=grown_set w p 0 (.string r)
  have hp1:=hp.put r
  clear hex1 hr hl h0
  go_enter Tryz.func236,Tryz.ntmps236
  go_wp2_with fail
  rw [HR.out]
  clear hcc hpos hz1 hne hc hfz hQ
  have h1:UWB n (w.setCell ⟨p,0,none⟩ (.string r)) aT aQ:=h.to (grown_below hg0 hn hp.lt)
  clear h hp
  generalize w.setCell ⟨p,0,none⟩ (.string r)=w1 at hg0 hp1 h1 ⊢
  refine (utf_signs _).mono ?_
  rintro e w2 ⟨rfl,rfl⟩
  have hm:(w1.alloc (.map signsE 8)).heap[w1.heap.size]? = some (.map signsE 8):=heap_alloc_new w1 _
  have hg2:=grown_trans hg0 (World.grownBy_alloc w1 (.map signsE 8) (some p))
  have hp2:=hp1.alloc (.map signsE 8)
  have h2:UWB n (w1.alloc (.map signsE 8)) aT aQ:=h1.to ((Below.refl n w1).alloc h1.le _)
  clear hg0 hp1 h1
  generalize w1.alloc (.map signsE 8)=w2 at hm hg2 hp2 h2 ⊢
  generalize w1.heap.size=bm at hm ⊢
  have hQ:=h2.uw.hQ
  cases hs:signX c.toNat with
  | some x =>
   have hlk:=signs_look w2 bm hm c.toNat x hs
   have hfin:∀ e w',e=.returned (.tuple #[.int .i32 x,.nilIface]) → w.grownBy w' (some p) → Rd w' p r → EscPost aQ p s w e w':=fun e w' he hg hr=>⟨hg,by
    rw [HL.out,escL_some _ hs]
    exact ⟨he,hr⟩⟩
   have hfin:=Lib.hid hfin
   clear hs
   generalize c.toNat=k at hlk ⊢
   go_wp2_with fail
   go_ret2
   exact hfin.out _ _ rfl hg2 hp2
  | none =>
   have hlk:=signs_lookno w2 bm hm c.toNat hs
   by_cases hu:c.toNat=117
   ·have he:escL s.data.toList=numL r.data.toList:=by rw [HL.out,escL_none _ hs,if_pos hu]
    clear HL
    have HE:=Lib.hid he
    clear he hs
    have hu2:((c.toNat:Int) != 117)=false:=by rw [hu]; rfl
    clear hu
    generalize c.toNat=k at hlk hu2 ⊢
    go_wp2_with fail
    have HX:=Lib.hid (utf_hexA r p w2 h2 hp2)
    clear hQ hlk
    refine HX.out.mono ?_
    clear HX
    rintro e w3 ⟨hg3,hm3⟩
    have hg03:=grown_trans hg2 hg3
    have h3:UWB n w3 aT aQ:=h2.to (grown_below hg3 hn hp2.lt)
    clear hg3 hg2 hp2 h2 hm
    cases hh:hexL r.data.toList with
    | none =>
     rw [hh] at hm3
     subst hm3
     have hfin:∀ e w',e=.returned (.tuple #[.int .i32 0,errV aQ]) → w.grownBy w' (some p) → EscPost aQ p s w e w':=fun e w' he hg=>⟨hg,by
      rw [HE.out]
      unfold numL
      rw [hh]
      exact he⟩
     have hfin:=Lib.hid hfin
     clear hh
     go_wp2_with fail
     go_ret2
     exact hfin.out _ _ rfl hg03
    | some hi =>
     rw [hh] at hm3
     obtain ⟨rfl,hp3⟩:=hm3
     have hx3:=extract_list r 4
     generalize r.extract 4 r.size=r3 at hp3 hx3
     have hlt:=hexL_lt hh
     have hnum:numL r.data.toList=if hi < 55296 ∨ 57343 < hi then some (hi,r3.data.toList) else lowL hi r3.data.toList:=by
      unfold numL
      rw [hh,hx3]
     rw [← HE.out] at hnum
     clear HE hh hx3
     have hout:(hi < 55296 ∨ 57343 < hi) → ∀ e w',e=.returned (.tuple #[.int .i32 hi,.nilIface]) → w.grownBy w' (some p) → Rd w' p r3 → EscPost aQ p s w e w':=fun hc e w' he hg hr=>⟨hg,by
      rw [hnum,if_pos hc]
      exact ⟨he,hr⟩⟩
     by_cases c1:hi < 55296
     ·have hfin:=Lib.hid (hout (.inl c1))
      have c1z:(hi:Int) < 55296:=by omega
      clear hout hnum
      go_wp2_with fail
      go_ret2
      exact hfin.out _ _ rfl hg03 hp3
     ·by_cases c2:57343 < hi
      ·have hfin:=Lib.hid (hout (.inr c2))
       have c1z:(55296:Int) ≤ hi:=by omega
       have c2z:(57343:Int) < hi:=by omega
       clear hout hnum
       go_wp2_with fail
       go_ret2
       exact hfin.out _ _ rfl hg03 hp3
      ·rw [if_neg (by omega)] at hnum
       have HN:=Lib.hid hnum
       have c1z:(55296:Int) ≤ hi:=by omega
       have c2z:(hi:Int) ≤ 57343:=by omega
       have hc3:w3.cell? ⟨p,0,none⟩=some (.string r3):=hp3.cell 0
       have hf3:=hp3.frozen 0
       clear hout hnum c1 c2
       go_wp2_with fail
       refine (cut_u_call r3 w3).mono ?_
       rintro e w3' ⟨rfl,hw3⟩
       obtain rfl:w3=w3':=hw3.symm
       by_cases hu:r3.data.toList.take 2=[92,117]
       ·rw [if_pos hu,decide_eq_true hu]
        obtain ⟨r4,hr4⟩:∃ r4:ByteArray,r4=⟨(r3.data.toList.drop 2).toArray⟩:=⟨_,rfl⟩
        have hl4:r4.data.toList=r3.data.toList.drop 2:=by rw [hr4]
        rw [← hr4]
        have hlow:lowL hi r3.data.toList=(match hexL r4.data.toList with
          | none=>none
          | some lo=>if pairOk hi lo then some ((pairOf hi lo).toNat,r4.data.toList.drop 4) else none):=by
         unfold lowL
         rw [if_pos hu,hl4,List.drop_drop]
         all_goals (cases hexL (r3.data.toList.drop 2) <;> rfl)
        rw [hlow] at HN
        have hg4:=grown_trans hg03 (grown_set w3 p 0 (.string r4))
        have h4:UWB n (w3.setCell ⟨p,0,none⟩ (.string r4)) aT aQ:=h3.to (grown_below (grown_set w3 p 0 (.string r4)) hn hp3.lt)
        have hp4:=hp3.put r4
        clear hr4 hl4 hlow hu
        go_wp2_with fail
        clear hc3 hf3 h3 hp3 hg03
        generalize w3.setCell ⟨p,0,none⟩ (.string r4)=w4 at hg4 h4 hp4 ⊢
        refine (utf_hexA r4 p w4 h4 hp4).mono ?_
        rintro e w5 ⟨hg5,hm5⟩
        have hg05:=grown_trans hg4 hg5
        have h5:UWB n w5 aT aQ:=h4.to (grown_below hg5 hn hp4.lt)
        have hQ:=h5.uw.hQ
        clear hg5 hg4 h4 hp4
        cases hh:hexL r4.data.toList with
        | none =>
         rw [hh] at hm5
         subst hm5
         have hfin:∀ e w',e=.returned (.tuple #[.int .i32 0,errV aQ]) → w.grownBy w' (some p) → EscPost aQ p s w e w':=fun e w' he hg=>⟨hg,by
          rw [HN.out,hh]
          exact he⟩
         have hfin:=Lib.hid hfin
         clear hh
         go_wp2_with fail
         go_ret2
         exact hfin.out _ _ rfl hg05
        | some lo =>
         rw [hh] at hm5
         obtain ⟨rfl,hp5⟩:=hm5
         have hx5:=extract_list r4 4
         generalize r4.extract 4 r4.size=r5 at hp5 hx5
         have hlo:=hexL_lt hh
         have hnum:escL s.data.toList=if pairOk hi lo then some ((pairOf hi lo).toNat,r5.data.toList) else none:=by rw [HN.out,hh,hx5]
         have HP:=Lib.hid (fun w=>utf_Pair hi lo (by omega) (by omega) w)
         have z1:(0:Int) ≤ hi ∧ (hi:Int) < 65536:=by omega
         have z2:(0:Int) ≤ lo ∧ (lo:Int) < 65536:=by omega
         obtain ⟨z1a,z1b⟩:=z1
         obtain ⟨z2a,z2b⟩:=z2
         clear HN hh hx5 hlt hlo
         go_wp2_with fail
         refine (HP.out _).mono ?_
         rintro e w6 ⟨rfl,rfl⟩
         by_cases hp:pairOk hi lo=true
         ·rw [if_pos hp] at hnum
          have hr:=pair_range hp
          have hfin:∀ e w',e=.returned (.tuple #[.int .i32 (pairOf hi lo),.nilIface]) → w.grownBy w' (some p) → Rd w' p r5 → EscPost aQ p s w e w':=fun e w' he hg hr'=>⟨hg,by
           rw [hnum]
           refine ⟨?_,hr'⟩
           rw [he,Int.toNat_of_nonneg (by omega)]⟩
          have hfin:=Lib.hid hfin
          rw [hp]
          generalize pairOf hi lo=v at hfin ⊢
          clear hnum HP z1a z1b z2a z2b hr hp
          go_wp2_with fail
          go_ret2
          exact hfin.out _ _ rfl hg05 hp5
         ·have hpf:pairOk hi lo=false:=by simpa using hp
          rw [if_neg hp] at hnum
          have hfin:∀ e w',e=.returned (.tuple #[.int .i32 0,errV aQ]) → w.grownBy w' (some p) → EscPost aQ p s w e w':=fun e w' he hg=>⟨hg,by
           rw [hnum]
           exact he⟩
          have hfin:=Lib.hid hfin
          rw [hpf]
          generalize pairOf hi lo=v
          clear hnum HP z1a z1b z2a z2b hp hpf
          go_wp2_with fail
          go_quiet (fail)
          go_wp2_with fail
          go_ret2
          exact hfin.out _ _ rfl (grown_trans hg05 (below_grown (below_drewN (Below.refl _ _) _) _))
       ·rw [if_neg hu,decide_eq_false hu]
        have hlow:lowL hi r3.data.toList=none:=by
         unfold lowL
         rw [if_neg hu]
        rw [hlow] at HN
        have hfin:∀ e w',e=.returned (.tuple #[.int .i32 0,errV aQ]) → w.grownBy w' (some p) → EscPost aQ p s w e w':=fun e w' he hg=>⟨hg,by
         rw [HN.out]
         exact he⟩
        have hfin:=Lib.hid hfin
        have hQ:=h3.uw.hQ
        clear hlow hu
        go_wp2_with fail
        go_quiet (fail)
        go_wp2_with fail
        go_ret2
        exact hfin.out _ _ rfl (grown_trans hg03 (below_grown (below_drewN (Below.refl _ _) _) _))
   ·have hfin:∀ e w',e=.returned (.tuple #[.int .i32 0,errV aQ]) → w.grownBy w' (some p) → EscPost aQ p s w e w':=fun e w' he hg=>⟨hg,by
     rw [HL.out,escL_none _ hs,if_neg hu]
     exact he⟩
    have hfin:=Lib.hid hfin
    have hu2:((c.toNat:Int) != 117)=true:=by rw [bne_iff_ne]; omega
    clear hs hu
    generalize c.toNat=k at hlk hu2 ⊢
    go_wp2_with fail
    go_quiet (fail)
    go_wp2_with fail
    go_ret2
    exact hfin.out _ _ rfl (grown_trans hg2 (below_grown (below_drewN (Below.refl _ _) _) _))
end Go.Proofs.YtfckekaegjjmkaaGreatDoor
namespace Go.Proofs.YtfckekaegjjmkaaGreatDoor
open Go.RowKit Go.Shelf

def NextPost (aT aQ:Addr) (p:Nat) (s:ByteArray) (w:World) (e:Ending) (w':World):Prop:=
 w.grownBy w' (some p) ∧ match nextL s.data.toList with
  | .error b=>e=.returned (.tuple #[.int .i32 0,.bool false,errV (if b then aT else aQ)])
  | .ok (none,r)=>e=.returned (.tuple #[.int .i32 0,.bool false,.nilIface]) ∧ Rd w' p ⟨r.toArray⟩
  | .ok (some x,r)=>e=.returned (.tuple #[.int .i32 (x:Int),.bool true,.nilIface]) ∧ Rd w' p ⟨r.toArray⟩

theorem decodeGo_list {s:ByteArray} (h:s.size ≠ 0):Lib.decodeGo s=Lib.decodeL s.data.toList:=by
 unfold Lib.decodeGo
 rw [if_neg h]
 exact (Lib.decodeL_drop s 0).symm
theorem list_ne {s:ByteArray} (h:s.size ≠ 0):s.data.toList ≠ []:=fun e=>h (by
 have:=congrArg List.length e
 simpa using this)

set_option maxHeartbeats 4000000 in
set_option maxRecDepth 100000 in
theorem utf_next {n:Nat} {aT aQ:Addr} (s:ByteArray) (p:Nat) (w:World) (h:UWB n w aT aQ) (hn:n ≤ p) (hp:Rd w p s) :
  Calls Tryz.prog 217 #[.pointer (some ⟨p,0,none⟩)] w (NextPost aT aQ p s w):=by
 have hc:w.cell? ⟨p,0,none⟩=some (.string s):=hp.cell 0
 have hfz:=hp.frozen 0
 have HF:=Lib.hid (utf_first s p w h.uw hp)
 unfold firstV at HF
 by_cases h0:s.size=0
 ·rw [if_pos h0] at HF
  have hfin:∀ e w',e=.returned (.tuple #[.int .i32 0,.bool false,errV aQ]) → w.grownBy w' (some p) → NextPost aT aQ p s w e w':=fun e w' he hg=>⟨hg,by
   rw [str_empty h0]
   exact he⟩
  have hfin:=Lib.hid hfin
  clear hc hfz h0 h hp
  go_enter Tryz.func217,Tryz.ntmps217
  go_wp2_with fail
  refine HF.out.mono ?_
  rintro e w1 ⟨rfl,hb⟩
  go_wp2_with fail
  go_ret3
  exact hfin.out _ _ rfl (below_grown hb _)
 ·rw [if_neg h0] at HF
  have hdec:=decodeGo_list h0
  have hle:=Lib.decodeL_le _ (list_ne h0)
  have hge:=Lib.decodeL_width s.data.toList
  have hru:=Lib.decodeL_rune s.data.toList
  have hex:=extract_list s (Lib.decodeL s.data.toList).2
  have hlen:s.data.toList.length=s.size:=by simp
  rw [hlen] at hle
  have hNL:=nextL_ne (list_ne h0)
  rw [hdec] at HF
  rw [← hex] at hNL
  obtain ⟨⟨c,k⟩,hck⟩:∃ ck,Lib.decodeL s.data.toList=ck:=⟨_,rfl⟩
  rw [hck] at HF hle hge hru hNL
  simp only [] at HF hle hge hru hNL
  rw [hck] at hex
  clear hck hdec hlen h0
  by_cases hbad:(c,k)=(65533,1)
  ·rw [if_pos hbad] at HF hNL
   have hfin:∀ e w',e=.returned (.tuple #[.int .i32 0,.bool false,errV aT]) → w.grownBy w' (some p) → NextPost aT aQ p s w e w':=fun e w' he hg=>⟨hg,by
    rw [hNL]
    exact he⟩
   have hfin:=Lib.hid hfin
   clear hc hfz h hp hNL hbad hex
   go_enter Tryz.func217,Tryz.ntmps217
   go_wp2_with fail
   refine HF.out.mono ?_
   rintro e w1 ⟨rfl,hb⟩
   go_wp2_with fail
   go_ret3
   exact hfin.out _ _ rfl (below_grown hb _)
  ·rw [if_neg hbad] at HF hNL
   have z1:(k:Int) ≤ s.size:=by omega
   have z2:(0:Int) ≤ k:=by omega
   have z3:(c:Int) ≤ 1114111:=by omega
   obtain ⟨r,hr⟩:∃ r,s.extract k s.size=r:=⟨_,rfl⟩
   rw [hr] at hNL
   have HR:=Lib.hid hr
   have HNL:=Lib.hid hNL
   clear hr hbad hex hNL hge hle hru
   go_enter Tryz.func217,Tryz.ntmps217
   go_wp2_with fail
   refine HF.out.mono ?_
   rintro e w1 ⟨rfl,hb⟩
   have h1:UWB n w1 aT aQ:=h.to (hb.mono h.le)
   have hp1:Rd w1 p s:=hp.below hb hp.lt
   have hg1:=below_grown hb (some p)
   have hc1:w1.cell? ⟨p,0,none⟩=some (.string s):=hp1.cell 0
   have hf1:=hp1.frozen 0
   clear hb HF hp h hc hfz
   have hg2:=grown_trans hg1 ((grown_trans (grown_set w1 p 0 (.string r)) (World.grownBy_alloc _ (.cells #[.int .i32 34] 21) (some p))))
   have hp2:Rd ((w1.setCell ⟨p,0,none⟩ (.string r)).alloc (.cells #[.int .i32 34] 21)) p r:=(hp1.put r).alloc _
   have hz:(w1.setCell ⟨p,0,none⟩ (.string r)).heap.size=w1.heap.size:=by simp [World.setCell]
   have hB:Blk ((w1.setCell ⟨p,0,none⟩ (.string r)).alloc (.cells #[.int .i32 34] 21)) w1.heap.size #[.int .i32 34] 21:=by
    have:=Blk.new (w1.setCell ⟨p,0,none⟩ (.string r)) #[.int .i32 34] 21
    rw [hz] at this
    exact this
   have h2:UWB n ((w1.setCell ⟨p,0,none⟩ (.string r)).alloc (.cells #[.int .i32 34] 21)) aT aQ:=h1.to ((grown_below (grown_set w1 p 0 (.string r)) hn hp1.lt).alloc (by rw [hz]; exact h1.le) _)
   go_wp2_with fail
   rw [HR.out]
   clear hc1 hf1 hz h1 hp1 hg1
   generalize (w1.setCell ⟨p,0,none⟩ (.string r)).alloc (.cells #[.int .i32 34] 21)=w2 at hg2 hp2 hB h2 ⊢
   generalize w1.heap.size=b1 at hB ⊢
   refine (utf_isOf c 34 b1 w2 hB).mono ?_
   rintro e w2' ⟨rfl,hw⟩
   obtain rfl:w2=w2':=hw
   by_cases q1:c=34
   ·rw [if_pos q1] at HNL
    have e1:((34:Int) == (c:Int))=true:=by rw [beq_iff_eq]; omega
    rw [e1]
    have hfin:∀ e w',e=.returned (.tuple #[.int .i32 0,.bool false,.nilIface]) → w.grownBy w' (some p) → Rd w' p r → NextPost aT aQ p s w e w':=fun e w' he hg hr=>⟨hg,by
     rw [HNL.out]
     exact ⟨he,hr⟩⟩
    have hfin:=Lib.hid hfin
    clear q1 e1 HNL
    go_wp2_with fail
    go_ret3
    exact hfin.out _ _ rfl hg2 hp2
   ·rw [if_neg q1] at HNL
    have e1:((34:Int) == (c:Int))=false:=by rw [beq_eq_false_iff_ne]; omega
    rw [e1]
    have hQ:=h2.uw.hQ
    by_cases q2:c < 32
    ·rw [if_pos q2] at HNL
     have z4:(c:Int) < 32:=by omega
     have hfin:∀ e w',e=.returned (.tuple #[.int .i32 0,.bool false,errV aQ]) → w.grownBy w' (some p) → NextPost aT aQ p s w e w':=fun e w' he hg=>⟨hg,by
      rw [HNL.out]
      exact he⟩
     have hfin:=Lib.hid hfin
     clear q1 q2 e1 HNL
     go_wp2_with fail
     go_quiet (fail)
     go_wp2_with fail
     go_ret3
     exact hfin.out _ _ rfl (grown_trans hg2 (below_grown (below_drewN (Below.refl _ _) _) _))
    ·rw [if_neg q2] at HNL
     have z4:(32:Int) ≤ c:=by omega
     have hg3:=grown_trans hg2 (World.grownBy_alloc w2 (.cells #[.int .i32 92] 21) (some p))
     have hp3:Rd (w2.alloc (.cells #[.int .i32 92] 21)) p r:=hp2.alloc _
     have hB3:Blk (w2.alloc (.cells #[.int .i32 92] 21)) w2.heap.size #[.int .i32 92] 21:=Blk.new _ _ _
     have h3:UWB n (w2.alloc (.cells #[.int .i32 92] 21)) aT aQ:=h2.to ((Below.refl _ w2).alloc h2.le _)
     clear q1 q2 e1 hQ hg2 hB h2
     go_wp2_with fail
     clear hp2
     generalize w2.alloc (.cells #[.int .i32 92] 21)=w3 at hg3 hp3 hB3 h3 ⊢
     generalize w2.heap.size=b2 at hB3 ⊢
     refine (utf_isOf c 92 b2 w3 hB3).mono ?_
     rintro e w3' ⟨rfl,hw⟩
     obtain rfl:w3=w3':=hw
     by_cases q3:c=92
     ·rw [if_pos q3] at HNL
      have e1:((92:Int) == (c:Int))=true:=by rw [beq_iff_eq]; omega
      rw [e1]
      have HE:=Lib.hid (utf_escaped r p w3 h3 hn hp3)
      clear q3 e1
      go_wp2_with fail
      refine HE.out.mono ?_
      clear HE
      rintro e w4 ⟨hg4,hm4⟩
      have hg04:=grown_trans hg3 hg4
      cases hh:escL r.data.toList with
      | none =>
       rw [hh] at hm4
       subst hm4
       have hfin:∀ e w',e=.returned (.tuple #[.int .i32 0,.bool false,errV aQ]) → w.grownBy w' (some p) → NextPost aT aQ p s w e w':=fun e w' he hg=>⟨hg,by
        rw [HNL.out,hh]
        exact he⟩
       have hfin:=Lib.hid hfin
       clear hh hg4 hg3 hp3 hB3 h3 HNL
       go_wp2_with fail
       go_quiet (fail)
       go_wp2_with fail
       go_ret3
       exact hfin.out _ _ rfl (grown_trans hg04 (below_grown (below_drewN (Below.refl _ _) _) _))
      | some q =>
       obtain ⟨x,r'⟩:=q
       rw [hh] at hm4
       obtain ⟨rfl,hp4⟩:=hm4
       have hfin:∀ e w',e=.returned (.tuple #[.int .i32 x,.bool true,.nilIface]) → w.grownBy w' (some p) → Rd w' p ⟨r'.toArray⟩ → NextPost aT aQ p s w e w':=fun e w' he hg hr=>⟨hg,by
        rw [HNL.out,hh]
        exact ⟨he,hr⟩⟩
       have hfin:=Lib.hid hfin
       clear hh hg4 hg3 hp3 hB3 h3 HNL
       go_wp2_with fail
       go_quiet (fail)
       go_wp2_with fail
       go_ret3
       exact hfin.out _ _ rfl (grown_trans hg04 (below_grown (below_drewN (Below.refl _ _) _) _)) (hp4.below (below_drewN (Below.refl _ _) _) hp4.lt)
     ·rw [if_neg q3] at HNL
      have e1:((92:Int) == (c:Int))=false:=by rw [beq_eq_false_iff_ne]; omega
      rw [e1]
      have hfin:∀ e w',e=.returned (.tuple #[.int .i32 c,.bool true,.nilIface]) → w.grownBy w' (some p) → Rd w' p r → NextPost aT aQ p s w e w':=fun e w' he hg hr=>⟨hg,by
       rw [HNL.out]
       exact ⟨he,hr⟩⟩
      have hfin:=Lib.hid hfin
      clear q3 e1 hB3 h3 HNL
      go_wp2_with fail
      go_quiet (fail)
      go_wp2_with fail
      go_ret3
      exact hfin.out _ _ rfl (grown_trans hg3 (below_grown (below_drewN (Below.refl _ _) _) _)) (hp3.below (below_drewN (Below.refl _ _) _) hp3.lt)
end Go.Proofs.YtfckekaegjjmkaaGreatDoor
namespace Go.Proofs.YtfckekaegjjmkaaGreatDoor
open Go.RowKit Go.Shelf

def SeqW {α:Type} (P:Program) (g:Nat) (lb:Array Value) (encs:α → Array Value) (Mv Kp:World → World → Prop) (Ct:α → Prop) (T:List α → World → Prop) (S Sp:List α → World → Prop) (A0:World → Prop):Prop:=
 ∀ (l:Nat) (J Jx:List α → World → Prop) (W:World),A0 W → (∀ s A B,J s A → Mv A B → J s B) → (∀ s A B,Jx s A → Mv A B → Jx s B) →
  (∀ pre x W1,J pre W1 → T (pre ++ [x]) W1 → YieldAt Fence.wide 7 P l (encs x) W1 fun e W' =>
   (e=.returned (.bool true) ∧ Ct x ∧ J (pre ++ [x]) W' ∧ Kp W1 W') ∨ (e=.returned (.bool false) ∧ Jx (pre ++ [x]) W')) →
  J [] W →
  CallsIn Fence.wide 8 P g (#[.func (.yield l) #[] #[]] ++ lb) W fun e W'=>(∃ v,e=.returned v) ∧ ((∃ xs,S xs W' ∧ J xs W') ∨ (∃ pre,Sp pre W' ∧ Jx pre W'))


theorem wp_rangeFuncW {P:Program} {α:Type} {g:Operand} {ps:Array Tmp} {assign body:Code} {Q:Exit → Act → World → Prop} {a:Act} {w:World}
  {gf:Nat} {lb:Array Value} (hg:a.eval g=.func (.func gf) #[] lb) (eg:∀ args w,(callFunc gf args).run P w=.ok (.enter gf args) w)
  {encs:α → Array Value} {Mv Kp:World → World → Prop} {Ct:α → Prop} {T S Sp:List α → World → Prop} {A0:World → Prop} (hseq:SeqW P gf lb encs Mv Kp Ct T S Sp A0)
  (hMv:∀ (A B:World) (k:Nat) (o:Obj),Mv A B → w.heap.size ≤ k → A.heap[k]? = some o → o.isCells=false → B.heap[k]? = some o)
  (hA0:∀ o o',A0 ((w.alloc o).alloc o'))
  (hKt:∀ {A B C:World},Kp A B → Kp B C → Kp A C) (hKb:∀ (W:World) (l:Nat) (o o':Obj),w.heap.size ≤ l → W.heap[l]? = some o → o.isCells=false → Kp W (W.putObj l o')) (hps:∀ x,(encs x).size=ps.size)
  (I:List α → World → Prop) (Ix:Code → List α → World → Prop) (hI:OwnFrom w.heap.size I) (hIx:∀ c,OwnFrom w.heap.size (Ix c))
  (hIM:∀ s A B,I s A → Mv A B → I s B) (hIxM:∀ c s A B,Ix c s A → Mv A B → Ix c s B) (h0:I [] w) (hCt:∀ pre x W,I (pre ++ [x]) W → Ct x)
  (Ax:Array Value → List α → α → Act → World → Prop) (hAx:∀ pre x a',OwnFrom w.heap.size (fun (_:Unit) W=>Ax a.tmps pre x a' W))
  (hassign:∀ (l:Nat) (pre:List α) (x:α) (W:World) (K:Act → World → Prop),I pre W → T (pre ++ [x]) W → (∀ a' W',KeepsFrom w.heap.size W W' → Kp W W' → I pre W' → Ax a.tmps pre x a' W' → K a' W') →
   assign.wpIn (Fence.wide.inRound l) 7 P (Exit.then K (fun _ _ _=>False)) { tmps:=(ps.zip (encs x)).foldl (fun t (p,v)=>t.setIfInBounds p v) a.tmps,defers:=[] } W)
  (hbody:∀ (l:Nat) (pre:List α) (x:α) (a':Act) (W:World),w.heap.size ≤ l → (∃ r,W.heap[l]? = some (.loop r)) → I pre W → Ax a.tmps pre x a' W → body.wpIn (Fence.wide.inRound l) 7 P (ownPostG w.heap.size Kp I Ix (pre ++ [x]) W) a' W)
  (hS:OwnFrom w.heap.size S) (hSp:OwnFrom w.heap.size Sp)
  (hdone:∀ (D:Nat) (xs:List α) (W:World),w.heap.size ≤ D → S xs W → I xs W → W.heap[D]? = some (.deferred (some [])) → Q .normal { a with defers:={ target:=.collected D,args:=#[] } :: a.defers } W)
  (hstop:∀ (D:Nat) (c:Code) (pre:List α) (W:World),w.heap.size ≤ D → Sp pre W → Ix c pre W → W.heap[D]? = some (.deferred (some [])) → c.wp P Q { a with defers:={ target:=.collected D,args:=#[] } :: a.defers } W) :
  (Code.rangeFunc g ps assign body).wp P Q a w:=by
 refine (wpIn_wide (n:=9)).1 ?_
 refine wpIn_rangeFunc ?_
 intro fn hfn
 rw [show Fence.wide.round=none from rfl]
 obtain ⟨rec,hrec⟩:∃ rec:LoopState → Option Code → Loop,rec=fun st pe=>{ state:=st,pending:=pe,fn,tmps:=a.tmps,params:=ps,assign,body,defers:=w.heap.size }:=⟨_,rfl⟩
 obtain ⟨W1,hW1⟩:∃ W1,(w.alloc (.deferred (some []))).alloc (.loop (rec .ready none))=W1:=⟨_,rfl⟩
 have hL1:W1.heap[w.heap.size + 1]? = some (.loop (rec .ready none)):=by
  have h:=World.alloc_heap_new (w.alloc (.deferred (some []))) (.loop (rec .ready none))
  rw [World.size_alloc] at h
  rw [← hW1]
  exact h
 have hK1:W1.heap[w.heap.size]? = some (.deferred (some [])):=by
  rw [← hW1]
  exact (Below.heap_alloc _ _ _ (by simp)).trans (World.alloc_heap_new w _)
 have hI1:I [] W1:=by rw [← hW1]; exact hI.alloc _ (hI.alloc _ h0)
 have hA1:A0 W1:=by rw [← hW1]; exact hA0 _ _
 refine ⟨w.heap.size + 1,[{ target:=.collected w.heap.size,args:=#[] }],W1,{ target:=.fn (.func gf) lb,args:=#[.func (.yield (w.heap.size + 1)) #[] #[]] },W1,gf,
  #[.func (.yield (w.heap.size + 1)) #[] #[]] ++ lb,W1,?_,?_,?_,?_,fun _=>by omega,?_⟩
 ·rw [← hW1,hrec]
  exact run_enterLoop_outer _ _ _ _ _
 ·simp only [resolve,hg]
  simp [go_sem]
 ·intro f' _
  exact trivial
 ·simp [invoke,go_sem,eg]
 ·refine (hseq (w.heap.size + 1)
   (fun pre W=>I pre W ∧ W.heap[w.heap.size + 1]? = some (.loop (rec .ready none)) ∧ W.heap[w.heap.size]? = some (.deferred (some [])))
   (fun pre W=>∃ c,Ix c pre W ∧ W.heap[w.heap.size + 1]? = some (.loop (rec .done (some c))) ∧ W.heap[w.heap.size]? = some (.deferred (some [])))
   W1 hA1
   (fun s A B hs hm=>⟨hIM s A B hs.1 hm,hMv A B _ _ hm (by omega) hs.2.1 rfl,hMv A B _ _ hm (by omega) hs.2.2 rfl⟩)
   (fun s A B hs hm=>by
    obtain ⟨c,hc,hl,hk⟩:=hs
    exact ⟨c,hIxM c s A B hc hm,hMv A B _ _ hm (by omega) hl rfl,hMv A B _ _ hm (by omega) hk rfl⟩)
   ?_ ⟨hI1,hL1,hK1⟩).mono ?_
  ·rintro pre x W ⟨hi,hl,hk⟩ hT
   have hy:=run_yield (P:=P) (args:=encs x) hl (by rw [hrec]; exact hps x)
   rw [hrec] at hy
   refine ⟨fn,_,assign,body,hy,roundIn_of_wpIn hfn (hassign _ pre x W _ hi hT ?_)⟩
   intro a' Wa hkfa hkpa hia hax
   have hla:=hkfa.same _ _ (by omega) hl rfl
   have hka:=hkfa.same _ _ (Nat.le_refl _) hk rfl
   have hlt:w.heap.size + 1 < Wa.heap.size:=(Array.getElem?_eq_some_iff.1 hla).1
   refine ⟨_,run_beginRound hla (by rw [hrec]),?_⟩
   have hl2:(Wa.putObj (w.heap.size + 1) (.loop { rec .ready none with state:=.busy })).heap[w.heap.size + 1]? = some (.loop { rec .ready none with state:=.busy }):=World.putObj_heap_same hlt
   have hk2:(Wa.putObj (w.heap.size + 1) (.loop { rec .ready none with state:=.busy })).heap[w.heap.size]? = some (.deferred (some [])):=(World.putObj_heap_other (by omega)).trans hka
   have hw2:Kp Wa (Wa.putObj (w.heap.size + 1) (.loop { rec .ready none with state:=.busy })):=hKb _ _ _ _ (by omega) hla rfl
   refine wpIn_mono (hbody _ pre x a' _ (by omega) ⟨_,hl2⟩ (hI.putObj _ hia (by omega) hla rfl) ((hAx pre x a').putObj (s:=()) _ hax (by omega) hla rfl)) ?_
   have fin:∀ (jump:Option Code) (W3:World),KeepsFrom w.heap.size (Wa.putObj (w.heap.size + 1) (.loop { rec .ready none with state:=.busy })) W3 →
     (Instr.endRound (w.heap.size + 1) jump).run P W3=.ok (.bool jump.isNone) (W3.putObj (w.heap.size + 1) (.loop (rec (if jump.isNone then .ready else .done) jump))) ∧
     W3.heap[w.heap.size + 1]? = some (.loop { rec .ready none with state:=.busy }) ∧
     (W3.putObj (w.heap.size + 1) (.loop (rec (if jump.isNone then .ready else .done) jump))).heap[w.heap.size + 1]? = some (.loop (rec (if jump.isNone then .ready else .done) jump)) ∧
     (W3.putObj (w.heap.size + 1) (.loop (rec (if jump.isNone then .ready else .done) jump))).heap[w.heap.size]? = some (.deferred (some [])):=fun jump W3 hk3=>by
    have hl3:=hk3.same _ _ (by omega) hl2 rfl
    have hr:=run_endRound (P:=P) jump hl3
    rw [hrec] at hr ⊢
    exact ⟨hr,by rw [hrec] at hl3; exact hl3,World.putObj_heap_same (Array.getElem?_eq_some_iff.1 hl3).1,(World.putObj_heap_other (by omega)).trans (hk3.same _ _ (Nat.le_refl _) hk2 rfl)⟩
   rintro e a3 W3 hp
   cases e with
   | normal =>
    obtain ⟨hk3,hkp3,hi3⟩:=hp
    obtain ⟨hr,hl3,hl4,hk4⟩:=fin none W3 hk3
    exact ⟨_,_,hr,.inl ⟨rfl,hCt _ _ _ hi3,⟨hI.putObj _ hi3 (by omega) hl3 rfl,hl4,hk4⟩,hKt hkpa (hKt (hKt hw2 hkp3) (hKb _ _ _ _ (by omega) hl3 rfl))⟩⟩
   | ret =>
    obtain ⟨hk3,hi3⟩:=hp
    obtain ⟨hr,hl3,hl4,hk4⟩:=fin (some .ret) W3 hk3
    exact ⟨_,_,hr,.inr ⟨rfl,.ret,(hIx _).putObj _ hi3 (by omega) hl3 rfl,hl4,hk4⟩⟩
   | exit id =>
    obtain ⟨hk3,hi3⟩:=hp
    obtain ⟨hr,hl3,hl4,hk4⟩:=fin (some (.exit id)) W3 hk3
    exact ⟨_,_,hr,.inr ⟨rfl,.exit id,(hIx _).putObj _ hi3 (by omega) hl3 rfl,hl4,hk4⟩⟩
   | goto t =>
    obtain ⟨hk3,hi3⟩:=hp
    obtain ⟨hr,hl3,hl4,hk4⟩:=fin (some (.goto t)) W3 hk3
    exact ⟨_,_,hr,.inr ⟨rfl,.goto t,(hIx _).putObj _ hi3 (by omega) hl3 rfl,hl4,hk4⟩⟩
   | panic ch=>exact hp.elim
   | outgrown=>exact hp.elim
  ·rintro e W2 ⟨⟨v,rfl⟩,(⟨xs,hs,hi,hl,hk⟩ | ⟨pre,hs,c,hi,hl,hk⟩)⟩
   ·exact ⟨none,_,by have h:=run_endLoop (P:=P) hl (by rw [hrec]; simp); rw [hrec] at h; exact h,hdone _ xs _ (Nat.le_refl _) (hS.putObj _ hs (by omega) hl rfl) (hI.putObj _ hi (by omega) hl rfl) ((World.putObj_heap_other (by omega)).trans hk)⟩
   ·exact ⟨some c,_,by have h:=run_endLoop (P:=P) hl (by rw [hrec]; simp); rw [hrec] at h; exact h,wpIn_wide.2 (hstop _ c pre _ (Nat.le_refl _) (hSp.putObj _ hs (by omega) hl rfl) ((hIx c).putObj _ hi (by omega) hl rfl) ((World.putObj_heap_other (by omega)).trans hk))⟩
end Go.Proofs.YtfckekaegjjmkaaGreatDoor
