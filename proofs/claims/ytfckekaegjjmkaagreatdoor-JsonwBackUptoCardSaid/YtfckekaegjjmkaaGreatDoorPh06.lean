/- The texts UtfF, UtfS, UtfG, put together. -/
import Derived.Test.YtfckekaegjjmkaaGreatDoorPh05
import Derived.Test.YtfckekaegjjmkaaGreatDoorPh03
import Derived.Lib.MapLaws
import Derived.Lib.QuoteLoop
namespace Go.Proofs.YtfckekaegjjmkaaGreatDoor
open Go.RowKit Go.Shelf

def hexv (c:Nat):Option Nat:=if 65 ≤ c ∧ c ≤ 70 then some (c - 55) else if 97 ≤ c ∧ c ≤ 102 then some (c - 87) else if 48 ≤ c ∧ c ≤ 57 then some (c - 48) else none
def hexAcc:List UInt8 → Nat → Option Nat
 | [],n=>some n
 | b :: l,n=>match hexv b.toNat with
  | some d=>hexAcc l (n * 16 + d)
  | none=>none
def hexOf (s:ByteArray):Option Nat:=if s.size < 4 then none else hexAcc (s.data.toList.take 4) 0
def p16 (j:Nat):Nat:=16 ^ j

theorem hexv_lt {c d:Nat} (h:hexv c=some d):d < 16:=by
 unfold hexv at h
 split at h
 ·cases h; omega
 ·split at h
  ·cases h; omega
  ·split at h
   ·cases h; omega
   ·cases h
theorem i32_or16 (n d:Nat) (hn:n < 4096) (hd:d < 16):bits .or .i32 ((n:Int) * 16) (d:Int)=((n * 16 + d:Nat):Int):=by
 have h:=(bits_nat .i32 31 (by decide) wraps_i32 (n * 16) d (by omega) (by omega)).2
 rw [show ((n:Int) * 16)=((n * 16:Nat):Int) by omega,h]
 congr 1
 have:=Nat.two_pow_add_eq_or_of_lt (i:=4) (b:=d) (by omega) n
 rw [show 2 ^ 4 * n=n * 16 by omega] at this
 exact this.symm

theorem take_drop (s:ByteArray) (j:Nat) (hj:j < 4) (hs:4 ≤ s.size):(s.data.toList.take 4).drop j=(s[j]'(by omega)) :: (s.data.toList.take 4).drop (j + 1):=by
 have hl:j < (s.data.toList.take 4).length:=by simp; omega
 rw [List.drop_eq_getElem_cons hl]
 congr 1
 simp [ByteArray.getElem_eq_getElem_data]

set_option maxHeartbeats 2000000 in
set_option maxRecDepth 100000 in
theorem utf_hex_short {aT aQ:Addr} (s:ByteArray) (p:Nat) (w:World) (h:UW w aT aQ) (hp:Blk w p #[.string s] 223) (hs:s.size < 4) :
  Calls Tryz.prog 245 #[.pointer (some ⟨p,0,none⟩)] w fun e w'=>e=.returned (.tuple #[.int .i32 0,.iface 289 (.pointer (some aQ))]) ∧ Below w.heap.size w w':=by
 have hc:w.cell? ⟨p,0,none⟩=some (.string s):=hp.cell 0
 have hQ:=h.hQ
 have hz:(s.size:Int) < 4:=by omega
 clear h
 go_enter Tryz.func245,Tryz.ntmps245
 go_wp2_with fail
 go_quiet (fail)
 go_wp2_with fail
 go_ret2
 exact ⟨rfl,below_drewN (Below.refl _ _) _⟩

set_option maxHeartbeats 4000000 in
set_option maxRecDepth 100000 in
theorem utf_hex {aT aQ:Addr} (s:ByteArray) (p:Nat) (w:World) (h:UW w aT aQ) (hp:Blk w p #[.string s] 223) (hs:4 ≤ s.size) :
  Calls Tryz.prog 245 #[.pointer (some ⟨p,0,none⟩)] w fun e w' =>
   (∃ n:Nat,hexOf s=some n ∧ n < 65536 ∧ e=.returned (.tuple #[.int .i32 (n:Int),.nilIface]) ∧ w'=w.setCell ⟨p,0,none⟩ (.string (s.extract 4 s.size))) ∨
   (hexOf s=none ∧ e=.returned (.tuple #[.int .i32 0,.iface 289 (.pointer (some aQ))]) ∧ Below w.heap.size w w'):=by
 have hc:w.cell? ⟨p,0,none⟩=some (.string s):=hp.cell 0
 have hQ:=h.hQ
 have hz:¬ (s.size:Int) < 4:=by omega
 have hfz:=hp.frozen 0
 obtain ⟨ans,hans⟩:∃ ans,hexOf s=ans:=⟨_,rfl⟩
 have h0:hexAcc ((s.data.toList.take 4).drop 0) 0=ans:=by rw [← hans]; unfold hexOf; rw [if_neg (by omega)]; rfl
 rw [hans]
 have h0:=Lib.hid h0
 clear h hans
 go_enter Tryz.func245,Tryz.ntmps245
 go_wp2_with fail
 go_loopw [4,15] (fun s4 s15 wr=>∃ j n:Nat,j ≤ 4 ∧ n < p16 j ∧ s15=.int .i64 (j:Int) ∧ s4=.int .i32 (n:Int) ∧ wr=w ∧ Hid (hexAcc ((s.data.toList.take 4).drop j) n=ans)) (fun _ i _=>(4 - intOf i).toNat)
 case atStart=>exact ⟨0,0,by omega,by decide,rfl,rfl,rfl,h0⟩
 case round =>
  obtain ⟨j,n,hj,hn,rfl,rfl,rfl,hacc⟩:=hrel
  by_cases hlt:j < 4
  ·have hltz:(j:Int) < 4:=by omega
   have hn4:n < 4096:=by
    have:j=0 ∨ j=1 ∨ j=2 ∨ j=3:=by omega
    rcases this with rfl | rfl | rfl | rfl <;> simp [p16] at hn <;> omega
   have hp16:p16 (j + 1)=16 * p16 j:=by unfold p16; rw [Nat.pow_succ,Nat.mul_comm]
   have hjs:j < s.size:=by omega
   have ha:=hacc.out
   rw [take_drop s j hlt hs] at ha
   unfold hexAcc at ha
   obtain ⟨k,hb⟩:∃ k,s[j].toNat=k:=⟨_,rfl⟩
   have hk:k < 256:=by have:=s[j].toNat_lt; omega
   rw [hb] at ha
   clear hacc h0 hz
   by_cases cA:65 ≤ k ∧ k ≤ 70
   ·have hv:hexv k=some (k - 55):=by unfold hexv; rw [if_pos cA]
    rw [hv] at ha
    have ha:=Lib.hid (show hexAcc ((s.data.toList.take 4).drop (j + 1)) (n * 16 + (k - 55))=ans from ha)
    have hor:bits .or .i32 ((n:Int) * 16) ((k:Int) + 32 - 39 - 48)=((n * 16 + (k - 55):Nat):Int):=by
     rw [show ((k:Int) + 32 - 39 - 48)=((k - 55:Nat):Int) by omega]
     exact i32_or16 n (k - 55) hn4 (by omega)
    have k1:(65:Int) ≤ k:=by omega
    have k2:(k:Int) ≤ 70:=by omega
    have hnn:n * 16 + (k - 55) < p16 (j + 1):=by omega
    go_wp2_with fail
    go_roundw
    case rel=>exact ⟨j + 1,_,by omega,hnn,by go_num,rfl,trivial,ha⟩
    case measure=>simp [intOf]; omega
   ·by_cases cB:97 ≤ k ∧ k ≤ 102
    ·have hv:hexv k=some (k - 87):=by unfold hexv; rw [if_neg cA,if_pos cB]
     rw [hv] at ha
     have ha:=Lib.hid (show hexAcc ((s.data.toList.take 4).drop (j + 1)) (n * 16 + (k - 87))=ans from ha)
     have hor:bits .or .i32 ((n:Int) * 16) ((k:Int) - 39 - 48)=((n * 16 + (k - 87):Nat):Int):=by
      rw [show ((k:Int) - 39 - 48)=((k - 87:Nat):Int) by omega]
      exact i32_or16 n (k - 87) hn4 (by omega)
     have k1:(70:Int) < k:=by omega
     have k2:(97:Int) ≤ k:=by omega
     have k3:(k:Int) ≤ 102:=by omega
     have hnn:n * 16 + (k - 87) < p16 (j + 1):=by omega
     go_wp2_with fail
     go_roundw
     case rel=>exact ⟨j + 1,_,by omega,hnn,by go_num,rfl,trivial,ha⟩
     case measure=>simp [intOf]; omega
    ·by_cases cC:48 ≤ k ∧ k ≤ 57
     ·have hv:hexv k=some (k - 48):=by unfold hexv; rw [if_neg cA,if_neg cB,if_pos cC]
      rw [hv] at ha
      have ha:=Lib.hid (show hexAcc ((s.data.toList.take 4).drop (j + 1)) (n * 16 + (k - 48))=ans from ha)
      have hor:bits .or .i32 ((n:Int) * 16) ((k:Int) - 48)=((n * 16 + (k - 48):Nat):Int):=by
       rw [show ((k:Int) - 48)=((k - 48:Nat):Int) by omega]
       exact i32_or16 n (k - 48) hn4 (by omega)
      have k1:(k:Int) < 65:=by omega
      have k2:(k:Int) < 97:=by omega
      have k3:(48:Int) ≤ k:=by omega
      have k4:(k:Int) ≤ 57:=by omega
      have hnn:n * 16 + (k - 48) < p16 (j + 1):=by omega
      go_wp2_with fail
      go_roundw
      case rel=>exact ⟨j + 1,_,by omega,hnn,by go_num,rfl,trivial,ha⟩
      case measure=>simp [intOf]; omega
     ·have hv:hexv k=none:=by unfold hexv; rw [if_neg cA,if_neg cB,if_neg cC]
      rw [hv] at ha
      have han:ans=none:=ha.symm
      by_cases d1:k < 48
      ·have k1:(k:Int) < 65:=by omega
       have k2:(k:Int) < 97:=by omega
       have k3:(k:Int) < 48:=by omega
       clear ha
       go_wp2_with fail
       go_quiet (fail)
       go_wp2_with fail
       go_ret2
       exact .inr ⟨han,rfl,below_drewN (Below.refl _ _) _⟩
      ·by_cases d2:k < 65
       ·have k1:(k:Int) < 65:=by omega
        have k2:(k:Int) < 97:=by omega
        have k3:(48:Int) ≤ k:=by omega
        have k4:(57:Int) < k:=by omega
        clear ha
        go_wp2_with fail
        go_quiet (fail)
        go_wp2_with fail
        go_ret2
        exact .inr ⟨han,rfl,below_drewN (Below.refl _ _) _⟩
       ·by_cases d3:k < 97
        ·have k1:(65:Int) ≤ k:=by omega
         have k1b:(70:Int) < k:=by omega
         have k2:(k:Int) < 97:=by omega
         have k3:(48:Int) ≤ k:=by omega
         have k4:(57:Int) < k:=by omega
         clear ha
         go_wp2_with fail
         go_quiet (fail)
         go_wp2_with fail
         go_ret2
         exact .inr ⟨han,rfl,below_drewN (Below.refl _ _) _⟩
        ·have k1:(65:Int) ≤ k:=by omega
         have k1b:(70:Int) < k:=by omega
         have k2:(97:Int) ≤ k:=by omega
         have k2b:(102:Int) < k:=by omega
         have k3:(48:Int) ≤ k:=by omega
         have k4:(57:Int) < k:=by omega
         clear ha
         go_wp2_with fail
         go_quiet (fail)
         go_wp2_with fail
         go_ret2
         exact .inr ⟨han,rfl,below_drewN (Below.refl _ _) _⟩
  ·obtain rfl:j=4:=by omega
   have hlist:(s.data.toList.take 4).drop 4=[]:=by simp
   have ha:=hacc.out
   rw [hlist] at ha
   have han:ans=some n:=ha.symm
   have hn6:n < 65536:=hn
   clear hacc h0 ha
   simp only [Int.cast_ofNat_Int]
   go_wp2_with fail
   go_ret2
   exact .inl ⟨n,han,hn6,rfl,rfl⟩
end Go.Proofs.YtfckekaegjjmkaaGreatDoor
namespace Go.Proofs.YtfckekaegjjmkaaGreatDoor
open Go.RowKit Go.Shelf

def signX (c:Nat):Option Nat:=
 if c=34 then some 34 else if c=92 then some 92 else if c=47 then some 47 else if c=98 then some 8 else if c=102 then some 12 else if c=110 then some 10 else if c=114 then some 13 else if c=116 then some 9 else none
def hexL (l:List UInt8):Option Nat:=if l.length < 4 then none else hexAcc (l.take 4) 0
def lowL (hi:Nat) (l:List UInt8):Option (Nat × List UInt8):=
 if l.take 2=[92,117] then
  match hexL (l.drop 2) with
  | none=>none
  | some lo=>if pairOk hi lo then some ((pairOf hi lo).toNat,l.drop 6) else none
 else none
def numL (l:List UInt8):Option (Nat × List UInt8):=
 match hexL l with
 | none=>none
 | some hi=>if hi < 55296 ∨ 57343 < hi then some (hi,l.drop 4) else lowL hi (l.drop 4)
def escL:List UInt8 → Option (Nat × List UInt8)
 | []=>none
 | c :: r=>match signX c.toNat with
  | some x=>some (x,r)
  | none=>if c.toNat=117 then numL r else none
theorem escL_some {c:UInt8} {x:Nat} (r:List UInt8) (h:signX c.toNat=some x):escL (c :: r)=some (x,r):=by
 show (match signX c.toNat with | some x=>some (x,r) | none=>if c.toNat=117 then numL r else none)=_
 rw [h]
theorem escL_none {c:UInt8} (r:List UInt8) (h:signX c.toNat=none):escL (c :: r)=if c.toNat=117 then numL r else none:=by
 show (match signX c.toNat with | some x=>some (x,r) | none=>if c.toNat=117 then numL r else none)=_
 rw [h]
def partOf:Option (Nat × List UInt8) → Except Bool (Option Nat × List UInt8)
 | none=>.error false
 | some (x,r)=>.ok (some x,r)
def nextL (l:List UInt8):Except Bool (Option Nat × List UInt8):=
 if l=[] then .error false
 else if Lib.decodeL l=(65533,1) then .error true
 else if (Lib.decodeL l).1=34 then .ok (none,l.drop (Lib.decodeL l).2)
 else if (Lib.decodeL l).1 < 32 then .error false
 else if (Lib.decodeL l).1=92 then partOf (escL (l.drop (Lib.decodeL l).2))
 else .ok (some (Lib.decodeL l).1,l.drop (Lib.decodeL l).2)

theorem nextL_ne {l:List UInt8} (h:l ≠ []):nextL l=if Lib.decodeL l=(65533,1) then .error true
 else if (Lib.decodeL l).1=34 then .ok (none,l.drop (Lib.decodeL l).2)
 else if (Lib.decodeL l).1 < 32 then .error false
 else if (Lib.decodeL l).1=92 then partOf (escL (l.drop (Lib.decodeL l).2))
 else .ok (some (Lib.decodeL l).1,l.drop (Lib.decodeL l).2):=by
 unfold nextL
 rw [if_neg h]
theorem hexOf_eq (s:ByteArray):hexOf s=hexL s.data.toList:=by
 unfold hexOf hexL
 simp
theorem hexAcc_lt:∀ (l:List UInt8) (n m:Nat),hexAcc l n=some m → m < (n + 1) * 16 ^ l.length
 | [],n,m,h=>by
  cases h
  simp
 | b :: l,n,m,h=>by
  unfold hexAcc at h
  cases hv:hexv b.toNat with
  | none=>rw [hv] at h; cases h
  | some d =>
   rw [hv] at h
   have h1:=hexAcc_lt l (n * 16 + d) m h
   have h2:=hexv_lt hv
   have h3:(n * 16 + d + 1) * 16 ^ l.length ≤ ((n + 1) * 16) * 16 ^ l.length:=Nat.mul_le_mul_right _ (by omega)
   rw [List.length_cons,Nat.pow_succ,Nat.mul_comm (16 ^ l.length) 16,← Nat.mul_assoc]
   omega
theorem hexL_lt {l:List UInt8} {n:Nat} (h:hexL l=some n):n < 65536:=by
 unfold hexL at h
 split at h
 ·cases h
 ·have h1:=hexAcc_lt _ _ _ h
  rw [List.length_take_of_le (by omega)] at h1
  simpa using h1
theorem hexL_len {l:List UInt8} {n:Nat} (h:hexL l=some n):4 ≤ l.length:=by
 unfold hexL at h
 split at h
 ·cases h
 ·omega
theorem pair_range {hi lo:Int} (h:pairOk hi lo=true):65536 ≤ pairOf hi lo ∧ pairOf hi lo ≤ 1114111:=by
 unfold pairOf
 rw [if_pos h]
 simp [pairOk] at h
 omega
theorem lowL_facts {hi:Nat} {l r:List UInt8} {x:Nat} (h:lowL hi l=some (x,r)):r.length < l.length ∧ 65536 ≤ x ∧ x ≤ 1114111:=by
 unfold lowL at h
 split at h
 ·split at h
  ·cases h
  ·rename_i lo hlo
   have hl:=hexL_len hlo
   rw [List.length_drop] at hl
   split at h
   ·rename_i hp
    cases h
    have hr:=pair_range hp
    refine ⟨by rw [List.length_drop]; omega,by omega,by omega⟩
   ·cases h
 ·cases h
def charOk (x:Nat):Prop:=x < 55296 ∨ (57343 < x ∧ x ≤ 1114111)
theorem numL_facts {l r:List UInt8} {x:Nat} (h:numL l=some (x,r)):r.length < l.length ∧ charOk x:=by
 unfold numL at h
 split at h
 ·cases h
 ·rename_i hi hhi
  have hl:=hexL_len hhi
  have hx:=hexL_lt hhi
  split at h
  ·rename_i hc
   cases h
   exact ⟨by rw [List.length_drop]; omega,hc.elim .inl fun h=>.inr (by omega)⟩
  ·have hf:=lowL_facts h
   rw [List.length_drop] at hf
   refine ⟨by omega,?_⟩
   unfold charOk
   omega
theorem signX_le {c x:Nat} (h:signX c=some x):x < 128:=by
 unfold signX at h
 repeat' split at h
 all_goals first | (cases h; omega) | cases h
theorem escL_facts {l r:List UInt8} {x:Nat} (h:escL l=some (x,r)):r.length < l.length ∧ charOk x:=by
 cases l with
 | nil=>cases h
 | cons c t =>
  cases hx:signX c.toNat with
  | some x' =>
   rw [escL_some t hx] at h
   cases h
   have:=signX_le hx
   refine ⟨by simp,?_⟩
   unfold charOk
   omega
  | none =>
   rw [escL_none t hx] at h
   by_cases hu:c.toNat=117
   ·rw [if_pos hu] at h
    have hf:=numL_facts h
    exact ⟨by simp; omega,hf.2⟩
   ·rw [if_neg hu] at h
    cases h
theorem nextL_shorter {l r:List UInt8} {x:Option Nat} (h:nextL l=.ok (x,r)):r.length < l.length:=by
 unfold nextL at h
 split at h
 ·cases h
 ·rename_i hne
  have hw:=Lib.decodeL_width l
  have hl:0 < l.length:=List.length_pos_iff.2 hne
  have hd:(l.drop (Lib.decodeL l).2).length < l.length:=by rw [List.length_drop]; omega
  split at h
  ·cases h
  ·split at h
   ·cases h; exact hd
   ·split at h
    ·cases h
    ·split at h
     ·cases he:escL (l.drop (Lib.decodeL l).2) with
      | none=>rw [he] at h; cases h
      | some q =>
       obtain ⟨x',r'⟩:=q
       rw [he] at h
       cases h
       exact Nat.lt_trans (escL_facts he).1 hd
     ·cases h; exact hd

theorem decodeL_char (l:List UInt8):charOk (Lib.decodeL l).1:=by
 rw [Lib.decodeL_N]
 exact Lib.decodeN_valid _ _ _ _ _ (UInt8.toNat_lt _)
theorem nextL_char {l r:List UInt8} {x:Nat} (h:nextL l=.ok (some x,r)):charOk x:=by
 unfold nextL at h
 split at h
 ·cases h
 ·split at h
  ·cases h
  ·split at h
   ·cases h
   ·split at h
    ·cases h
    ·split at h
     ·cases he:escL (l.drop (Lib.decodeL l).2) with
      | none=>rw [he] at h; cases h
      | some q =>
       obtain ⟨x',r'⟩:=q
       rw [he] at h
       cases h
       exact (escL_facts he).2
     ·cases h
      exact decodeL_char l
theorem charOk_le {x:Nat} (h:charOk x):x ≤ 1114111:=by
 unfold charOk at h
 omega

def UWB (n:Nat) (w:World) (aT aQ:Addr):Prop:=∃ W0:World,W0.heap.size=n ∧ UW W0 aT aQ ∧ Below n W0 w
theorem UWB.of {w:World} {aT aQ:Addr} (h:UW w aT aQ):UWB w.heap.size w aT aQ:=⟨w,rfl,h,Below.refl _ _⟩
theorem UWB.uw {n:Nat} {w:World} {aT aQ:Addr} (h:UWB n w aT aQ):UW w aT aQ:=by
 obtain ⟨W0,rfl,h,hb⟩:=h
 exact h.below hb
theorem UWB.to {n:Nat} {w w':World} {aT aQ:Addr} (h:UWB n w aT aQ) (hb:Below n w w'):UWB n w' aT aQ:=by
 obtain ⟨W0,hz,h,hb0⟩:=h
 exact ⟨W0,hz,h,hb0.trans hb⟩
theorem UWB.le {n:Nat} {w:World} {aT aQ:Addr} (h:UWB n w aT aQ):n ≤ w.heap.size:=by
 obtain ⟨W0,rfl,_,hb⟩:=h
 exact hb.size
abbrev Rd (w:World) (p:Nat) (s:ByteArray):Prop:=Blk w p #[.string s] 223
theorem Rd.put {w:World} {p:Nat} {s:ByteArray} (h:Rd w p s) (s':ByteArray):Rd (w.setCell ⟨p,0,none⟩ (.string s')) p s':=h.set 0 _
end Go.Proofs.YtfckekaegjjmkaaGreatDoor
namespace Go.Proofs.YtfckekaegjjmkaaGreatDoor
open Go.RowKit Go.Shelf

theorem signs_find (k:Nat) (x:Nat) (h:signX k=some x):∃ i,Instr.findNow (.int .u8) (.int .u8 (k:Int)) signsE.toList 0=some (some (i,.int .i32 (x:Int))):=by
 unfold signX at h
 repeat' split at h
 all_goals first | (cases h; subst k; exact ⟨_,rfl⟩) | cases h
theorem signs_miss (k:Nat) (h:signX k=none):Instr.findNow (.int .u8) (.int .u8 (k:Int)) signsE.toList 0=some none:=by
 unfold signX at h
 repeat' split at h
 all_goals first | cases h | skip
 have e:∀ m:Nat,k ≠ m → ((m:Int) == (k:Int))=false ∧ ((k:Int) == (m:Int))=false:=fun m hm=>by
  constructor <;> (rw [beq_eq_false_iff_ne]; omega)
 have e34:=e 34 (by assumption)
 have e92:=e 92 (by assumption)
 have e47:=e 47 (by assumption)
 have e98:=e 98 (by assumption)
 have e102:=e 102 (by assumption)
 have e110:=e 110 (by assumption)
 have e114:=e 114 (by assumption)
 have e116:=e 116 (by assumption)
 simp only [Int.cast_ofNat_Int] at e34 e92 e47 e98 e102 e110 e114 e116
 simp [signsE,Instr.findNow,Instr.sameNow,e34,e92,e47,e98,e102,e110,e114,e116]

theorem signs_look (w:World) (b:Nat) (hm:w.heap[b]? = some (.map signsE 8)) (k x:Nat) (h:signX k=some x) :
  (Instr.lookup 252 (.map (some b)) (.int .u8 (k:Int)) true).run Tryz.prog w=.ok (.tuple #[.int .i32 (x:Int),.bool true]) w:=by
 obtain ⟨i,hf⟩:=signs_find k x h
 have h1:(Instr.findKey 5 (.int .u8 (k:Int)) signsE.toList).run Tryz.prog w=.ok (some (i,.int .i32 (x:Int))) w:=MapKept.run_findKey Tryz.underlying5 hf
 have h2:(Instr.checkKey signsE.isEmpty 10000 5 (.int .u8 (k:Int))).run Tryz.prog w=.ok () w:=by
  unfold Instr.checkKey
  simp [run_underlying Tryz.underlying5]
 simp only [Instr.lookup,Sem.run_bind,run_underlying Tryz.underlying252,Result.andThen,MapKept.run_getObj_map hm,h2,h1,Sem.run_pure]
 rfl
theorem signs_lookno (w:World) (b:Nat) (hm:w.heap[b]? = some (.map signsE 8)) (k:Nat) (h:signX k=none) :
  (Instr.lookup 252 (.map (some b)) (.int .u8 (k:Int)) true).run Tryz.prog w=.ok (.tuple #[.int .i32 0,.bool false]) w:=by
 have hf:=signs_miss k h
 have h1:(Instr.findKey 5 (.int .u8 (k:Int)) signsE.toList).run Tryz.prog w=.ok none w:=MapKept.run_findKey Tryz.underlying5 hf
 have h2:(Instr.checkKey signsE.isEmpty 10000 5 (.int .u8 (k:Int))).run Tryz.prog w=.ok () w:=by
  unfold Instr.checkKey
  simp [run_underlying Tryz.underlying5]
 have h3:(zeroValue 21).run Tryz.prog w=.ok (.int .i32 0) w:=by kernel_rfl
 simp only [Instr.lookup,Sem.run_bind,run_underlying Tryz.underlying252,Result.andThen,MapKept.run_getObj_map hm,h2,h1,h3,Sem.run_pure]
 rfl

abbrev errV (a:Addr):Value:=.iface 289 (.pointer (some a))

def HexPost (aQ:Addr) (p:Nat) (s:ByteArray) (w:World) (e:Ending) (w':World):Prop:=
 w.grownBy w' (some p) ∧ match hexL s.data.toList with
  | some n=>e=.returned (.tuple #[.int .i32 (n:Int),.nilIface]) ∧ Rd w' p (s.extract 4 s.size)
  | none=>e=.returned (.tuple #[.int .i32 0,errV aQ])
theorem utf_hexA {n:Nat} {aT aQ:Addr} (s:ByteArray) (p:Nat) (w:World) (h:UWB n w aT aQ) (hp:Rd w p s) :
  Calls Tryz.prog 245 #[.pointer (some ⟨p,0,none⟩)] w (HexPost aQ p s w):=by
 by_cases hs:s.size < 4
 ·refine (utf_hex_short s p w h.uw hp hs).mono ?_
  rintro e w' ⟨rfl,hb⟩
  refine ⟨below_grown hb _,?_⟩
  have e0:hexL s.data.toList=none:=by
   unfold hexL
   rw [if_pos (by simpa using hs)]
  rw [e0]
 ·refine (utf_hex s p w h.uw hp (by omega)).mono ?_
  rintro e w' (⟨n,hx,_,rfl,rfl⟩ | ⟨hx,rfl,hb⟩)
  ·refine ⟨grown_set _ _ _ _,?_⟩
   rw [hexOf_eq] at hx
   rw [hx]
   exact ⟨rfl,hp.put _⟩
  ·refine ⟨below_grown hb _,?_⟩
   rw [hexOf_eq] at hx
   rw [hx]
end Go.Proofs.YtfckekaegjjmkaaGreatDoor
