/- The texts JrE, JsC, JsD, put together. -/
import Derived.Test.YtfckekaegjjmkaaGreatDoorPh22
import Derived.Test.YtfckekaegjjmkaaGreatDoorPh15
namespace Go.Proofs.YtfckekaegjjmkaaGreatDoor
open Go.RowKit Go.Shelf
attribute [local go_sem] Oper.semAt_some

theorem colon_take (t:Tr) (l:List UInt8):colonJ t l=if (takeJ [58] (spJ l)).1=true then .good t (spJ (takeJ [58] (spJ l)).2) else .bad 80:=by
 unfold colonJ takeJ
 cases h:spJ l with
 | nil=>rfl
 | cons c r =>
  by_cases hc:c=58
  ·subst hc
   simp
  ·simp [hc]
theorem spJ_len (l:List UInt8):(spJ l).length ≤ l.length:=by
 unfold spJ
 exact (List.dropWhile_suffix _).length_le
theorem textJ_bad {l:List UInt8} {e:Int} (h:textJ uqJ l=.bad e):e=80:=by
 unfold textJ at h
 split at h
 ·cases h
 ·injection h with h
  exact h.symm
theorem textJ_good {l r:List UInt8} {t:Tr} (h:textJ uqJ l=.good t r):∃ s,t=.nd { zeroO with kind:=5,s:=s } []:=by
 unfold textJ at h
 split at h
 ·injection h with h _
  exact ⟨_,h.symm⟩
 ·cases h
set_option maxHeartbeats 4000000 in
set_option maxRecDepth 100000 in
theorem jr_member {w0:World} {uT uQ:Addr} (hU:UW w0 uT uQ) (p d D:Nat) (s:ByteArray) (w:World) (hb0:Below w0.heap.size w0 w) (hR:RdJ w p s d) (hs:s.size ≤ 1000000000) :
  Calls Tryz.prog 214 #[.pointer (some ⟨p,0,none⟩)] w (ReadJ p d D w s (memberJ uqJ s.data.toList)):=by
 have hk1:=Blk.new w zeroC 27
 have hr1:=hR.alloc (.cells zeroC 27)
 have hb1:Below w.heap.size w (w.alloc (.cells zeroC 27)):=(Below.refl _ w).alloc (Nat.le_refl _) _
 have hplt:=hR.lt
 have hz1:(w.alloc (.cells zeroC 27)).heap.size=w.heap.size + 1:=by simp
 have HT:=jr_text hU p d D s (w.alloc (.cells zeroC 27)) (hb0.trans (hb1.mono hb0.size)) hr1 hs
 have HS:=Lib.hid (fun d s W (h:RdJ W p s d) (hz:s.size ≤ 1000000000)=>jr_space p d s W h hz)
 have HK:=Lib.hid (fun s W (h:RdJ W p s d)=>jr_take p d s ⟨#[58]⟩ W h)
 unfold memberJ bindP
 clear hU hb0
 cases hx:textJ uqJ s.data.toList with
 | bad e =>
  have he:=textJ_bad hx
  subst he
  rw [hx] at HT
  simp only []
  have HT:Hid (Calls Tryz.prog 115 #[.pointer (some ⟨p,0,none⟩)] (w.alloc (.cells zeroC 27)) fun x w'=>(w.alloc (.cells zeroC 27)).grownBy w' (some p) ∧ (x=.returned (.tuple #[.agg zeroC,errJ 80]) ∧ ((80:Int)=60 ∨ (80:Int)=80)) ∧ ∃ s' d',RdJ w' p s' d' ∧ s'.size ≤ s.size):=Lib.hid HT
  clear hx
  go_enter Tryz.func214,Tryz.ntmps214
  go_wp2_with fail
  refine HT.out.mono ?_
  rintro x w3 ⟨hg3,⟨rfl,_⟩,s',d',hr3,hs3⟩
  have hk3:=(blk_gb hk1 hg3 (by omega)).alloc (.cells zeroC 27)
  have hr4:=hr3.alloc (.cells zeroC 27)
  have hg4:w.grownBy (w3.alloc (.cells zeroC 27)) (some p):=grown_of (grown_trans (below_grown hb1 _) hg3) ((Below.refl _ _).alloc (Nat.le_refl _) _)
  go_wp2_with fail
  refine (HS.out d' s' _ hr4 (by omega)).mono ?_
  rintro x w5 ⟨⟨v5,rfl⟩,hg5,hr5⟩
  have hk5:=blk_gb hk3 hg5 (by omega)
  have hg6:=grown_trans hg4 hg5
  unfold errJ
  go_wp2_with fail
  refine (jr_bad _).mono ?_
  rintro e w6 ⟨rfl,rfl⟩
  go_wp2_with (refine wpList_store_row rfl 27 (.tmp 2) (.tmp 20) rfl (w.heap.size) zeroC rfl rfl 27 _ hk5 (by kernel_rfl) rfl (by simp [Value.oneCell']) ?_)
  refine bodyPost_ret (results_cell (T:=27) rfl rfl rfl (blk_row hk5 zeroC) Tryz.underlying27 rfl (by kernel_rfl)) rfl ?_
  have hl:=spJ_len s'.data.toList
  have hsl:s'.data.toList.length=s'.size:=by simp
  exact ⟨grown_at hg6 (grown_row _ _ _) (by omega),⟨rfl,.inr rfl⟩,_,d',blk_row_other hr5 (by omega) _,by rw [bsD_size]; omega⟩
 | good t r =>
  obtain ⟨sx,rfl⟩:=textJ_good hx
  rw [hx] at HT
  simp only []
  have HT:Hid (Calls Tryz.prog 115 #[.pointer (some ⟨p,0,none⟩)] (w.alloc (.cells zeroC 27)) fun x w'=>(w.alloc (.cells zeroC 27)).grownBy w' (some p) ∧ (∃ A n c,x=.returned (.tuple #[.agg #[.int .i64 5,.bool false,.bool false,.string ⟨#[]⟩,.int .i64 0,.int .u64 0,.int .i64 0,.string sx,.slice A n c],.nilIface]) ∧ LAt w' (fun q=>(w.alloc (.cells zeroC 27)).heap.size ≤ q ∧ q < w'.heap.size) D [] (.slice A n c)) ∧ OwnOk { zeroO with kind:=5,s:=sx } ∧ RdJ w' p (bsD r) d ∧ r.length ≤ s.size):=Lib.hid HT
  rw [colon_take]
  have hl1:=spJ_len r
  have hl2:=takeJ_len [58] (spJ r)
  have HK2:=Lib.hid (fun W (h:RdJ W p (bsD (spJ r)) d)=>HK.out (bsD (spJ r)) W h)
  obtain ⟨⟨b,r2⟩,hx2⟩:∃ x,takeJ [58] (spJ r)=x:=⟨_,rfl⟩
  have HK2:Hid (∀ W,RdJ W p (bsD (spJ r)) d → Calls Tryz.prog 182 #[.pointer (some ⟨p,0,none⟩),.string ⟨#[58]⟩] W fun e w'=>e=.returned (.bool b) ∧ W.grownBy w' (some p) ∧ RdJ w' p (bsD r2) d):=Lib.hid (fun W h=>by
   have:=HK2.out W h
   rw [bsD_list,show (⟨#[58]⟩:ByteArray).data.toList=[58] from rfl,hx2] at this
   exact this)
  rw [hx2] at hl2 ⊢
  simp only [] at hl2 ⊢
  clear hx hx2 HK
  cases b with
  | false =>
   simp only [Bool.false_eq_true,if_false]
   go_enter Tryz.func214,Tryz.ntmps214
   go_wp2_with fail
   refine HT.out.mono ?_
   rintro x w3 ⟨hg3,⟨A,n,c,rfl,hly⟩,hot,hr3,hs3⟩
   have hk3:=(blk_gb hk1 hg3 (by omega)).alloc (.cells #[.int .i64 5,.bool false,.bool false,.string ⟨#[]⟩,.int .i64 0,.int .u64 0,.int .i64 0,.string sx,.slice A n c] 27)
   have hr4:=hr3.alloc (.cells #[.int .i64 5,.bool false,.bool false,.string ⟨#[]⟩,.int .i64 0,.int .u64 0,.int .i64 0,.string sx,.slice A n c] 27)
   have hx4:=Blk.new w3 #[.int .i64 5,.bool false,.bool false,.string ⟨#[]⟩,.int .i64 0,.int .u64 0,.int .i64 0,.string sx,.slice A n c] 27
   have hg4:w.grownBy (w3.alloc (.cells #[.int .i64 5,.bool false,.bool false,.string ⟨#[]⟩,.int .i64 0,.int .u64 0,.int .i64 0,.string sx,.slice A n c] 27)) (some p):=grown_of (grown_trans (below_grown hb1 _) hg3) ((Below.refl _ _).alloc (Nat.le_refl _) _)
   have HLY:=Lib.hid hly
   clear hly
   go_wp2_with fail
   refine (HS.out d (bsD r) _ hr4 (by rw [bsD_size]; omega)).mono ?_
   rintro x w5 ⟨⟨v5,rfl⟩,hg5,hr5⟩
   rw [bsD_list] at hr5
   have hk5:=blk_gb hk3 hg5 (by omega)
   have hx5:=blk_gb hx4 hg5 (by have:=hr3.lt; omega)
   have hg6:=grown_trans hg4 hg5
   have hz5:=hg5.size
   go_wp2_with fail
   refine (HK2.out _ hr5).mono ?_
   rintro x w7 ⟨rfl,hgx,hr7⟩
   have hk7:=blk_gb hk5 hgx (by omega)
   have hx7:=blk_gb hx5 hgx (by have:=hr3.lt; omega)
   have hg7:=grown_trans hg6 hgx
   go_wp2_with fail
   refine (jr_bad _).mono ?_
   rintro e w8 ⟨rfl,rfl⟩
   go_wp2_with (refine wpList_store_row rfl 27 (.tmp 2) (.tmp 20) rfl (w.heap.size) zeroC rfl rfl 27 _ hk7 (by kernel_rfl) rfl (by simp [Value.oneCell']) ?_)
   refine bodyPost_ret (results_cell (T:=27) rfl rfl rfl (blk_row hk7 zeroC) Tryz.underlying27 rfl (by kernel_rfl)) rfl ?_
   exact ⟨grown_at hg7 (grown_row _ _ _) (by omega),⟨rfl,.inr rfl⟩,_,d,blk_row_other hr7 (by omega) _,by rw [bsD_size]; omega⟩
  | true =>
   simp only [if_true]
   have hl3:=spJ_len r2
   go_enter Tryz.func214,Tryz.ntmps214
   go_wp2_with fail
   refine HT.out.mono ?_
   rintro x w3 ⟨hg3,⟨A,n,c,rfl,hly⟩,hot,hr3,hs3⟩
   have hk3:=(blk_gb hk1 hg3 (by omega)).alloc (.cells #[.int .i64 5,.bool false,.bool false,.string ⟨#[]⟩,.int .i64 0,.int .u64 0,.int .i64 0,.string sx,.slice A n c] 27)
   have hr4:=hr3.alloc (.cells #[.int .i64 5,.bool false,.bool false,.string ⟨#[]⟩,.int .i64 0,.int .u64 0,.int .i64 0,.string sx,.slice A n c] 27)
   have hx4:=Blk.new w3 #[.int .i64 5,.bool false,.bool false,.string ⟨#[]⟩,.int .i64 0,.int .u64 0,.int .i64 0,.string sx,.slice A n c] 27
   have hg4:w.grownBy (w3.alloc (.cells #[.int .i64 5,.bool false,.bool false,.string ⟨#[]⟩,.int .i64 0,.int .u64 0,.int .i64 0,.string sx,.slice A n c] 27)) (some p):=grown_of (grown_trans (below_grown hb1 _) hg3) ((Below.refl _ _).alloc (Nat.le_refl _) _)
   have HLY:=Lib.hid hly
   clear hly
   go_wp2_with fail
   refine (HS.out d (bsD r) _ hr4 (by rw [bsD_size]; omega)).mono ?_
   rintro x w5 ⟨⟨v5,rfl⟩,hg5,hr5⟩
   rw [bsD_list] at hr5
   have hk5:=blk_gb hk3 hg5 (by omega)
   have hx5:=blk_gb hx4 hg5 (by have:=hr3.lt; omega)
   have hg6:=grown_trans hg4 hg5
   have hz5:=hg5.size
   go_wp2_with fail
   refine (HK2.out _ hr5).mono ?_
   rintro x w7 ⟨rfl,hgx,hr7⟩
   have hk7:=blk_gb hk5 hgx (by omega)
   have hx7:=blk_gb hx5 hgx (by have:=hr3.lt; omega)
   have hg7:=grown_trans hg6 hgx
   go_wp2_with fail
   refine (HS.out d (bsD r2) _ hr7 (by rw [bsD_size]; omega)).mono ?_
   rintro x w8 ⟨⟨v8,rfl⟩,hg8,hr8⟩
   have hk8:=blk_gb hk7 hg8 (by omega)
   have hx8:=blk_gb hx7 hg8 (by have:=hr3.lt; omega)
   have hgA:=grown_trans hg7 hg8
   have hz8:=hg8.size
   go_wp2_with (first | (refine wpList_load_row rfl 27 (.tmp 4) rfl (w3.heap.size) rfl 27 _ (0,0) _ hx8 Tryz.underlying27 rfl (by kernel_rfl) ?_) | (refine wpList_store_row rfl 27 (.tmp 2) (.tmp 24) rfl (w.heap.size) #[.int .i64 5,.bool false,.bool false,.string ⟨#[]⟩,.int .i64 0,.int .u64 0,.int .i64 0,.string sx,.slice A n c] rfl rfl 27 _ hk8 (by kernel_rfl) rfl (by simp [Value.oneCell']) ?_))
   refine bodyPost_ret (results_cell (T:=27) rfl rfl rfl (blk_row hk8 _) Tryz.underlying27 rfl (by kernel_rfl)) rfl ?_
   refine ⟨grown_at hgA (grown_row _ _ _) (by omega),⟨A,n,c,rfl,?_⟩,hot,blk_row_other hr8 (by omega) _,by omega⟩
   obtain ⟨hn0,hn1⟩:=HLY.out.slice
   obtain ⟨A',c',hn1⟩:=hn1
   injection hn1 with _ hn1 _
   subst hn1
   exact LAt.nil _ _ _ _ _
end Go.Proofs.YtfckekaegjjmkaaGreatDoor
namespace Go.Proofs.YtfckekaegjjmkaaGreatDoor
open Go.RowKit Go.Shelf

theorem minus_own (l:List UInt8):∃ s0,l=s0 ++ (minusP l).2 ∧ ∀ c x,c ≠ 45 → minusP (s0 ++ c :: x)=((minusP l).1,c :: x):=by
 unfold minusP
 split
 ·exact ⟨[45],rfl,fun c x _=>rfl⟩
 ·refine ⟨[],rfl,fun c x hc=>?_⟩
  rw [List.nil_append]
  split
  ·rename_i r e
   injection e with e _
   exact absurd e hc
  ·rfl
theorem take_dig (l:List UInt8):∀ c ∈ l.take (digN l),isDig c=true:=takeWhile_all l
theorem whole_own (l:List UInt8):l=(wholeP l).1 ++ (wholeP l).2 ∧ (∀ c ∈ (wholeP l).1,isDig c=true) ∧ ∀ x,(wholeP l).1 ≠ [] → digN x=0 → wholeP ((wholeP l).1 ++ x)=((wholeP l).1,x):=by
 have key:∀ l:List UInt8,(∀ r,l ≠ 48 :: r) → wholeP l=digits l:=fun l h=>by
  unfold wholeP
  split
  ·rename_i r
   exact absurd rfl (h r)
  ·rfl
 by_cases h:∃ r,l=48 :: r
 ·obtain ⟨r,rfl⟩:=h
  refine ⟨rfl,fun c hc=>?_,fun x _ _=>rfl⟩
  rw [List.mem_singleton.1 hc]
  rfl
 ·rw [key l (fun r e=>h ⟨r,e⟩)]
  refine ⟨(List.take_append_drop _ _).symm,take_dig l,fun x hx h0=>?_⟩
  show wholeP (l.take (digN l) ++ x)=(l.take (digN l),x)
  rw [key]
  ·exact digits_all _ _ (take_dig l) h0
  ·intro r e
   cases hq:l.take (digN l) with
   | nil=>exact hx hq
   | cons c q =>
    rw [hq] at e
    injection e with e _
    subst e
    have h2:l=48 :: (q ++ l.drop (digN l)):=by
     conv=>lhs; rw [← List.take_append_drop (digN l) l,hq]
     rfl
    exact h ⟨_,h2⟩
theorem part_own (l:List UInt8):∃ q,l=q ++ (partP l).2 ∧ (∀ x,digN x=0 → (∀ r,x ≠ 46 :: r) → partP (q ++ x)=((partP l).1,x)) ∧ (q=[] ∨ ∃ q',q=46 :: q'):=by
 unfold partP
 split
 ·rename_i r
  split
  ·refine ⟨[],rfl,fun x h0 h=>?_,.inl rfl⟩
   exact part_none h
  ·rename_i hn
   refine ⟨46 :: (digits r).1,?_,fun x h0 h=>?_,.inr ⟨_,rfl⟩⟩
   ·exact congrArg (46 :: ·) (List.take_append_drop _ _).symm
   ·have h1:=digits_all (digits r).1 x (take_dig r) h0
    show (if (digits ((digits r).1 ++ x)).1=[] then _ else digits ((digits r).1 ++ x))=_
    rw [h1,if_neg hn]
 ·refine ⟨[],rfl,fun x h0 h=>?_,.inl rfl⟩
  exact part_none h
theorem sign_own (l:List UInt8):∃ s0,l=s0 ++ (signP l).2 ∧ ∀ c x,isDig c=true → signP (s0 ++ c :: x)=((signP l).1,c :: x):=by
 unfold signP
 split
 ·exact ⟨[45],rfl,fun c x _=>rfl⟩
 ·exact ⟨[43],rfl,fun c x _=>rfl⟩
 ·refine ⟨[],rfl,fun c x hc=>?_⟩
  rw [List.nil_append]
  split
  ·rename_i r e
   injection e with e _
   rw [e] at hc
   exact absurd hc (by decide)
  ·rename_i r e
   injection e with e _
   rw [e] at hc
   exact absurd hc (by decide)
  ·rfl
theorem power_own {l r:List UInt8} {e:Int} (h:powerP l=some (e,r)):∃ q,l=q ++ r ∧ (∀ m,Stops m → powerP (q ++ m)=some (e,m)) ∧ (q=[] ∨ ∃ c q',q=c :: q' ∧ (c=101 ∨ c=69)):=by
 have none:∀ {e r},some ((0:Int),l)=some (e,r) → ∃ q,l=q ++ r ∧ (∀ m,Stops m → powerP (q ++ m)=some (e,m)) ∧ (q=[] ∨ ∃ c q',q=c :: q' ∧ (c=101 ∨ c=69)):=fun {e r} h=>by
  injection h with h
  injection h with h1 h2
  subst h1 h2
  exact ⟨[],rfl,fun m hm=>power_none (fun c r e=>⟨(hm c r e).2.2.1,(hm c r e).2.2.2⟩),.inl rfl⟩
 unfold powerP at h
 split at h
 ·rename_i c t
  split at h
  ·rename_i hc
   split at h
   ·exact none h
   ·rename_i hd
    split at h
    ·rename_i h4
     injection h with h
     injection h with h1 h2
     obtain ⟨s0,hs,hs2⟩:=sign_own t
     have hds:=List.take_append_drop (digN (signP t).2) (signP t).2
     obtain ⟨ds,hdsE⟩:∃ ds,(digits (signP t).2).1=ds:=⟨_,rfl⟩
     have hdig:∀ c ∈ ds,isDig c=true:=by rw [← hdsE]; exact take_dig _
     have hsp:(signP t).2=ds ++ r:=by rw [← hdsE,← h2]; exact hds.symm
     rw [hdsE] at h1 hd h4
     obtain ⟨d0,dr,rfl⟩:∃ d0 dr,ds=d0 :: dr:=by
      cases ds with
      | nil=>exact absurd rfl hd
      | cons a b=>exact ⟨a,b,rfl⟩
     refine ⟨c :: (s0 ++ (d0 :: dr)),?_,fun m hm=>?_,.inr ⟨c,_,rfl,hc⟩⟩
     ·rw [List.cons_append,List.append_assoc,← hsp,← hs]
     ·have h5:=hs2 d0 (dr ++ m) (hdig d0 (by simp))
      have h6:=digits_all (d0 :: dr) m hdig hm.digN
      rw [List.cons_append] at h6
      rw [List.cons_append,List.append_assoc,List.cons_append]
      unfold powerP
      simp only []
      rw [if_pos hc,h5]
      simp only []
      rw [h6,if_neg hd,if_pos h4,h1]
    ·cases h
  ·exact none h
 ·exact none h
theorem parse_own {l r:List UInt8} {d:Bool × ByteArray × Int} (h:parseD l=some (d,r)):∃ own,own ≠ [] ∧ l=own ++ r ∧ ∀ m,Stops m → parseD (own ++ m)=some (d,m):=by
 unfold parseD at h
 obtain ⟨s0,a1,a2⟩:=minus_own l
 obtain ⟨b1,b2,b3⟩:=whole_own (minusP l).2
 obtain ⟨q,c1,c2,c3⟩:=part_own (wholeP (minusP l).2).2
 split at h
 ·cases h
 rename_i hw
 split at h
 ·cases h
 ·rename_i e r' hp
  split at h
  ·cases h
  ·rename_i dd hmk
   injection h with h
   injection h with h1 h2
   subst h1 h2
   obtain ⟨q2,d1,d2,d3⟩:=power_own hp
   obtain ⟨w,hwE⟩:∃ w,(wholeP (minusP l).2).1=w:=⟨_,rfl⟩
   rw [hwE] at b1 b2 b3 hw hmk
   refine ⟨s0 ++ (w ++ (q ++ q2)),fun e0=>hw (List.append_eq_nil_iff.1 (List.append_eq_nil_iff.1 e0).2).1,?_,fun m hm=>?_⟩
   ·rw [List.append_assoc,List.append_assoc,List.append_assoc,← d1,← c1,← b1,← a1]
   ·have hx2:digN (q2 ++ m)=0 ∧ ∀ r,q2 ++ m ≠ 46 :: r:=by
     rcases d3 with rfl | ⟨c,q',rfl,hc⟩
     ·exact ⟨hm.digN,fun r e=>(hm _ _ e).2.1 rfl⟩
     ·refine ⟨digN_cons_no ?_,fun r e=>?_⟩
      ·rcases hc with rfl | rfl <;> decide
      ·injection e with e _
       rcases hc with rfl | rfl <;> revert e <;> decide
    have hx1:digN (q ++ (q2 ++ m))=0:=by
     rcases c3 with rfl | ⟨q',rfl⟩
     ·exact hx2.1
     ·exact digN_cons_no (by decide)
    obtain ⟨w0,wr,hw0⟩:∃ w0 wr,w=w0 :: wr:=by
     cases w with
     | nil=>exact absurd rfl hw
     | cons a b=>exact ⟨a,b,rfl⟩
    have e1:minusP (s0 ++ (w ++ (q ++ q2)) ++ m)=((minusP l).1,w ++ (q ++ (q2 ++ m))):=by
     have h5:=a2 w0 (wr ++ (q ++ (q2 ++ m))) (fun e=>by
      have h6:=b2 w0 (by rw [hw0]; simp)
      rw [e] at h6
      exact absurd h6 (by decide))
     rw [hw0,List.append_assoc,List.append_assoc,List.append_assoc]
     exact h5
    exact parse_of e1 (b3 _ hw hx1) (c2 _ hx2.1 hx2.2) (d2 m hm) hw hmk
end Go.Proofs.YtfckekaegjjmkaaGreatDoor
namespace Go.Proofs.YtfckekaegjjmkaaGreatDoor
open Go.RowKit Go.Shelf

def GoodS {α:Type} (p:Psr α):Prop:=∀ l a r,p l=.good a r → ∃ own,own ≠ [] ∧ l=own ++ r ∧ ∀ m,Stops m → p (own ++ m)=.good a m
def GoodA {α:Type} (p:Psr α):Prop:=∀ l a r,p l=.good a r → ∃ own,own ≠ [] ∧ l=own ++ r ∧ ∀ m,p (own ++ m)=.good a m
theorem GoodA.s {α:Type} {p:Psr α} (h:GoodA p):GoodS p:=fun l a r hp=>by
 obtain ⟨own,h1,h2,h3⟩:=h l a r hp
 exact ⟨own,h1,h2,fun m _=>h3 m⟩
theorem sp_parts (l:List UInt8):∃ s,l=s ++ spJ l ∧ (∀ c ∈ s,isSp c=true) ∧ ∀ c r,spJ l=c :: r → isSp c=false:=by
 induction l with
 | nil=>exact ⟨[],rfl,fun c h=>(by cases h),fun c r h=>(by cases h)⟩
 | cons a l ih =>
  cases ha:isSp a with
  | false =>
   have e:spJ (a :: l)=a :: l:=sp_cons ha l
   refine ⟨[],e.symm,fun c h=>(by cases h),fun c r h=>?_⟩
   rw [e] at h
   injection h with h _
   rw [← h]
   exact ha
  | true =>
   obtain ⟨s,h1,h2,h3⟩:=ih
   have e:spJ (a :: l)=spJ l:=by
    unfold spJ
    rw [List.dropWhile_cons,ha]
    rfl
   rw [e]
   refine ⟨a :: s,?_,fun c hc=>?_,h3⟩
   ·rw [List.cons_append,← h1]
   ·rcases List.mem_cons.1 hc with rfl | hc
    ·exact ha
    ·exact h2 c hc
theorem sp_skip {s:List UInt8} (h:∀ c ∈ s,isSp c=true) (l:List UInt8):spJ (s ++ l)=spJ l:=by
 induction s with
 | nil=>rfl
 | cons a s ih =>
  have e:spJ (a :: (s ++ l))=spJ (s ++ l):=by
   unfold spJ
   rw [List.dropWhile_cons,h a (by simp)]
   rfl
  rw [List.cons_append,e]
  exact ih (fun c hc=>h c (by simp [hc]))
theorem sp_twice (l:List UInt8):spJ (spJ l)=spJ l:=by
 obtain ⟨s,h1,h2,h3⟩:=sp_parts l
 cases hq:spJ l with
 | nil=>rfl
 | cons c r=>exact sp_cons (h3 c r hq) r
theorem sp_stop {c:UInt8} (h:isSp c=true):isDig c=false ∧ c ≠ 46 ∧ c ≠ 101 ∧ c ≠ 69:=by
 unfold isSp at h
 simp only [Bool.or_eq_true,beq_iff_eq] at h
 rcases h with ((rfl | rfl) | rfl) | rfl <;> decide
theorem stops_sp {s:List UInt8} (h:∀ c ∈ s,isSp c=true) {c:UInt8} (hc:isDig c=false ∧ c ≠ 46 ∧ c ≠ 101 ∧ c ≠ 69) (r:List UInt8):Stops (s ++ c :: r):=by
 cases s with
 | nil=>exact stops_cons hc r
 | cons a s=>exact stops_cons (sp_stop (h a (by simp))) _
section
variable {U:List UInt8 → Option (List UInt8 × List UInt8)} (hU2:∀ l s r,U l=some (s,r) → ∃ own,own ≠ [] ∧ l=own ++ r ∧ ∀ m,U (own ++ m)=some (s,m))
include hU2
theorem text_ownJ:GoodA (textJ U):=fun l a r h=>by
 unfold textJ at h
 split at h
 ·rename_i s r' hu
  injection h with h1 h2
  subst h1 h2
  obtain ⟨own,g1,g2,g3⟩:=hU2 _ _ _ hu
  refine ⟨own,g1,g2,fun m=>?_⟩
  unfold textJ
  rw [g3 m]
 ·cases h
theorem member_own {l r:List UInt8} {k:Tr} (h:memberJ U l=.good k r):spJ r=r ∧ ∃ own,own ≠ [] ∧ l=own ++ r ∧ ∀ m,spJ m=m → memberJ U (own ++ m)=.good k m:=by
 obtain ⟨t,s,h1,h2⟩:=bindP_good h
 obtain ⟨own,g1,g2,g3⟩:=text_ownJ hU2 _ _ _ h1
 unfold colonJ at h2
 obtain ⟨sa,a1,a2,a3⟩:=sp_parts s
 cases hq:spJ s with
 | nil=>rw [hq] at h2; cases h2
 | cons c q =>
  rw [hq] at h2 a1
  simp only [] at h2
  split at h2
  ·rename_i hc
   injection h2 with e1 e2
   obtain ⟨sb,b1,b2,b3⟩:=sp_parts q
   subst e1 e2 hc
   refine ⟨sp_twice q,own ++ (sa ++ 58 :: sb),fun e=>g1 (List.append_eq_nil_iff.1 e).1,?_,fun m hm=>?_⟩
   ·rw [List.append_assoc,List.append_assoc,List.cons_append,← b1,← a1,← g2]
   ·have h3:=g3 (sa ++ 58 :: (sb ++ m))
    rw [List.append_assoc,List.append_assoc,List.cons_append]
    show bindP (textJ U) colonJ _=_
    rw [bindP_of h3]
    unfold colonJ
    rw [sp_skip a2,sp_cons (by decide)]
    simp only [if_true]
    rw [sp_skip b2,hm]
  ·cases h2
omit hU2 in
theorem next_own {en:UInt8} {a L:List Tr} {go:Psr (List Tr)} {s r:List UInt8} (hen:isSp en=false ∧ isDig en=false ∧ en ≠ 46 ∧ en ≠ 101 ∧ en ≠ 69) (h:nextJ en a go s=.good L r)
  (hg:∀ l L r,spJ l=l → go l=.good L r → ∃ own,own ≠ [] ∧ l=own ++ r ∧ ∀ m,go (own ++ m)=.good L m) :
  ∃ own,own ≠ [] ∧ s=own ++ r ∧ (∀ m,Stops (own ++ m)) ∧ ∀ m,nextJ en a go (own ++ m)=.good L m:=by
 unfold nextJ at h
 obtain ⟨sa,a1,a2,a3⟩:=sp_parts s
 cases hq:spJ s with
 | nil=>rw [hq] at h; cases h
 | cons c q =>
  rw [hq] at h a1
  simp only [] at h
  split at h
  ·rename_i hc
   injection h with e1 e2
   subst e1 e2 hc
   refine ⟨sa ++ [c],by simp,by rw [List.append_assoc]; exact a1,fun m=>?_,fun m=>?_⟩
   ·rw [List.append_assoc]
    exact stops_sp a2 hen.2 m
   ·unfold nextJ
    rw [List.append_assoc,sp_skip a2]
    show (match spJ (c :: m) with | []=>PR.bad 80 | x :: r=>if x=c then PR.good a r else if x=44 then go (spJ r) else .bad 80)=_
    rw [sp_cons hen.1]
    simp
  ·rename_i hce
   split at h
   ·rename_i hc
    subst hc
    obtain ⟨sb,b1,b2,b3⟩:=sp_parts q
    obtain ⟨own,g1,g2,g3⟩:=hg _ _ _ (sp_twice q) h
    have hsn:∀ m,spJ (own ++ m)=own ++ m:=fun m=>by
     cases own with
     | nil=>exact absurd rfl g1
     | cons x y=>exact sp_cons (b3 x (y ++ r) g2) _
    refine ⟨sa ++ 44 :: (sb ++ own),by simp,?_,fun m=>?_,fun m=>?_⟩
    ·rw [List.append_assoc,List.cons_append,List.append_assoc,← g2,← b1]
     exact a1
    ·rw [List.append_assoc,List.cons_append]
     exact stops_sp a2 (by decide) _
    ·rw [List.append_assoc,List.cons_append,List.append_assoc]
     unfold nextJ
     rw [sp_skip a2,sp_cons (by decide)]
     simp only []
     rw [if_neg hce,if_pos trivial,sp_skip b2,hsn,g3 m]
   ·cases h
theorem nodes_own {v:Psr Tr} (hv:GoodS v) (mem:Bool) {en:UInt8} (hen:isSp en=false ∧ isDig en=false ∧ en ≠ 46 ∧ en ≠ 101 ∧ en ≠ 69):∀ (f:Nat) (acc:List Tr),∀ l L r,spJ l=l → nodesJ U v mem en f acc l=.good L r → ∃ own,own ≠ [] ∧ l=own ++ r ∧ ∀ m,nodesJ U v mem en f acc (own ++ m)=.good L m
 | 0,acc,l,L,r,_,h=>by cases h
 | f + 1,acc,l,L,r,hsp,h=>by
  rw [nodesJ] at h ⊢
  cases mem with
  | false =>
   rw [if_neg (by simp)] at h ⊢
   obtain ⟨t,s,h1,h2⟩:=bindP_good h
   obtain ⟨own,g1,g2,g3⟩:=hv _ _ _ h1
   obtain ⟨own2,k1,k2,k3,k4⟩:=next_own hen h2 (nodes_own hv false hen f (acc ++ [t]))
   refine ⟨own ++ own2,fun e=>g1 (List.append_eq_nil_iff.1 e).1,by rw [List.append_assoc,← k2,← g2],fun m=>?_⟩
   rw [List.append_assoc,bindP_of (g3 _ (k3 m)),k4 m]
  | true =>
   rw [if_pos rfl] at h ⊢
   obtain ⟨k,s0,h0,h⟩:=bindP_good h
   obtain ⟨t,s,h1,h2⟩:=bindP_good h
   obtain ⟨n1,own0,n2,n3,n4⟩:=member_own hU2 h0
   obtain ⟨own,g1,g2,g3⟩:=hv _ _ _ h1
   obtain ⟨own2,k1,k2,k3,k4⟩:=next_own hen h2 (nodes_own hv true hen f (acc ++ [k,t]))
   have hns:∀ m,spJ (own ++ m)=own ++ m:=fun m=>by
    cases own with
    | nil=>exact absurd rfl g1
    | cons x y =>
     obtain ⟨_,_,_,b3⟩:=sp_parts s0
     rw [n1] at b3
     exact sp_cons (b3 x (y ++ s) g2) _
   refine ⟨own0 ++ (own ++ own2),fun e=>n2 (List.append_eq_nil_iff.1 e).1,by rw [List.append_assoc,List.append_assoc,← k2,← g2,← n3],fun m=>?_⟩
   rw [List.append_assoc,List.append_assoc,bindP_of (n4 _ (hns _)),bindP_of (g3 _ (k3 m)),k4 m]
theorem list_own {v:Psr Tr} (hv:GoodS v) (mem:Bool) {en:UInt8} (hen:isSp en=false ∧ isDig en=false ∧ en ≠ 46 ∧ en ≠ 101 ∧ en ≠ 69) (F:Nat):GoodA (listJ U v mem en F):=fun l L r h=>by
 unfold listJ at h
 obtain ⟨sa,a1,a2,a3⟩:=sp_parts l
 have key:∀ q,spJ l=q → nodesJ U v mem en F [] q=.good L r → (∀ c x,q=c :: x → c ≠ en) → ∃ own,own ≠ [] ∧ l=own ++ r ∧ ∀ m,listJ U v mem en F (own ++ m)=.good L m:=fun q hq hn hne=>by
  have hqq:spJ q=q:=by rw [← hq]; exact sp_twice l
  obtain ⟨own,g1,g2,g3⟩:=nodes_own hU2 hv mem hen F [] q L r hqq hn
  refine ⟨sa ++ own,fun e=>g1 (List.append_eq_nil_iff.1 e).2,by rw [List.append_assoc,← g2,← hq]; exact a1,fun m=>?_⟩
  have hg:=g3 m
  unfold listJ
  rw [List.append_assoc,sp_skip a2]
  cases own with
  | nil=>exact absurd rfl g1
  | cons x y =>
   rw [List.cons_append] at hg g2 ⊢
   rw [sp_cons (a3 x (y ++ r) (hq.trans g2))]
   simp only []
   rw [if_neg (hne x _ g2),hg]
 cases hq:spJ l with
 | nil =>
  rw [hq] at h
  exact key [] hq h (fun c x e=>by cases e)
 | cons c q =>
  rw [hq] at h
  simp only [] at h
  split at h
  ·rename_i hc
   injection h with e1 e2
   subst e1 e2 hc
   rw [hq] at a1
   refine ⟨sa ++ [c],by simp,by rw [List.append_assoc]; exact a1,fun m=>?_⟩
   unfold listJ
   rw [List.append_assoc,sp_skip a2]
   show (match spJ (c :: m) with | []=>nodesJ U v mem c F [] [] | x :: r=>if x=c then PR.good [] r else nodesJ U v mem c F [] (x :: r))=_
   rw [sp_cons hen.1]
   simp
  ·rename_i hne
   exact key (c :: q) hq h (fun c' x e=>by injection e with e _; rw [← e]; exact hne)
omit hU2 in
theorem word_own (w:List UInt8) (hw:w ≠ []) (t:Tr):GoodA (wordJ w t):=fun l a r h=>by
 unfold wordJ at h
 split at h
 ·rename_i e
  injection h with e1 e2
  subst e1 e2
  refine ⟨w,hw,by conv=>{ lhs; rw [← List.take_append_drop w.length l,e] },fun m=>?_⟩
  unfold wordJ
  rw [List.take_left' rfl,if_pos rfl,List.drop_left' rfl]
 ·cases h
omit hU2 in
theorem num_own:GoodS numJ:=fun l a r h=>by
 unfold numJ at h
 split at h
 ·rename_i d r' hp
  injection h with e1 e2
  subst e1 e2
  obtain ⟨own,g1,g2,g3⟩:=parse_own hp
  refine ⟨own,g1,g2,fun m hm=>?_⟩
  unfold numJ
  rw [g3 m hm]
 ·cases h
theorem body_own {sub:Option (Psr Tr)} (hs:∀ v,sub=some v → GoodS v) (F:Nat):GoodS (bodyJ U sub F):=fun l a r h=>by
 cases l with
 | nil=>cases h
 | cons c l =>
  have go:∀ p:Psr Tr,GoodS p → (∀ x,bodyJ U sub F (c :: x)=p (c :: x)) → ∃ own,own ≠ [] ∧ c :: l=own ++ r ∧ ∀ m,Stops m → bodyJ U sub F (own ++ m)=.good a m:=fun p hp hb=>by
   rw [hb] at h
   obtain ⟨own,g1,g2,g3⟩:=hp _ _ _ h
   cases own with
   | nil=>exact absurd rfl g1
   | cons x y =>
    have hx:x=c:=by injection g2 with e _; exact e.symm
    subst hx
    exact ⟨x :: y,g1,g2,fun m hm=>by rw [List.cons_append,hb]; exact g3 m hm⟩
  have lst:∀ (mem:Bool) (en:UInt8) (k:Int) (v:Psr Tr),(isSp en=false ∧ isDig en=false ∧ en ≠ 46 ∧ en ≠ 101 ∧ en ≠ 69) → GoodS v → (∀ x,bodyJ U sub F (c :: x)=bindP (listJ U v mem en F) (fun L=>pureP (listT k L)) x) → ∃ own,own ≠ [] ∧ c :: l=own ++ r ∧ ∀ m,Stops m → bodyJ U sub F (own ++ m)=.good a m:=fun mem en k v hen hv hb=>by
   rw [hb] at h
   obtain ⟨L,s,h1,h2⟩:=bindP_good h
   have h2:PR.good (listT k L) s=.good a r:=h2
   injection h2 with e1 e2
   subst e1 e2
   obtain ⟨own,g1,g2,g3⟩:=list_own hU2 hv mem hen F _ _ _ h1
   refine ⟨c :: own,by simp,by rw [List.cons_append,← g2],fun m _=>?_⟩
   rw [List.cons_append,hb,bindP_of (g3 m)]
   rfl
  by_cases c1:c=91
  ·subst c1
   cases sub with
   | none=>cases h
   | some v=>exact lst false 93 7 v (by decide) (hs v rfl) (fun x=>rfl)
  by_cases c2:c=123
  ·subst c2
   cases sub with
   | none=>cases h
   | some v=>exact lst true 125 8 v (by decide) (hs v rfl) (fun x=>rfl)
  by_cases c3:c=34
  ·subst c3
   exact go (textJ U) (text_ownJ hU2).s (fun x=>rfl)
  by_cases c4:c=110
  ·subst c4
   exact go _ (word_own [110,117,108,108] (by simp) nilT).s (fun x=>rfl)
  by_cases c5:c=116
  ·subst c5
   exact go _ (word_own [116,114,117,101] (by simp) (boolT true)).s (fun x=>rfl)
  by_cases c6:c=102
  ·subst c6
   exact go _ (word_own [102,97,108,115,101] (by simp) (boolT false)).s (fun x=>rfl)
  ·exact go numJ num_own (fun x=>by
    unfold bodyJ
    simp only []
    rw [if_neg c1,if_neg c2,if_neg c3,if_neg c4,if_neg c5,if_neg c6])
theorem value_own (F:Nat):∀ d,GoodS (valueJ U F d)
 | 0=>body_own hU2 (fun v h=>by cases h) F
 | d + 1=>body_own hU2 (fun v h=>by injection h with h; rw [← h]; exact value_own F d) F
end
end Go.Proofs.YtfckekaegjjmkaaGreatDoor
