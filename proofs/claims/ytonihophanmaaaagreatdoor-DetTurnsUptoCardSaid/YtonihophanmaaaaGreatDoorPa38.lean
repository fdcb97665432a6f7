/- The texts CrN, CrQ, put together. -/
import Derived.Test.YtonihophanmaaaaGreatDoorPa37
import Derived.Test.YtonihophanmaaaaGreatDoorPa06
namespace Go.Proofs.YtonihophanmaaaaGreatDoor
open Go.RowKit Go.Shelf
attribute [local go_sem] Oper.semAt_some wide_fn wide_depth
set_option maxHeartbeats 8000000 in
set_option maxRecDepth 100000 in
theorem items_open {w0:World} (F d p n nk bS bP bZ size hm ha:Nat) (s0:ByteArray) (hI:ItemC w0 F d) (hp0:w0.heap.size≤p) (hpn:p<nk) (hS:bS≠p) (hP:bP≠p) (hZ:bZ≠p) (hsize:size=1∨size=2) (hs:s0.size≤1000000000) (hF:s0.size<F) (hq0:OkS s0) :
  SeqA Tryz.prog 242 #[.pointer (some ⟨bS,0,none⟩),.pointer (some ⟨bP,0,none⟩),.pointer (some ⟨bZ,0,none⟩)] Ev.enc (MvR p (16 - d) s0.size) (ItemsKp nk bS bP bZ) Ev.isOk (fun pre A W=>ItemsT p (16 - d) A.heap.size d s0.size pre W)
   (ItemsS p (16 - d) s0.size (openP (itemP F d) size F [] s0.data.toList)) (ItemsSp (openP (itemP F d) size F [] s0.data.toList)) (fun W=>ItemsA w0 p (16 - d) bS bP bZ size (hm,31,ha) s0 W∧n≤W.heap.size):=by
 intro l J Jx W hA hJ hJx hY h0
 obtain ⟨⟨hb0,hr0,hS0,hP0,hZ0⟩,hn0⟩:=hA
 obtain ⟨res,hres⟩:∃ res,openP (itemP F d) size F [] s0.data.toList=res:=⟨_,rfl⟩
 rw [hres]
 obtain ⟨dp,hdp⟩:∃ dp,16 - d=dp:=⟨_,rfl⟩
 have HIT:=Lib.hid (fun s W (hb:Below w0.heap.size w0 W) (hR:RdB W p s (16 - d)) (h1:s.size≤1000000000) (h2:s.size<F) (h3:OkS s)=>hI p s W hb hp0 hR h1 h2 h3)
 rw [hdp]at hr0 HIT hY hJ hJx ⊢
 refine callsIn_of_wp Tryz.func242 rfl trivial ?_ rfl
 simp only [Tryz.ntmps242,List.size_toArray,List.length_cons,List.length_nil,Nat.reduceAdd,Nat.reduceSub,Array.replicate_succ,Array.replicate_zero,List.push_toArray,List.append_toArray,List.nil_append,List.cons_append]
 have HY:=Lib.hid hY
 have HJ:=Lib.hid hJ
 have HRES:=Lib.hid hres
 have HO:=Lib.hid (fun w=>cr_isOpen hm 31 ha w)
 have HO:Hid (∀ w:World,Calls Tryz.prog 106 #[.agg #[.int .i64 hm,.int .i64 31,.int .u64 ha]] w fun x w'=>x=.returned (.bool true)∧Below w.heap.size w w'):=HO
 clear hY hJ hJx hI hres hdp
 gi_wp2
 gi_loopw [5] (fun z wr=>∃ (pre:List Ev) (sr:ByteArray) (f:Nat),(∃ z0:Nat,z0<18446744073709551616∧z=.int .u64 z0)∧sr.size+pre.length≤s0.size∧sr.size<f∧Hid (openP (itemP F d) size f (treesE pre) sr.data.toList=res)∧(∀ x∈pre,x.isOk)∧OkS sr∧J pre wr∧Below w0.heap.size w0 wr∧RdB wr p sr dp∧Blk wr bS #[.int .i64 hm,.int .i64 31,.int .u64 ha] 137∧Blk wr bP #[.pointer (some ⟨p,0,none⟩)] 84∧Blk wr bZ #[.int .i64 size] 3∧n≤wr.heap.size) (fun _ wr=>leftN p wr)
 case atStart=>exact ⟨[],s0,F,⟨0,by omega,rfl⟩,by simp,hF,HRES,by simp,hq0,h0,hb0,hr0,hS0,hP0,hZ0,hn0⟩
 case round =>
  obtain ⟨pre,sr,f,⟨z0,hz0,rfl⟩,hsz,hf,hrem,hall,oks,hj,hb,hr,hbS,hbP,hbZ,hnw⟩:=hrel
  clear hb0 hr0 hS0 hP0 hZ0 hn0 h0 HRES
  have hlr:=leftN_of hr
  have zS0:=hbS.cell 0
  have zS1:=hbS.cell 1
  have zS2:=hbS.cell 2
  obtain ⟨f,rfl⟩:∃ g,f=g+1:=⟨f - 1,by omega⟩
  gi_wp2_with fail
  refine (callsIn_wide.2 (HO.out _)).mono ?_
  rintro e w1 ⟨rfl,hbO⟩
  have hj1:=HJ.out _ _ _ hj (mv_below hbO)
  have hb1:=hb.trans (hbO.mono hb.size)
  have hr1:=hr.below hbO hr.lt
  have hbS1:=hbS.below hbO hbS.lt
  have hbP1:=hbP.below hbO hbP.lt
  have hbZ1:=hbZ.below hbO hbZ.lt
  have hnw1:=Nat.le_trans hnw hbO.size
  clear hj hb hr hbS hbP hbZ hnw hbO zS0 zS1 zS2
  have zS0:=hbS1.cell 0
  have zS1:=hbS1.cell 1
  have zS2:=hbS1.cell 2
  gi_wp2_with fail
  refine (callsIn_wide.2 (HO.out _)).mono ?_
  rintro e w2 ⟨rfl,hbO⟩
  have hj2:=HJ.out _ _ _ hj1 (mv_below hbO)
  have hb2:=hb1.trans (hbO.mono hb1.size)
  have hr2:=hr1.below hbO hr1.lt
  have hbS2:=hbS1.below hbO hbS1.lt
  have hbP2:=hbP1.below hbO hbP1.lt
  have hbZ2:=hbZ1.below hbO hbZ1.lt
  have hnw2:=Nat.le_trans hnw1 hbO.size
  clear hj1 hb1 hr1 hbS1 hbP1 hbZ1 hnw1 hbO zS0 zS1 zS2
  have zP:=hbP2.cell 0
  have HE:=Lib.hid (cr_isEnd p dp sr w2 hr2 (by omega))
  gi_wp2_with fail
  refine (callsIn_wide.2 HE.out).mono ?_
  rintro e w3 ⟨hg3,rfl,hr3⟩
  have hj3:=HJ.out _ _ _ hj2 (mv_to hg3 hr3 (end_size (by omega)))
  have hb3:=below_of_grown hb2 hp0 hr2.lt hg3
  have hbS3:=RdB.grown hbS2 hg3 hS
  have hbP3:=RdB.grown hbP2 hg3 hP
  have hbZ3:=RdB.grown hbZ2 hg3 hZ
  have hnw3:=Nat.le_trans hnw2 hg3.size
  clear hj2 hb2 hr2 hbS2 hbP2 hbZ2 hnw2 hg3 zP HE
  by_cases hend:sr.data.toList.head? = some 255
  ·rw [if_pos hend]at hr3
   rw [decide_eq_true hend]
   have hrm:endP (treesE pre) _ sr.data.toList=res:=hrem.out
   rw [endP_yes hend]at hrm
   have hq:ItemsS p dp s0.size res pre w3:=⟨hall,_,hrm.symm,hr3,by
    rw [bs_size,List.length_drop]
    have:sr.data.toList.length=sr.size:=by simp
    omega⟩
   have HQ:=Lib.hid hq
   clear hrm hend hr3 hbS3 hbP3 hbZ3 hb3 hrem hall
   gi_wp2_with fail
   refine bodyPost_ret (results_none rfl _ _ _) rfl ?_
   exact ⟨⟨_,rfl⟩,.inl ⟨_,HQ.out,hj3⟩⟩
  ·rw [if_neg hend]at hr3
   rw [decide_eq_false hend]
   have hrm:endP (treesE pre) (bindP (timesP (itemP F d) size (treesE pre)) (fun l=>openP (itemP F d) size f l)) sr.data.toList=res:=hrem.out
   rw [endP_no hend]at hrm
   have HREM:Hid (remP (itemP F d) (size - 0) (fun l=>openP (itemP F d) size f l) (treesE pre) sr.data.toList=res):=Lib.hid hrm
   clear hrm hend hrem
   have zZ:=hbZ3.cell 0
   gi_wp2_with fail
   gi_loopw [23] (fun z wr=>∃ (j:Nat) (pre2:List Ev) (s2:ByteArray),z=.int .i64 j∧j≤size∧s2.size+j≤sr.size∧s2.size+pre2.length≤s0.size∧Hid (remP (itemP F d) (size - j) (fun l=>openP (itemP F d) size f l) (treesE pre2) s2.data.toList=res)∧(∀ x∈pre2,x.isOk)∧OkS s2∧J pre2 wr∧Below w0.heap.size w0 wr∧RdB wr p s2 dp∧Blk wr bS #[.int .i64 hm,.int .i64 31,.int .u64 ha] 137∧Blk wr bP #[.pointer (some ⟨p,0,none⟩)] 84∧Blk wr bZ #[.int .i64 size] 3∧n≤wr.heap.size) (fun z _=>size - (intOf z).toNat)
   case atStart=>exact ⟨0,pre,sr,rfl,by omega,by omega,hsz,HREM,hall,oks,hj3,hb3,hr3,hbS3,hbP3,hbZ3,hnw3⟩
   case round =>
    obtain ⟨j,pre2,s2,rfl,hjs,hsj,hsz2,hrem2,hall2,oks2,hj4,hb4,hr4,hbS4,hbP4,hbZ4,hnw4⟩:=hrel
    clear HREM hall hj3 hb3 hr3 hbS3 hbP3 hbZ3 hnw3 hsz zZ
    by_cases hjl:j<size
    ·have y4:(j:Int)<size:=by omega
     have zP:=hbP4.cell 0
     have hs2l:s2.data.toList.length=s2.size:=by simp
     have HC:=HIT.out s2 _ hb4 hr4 (by omega) (by omega) oks2
     have hrm:=hrem2.out
     rw [show size - j=(size - (j+1))+1 by omega]at hrm
     cases hit:itemP F d s2.data.toList with
     | bad e =>
      rw [remP_bad hit]at hrm
      rw [hit]at HC
      have HC:Hid (Calls Tryz.prog 68 #[.pointer (some ⟨p,0,none⟩)] wr fun x w'=>wr.grownBy w' (some p)∧(∃ o A n c,x=.returned (.tuple #[nodeV o (.slice A n c),errW e]))∧e≠0∧∃ s',RdB w' p s' dp∧s'.size≤s2.size):=Lib.hid HC
      have HRM:=Lib.hid hrm
      clear hit hrm hrem2
      gi_wp2_with fail
      refine (callsIn_wide.2 HC.out).mono ?_
      rintro e1 w5 ⟨hg5,⟨o,A,m,c,rfl⟩,hne,s',hr5,hs5⟩
      have hj5:=HJ.out _ _ _ hj4 (mv_to hg5 hr5 (by omega))
      obtain ⟨fn,tmps,assign,body,hy,hR⟩:=HY.out pre2 (.no o (.slice A m c) e) wr w5 hj4 (mv_to hg5 hr5 (by omega)) hj5 ⟨by rw [List.length_append,List.length_singleton]; omega,fun xs x hx=>by
       obtain ⟨_,hx⟩:=List.append_inj' hx rfl
       injection hx with hx
       subst hx
       exact ⟨⟨A,m,c,rfl⟩,hne,s',hr5,by omega⟩⟩
      have hend:∀ W,ItemsSp res (pre2++[.no o (.slice A m c) e]) W:=fun _=>.inl ⟨pre2,o,_,e,rfl,HRM.out.symm,hne⟩
      have HEND:=Lib.hid hend
      simp only [Ev.enc]at hy hR
      obtain ⟨ev,hev⟩:∃ ev,errW e=ev:=⟨_,rfl⟩
      rw [hev]at hy ⊢
      obtain ⟨nv,hnv⟩:∃ nv,nodeV o (.slice A m c)=nv:=⟨_,rfl⟩
      rw [hnv]at hy ⊢
      clear hend hj5 HC hr4 hbS4 hbP4 hbZ4 hb4 hev hnv hj4
      gi_wp2_with fail
      refine hR.mono ?_
      rintro e2 w6 (⟨_,hx,_⟩ | ⟨rfl,hx2⟩)
      ·exact hx.elim
      ·gi_wp2_with fail
       refine bodyPost_ret (results_none rfl _ _ _) rfl ?_
       exact ⟨⟨_,rfl⟩,.inr ⟨_,HEND.out _,hx2⟩⟩
     | good t r =>
      have hil:=item_less hit
      rw [remP_good hit]at hrm
      rw [hit]at HC
      have HC:Hid (Calls Tryz.prog 68 #[.pointer (some ⟨p,0,none⟩)] wr fun x w'=>wr.grownBy w' (some p)∧(∃ A n c,x=.returned (.tuple #[nodeV t.own (.slice A n c),.nilIface])∧LAt w' (fun q=>wr.heap.size≤q∧q<w'.heap.size) d t.kids (.slice A n c))∧OwnOk t.own∧RdB w' p (bs r) dp∧(bs r).size≤s2.size):=Lib.hid HC
      have hrs:(bs r).size+1≤s2.size:=by rw [bs_size]; omega
      obtain ⟨rb,hrb⟩:∃ rb,bs r=rb:=⟨_,rfl⟩
      have hrl:r=rb.data.toList:=by rw [← hrb]; rfl
      rw [hrb]at HC hrs
      rw [hrl]at hrm
      have HRM:=Lib.hid hrm
      have oks3:OkS rb:=by
       rw [← hrb]
       obtain ⟨own,e,_⟩:=goodP_item F d _ _ _ hit
       exact oks2.rest e
      clear hit hrm hrem2 hil hrb hrl
      gi_wp2_with fail
      refine (callsIn_wide.2 HC.out).mono ?_
      rintro e1 w5 ⟨hg5,⟨A,m,c,rfl,hly⟩,hot,hr5,_⟩
      have hj5:=HJ.out _ _ _ hj4 (mv_to hg5 hr5 (by omega))
      have hb5:=below_of_grown hb4 hp0 hr4.lt hg5
      have hbS5:=RdB.grown hbS4 hg5 hS
      have hbP5:=RdB.grown hbP4 hg5 hP
      have hbZ5:=RdB.grown hbZ4 hg5 hZ
      have hnw5:=Nat.le_trans hnw4 hg5.size
      obtain ⟨fn,tmps,assign,body,hy,hR⟩:=HY.out pre2 (.ok t (.slice A m c)) wr w5 hj4 (mv_to hg5 hr5 (by omega)) hj5 ⟨by rw [List.length_append,List.length_singleton]; omega,fun xs x hx=>by
       obtain ⟨hx1,hx⟩:=List.append_inj' hx rfl
       injection hx with hx
       subst hx
       refine ⟨⟨A,m,c,rfl⟩,hly,hot,?_⟩
       rw [← hx1]
       omega⟩
      have hall3:∀ x∈pre2++[Ev.ok t (.slice A m c)],x.isOk:=fun x hx=>by
       rcases List.mem_append.1 hx with h | h
       ·exact hall2 x h
       ·rw [List.mem_singleton.1 h]
        exact trivial
      have hts:=treesE_snoc pre2 t (.slice A m c)
      have hlen3:(pre2++[Ev.ok t (.slice A m c)]).length=pre2.length+1:=by simp
      simp only [Ev.enc]at hy
      obtain ⟨nv,hnv⟩:∃ nv,nodeV t.own (.slice A m c)=nv:=⟨_,rfl⟩
      rw [hnv]at hy ⊢
      have HTS:=Lib.hid hts
      clear HC hr4 hbS4 hbP4 hbZ4 hb4 hnv hj4 hly hts hj5
      gi_wp2_with fail
      refine hR.mono ?_
      rintro e2 w6 (⟨rfl,_,hj6,hk1,hk2,hk3,hk4⟩ | ⟨rfl,hx2⟩)
      ·have hr6:RdB w6 p rb dp:=(hk1.block p hpn).trans hr5
       have hbS6:Blk w6 bS _ _:=(hk2 hbS5.lt).trans hbS5
       have hbP6:Blk w6 bP _ _:=(hk3 hbP5.lt).trans hbP5
       have hbZ6:Blk w6 bZ _ _:=(hk4 hbZ5.lt).trans hbZ5
       have hb6:=hb5.trans (hk1.mono (Nat.le_trans hp0 (Nat.le_of_lt hpn)))
       have hnw6:=Nat.le_trans hnw5 hk1.size
       clear hk1 hk2 hk3 hk4 hr5 hbS5 hbP5 hbZ5 hb5
       gi_wp2_with fail
       go_roundw
       case rel=>exact ⟨j+1,_,rb,by go_num,by omega,by omega,by omega,by rw [HTS.out]; exact HRM,hall3,oks3,hj6,hb6,hr6,hbS6,hbP6,hbZ6,hnw6⟩
       case measure=>simp [intOf]; omega
      ·gi_wp2_with fail
       refine bodyPost_ret (results_none rfl _ _ _) rfl ?_
       exact ⟨⟨_,rfl⟩,.inr ⟨_,.inr hall3,hx2⟩⟩
    ·obtain rfl:j=size:=by omega
     have y4:¬ (j:Int)<j:=by omega
     rw [Nat.sub_self]at hrem2
     gi_wp2_with fail
     go_roundw
     case rel=>exact ⟨pre2,s2,f,⟨(z0+1) % 18446744073709551616,by omega,by rw [IntKind.wrap_u64]; rfl⟩,hsz2,by omega,hrem2,hall2,oks2,hj4,hb4,hr4,hbS4,hbP4,hbZ4,hnw4⟩
     case measure=>rw [leftN_of hr4,hlr]; omega
set_option maxHeartbeats 8000000 in
set_option maxRecDepth 100000 in
theorem items_num {w0:World} (F d p n nk bS bP bZ size hm hi ha:Nat) (s0:ByteArray) (hI:ItemC w0 F d) (hp0:w0.heap.size≤p) (hpn:p<nk) (hS:bS≠p) (hP:bP≠p) (hZ:bZ≠p) (hsize:size=1∨size=2) (hs:s0.size≤1000000000) (hF:s0.size<F) (hq0:OkS s0) (hi31:hi≠31) (hha:ha<18446744073709551616) :
  SeqA Tryz.prog 242 #[.pointer (some ⟨bS,0,none⟩),.pointer (some ⟨bP,0,none⟩),.pointer (some ⟨bZ,0,none⟩)] Ev.enc (MvR p (16 - d) s0.size) (ItemsKp nk bS bP bZ) Ev.isOk (fun pre A W=>ItemsT p (16 - d) A.heap.size d s0.size pre W)
   (ItemsS p (16 - d) s0.size (timesP (itemP F d) (size*ha) [] s0.data.toList)) (ItemsSp (timesP (itemP F d) (size*ha) [] s0.data.toList)) (fun W=>ItemsA w0 p (16 - d) bS bP bZ size (hm,hi,ha) s0 W∧n≤W.heap.size):=by
 intro l J Jx W hA hJ hJx hY h0
 obtain ⟨⟨hb0,hr0,hS0,hP0,hZ0⟩,hn0⟩:=hA
 obtain ⟨res,hres⟩:∃ res,timesP (itemP F d) (size*ha) [] s0.data.toList=res:=⟨_,rfl⟩
 rw [hres]
 obtain ⟨dp,hdp⟩:∃ dp,16 - d=dp:=⟨_,rfl⟩
 have HIT:=Lib.hid (fun s W (hb:Below w0.heap.size w0 W) (hR:RdB W p s (16 - d)) (h1:s.size≤1000000000) (h2:s.size<F) (h3:OkS s)=>hI p s W hb hp0 hR h1 h2 h3)
 rw [hdp]at hr0 HIT hY hJ hJx ⊢
 refine callsIn_of_wp Tryz.func242 rfl trivial ?_ rfl
 simp only [Tryz.ntmps242,List.size_toArray,List.length_cons,List.length_nil,Nat.reduceAdd,Nat.reduceSub,Array.replicate_succ,Array.replicate_zero,List.push_toArray,List.append_toArray,List.nil_append,List.cons_append]
 have HY:=Lib.hid hY
 have HJ:=Lib.hid hJ
 have HRES:=Lib.hid hres
 have HO:=Lib.hid (fun w=>cr_isOpen hm hi ha w)
 have yo:((hi:Int) == 31)=false:=by rw [beq_eq_false_iff_ne]; omega
 rw [yo]at HO
 clear hY hJ hJx hI hres hdp
 gi_wp2
 gi_loopw [5] (fun z wr=>∃ (pre:List Ev) (sr:ByteArray) (k:Nat),z=.int .u64 k∧k≤ha∧sr.size+pre.length≤s0.size∧Hid (timesP (itemP F d) (size*(ha - k)) (treesE pre) sr.data.toList=res)∧(∀ x∈pre,x.isOk)∧OkS sr∧J pre wr∧Below w0.heap.size w0 wr∧RdB wr p sr dp∧Blk wr bS #[.int .i64 hm,.int .i64 hi,.int .u64 ha] 137∧Blk wr bP #[.pointer (some ⟨p,0,none⟩)] 84∧Blk wr bZ #[.int .i64 size] 3∧n≤wr.heap.size) (fun _ wr=>leftN p wr)
 case atStart=>exact ⟨[],s0,0,rfl,by omega,by simp,HRES,by simp,hq0,h0,hb0,hr0,hS0,hP0,hZ0,hn0⟩
 case round =>
  obtain ⟨pre,sr,k,rfl,hk,hsz,hrem,hall,oks,hj,hb,hr,hbS,hbP,hbZ,hnw⟩:=hrel
  clear hb0 hr0 hS0 hP0 hZ0 hn0 h0 HRES
  have hlr:=leftN_of hr
  have zS0:=hbS.cell 0
  have zS1:=hbS.cell 1
  have zS2:=hbS.cell 2
  have yk:(k:Int)<18446744073709551616:=by omega
  gi_wp2_with fail
  refine (callsIn_wide.2 (HO.out _)).mono ?_
  rintro e w1 ⟨rfl,hbO⟩
  have hj1:=HJ.out _ _ _ hj (mv_below hbO)
  have hb1:=hb.trans (hbO.mono hb.size)
  have hr1:=hr.below hbO hr.lt
  have hbS1:=hbS.below hbO hbS.lt
  have hbP1:=hbP.below hbO hbP.lt
  have hbZ1:=hbZ.below hbO hbZ.lt
  have hnw1:=Nat.le_trans hnw hbO.size
  clear hj hb hr hbS hbP hbZ hnw hbO zS0 zS1 zS2
  have zS0:=hbS1.cell 0
  have zS1:=hbS1.cell 1
  have zS2:=hbS1.cell 2
  by_cases hlt:k<ha
  ·have y1:(k:Int)<ha:=by omega
   gi_wp2_with fail
   refine (callsIn_wide.2 (HO.out _)).mono ?_
   rintro e w3 ⟨rfl,hbO⟩
   have hj3:=HJ.out _ _ _ hj1 (mv_below hbO)
   have hb3:=hb1.trans (hbO.mono hb1.size)
   have hr3:=hr1.below hbO hr1.lt
   have hbS3:=hbS1.below hbO hbS1.lt
   have hbP3:=hbP1.below hbO hbP1.lt
   have hbZ3:=hbZ1.below hbO hbZ1.lt
   have hnw3:=Nat.le_trans hnw1 hbO.size
   clear hj1 hb1 hr1 hbS1 hbP1 hbZ1 hnw1 hbO zS0 zS1 zS2
   have hrm:=hrem.out
   rw [show size*(ha - k)=size+size*(ha - (k+1)) by
    rw [show ha - k=(ha - (k+1))+1 by omega,Nat.mul_succ]
    omega,times_add]at hrm
   have HREM:Hid (remP (itemP F d) (size - 0) (fun l=>timesP (itemP F d) (size*(ha - (k+1))) l) (treesE pre) sr.data.toList=res):=Lib.hid hrm
   clear hrm hrem
   have zZ:=hbZ3.cell 0
   gi_wp2_with fail
   gi_loopw [23] (fun z wr=>∃ (j:Nat) (pre2:List Ev) (s2:ByteArray),z=.int .i64 j∧j≤size∧s2.size+j≤sr.size∧s2.size+pre2.length≤s0.size∧Hid (remP (itemP F d) (size - j) (fun l=>timesP (itemP F d) (size*(ha - (k+1))) l) (treesE pre2) s2.data.toList=res)∧(∀ x∈pre2,x.isOk)∧OkS s2∧J pre2 wr∧Below w0.heap.size w0 wr∧RdB wr p s2 dp∧Blk wr bS #[.int .i64 hm,.int .i64 hi,.int .u64 ha] 137∧Blk wr bP #[.pointer (some ⟨p,0,none⟩)] 84∧Blk wr bZ #[.int .i64 size] 3∧n≤wr.heap.size) (fun z _=>size - (intOf z).toNat)
   case atStart=>exact ⟨0,pre,sr,rfl,by omega,by omega,hsz,HREM,hall,oks,hj3,hb3,hr3,hbS3,hbP3,hbZ3,hnw3⟩
   case round =>
    obtain ⟨j,pre2,s2,rfl,hjs,hsj,hsz2,hrem2,hall2,oks2,hj4,hb4,hr4,hbS4,hbP4,hbZ4,hnw4⟩:=hrel
    clear HREM hall hj3 hb3 hr3 hbS3 hbP3 hbZ3 hnw3 hsz zZ
    by_cases hjl:j<size
    ·have y4:(j:Int)<size:=by omega
     have zP:=hbP4.cell 0
     have hs2l:s2.data.toList.length=s2.size:=by simp
     have HC:=HIT.out s2 _ hb4 hr4 (by omega) (by omega) oks2
     have hrm:=hrem2.out
     rw [show size - j=(size - (j+1))+1 by omega]at hrm
     cases hit:itemP F d s2.data.toList with
     | bad e =>
      rw [remP_bad hit]at hrm
      rw [hit]at HC
      have HC:Hid (Calls Tryz.prog 68 #[.pointer (some ⟨p,0,none⟩)] wr fun x w'=>wr.grownBy w' (some p)∧(∃ o A n c,x=.returned (.tuple #[nodeV o (.slice A n c),errW e]))∧e≠0∧∃ s',RdB w' p s' dp∧s'.size≤s2.size):=Lib.hid HC
      have HRM:=Lib.hid hrm
      clear hit hrm hrem2
      gi_wp2_with fail
      refine (callsIn_wide.2 HC.out).mono ?_
      rintro e1 w5 ⟨hg5,⟨o,A,m,c,rfl⟩,hne,s',hr5,hs5⟩
      have hj5:=HJ.out _ _ _ hj4 (mv_to hg5 hr5 (by omega))
      obtain ⟨fn,tmps,assign,body,hy,hR⟩:=HY.out pre2 (.no o (.slice A m c) e) wr w5 hj4 (mv_to hg5 hr5 (by omega)) hj5 ⟨by rw [List.length_append,List.length_singleton]; omega,fun xs x hx=>by
       obtain ⟨_,hx⟩:=List.append_inj' hx rfl
       injection hx with hx
       subst hx
       exact ⟨⟨A,m,c,rfl⟩,hne,s',hr5,by omega⟩⟩
      have hend:∀ W,ItemsSp res (pre2++[.no o (.slice A m c) e]) W:=fun _=>.inl ⟨pre2,o,_,e,rfl,HRM.out.symm,hne⟩
      have HEND:=Lib.hid hend
      simp only [Ev.enc]at hy hR
      obtain ⟨ev,hev⟩:∃ ev,errW e=ev:=⟨_,rfl⟩
      rw [hev]at hy ⊢
      obtain ⟨nv,hnv⟩:∃ nv,nodeV o (.slice A m c)=nv:=⟨_,rfl⟩
      rw [hnv]at hy ⊢
      clear hend hj5 HC hr4 hbS4 hbP4 hbZ4 hb4 hev hnv hj4
      gi_wp2_with fail
      refine hR.mono ?_
      rintro e2 w6 (⟨_,hx,_⟩ | ⟨rfl,hx2⟩)
      ·exact hx.elim
      ·gi_wp2_with fail
       refine bodyPost_ret (results_none rfl _ _ _) rfl ?_
       exact ⟨⟨_,rfl⟩,.inr ⟨_,HEND.out _,hx2⟩⟩
     | good t r =>
      have hil:=item_less hit
      rw [remP_good hit]at hrm
      rw [hit]at HC
      have HC:Hid (Calls Tryz.prog 68 #[.pointer (some ⟨p,0,none⟩)] wr fun x w'=>wr.grownBy w' (some p)∧(∃ A n c,x=.returned (.tuple #[nodeV t.own (.slice A n c),.nilIface])∧LAt w' (fun q=>wr.heap.size≤q∧q<w'.heap.size) d t.kids (.slice A n c))∧OwnOk t.own∧RdB w' p (bs r) dp∧(bs r).size≤s2.size):=Lib.hid HC
      have hrs:(bs r).size+1≤s2.size:=by rw [bs_size]; omega
      obtain ⟨rb,hrb⟩:∃ rb,bs r=rb:=⟨_,rfl⟩
      have hrl:r=rb.data.toList:=by rw [← hrb]; rfl
      rw [hrb]at HC hrs
      rw [hrl]at hrm
      have HRM:=Lib.hid hrm
      have oks3:OkS rb:=by
       rw [← hrb]
       obtain ⟨own,e,_⟩:=goodP_item F d _ _ _ hit
       exact oks2.rest e
      clear hit hrm hrem2 hil hrb hrl
      gi_wp2_with fail
      refine (callsIn_wide.2 HC.out).mono ?_
      rintro e1 w5 ⟨hg5,⟨A,m,c,rfl,hly⟩,hot,hr5,_⟩
      have hj5:=HJ.out _ _ _ hj4 (mv_to hg5 hr5 (by omega))
      have hb5:=below_of_grown hb4 hp0 hr4.lt hg5
      have hbS5:=RdB.grown hbS4 hg5 hS
      have hbP5:=RdB.grown hbP4 hg5 hP
      have hbZ5:=RdB.grown hbZ4 hg5 hZ
      have hnw5:=Nat.le_trans hnw4 hg5.size
      obtain ⟨fn,tmps,assign,body,hy,hR⟩:=HY.out pre2 (.ok t (.slice A m c)) wr w5 hj4 (mv_to hg5 hr5 (by omega)) hj5 ⟨by rw [List.length_append,List.length_singleton]; omega,fun xs x hx=>by
       obtain ⟨hx1,hx⟩:=List.append_inj' hx rfl
       injection hx with hx
       subst hx
       refine ⟨⟨A,m,c,rfl⟩,hly,hot,?_⟩
       rw [← hx1]
       omega⟩
      have hall3:∀ x∈pre2++[Ev.ok t (.slice A m c)],x.isOk:=fun x hx=>by
       rcases List.mem_append.1 hx with h | h
       ·exact hall2 x h
       ·rw [List.mem_singleton.1 h]
        exact trivial
      have hts:=treesE_snoc pre2 t (.slice A m c)
      have hlen3:(pre2++[Ev.ok t (.slice A m c)]).length=pre2.length+1:=by simp
      simp only [Ev.enc]at hy
      obtain ⟨nv,hnv⟩:∃ nv,nodeV t.own (.slice A m c)=nv:=⟨_,rfl⟩
      rw [hnv]at hy ⊢
      have HTS:=Lib.hid hts
      clear HC hr4 hbS4 hbP4 hbZ4 hb4 hnv hj4 hly hts hj5
      gi_wp2_with fail
      refine hR.mono ?_
      rintro e2 w6 (⟨rfl,_,hj6,hk1,hk2,hk3,hk4⟩ | ⟨rfl,hx2⟩)
      ·have hr6:RdB w6 p rb dp:=(hk1.block p hpn).trans hr5
       have hbS6:Blk w6 bS _ _:=(hk2 hbS5.lt).trans hbS5
       have hbP6:Blk w6 bP _ _:=(hk3 hbP5.lt).trans hbP5
       have hbZ6:Blk w6 bZ _ _:=(hk4 hbZ5.lt).trans hbZ5
       have hb6:=hb5.trans (hk1.mono (Nat.le_trans hp0 (Nat.le_of_lt hpn)))
       have hnw6:=Nat.le_trans hnw5 hk1.size
       clear hk1 hk2 hk3 hk4 hr5 hbS5 hbP5 hbZ5 hb5
       gi_wp2_with fail
       go_roundw
       case rel=>exact ⟨j+1,_,rb,by go_num,by omega,by omega,by omega,by rw [HTS.out]; exact HRM,hall3,oks3,hj6,hb6,hr6,hbS6,hbP6,hbZ6,hnw6⟩
       case measure=>simp [intOf]; omega
      ·gi_wp2_with fail
       refine bodyPost_ret (results_none rfl _ _ _) rfl ?_
       exact ⟨⟨_,rfl⟩,.inr ⟨_,.inr hall3,hx2⟩⟩
    ·obtain rfl:j=size:=by omega
     have y4:¬ (j:Int)<j:=by omega
     rw [Nat.sub_self]at hrem2
     gi_wp2_with fail
     go_roundw
     case rel=>exact ⟨pre2,s2,k+1,by go_num,by omega,hsz2,hrem2,hall2,oks2,hj4,hb4,hr4,hbS4,hbP4,hbZ4,hnw4⟩
     case measure=>rw [leftN_of hr4,hlr]; omega
  ·obtain rfl:k=ha:=by omega
   have y1:¬ (k:Int)<k:=by omega
   have hrm:timesP (itemP F d) (size*(k - k)) (treesE pre) sr.data.toList=res:=hrem.out
   rw [Nat.sub_self,Nat.mul_zero]at hrm
   have hq:ItemsS p dp s0.size res pre w1:=⟨hall,sr.data.toList,hrm.symm,by rw [bs_of]; exact hr1,by rw [bs_of]; omega⟩
   have HQ:=Lib.hid hq
   clear hrm hq hr1 hbS1 hbP1 hbZ1 hb1 hrem hall
   gi_wp2_with fail
   refine bodyPost_end (results_none rfl _ _ _) rfl ?_
   exact ⟨⟨_,rfl⟩,.inl ⟨_,HQ.out,hj1⟩⟩
end Go.Proofs.YtonihophanmaaaaGreatDoor
namespace Go.Proofs.YtonihophanmaaaaGreatDoor
open Go.RowKit Go.Shelf
theorem set_at (l:List Value) (o:Nat) (v:Value) (h:o<l.length):l.set o v=l.take o++v::l.drop (o+1):=by
 rw [List.set_eq_take_append_cons_drop,if_pos h]
theorem cells_set (g:Nat) (e:TypeId):∀ (vs:List Value) (o:Nat) (w:World) (cur:Array Value),w.heap[g]? = some (.cells cur e (0,0))→o+vs.length≤cur.size →
  ∃ cur':Array Value,(w.setCells g o vs).heap[g]? = some (.cells cur' e (0,0))∧cur'.toList=cur.toList.take o++vs++cur.toList.drop (o+vs.length)
 | [],o,w,cur,h,_=>⟨cur,h,by simp⟩
 | v::r,o,w,cur,h,hl=>by
  rw [List.length_cons]at hl
  have hb:Blk w g cur e:=h
  have h1:(w.setCell ⟨g,o,none⟩ v).heap[g]? = some (.cells (cur.setIfInBounds o v) e (0,0)):=hb.set o v
  obtain ⟨cur',h2,h3⟩:=cells_set g e r (o+1) _ (cur.setIfInBounds o v) h1 (by simp; omega)
  refine ⟨cur',h2,?_⟩
  have ho:o<cur.toList.length:=by simp; omega
  rw [h3,Array.toList_setIfInBounds,set_at _ _ _ ho,List.length_cons]
  have e1:(cur.toList.take o++v::cur.toList.drop (o+1)).take (o+1)=cur.toList.take o++[v]:=by
   rw [List.take_append,List.take_of_length_le (by simp; omega)]
   simp
   rw [show o+1 - min o cur.size=1 by omega]
   rfl
  have e2:(cur.toList.take o++v::cur.toList.drop (o+1)).drop (o+1+r.length)=cur.toList.drop (o+(r.length+1)):=by
   rw [List.drop_append,List.drop_eq_nil_of_le (by simp; omega),List.nil_append]
   rw [show o+1+r.length - (cur.toList.take o).length=r.length+1 by simp; omega,List.drop_succ_cons,List.drop_drop]
   congr 1
   omega
  rw [e1,e2]
  simp
theorem row_setLast {w:World} {base n cap g:Nat} {e:TypeId} {xs zs ys:List Value} (h:w.ownsRow base e 9 (.slice (some ⟨g,0,none⟩) (n+1) cap) (n+1) (xs++zs)) (hx:xs.length=n*9) (hy:ys.length=9) :
  (w.setCells g (n*9) ys).ownsRow base e 9 (.slice (some ⟨g,0,none⟩) (n+1) cap) (n+1) (xs++ys):=by
 obtain ⟨h1,h2⟩:=h
 rcases h2 with ⟨h2,_⟩ | ⟨g',cap',cur,hv,hb,hh,hn,hc,hs,ht⟩
 ·cases h2
 ·injection hv with hv _ hv2
  injection hv with hv
  injection hv with hv
  subst hv hv2
  obtain ⟨cur',k1,k2⟩:=cells_set g e ys (n*9) w cur hh (by rw [hy,hs]; omega)
  have hsz:cur.toList.length=cap*9:=by simpa using hs
  refine ⟨by rw [List.length_append,hx,hy]; omega,.inr ⟨g,cap,cur',rfl,hb,k1,hn,hc,?_,?_⟩⟩
  ·have:=congrArg List.length k2
   rw [List.length_append,List.length_append,List.length_take,List.length_drop,hy]at this
   have h3:cur'.toList.length=cur'.size:=by simp
   omega
  ·have hp:cur.toList.take (n*9)=xs:=by
    have:=congrArg (List.take (n*9)) ht
    rw [List.take_take,Nat.min_eq_left (by omega),List.take_append_of_le_length (by omega),← hx,List.take_length,hx]at this
    exact this
   rw [k2,hp,List.take_append_of_le_length (by rw [List.length_append,hx,hy]; omega),List.take_of_length_le (by rw [List.length_append,hx,hy]; omega)]
end Go.Proofs.YtonihophanmaaaaGreatDoor
