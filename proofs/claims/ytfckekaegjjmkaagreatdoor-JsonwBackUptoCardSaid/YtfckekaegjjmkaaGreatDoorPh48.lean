/- The texts JwTjB, JwBk, put together. -/
import Derived.Test.YtfckekaegjjmkaaGreatDoorPh47
import Derived.Test.YtfckekaegjjmkaaGreatDoorPh46
import Derived.Test.YtfckekaegjjmkaaGreatDoorPh03
namespace Go.Proofs.YtfckekaegjjmkaaGreatDoor.jsonwTurns
open Go.ChangeShapes Go.WideShapes Go.ChangeAt Go.RowKit Go.Lib
open Go.ChangeMaps (open_string shut_string)

theorem k_place:(Rows.jsonwTurnsRow.inPlace == Tryz.pinned.checked.prog.inPlace 12)=true:=by kernel_rfl
theorem k_unf:(Rows.jsonwTurnsRow.unfollowed == Tryz.pinned.checked.prog.unfollowed 12)=true:=by kernel_rfl
theorem k_rec:(Rows.jsonwTurnsRow.recurses == Tryz.pinned.checked.prog.recurses 12)=true:=by kernel_rfl
theorem k_named:(Rows.jsonwTurnsRow.named == Tryz.pinned.checked.prog.varsNamed 12)=true:=by kernel_rfl
theorem named_f:Tryz.pinned.checked.prog.funcNamed Rows.jsonwTurnsRow.func=some 12:=by kernel_rfl
theorem closed_f:joinedFacts Tryz.pinned.checked.prog 12 Tryz.f12 Rows.jsonwTurnsSpec Rows.jsonwTurnsRow=true:=by
 unfold joinedFacts
 rw [k_place,k_unf,k_rec,k_named]
 kernel_rfl

theorem over:Rows.jsonwTurnsRow.holds Tryz.pinned (OpenSpec.ofChange Rows.jsonwTurnsSpec):=
 OpenClaim.holds_of_wide 12 Tryz.f12 rfl rfl rfl rfl rfl rfl rfl ⟨rfl,rfl,rfl,rfl,rfl⟩ rfl rfl rfl rfl rfl named_f Tryz.func12 closed_f
  (of_decide_eq_true (by kernel_rfl)) (by unfold Func.isWrapper; first | (rw [if_pos (by decide +kernel)]; kernel_rfl) | (rw [if_neg (by decide +kernel)]; exact ⟨rfl,rfl⟩))
  (fun os started H enc _=>lifted os started H enc)

end Go.Proofs.YtfckekaegjjmkaaGreatDoor.jsonwTurns
namespace Go.Proofs.YtfckekaegjjmkaaGreatDoor
open Go.RowKit Go.Shelf
attribute [local go_sem] Oper.semAt_some

theorem few_okW {t:Tr} (h:OwnOk t.own):OwnOk (fewT t).own:=by
 rw [fewT_own]
 exact cut_ok h
set_option maxHeartbeats 8000000 in
set_option maxRecDepth 100000 in
theorem back_walkJ {uT uQ aT aF bT bF:Addr} (t0:Tr) (vt:Value) (w:World) (h:JRW w uT uQ aT aF) (hw:SW w bT bF) (D:Nat) (hl:ListAt w w.heap.size D t0.kids vt) (ho:OwnOk t0.own) (hc:t0.count ≤ 1048576) :
  Calls Tryz.prog 13 #[nodeV t0.own vt] w fun e w'=>e=.returned (.bool true) ∧ Below w.heap.size w w':=by
 have H0:=Lib.hid (fun w h=>j_shown (aT:=bT) (aF:=bF) w h)
 have HU:=Lib.hid (fun (w':World) (hb:Below w.heap.size w w')=>hw.below hb)
 have HF:=Lib.hid (fun (w':World) (hw:Below w.heap.size w w')=>law_FewT t0 vt w' w.heap.size D (hl.below hw (Nat.le_refl _)) ho hw.size (by omega))
 have HRE:=Lib.hid (fun (x:ByteArray) (hx:x.size ≤ 100000000) W (hb:Below w.heap.size w W)=>jr_Read x hx W (h.below hb))
 have hto:=few_okW ho
 have htc:=few_count t0
 obtain ⟨o0,ho0⟩:∃ o,t0.own=o:=⟨_,rfl⟩
 rw [ho0] at HF ⊢
 generalize fewT t0=t at HF hto htc
 have hb2:Below w.heap.size w (w.alloc (.cells (cellsV o0 vt) 27)):=(Below.refl _ _).alloc (Nat.le_refl _) _
 have hk1:=Blk.new w (cellsV o0 vt) 27
 obtain ⟨ot,hot⟩:∃ o,t.own=o:=⟨_,rfl⟩
 rw [hot] at HF
 have HK1:=Lib.hid hk1
 have HH:=Lib.hid (hw.below hb2)
 have HHOT:=Lib.hid hot
 unfold nodeV cellsV at *
 clear hl ho hc h hw hk1 hot
 go_enter Tryz.func13,Tryz.ntmps13
 go_wp2_with fail
 refine (H0.out _ HH.out).mono ?_
 rintro e w1 ⟨rfl,hb1⟩
 have hb3:=hb2.trans (hb1.mono hb2.size)
 have hk1:=HK1.out.below hb1 HK1.out.lt
 have HK3:=Lib.hid hk1
 clear hb1 HK1 hk1 HH hb2
 go_wp2_with (refine wpList_load_row rfl 27 (.tmp 1) rfl (w.heap.size) rfl 27 _ (0,0) _ HK3.out Tryz.underlying27 rfl (by kernel_rfl) ?_)
 refine (HF.out _ hb3).mono ?_
 rintro e w2 ⟨⟨y,rfl,hly⟩,hb⟩
 obtain ⟨_,A1,c1,rfl⟩:=hly.slice
 obtain ⟨n1,hn1⟩:∃ n1,t.kids.length=n1:=⟨_,rfl⟩
 rw [hn1] at hly ⊢
 have hb4:=hb3.trans (hb.mono hb3.size)
 have hk1:=HK3.out.below hb HK3.out.lt
 have hz:=hb3.size
 have hb5:=hb4.grown (grown_row w2 w.heap.size #[.int .i64 ot.kind,.bool ot.b,.bool ot.neg,.string ot.dg,.int .i64 ot.ex,.int .u64 ot.u,.int .i64 ot.wd,.string ot.s,.slice A1 n1 c1]) hb4.size (fun q e=>by cases e; exact Nat.le_refl _)
 have hk3:=blk_row hk1 #[.int .i64 ot.kind,.bool ot.b,.bool ot.neg,.string ot.dg,.int .i64 ot.ex,.int .u64 ot.u,.int .i64 ot.wd,.string ot.s,.slice A1 n1 c1]
 have hw1:=HK3.out.lt
 have hly2:ListAt (w2.setRow w.heap.size #[.int .i64 ot.kind,.bool ot.b,.bool ot.neg,.string ot.dg,.int .i64 ot.ex,.int .u64 ot.u,.int .i64 ot.wd,.string ot.s,.slice A1 n1 c1]) (w2.setRow w.heap.size #[.int .i64 ot.kind,.bool ot.b,.bool ot.neg,.string ot.dg,.int .i64 ot.ex,.int .u64 ot.u,.int .i64 ot.wd,.string ot.s,.slice A1 n1 c1]).heap.size 17 t.kids (.slice A1 n1 c1):=(hly.keep (fun q hq=>setRow_other _ _ _ _ (by omega))).mono (fun q hq=>by rw [setRow_size]; exact hq.2)
 have HK1:=Lib.hid hk1
 have HKT:=Lib.hid hk3
 have HL1:=Lib.hid hly2
 clear hb hb3 hb4 hk1 hk3 HK3 hly hly2 HF H0 hn1
 go_wp2_with (first | (refine wpList_store_row rfl 27 (.tmp 1) (.tmp 16) rfl (w.heap.size) #[.int .i64 ot.kind,.bool ot.b,.bool ot.neg,.string ot.dg,.int .i64 ot.ex,.int .u64 ot.u,.int .i64 ot.wd,.string ot.s,.slice A1 n1 c1] rfl rfl 27 _ HK1.out (by kernel_rfl) rfl (by simp [Value.oneCell']) ?_) | (refine wpList_load_row rfl 27 (.tmp 1) rfl (w.heap.size) rfl 27 _ (0,0) _ HKT.out Tryz.underlying27 rfl (by kernel_rfl) ?_))
 obtain ⟨w5,hw5⟩:∃ w5,w2.setRow w.heap.size #[.int .i64 ot.kind,.bool ot.b,.bool ot.neg,.string ot.dg,.int .i64 ot.ex,.int .u64 ot.u,.int .i64 ot.wd,.string ot.s,.slice A1 n1 c1]=w5:=⟨_,rfl⟩
 rw [hw5] at HKT HL1 hb5 ⊢
 clear HK1 hw5 hz hw1
 have hot:=HHOT.out
 have hWR:=jw_Write t (.slice A1 n1 c1) w5 w5.heap.size 17 bT bF HL1.out hto (Nat.le_refl _) (by omega) (HU.out _ hb5)
 have hPR:Hid (∀ W,Below w5.heap.size w5 W → _):=Lib.hid (fun W (hW:Below w5.heap.size w5 W)=>jw_Pretty t (.slice A1 n1 c1) W w5.heap.size 17 bT bF (HL1.out.below hW (Nat.le_refl _)) hto hW.size (by omega) (HU.out _ (hb5.trans (hW.mono hb5.size))))
 obtain ⟨ck,hck⟩:∃ ck,checkT 1 flJ t=ck:=⟨_,rfl⟩
 rw [hck,hot] at hWR
 rw [hck,hot] at hPR
 unfold nodeV at hWR hPR
 by_cases hck0:ck=0
 ·subst hck0
  have hla:=wjw_len false t hck
  have hlb:=wjw_len true t hck
  have hsh:=wjw_short t
  have hbka:=rjw_back false t hck
  have hbkb:=rjw_back true t hck
  obtain ⟨a,ha⟩:∃ a,wroteJ false t 0=a:=⟨_,rfl⟩
  obtain ⟨b,hb⟩:∃ b,wroteJ true t 0=b:=⟨_,rfl⟩
  rw [ha] at hla hsh hbka hWR
  rw [hb] at hlb hsh hbkb hPR
  have HW:=Lib.hid hWR
  have HP:=hPR
  have HSAME:=Lib.hid (fun W B d x x' (hl:ListAt W B d t.kids x) (hl':ListAt W B 17 t.kids x') (hB:B ≤ W.heap.size)=>ref_SameT d t t x x' W B 17 hl hl' hB)
  rw [sameT_refl,hot] at HSAME
  unfold nodeV at HSAME
  have yle:(a.size:Int) ≤ b.size:=by omega
  clear hWR hPR ha hb HU hto htc hck
  by_cases hs1:4000 < a.size
  ·have hs2:4000 < b.size:=by omega
   have hg1:(4000:Int) < a.size:=by omega
   have hg2:(4000:Int) < b.size:=by omega
   have HRD:Hid (∀ W,Below w.heap.size w W → Calls Tryz.prog 25 #[.string a] W fun x w'=>Below W.heap.size W w' ∧ ∃ A n c,x=.returned (.tuple #[nodeV zeroO (.slice A n c),.int .i64 81]) ∧ LAt w' (fun q=>W.heap.size ≤ q ∧ q < w'.heap.size) 16 [] (.slice A n c)):=Lib.hid (fun W hb=>(HRE.out a (by omega) W hb).mono (fun x w' q=>by
    rw [rjw_big (by omega)] at q
    obtain ⟨q1,A,n,c,q2,q3,q4⟩:=q
    exact ⟨q1,A,n,c,q2,q3⟩))
   have HRT:Hid (∀ W,Below w.heap.size w W → Calls Tryz.prog 25 #[.string b] W fun x w'=>Below W.heap.size W w' ∧ ∃ A n c,x=.returned (.tuple #[nodeV zeroO (.slice A n c),.int .i64 81]) ∧ LAt w' (fun q=>W.heap.size ≤ q ∧ q < w'.heap.size) 16 [] (.slice A n c)):=Lib.hid (fun W hb=>(HRE.out b (by omega) W hb).mono (fun x w' q=>by
    rw [rjw_big (by omega)] at q
    obtain ⟨q1,A,n,c,q2,q3,q4⟩:=q
    exact ⟨q1,A,n,c,q2,q3⟩))
   clear HRE
   refine HW.out.mono ?_
   rintro x w6 ⟨rfl,hb6⟩
   have hb7:=hb5.trans (hb6.mono hb5.size)
   have hk7:=HKT.out.below hb6 HKT.out.lt
   have HK7:=Lib.hid hk7
   have hz6:=hb6.size
   have HP2:=Lib.hid (HP.out w6 hb6)
   clear HW HP HKT hk7
   go_wp2_with (refine wpList_load_row rfl 27 (.tmp 1) rfl (w.heap.size) rfl 27 _ (0,0) _ HK7.out Tryz.underlying27 rfl (by kernel_rfl) ?_)
   refine HP2.out.mono ?_
   rintro x w7 ⟨rfl,hb67⟩
   have hb8:=hb7.trans (hb67.mono hb7.size)
   have hk8:=HK7.out.below hb67 HK7.out.lt
   have hz7:=hb67.size
   clear HP2 HK7
   go_wp2_with fail
   refine (HRD.out _ hb8).mono ?_
   rintro x w8 ⟨hb78,A2,n2,c2,rfl,hl2⟩
   have hn2:n2=0:=hl2.lenJ
   subst hn2
   rw [show nodeV zeroO (.slice A2 0 c2)=.agg #[.int .i64 0,.bool false,.bool false,.string ⟨#[]⟩,.int .i64 0,.int .u64 0,.int .i64 0,.string ⟨#[]⟩,.slice A2 0 c2] from rfl]
   have hk9:=(hk8.below hb78 hk8.lt).alloc (.cells #[.int .i64 0,.bool false,.bool false,.string ⟨#[]⟩,.int .i64 0,.int .u64 0,.int .i64 0,.string ⟨#[]⟩,.slice A2 0 c2] 27)
   have hm9:=Blk.new w8 #[.int .i64 0,.bool false,.bool false,.string ⟨#[]⟩,.int .i64 0,.int .u64 0,.int .i64 0,.string ⟨#[]⟩,.slice A2 0 c2] 27
   have hbA:=hb8.trans (hb78.mono hb8.size)
   have hb9:=hbA.alloc hbA.size (.cells #[.int .i64 0,.bool false,.bool false,.string ⟨#[]⟩,.int .i64 0,.int .u64 0,.int .i64 0,.string ⟨#[]⟩,.slice A2 0 c2] 27)
   have hz8:=hb78.size
   clear HRD hk8
   go_wp2_with fail
   refine (HRT.out _ hb9).mono ?_
   rintro x w10 ⟨hb10,A3,n3,c3,rfl,hl3⟩
   have hn3:n3=0:=hl3.lenJ
   subst hn3
   rw [show nodeV zeroO (.slice A3 0 c3)=.agg #[.int .i64 0,.bool false,.bool false,.string ⟨#[]⟩,.int .i64 0,.int .u64 0,.int .i64 0,.string ⟨#[]⟩,.slice A3 0 c3] from rfl]
   have hz10:=hb10.size
   rw [World.size_alloc] at hz10
   have hkB:=(hk9.below hb10 hk9.lt).alloc (.cells #[.int .i64 0,.bool false,.bool false,.string ⟨#[]⟩,.int .i64 0,.int .u64 0,.int .i64 0,.string ⟨#[]⟩,.slice A3 0 c3] 27)
   have hmB:=(hm9.below hb10 hm9.lt).alloc (.cells #[.int .i64 0,.bool false,.bool false,.string ⟨#[]⟩,.int .i64 0,.int .u64 0,.int .i64 0,.string ⟨#[]⟩,.slice A3 0 c3] 27)
   have hnB:=Blk.new w10 #[.int .i64 0,.bool false,.bool false,.string ⟨#[]⟩,.int .i64 0,.int .u64 0,.int .i64 0,.string ⟨#[]⟩,.slice A3 0 c3] 27
   have hbB:=hb9.trans (hb10.mono hb9.size)
   have hbC:=hbB.alloc hbB.size (.cells #[.int .i64 0,.bool false,.bool false,.string ⟨#[]⟩,.int .i64 0,.int .u64 0,.int .i64 0,.string ⟨#[]⟩,.slice A3 0 c3] 27)
   clear hl2 hl3 HSAME HRT hk9 hm9 hbka hbkb
   have z0:=hkB.cell 0
   have z1:=hkB.cell 1
   have z2:=hkB.cell 2
   have z3:=hkB.cell 3
   have z4:=hkB.cell 4
   have z5:=hkB.cell 5
   have z6:=hkB.cell 6
   have z7:=hkB.cell 7
   have z8:=hkB.cell 8
   have y0:=hmB.cell 0
   have y1:=hmB.cell 1
   have y2:=hmB.cell 2
   have y3:=hmB.cell 3
   have y4:=hmB.cell 4
   have y5:=hmB.cell 5
   have y6:=hmB.cell 6
   have y7:=hmB.cell 7
   have y8:=hmB.cell 8
   have x0:=hnB.cell 0
   have x1:=hnB.cell 1
   have x2:=hnB.cell 2
   have x3:=hnB.cell 3
   have x4:=hnB.cell 4
   have x5:=hnB.cell 5
   have x6:=hnB.cell 6
   have x7:=hnB.cell 7
   have x8:=hnB.cell 8
   go_wp2_with fail
   go_ret
   exact ⟨by simp,hbC⟩
  ·by_cases hs2:4000 < b.size
   ·have hg2:(4000:Int) < b.size:=by omega
    have HRD:Hid (∀ W,Below w.heap.size w W → Calls Tryz.prog 25 #[.string a] W fun x w'=>Below W.heap.size W w' ∧ ∃ A n c,x=.returned (.tuple #[nodeV ot (.slice A n c),.int .i64 0]) ∧ LAt w' (fun q=>W.heap.size ≤ q ∧ q < w'.heap.size) 16 t.kids (.slice A n c)):=Lib.hid (fun W hb=>(HRE.out a (by omega) W hb).mono (fun x w' q=>by
     rw [hbka (by omega)] at q
     obtain ⟨q1,A,n,c,q2,q3,q4⟩:=q
     exact ⟨q1,A,n,c,by rw [← hot]; exact q2,q3⟩))
    have HRT:Hid (∀ W,Below w.heap.size w W → Calls Tryz.prog 25 #[.string b] W fun x w'=>Below W.heap.size W w' ∧ ∃ A n c,x=.returned (.tuple #[nodeV zeroO (.slice A n c),.int .i64 81]) ∧ LAt w' (fun q=>W.heap.size ≤ q ∧ q < w'.heap.size) 16 [] (.slice A n c)):=Lib.hid (fun W hb=>(HRE.out b (by omega) W hb).mono (fun x w' q=>by
     rw [rjw_big (by omega)] at q
     obtain ⟨q1,A,n,c,q2,q3,q4⟩:=q
     exact ⟨q1,A,n,c,q2,q3⟩))
    clear HRE
    refine HW.out.mono ?_
    rintro x w6 ⟨rfl,hb6⟩
    have hb7:=hb5.trans (hb6.mono hb5.size)
    have hk7:=HKT.out.below hb6 HKT.out.lt
    have HK7:=Lib.hid hk7
    have hz6:=hb6.size
    have HP2:=Lib.hid (HP.out w6 hb6)
    clear HW HP HKT hk7
    go_wp2_with (refine wpList_load_row rfl 27 (.tmp 1) rfl (w.heap.size) rfl 27 _ (0,0) _ HK7.out Tryz.underlying27 rfl (by kernel_rfl) ?_)
    refine HP2.out.mono ?_
    rintro x w7 ⟨rfl,hb67⟩
    have hb8:=hb7.trans (hb67.mono hb7.size)
    have hk8:=HK7.out.below hb67 HK7.out.lt
    have hz7:=hb67.size
    clear HP2 HK7
    go_wp2_with fail
    refine (HRD.out _ hb8).mono ?_
    rintro x w8 ⟨hb78,A2,n2,c2,rfl,hl2⟩
    unfold nodeV
    have hk9:=(hk8.below hb78 hk8.lt).alloc (.cells #[.int .i64 ot.kind,.bool ot.b,.bool ot.neg,.string ot.dg,.int .i64 ot.ex,.int .u64 ot.u,.int .i64 ot.wd,.string ot.s,.slice A2 n2 c2] 27)
    have hm9:=Blk.new w8 #[.int .i64 ot.kind,.bool ot.b,.bool ot.neg,.string ot.dg,.int .i64 ot.ex,.int .u64 ot.u,.int .i64 ot.wd,.string ot.s,.slice A2 n2 c2] 27
    have hbA:=hb8.trans (hb78.mono hb8.size)
    have hb9:=hbA.alloc hbA.size (.cells #[.int .i64 ot.kind,.bool ot.b,.bool ot.neg,.string ot.dg,.int .i64 ot.ex,.int .u64 ot.u,.int .i64 ot.wd,.string ot.s,.slice A2 n2 c2] 27)
    have hz8:=hb78.size
    clear HRD hk8
    go_wp2_with fail
    refine (HRT.out _ hb9).mono ?_
    rintro x w10 ⟨hb10,A3,n3,c3,rfl,hl3⟩
    have hn3:n3=0:=hl3.lenJ
    subst hn3
    rw [show nodeV zeroO (.slice A3 0 c3)=.agg #[.int .i64 0,.bool false,.bool false,.string ⟨#[]⟩,.int .i64 0,.int .u64 0,.int .i64 0,.string ⟨#[]⟩,.slice A3 0 c3] from rfl]
    have hz10:=hb10.size
    rw [World.size_alloc] at hz10
    have hkB:=(hk9.below hb10 hk9.lt).alloc (.cells #[.int .i64 0,.bool false,.bool false,.string ⟨#[]⟩,.int .i64 0,.int .u64 0,.int .i64 0,.string ⟨#[]⟩,.slice A3 0 c3] 27)
    have hmB:=(hm9.below hb10 hm9.lt).alloc (.cells #[.int .i64 0,.bool false,.bool false,.string ⟨#[]⟩,.int .i64 0,.int .u64 0,.int .i64 0,.string ⟨#[]⟩,.slice A3 0 c3] 27)
    have hnB:=Blk.new w10 #[.int .i64 0,.bool false,.bool false,.string ⟨#[]⟩,.int .i64 0,.int .u64 0,.int .i64 0,.string ⟨#[]⟩,.slice A3 0 c3] 27
    have hbB:=hb9.trans (hb10.mono hb9.size)
    have hbC:=hbB.alloc hbB.size (.cells #[.int .i64 0,.bool false,.bool false,.string ⟨#[]⟩,.int .i64 0,.int .u64 0,.int .i64 0,.string ⟨#[]⟩,.slice A3 0 c3] 27)
    have hl1C:ListAt (w10.alloc (.cells #[.int .i64 0,.bool false,.bool false,.string ⟨#[]⟩,.int .i64 0,.int .u64 0,.int .i64 0,.string ⟨#[]⟩,.slice A3 0 c3] 27)) w10.heap.size 17 t.kids (.slice A1 n1 c1):=(HL1.out.keep (fun q hq=>(Below.heap_alloc w10 _ q (by omega)).trans ((hb10.block q (by rw [World.size_alloc]; omega)).trans ((Below.heap_alloc w8 _ q (by omega)).trans ((hb78.block q (by omega)).trans ((hb67.block q (by omega)).trans (hb6.block q hq))))))).mono (fun q hq=>by omega)
    have HL1C:=Lib.hid hl1C
    have hl2C:ListAt (w10.alloc (.cells #[.int .i64 0,.bool false,.bool false,.string ⟨#[]⟩,.int .i64 0,.int .u64 0,.int .i64 0,.string ⟨#[]⟩,.slice A3 0 c3] 27)) w10.heap.size 16 t.kids (.slice A2 n2 c2):=(hl2.keep (fun q hq=>(Below.heap_alloc w10 _ q (by omega)).trans ((hb10.block q (by rw [World.size_alloc]; omega)).trans (Below.heap_alloc w8 _ q hq.2)))).mono (fun q hq=>by omega)
    have HS1:=Lib.hid (HSAME.out (w10.alloc (.cells #[.int .i64 0,.bool false,.bool false,.string ⟨#[]⟩,.int .i64 0,.int .u64 0,.int .i64 0,.string ⟨#[]⟩,.slice A3 0 c3] 27)) w10.heap.size 16 _ _ hl2C hl1C (by simp))
    clear hl1C HL1C hl2C hl2 hl3 HSAME HRT hk9 hm9 hbka hbkb
    have z0:=hkB.cell 0
    have z1:=hkB.cell 1
    have z2:=hkB.cell 2
    have z3:=hkB.cell 3
    have z4:=hkB.cell 4
    have z5:=hkB.cell 5
    have z6:=hkB.cell 6
    have z7:=hkB.cell 7
    have z8:=hkB.cell 8
    have y0:=hmB.cell 0
    have y1:=hmB.cell 1
    have y2:=hmB.cell 2
    have y3:=hmB.cell 3
    have y4:=hmB.cell 4
    have y5:=hmB.cell 5
    have y6:=hmB.cell 6
    have y7:=hmB.cell 7
    have y8:=hmB.cell 8
    have x0:=hnB.cell 0
    have x1:=hnB.cell 1
    have x2:=hnB.cell 2
    have x3:=hnB.cell 3
    have x4:=hnB.cell 4
    have x5:=hnB.cell 5
    have x6:=hnB.cell 6
    have x7:=hnB.cell 7
    have x8:=hnB.cell 8
    go_wp2_with fail
    refine HS1.out.mono ?_
    rintro x w12 ⟨rfl,hb12⟩
    have hbD:=hbC.trans (hb12.mono hbC.size)
    have hkD:=hkB.below hb12 hkB.lt
    have hnD:=hnB.below hb12 hnB.lt
    clear HS1 hkB hmB hnB hb12
    clear x0 x1 x2 x3 x4 x5 x6 x7 x8 y0 y1 y2 y3 y4 y5 y6 y7 y8 z0 z1 z2 z3 z4 z5 z6 z7 z8
    go_wp2_with fail
    go_ret
    exact ⟨by simp,hbD⟩
   ·skip
    have HRD:Hid (∀ W,Below w.heap.size w W → Calls Tryz.prog 25 #[.string a] W fun x w'=>Below W.heap.size W w' ∧ ∃ A n c,x=.returned (.tuple #[nodeV ot (.slice A n c),.int .i64 0]) ∧ LAt w' (fun q=>W.heap.size ≤ q ∧ q < w'.heap.size) 16 t.kids (.slice A n c)):=Lib.hid (fun W hb=>(HRE.out a (by omega) W hb).mono (fun x w' q=>by
     rw [hbka (by omega)] at q
     obtain ⟨q1,A,n,c,q2,q3,q4⟩:=q
     exact ⟨q1,A,n,c,by rw [← hot]; exact q2,q3⟩))
    have HRT:Hid (∀ W,Below w.heap.size w W → Calls Tryz.prog 25 #[.string b] W fun x w'=>Below W.heap.size W w' ∧ ∃ A n c,x=.returned (.tuple #[nodeV ot (.slice A n c),.int .i64 0]) ∧ LAt w' (fun q=>W.heap.size ≤ q ∧ q < w'.heap.size) 16 t.kids (.slice A n c)):=Lib.hid (fun W hb=>(HRE.out b (by omega) W hb).mono (fun x w' q=>by
     rw [hbkb (by omega)] at q
     obtain ⟨q1,A,n,c,q2,q3,q4⟩:=q
     exact ⟨q1,A,n,c,by rw [← hot]; exact q2,q3⟩))
    clear HRE
    refine HW.out.mono ?_
    rintro x w6 ⟨rfl,hb6⟩
    have hb7:=hb5.trans (hb6.mono hb5.size)
    have hk7:=HKT.out.below hb6 HKT.out.lt
    have HK7:=Lib.hid hk7
    have hz6:=hb6.size
    have HP2:=Lib.hid (HP.out w6 hb6)
    clear HW HP HKT hk7
    go_wp2_with (refine wpList_load_row rfl 27 (.tmp 1) rfl (w.heap.size) rfl 27 _ (0,0) _ HK7.out Tryz.underlying27 rfl (by kernel_rfl) ?_)
    refine HP2.out.mono ?_
    rintro x w7 ⟨rfl,hb67⟩
    have hb8:=hb7.trans (hb67.mono hb7.size)
    have hk8:=HK7.out.below hb67 HK7.out.lt
    have hz7:=hb67.size
    clear HP2 HK7
    go_wp2_with fail
    refine (HRD.out _ hb8).mono ?_
    rintro x w8 ⟨hb78,A2,n2,c2,rfl,hl2⟩
    unfold nodeV
    have hk9:=(hk8.below hb78 hk8.lt).alloc (.cells #[.int .i64 ot.kind,.bool ot.b,.bool ot.neg,.string ot.dg,.int .i64 ot.ex,.int .u64 ot.u,.int .i64 ot.wd,.string ot.s,.slice A2 n2 c2] 27)
    have hm9:=Blk.new w8 #[.int .i64 ot.kind,.bool ot.b,.bool ot.neg,.string ot.dg,.int .i64 ot.ex,.int .u64 ot.u,.int .i64 ot.wd,.string ot.s,.slice A2 n2 c2] 27
    have hbA:=hb8.trans (hb78.mono hb8.size)
    have hb9:=hbA.alloc hbA.size (.cells #[.int .i64 ot.kind,.bool ot.b,.bool ot.neg,.string ot.dg,.int .i64 ot.ex,.int .u64 ot.u,.int .i64 ot.wd,.string ot.s,.slice A2 n2 c2] 27)
    have hz8:=hb78.size
    clear HRD hk8
    go_wp2_with fail
    refine (HRT.out _ hb9).mono ?_
    rintro x w10 ⟨hb10,A3,n3,c3,rfl,hl3⟩
    unfold nodeV
    have hz10:=hb10.size
    rw [World.size_alloc] at hz10
    have hkB:=(hk9.below hb10 hk9.lt).alloc (.cells #[.int .i64 ot.kind,.bool ot.b,.bool ot.neg,.string ot.dg,.int .i64 ot.ex,.int .u64 ot.u,.int .i64 ot.wd,.string ot.s,.slice A3 n3 c3] 27)
    have hmB:=(hm9.below hb10 hm9.lt).alloc (.cells #[.int .i64 ot.kind,.bool ot.b,.bool ot.neg,.string ot.dg,.int .i64 ot.ex,.int .u64 ot.u,.int .i64 ot.wd,.string ot.s,.slice A3 n3 c3] 27)
    have hnB:=Blk.new w10 #[.int .i64 ot.kind,.bool ot.b,.bool ot.neg,.string ot.dg,.int .i64 ot.ex,.int .u64 ot.u,.int .i64 ot.wd,.string ot.s,.slice A3 n3 c3] 27
    have hbB:=hb9.trans (hb10.mono hb9.size)
    have hbC:=hbB.alloc hbB.size (.cells #[.int .i64 ot.kind,.bool ot.b,.bool ot.neg,.string ot.dg,.int .i64 ot.ex,.int .u64 ot.u,.int .i64 ot.wd,.string ot.s,.slice A3 n3 c3] 27)
    have hl1C:ListAt (w10.alloc (.cells #[.int .i64 ot.kind,.bool ot.b,.bool ot.neg,.string ot.dg,.int .i64 ot.ex,.int .u64 ot.u,.int .i64 ot.wd,.string ot.s,.slice A3 n3 c3] 27)) w10.heap.size 17 t.kids (.slice A1 n1 c1):=(HL1.out.keep (fun q hq=>(Below.heap_alloc w10 _ q (by omega)).trans ((hb10.block q (by rw [World.size_alloc]; omega)).trans ((Below.heap_alloc w8 _ q (by omega)).trans ((hb78.block q (by omega)).trans ((hb67.block q (by omega)).trans (hb6.block q hq))))))).mono (fun q hq=>by omega)
    have HL1C:=Lib.hid hl1C
    have hl3C:ListAt (w10.alloc (.cells #[.int .i64 ot.kind,.bool ot.b,.bool ot.neg,.string ot.dg,.int .i64 ot.ex,.int .u64 ot.u,.int .i64 ot.wd,.string ot.s,.slice A3 n3 c3] 27)) w10.heap.size 16 t.kids (.slice A3 n3 c3):=(hl3.keep (fun q hq=>Below.heap_alloc w10 _ q hq.2)).mono (fun q hq=>hq.2)
    have HL3C:=Lib.hid hl3C
    have HS2:=Lib.hid (fun W (hW:Below (w10.alloc (.cells #[.int .i64 ot.kind,.bool ot.b,.bool ot.neg,.string ot.dg,.int .i64 ot.ex,.int .u64 ot.u,.int .i64 ot.wd,.string ot.s,.slice A3 n3 c3] 27)).heap.size (w10.alloc (.cells #[.int .i64 ot.kind,.bool ot.b,.bool ot.neg,.string ot.dg,.int .i64 ot.ex,.int .u64 ot.u,.int .i64 ot.wd,.string ot.s,.slice A3 n3 c3] 27)) W)=>HSAME.out W w10.heap.size 16 _ _ (HL3C.out.below hW (by simp)) (HL1C.out.below hW (by simp)) (by have:=hW.size; rw [World.size_alloc] at this; omega))
    have hl2C:ListAt (w10.alloc (.cells #[.int .i64 ot.kind,.bool ot.b,.bool ot.neg,.string ot.dg,.int .i64 ot.ex,.int .u64 ot.u,.int .i64 ot.wd,.string ot.s,.slice A3 n3 c3] 27)) w10.heap.size 16 t.kids (.slice A2 n2 c2):=(hl2.keep (fun q hq=>(Below.heap_alloc w10 _ q (by omega)).trans ((hb10.block q (by rw [World.size_alloc]; omega)).trans (Below.heap_alloc w8 _ q hq.2)))).mono (fun q hq=>by omega)
    have HS1:=Lib.hid (HSAME.out (w10.alloc (.cells #[.int .i64 ot.kind,.bool ot.b,.bool ot.neg,.string ot.dg,.int .i64 ot.ex,.int .u64 ot.u,.int .i64 ot.wd,.string ot.s,.slice A3 n3 c3] 27)) w10.heap.size 16 _ _ hl2C hl1C (by simp))
    clear hl1C HL1C hl3C HL3C hl2C hl2 hl3 HSAME HRT hk9 hm9 hbka hbkb
    have z0:=hkB.cell 0
    have z1:=hkB.cell 1
    have z2:=hkB.cell 2
    have z3:=hkB.cell 3
    have z4:=hkB.cell 4
    have z5:=hkB.cell 5
    have z6:=hkB.cell 6
    have z7:=hkB.cell 7
    have z8:=hkB.cell 8
    have y0:=hmB.cell 0
    have y1:=hmB.cell 1
    have y2:=hmB.cell 2
    have y3:=hmB.cell 3
    have y4:=hmB.cell 4
    have y5:=hmB.cell 5
    have y6:=hmB.cell 6
    have y7:=hmB.cell 7
    have y8:=hmB.cell 8
    have x0:=hnB.cell 0
    have x1:=hnB.cell 1
    have x2:=hnB.cell 2
    have x3:=hnB.cell 3
    have x4:=hnB.cell 4
    have x5:=hnB.cell 5
    have x6:=hnB.cell 6
    have x7:=hnB.cell 7
    have x8:=hnB.cell 8
    go_wp2_with fail
    refine HS1.out.mono ?_
    rintro x w12 ⟨rfl,hb12⟩
    have hbD:=hbC.trans (hb12.mono hbC.size)
    have hkD:=hkB.below hb12 hkB.lt
    have hnD:=hnB.below hb12 hnB.lt
    have HS3:=Lib.hid (HS2.out _ hb12)
    clear HS2
    clear HS1 hkB hmB hnB hb12
    clear x0 x1 x2 x3 x4 x5 x6 x7 x8 y0 y1 y2 y3 y4 y5 y6 y7 y8 z0 z1 z2 z3 z4 z5 z6 z7 z8
    have z0:=hkD.cell 0
    have z1:=hkD.cell 1
    have z2:=hkD.cell 2
    have z3:=hkD.cell 3
    have z4:=hkD.cell 4
    have z5:=hkD.cell 5
    have z6:=hkD.cell 6
    have z7:=hkD.cell 7
    have z8:=hkD.cell 8
    have x0:=hnD.cell 0
    have x1:=hnD.cell 1
    have x2:=hnD.cell 2
    have x3:=hnD.cell 3
    have x4:=hnD.cell 4
    have x5:=hnD.cell 5
    have x6:=hnD.cell 6
    have x7:=hnD.cell 7
    have x8:=hnD.cell 8
    go_wp2_with fail
    refine HS3.out.mono ?_
    rintro x w14 ⟨rfl,hb14⟩
    have hbE:=hbD.trans (hb14.mono hbD.size)
    clear x0 x1 x2 x3 x4 x5 x6 x7 x8 z0 z1 z2 z3 z4 z5 z6 z7 z8 HS3
    go_wp2_with fail
    go_ret
    exact ⟨by simp,hbE⟩
 ·rw [wroteJ_none _ _ hck0] at hWR hPR
  have HW:=Lib.hid hWR
  have y1:(ck != 0)=true:=by rw [bne_iff_ne]; exact hck0
  clear hWR hck hck0 HL1
  refine HW.out.mono ?_
  rintro x w6 ⟨rfl,hb6⟩
  have hb7:=hb5.trans (hb6.mono hb5.size)
  have hk7:=HKT.out.below hb6 HKT.out.lt
  have HK7:=Lib.hid hk7
  have HP2:=Lib.hid (hPR.out w6 hb6)
  clear HW hPR HKT hk7
  go_wp2_with (refine wpList_load_row rfl 27 (.tmp 1) rfl (w.heap.size) rfl 27 _ (0,0) _ HK7.out Tryz.underlying27 rfl (by kernel_rfl) ?_)
  refine HP2.out.mono ?_
  rintro x w7 ⟨rfl,hb67⟩
  have hb8:=hb7.trans (hb67.mono hb7.size)
  clear HP2 HK7
  go_wp2_with fail
  go_ret
  exact ⟨by simp,hb8⟩
end Go.Proofs.YtfckekaegjjmkaaGreatDoor
