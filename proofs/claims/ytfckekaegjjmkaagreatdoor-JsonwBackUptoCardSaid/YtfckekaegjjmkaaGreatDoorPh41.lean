/- The texts JrO, JrP, JrQ, JrR, put together. -/
import Derived.Test.YtfckekaegjjmkaaGreatDoorPh40
import Derived.Test.YtfckekaegjjmkaaGreatDoorPh20
namespace Go.Proofs.YtfckekaegjjmkaaGreatDoor
open Go.RowKit Go.Shelf
attribute [local go_sem] Oper.semAt_some

abbrev ErrTyJ (w:World):Prop:=w.cell? ⟨2,0,none⟩=some (.iface 134 (.agg #[.pointer (some ⟨13,62,none⟩)]))
structure JRW (w:World) (uT uQ aT aF:Addr):Prop where
 u:UW w uT uQ
 g:GW w aT aF
 a:AtW w
 ty:ErrTyJ w
theorem JRW.below {w w':World} {uT uQ aT aF:Addr} (h:JRW w uT uQ aT aF) (hb:Below w.heap.size w w'):JRW w' uT uQ aT aF where
 u:=h.u.below hb
 g:=h.g.below hb
 a:=h.a.below hb (Nat.le_refl _)
 ty:=cell_below hb h.ty
theorem str_isB {l:List UInt8} (h:¬ l=[]):(bsD l).toList.isEmpty=false:=str_isE h

set_option maxHeartbeats 8000000 in
set_option maxRecDepth 100000 in
theorem jr_document {w0:World} {uT uQ aT aF:Addr} (h:JRW w0 uT uQ aT aF) (F p:Nat) (s:ByteArray) (w:World) (hb0:Below w0.heap.size w0 w) (hp:w0.heap.size ≤ p) (hr:RdJ w p s 0) (hs:s.size ≤ 100000000) (hF:s.size < F) :
  Calls Tryz.prog 39 #[.pointer (some ⟨p,0,none⟩)] w (ReadJ p 0 16 w s (docJ uqJ F s.data.toList)):=by
 have hk1:=Blk.new w zeroC 27
 have hr1:=hr.alloc (.cells zeroC 27)
 have hb1:Below w.heap.size w (w.alloc (.cells zeroC 27)):=(Below.refl _ w).alloc (Nat.le_refl _) _
 have hplt:=hr.lt
 have hz1:(w.alloc (.cells zeroC 27)).heap.size=w.heap.size + 1:=by simp
 have hsl:s.data.toList.length=s.size:=by simp
 have hl1:=spJ_len s.data.toList
 have HS:=Lib.hid (fun s W (h:RdJ W p s 0) (hz:s.size ≤ 1000000000)=>jr_space p 0 s W h hz)
 have hV:=jr_value h.u h.a F 16 (Nat.le_refl _)
 have HV:=Lib.hid (fun W (hg:w.grownBy W (some p)) (hR:RdJ W p (bsD (spJ s.data.toList)) 0)=>hV p (bsD (spJ s.data.toList)) W (below_of_grown hb0 hp hplt hg) hp hR (by rw [bsD_size]; omega) (by rw [bsD_size]; omega))
 have HG:=Lib.hid (fun W (hg:w.grownBy W (some p))=>h.g.below (below_of_grown hb0 hp hplt hg))
 clear hV h hb0 hr
 unfold docJ
 cases hx:valueJ uqJ F 16 (spJ s.data.toList) with
 | bad e =>
  have HV:Hid (∀ W,w.grownBy W (some p) → RdJ W p (bsD (spJ s.data.toList)) 0 → Calls Tryz.prog 53 #[.pointer (some ⟨p,0,none⟩)] W fun x w'=>W.grownBy w' (some p) ∧ (x=.returned (.tuple #[.agg zeroC,errJ e]) ∧ (e=60 ∨ e=80)) ∧ ∃ s' d',RdJ w' p s' d' ∧ s'.size ≤ (bsD (spJ s.data.toList)).size):=Lib.hid (fun W hg hR=>by
   have:=HV.out W hg hR
   rw [bsD_list,hx] at this
   exact this)
  simp only []
  clear hx HG
  go_enter Tryz.func39,Tryz.ntmps39
  go_wp2_with fail
  refine (HS.out s _ hr1 (by omega)).mono ?_
  rintro x w2 ⟨⟨v2,rfl⟩,hg2,hr2⟩
  have hk2:=blk_gb hk1 hg2 (by omega)
  have hgA:=grown_trans (below_grown hb1 (some p)) hg2
  have HVV:=HV.out w2 hgA hr2
  go_wp2_with fail
  refine HVV.mono ?_
  rintro x w3 ⟨hg3,⟨rfl,he⟩,s',d',hr3,hs3⟩
  have hk3:=(blk_gb hk2 hg3 (by omega)).alloc (.cells zeroC 27)
  have hr4:=hr3.alloc (.cells zeroC 27)
  have hgB:=grown_of (grown_trans hgA hg3) ((Below.refl _ _).alloc (Nat.le_refl _) (.cells zeroC 27))
  rw [bsD_size] at hs3
  unfold errJ
  go_wp2_with (refine wpList_store_row rfl 27 (.tmp 2) (.tmp 15) rfl (w.heap.size) zeroC rfl rfl 27 _ hk3 (by kernel_rfl) rfl (by simp [Value.oneCell']) ?_)
  refine bodyPost_ret (results_cell (T:=27) rfl rfl rfl (blk_row hk3 zeroC) Tryz.underlying27 rfl (by kernel_rfl)) rfl ?_
  exact ⟨grown_at hgB (grown_row _ _ _) (by omega),⟨rfl,he⟩,s',d',blk_row_other hr4 (by omega) _,by omega⟩
 | good t r =>
  have hct:=value_count F 16 _ _ _ hx
  obtain ⟨⟨kind3,b3,neg3,dg3,ex3,u3,wd3,s3⟩,ho3⟩:∃ o,t.own=o:=⟨_,rfl⟩
  have HV:Hid (∀ W,w.grownBy W (some p) → RdJ W p (bsD (spJ s.data.toList)) 0 → Calls Tryz.prog 53 #[.pointer (some ⟨p,0,none⟩)] W fun x w'=>W.grownBy w' (some p) ∧ (∃ A n c,x=.returned (.tuple #[.agg #[.int .i64 kind3,.bool b3,.bool neg3,.string dg3,.int .i64 ex3,.int .u64 u3,.int .i64 wd3,.string s3,.slice A n c],.nilIface]) ∧ LAt w' (fun q=>W.heap.size ≤ q ∧ q < w'.heap.size) 16 t.kids (.slice A n c)) ∧ OwnOk t.own ∧ RdJ w' p (bsD r) 0 ∧ r.length ≤ (bsD (spJ s.data.toList)).size):=Lib.hid (fun W hg hR=>by
   have:=HV.out W hg hR
   rw [bsD_list,hx] at this
   unfold ReadJ at this
   simp only [nodeV,ho3] at this
   rw [ho3]
   exact this)
  have HO3:=Lib.hid ho3
  simp only []
  have hl2:=spJ_len r
  clear hx ho3
  by_cases hsp:spJ r=[]
  ·rw [if_neg (fun h=>h hsp)]
   have HRG:=Lib.hid (fun (W:World) (B:Nat) (x:Value) (hl:ListAt W B 16 t.kids x) (ho:OwnOk t.own) (hB:B ≤ W.heap.size) (hg:w.grownBy W (some p))=>tree_RightP t x W B 16 hl ho hB (by omega) (HG.out W hg))
   by_cases hrt:rightT t=true
   ·rw [if_pos hrt]
    rw [hrt] at HRG
    go_enter Tryz.func39,Tryz.ntmps39
    go_wp2_with fail
    refine (HS.out s _ hr1 (by omega)).mono ?_
    rintro x w2 ⟨⟨v2,rfl⟩,hg2,hr2⟩
    have hk2:=blk_gb hk1 hg2 (by omega)
    have hgA:=grown_trans (below_grown hb1 (some p)) hg2
    have HVV:=HV.out w2 hgA hr2
    go_wp2_with fail
    refine HVV.mono ?_
    rintro x w3 ⟨hg3,⟨A,n,c,rfl,hly⟩,hot,hr3,hs3⟩
    have hk3:=blk_gb hk2 hg3 (by omega)
    have hk4:=hk3.alloc (.cells #[.int .i64 kind3,.bool b3,.bool neg3,.string dg3,.int .i64 ex3,.int .u64 u3,.int .i64 wd3,.string s3,.slice A n c] 27)
    have hx4:=Blk.new w3 #[.int .i64 kind3,.bool b3,.bool neg3,.string dg3,.int .i64 ex3,.int .u64 u3,.int .i64 wd3,.string s3,.slice A n c] 27
    have hr4:=hr3.alloc (.cells #[.int .i64 kind3,.bool b3,.bool neg3,.string dg3,.int .i64 ex3,.int .u64 u3,.int .i64 wd3,.string s3,.slice A n c] 27)
    have hgB:=grown_trans hgA hg3
    have hg4:w.grownBy (w3.alloc (.cells #[.int .i64 kind3,.bool b3,.bool neg3,.string dg3,.int .i64 ex3,.int .u64 u3,.int .i64 wd3,.string s3,.slice A n c] 27)) (some p):=grown_of hgB ((Below.refl _ _).alloc (Nat.le_refl _) _)
    have hz2:=hg2.size
    have hz3:=hg3.size
    have HLY:=Lib.hid hly
    clear hly
    go_wp2_with fail
    refine (HS.out (bsD r) _ hr4 (by rw [bsD_size]; omega)).mono ?_
    rintro x w5 ⟨⟨v5,rfl⟩,hg5,hr5⟩
    rw [bsD_list] at hr5
    have hk5:=blk_gb hk4 hg5 (by omega)
    have hx5:=blk_gb hx4 hg5 (by have:=hr3.lt; omega)
    have hg6:=grown_trans hg4 hg5
    have hz5:=hg5.size
    have q5:=hr5.cell 0
    rw [hsp] at q5
    have q5':w5.cell? ⟨p,0,none⟩=some (.string ⟨#[]⟩):=q5
    have hl5:LAt w5 (fun q=>w2.heap.size ≤ q ∧ q < w5.heap.size) 16 t.kids (.slice A n c):=(HLY.out.keep (fun q hq=>(hg5.block q (by rw [World.size_alloc]; have:=hq.2; omega) (fun e=>by injection e with e; have:=hq.1; have:=hr2.lt; omega)).trans (Below.heap_alloc _ _ _ hq.2))).mono (fun q hq=>⟨hq.1,by rw [World.size_alloc] at hz5; have:=hq.2; omega⟩)
    have hRC:=HRG.out w5 w5.heap.size (.slice A n c) (hl5.mono (fun q hq=>hq.2)) hot (Nat.le_refl _) hg6
    have HL5:=Lib.hid hl5
    have HOT:=Lib.hid hot
    rw [HO3.out] at hRC
    unfold nodeV at hRC
    simp only [] at hRC
    have HRC:=Lib.hid hRC
    clear hl5 hRC q5 hot
    go_wp2_with (refine wpList_load_row rfl 27 (.tmp 4) rfl (w3.heap.size) rfl 27 _ (0,0) _ hx5 Tryz.underlying27 rfl (by kernel_rfl) ?_)
    refine HRC.out.mono ?_
    rintro x w7 ⟨rfl,hb7⟩
    have hk7:=hk5.below hb7 hk5.lt
    have hx7:=hx5.below hb7 hx5.lt
    have hr7:=hr5.below hb7 hr5.lt
    have hg7:=grown_of hg6 hb7
    go_wp2_with (first | (refine wpList_load_row rfl 27 (.tmp 4) rfl (w3.heap.size) rfl 27 _ (0,0) _ hx7 Tryz.underlying27 rfl (by kernel_rfl) ?_) | (refine wpList_store_row rfl 27 (.tmp 2) (.tmp 33) rfl (w.heap.size) #[.int .i64 kind3,.bool b3,.bool neg3,.string dg3,.int .i64 ex3,.int .u64 u3,.int .i64 wd3,.string s3,.slice A n c] rfl rfl 27 _ hk7 (by kernel_rfl) rfl (by simp [Value.oneCell']) ?_))
    refine bodyPost_ret (results_cell (T:=27) rfl rfl rfl (blk_row hk7 _) Tryz.underlying27 rfl (by kernel_rfl)) rfl ?_
    refine ⟨grown_at hg7 (grown_row _ _ _) (by omega),⟨A,n,c,by rw [HO3.out]; rfl,?_⟩,HOT.out,blk_row_other (by rw [← hsp]; exact hr7) (by omega) _,by simp⟩
    refine (((HL5.out.keep (W':=w7) (fun q hq=>hb7.block q hq.2)).keep (W':=w7.setRow w.heap.size #[.int .i64 kind3,.bool b3,.bool neg3,.string dg3,.int .i64 ex3,.int .u64 u3,.int .i64 wd3,.string s3,.slice A n c]) (fun q hq=>setRow_other _ _ _ _ (by have:=hq.1; omega))).mono (fun q hq=>?_))
    rw [setRow_size]
    exact ⟨by have:=hq.1; omega,by have:=hq.2; have:=hb7.size; omega⟩
   ·rw [if_neg hrt]
    rw [Bool.not_eq_true] at hrt
    rw [hrt] at HRG
    go_enter Tryz.func39,Tryz.ntmps39
    go_wp2_with fail
    refine (HS.out s _ hr1 (by omega)).mono ?_
    rintro x w2 ⟨⟨v2,rfl⟩,hg2,hr2⟩
    have hk2:=blk_gb hk1 hg2 (by omega)
    have hgA:=grown_trans (below_grown hb1 (some p)) hg2
    have HVV:=HV.out w2 hgA hr2
    go_wp2_with fail
    refine HVV.mono ?_
    rintro x w3 ⟨hg3,⟨A,n,c,rfl,hly⟩,hot,hr3,hs3⟩
    have hk3:=blk_gb hk2 hg3 (by omega)
    have hk4:=hk3.alloc (.cells #[.int .i64 kind3,.bool b3,.bool neg3,.string dg3,.int .i64 ex3,.int .u64 u3,.int .i64 wd3,.string s3,.slice A n c] 27)
    have hx4:=Blk.new w3 #[.int .i64 kind3,.bool b3,.bool neg3,.string dg3,.int .i64 ex3,.int .u64 u3,.int .i64 wd3,.string s3,.slice A n c] 27
    have hr4:=hr3.alloc (.cells #[.int .i64 kind3,.bool b3,.bool neg3,.string dg3,.int .i64 ex3,.int .u64 u3,.int .i64 wd3,.string s3,.slice A n c] 27)
    have hgB:=grown_trans hgA hg3
    have hg4:w.grownBy (w3.alloc (.cells #[.int .i64 kind3,.bool b3,.bool neg3,.string dg3,.int .i64 ex3,.int .u64 u3,.int .i64 wd3,.string s3,.slice A n c] 27)) (some p):=grown_of hgB ((Below.refl _ _).alloc (Nat.le_refl _) _)
    have hz2:=hg2.size
    have hz3:=hg3.size
    have HLY:=Lib.hid hly
    clear hly
    go_wp2_with fail
    refine (HS.out (bsD r) _ hr4 (by rw [bsD_size]; omega)).mono ?_
    rintro x w5 ⟨⟨v5,rfl⟩,hg5,hr5⟩
    rw [bsD_list] at hr5
    have hk5:=blk_gb hk4 hg5 (by omega)
    have hx5:=blk_gb hx4 hg5 (by have:=hr3.lt; omega)
    have hg6:=grown_trans hg4 hg5
    have hz5:=hg5.size
    have q5:=hr5.cell 0
    rw [hsp] at q5
    have q5':w5.cell? ⟨p,0,none⟩=some (.string ⟨#[]⟩):=q5
    have hl5:LAt w5 (fun q=>w2.heap.size ≤ q ∧ q < w5.heap.size) 16 t.kids (.slice A n c):=(HLY.out.keep (fun q hq=>(hg5.block q (by rw [World.size_alloc]; have:=hq.2; omega) (fun e=>by injection e with e; have:=hq.1; have:=hr2.lt; omega)).trans (Below.heap_alloc _ _ _ hq.2))).mono (fun q hq=>⟨hq.1,by rw [World.size_alloc] at hz5; have:=hq.2; omega⟩)
    have hRC:=HRG.out w5 w5.heap.size (.slice A n c) (hl5.mono (fun q hq=>hq.2)) hot (Nat.le_refl _) hg6
    have HL5:=Lib.hid hl5
    have HOT:=Lib.hid hot
    rw [HO3.out] at hRC
    unfold nodeV at hRC
    simp only [] at hRC
    have HRC:=Lib.hid hRC
    clear hl5 hRC q5 hot
    go_wp2_with (refine wpList_load_row rfl 27 (.tmp 4) rfl (w3.heap.size) rfl 27 _ (0,0) _ hx5 Tryz.underlying27 rfl (by kernel_rfl) ?_)
    refine HRC.out.mono ?_
    rintro x w7 ⟨rfl,hb7⟩
    have hk7:=hk5.below hb7 hk5.lt
    have hx7:=hx5.below hb7 hx5.lt
    have hr7:=hr5.below hb7 hr5.lt
    have hg7:=grown_of hg6 hb7
    go_wp2_with (refine wpList_store_row rfl 27 (.tmp 2) (.tmp 30) rfl (w.heap.size) zeroC rfl rfl 27 _ hk7 (by kernel_rfl) rfl (by simp [Value.oneCell']) ?_)
    refine bodyPost_ret (results_cell (T:=27) rfl rfl rfl (blk_row hk7 zeroC) Tryz.underlying27 rfl (by kernel_rfl)) rfl ?_
    exact ⟨grown_at hg7 (grown_row _ _ _) (by omega),⟨rfl,.inl rfl⟩,_,0,blk_row_other hr7 (by omega) _,by rw [bsD_size]; omega⟩
  ·rw [if_pos hsp]
   have z:=str_isB hsp
   obtain ⟨sb,hsb⟩:∃ x,bsD (spJ r)=x:=⟨_,rfl⟩
   have hsz:sb.size ≤ s.size:=by rw [← hsb,bsD_size]; omega
   rw [hsb] at z
   have HSZ:=Lib.hid hsz
   have HSB:=Lib.hid hsb
   clear HG hsp hsb hsz
   go_enter Tryz.func39,Tryz.ntmps39
   go_wp2_with fail
   refine (HS.out s _ hr1 (by omega)).mono ?_
   rintro x w2 ⟨⟨v2,rfl⟩,hg2,hr2⟩
   have hk2:=blk_gb hk1 hg2 (by omega)
   have hgA:=grown_trans (below_grown hb1 (some p)) hg2
   have HVV:=HV.out w2 hgA hr2
   go_wp2_with fail
   refine HVV.mono ?_
   rintro x w3 ⟨hg3,⟨A,n,c,rfl,hly⟩,hot,hr3,hs3⟩
   have hk3:=blk_gb hk2 hg3 (by omega)
   have hk4:=hk3.alloc (.cells #[.int .i64 kind3,.bool b3,.bool neg3,.string dg3,.int .i64 ex3,.int .u64 u3,.int .i64 wd3,.string s3,.slice A n c] 27)
   have hx4:=Blk.new w3 #[.int .i64 kind3,.bool b3,.bool neg3,.string dg3,.int .i64 ex3,.int .u64 u3,.int .i64 wd3,.string s3,.slice A n c] 27
   have hr4:=hr3.alloc (.cells #[.int .i64 kind3,.bool b3,.bool neg3,.string dg3,.int .i64 ex3,.int .u64 u3,.int .i64 wd3,.string s3,.slice A n c] 27)
   have hgB:=grown_trans hgA hg3
   have hg4:w.grownBy (w3.alloc (.cells #[.int .i64 kind3,.bool b3,.bool neg3,.string dg3,.int .i64 ex3,.int .u64 u3,.int .i64 wd3,.string s3,.slice A n c] 27)) (some p):=grown_of hgB ((Below.refl _ _).alloc (Nat.le_refl _) _)
   have hz2:=hg2.size
   have hz3:=hg3.size
   have HLY:=Lib.hid hly
   clear hly
   go_wp2_with fail
   refine (HS.out (bsD r) _ hr4 (by rw [bsD_size]; omega)).mono ?_
   rintro x w5 ⟨⟨v5,rfl⟩,hg5,hr5⟩
   rw [bsD_list] at hr5
   have hk5:=blk_gb hk4 hg5 (by omega)
   have hx5:=blk_gb hx4 hg5 (by have:=hr3.lt; omega)
   have hg6:=grown_trans hg4 hg5
   have hz5:=hg5.size
   have q5:=hr5.cell 0
   rw [HSB.out] at hr5 q5
   go_wp2_with fail
   refine (jr_bad _).mono ?_
   rintro x w8 ⟨rfl,rfl⟩
   go_wp2_with (refine wpList_store_row rfl 27 (.tmp 2) (.tmp 25) rfl (w.heap.size) zeroC rfl rfl 27 _ hk5 (by kernel_rfl) rfl (by simp [Value.oneCell']) ?_)
   refine bodyPost_ret (results_cell (T:=27) rfl rfl rfl (blk_row hk5 zeroC) Tryz.underlying27 rfl (by kernel_rfl)) rfl ?_
   exact ⟨grown_at hg6 (grown_row _ _ _) (by omega),⟨rfl,.inr rfl⟩,sb,0,blk_row_other hr5 (by omega) _,HSZ.out⟩
end Go.Proofs.YtfckekaegjjmkaaGreatDoor
namespace Go.Proofs.YtfckekaegjjmkaaGreatDoor
open Go.RowKit Go.Shelf
attribute [local go_sem] Oper.semAt_some

theorem ety_grown {A B:World} {p:Nat} (h:ErrTyJ A) (hg:A.grownBy B (some p)) (hp:2 ≠ p):ErrTyJ B:=by
 have hlt:=World.block_lt_of_cell? A ⟨2,0,none⟩ h
 have hb:=hg.block 2 hlt (fun e=>hp (by injection e))
 have h':A.cell? ⟨2,0,none⟩=_:=h
 show B.cell? ⟨2,0,none⟩=_
 unfold World.cell? at h' ⊢
 simp only [hb]
 exact h'
def ReadP (w:World) (res:Int × Tr) (x:Ending) (w':World):Prop:=Below w.heap.size w w' ∧ ∃ A n c,x=.returned (.tuple #[nodeV res.2.own (.slice A n c),.int .i64 res.1]) ∧ LAt w' (fun q=>w.heap.size ≤ q ∧ q < w'.heap.size) 16 res.2.kids (.slice A n c) ∧ OwnOk res.2.own
theorem own_zero:OwnOk zeroO:=⟨by decide,by decide,by decide,by decide,by decide,by decide⟩

set_option maxHeartbeats 8000000 in
set_option maxRecDepth 100000 in
theorem jr_Read {uT uQ aT aF:Addr} (s:ByteArray) (hs:s.size ≤ 100000000) (w:World) (h:JRW w uT uQ aT aF) :
  Calls Tryz.prog 25 #[.string s] w (ReadP w (readJ uqJ s.data.toList)):=by
 have hsl:s.data.toList.length=s.size:=by simp
 have hgl:2 < w.heap.size:=World.block_lt_of_cell? w ⟨2,0,none⟩ h.ty
 unfold readJ
 by_cases h4:4000 < s.data.toList.length
 ·rw [if_pos h4]
  rw [hsl] at h4
  have y1:(4000:Int) < s.size:=by omega
  have hk1:=Blk.new w zeroC 27
  have hb1:Below w.heap.size w (w.alloc (.cells zeroC 27)):=(Below.refl _ w).alloc (Nat.le_refl _) _
  clear h4 hsl h
  go_enter Tryz.func25,Tryz.ntmps25
  go_wp2_with (refine wpList_store_row rfl 27 (.tmp 2) (.tmp 10) rfl (w.heap.size) zeroC rfl rfl 27 _ hk1 (by kernel_rfl) rfl (by simp [Value.oneCell']) ?_)
  refine bodyPost_ret (results_cell (T:=27) rfl rfl rfl (blk_row hk1 zeroC) Tryz.underlying27 rfl (by kernel_rfl)) rfl ?_
  exact ⟨hb1.grown (grown_row _ _ _) hb1.size (fun q e=>by cases e; omega),none,0,0,rfl,LAt.nil _ _ _ _ _,own_zero⟩
 ·rw [if_neg h4]
  rw [hsl] at h4 ⊢
  have y1:¬ (4000:Int) < s.size:=by omega
  have hb2:Below w.heap.size w ((w.alloc (.cells zeroC 27)).alloc (.cells #[.string s,.int .i64 0] 60)):=((Below.refl _ w).alloc (Nat.le_refl _) _).alloc (by simp) _
  have hk2:=(Blk.new w zeroC 27).alloc (.cells #[.string s,.int .i64 0] 60)
  have hr2:RdJ ((w.alloc (.cells zeroC 27)).alloc (.cells #[.string s,.int .i64 0] 60)) (w.heap.size + 1) s 0:=by
   have:=Blk.new (w.alloc (.cells zeroC 27)) #[.string s,.int .i64 0] 60
   rw [World.size_alloc] at this
   exact this
  have hz2:((w.alloc (.cells zeroC 27)).alloc (.cells #[.string s,.int .i64 0] 60)).heap.size=w.heap.size + 2:=by simp
  have HD:=jr_document h (s.size + 1) (w.heap.size + 1) s ((w.alloc (.cells zeroC 27)).alloc (.cells #[.string s,.int .i64 0] 60)) hb2 (by omega) hr2 hs (Nat.lt_succ_self _)
  have HTY:=Lib.hid (fun W (hb:Below w.heap.size w W)=>(h.below hb).ty)
  clear h hsl h4
  cases hx:docJ uqJ (s.size + 1) s.data.toList with
  | bad e =>
   rw [hx] at HD
   have HD:Hid (Calls Tryz.prog 39 #[.pointer (some ⟨w.heap.size + 1,0,none⟩)] ((w.alloc (.cells zeroC 27)).alloc (.cells #[.string s,.int .i64 0] 60)) fun x w'=>((w.alloc (.cells zeroC 27)).alloc (.cells #[.string s,.int .i64 0] 60)).grownBy w' (some (w.heap.size + 1)) ∧ (x=.returned (.tuple #[.agg zeroC,errJ e]) ∧ (e=60 ∨ e=80)) ∧ ∃ s' d',RdJ w' (w.heap.size + 1) s' d' ∧ s'.size ≤ s.size):=Lib.hid HD
   have HT:=Lib.hid (fun W (h:ErrTyJ W)=>jr_told e W h)
   simp only []
   clear hx
   obtain ⟨tv,hy⟩:∃ y,errJ e=.iface 91 y:=⟨_,rfl⟩
   rw [hy] at HD HT
   clear hy
   go_enter Tryz.func25,Tryz.ntmps25
   go_wp2_with fail
   refine HD.out.mono ?_
   rintro x w3 ⟨hg3,⟨rfl,he⟩,s',d',hr3,hs3⟩
   have hb3:=hb2.trans (grown_below hg3 (by omega) hr2.lt)
   have hk4':=(blk_gb hk2 hg3 (by omega)).alloc (.cells zeroC 27)
   have hb4':=hb3.alloc hb3.size (.cells zeroC 27)
   have hx4':=Blk.new w3 zeroC 27
   have hz3:=hg3.size
   go_wp2_with fail
   obtain ⟨w4,hw4⟩:∃ x,w3.alloc (.cells zeroC 27)=x:=⟨_,rfl⟩
   rw [hw4] at hk4' hb4' hx4'
   have hk4:Blk w4.drew w.heap.size zeroC 27:=hk4'
   have hb4:=hb4'
   have hx4:Blk w4.drew w3.heap.size zeroC 27:=hx4'
   have HTY4:Hid (ErrTyJ w4.drew):=Lib.hid (HTY.out w4 hb4)
   first | rw [hw4] | skip
   refine wp_region_allG (R:=fun A B=>A.grownBy B (some w.heap.size)) (by kernel_rfl) (by kernel_rfl) (fun _=>grown_refl _ _) (by kernel_rfl) (fun Wx=>Blk Wx w3.heap.size zeroC 27 ∧ ErrTyJ Wx)
    [fun env _=>env 0=.agg zeroC,fun env _=>env 1=.iface 91 tv,fun env _=>env 2=.int .i64 e,fun _ _=>True,fun env _=>env 4=.int .i64 e]
    (fun sel _ Wx=>w4.grownBy Wx (some w.heap.size) ∧ Blk Wx w.heap.size (if sel 3=true then zeroC else zeroC) 27) ?_ ?_ ?_ ?_ ?_ ?_
   case refine_1=>exact ⟨hx4,HTY4.out⟩
   case refine_2=>exact fun _=>⟨grown_drew w4 _ 1,hk4⟩
   case refine_3=>exact fun A B hE hg=>⟨blk_gb hE.1 hg (by omega),ety_grown hE.2 hg (by omega)⟩
   case refine_4 =>
    intro i o env env' A B ho hk _ hp _
    have e:∀ k,k=i → env' k=env k:=fun k h=>(hk k (.inl h)).symm
    unfold phisG at hp ⊢
    match i,ho,hp,e with
    | 0,_,hp,e=>exact (e 0 rfl).trans hp
    | 1,_,hp,e=>exact (e 1 rfl).trans hp
    | 2,_,hp,e=>exact (e 2 rfl).trans hp
    | 3,_,_,_=>trivial
    | 4,_,hp,e=>exact (e 4 rfl).trans hp
    | i + 5,ho,_,_=>simp at ho
   case refine_5 =>
    refine flow_consG (flow_opG rfl rfl (by kernel_rfl) (by kernel_rfl) ?_) ?_
    ·intro sel env W hE hn hx hs hwt ρ hρ hc hf hg K hK
     have r5:ρ (.tmp 5)=.pointer (some ⟨w3.heap.size,0,none⟩):=by rw [hρ]; kernel_rfl
     clear hρ hg
     exact lands_load_row 27 (.tmp 5) rfl w3.heap.size r5 27 _ (0,0) _ hE.1 Tryz.underlying27 rfl (by kernel_rfl) (hK _ _ (updV_self _ _ _) ⟨hx.1,by rw [updB_ne sel (show (3:Nat) ≠ 0 by decide)]; exact hx.2⟩ (grown_refl _ _))
    refine flow_consG (flow_opG rfl rfl (by kernel_rfl) (by kernel_rfl) ?_) ?_
    ·intro sel env W hE hn hx hs hwt ρ hρ hc hf hg K hK
     have r6:ρ (.tmp 6)=.iface 91 tv:=by rw [hρ]; kernel_rfl
     clear hρ hg
     simp [opLands,go_sem,r6]
     exact hK _ _ (updV_self _ _ _) ⟨hx.1,by rw [updB_ne sel (show (3:Nat) ≠ 1 by decide)]; exact hx.2⟩ (grown_refl _ _)
    refine flow_consG (flow_opG rfl rfl (by kernel_rfl) (by kernel_rfl) ?_) ?_
    ·intro sel env W hE hn hx hs hwt ρ hρ hc hf hg K hK
     have r21:=(show ρ (.tmp 21)=env 1 by rw [hρ]; kernel_rfl).trans (hn 1 (hwt 1 (by kernel_rfl)))
     clear hρ hg
     refine lands_call rfl (by kernel_rfl) hf ?_
     simp only [List.map_toArray,List.map_cons,List.map_nil,r21]
     refine (HT.out W hE.2).mono ?_
     rintro e w'' ⟨rfl,hbt⟩
     exact ⟨_,rfl,hK _ _ (updV_self _ _ _) ⟨grown_of hx.1 hbt,by rw [updB_ne sel (show (3:Nat) ≠ 2 by decide)]; exact hx.2.below hbt hx.2.lt⟩ (below_grown hbt _)⟩
    refine flow_consG (flow_op0G rfl rfl (by kernel_rfl) rfl ?_) ?_
    ·intro sel env W hE hn hx hs hwt ρ hρ hc hf hg K hK
     have r2:ρ (.tmp 2)=.pointer (some ⟨w.heap.size,0,none⟩):=by rw [hρ]; kernel_rfl
     have r20:=(show ρ (.tmp 20)=env 0 by rw [hρ]; kernel_rfl).trans (hn 0 (hwt 0 (by kernel_rfl)))
     clear hρ hg
     have hb:=hx.2
     rw [hs,if_neg (by decide)] at hb
     exact lands_store_row 27 (.tmp 2) (.tmp 20) rfl w.heap.size zeroC r2 r20 27 _ hb (by kernel_rfl) rfl (by simp [Value.oneCell']) (hK undef _ trivial ⟨grown_trans hx.1 (grown_row _ _ _),by rw [updB_self,if_pos rfl]; exact blk_row hb _⟩ (grown_row _ _ _))
    refine flow_consG (flow_opG rfl rfl (by kernel_rfl) (by kernel_rfl) ?_) flow_nilG
    ·intro sel env W hE hn hx hs hwt ρ hρ hc hf hg K hK
     have r22:=(show ρ (.tmp 22)=env 2 by rw [hρ]; kernel_rfl).trans (hn 2 (hwt 2 (by kernel_rfl)))
     clear hρ hg
     simp [opLands,go_sem,r22]
     exact hK _ _ (updV_self _ _ _) ⟨hx.1,by rw [updB_ne sel (show (3:Nat) ≠ 4 by decide)]; exact hx.2⟩ (grown_refl _ _)
   case refine_6 =>
    intro env W hE hn hx
    have e4:env 4=.int .i64 e:=hn 4 (by decide)
    have hk7:Blk W w.heap.size zeroC 27:=hx.2
    have hgW:=hx.1
    have hgE:=grown_trans (below_grown hb4 (some w.heap.size)) hgW
    have hbF:Below w.heap.size w W:=⟨hgE.os,hgE.tape,hgE.output,hgE.size,fun q hq=>hgE.block q hq (fun e=>by injection e with e; omega)⟩
    refine (‹∀ (a:Act) (w:World),Code.wp _ Code.ret _ a w → _›) _ _ (wp_ret ?_)
    refine bodyPost_ret (results_cell (T:=27) (b:=w.heap.size) rfl (by kernel_rfl) ((show _=env 4 by kernel_rfl).trans e4) hk7 Tryz.underlying27 rfl (by kernel_rfl)) rfl ?_
    exact ⟨hbF,none,0,0,rfl,LAt.nil _ _ _ _ _,own_zero⟩
  | good t r =>
   rw [hx] at HD
   obtain ⟨⟨kind3,b3,neg3,dg3,ex3,u3,wd3,s3⟩,ho3⟩:∃ o,t.own=o:=⟨_,rfl⟩
   have HO3:=Lib.hid ho3
   have HD:Hid (Calls Tryz.prog 39 #[.pointer (some ⟨w.heap.size + 1,0,none⟩)] ((w.alloc (.cells zeroC 27)).alloc (.cells #[.string s,.int .i64 0] 60)) fun x w'=>((w.alloc (.cells zeroC 27)).alloc (.cells #[.string s,.int .i64 0] 60)).grownBy w' (some (w.heap.size + 1)) ∧ (∃ A n c,x=.returned (.tuple #[.agg #[.int .i64 kind3,.bool b3,.bool neg3,.string dg3,.int .i64 ex3,.int .u64 u3,.int .i64 wd3,.string s3,.slice A n c],.nilIface]) ∧ LAt w' (fun q=>((w.alloc (.cells zeroC 27)).alloc (.cells #[.string s,.int .i64 0] 60)).heap.size ≤ q ∧ q < w'.heap.size) 16 t.kids (.slice A n c)) ∧ OwnOk t.own ∧ RdJ w' (w.heap.size + 1) (bsD r) 0 ∧ r.length ≤ s.size):=Lib.hid (by
    unfold ReadJ at HD
    simp only [nodeV,ho3] at HD
    rw [ho3]
    exact HD)
   have HT:=Lib.hid (fun W (_:ErrTyJ W)=>jr_told0 W)
   simp only []
   clear hx ho3
   go_enter Tryz.func25,Tryz.ntmps25
   go_wp2_with fail
   refine HD.out.mono ?_
   rintro x w3 ⟨hg3,⟨A,n,c,rfl,hly⟩,hot,hr3,hs3⟩
   have hb3:=hb2.trans (grown_below hg3 (by omega) hr2.lt)
   have hk4':=(blk_gb hk2 hg3 (by omega)).alloc (.cells #[.int .i64 kind3,.bool b3,.bool neg3,.string dg3,.int .i64 ex3,.int .u64 u3,.int .i64 wd3,.string s3,.slice A n c] 27)
   have hb4':=hb3.alloc hb3.size (.cells #[.int .i64 kind3,.bool b3,.bool neg3,.string dg3,.int .i64 ex3,.int .u64 u3,.int .i64 wd3,.string s3,.slice A n c] 27)
   have hx4':=Blk.new w3 #[.int .i64 kind3,.bool b3,.bool neg3,.string dg3,.int .i64 ex3,.int .u64 u3,.int .i64 wd3,.string s3,.slice A n c] 27
   have hz3:=hg3.size
   have HLY:=Lib.hid hly
   clear hly
   go_wp2_with fail
   obtain ⟨w4,hw4⟩:∃ x,w3.alloc (.cells #[.int .i64 kind3,.bool b3,.bool neg3,.string dg3,.int .i64 ex3,.int .u64 u3,.int .i64 wd3,.string s3,.slice A n c] 27)=x:=⟨_,rfl⟩
   have hb34:Below w3.heap.size w3 w4:=by rw [← hw4]; exact (Below.refl _ _).alloc (Nat.le_refl _) _
   rw [hw4] at hk4' hb4' hx4'
   have hk4:Blk w4.drew w.heap.size zeroC 27:=hk4'
   have hb4:=hb4'
   have hx4:Blk w4.drew w3.heap.size #[.int .i64 kind3,.bool b3,.bool neg3,.string dg3,.int .i64 ex3,.int .u64 u3,.int .i64 wd3,.string s3,.slice A n c] 27:=hx4'
   have HTY4:Hid (ErrTyJ w4.drew):=Lib.hid (HTY.out w4 hb4)
   first | rw [hw4] | skip
   refine wp_region_allG (R:=fun A B=>A.grownBy B (some w.heap.size)) (by kernel_rfl) (by kernel_rfl) (fun _=>grown_refl _ _) (by kernel_rfl) (fun Wx=>Blk Wx w3.heap.size #[.int .i64 kind3,.bool b3,.bool neg3,.string dg3,.int .i64 ex3,.int .u64 u3,.int .i64 wd3,.string s3,.slice A n c] 27 ∧ ErrTyJ Wx)
    [fun env _=>env 0=.agg #[.int .i64 kind3,.bool b3,.bool neg3,.string dg3,.int .i64 ex3,.int .u64 u3,.int .i64 wd3,.string s3,.slice A n c],fun env _=>env 1=.nilIface,fun env _=>env 2=.int .i64 0,fun _ _=>True,fun env _=>env 4=.int .i64 0]
    (fun sel _ Wx=>w4.grownBy Wx (some w.heap.size) ∧ Blk Wx w.heap.size (if sel 3=true then #[.int .i64 kind3,.bool b3,.bool neg3,.string dg3,.int .i64 ex3,.int .u64 u3,.int .i64 wd3,.string s3,.slice A n c] else zeroC) 27) ?_ ?_ ?_ ?_ ?_ ?_
   case refine_1=>exact ⟨hx4,HTY4.out⟩
   case refine_2=>exact fun _=>⟨grown_drew w4 _ 1,hk4⟩
   case refine_3=>exact fun A B hE hg=>⟨blk_gb hE.1 hg (by omega),ety_grown hE.2 hg (by omega)⟩
   case refine_4 =>
    intro i o env env' A B ho hk _ hp _
    have e:∀ k,k=i → env' k=env k:=fun k h=>(hk k (.inl h)).symm
    unfold phisG at hp ⊢
    match i,ho,hp,e with
    | 0,_,hp,e=>exact (e 0 rfl).trans hp
    | 1,_,hp,e=>exact (e 1 rfl).trans hp
    | 2,_,hp,e=>exact (e 2 rfl).trans hp
    | 3,_,_,_=>trivial
    | 4,_,hp,e=>exact (e 4 rfl).trans hp
    | i + 5,ho,_,_=>simp at ho
   case refine_5 =>
    refine flow_consG (flow_opG rfl rfl (by kernel_rfl) (by kernel_rfl) ?_) ?_
    ·intro sel env W hE hn hx hs hwt ρ hρ hc hf hg K hK
     have r5:ρ (.tmp 5)=.pointer (some ⟨w3.heap.size,0,none⟩):=by rw [hρ]; kernel_rfl
     clear hρ hg
     exact lands_load_row 27 (.tmp 5) rfl w3.heap.size r5 27 _ (0,0) _ hE.1 Tryz.underlying27 rfl (by kernel_rfl) (hK _ _ (updV_self _ _ _) ⟨hx.1,by rw [updB_ne sel (show (3:Nat) ≠ 0 by decide)]; exact hx.2⟩ (grown_refl _ _))
    refine flow_consG (flow_opG rfl rfl (by kernel_rfl) (by kernel_rfl) ?_) ?_
    ·intro sel env W hE hn hx hs hwt ρ hρ hc hf hg K hK
     have r6:ρ (.tmp 6)=.nilIface:=by rw [hρ]; kernel_rfl
     clear hρ hg
     simp [opLands,go_sem,r6]
     exact hK _ _ (updV_self _ _ _) ⟨hx.1,by rw [updB_ne sel (show (3:Nat) ≠ 1 by decide)]; exact hx.2⟩ (grown_refl _ _)
    refine flow_consG (flow_opG rfl rfl (by kernel_rfl) (by kernel_rfl) ?_) ?_
    ·intro sel env W hE hn hx hs hwt ρ hρ hc hf hg K hK
     have r21:=(show ρ (.tmp 21)=env 1 by rw [hρ]; kernel_rfl).trans (hn 1 (hwt 1 (by kernel_rfl)))
     clear hρ hg
     refine lands_call rfl (by kernel_rfl) hf ?_
     simp only [List.map_toArray,List.map_cons,List.map_nil,r21]
     refine (HT.out W hE.2).mono ?_
     rintro e w'' ⟨rfl,hbt⟩
     exact ⟨_,rfl,hK _ _ (updV_self _ _ _) ⟨grown_of hx.1 hbt,by rw [updB_ne sel (show (3:Nat) ≠ 2 by decide)]; exact hx.2.below hbt hx.2.lt⟩ (below_grown hbt _)⟩
    refine flow_consG (flow_op0G rfl rfl (by kernel_rfl) rfl ?_) ?_
    ·intro sel env W hE hn hx hs hwt ρ hρ hc hf hg K hK
     have r2:ρ (.tmp 2)=.pointer (some ⟨w.heap.size,0,none⟩):=by rw [hρ]; kernel_rfl
     have r20:=(show ρ (.tmp 20)=env 0 by rw [hρ]; kernel_rfl).trans (hn 0 (hwt 0 (by kernel_rfl)))
     clear hρ hg
     have hb:=hx.2
     rw [hs,if_neg (by decide)] at hb
     exact lands_store_row 27 (.tmp 2) (.tmp 20) rfl w.heap.size #[.int .i64 kind3,.bool b3,.bool neg3,.string dg3,.int .i64 ex3,.int .u64 u3,.int .i64 wd3,.string s3,.slice A n c] r2 r20 27 _ hb (by kernel_rfl) rfl (by simp [Value.oneCell']) (hK undef _ trivial ⟨grown_trans hx.1 (grown_row _ _ _),by rw [updB_self,if_pos rfl]; exact blk_row hb _⟩ (grown_row _ _ _))
    refine flow_consG (flow_opG rfl rfl (by kernel_rfl) (by kernel_rfl) ?_) flow_nilG
    ·intro sel env W hE hn hx hs hwt ρ hρ hc hf hg K hK
     have r22:=(show ρ (.tmp 22)=env 2 by rw [hρ]; kernel_rfl).trans (hn 2 (hwt 2 (by kernel_rfl)))
     clear hρ hg
     simp [opLands,go_sem,r22]
     exact hK _ _ (updV_self _ _ _) ⟨hx.1,by rw [updB_ne sel (show (3:Nat) ≠ 4 by decide)]; exact hx.2⟩ (grown_refl _ _)
   case refine_6 =>
    intro env W hE hn hx
    have e4:env 4=.int .i64 0:=hn 4 (by decide)
    have hk7:Blk W w.heap.size #[.int .i64 kind3,.bool b3,.bool neg3,.string dg3,.int .i64 ex3,.int .u64 u3,.int .i64 wd3,.string s3,.slice A n c] 27:=hx.2
    have hgW:=hx.1
    have hgE:=grown_trans (below_grown hb4 (some w.heap.size)) hgW
    have hbF:Below w.heap.size w W:=⟨hgE.os,hgE.tape,hgE.output,hgE.size,fun q hq=>hgE.block q hq (fun e=>by injection e with e; omega)⟩
    refine (‹∀ (a:Act) (w:World),Code.wp _ Code.ret _ a w → _›) _ _ (wp_ret ?_)
    refine bodyPost_ret (results_cell (T:=27) (b:=w.heap.size) rfl (by kernel_rfl) ((show _=env 4 by kernel_rfl).trans e4) hk7 Tryz.underlying27 rfl (by kernel_rfl)) rfl ?_
    refine ⟨hbF,A,n,c,by rw [HO3.out]; rfl,?_,hot⟩
    have hz4:=hb34.size
    have hzW:=hgW.size
    refine (((HLY.out.keep (W':=w4) (fun q hq=>hb34.block q hq.2)).keep (W':=W) (fun q hq=>hgW.block q (by omega) (fun e=>by injection e with e; have:=hq.1; omega))).mono (fun q hq=>⟨by have:=hq.1; omega,by have:=hq.2; omega⟩))

end Go.Proofs.YtfckekaegjjmkaaGreatDoor
namespace Go.Proofs.YtfckekaegjjmkaaGreatDoor
open Go.RowKit Go.Shelf
attribute [local go_sem] Oper.semAt_some

theorem LAt.lenJ {W:World} {S:Nat → Prop} {d n c:Nat} {l:List Tr} {A:Option Addr} (h:LAt W S d l (.slice A n c)):n=l.length:=by
 obtain ⟨_,A',c',e⟩:=h.slice
 injection e
noncomputable abbrev RJ (s:ByteArray):Int × Tr:=readJ uqJ s.data.toList
end Go.Proofs.YtfckekaegjjmkaaGreatDoor
namespace Go.Proofs.YtfckekaegjjmkaaGreatDoor
open Go.RowKit Go.Shelf
attribute [local go_sem] Oper.semAt_some

theorem check_count {f:Int} {fl:Own → Bool} {t:Tr} (h:checkT f fl t=0):t.count ≤ 300:=by
 unfold checkT at h
 split at h
 ·rename_i hr
  unfold rightT at hr
  rw [Bool.and_eq_true,decide_eq_true_iff] at hr
  exact hr.1
 ·cases h
theorem rj_cases (s:ByteArray):(((RJ s).1=80 ∨ (RJ s).1=60 ∨ ((RJ s).1=81 ∧ 4000 < s.size)) ∧ (RJ s).2=.nd zeroO []) ∨ ((RJ s).1=0 ∧ checkT 1 flJ (RJ s).2=0 ∧ (RJ s).2.count ≤ 300):=by
 have hlen:s.data.toList.length=s.size:=by simp
 have hc:=readJ_cases (U:=uqJ) s.data.toList
 rw [hlen] at hc
 rcases hc with ⟨_,h2,h3⟩ | ⟨h1,h2,_⟩
 ·exact .inl ⟨h3,h2⟩
 ·exact .inr ⟨h1,h2,check_count h2⟩

end Go.Proofs.YtfckekaegjjmkaaGreatDoor
