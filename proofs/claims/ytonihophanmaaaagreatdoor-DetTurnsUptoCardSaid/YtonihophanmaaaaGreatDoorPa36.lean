/- The texts CrK, CrLc, put together. -/
import Derived.Test.YtonihophanmaaaaGreatDoorPa35
import Derived.Test.YtonihophanmaaaaGreatDoorPa18
namespace Go.Proofs.YtonihophanmaaaaGreatDoor
open Go.RowKit Go.Shelf
def ReadN (p d D:Nat) (w:World) (s:ByteArray) (r:PR Tr) (x:Ending) (w':World):Prop:=
 w.grownBy w' (some p)∧match r with
  | .good t r=>(∃ A n c,x=.returned (.tuple #[nodeV t.own (.slice A n c),.nilIface])∧LAt w' (fun q=>w.heap.size≤q∧q<w'.heap.size) D t.kids (.slice A n c))∧OwnOk t.own∧RdB w' p (bs r) d∧(bs r).size≤s.size
  | .bad e=>(∃ o A n c,x=.returned (.tuple #[nodeV o (.slice A n c),errW e]))∧e≠0∧∃ s',RdB w' p s' d∧s'.size≤s.size
def mapR {α β:Type} (f:α→β):PR α→PR β
 | .good a r=>.good (f a) r
 | .bad e=>.bad e
theorem bind_pure {α β:Type} (p:Psr α) (f:α→β) (l:List UInt8):bindP p (fun a=>pureP (f a)) l=mapR f (p l):=by
 unfold bindP
 cases p l <;> rfl
set_option maxHeartbeats 4000000 in
set_option maxRecDepth 100000 in
theorem cr_other (p d:Nat) (h:Nat×Nat×Nat) (s:ByteArray) (w:World) (hr:RdB w p s d) (h1:h.2.1≤31) (h2:h.2.2<18446744073709551616) :
  Calls Tryz.prog 149 #[.pointer (some ⟨p,0,none⟩),startV h] w (ReadN p d 0 w s (otherP h s.data.toList)):=by
 obtain ⟨hm,hi,ha⟩:=h
 simp only []at h1 h2
 have hsb:=bs_of s
 have y3:(ha:Int)<18446744073709551616:=by omega
 unfold otherP
 simp only []
 by_cases i20:hi=20
 ·subst i20
  rw [if_pos (.inl rfl)]
  show Calls _ _ _ _ (ReadN p d 0 w s (.good (boolT (decide ((20:Nat)=21))) s.data.toList))
  have hb1:=(Below.refl w.heap.size w).alloc (Nat.le_refl _) (.cells #[.int .i64 hm,.int .i64 20,.int .u64 ha] 137)
  have hb2:=hb1.alloc hb1.size (.cells #[.int .i64 2,.bool false,.bool false,.string ⟨#[]⟩,.int .i64 0,.int .u64 0,.int .i64 0,.string ⟨#[]⟩,.slice none 0 0] 28)
  have hk1:=(Blk.new w #[.int .i64 hm,.int .i64 20,.int .u64 ha] 137).alloc (.cells #[.int .i64 0,.bool false,.bool false,.string ⟨#[]⟩,.int .i64 0,.int .u64 0,.int .i64 0,.string ⟨#[]⟩,.slice none 0 0] 28)
  have hk2:=Blk.new (w.alloc (.cells #[.int .i64 hm,.int .i64 20,.int .u64 ha] 137)) #[.int .i64 2,.bool false,.bool false,.string ⟨#[]⟩,.int .i64 0,.int .u64 0,.int .i64 0,.string ⟨#[]⟩,.slice none 0 0] 28
  have hr2:=(hr.alloc (.cells #[.int .i64 hm,.int .i64 20,.int .u64 ha] 137)).alloc (.cells #[.int .i64 2,.bool false,.bool false,.string ⟨#[]⟩,.int .i64 0,.int .u64 0,.int .i64 0,.string ⟨#[]⟩,.slice none 0 0] 28)
  rw [World.size_alloc]at hk2
  have z0:=hk1.cell 0
  have z1:=hk1.cell 1
  have z2:=hk1.cell 2
  have hplt:=hr.lt
  clear hb1
  go_enter Tryz.func149,Tryz.ntmps149
  go_wp2_with fail
  refine bodyPost_ret (results_cell (T:=28) rfl rfl rfl hk2 Tryz.underlying28 rfl (by kernel_rfl)) rfl ?_
  exact ⟨below_grown hb2 _,⟨none,0,0,rfl,LAt.nil _ _ _ _ _⟩,⟨by decide,by decide,by decide,by decide,by decide,by decide⟩,by rw [hsb]; exact hr2,by rw [hsb]; exact Nat.le_refl _⟩
 by_cases i21:hi=21
 ·subst i21
  rw [if_pos (.inr rfl)]
  show Calls _ _ _ _ (ReadN p d 0 w s (.good (boolT (decide ((21:Nat)=21))) s.data.toList))
  have hb1:=(Below.refl w.heap.size w).alloc (Nat.le_refl _) (.cells #[.int .i64 hm,.int .i64 21,.int .u64 ha] 137)
  have hb2:=hb1.alloc hb1.size (.cells #[.int .i64 2,.bool true,.bool false,.string ⟨#[]⟩,.int .i64 0,.int .u64 0,.int .i64 0,.string ⟨#[]⟩,.slice none 0 0] 28)
  have hk1:=(Blk.new w #[.int .i64 hm,.int .i64 21,.int .u64 ha] 137).alloc (.cells #[.int .i64 0,.bool false,.bool false,.string ⟨#[]⟩,.int .i64 0,.int .u64 0,.int .i64 0,.string ⟨#[]⟩,.slice none 0 0] 28)
  have hk2:=Blk.new (w.alloc (.cells #[.int .i64 hm,.int .i64 21,.int .u64 ha] 137)) #[.int .i64 2,.bool true,.bool false,.string ⟨#[]⟩,.int .i64 0,.int .u64 0,.int .i64 0,.string ⟨#[]⟩,.slice none 0 0] 28
  have hr2:=(hr.alloc (.cells #[.int .i64 hm,.int .i64 21,.int .u64 ha] 137)).alloc (.cells #[.int .i64 2,.bool true,.bool false,.string ⟨#[]⟩,.int .i64 0,.int .u64 0,.int .i64 0,.string ⟨#[]⟩,.slice none 0 0] 28)
  rw [World.size_alloc]at hk2
  have z0:=hk1.cell 0
  have z1:=hk1.cell 1
  have z2:=hk1.cell 2
  have hplt:=hr.lt
  clear hb1
  go_enter Tryz.func149,Tryz.ntmps149
  go_wp2_with fail
  refine bodyPost_ret (results_cell (T:=28) rfl rfl rfl hk2 Tryz.underlying28 rfl (by kernel_rfl)) rfl ?_
  exact ⟨below_grown hb2 _,⟨none,0,0,rfl,LAt.nil _ _ _ _ _⟩,⟨by decide,by decide,by decide,by decide,by decide,by decide⟩,by rw [hsb]; exact hr2,by rw [hsb]; exact Nat.le_refl _⟩
 rw [if_neg (fun h=>h.elim i20 i21)]
 by_cases i22:hi=22
 ·subst i22
  rw [if_pos rfl]
  show Calls _ _ _ _ (ReadN p d 0 w s (.good nilT s.data.toList))
  have hb1:=(Below.refl w.heap.size w).alloc (Nat.le_refl _) (.cells #[.int .i64 hm,.int .i64 22,.int .u64 ha] 137)
  have hb2:=hb1.alloc hb1.size (.cells #[.int .i64 1,.bool false,.bool false,.string ⟨#[]⟩,.int .i64 0,.int .u64 0,.int .i64 0,.string ⟨#[]⟩,.slice none 0 0] 28)
  have hk1:=(Blk.new w #[.int .i64 hm,.int .i64 22,.int .u64 ha] 137).alloc (.cells #[.int .i64 0,.bool false,.bool false,.string ⟨#[]⟩,.int .i64 0,.int .u64 0,.int .i64 0,.string ⟨#[]⟩,.slice none 0 0] 28)
  have hk2:=Blk.new (w.alloc (.cells #[.int .i64 hm,.int .i64 22,.int .u64 ha] 137)) #[.int .i64 1,.bool false,.bool false,.string ⟨#[]⟩,.int .i64 0,.int .u64 0,.int .i64 0,.string ⟨#[]⟩,.slice none 0 0] 28
  have hr2:=(hr.alloc (.cells #[.int .i64 hm,.int .i64 22,.int .u64 ha] 137)).alloc (.cells #[.int .i64 1,.bool false,.bool false,.string ⟨#[]⟩,.int .i64 0,.int .u64 0,.int .i64 0,.string ⟨#[]⟩,.slice none 0 0] 28)
  rw [World.size_alloc]at hk2
  have z0:=hk1.cell 0
  have z1:=hk1.cell 1
  have z2:=hk1.cell 2
  have hplt:=hr.lt
  clear hb1
  go_enter Tryz.func149,Tryz.ntmps149
  go_wp2_with fail
  refine bodyPost_ret (results_cell (T:=28) rfl rfl rfl hk2 Tryz.underlying28 rfl (by kernel_rfl)) rfl ?_
  exact ⟨below_grown hb2 _,⟨none,0,0,rfl,LAt.nil _ _ _ _ _⟩,⟨by decide,by decide,by decide,by decide,by decide,by decide⟩,by rw [hsb]; exact hr2,by rw [hsb]; exact Nat.le_refl _⟩
 rw [if_neg i22]
 by_cases i24:hi=24
 ·subst i24
  rw [if_pos rfl]
  by_cases hlt:ha<32
  ·rw [if_pos hlt]
   have y5:(ha:Int)<32:=by omega
   show Calls _ _ _ _ (ReadN p d 0 w s (.bad 110))
   have HF:=Lib.hid (fun (W:World) (b:Nat) (hk:Blk W b #[.int .i64 110] 29)=>cr_first b 110 W hk)
   rw [if_neg (by decide)]at HF
   have hb1:=(Below.refl w.heap.size w).alloc (Nat.le_refl _) (.cells #[.int .i64 hm,.int .i64 24,.int .u64 ha] 137)
   have hb2:=hb1.alloc hb1.size (.cells #[.int .i64 0,.bool false,.bool false,.string ⟨#[]⟩,.int .i64 0,.int .u64 0,.int .i64 0,.string ⟨#[]⟩,.slice none 0 0] 28)
   have hk1:=(Blk.new w #[.int .i64 hm,.int .i64 24,.int .u64 ha] 137).alloc (.cells #[.int .i64 0,.bool false,.bool false,.string ⟨#[]⟩,.int .i64 0,.int .u64 0,.int .i64 0,.string ⟨#[]⟩,.slice none 0 0] 28)
   have hk2:=Blk.new (w.alloc (.cells #[.int .i64 hm,.int .i64 24,.int .u64 ha] 137)) #[.int .i64 0,.bool false,.bool false,.string ⟨#[]⟩,.int .i64 0,.int .u64 0,.int .i64 0,.string ⟨#[]⟩,.slice none 0 0] 28
   have hr2:=(hr.alloc (.cells #[.int .i64 hm,.int .i64 24,.int .u64 ha] 137)).alloc (.cells #[.int .i64 0,.bool false,.bool false,.string ⟨#[]⟩,.int .i64 0,.int .u64 0,.int .i64 0,.string ⟨#[]⟩,.slice none 0 0] 28)
   rw [World.size_alloc]at hk2
   have z0:=hk1.cell 0
   have z1:=hk1.cell 1
   have z2:=hk1.cell 2
   have hplt:=hr.lt
   clear hb1
   have hkE:=Blk.new ((w.alloc (.cells #[.int .i64 hm,.int .i64 24,.int .u64 ha] 137)).alloc (.cells #[.int .i64 0,.bool false,.bool false,.string ⟨#[]⟩,.int .i64 0,.int .u64 0,.int .i64 0,.string ⟨#[]⟩,.slice none 0 0] 28)) #[.int .i64 110] 29
   simp only [World.size_alloc]at hkE
   have hk3:=hk2.alloc (.cells #[.int .i64 110] 29)
   have hr3:=hr2.alloc (.cells #[.int .i64 110] 29)
   have hb3:=hb2.alloc hb2.size (.cells #[.int .i64 110] 29)
   go_enter Tryz.func149,Tryz.ntmps149
   go_wp2_with fail
   refine (HF.out _ _ hkE).mono ?_
   rintro e3 w3 ⟨rfl,rfl⟩
   go_wp2_with (refine wpList_store_row rfl 28 (.tmp 4) (.tmp 23) rfl (w.heap.size+1) #[.int .i64 0,.bool false,.bool false,.string ⟨#[]⟩,.int .i64 0,.int .u64 0,.int .i64 0,.string ⟨#[]⟩,.slice none 0 0] rfl rfl 28 _ hk3 (by kernel_rfl) rfl (by simp [Value.oneCell']) ?_)
   have hg:=grown_set_row (p:=p) hb3 (Nat.le_succ w.heap.size) #[.int .i64 0,.bool false,.bool false,.string ⟨#[]⟩,.int .i64 0,.int .u64 0,.int .i64 0,.string ⟨#[]⟩,.slice none 0 0]
   refine bodyPost_ret (results_cell (T:=28) rfl rfl rfl (blk_row hk3 #[.int .i64 0,.bool false,.bool false,.string ⟨#[]⟩,.int .i64 0,.int .u64 0,.int .i64 0,.string ⟨#[]⟩,.slice none 0 0]) Tryz.underlying28 rfl (by kernel_rfl)) rfl ?_
   exact ⟨hg,⟨zeroO,none,0,0,rfl⟩,by decide,s,blk_row_other hr3 (by omega) _,Nat.le_refl _⟩
  ·rw [if_neg hlt]
   have y5:¬ (ha:Int)<32:=by omega
   show Calls _ _ _ _ (ReadN p d 0 w s (.good (simpleT ha) s.data.toList))
   have hb1:=(Below.refl w.heap.size w).alloc (Nat.le_refl _) (.cells #[.int .i64 hm,.int .i64 24,.int .u64 ha] 137)
   have hb2:=hb1.alloc hb1.size (.cells #[.int .i64 10,.bool false,.bool false,.string ⟨#[]⟩,.int .i64 0,.int .u64 ha,.int .i64 0,.string ⟨#[]⟩,.slice none 0 0] 28)
   have hk1:=(Blk.new w #[.int .i64 hm,.int .i64 24,.int .u64 ha] 137).alloc (.cells #[.int .i64 0,.bool false,.bool false,.string ⟨#[]⟩,.int .i64 0,.int .u64 0,.int .i64 0,.string ⟨#[]⟩,.slice none 0 0] 28)
   have hk2:=Blk.new (w.alloc (.cells #[.int .i64 hm,.int .i64 24,.int .u64 ha] 137)) #[.int .i64 10,.bool false,.bool false,.string ⟨#[]⟩,.int .i64 0,.int .u64 ha,.int .i64 0,.string ⟨#[]⟩,.slice none 0 0] 28
   have hr2:=(hr.alloc (.cells #[.int .i64 hm,.int .i64 24,.int .u64 ha] 137)).alloc (.cells #[.int .i64 10,.bool false,.bool false,.string ⟨#[]⟩,.int .i64 0,.int .u64 ha,.int .i64 0,.string ⟨#[]⟩,.slice none 0 0] 28)
   rw [World.size_alloc]at hk2
   have z0:=hk1.cell 0
   have z1:=hk1.cell 1
   have z2:=hk1.cell 2
   have hplt:=hr.lt
   clear hb1
   go_enter Tryz.func149,Tryz.ntmps149
   go_wp2_with fail
   refine bodyPost_ret (results_cell (T:=28) rfl rfl rfl hk2 Tryz.underlying28 rfl (by kernel_rfl)) rfl ?_
   exact ⟨below_grown hb2 _,⟨none,0,0,rfl,LAt.nil _ _ _ _ _⟩,own_u 10 ha 0 (by decide) h2 (by decide),by rw [hsb]; exact hr2,by rw [hsb]; exact Nat.le_refl _⟩
 rw [if_neg i24]
 by_cases i25:hi=25
 ·subst i25
  rw [if_pos rfl]
  show Calls _ _ _ _ (ReadN p d 0 w s (.good (floatT ha 16) s.data.toList))
  have hb1:=(Below.refl w.heap.size w).alloc (Nat.le_refl _) (.cells #[.int .i64 hm,.int .i64 25,.int .u64 ha] 137)
  have hb2:=hb1.alloc hb1.size (.cells #[.int .i64 4,.bool false,.bool false,.string ⟨#[]⟩,.int .i64 0,.int .u64 ha,.int .i64 16,.string ⟨#[]⟩,.slice none 0 0] 28)
  have hk1:=(Blk.new w #[.int .i64 hm,.int .i64 25,.int .u64 ha] 137).alloc (.cells #[.int .i64 0,.bool false,.bool false,.string ⟨#[]⟩,.int .i64 0,.int .u64 0,.int .i64 0,.string ⟨#[]⟩,.slice none 0 0] 28)
  have hk2:=Blk.new (w.alloc (.cells #[.int .i64 hm,.int .i64 25,.int .u64 ha] 137)) #[.int .i64 4,.bool false,.bool false,.string ⟨#[]⟩,.int .i64 0,.int .u64 ha,.int .i64 16,.string ⟨#[]⟩,.slice none 0 0] 28
  have hr2:=(hr.alloc (.cells #[.int .i64 hm,.int .i64 25,.int .u64 ha] 137)).alloc (.cells #[.int .i64 4,.bool false,.bool false,.string ⟨#[]⟩,.int .i64 0,.int .u64 ha,.int .i64 16,.string ⟨#[]⟩,.slice none 0 0] 28)
  rw [World.size_alloc]at hk2
  have z0:=hk1.cell 0
  have z1:=hk1.cell 1
  have z2:=hk1.cell 2
  have hplt:=hr.lt
  clear hb1
  go_enter Tryz.func149,Tryz.ntmps149
  go_wp2_with fail
  go_region
  all_goals (
   go_wp2_with fail
   refine bodyPost_ret (results_cell (T:=28) rfl rfl rfl (Blk.drew hk2) Tryz.underlying28 rfl (by kernel_rfl)) rfl ?_
   exact ⟨below_grown (Below.drew hb2) _,⟨none,0,0,rfl,LAt.nil _ _ _ _ _⟩,own_u 4 ha 16 (by decide) h2 (by decide),by rw [hsb]; exact Blk.drew hr2,by rw [hsb]; exact Nat.le_refl _⟩)
 rw [if_neg i25]
 by_cases i26:hi=26
 ·subst i26
  rw [if_pos rfl]
  show Calls _ _ _ _ (ReadN p d 0 w s (.good (floatT ha 32) s.data.toList))
  have hb1:=(Below.refl w.heap.size w).alloc (Nat.le_refl _) (.cells #[.int .i64 hm,.int .i64 26,.int .u64 ha] 137)
  have hb2:=hb1.alloc hb1.size (.cells #[.int .i64 4,.bool false,.bool false,.string ⟨#[]⟩,.int .i64 0,.int .u64 ha,.int .i64 32,.string ⟨#[]⟩,.slice none 0 0] 28)
  have hk1:=(Blk.new w #[.int .i64 hm,.int .i64 26,.int .u64 ha] 137).alloc (.cells #[.int .i64 0,.bool false,.bool false,.string ⟨#[]⟩,.int .i64 0,.int .u64 0,.int .i64 0,.string ⟨#[]⟩,.slice none 0 0] 28)
  have hk2:=Blk.new (w.alloc (.cells #[.int .i64 hm,.int .i64 26,.int .u64 ha] 137)) #[.int .i64 4,.bool false,.bool false,.string ⟨#[]⟩,.int .i64 0,.int .u64 ha,.int .i64 32,.string ⟨#[]⟩,.slice none 0 0] 28
  have hr2:=(hr.alloc (.cells #[.int .i64 hm,.int .i64 26,.int .u64 ha] 137)).alloc (.cells #[.int .i64 4,.bool false,.bool false,.string ⟨#[]⟩,.int .i64 0,.int .u64 ha,.int .i64 32,.string ⟨#[]⟩,.slice none 0 0] 28)
  rw [World.size_alloc]at hk2
  have z0:=hk1.cell 0
  have z1:=hk1.cell 1
  have z2:=hk1.cell 2
  have hplt:=hr.lt
  clear hb1
  go_enter Tryz.func149,Tryz.ntmps149
  go_wp2_with fail
  go_region
  all_goals (
   go_wp2_with fail
   refine bodyPost_ret (results_cell (T:=28) rfl rfl rfl (Blk.drew hk2) Tryz.underlying28 rfl (by kernel_rfl)) rfl ?_
   exact ⟨below_grown (Below.drew hb2) _,⟨none,0,0,rfl,LAt.nil _ _ _ _ _⟩,own_u 4 ha 32 (by decide) h2 (by decide),by rw [hsb]; exact Blk.drew hr2,by rw [hsb]; exact Nat.le_refl _⟩)
 rw [if_neg i26]
 by_cases i27:hi=27
 ·subst i27
  rw [if_pos rfl]
  show Calls _ _ _ _ (ReadN p d 0 w s (.good (floatT ha 64) s.data.toList))
  have hb1:=(Below.refl w.heap.size w).alloc (Nat.le_refl _) (.cells #[.int .i64 hm,.int .i64 27,.int .u64 ha] 137)
  have hb2:=hb1.alloc hb1.size (.cells #[.int .i64 4,.bool false,.bool false,.string ⟨#[]⟩,.int .i64 0,.int .u64 ha,.int .i64 64,.string ⟨#[]⟩,.slice none 0 0] 28)
  have hk1:=(Blk.new w #[.int .i64 hm,.int .i64 27,.int .u64 ha] 137).alloc (.cells #[.int .i64 0,.bool false,.bool false,.string ⟨#[]⟩,.int .i64 0,.int .u64 0,.int .i64 0,.string ⟨#[]⟩,.slice none 0 0] 28)
  have hk2:=Blk.new (w.alloc (.cells #[.int .i64 hm,.int .i64 27,.int .u64 ha] 137)) #[.int .i64 4,.bool false,.bool false,.string ⟨#[]⟩,.int .i64 0,.int .u64 ha,.int .i64 64,.string ⟨#[]⟩,.slice none 0 0] 28
  have hr2:=(hr.alloc (.cells #[.int .i64 hm,.int .i64 27,.int .u64 ha] 137)).alloc (.cells #[.int .i64 4,.bool false,.bool false,.string ⟨#[]⟩,.int .i64 0,.int .u64 ha,.int .i64 64,.string ⟨#[]⟩,.slice none 0 0] 28)
  rw [World.size_alloc]at hk2
  have z0:=hk1.cell 0
  have z1:=hk1.cell 1
  have z2:=hk1.cell 2
  have hplt:=hr.lt
  clear hb1
  go_enter Tryz.func149,Tryz.ntmps149
  go_wp2_with fail
  go_region
  all_goals (
   go_wp2_with fail
   refine bodyPost_ret (results_cell (T:=28) rfl rfl rfl (Blk.drew hk2) Tryz.underlying28 rfl (by kernel_rfl)) rfl ?_
   exact ⟨below_grown (Below.drew hb2) _,⟨none,0,0,rfl,LAt.nil _ _ _ _ _⟩,own_u 4 ha 64 (by decide) h2 (by decide),by rw [hsb]; exact Blk.drew hr2,by rw [hsb]; exact Nat.le_refl _⟩)
 rw [if_neg i27]
 by_cases i31:hi=31
 ·subst i31
  rw [if_pos rfl]
  show Calls _ _ _ _ (ReadN p d 0 w s (.bad 110))
  have HF:=Lib.hid (fun (W:World) (b:Nat) (hk:Blk W b #[.int .i64 110] 29)=>cr_first b 110 W hk)
  rw [if_neg (by decide)]at HF
  have hb1:=(Below.refl w.heap.size w).alloc (Nat.le_refl _) (.cells #[.int .i64 hm,.int .i64 31,.int .u64 ha] 137)
  have hb2:=hb1.alloc hb1.size (.cells #[.int .i64 0,.bool false,.bool false,.string ⟨#[]⟩,.int .i64 0,.int .u64 0,.int .i64 0,.string ⟨#[]⟩,.slice none 0 0] 28)
  have hk1:=(Blk.new w #[.int .i64 hm,.int .i64 31,.int .u64 ha] 137).alloc (.cells #[.int .i64 0,.bool false,.bool false,.string ⟨#[]⟩,.int .i64 0,.int .u64 0,.int .i64 0,.string ⟨#[]⟩,.slice none 0 0] 28)
  have hk2:=Blk.new (w.alloc (.cells #[.int .i64 hm,.int .i64 31,.int .u64 ha] 137)) #[.int .i64 0,.bool false,.bool false,.string ⟨#[]⟩,.int .i64 0,.int .u64 0,.int .i64 0,.string ⟨#[]⟩,.slice none 0 0] 28
  have hr2:=(hr.alloc (.cells #[.int .i64 hm,.int .i64 31,.int .u64 ha] 137)).alloc (.cells #[.int .i64 0,.bool false,.bool false,.string ⟨#[]⟩,.int .i64 0,.int .u64 0,.int .i64 0,.string ⟨#[]⟩,.slice none 0 0] 28)
  rw [World.size_alloc]at hk2
  have z0:=hk1.cell 0
  have z1:=hk1.cell 1
  have z2:=hk1.cell 2
  have hplt:=hr.lt
  clear hb1
  have hkE:=Blk.new ((w.alloc (.cells #[.int .i64 hm,.int .i64 31,.int .u64 ha] 137)).alloc (.cells #[.int .i64 0,.bool false,.bool false,.string ⟨#[]⟩,.int .i64 0,.int .u64 0,.int .i64 0,.string ⟨#[]⟩,.slice none 0 0] 28)) #[.int .i64 110] 29
  simp only [World.size_alloc]at hkE
  have hk3:=hk2.alloc (.cells #[.int .i64 110] 29)
  have hr3:=hr2.alloc (.cells #[.int .i64 110] 29)
  have hb3:=hb2.alloc hb2.size (.cells #[.int .i64 110] 29)
  go_enter Tryz.func149,Tryz.ntmps149
  go_wp2_with fail
  refine (HF.out _ _ hkE).mono ?_
  rintro e3 w3 ⟨rfl,rfl⟩
  go_wp2_with (refine wpList_store_row rfl 28 (.tmp 4) (.tmp 39) rfl (w.heap.size+1) #[.int .i64 0,.bool false,.bool false,.string ⟨#[]⟩,.int .i64 0,.int .u64 0,.int .i64 0,.string ⟨#[]⟩,.slice none 0 0] rfl rfl 28 _ hk3 (by kernel_rfl) rfl (by simp [Value.oneCell']) ?_)
  have hg:=grown_set_row (p:=p) hb3 (Nat.le_succ w.heap.size) #[.int .i64 0,.bool false,.bool false,.string ⟨#[]⟩,.int .i64 0,.int .u64 0,.int .i64 0,.string ⟨#[]⟩,.slice none 0 0]
  refine bodyPost_ret (results_cell (T:=28) rfl rfl rfl (blk_row hk3 #[.int .i64 0,.bool false,.bool false,.string ⟨#[]⟩,.int .i64 0,.int .u64 0,.int .i64 0,.string ⟨#[]⟩,.slice none 0 0]) Tryz.underlying28 rfl (by kernel_rfl)) rfl ?_
  exact ⟨hg,⟨zeroO,none,0,0,rfl⟩,by decide,s,blk_row_other hr3 (by omega) _,Nat.le_refl _⟩
 rw [if_neg i31]
 have y20:((hi:Int) == 20)=false:=by rw [beq_eq_false_iff_ne]; omega
 have y21:((hi:Int) == 21)=false:=by rw [beq_eq_false_iff_ne]; omega
 have y22:((hi:Int) == 22)=false:=by rw [beq_eq_false_iff_ne]; omega
 have y24:((hi:Int) == 24)=false:=by rw [beq_eq_false_iff_ne]; omega
 have y25:((hi:Int) == 25)=false:=by rw [beq_eq_false_iff_ne]; omega
 have y26:((hi:Int) == 26)=false:=by rw [beq_eq_false_iff_ne]; omega
 have y27:((hi:Int) == 27)=false:=by rw [beq_eq_false_iff_ne]; omega
 have y31:((hi:Int) == 31)=false:=by rw [beq_eq_false_iff_ne]; omega
 show Calls _ _ _ _ (ReadN p d 0 w s (.good (simpleT ha) s.data.toList))
 have hb1:=(Below.refl w.heap.size w).alloc (Nat.le_refl _) (.cells #[.int .i64 hm,.int .i64 hi,.int .u64 ha] 137)
 have hb2:=hb1.alloc hb1.size (.cells #[.int .i64 10,.bool false,.bool false,.string ⟨#[]⟩,.int .i64 0,.int .u64 ha,.int .i64 0,.string ⟨#[]⟩,.slice none 0 0] 28)
 have hk1:=(Blk.new w #[.int .i64 hm,.int .i64 hi,.int .u64 ha] 137).alloc (.cells #[.int .i64 0,.bool false,.bool false,.string ⟨#[]⟩,.int .i64 0,.int .u64 0,.int .i64 0,.string ⟨#[]⟩,.slice none 0 0] 28)
 have hk2:=Blk.new (w.alloc (.cells #[.int .i64 hm,.int .i64 hi,.int .u64 ha] 137)) #[.int .i64 10,.bool false,.bool false,.string ⟨#[]⟩,.int .i64 0,.int .u64 ha,.int .i64 0,.string ⟨#[]⟩,.slice none 0 0] 28
 have hr2:=(hr.alloc (.cells #[.int .i64 hm,.int .i64 hi,.int .u64 ha] 137)).alloc (.cells #[.int .i64 10,.bool false,.bool false,.string ⟨#[]⟩,.int .i64 0,.int .u64 ha,.int .i64 0,.string ⟨#[]⟩,.slice none 0 0] 28)
 rw [World.size_alloc]at hk2
 have z0:=hk1.cell 0
 have z1:=hk1.cell 1
 have z2:=hk1.cell 2
 have hplt:=hr.lt
 clear hb1
 go_enter Tryz.func149,Tryz.ntmps149
 go_wp2_with fail
 refine bodyPost_ret (results_cell (T:=28) rfl rfl rfl hk2 Tryz.underlying28 rfl (by kernel_rfl)) rfl ?_
 exact ⟨below_grown hb2 _,⟨none,0,0,rfl,LAt.nil _ _ _ _ _⟩,own_u 10 ha 0 (by decide) h2 (by decide),by rw [hsb]; exact hr2,by rw [hsb]; exact Nat.le_refl _⟩
theorem own_s (k:Int) (s:ByteArray) (hk:0≤k∧k≤100) (hs:s.size≤1000000000):OwnOk { zeroO with kind:=k,s:=s }:=
 ⟨by show (0:Nat)≤_; omega,by show s.size≤_; omega,by show _≤k∧k<_; omega,by show _≤(0:Int)∧(0:Int)<_; omega,by show (0:Int)≤(0:Int)∧(0:Int)<_; omega,by show _≤(0:Int)∧(0:Int)<_; omega⟩
set_option maxHeartbeats 4000000 in
set_option maxRecDepth 100000 in
theorem cr_str (F p d hm hi ha:Nat) (hmm:hm=2∨hm=3) (s:ByteArray) (w:World) (hr:RdB w p s d) (hs:s.size≤1000000000) (hF:s.size<F) :
  Calls Tryz.prog 146 #[.pointer (some ⟨p,0,none⟩),startV (hm,hi,ha)] w (ReadN p d 0 w s (bindP (textP F (hm,hi,ha)) (fun s=>pureP (strT (kindM hm) s)) s.data.toList)):=by
 rcases hmm with rfl|rfl
 ·have HT:=Lib.hid (fun W (hR:RdB W p s d)=>cr_text F p d (2,hi,ha) s W hR hs hF)
  have hb1:=(Below.refl w.heap.size w).alloc (Nat.le_refl _) (.cells #[.int .i64 2,.int .i64 hi,.int .u64 ha] 137)
  have hb2:=hb1.alloc hb1.size (.cells #[.int .i64 0,.bool false,.bool false,.string ⟨#[]⟩,.int .i64 0,.int .u64 0,.int .i64 0,.string ⟨#[]⟩,.slice none 0 0] 28)
  have hk1:=(Blk.new w #[.int .i64 2,.int .i64 hi,.int .u64 ha] 137).alloc (.cells #[.int .i64 0,.bool false,.bool false,.string ⟨#[]⟩,.int .i64 0,.int .u64 0,.int .i64 0,.string ⟨#[]⟩,.slice none 0 0] 28)
  have hk2:=Blk.new (w.alloc (.cells #[.int .i64 2,.int .i64 hi,.int .u64 ha] 137)) #[.int .i64 0,.bool false,.bool false,.string ⟨#[]⟩,.int .i64 0,.int .u64 0,.int .i64 0,.string ⟨#[]⟩,.slice none 0 0] 28
  have hr2:=(hr.alloc (.cells #[.int .i64 2,.int .i64 hi,.int .u64 ha] 137)).alloc (.cells #[.int .i64 0,.bool false,.bool false,.string ⟨#[]⟩,.int .i64 0,.int .u64 0,.int .i64 0,.string ⟨#[]⟩,.slice none 0 0] 28)
  rw [World.size_alloc]at hk2
  have z0:=hk1.cell 0
  have z1:=hk1.cell 1
  have z2:=hk1.cell 2
  have hplt:=hr.lt
  obtain ⟨res,hres⟩:∃ res,textP F (2,hi,ha) s.data.toList=res:=⟨_,rfl⟩
  rw [hres]at HT
  show Calls _ _ _ _ (ReadN p d 0 w s (bindP (textP F (2,hi,ha)) (fun s=>pureP (strT 6 s)) s.data.toList))
  have hbp:=bind_pure (textP F (2,hi,ha)) (strT 6) s.data.toList
  rw [hres]at hbp
  rw [hbp]
  clear hres hbp hb1
  cases res with
  | bad e =>
   have HT:Hid (∀ W:World,RdB W p s d→Calls Tryz.prog 206 #[.pointer (some ⟨p,0,none⟩),.agg #[.int .i64 2,.int .i64 hi,.int .u64 ha]] W fun x w'=>W.grownBy w' (some p)∧x=.returned (.tuple #[.string ⟨#[]⟩,errW e])∧e≠0∧∃ s',RdB w' p s' d∧s'.size≤s.size):=HT
   show Calls _ _ _ _ (ReadN p d 0 w s (.bad e))
   go_enter Tryz.func146,Tryz.ntmps146
   go_wp2_with fail
   refine (HT.out _ hr2).mono ?_
   rintro e1 w3 ⟨hg3,rfl,he,s',hr3,hs3⟩
   have hk3:=RdB.grown hk2 hg3 (by omega)
   go_wp2_with (refine wpList_store_row rfl 28 (.tmp 4) (.tmp 20) rfl (w.heap.size+1) #[.int .i64 6,.bool false,.bool false,.string ⟨#[]⟩,.int .i64 0,.int .u64 0,.int .i64 0,.string ⟨#[]⟩,.slice none 0 0] rfl rfl 28 _ hk3 (by kernel_rfl) rfl (by simp [Value.oneCell']) ?_)
   have hg:=grown_at (grown_trans (below_grown hb2 (some p)) hg3) (grown_row w3 (w.heap.size+1) #[.int .i64 6,.bool false,.bool false,.string ⟨#[]⟩,.int .i64 0,.int .u64 0,.int .i64 0,.string ⟨#[]⟩,.slice none 0 0]) (Nat.le_succ w.heap.size)
   refine bodyPost_ret (results_cell (T:=28) rfl rfl rfl (blk_row hk3 #[.int .i64 6,.bool false,.bool false,.string ⟨#[]⟩,.int .i64 0,.int .u64 0,.int .i64 0,.string ⟨#[]⟩,.slice none 0 0]) Tryz.underlying28 rfl (by kernel_rfl)) rfl ?_
   exact ⟨hg,⟨{ zeroO with kind:=6 },none,0,0,rfl⟩,he,s',blk_row_other hr3 (by omega) _,hs3⟩
  | good a r =>
   have HT:Hid (∀ W:World,RdB W p s d→Calls Tryz.prog 206 #[.pointer (some ⟨p,0,none⟩),.agg #[.int .i64 2,.int .i64 hi,.int .u64 ha]] W fun x w'=>W.grownBy w' (some p)∧x=.returned (.tuple #[.string (bs a),.nilIface])∧RdB w' p (bs r) d∧(bs r).size≤s.size∧a.length≤s.size):=HT
   show Calls _ _ _ _ (ReadN p d 0 w s (.good (strT 6 a) r))
   have hab:(strT 6 a).own={ zeroO with kind:=6,s:=bs a }:=rfl
   have hbz:=bs_size a
   obtain ⟨ab,habe⟩:∃ ab,bs a=ab:=⟨_,rfl⟩
   rw [habe]at HT hab hbz
   have HAB:=Lib.hid hab
   clear hab habe
   go_enter Tryz.func146,Tryz.ntmps146
   go_wp2_with fail
   refine (HT.out _ hr2).mono ?_
   rintro e1 w3 ⟨hg3,rfl,hr3,hs3,hs4⟩
   have hk3:=RdB.grown hk2 hg3 (by omega)
   go_wp2_with (refine wpList_store_row rfl 28 (.tmp 4) (.tmp 20) rfl (w.heap.size+1) #[.int .i64 6,.bool false,.bool false,.string ⟨#[]⟩,.int .i64 0,.int .u64 0,.int .i64 0,.string ab,.slice none 0 0] rfl rfl 28 _ hk3 (by kernel_rfl) rfl (by simp [Value.oneCell']) ?_)
   have hg:=grown_at (grown_trans (below_grown hb2 (some p)) hg3) (grown_row w3 (w.heap.size+1) #[.int .i64 6,.bool false,.bool false,.string ⟨#[]⟩,.int .i64 0,.int .u64 0,.int .i64 0,.string ab,.slice none 0 0]) (Nat.le_succ w.heap.size)
   refine bodyPost_ret (results_cell (T:=28) rfl rfl rfl (blk_row hk3 #[.int .i64 6,.bool false,.bool false,.string ⟨#[]⟩,.int .i64 0,.int .u64 0,.int .i64 0,.string ab,.slice none 0 0]) Tryz.underlying28 rfl (by kernel_rfl)) rfl ?_
   refine ⟨hg,⟨none,0,0,by rw [HAB.out]; rfl,LAt.nil _ _ _ _ _⟩,by rw [HAB.out]; exact own_s 6 ab (by decide) (by omega),blk_row_other hr3 (by omega) _,hs3⟩
 ·have HT:=Lib.hid (fun W (hR:RdB W p s d)=>cr_text F p d (3,hi,ha) s W hR hs hF)
  have hb1:=(Below.refl w.heap.size w).alloc (Nat.le_refl _) (.cells #[.int .i64 3,.int .i64 hi,.int .u64 ha] 137)
  have hb2:=hb1.alloc hb1.size (.cells #[.int .i64 0,.bool false,.bool false,.string ⟨#[]⟩,.int .i64 0,.int .u64 0,.int .i64 0,.string ⟨#[]⟩,.slice none 0 0] 28)
  have hk1:=(Blk.new w #[.int .i64 3,.int .i64 hi,.int .u64 ha] 137).alloc (.cells #[.int .i64 0,.bool false,.bool false,.string ⟨#[]⟩,.int .i64 0,.int .u64 0,.int .i64 0,.string ⟨#[]⟩,.slice none 0 0] 28)
  have hk2:=Blk.new (w.alloc (.cells #[.int .i64 3,.int .i64 hi,.int .u64 ha] 137)) #[.int .i64 0,.bool false,.bool false,.string ⟨#[]⟩,.int .i64 0,.int .u64 0,.int .i64 0,.string ⟨#[]⟩,.slice none 0 0] 28
  have hr2:=(hr.alloc (.cells #[.int .i64 3,.int .i64 hi,.int .u64 ha] 137)).alloc (.cells #[.int .i64 0,.bool false,.bool false,.string ⟨#[]⟩,.int .i64 0,.int .u64 0,.int .i64 0,.string ⟨#[]⟩,.slice none 0 0] 28)
  rw [World.size_alloc]at hk2
  have z0:=hk1.cell 0
  have z1:=hk1.cell 1
  have z2:=hk1.cell 2
  have hplt:=hr.lt
  obtain ⟨res,hres⟩:∃ res,textP F (3,hi,ha) s.data.toList=res:=⟨_,rfl⟩
  rw [hres]at HT
  show Calls _ _ _ _ (ReadN p d 0 w s (bindP (textP F (3,hi,ha)) (fun s=>pureP (strT 5 s)) s.data.toList))
  have hbp:=bind_pure (textP F (3,hi,ha)) (strT 5) s.data.toList
  rw [hres]at hbp
  rw [hbp]
  clear hres hbp hb1
  cases res with
  | bad e =>
   have HT:Hid (∀ W:World,RdB W p s d→Calls Tryz.prog 206 #[.pointer (some ⟨p,0,none⟩),.agg #[.int .i64 3,.int .i64 hi,.int .u64 ha]] W fun x w'=>W.grownBy w' (some p)∧x=.returned (.tuple #[.string ⟨#[]⟩,errW e])∧e≠0∧∃ s',RdB w' p s' d∧s'.size≤s.size):=HT
   show Calls _ _ _ _ (ReadN p d 0 w s (.bad e))
   go_enter Tryz.func146,Tryz.ntmps146
   go_wp2_with fail
   refine (HT.out _ hr2).mono ?_
   rintro e1 w3 ⟨hg3,rfl,he,s',hr3,hs3⟩
   have hk3:=RdB.grown hk2 hg3 (by omega)
   go_wp2_with (refine wpList_store_row rfl 28 (.tmp 4) (.tmp 20) rfl (w.heap.size+1) #[.int .i64 5,.bool false,.bool false,.string ⟨#[]⟩,.int .i64 0,.int .u64 0,.int .i64 0,.string ⟨#[]⟩,.slice none 0 0] rfl rfl 28 _ hk3 (by kernel_rfl) rfl (by simp [Value.oneCell']) ?_)
   have hg:=grown_at (grown_trans (below_grown hb2 (some p)) hg3) (grown_row w3 (w.heap.size+1) #[.int .i64 5,.bool false,.bool false,.string ⟨#[]⟩,.int .i64 0,.int .u64 0,.int .i64 0,.string ⟨#[]⟩,.slice none 0 0]) (Nat.le_succ w.heap.size)
   refine bodyPost_ret (results_cell (T:=28) rfl rfl rfl (blk_row hk3 #[.int .i64 5,.bool false,.bool false,.string ⟨#[]⟩,.int .i64 0,.int .u64 0,.int .i64 0,.string ⟨#[]⟩,.slice none 0 0]) Tryz.underlying28 rfl (by kernel_rfl)) rfl ?_
   exact ⟨hg,⟨{ zeroO with kind:=5 },none,0,0,rfl⟩,he,s',blk_row_other hr3 (by omega) _,hs3⟩
  | good a r =>
   have HT:Hid (∀ W:World,RdB W p s d→Calls Tryz.prog 206 #[.pointer (some ⟨p,0,none⟩),.agg #[.int .i64 3,.int .i64 hi,.int .u64 ha]] W fun x w'=>W.grownBy w' (some p)∧x=.returned (.tuple #[.string (bs a),.nilIface])∧RdB w' p (bs r) d∧(bs r).size≤s.size∧a.length≤s.size):=HT
   show Calls _ _ _ _ (ReadN p d 0 w s (.good (strT 5 a) r))
   have hab:(strT 5 a).own={ zeroO with kind:=5,s:=bs a }:=rfl
   have hbz:=bs_size a
   obtain ⟨ab,habe⟩:∃ ab,bs a=ab:=⟨_,rfl⟩
   rw [habe]at HT hab hbz
   have HAB:=Lib.hid hab
   clear hab habe
   go_enter Tryz.func146,Tryz.ntmps146
   go_wp2_with fail
   refine (HT.out _ hr2).mono ?_
   rintro e1 w3 ⟨hg3,rfl,hr3,hs3,hs4⟩
   have hk3:=RdB.grown hk2 hg3 (by omega)
   go_wp2_with (refine wpList_store_row rfl 28 (.tmp 4) (.tmp 20) rfl (w.heap.size+1) #[.int .i64 5,.bool false,.bool false,.string ⟨#[]⟩,.int .i64 0,.int .u64 0,.int .i64 0,.string ab,.slice none 0 0] rfl rfl 28 _ hk3 (by kernel_rfl) rfl (by simp [Value.oneCell']) ?_)
   have hg:=grown_at (grown_trans (below_grown hb2 (some p)) hg3) (grown_row w3 (w.heap.size+1) #[.int .i64 5,.bool false,.bool false,.string ⟨#[]⟩,.int .i64 0,.int .u64 0,.int .i64 0,.string ab,.slice none 0 0]) (Nat.le_succ w.heap.size)
   refine bodyPost_ret (results_cell (T:=28) rfl rfl rfl (blk_row hk3 #[.int .i64 5,.bool false,.bool false,.string ⟨#[]⟩,.int .i64 0,.int .u64 0,.int .i64 0,.string ab,.slice none 0 0]) Tryz.underlying28 rfl (by kernel_rfl)) rfl ?_
   refine ⟨hg,⟨none,0,0,by rw [HAB.out]; rfl,LAt.nil _ _ _ _ _⟩,by rw [HAB.out]; exact own_s 5 ab (by decide) (by omega),blk_row_other hr3 (by omega) _,hs3⟩
def MajQ (m:Nat):Prop:=m=3∨m=5∨m=7
def HeadQ (b:UInt8):Prop:=MajQ (b.toNat / 32)
def OkS (s:ByteArray):Prop:=∀ b∈s.data.toList,HeadQ b
theorem okS_sh:OkS ⟨#[162,97,98,246,97,97,246]⟩:=fun b hb=>by
 simp only [List.mem_cons,List.not_mem_nil,or_false]at hb
 rcases hb with rfl|rfl|rfl|rfl|rfl|rfl|rfl <;> (unfold HeadQ MajQ; decide)
theorem head_maj {s:ByteArray} {h:Nat×Nat×Nat} {r:List UInt8} (hq:OkS s) (hh:headP s.data.toList=.good h r):MajQ h.1:=by
 unfold OkS at hq
 generalize s.data.toList=l at hq hh
 cases l with
 | nil=>exact absurd hh (by rw [wantP_head]; intro h; cases h)
 | cons b l =>
  have hb:MajQ (b.toNat / 32):=hq b (List.mem_cons_self ..)
  unfold headP at hh
  rw [readL_cons]at hh
  split at hh
  ·injection hh with e _; subst e; exact hb
  ·split at hh
   ·injection hh with e _; subst e; exact hb
   ·split at hh
    ·exact absurd hh (by intro h; cases h)
    ·split at hh
     ·exact absurd hh (by intro h; cases h)
     ·injection hh with e _; subst e; exact hb
theorem OkS.rest {s:ByteArray} {r own:List UInt8} (h:OkS s) (e:s.data.toList=own++r):OkS (bs r):=fun b hb=>h b (by rw [e]; exact List.mem_append.2 (.inr hb))
def ItemC (w0:World) (F d:Nat):Prop:=∀ (p:Nat) (s:ByteArray) (w:World),Below w0.heap.size w0 w→w0.heap.size≤p→RdB w p s (16 - d)→s.size≤1000000000→s.size<F→OkS s →
 Calls Tryz.prog 68 #[.pointer (some ⟨p,0,none⟩)] w (ReadN p (16 - d) d w s (itemP F d s.data.toList))
end Go.Proofs.YtonihophanmaaaaGreatDoor
