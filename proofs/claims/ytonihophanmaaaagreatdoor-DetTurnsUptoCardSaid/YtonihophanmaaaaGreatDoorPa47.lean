/- The texts DsS, DsE, GatM, GatZ, DsH, put together. -/
import Derived.Test.YtonihophanmaaaaGreatDoorPa46
import Derived.Test.YtonihophanmaaaaGreatDoorPa10
import Derived.Test.YtonihophanmaaaaGreatDoorPa19
import Derived.Test.YtonihophanmaaaaGreatDoorPa18
import Derived.Test.YtonihophanmaaaaGreatDoorPa28
import Derived.Test.YtonihophanmaaaaGreatDoorPa23
import Derived.Test.YtonihophanmaaaaGreatDoorPa29
namespace Go.Proofs.YtonihophanmaaaaGreatDoor
open Go.RowKit Go.Shelf
set_option maxHeartbeats 8000000 in
set_option maxRecDepth 100000 in
theorem det_shown {aT aF:Addr} (w:World) (h:RW w aT aF) :
  Calls Tryz.prog 10 #[] w fun e w'=>e=.returned (.bool true)∧Below w.heap.size w w':=by
 obtain ⟨W4,hW4⟩:∃ W4,(((w.alloc (.cells #[.int .i64 1,.bool false,.bool false,.string ⟨#[]⟩,.int .i64 0,.int .u64 0,.int .i64 0,.string ⟨#[]⟩,.slice none 0 0] 28)).alloc (.cells #[.int .i64 5,.bool false,.bool false,.string ⟨#[]⟩,.int .i64 0,.int .u64 0,.int .i64 0,.string ⟨#[97]⟩,.slice none 0 0] 28)).alloc (.cells #[.int .i64 5,.bool false,.bool false,.string ⟨#[]⟩,.int .i64 0,.int .u64 0,.int .i64 0,.string ⟨#[98]⟩,.slice none 0 0] 28)).alloc (.cells #[.int .i64 3,.bool false,.bool false,.string ⟨#[49]⟩,.int .i64 1,.int .u64 0,.int .i64 0,.string ⟨#[]⟩,.slice none 0 0] 28)=W4:=⟨_,rfl⟩
 obtain ⟨N,hN⟩:∃ N,w.heap.size=N:=⟨_,rfl⟩
 have hk1:Blk W4 N #[.int .i64 1,.bool false,.bool false,.string ⟨#[]⟩,.int .i64 0,.int .u64 0,.int .i64 0,.string ⟨#[]⟩,.slice none 0 0] 28:=by rw [← hW4]; exact (((blk_at hN _ _).alloc _).alloc _).alloc _
 have hk2:Blk W4 (N+1) #[.int .i64 5,.bool false,.bool false,.string ⟨#[]⟩,.int .i64 0,.int .u64 0,.int .i64 0,.string ⟨#[97]⟩,.slice none 0 0] 28:=by rw [← hW4]; exact ((blk_at (by simp [hN]) _ _).alloc _).alloc _
 have hk3:Blk W4 (N+2) #[.int .i64 5,.bool false,.bool false,.string ⟨#[]⟩,.int .i64 0,.int .u64 0,.int .i64 0,.string ⟨#[98]⟩,.slice none 0 0] 28:=by rw [← hW4]; exact (blk_at (by simp [hN]) _ _).alloc _
 have hk4:Blk W4 (N+3) #[.int .i64 3,.bool false,.bool false,.string ⟨#[49]⟩,.int .i64 1,.int .u64 0,.int .i64 0,.string ⟨#[]⟩,.slice none 0 0] 28:=by rw [← hW4]; exact blk_at (by simp [hN]) _ _
 have hz4:W4.heap.size=N+4:=by rw [← hW4]; simp [hN]
 have hb4:Below N w W4:=by
  rw [← hW4]
  exact ((((Below.refl N w).alloc (by omega) _).alloc (by simp; omega) _).alloc (by simp; omega) _).alloc (by simp; omega) _
 have hk5:=Blk.new W4 #[.int .i64 5,.bool false,.bool false,.string ⟨#[]⟩,.int .i64 0,.int .u64 0,.int .i64 0,.string ⟨#[98]⟩,.slice none 0 0,.int .i64 1,.bool false,.bool false,.string ⟨#[]⟩,.int .i64 0,.int .u64 0,.int .i64 0,.string ⟨#[]⟩,.slice none 0 0,.int .i64 5,.bool false,.bool false,.string ⟨#[]⟩,.int .i64 0,.int .u64 0,.int .i64 0,.string ⟨#[97]⟩,.slice none 0 0,.int .i64 1,.bool false,.bool false,.string ⟨#[]⟩,.int .i64 0,.int .u64 0,.int .i64 0,.string ⟨#[]⟩,.slice none 0 0,.int .i64 3,.bool false,.bool false,.string ⟨#[49]⟩,.int .i64 1,.int .u64 0,.int .i64 0,.string ⟨#[]⟩,.slice none 0 0,.int .i64 1,.bool false,.bool false,.string ⟨#[]⟩,.int .i64 0,.int .u64 0,.int .i64 0,.string ⟨#[]⟩,.slice none 0 0] 28
 have hb5:=hb4.alloc (by omega) (.cells #[.int .i64 5,.bool false,.bool false,.string ⟨#[]⟩,.int .i64 0,.int .u64 0,.int .i64 0,.string ⟨#[98]⟩,.slice none 0 0,.int .i64 1,.bool false,.bool false,.string ⟨#[]⟩,.int .i64 0,.int .u64 0,.int .i64 0,.string ⟨#[]⟩,.slice none 0 0,.int .i64 5,.bool false,.bool false,.string ⟨#[]⟩,.int .i64 0,.int .u64 0,.int .i64 0,.string ⟨#[97]⟩,.slice none 0 0,.int .i64 1,.bool false,.bool false,.string ⟨#[]⟩,.int .i64 0,.int .u64 0,.int .i64 0,.string ⟨#[]⟩,.slice none 0 0,.int .i64 3,.bool false,.bool false,.string ⟨#[49]⟩,.int .i64 1,.int .u64 0,.int .i64 0,.string ⟨#[]⟩,.slice none 0 0,.int .i64 1,.bool false,.bool false,.string ⟨#[]⟩,.int .i64 0,.int .u64 0,.int .i64 0,.string ⟨#[]⟩,.slice none 0 0] 28)
 have hrow:RowT (W4.alloc (.cells #[.int .i64 5,.bool false,.bool false,.string ⟨#[]⟩,.int .i64 0,.int .u64 0,.int .i64 0,.string ⟨#[98]⟩,.slice none 0 0,.int .i64 1,.bool false,.bool false,.string ⟨#[]⟩,.int .i64 0,.int .u64 0,.int .i64 0,.string ⟨#[]⟩,.slice none 0 0,.int .i64 5,.bool false,.bool false,.string ⟨#[]⟩,.int .i64 0,.int .u64 0,.int .i64 0,.string ⟨#[97]⟩,.slice none 0 0,.int .i64 1,.bool false,.bool false,.string ⟨#[]⟩,.int .i64 0,.int .u64 0,.int .i64 0,.string ⟨#[]⟩,.slice none 0 0,.int .i64 3,.bool false,.bool false,.string ⟨#[49]⟩,.int .i64 1,.int .u64 0,.int .i64 0,.string ⟨#[]⟩,.slice none 0 0,.int .i64 1,.bool false,.bool false,.string ⟨#[]⟩,.int .i64 0,.int .u64 0,.int .i64 0,.string ⟨#[]⟩,.slice none 0 0] 28)) (fun q=>q<N+5) 0 (unp shU) [.int .i64 5,.bool false,.bool false,.string ⟨#[]⟩,.int .i64 0,.int .u64 0,.int .i64 0,.string ⟨#[98]⟩,.slice none 0 0,.int .i64 1,.bool false,.bool false,.string ⟨#[]⟩,.int .i64 0,.int .u64 0,.int .i64 0,.string ⟨#[]⟩,.slice none 0 0,.int .i64 5,.bool false,.bool false,.string ⟨#[]⟩,.int .i64 0,.int .u64 0,.int .i64 0,.string ⟨#[97]⟩,.slice none 0 0,.int .i64 1,.bool false,.bool false,.string ⟨#[]⟩,.int .i64 0,.int .u64 0,.int .i64 0,.string ⟨#[]⟩,.slice none 0 0,.int .i64 3,.bool false,.bool false,.string ⟨#[49]⟩,.int .i64 1,.int .u64 0,.int .i64 0,.string ⟨#[]⟩,.slice none 0 0,.int .i64 1,.bool false,.bool false,.string ⟨#[]⟩,.int .i64 0,.int .u64 0,.int .i64 0,.string ⟨#[]⟩,.slice none 0 0]:=
  ⟨_,_,rfl,okO2 _ (by decide) (by decide) (by decide) (by decide) rfl rfl,LAt.nil _ _ _ _ _,_,_,rfl,okO2 _ (by decide) (by decide) (by decide) (by decide) rfl rfl,LAt.nil _ _ _ _ _,_,_,rfl,okO2 _ (by decide) (by decide) (by decide) (by decide) rfl rfl,LAt.nil _ _ _ _ _,_,_,rfl,okO2 _ (by decide) (by decide) (by decide) (by decide) rfl rfl,LAt.nil _ _ _ _ _,_,_,rfl,okO2 _ (by decide) (by decide) (by decide) (by decide) rfl rfl,LAt.nil _ _ _ _ _,_,_,rfl,okO2 _ (by decide) (by decide) (by decide) (by decide) rfl rfl,LAt.nil _ _ _ _ _,rfl⟩
 have hl:=hrow.blkD (n:=6) hk5 rfl rfl (by decide) (fun q hq=>by omega)
 have hb5':Below w.heap.size w (W4.alloc (.cells #[.int .i64 5,.bool false,.bool false,.string ⟨#[]⟩,.int .i64 0,.int .u64 0,.int .i64 0,.string ⟨#[98]⟩,.slice none 0 0,.int .i64 1,.bool false,.bool false,.string ⟨#[]⟩,.int .i64 0,.int .u64 0,.int .i64 0,.string ⟨#[]⟩,.slice none 0 0,.int .i64 5,.bool false,.bool false,.string ⟨#[]⟩,.int .i64 0,.int .u64 0,.int .i64 0,.string ⟨#[97]⟩,.slice none 0 0,.int .i64 1,.bool false,.bool false,.string ⟨#[]⟩,.int .i64 0,.int .u64 0,.int .i64 0,.string ⟨#[]⟩,.slice none 0 0,.int .i64 3,.bool false,.bool false,.string ⟨#[49]⟩,.int .i64 1,.int .u64 0,.int .i64 0,.string ⟨#[]⟩,.slice none 0 0,.int .i64 1,.bool false,.bool false,.string ⟨#[]⟩,.int .i64 0,.int .u64 0,.int .i64 0,.string ⟨#[]⟩,.slice none 0 0] 28)):=by rw [hN]; exact hb5
 have HW:=det_Write (.nd mpO (unp shU)) (.slice (some ⟨W4.heap.size,0,none⟩) 6 6) (W4.alloc (.cells #[.int .i64 5,.bool false,.bool false,.string ⟨#[]⟩,.int .i64 0,.int .u64 0,.int .i64 0,.string ⟨#[98]⟩,.slice none 0 0,.int .i64 1,.bool false,.bool false,.string ⟨#[]⟩,.int .i64 0,.int .u64 0,.int .i64 0,.string ⟨#[]⟩,.slice none 0 0,.int .i64 5,.bool false,.bool false,.string ⟨#[]⟩,.int .i64 0,.int .u64 0,.int .i64 0,.string ⟨#[97]⟩,.slice none 0 0,.int .i64 1,.bool false,.bool false,.string ⟨#[]⟩,.int .i64 0,.int .u64 0,.int .i64 0,.string ⟨#[]⟩,.slice none 0 0,.int .i64 3,.bool false,.bool false,.string ⟨#[49]⟩,.int .i64 1,.int .u64 0,.int .i64 0,.string ⟨#[]⟩,.slice none 0 0,.int .i64 1,.bool false,.bool false,.string ⟨#[]⟩,.int .i64 0,.int .u64 0,.int .i64 0,.string ⟨#[]⟩,.slice none 0 0] 28)) _ 1 aT aF hl (okO2 _ (by decide) (by decide) (by decide) (by decide) rfl rfl) (fun q hq=>by rw [World.size_alloc]; exact hq) (by decide +kernel) (h.below hb5').g
 rw [shU_detW,shU_check]at HW
 have HR:=Lib.hid (fun W (hW:Below w.heap.size w W)=>det_Read (aT:=aT) (aF:=aF) ⟨#[162,97,98,246,97,97,246]⟩ (by decide) W (h.below hW) okS_sh)
 rw [sh_RD]at HR
 have HL1:=Lib.hid (fun W (hW:Below w.heap.size w W)=>det_Less tenT kaT none none 0 0 0 0 W 0 0 aT aF (LAt.nil _ _ _ _ _) (LAt.nil _ _ _ _ _) (okO2 _ (by decide) (by decide) (by decide) (by decide) rfl rfl) (okO2 _ (by decide) (by decide) (by decide) (by decide) rfl rfl) (Nat.zero_le _) (by decide +kernel) (by decide +kernel) (h.below hW).g)
 have HL2:=Lib.hid (fun W (hW:Below w.heap.size w W)=>det_Less kbT kaT none none 0 0 0 0 W 0 0 aT aF (LAt.nil _ _ _ _ _) (LAt.nil _ _ _ _ _) (okO2 _ (by decide) (by decide) (by decide) (by decide) rfl rfl) (okO2 _ (by decide) (by decide) (by decide) (by decide) rfl rfl) (Nat.zero_le _) (by decide +kernel) (by decide +kernel) (h.below hW).g)
 rw [less_ten]at HL1
 rw [less_ba]at HL2
 replace HW:Calls Tryz.prog 18 #[.agg #[.int .i64 8,.bool false,.bool false,.string ⟨#[]⟩,.int .i64 0,.int .u64 0,.int .i64 0,.string ⟨#[]⟩,.slice (some ⟨N+4,0,none⟩) 6 6]] (W4.alloc (.cells #[.int .i64 5,.bool false,.bool false,.string ⟨#[]⟩,.int .i64 0,.int .u64 0,.int .i64 0,.string ⟨#[98]⟩,.slice none 0 0,.int .i64 1,.bool false,.bool false,.string ⟨#[]⟩,.int .i64 0,.int .u64 0,.int .i64 0,.string ⟨#[]⟩,.slice none 0 0,.int .i64 5,.bool false,.bool false,.string ⟨#[]⟩,.int .i64 0,.int .u64 0,.int .i64 0,.string ⟨#[97]⟩,.slice none 0 0,.int .i64 1,.bool false,.bool false,.string ⟨#[]⟩,.int .i64 0,.int .u64 0,.int .i64 0,.string ⟨#[]⟩,.slice none 0 0,.int .i64 3,.bool false,.bool false,.string ⟨#[49]⟩,.int .i64 1,.int .u64 0,.int .i64 0,.string ⟨#[]⟩,.slice none 0 0,.int .i64 1,.bool false,.bool false,.string ⟨#[]⟩,.int .i64 0,.int .u64 0,.int .i64 0,.string ⟨#[]⟩,.slice none 0 0] 28)) fun e w'=>e=.returned (.tuple #[.string ⟨#[163,10,246,97,97,246,97,98,246]⟩,.int .i64 0])∧Below (W4.alloc (.cells #[.int .i64 5,.bool false,.bool false,.string ⟨#[]⟩,.int .i64 0,.int .u64 0,.int .i64 0,.string ⟨#[98]⟩,.slice none 0 0,.int .i64 1,.bool false,.bool false,.string ⟨#[]⟩,.int .i64 0,.int .u64 0,.int .i64 0,.string ⟨#[]⟩,.slice none 0 0,.int .i64 5,.bool false,.bool false,.string ⟨#[]⟩,.int .i64 0,.int .u64 0,.int .i64 0,.string ⟨#[97]⟩,.slice none 0 0,.int .i64 1,.bool false,.bool false,.string ⟨#[]⟩,.int .i64 0,.int .u64 0,.int .i64 0,.string ⟨#[]⟩,.slice none 0 0,.int .i64 3,.bool false,.bool false,.string ⟨#[49]⟩,.int .i64 1,.int .u64 0,.int .i64 0,.string ⟨#[]⟩,.slice none 0 0,.int .i64 1,.bool false,.bool false,.string ⟨#[]⟩,.int .i64 0,.int .u64 0,.int .i64 0,.string ⟨#[]⟩,.slice none 0 0] 28)).heap.size (W4.alloc (.cells #[.int .i64 5,.bool false,.bool false,.string ⟨#[]⟩,.int .i64 0,.int .u64 0,.int .i64 0,.string ⟨#[98]⟩,.slice none 0 0,.int .i64 1,.bool false,.bool false,.string ⟨#[]⟩,.int .i64 0,.int .u64 0,.int .i64 0,.string ⟨#[]⟩,.slice none 0 0,.int .i64 5,.bool false,.bool false,.string ⟨#[]⟩,.int .i64 0,.int .u64 0,.int .i64 0,.string ⟨#[97]⟩,.slice none 0 0,.int .i64 1,.bool false,.bool false,.string ⟨#[]⟩,.int .i64 0,.int .u64 0,.int .i64 0,.string ⟨#[]⟩,.slice none 0 0,.int .i64 3,.bool false,.bool false,.string ⟨#[49]⟩,.int .i64 1,.int .u64 0,.int .i64 0,.string ⟨#[]⟩,.slice none 0 0,.int .i64 1,.bool false,.bool false,.string ⟨#[]⟩,.int .i64 0,.int .u64 0,.int .i64 0,.string ⟨#[]⟩,.slice none 0 0] 28)) w':=by rw [← hz4]; exact HW
 replace HL1:Hid (∀ W,Below w.heap.size w W→Calls Tryz.prog 15 #[.agg #[.int .i64 3,.bool false,.bool false,.string ⟨#[49]⟩,.int .i64 1,.int .u64 0,.int .i64 0,.string ⟨#[]⟩,.slice none 0 0],.agg #[.int .i64 5,.bool false,.bool false,.string ⟨#[]⟩,.int .i64 0,.int .u64 0,.int .i64 0,.string ⟨#[97]⟩,.slice none 0 0]] W fun e w'=>e=.returned (.bool true)∧Below W.heap.size W w'):=HL1
 replace HL2:Hid (∀ W,Below w.heap.size w W→Calls Tryz.prog 15 #[.agg #[.int .i64 5,.bool false,.bool false,.string ⟨#[]⟩,.int .i64 0,.int .u64 0,.int .i64 0,.string ⟨#[98]⟩,.slice none 0 0],.agg #[.int .i64 5,.bool false,.bool false,.string ⟨#[]⟩,.int .i64 0,.int .u64 0,.int .i64 0,.string ⟨#[97]⟩,.slice none 0 0]] W fun e w'=>e=.returned (.bool false)∧Below W.heap.size W w'):=HL2
 have HW:=Lib.hid HW
 have HK1:=Lib.hid hk1
 have HK2:=Lib.hid hk2
 have HK3:=Lib.hid hk3
 have HK4:=Lib.hid hk4
 have HB5:=Lib.hid hb5'
 have HW4:=Lib.hid hW4
 have HZ4:=Lib.hid hz4
 clear hl hrow hk1 hk2 hk3 hk4 hk5 h hb4 hb5 hb5' hW4
 go_enter Tryz.func10,Tryz.ntmps10
 go_upto_region 5 with fail
 rw [HW4.out]
 clear HW4
 go_wp2_with (first | (refine wpList_load_row rfl 28 (.tmp 1) rfl N rfl 28 _ (0,0) _ HK1.out Tryz.underlying28 rfl (by kernel_rfl) ?_) | (refine wpList_load_row rfl 28 (.tmp 2) rfl (N+1) rfl 28 _ (0,0) _ HK2.out Tryz.underlying28 rfl (by kernel_rfl) ?_) | (refine wpList_load_row rfl 28 (.tmp 3) rfl (N+2) rfl 28 _ (0,0) _ HK3.out Tryz.underlying28 rfl (by kernel_rfl) ?_) | (refine wpList_load_row rfl 28 (.tmp 4) rfl (N+3) rfl 28 _ (0,0) _ HK4.out Tryz.underlying28 rfl (by kernel_rfl) ?_))
 refine HW.out.mono ?_
 rintro e w6 ⟨rfl,hb6⟩
 have hz6:=hb6.size
 rw [World.size_alloc]at hz6
 have hk26:=(HK2.out.alloc (.cells #[.int .i64 5,.bool false,.bool false,.string ⟨#[]⟩,.int .i64 0,.int .u64 0,.int .i64 0,.string ⟨#[98]⟩,.slice none 0 0,.int .i64 1,.bool false,.bool false,.string ⟨#[]⟩,.int .i64 0,.int .u64 0,.int .i64 0,.string ⟨#[]⟩,.slice none 0 0,.int .i64 5,.bool false,.bool false,.string ⟨#[]⟩,.int .i64 0,.int .u64 0,.int .i64 0,.string ⟨#[97]⟩,.slice none 0 0,.int .i64 1,.bool false,.bool false,.string ⟨#[]⟩,.int .i64 0,.int .u64 0,.int .i64 0,.string ⟨#[]⟩,.slice none 0 0,.int .i64 3,.bool false,.bool false,.string ⟨#[49]⟩,.int .i64 1,.int .u64 0,.int .i64 0,.string ⟨#[]⟩,.slice none 0 0,.int .i64 1,.bool false,.bool false,.string ⟨#[]⟩,.int .i64 0,.int .u64 0,.int .i64 0,.string ⟨#[]⟩,.slice none 0 0] 28)).below hb6 (HK2.out.alloc (.cells #[.int .i64 5,.bool false,.bool false,.string ⟨#[]⟩,.int .i64 0,.int .u64 0,.int .i64 0,.string ⟨#[98]⟩,.slice none 0 0,.int .i64 1,.bool false,.bool false,.string ⟨#[]⟩,.int .i64 0,.int .u64 0,.int .i64 0,.string ⟨#[]⟩,.slice none 0 0,.int .i64 5,.bool false,.bool false,.string ⟨#[]⟩,.int .i64 0,.int .u64 0,.int .i64 0,.string ⟨#[97]⟩,.slice none 0 0,.int .i64 1,.bool false,.bool false,.string ⟨#[]⟩,.int .i64 0,.int .u64 0,.int .i64 0,.string ⟨#[]⟩,.slice none 0 0,.int .i64 3,.bool false,.bool false,.string ⟨#[49]⟩,.int .i64 1,.int .u64 0,.int .i64 0,.string ⟨#[]⟩,.slice none 0 0,.int .i64 1,.bool false,.bool false,.string ⟨#[]⟩,.int .i64 0,.int .u64 0,.int .i64 0,.string ⟨#[]⟩,.slice none 0 0] 28)).lt
 have hk36:=(HK3.out.alloc (.cells #[.int .i64 5,.bool false,.bool false,.string ⟨#[]⟩,.int .i64 0,.int .u64 0,.int .i64 0,.string ⟨#[98]⟩,.slice none 0 0,.int .i64 1,.bool false,.bool false,.string ⟨#[]⟩,.int .i64 0,.int .u64 0,.int .i64 0,.string ⟨#[]⟩,.slice none 0 0,.int .i64 5,.bool false,.bool false,.string ⟨#[]⟩,.int .i64 0,.int .u64 0,.int .i64 0,.string ⟨#[97]⟩,.slice none 0 0,.int .i64 1,.bool false,.bool false,.string ⟨#[]⟩,.int .i64 0,.int .u64 0,.int .i64 0,.string ⟨#[]⟩,.slice none 0 0,.int .i64 3,.bool false,.bool false,.string ⟨#[49]⟩,.int .i64 1,.int .u64 0,.int .i64 0,.string ⟨#[]⟩,.slice none 0 0,.int .i64 1,.bool false,.bool false,.string ⟨#[]⟩,.int .i64 0,.int .u64 0,.int .i64 0,.string ⟨#[]⟩,.slice none 0 0] 28)).below hb6 (HK3.out.alloc (.cells #[.int .i64 5,.bool false,.bool false,.string ⟨#[]⟩,.int .i64 0,.int .u64 0,.int .i64 0,.string ⟨#[98]⟩,.slice none 0 0,.int .i64 1,.bool false,.bool false,.string ⟨#[]⟩,.int .i64 0,.int .u64 0,.int .i64 0,.string ⟨#[]⟩,.slice none 0 0,.int .i64 5,.bool false,.bool false,.string ⟨#[]⟩,.int .i64 0,.int .u64 0,.int .i64 0,.string ⟨#[97]⟩,.slice none 0 0,.int .i64 1,.bool false,.bool false,.string ⟨#[]⟩,.int .i64 0,.int .u64 0,.int .i64 0,.string ⟨#[]⟩,.slice none 0 0,.int .i64 3,.bool false,.bool false,.string ⟨#[49]⟩,.int .i64 1,.int .u64 0,.int .i64 0,.string ⟨#[]⟩,.slice none 0 0,.int .i64 1,.bool false,.bool false,.string ⟨#[]⟩,.int .i64 0,.int .u64 0,.int .i64 0,.string ⟨#[]⟩,.slice none 0 0] 28)).lt
 have hk46:=(HK4.out.alloc (.cells #[.int .i64 5,.bool false,.bool false,.string ⟨#[]⟩,.int .i64 0,.int .u64 0,.int .i64 0,.string ⟨#[98]⟩,.slice none 0 0,.int .i64 1,.bool false,.bool false,.string ⟨#[]⟩,.int .i64 0,.int .u64 0,.int .i64 0,.string ⟨#[]⟩,.slice none 0 0,.int .i64 5,.bool false,.bool false,.string ⟨#[]⟩,.int .i64 0,.int .u64 0,.int .i64 0,.string ⟨#[97]⟩,.slice none 0 0,.int .i64 1,.bool false,.bool false,.string ⟨#[]⟩,.int .i64 0,.int .u64 0,.int .i64 0,.string ⟨#[]⟩,.slice none 0 0,.int .i64 3,.bool false,.bool false,.string ⟨#[49]⟩,.int .i64 1,.int .u64 0,.int .i64 0,.string ⟨#[]⟩,.slice none 0 0,.int .i64 1,.bool false,.bool false,.string ⟨#[]⟩,.int .i64 0,.int .u64 0,.int .i64 0,.string ⟨#[]⟩,.slice none 0 0] 28)).below hb6 (HK4.out.alloc (.cells #[.int .i64 5,.bool false,.bool false,.string ⟨#[]⟩,.int .i64 0,.int .u64 0,.int .i64 0,.string ⟨#[98]⟩,.slice none 0 0,.int .i64 1,.bool false,.bool false,.string ⟨#[]⟩,.int .i64 0,.int .u64 0,.int .i64 0,.string ⟨#[]⟩,.slice none 0 0,.int .i64 5,.bool false,.bool false,.string ⟨#[]⟩,.int .i64 0,.int .u64 0,.int .i64 0,.string ⟨#[97]⟩,.slice none 0 0,.int .i64 1,.bool false,.bool false,.string ⟨#[]⟩,.int .i64 0,.int .u64 0,.int .i64 0,.string ⟨#[]⟩,.slice none 0 0,.int .i64 3,.bool false,.bool false,.string ⟨#[49]⟩,.int .i64 1,.int .u64 0,.int .i64 0,.string ⟨#[]⟩,.slice none 0 0,.int .i64 1,.bool false,.bool false,.string ⟨#[]⟩,.int .i64 0,.int .u64 0,.int .i64 0,.string ⟨#[]⟩,.slice none 0 0] 28)).lt
 have hb6':=HB5.out.trans (hb6.mono HB5.out.size)
 clear hb6 HB5 HK1 HK2 HK3 HK4 HW
 go_wp2_with fail
 refine (HR.out _ hb6').mono ?_
 rintro x w7 ⟨hb7,A,n,c,rfl,_,_⟩
 have hk27:=hk26.below hb7 hk26.lt
 have hk37:=hk36.below hb7 hk36.lt
 have hk47:=hk46.below hb7 hk46.lt
 have hb7':=hb6'.trans (hb7.mono hb6'.size)
 have hz7:=hb7.size
 clear hb7 hb6' hk26 hk36 hk46 HR
 obtain ⟨W8,hW8⟩:∃ W8,w7.alloc (.cells #[.int .i64 0,.bool false,.bool false,.string ⟨#[]⟩,.int .i64 0,.int .u64 0,.int .i64 0,.string ⟨#[]⟩,.slice A n c] 28)=W8:=⟨_,rfl⟩
 have hb8:Below w.heap.size w W8:=by rw [← hW8]; exact hb7'.alloc hb7'.size _
 have hk28:Blk W8 (N+1) #[.int .i64 5,.bool false,.bool false,.string ⟨#[]⟩,.int .i64 0,.int .u64 0,.int .i64 0,.string ⟨#[97]⟩,.slice none 0 0] 28:=by rw [← hW8]; exact hk27.alloc _
 have hk38:Blk W8 (N+2) #[.int .i64 5,.bool false,.bool false,.string ⟨#[]⟩,.int .i64 0,.int .u64 0,.int .i64 0,.string ⟨#[98]⟩,.slice none 0 0] 28:=by rw [← hW8]; exact hk37.alloc _
 have hk48:Blk W8 (N+3) #[.int .i64 3,.bool false,.bool false,.string ⟨#[49]⟩,.int .i64 1,.int .u64 0,.int .i64 0,.string ⟨#[]⟩,.slice none 0 0] 28:=by rw [← hW8]; exact hk47.alloc _
 have HW8:=Lib.hid hW8
 clear hW8 hb7' hk27 hk37 hk47
 simp only []
 have hzz:nodeV (Tr.nd zeroO []).own (.slice A n c)=.agg #[.int .i64 0,.bool false,.bool false,.string ⟨#[]⟩,.int .i64 0,.int .u64 0,.int .i64 0,.string ⟨#[]⟩,.slice A n c]:=rfl
 rw [hzz]
 clear hzz
 go_upto_region 7 with fail
 rw [HW8.out]
 have q2:=fun i=>hk28.cell i
 have q3:=fun i=>hk38.cell i
 have q4:=fun i=>hk48.cell i
 go_wp2_with fail
 refine (HL1.out _ hb8).mono ?_
 rintro e w9 ⟨rfl,hb9⟩
 have hk29:=hk28.below hb9 hk28.lt
 have hk39:=hk38.below hb9 hk38.lt
 have hb9':=hb8.trans (hb9.mono hb8.size)
 clear hb9 hb8 hk28 hk38 hk48 q2 q3 q4 HL1
 have q2:=fun i=>hk29.cell i
 have q3:=fun i=>hk39.cell i
 go_wp2_with fail
 refine (HL2.out _ hb9').mono ?_
 rintro e w10 ⟨rfl,hb10⟩
 have hb11:=hb9'.trans (hb10.mono hb9'.size)
 clear hb10 hb9' hk29 hk39 q2 q3 HL2
 go_wp2_with fail
 go_ret
 exact ⟨by simp,hb11⟩
set_option maxHeartbeats 4000000 in
set_option maxRecDepth 100000 in
theorem index_sorted (p:Tr→Bool) (l:List Tr) (A:Option Addr) (n c:Nat) (w:World) (B d:Nat) (hl:ListAt w B d l (.slice A n c)) (hB:B≤w.heap.size) (hn:l.length=n)
  (hp:∀ (k:Nat) (h:k<l.length) (x:Value) (W:World),Below w.heap.size w W→ListAt W B d l[k].kids x→OwnOk l[k].own→Calls Tryz.prog 66 #[nodeV l[k].own x] W fun e W'=>e=.returned (.bool (p l[k]))∧Below W.heap.size W W') :
  Calls Tryz.prog 103 #[.slice A n c,.func (.func 66) #[] #[]] w (AnyIx (l.any p) w):=by
 obtain ⟨ans,hans⟩:∃ ans,l.any p=ans:=⟨_,rfl⟩
 rw [hans]
 have HL:=Lib.hid hl
 have HP:=Lib.hid hp
 have HN:=Lib.hid hn
 have H0:=Lib.hid (show (l.drop 0).any p=ans by rw [List.drop_zero]; exact hans)
 have hlen:=hl.slice.1
 rw [hn]at hlen
 clear hl hp hn hans
 go_enter Tryz.func103,Tryz.ntmps103
 go_wp2_with fail
 go_loopw [8] (fun i wr=>∃ k:Nat,k≤n∧i=.int .i64 k∧Below w.heap.size w wr∧Hid ((l.drop k).any p=ans)) (fun i _=>n - (intOf i).toNat)
 case atStart=>exact ⟨0,by omega,rfl,Below.refl _ _,H0⟩
 case round =>
  obtain ⟨k,hk,rfl,hbw,hs⟩:=hrel
  by_cases hlt:k<n
  ·have hkl:k<l.length:=by rw [HN.out]; exact hlt
   have hsd:=hs.out
   rw [List.drop_eq_getElem_cons hkl,List.any_cons]at hsd
   obtain ⟨d1,ad,x1,hd1,rfl,hab,hok,hna,hkk⟩:=(HL.out.below hbw hB).at_ hkl
   obtain ⟨_,A2,c2,rfl⟩:=hkk.slice
   obtain ⟨n2,hn2⟩:∃ n2,l[k].kids.length=n2:=⟨_,rfl⟩
   rw [hn2]at hna hkk
   have HC:=HP.out k hkl (.slice A2 n2 c2) wr hbw (hkk.deeper (by omega)) hok
   obtain ⟨b1,hb1⟩:∃ b1,p l[k]=b1:=⟨_,rfl⟩
   rw [hb1]at HC hsd
   have y1:(k:Int)<n:=by omega
   obtain ⟨⟨kind,b,neg,dg,ex,u,wd,s⟩,ho⟩:∃ o,l[k].own=o:=⟨_,rfl⟩
   rw [ho]at HC hna
   unfold nodeV at HC
   obtain ⟨k0,k1,k2,k3,k4,k5,k6,k7,k8⟩:=hna
   simp only []at k0 k1 k2 k3 k4 k5 k6 k7 k8 HC
   have HC:=Lib.hid HC
   have HSD:=Lib.hid hsd
   clear hsd hb1 ho hkk hok hd1 hn2
   go_wp2_with fail
   refine HC.out.mono ?_
   rintro e w2 ⟨rfl,hb⟩
   have hb4:=hbw.trans (hb.mono hbw.size)
   clear hb hbw HC k0 k1 k2 k3 k4 k5 k6 k7 k8
   cases b1 with
   | true =>
    have hf:ans=true:=by rw [← HSD.out,Bool.true_or]
    subst hf
    go_wp2_with fail
    go_ret
    exact ⟨_,rfl,iff_of_true (by omega) rfl,hb4⟩
   | false =>
    have hnx:Hid ((l.drop (k+1)).any p=ans):=Lib.hid (by have:=HSD.out; rw [Bool.false_or]at this; exact this)
    go_wp2_with fail
    go_roundw
    case rel=>exact ⟨k+1,by omega,by go_num,hb4,hnx⟩
    case measure=>simp [intOf]; omega
  ·obtain rfl:k=n:=by omega
   have y1:¬ (k:Int)<k:=by omega
   have hf:ans=false:=by
    rw [← hs.out,List.drop_eq_nil_of_le (by rw [HN.out]; exact Nat.le_refl _)]
    rfl
   subst hf
   go_wp2_with fail
   go_ret
   exact ⟨-1,rfl,iff_of_false (by omega) (by decide),hbw⟩
set_option maxHeartbeats 4000000 in
set_option maxRecDepth 100000 in
theorem contains_sorted (p:Tr→Bool) (l:List Tr) (A:Option Addr) (n c:Nat) (w:World) (B d:Nat) (hl:ListAt w B d l (.slice A n c)) (hB:B≤w.heap.size) (hn:l.length=n)
  (hp:∀ (k:Nat) (h:k<l.length) (x:Value) (W:World),Below w.heap.size w W→ListAt W B d l[k].kids x→OwnOk l[k].own→Calls Tryz.prog 66 #[nodeV l[k].own x] W fun e W'=>e=.returned (.bool (p l[k]))∧Below W.heap.size W W') :
  Calls Tryz.prog 65 #[.slice A n c,.func (.func 66) #[] #[]] w fun e w'=>e=.returned (.bool (l.any p))∧Below w.heap.size w w':=by
 have HI:=Lib.hid (index_sorted p l A n c w B d hl hB hn hp)
 obtain ⟨ans,hans⟩:∃ ans,l.any p=ans:=⟨_,rfl⟩
 rw [hans]at HI ⊢
 clear hl hp hn hans
 go_enter Tryz.func65,Tryz.ntmps65
 go_wp2_with fail
 refine HI.out.mono ?_
 rintro e w2 ⟨r,rfl,hr,hb⟩
 cases ans with
 | true =>
  have h0:(0:Int)≤r:=hr.2 rfl
  clear hr
  go_wp2_with fail
  go_ret
  exact ⟨rfl,hb⟩
 | false =>
  have h0:r<0:=by
   by_cases h:(0:Int)≤r
   ·exact absurd (hr.1 h) (by decide)
   ·omega
  have h1:¬ (0:Int)≤r:=by omega
  have h2:decide ((0:Int)≤r)=false:=decide_eq_false h1
  clear hr
  go_wp2_with fail
  go_ret
  exact ⟨rfl,hb⟩
theorem fits_at_D (aT aF:Addr):FitsC aT aF 3 flR:=fun o l A n c w B d hl hB hn hc ho h=>fits_D o l A n c w B d hl hB hn hc ho h
mutual
noncomputable def srtT:Tr→Bool
 | .nd o l=>(!decide (o.kind=8) || risesTo (itemN l) (l.length / 2)) && srtL l
noncomputable def srtL:List Tr→Bool
 | []=>true
 | t::l=>srtT t && srtL l
end
theorem srtL_any:∀ l:List Tr,srtL l = !(l.any fun t=>!srtT t)
 | []=>by rw [srtL]; rfl
 | t::l=>by
  rw [srtL,srtL_any l,List.any_cons]
  cases srtT t <;> simp
theorem srtT_eq (t:Tr):srtT t=((!decide (t.own.kind=8) || risesTo (itemN t.kids) (t.kids.length / 2)) && !(t.kids.any fun t=>!srtT t)):=by
 cases t with
 | nd o l=>rw [srtT,srtL_any]; rfl
set_option maxHeartbeats 4000000 in
set_option maxRecDepth 100000 in
theorem det_isSorted (m:Nat):∀ (t:Tr) (x:Value) (w:World) (B d:Nat) (aT aF:Addr),t.count≤m→ListAt w B d t.kids x→OwnOk t.own→B≤w.heap.size→t.count≤1000000→GW w aT aF →
  Calls Tryz.prog 42 #[nodeV t.own x] w fun e w'=>e=.returned (.bool (srtT t))∧Below w.heap.size w w':=by
 induction m with
 | zero =>
  intro t x w B d aT aF hm
  have:=kids_count (t:=t)
  omega
 | succ m ih =>
 intro t x w B d aT aF hm hl ho hB hc h
 rw [srtT_eq]
 obtain ⟨hlen,A,c,rfl⟩:=hl.slice
 have hkc:=kids_count (t:=t)
 have hkid:∀ u∈t.kids,u.count<t.count:=fun u hu=>kid_mem hu
 obtain ⟨l,hkl⟩:∃ l,t.kids=l:=⟨_,rfl⟩
 rw [hkl]at hl hlen hkc hkid ⊢
 obtain ⟨n,hn⟩:∃ n,l.length=n:=⟨_,rfl⟩
 rw [hn]at hl hlen hkc ⊢
 obtain ⟨⟨kind,b,neg,dg,ex,u,wd,s⟩,ho'⟩:∃ o,t.own=o:=⟨_,rfl⟩
 rw [ho']at ho ⊢
 have HR:=fun (W:World) (hW:Below w.heap.size w W)=>det_rises l A n c W B d aT aF (hl.below hW hB) hn (Nat.le_trans hB hW.size) (fun u hu=>by have:=hkid u hu; omega) (h.below hW) (by omega)
 have HS:=fun (W:World) (hW:Below w.heap.size w W)=>contains_sorted (fun t=>!srtT t) l A n c W B d (hl.below hW hB) (Nat.le_trans hB hW.size) hn (fun k hk y W2 hb hly hok=>by
  have hw2:=hW.trans (hb.mono hW.size)
  have hcnt:=hkid l[k] (List.getElem_mem hk)
  have h1:=fun W3 (hW3:Below W2.heap.size W2 W3)=>ih l[k] y W3 B d aT aF (by omega) (hly.below hW3 (Nat.le_trans hB hw2.size)) hok (Nat.le_trans hB (Nat.le_trans hw2.size hW3.size)) (by omega) (h.below (hw2.trans (hW3.mono hw2.size)))
  obtain ⟨_,A2,c2,rfl⟩:=hly.slice
  obtain ⟨n2,hn2⟩:∃ n2,l[k].kids.length=n2:=⟨_,rfl⟩
  rw [hn2]at h1 ⊢
  obtain ⟨⟨kind',b',neg',dg',ex',u',wd',s'⟩,ho1⟩:∃ o,l[k].own=o:=⟨_,rfl⟩
  rw [ho1]at h1 ⊢
  obtain ⟨q,hq⟩:∃ q,srtT l[k]=q:=⟨_,rfl⟩
  simp only [hq]at h1 ⊢
  unfold nodeV at h1 ⊢
  simp only []at h1 ⊢
  have hb1:Below W2.heap.size W2 (W2.alloc (.cells #[.int .i64 kind',.bool b',.bool neg',.string dg',.int .i64 ex',.int .u64 u',.int .i64 wd',.string s',.slice A2 n2 c2] 28)):=(Below.refl _ _).alloc (Nat.le_refl _) _
  have hk1:=Blk.new W2 #[.int .i64 kind',.bool b',.bool neg',.string dg',.int .i64 ex',.int .u64 u',.int .i64 wd',.string s',.slice A2 n2 c2] 28
  have HK:=Lib.hid hk1
  have H1:=Lib.hid h1
  clear h1 hq ho1 hn2 hcnt ih hl hkid h hkl ho' hk1 hly HR
  go_enter Tryz.func66,Tryz.ntmps66
  go_wp2_with (refine wpList_load_row rfl 28 (.tmp 1) rfl W2.heap.size rfl 28 _ (0,0) _ HK.out Tryz.underlying28 rfl (by kernel_rfl) ?_)
  refine (H1.out _ hb1).mono ?_
  rintro e w3 ⟨rfl,hb3⟩
  have hb4:=hb1.trans (hb3.mono hb1.size)
  clear hb3 hb1 H1
  go_wp2_with fail
  go_ret
  exact ⟨by simp,hb4⟩)
 obtain ⟨r,hr⟩:∃ r,risesTo (itemN l) (n / 2)=r:=⟨_,rfl⟩
 obtain ⟨q,hq⟩:∃ q,(l.any fun t=>!srtT t)=q:=⟨_,rfl⟩
 simp only [hr]at HR
 simp only [hq]at HS
 rw [hr,hq]
 unfold nodeV
 simp only []
 have hb1:Below w.heap.size w (w.alloc (.cells #[.int .i64 kind,.bool b,.bool neg,.string dg,.int .i64 ex,.int .u64 u,.int .i64 wd,.string s,.slice A n c] 28)):=(Below.refl _ _).alloc (Nat.le_refl _) _
 have hk1:=Blk.new w #[.int .i64 kind,.bool b,.bool neg,.string dg,.int .i64 ex,.int .u64 u,.int .i64 wd,.string s,.slice A n c] 28
 have k0:=hk1.cell 0
 have k8:=hk1.cell 8
 have HR:=Lib.hid HR
 have HS:=Lib.hid HS
 have HK:=Lib.hid hk1
 clear hr hq ih hl hn hkl hkid h ho' ho hkc hlen hc hm
 by_cases h8:kind=8
 ·subst h8
  simp only [decide_true,Bool.not_true,Bool.false_or]
  cases r with
  | false =>
   go_enter Tryz.func42,Tryz.ntmps42
   go_wp2_with fail
   refine (HR.out _ hb1).mono ?_
   rintro e w2 ⟨rfl,hb2⟩
   have hbw:=hb1.trans (hb2.mono hb1.size)
   clear hb2 hb1 HR HS
   go_wp2_with fail
   go_ret
   exact ⟨by simp,hbw⟩
  | true =>
   go_enter Tryz.func42,Tryz.ntmps42
   go_wp2_with fail
   refine (HR.out _ hb1).mono ?_
   rintro e w2 ⟨rfl,hb2⟩
   have hbw:=hb1.trans (hb2.mono hb1.size)
   have hk2:=HK.out.below hb2 HK.out.lt
   have k82:=hk2.cell 8
   clear hb2 hb1 HR k8 k0
   go_wp2_with fail
   refine (HS.out _ hbw).mono ?_
   rintro e w3 ⟨rfl,hb3⟩
   have hbw3:=hbw.trans (hb3.mono hbw.size)
   clear hb3 hbw HS
   go_wp2_with fail
   go_ret
   exact ⟨by simp,hbw3⟩
 ·have y8:(kind == 8)=false:=by rw [beq_eq_false_iff_ne]; exact h8
  rw [decide_eq_false h8]
  simp only [Bool.not_false,Bool.true_or,Bool.true_and]
  go_enter Tryz.func42,Tryz.ntmps42
  go_wp2_with fail
  refine (HS.out _ hb1).mono ?_
  rintro e w3 ⟨rfl,hb3⟩
  have hbw3:=hb1.trans (hb3.mono hb1.size)
  clear hb3 hb1 HS HR
  go_wp2_with fail
  go_ret
  exact ⟨by simp,hbw3⟩
set_option maxHeartbeats 4000000 in
set_option maxRecDepth 100000 in
theorem det_IsSettled (t:Tr) (x:Value) (w:World) (B d:Nat) (aT aF:Addr) (hl:ListAt w B d t.kids x) (ho:OwnOk t.own) (hB:B≤w.heap.size) (hc:t.count≤1000000) (h:GW w aT aF) :
  Calls Tryz.prog 24 #[nodeV t.own x] w fun e w'=>e=.returned (.bool (decide (checkT 3 flR t=0) && srtT t))∧Below w.heap.size w w':=by
 have HC:=fun (W:World) (hW:Below w.heap.size w W)=>tree_Check 3 flR (fits_at_D aT aF) t x W B d (hl.below hW hB) ho (Nat.le_trans hB hW.size) (by omega) (h.below hW)
 have HS:=fun (W:World) (hW:Below w.heap.size w W)=>det_isSorted t.count t x W B d aT aF (Nat.le_refl _) (hl.below hW hB) ho (Nat.le_trans hB hW.size) hc (h.below hW)
 obtain ⟨e0,he0⟩:∃ e0,checkT 3 flR t=e0:=⟨_,rfl⟩
 obtain ⟨r,hr⟩:∃ r,srtT t=r:=⟨_,rfl⟩
 simp only [he0]at HC
 simp only [hr]at HS
 rw [he0,hr]
 obtain ⟨hlen,A,c,rfl⟩:=hl.slice
 obtain ⟨n,hn⟩:∃ n,t.kids.length=n:=⟨_,rfl⟩
 obtain ⟨⟨kind,b,neg,dg,ex,u,wd,s⟩,ho'⟩:∃ o,t.own=o:=⟨_,rfl⟩
 rw [ho',hn]at HC HS ⊢
 unfold nodeV at HC HS ⊢
 simp only []at HC HS ⊢
 have hb1:Below w.heap.size w (w.alloc (.cells #[.int .i64 kind,.bool b,.bool neg,.string dg,.int .i64 ex,.int .u64 u,.int .i64 wd,.string s,.slice A n c] 28)):=(Below.refl _ _).alloc (Nat.le_refl _) _
 have hk1:=Blk.new w #[.int .i64 kind,.bool b,.bool neg,.string dg,.int .i64 ex,.int .u64 u,.int .i64 wd,.string s,.slice A n c] 28
 have HI:=fun bk t W (hk:Blk W bk #[.int .i64 e0] t)=>det_isOK (some ⟨bk,0,none⟩) 1 1 [e0] (bk+1) W (by omega) (lies_blk hk) hk.lt
 have hq:[e0].all isOkE=decide (e0=0):=by simp [isOkE]
 simp only [hq]at HI
 obtain ⟨q,hqq⟩:∃ q,decide (e0=0)=q:=⟨_,rfl⟩
 simp only [hqq]at HI
 rw [hqq]
 have HC:=Lib.hid HC
 have HS:=Lib.hid HS
 have HI:=Lib.hid HI
 have HK:=Lib.hid hk1
 clear he0 hr hl ho hc h hq hqq hn ho' hlen
 go_enter Tryz.func24,Tryz.ntmps24
 go_wp2_with (refine wpList_load_row rfl 28 (.tmp 1) rfl w.heap.size rfl 28 _ (0,0) _ HK.out Tryz.underlying28 rfl (by kernel_rfl) ?_)
 refine (HC.out _ hb1).mono ?_
 rintro e w2 ⟨rfl,hb2⟩
 have hbw:=hb1.trans (hb2.mono hb1.size)
 have hk2:=HK.out.below hb2 HK.out.lt
 clear hb2 hb1 HC
 have hbw3:=hbw.alloc hbw.size (.cells #[.int .i64 e0] 29)
 have hn3:=Blk.new w2 #[.int .i64 e0] 29
 have hk3:=hk2.alloc (.cells #[.int .i64 e0] 29)
 cases q with
 | true =>
  go_wp2_with fail
  refine (HI.out _ _ _ hn3).mono ?_
  rintro e w4 ⟨rfl,hb4⟩
  have hbw4:=hbw3.trans (hb4.mono hbw3.size)
  have hk4:=hk3.below hb4 hk3.lt
  have kk:=fun i=>hk4.cell i
  clear hb4 hbw3 hbw hn3 HI HK hk2 hk3 hk4
  go_wp2_with fail
  refine (HS.out _ hbw4).mono ?_
  rintro e w5 ⟨rfl,hb5⟩
  have hbw5:=hbw4.trans (hb5.mono hbw4.size)
  clear hb5 hbw4 HS
  go_wp2_with fail
  go_ret
  exact ⟨by simp,hbw5⟩
 | false =>
  go_wp2_with fail
  refine (HI.out _ _ _ hn3).mono ?_
  rintro e w4 ⟨rfl,hb4⟩
  have hbw4:=hbw3.trans (hb4.mono hbw3.size)
  clear hb4 hbw3 hbw hn3 HI HK hk2 hk3 HS
  go_wp2_with fail
  go_ret
  exact ⟨by simp,hbw4⟩
end Go.Proofs.YtonihophanmaaaaGreatDoor
