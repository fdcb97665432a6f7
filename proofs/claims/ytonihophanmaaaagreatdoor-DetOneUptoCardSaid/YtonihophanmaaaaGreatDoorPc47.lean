/- The texts DsS, DsE, GatM, GatZ, DsH, DtK, DsT, put together. -/
import Derived.Test.YtonihophanmaaaaGreatDoorPc46
import Derived.Test.YtonihophanmaaaaGreatDoorPc10
import Derived.Test.YtonihophanmaaaaGreatDoorPc18
import Derived.Test.YtonihophanmaaaaGreatDoorPc17
import Derived.Test.YtonihophanmaaaaGreatDoorPc27
import Derived.Test.YtonihophanmaaaaGreatDoorPc22
import Derived.Test.YtonihophanmaaaaGreatDoorPc28
set_option maxHeartbeats 8000000
set_option maxRecDepth 100000
namespace Go.Proofs.YtonihophanmaaaaGreatDoor
open Go.RowKit Go.Shelf
theorem zjw {aT aF:Addr} (w:World) (h:RW w aT aF) :
  Calls Tryz.prog 10 #[] w fun e w'=>e=.returned (.bool true)∧Below w.heap.size w w':=by
 obtain ⟨W4,hW4⟩:∃ W4,(((w.alloc (.cells #[.int .i64 1,.bool false,.bool false,.string ⟨#[]⟩,.int .i64 0,.int .u64 0,.int .i64 0,.string ⟨#[]⟩,.slice none 0 0] 28)).alloc (.cells #[.int .i64 5,.bool false,.bool false,.string ⟨#[]⟩,.int .i64 0,.int .u64 0,.int .i64 0,.string ⟨#[97]⟩,.slice none 0 0] 28)).alloc (.cells #[.int .i64 5,.bool false,.bool false,.string ⟨#[]⟩,.int .i64 0,.int .u64 0,.int .i64 0,.string ⟨#[98]⟩,.slice none 0 0] 28)).alloc (.cells #[.int .i64 3,.bool false,.bool false,.string ⟨#[49]⟩,.int .i64 1,.int .u64 0,.int .i64 0,.string ⟨#[]⟩,.slice none 0 0] 28)=W4:=⟨_,rfl⟩
 obtain ⟨N,hN⟩:∃ N,w.heap.size=N:=⟨_,rfl⟩
 have hk1:Blk W4 N #[.int .i64 1,.bool false,.bool false,.string ⟨#[]⟩,.int .i64 0,.int .u64 0,.int .i64 0,.string ⟨#[]⟩,.slice none 0 0] 28:=by rw [← hW4]; exact (((j3 hN _ _).alloc _).alloc _).alloc _
 have hk2:Blk W4 (N+1) #[.int .i64 5,.bool false,.bool false,.string ⟨#[]⟩,.int .i64 0,.int .u64 0,.int .i64 0,.string ⟨#[97]⟩,.slice none 0 0] 28:=by rw [← hW4]; exact ((j3 (by simp [hN]) _ _).alloc _).alloc _
 have hk3:Blk W4 (N+2) #[.int .i64 5,.bool false,.bool false,.string ⟨#[]⟩,.int .i64 0,.int .u64 0,.int .i64 0,.string ⟨#[98]⟩,.slice none 0 0] 28:=by rw [← hW4]; exact (j3 (by simp [hN]) _ _).alloc _
 have hk4:Blk W4 (N+3) #[.int .i64 3,.bool false,.bool false,.string ⟨#[49]⟩,.int .i64 1,.int .u64 0,.int .i64 0,.string ⟨#[]⟩,.slice none 0 0] 28:=by rw [← hW4]; exact j3 (by simp [hN]) _ _
 have hz4:W4.heap.size=N+4:=by rw [← hW4]; simp [hN]
 have hb4:Below N w W4:=by
  rw [← hW4]
  exact ((((Below.refl N w).alloc (by omega) _).alloc (by simp; omega) _).alloc (by simp; omega) _).alloc (by simp; omega) _
 have hk5:=Blk.new W4 #[.int .i64 5,.bool false,.bool false,.string ⟨#[]⟩,.int .i64 0,.int .u64 0,.int .i64 0,.string ⟨#[98]⟩,.slice none 0 0,.int .i64 1,.bool false,.bool false,.string ⟨#[]⟩,.int .i64 0,.int .u64 0,.int .i64 0,.string ⟨#[]⟩,.slice none 0 0,.int .i64 5,.bool false,.bool false,.string ⟨#[]⟩,.int .i64 0,.int .u64 0,.int .i64 0,.string ⟨#[97]⟩,.slice none 0 0,.int .i64 1,.bool false,.bool false,.string ⟨#[]⟩,.int .i64 0,.int .u64 0,.int .i64 0,.string ⟨#[]⟩,.slice none 0 0,.int .i64 3,.bool false,.bool false,.string ⟨#[49]⟩,.int .i64 1,.int .u64 0,.int .i64 0,.string ⟨#[]⟩,.slice none 0 0,.int .i64 1,.bool false,.bool false,.string ⟨#[]⟩,.int .i64 0,.int .u64 0,.int .i64 0,.string ⟨#[]⟩,.slice none 0 0] 28
 have hb5:=hb4.alloc (by omega) (.cells #[.int .i64 5,.bool false,.bool false,.string ⟨#[]⟩,.int .i64 0,.int .u64 0,.int .i64 0,.string ⟨#[98]⟩,.slice none 0 0,.int .i64 1,.bool false,.bool false,.string ⟨#[]⟩,.int .i64 0,.int .u64 0,.int .i64 0,.string ⟨#[]⟩,.slice none 0 0,.int .i64 5,.bool false,.bool false,.string ⟨#[]⟩,.int .i64 0,.int .u64 0,.int .i64 0,.string ⟨#[97]⟩,.slice none 0 0,.int .i64 1,.bool false,.bool false,.string ⟨#[]⟩,.int .i64 0,.int .u64 0,.int .i64 0,.string ⟨#[]⟩,.slice none 0 0,.int .i64 3,.bool false,.bool false,.string ⟨#[49]⟩,.int .i64 1,.int .u64 0,.int .i64 0,.string ⟨#[]⟩,.slice none 0 0,.int .i64 1,.bool false,.bool false,.string ⟨#[]⟩,.int .i64 0,.int .u64 0,.int .i64 0,.string ⟨#[]⟩,.slice none 0 0] 28)
 have hrow:zV (W4.alloc (.cells #[.int .i64 5,.bool false,.bool false,.string ⟨#[]⟩,.int .i64 0,.int .u64 0,.int .i64 0,.string ⟨#[98]⟩,.slice none 0 0,.int .i64 1,.bool false,.bool false,.string ⟨#[]⟩,.int .i64 0,.int .u64 0,.int .i64 0,.string ⟨#[]⟩,.slice none 0 0,.int .i64 5,.bool false,.bool false,.string ⟨#[]⟩,.int .i64 0,.int .u64 0,.int .i64 0,.string ⟨#[97]⟩,.slice none 0 0,.int .i64 1,.bool false,.bool false,.string ⟨#[]⟩,.int .i64 0,.int .u64 0,.int .i64 0,.string ⟨#[]⟩,.slice none 0 0,.int .i64 3,.bool false,.bool false,.string ⟨#[49]⟩,.int .i64 1,.int .u64 0,.int .i64 0,.string ⟨#[]⟩,.slice none 0 0,.int .i64 1,.bool false,.bool false,.string ⟨#[]⟩,.int .i64 0,.int .u64 0,.int .i64 0,.string ⟨#[]⟩,.slice none 0 0] 28)) (fun q=>q<N+5) 0 (unp shU) [.int .i64 5,.bool false,.bool false,.string ⟨#[]⟩,.int .i64 0,.int .u64 0,.int .i64 0,.string ⟨#[98]⟩,.slice none 0 0,.int .i64 1,.bool false,.bool false,.string ⟨#[]⟩,.int .i64 0,.int .u64 0,.int .i64 0,.string ⟨#[]⟩,.slice none 0 0,.int .i64 5,.bool false,.bool false,.string ⟨#[]⟩,.int .i64 0,.int .u64 0,.int .i64 0,.string ⟨#[97]⟩,.slice none 0 0,.int .i64 1,.bool false,.bool false,.string ⟨#[]⟩,.int .i64 0,.int .u64 0,.int .i64 0,.string ⟨#[]⟩,.slice none 0 0,.int .i64 3,.bool false,.bool false,.string ⟨#[49]⟩,.int .i64 1,.int .u64 0,.int .i64 0,.string ⟨#[]⟩,.slice none 0 0,.int .i64 1,.bool false,.bool false,.string ⟨#[]⟩,.int .i64 0,.int .u64 0,.int .i64 0,.string ⟨#[]⟩,.slice none 0 0]:=
  ⟨_,_,rfl,vq _ (by decide) (by decide) (by decide) (by decide) rfl rfl,LAt.nil _ _ _ _ _,_,_,rfl,vq _ (by decide) (by decide) (by decide) (by decide) rfl rfl,LAt.nil _ _ _ _ _,_,_,rfl,vq _ (by decide) (by decide) (by decide) (by decide) rfl rfl,LAt.nil _ _ _ _ _,_,_,rfl,vq _ (by decide) (by decide) (by decide) (by decide) rfl rfl,LAt.nil _ _ _ _ _,_,_,rfl,vq _ (by decide) (by decide) (by decide) (by decide) rfl rfl,LAt.nil _ _ _ _ _,_,_,rfl,vq _ (by decide) (by decide) (by decide) (by decide) rfl rfl,LAt.nil _ _ _ _ _,rfl⟩
 have hl:=hrow.blkD (n:=6) hk5 rfl rfl (by decide) (fun q hq=>by omega)
 have hb5':Below w.heap.size w (W4.alloc (.cells #[.int .i64 5,.bool false,.bool false,.string ⟨#[]⟩,.int .i64 0,.int .u64 0,.int .i64 0,.string ⟨#[98]⟩,.slice none 0 0,.int .i64 1,.bool false,.bool false,.string ⟨#[]⟩,.int .i64 0,.int .u64 0,.int .i64 0,.string ⟨#[]⟩,.slice none 0 0,.int .i64 5,.bool false,.bool false,.string ⟨#[]⟩,.int .i64 0,.int .u64 0,.int .i64 0,.string ⟨#[97]⟩,.slice none 0 0,.int .i64 1,.bool false,.bool false,.string ⟨#[]⟩,.int .i64 0,.int .u64 0,.int .i64 0,.string ⟨#[]⟩,.slice none 0 0,.int .i64 3,.bool false,.bool false,.string ⟨#[49]⟩,.int .i64 1,.int .u64 0,.int .i64 0,.string ⟨#[]⟩,.slice none 0 0,.int .i64 1,.bool false,.bool false,.string ⟨#[]⟩,.int .i64 0,.int .u64 0,.int .i64 0,.string ⟨#[]⟩,.slice none 0 0] 28)):=by rw [hN]; exact hb5
 have HW:=yh (.nd mpO (unp shU)) (.slice (some ⟨W4.heap.size,0,none⟩) 6 6) (W4.alloc (.cells #[.int .i64 5,.bool false,.bool false,.string ⟨#[]⟩,.int .i64 0,.int .u64 0,.int .i64 0,.string ⟨#[98]⟩,.slice none 0 0,.int .i64 1,.bool false,.bool false,.string ⟨#[]⟩,.int .i64 0,.int .u64 0,.int .i64 0,.string ⟨#[]⟩,.slice none 0 0,.int .i64 5,.bool false,.bool false,.string ⟨#[]⟩,.int .i64 0,.int .u64 0,.int .i64 0,.string ⟨#[97]⟩,.slice none 0 0,.int .i64 1,.bool false,.bool false,.string ⟨#[]⟩,.int .i64 0,.int .u64 0,.int .i64 0,.string ⟨#[]⟩,.slice none 0 0,.int .i64 3,.bool false,.bool false,.string ⟨#[49]⟩,.int .i64 1,.int .u64 0,.int .i64 0,.string ⟨#[]⟩,.slice none 0 0,.int .i64 1,.bool false,.bool false,.string ⟨#[]⟩,.int .i64 0,.int .u64 0,.int .i64 0,.string ⟨#[]⟩,.slice none 0 0] 28)) _ 1 aT aF hl (vq _ (by decide) (by decide) (by decide) (by decide) rfl rfl) (fun q hq=>by rw [World.size_alloc]; exact hq) (by decide +kernel) (h.below hb5').g
 rw [zlW,zez]at HW
 have HR:=Lib.hid (fun W (hW:Below w.heap.size w W)=>zcm (aT:=aT) (aF:=aF) ⟨#[162,97,98,246,97,97,246]⟩ (by decide) W (h.below hW) znt)
 rw [znZ]at HR
 have HL1:=Lib.hid (fun W (hW:Below w.heap.size w W)=>zfs ziW kaT none none 0 0 0 0 W 0 0 aT aF (LAt.nil _ _ _ _ _) (LAt.nil _ _ _ _ _) (vq _ (by decide) (by decide) (by decide) (by decide) rfl rfl) (vq _ (by decide) (by decide) (by decide) (by decide) rfl rfl) (Nat.zero_le _) (by decide +kernel) (by decide +kernel) (h.below hW).g)
 have HL2:=Lib.hid (fun W (hW:Below w.heap.size w W)=>zfs kbT kaT none none 0 0 0 0 W 0 0 aT aF (LAt.nil _ _ _ _ _) (LAt.nil _ _ _ _ _) (vq _ (by decide) (by decide) (by decide) (by decide) rfl rfl) (vq _ (by decide) (by decide) (by decide) (by decide) rfl rfl) (Nat.zero_le _) (by decide +kernel) (by decide +kernel) (h.below hW).g)
 rw [zlq]at HL1
 rw [zmR]at HL2
 replace HW:Calls Tryz.prog 18 #[.agg #[.int .i64 8,.bool false,.bool false,.string ⟨#[]⟩,.int .i64 0,.int .u64 0,.int .i64 0,.string ⟨#[]⟩,.slice (some ⟨N+4,0,none⟩) 6 6]] (W4.alloc (.cells #[.int .i64 5,.bool false,.bool false,.string ⟨#[]⟩,.int .i64 0,.int .u64 0,.int .i64 0,.string ⟨#[98]⟩,.slice none 0 0,.int .i64 1,.bool false,.bool false,.string ⟨#[]⟩,.int .i64 0,.int .u64 0,.int .i64 0,.string ⟨#[]⟩,.slice none 0 0,.int .i64 5,.bool false,.bool false,.string ⟨#[]⟩,.int .i64 0,.int .u64 0,.int .i64 0,.string ⟨#[97]⟩,.slice none 0 0,.int .i64 1,.bool false,.bool false,.string ⟨#[]⟩,.int .i64 0,.int .u64 0,.int .i64 0,.string ⟨#[]⟩,.slice none 0 0,.int .i64 3,.bool false,.bool false,.string ⟨#[49]⟩,.int .i64 1,.int .u64 0,.int .i64 0,.string ⟨#[]⟩,.slice none 0 0,.int .i64 1,.bool false,.bool false,.string ⟨#[]⟩,.int .i64 0,.int .u64 0,.int .i64 0,.string ⟨#[]⟩,.slice none 0 0] 28)) fun e w'=>e=.returned (.tuple #[.string ⟨#[163,10,246,97,97,246,97,98,246]⟩,.int .i64 0])∧Below (W4.alloc (.cells #[.int .i64 5,.bool false,.bool false,.string ⟨#[]⟩,.int .i64 0,.int .u64 0,.int .i64 0,.string ⟨#[98]⟩,.slice none 0 0,.int .i64 1,.bool false,.bool false,.string ⟨#[]⟩,.int .i64 0,.int .u64 0,.int .i64 0,.string ⟨#[]⟩,.slice none 0 0,.int .i64 5,.bool false,.bool false,.string ⟨#[]⟩,.int .i64 0,.int .u64 0,.int .i64 0,.string ⟨#[97]⟩,.slice none 0 0,.int .i64 1,.bool false,.bool false,.string ⟨#[]⟩,.int .i64 0,.int .u64 0,.int .i64 0,.string ⟨#[]⟩,.slice none 0 0,.int .i64 3,.bool false,.bool false,.string ⟨#[49]⟩,.int .i64 1,.int .u64 0,.int .i64 0,.string ⟨#[]⟩,.slice none 0 0,.int .i64 1,.bool false,.bool false,.string ⟨#[]⟩,.int .i64 0,.int .u64 0,.int .i64 0,.string ⟨#[]⟩,.slice none 0 0] 28)).heap.size (W4.alloc (.cells #[.int .i64 5,.bool false,.bool false,.string ⟨#[]⟩,.int .i64 0,.int .u64 0,.int .i64 0,.string ⟨#[98]⟩,.slice none 0 0,.int .i64 1,.bool false,.bool false,.string ⟨#[]⟩,.int .i64 0,.int .u64 0,.int .i64 0,.string ⟨#[]⟩,.slice none 0 0,.int .i64 5,.bool false,.bool false,.string ⟨#[]⟩,.int .i64 0,.int .u64 0,.int .i64 0,.string ⟨#[97]⟩,.slice none 0 0,.int .i64 1,.bool false,.bool false,.string ⟨#[]⟩,.int .i64 0,.int .u64 0,.int .i64 0,.string ⟨#[]⟩,.slice none 0 0,.int .i64 3,.bool false,.bool false,.string ⟨#[49]⟩,.int .i64 1,.int .u64 0,.int .i64 0,.string ⟨#[]⟩,.slice none 0 0,.int .i64 1,.bool false,.bool false,.string ⟨#[]⟩,.int .i64 0,.int .u64 0,.int .i64 0,.string ⟨#[]⟩,.slice none 0 0] 28)) w':=by rw [← hz4]; exact HW
 replace HL1:Hid (∀ W,Below w.heap.size w W→Calls Tryz.prog 15 #[.agg #[.int .i64 3,.bool false,.bool false,.string ⟨#[49]⟩,.int .i64 1,.int .u64 0,.int .i64 0,.string ⟨#[]⟩,.slice none 0 0],.agg #[.int .i64 5,.bool false,.bool false,.string ⟨#[]⟩,.int .i64 0,.int .u64 0,.int .i64 0,.string ⟨#[97]⟩,.slice none 0 0]] W fun e w'=>e=.returned (.bool true)∧Below W.heap.size W w'):=HL1
 replace HL2:Hid (∀ W,Below w.heap.size w W→Calls Tryz.prog 15 #[.agg #[.int .i64 5,.bool false,.bool false,.string ⟨#[]⟩,.int .i64 0,.int .u64 0,.int .i64 0,.string ⟨#[98]⟩,.slice none 0 0],.agg #[.int .i64 5,.bool false,.bool false,.string ⟨#[]⟩,.int .i64 0,.int .u64 0,.int .i64 0,.string ⟨#[97]⟩,.slice none 0 0]] W fun e w'=>e=.returned (.bool false)∧Below W.heap.size W w'):=HL2
 have HW:=Lib.hid HW
 have HK1:=Lib.hid hk1
 have HK2:=Lib.hid hk2
 have HK3:=Lib.hid hk3
 have HK4:=Lib.hid hk4
 have HB5:=Lib.hid hb5'
 have HW4:=Lib.hid hW4
 have HZ4:=Lib.hid hz4
 clear hl hrow hk1 hk2 hk3 hk4 hk5 h hb4 hb5 hb5' hW4
 go_enter Tryz.func10,Tryz.ntmps10
 go_upto_region 5 with fail
 rw [HW4.out]
 clear HW4
 go_wp2_with (first | (refine wpList_load_row rfl 28 (.tmp 1) rfl N rfl 28 _ (0,0) _ HK1.out Tryz.underlying28 rfl (by kernel_rfl) ?_) | (refine wpList_load_row rfl 28 (.tmp 2) rfl (N+1) rfl 28 _ (0,0) _ HK2.out Tryz.underlying28 rfl (by kernel_rfl) ?_) | (refine wpList_load_row rfl 28 (.tmp 3) rfl (N+2) rfl 28 _ (0,0) _ HK3.out Tryz.underlying28 rfl (by kernel_rfl) ?_) | (refine wpList_load_row rfl 28 (.tmp 4) rfl (N+3) rfl 28 _ (0,0) _ HK4.out Tryz.underlying28 rfl (by kernel_rfl) ?_))
 refine HW.out.mono ?_
 rintro e w6 ⟨rfl,hb6⟩
 have hz6:=hb6.size
 rw [World.size_alloc]at hz6
 have hk26:=(HK2.out.alloc (.cells #[.int .i64 5,.bool false,.bool false,.string ⟨#[]⟩,.int .i64 0,.int .u64 0,.int .i64 0,.string ⟨#[98]⟩,.slice none 0 0,.int .i64 1,.bool false,.bool false,.string ⟨#[]⟩,.int .i64 0,.int .u64 0,.int .i64 0,.string ⟨#[]⟩,.slice none 0 0,.int .i64 5,.bool false,.bool false,.string ⟨#[]⟩,.int .i64 0,.int .u64 0,.int .i64 0,.string ⟨#[97]⟩,.slice none 0 0,.int .i64 1,.bool false,.bool false,.string ⟨#[]⟩,.int .i64 0,.int .u64 0,.int .i64 0,.string ⟨#[]⟩,.slice none 0 0,.int .i64 3,.bool false,.bool false,.string ⟨#[49]⟩,.int .i64 1,.int .u64 0,.int .i64 0,.string ⟨#[]⟩,.slice none 0 0,.int .i64 1,.bool false,.bool false,.string ⟨#[]⟩,.int .i64 0,.int .u64 0,.int .i64 0,.string ⟨#[]⟩,.slice none 0 0] 28)).below hb6 (HK2.out.alloc (.cells #[.int .i64 5,.bool false,.bool false,.string ⟨#[]⟩,.int .i64 0,.int .u64 0,.int .i64 0,.string ⟨#[98]⟩,.slice none 0 0,.int .i64 1,.bool false,.bool false,.string ⟨#[]⟩,.int .i64 0,.int .u64 0,.int .i64 0,.string ⟨#[]⟩,.slice none 0 0,.int .i64 5,.bool false,.bool false,.string ⟨#[]⟩,.int .i64 0,.int .u64 0,.int .i64 0,.string ⟨#[97]⟩,.slice none 0 0,.int .i64 1,.bool false,.bool false,.string ⟨#[]⟩,.int .i64 0,.int .u64 0,.int .i64 0,.string ⟨#[]⟩,.slice none 0 0,.int .i64 3,.bool false,.bool false,.string ⟨#[49]⟩,.int .i64 1,.int .u64 0,.int .i64 0,.string ⟨#[]⟩,.slice none 0 0,.int .i64 1,.bool false,.bool false,.string ⟨#[]⟩,.int .i64 0,.int .u64 0,.int .i64 0,.string ⟨#[]⟩,.slice none 0 0] 28)).lt
 have hk36:=(HK3.out.alloc (.cells #[.int .i64 5,.bool false,.bool false,.string ⟨#[]⟩,.int .i64 0,.int .u64 0,.int .i64 0,.string ⟨#[98]⟩,.slice none 0 0,.int .i64 1,.bool false,.bool false,.string ⟨#[]⟩,.int .i64 0,.int .u64 0,.int .i64 0,.string ⟨#[]⟩,.slice none 0 0,.int .i64 5,.bool false,.bool false,.string ⟨#[]⟩,.int .i64 0,.int .u64 0,.int .i64 0,.string ⟨#[97]⟩,.slice none 0 0,.int .i64 1,.bool false,.bool false,.string ⟨#[]⟩,.int .i64 0,.int .u64 0,.int .i64 0,.string ⟨#[]⟩,.slice none 0 0,.int .i64 3,.bool false,.bool false,.string ⟨#[49]⟩,.int .i64 1,.int .u64 0,.int .i64 0,.string ⟨#[]⟩,.slice none 0 0,.int .i64 1,.bool false,.bool false,.string ⟨#[]⟩,.int .i64 0,.int .u64 0,.int .i64 0,.string ⟨#[]⟩,.slice none 0 0] 28)).below hb6 (HK3.out.alloc (.cells #[.int .i64 5,.bool false,.bool false,.string ⟨#[]⟩,.int .i64 0,.int .u64 0,.int .i64 0,.string ⟨#[98]⟩,.slice none 0 0,.int .i64 1,.bool false,.bool false,.string ⟨#[]⟩,.int .i64 0,.int .u64 0,.int .i64 0,.string ⟨#[]⟩,.slice none 0 0,.int .i64 5,.bool false,.bool false,.string ⟨#[]⟩,.int .i64 0,.int .u64 0,.int .i64 0,.string ⟨#[97]⟩,.slice none 0 0,.int .i64 1,.bool false,.bool false,.string ⟨#[]⟩,.int .i64 0,.int .u64 0,.int .i64 0,.string ⟨#[]⟩,.slice none 0 0,.int .i64 3,.bool false,.bool false,.string ⟨#[49]⟩,.int .i64 1,.int .u64 0,.int .i64 0,.string ⟨#[]⟩,.slice none 0 0,.int .i64 1,.bool false,.bool false,.string ⟨#[]⟩,.int .i64 0,.int .u64 0,.int .i64 0,.string ⟨#[]⟩,.slice none 0 0] 28)).lt
 have hk46:=(HK4.out.alloc (.cells #[.int .i64 5,.bool false,.bool false,.string ⟨#[]⟩,.int .i64 0,.int .u64 0,.int .i64 0,.string ⟨#[98]⟩,.slice none 0 0,.int .i64 1,.bool false,.bool false,.string ⟨#[]⟩,.int .i64 0,.int .u64 0,.int .i64 0,.string ⟨#[]⟩,.slice none 0 0,.int .i64 5,.bool false,.bool false,.string ⟨#[]⟩,.int .i64 0,.int .u64 0,.int .i64 0,.string ⟨#[97]⟩,.slice none 0 0,.int .i64 1,.bool false,.bool false,.string ⟨#[]⟩,.int .i64 0,.int .u64 0,.int .i64 0,.string ⟨#[]⟩,.slice none 0 0,.int .i64 3,.bool false,.bool false,.string ⟨#[49]⟩,.int .i64 1,.int .u64 0,.int .i64 0,.string ⟨#[]⟩,.slice none 0 0,.int .i64 1,.bool false,.bool false,.string ⟨#[]⟩,.int .i64 0,.int .u64 0,.int .i64 0,.string ⟨#[]⟩,.slice none 0 0] 28)).below hb6 (HK4.out.alloc (.cells #[.int .i64 5,.bool false,.bool false,.string ⟨#[]⟩,.int .i64 0,.int .u64 0,.int .i64 0,.string ⟨#[98]⟩,.slice none 0 0,.int .i64 1,.bool false,.bool false,.string ⟨#[]⟩,.int .i64 0,.int .u64 0,.int .i64 0,.string ⟨#[]⟩,.slice none 0 0,.int .i64 5,.bool false,.bool false,.string ⟨#[]⟩,.int .i64 0,.int .u64 0,.int .i64 0,.string ⟨#[97]⟩,.slice none 0 0,.int .i64 1,.bool false,.bool false,.string ⟨#[]⟩,.int .i64 0,.int .u64 0,.int .i64 0,.string ⟨#[]⟩,.slice none 0 0,.int .i64 3,.bool false,.bool false,.string ⟨#[49]⟩,.int .i64 1,.int .u64 0,.int .i64 0,.string ⟨#[]⟩,.slice none 0 0,.int .i64 1,.bool false,.bool false,.string ⟨#[]⟩,.int .i64 0,.int .u64 0,.int .i64 0,.string ⟨#[]⟩,.slice none 0 0] 28)).lt
 have hb6':=HB5.out.trans (hb6.mono HB5.out.size)
 clear hb6 HB5 HK1 HK2 HK3 HK4 HW
 go_wp2_with fail
 refine (HR.out _ hb6').mono ?_
 rintro x w7 ⟨hb7,A,n,c,rfl,_,_⟩
 have hk27:=hk26.below hb7 hk26.lt
 have hk37:=hk36.below hb7 hk36.lt
 have hk47:=hk46.below hb7 hk46.lt
 have hb7':=hb6'.trans (hb7.mono hb6'.size)
 have hz7:=hb7.size
 clear hb7 hb6' hk26 hk36 hk46 HR
 obtain ⟨W8,hW8⟩:∃ W8,w7.alloc (.cells #[.int .i64 0,.bool false,.bool false,.string ⟨#[]⟩,.int .i64 0,.int .u64 0,.int .i64 0,.string ⟨#[]⟩,.slice A n c] 28)=W8:=⟨_,rfl⟩
 have hb8:Below w.heap.size w W8:=by rw [← hW8]; exact hb7'.alloc hb7'.size _
 have hk28:Blk W8 (N+1) #[.int .i64 5,.bool false,.bool false,.string ⟨#[]⟩,.int .i64 0,.int .u64 0,.int .i64 0,.string ⟨#[97]⟩,.slice none 0 0] 28:=by rw [← hW8]; exact hk27.alloc _
 have hk38:Blk W8 (N+2) #[.int .i64 5,.bool false,.bool false,.string ⟨#[]⟩,.int .i64 0,.int .u64 0,.int .i64 0,.string ⟨#[98]⟩,.slice none 0 0] 28:=by rw [← hW8]; exact hk37.alloc _
 have hk48:Blk W8 (N+3) #[.int .i64 3,.bool false,.bool false,.string ⟨#[49]⟩,.int .i64 1,.int .u64 0,.int .i64 0,.string ⟨#[]⟩,.slice none 0 0] 28:=by rw [← hW8]; exact hk47.alloc _
 have HW8:=Lib.hid hW8
 clear hW8 hb7' hk27 hk37 hk47
 simp only []
 have hzz:ze (Tr.nd zv []).own (.slice A n c)=.agg #[.int .i64 0,.bool false,.bool false,.string ⟨#[]⟩,.int .i64 0,.int .u64 0,.int .i64 0,.string ⟨#[]⟩,.slice A n c]:=rfl
 rw [hzz]
 clear hzz
 go_upto_region 7 with fail
 rw [HW8.out]
 have q2:=fun i=>hk28.cell i
 have q3:=fun i=>hk38.cell i
 have q4:=fun i=>hk48.cell i
 go_wp2_with fail
 refine (HL1.out _ hb8).mono ?_
 rintro e w9 ⟨rfl,hb9⟩
 have hk29:=hk28.below hb9 hk28.lt
 have hk39:=hk38.below hb9 hk38.lt
 have hb9':=hb8.trans (hb9.mono hb8.size)
 clear hb9 hb8 hk28 hk38 hk48 q2 q3 q4 HL1
 have q2:=fun i=>hk29.cell i
 have q3:=fun i=>hk39.cell i
 go_wp2_with fail
 refine (HL2.out _ hb9').mono ?_
 rintro e w10 ⟨rfl,hb10⟩
 have hb11:=hb9'.trans (hb10.mono hb9'.size)
 clear hb10 hb9' hk29 hk39 q2 q3 HL2
 go_wp2_with fail
 go_ret
 exact ⟨by simp,hb11⟩
theorem zfO (p:Tr→Bool) (l:List Tr) (A:Option Addr) (n c:Nat) (w:World) (B d:Nat) (E:zq w B d l (.slice A n c)) (hB:B≤w.heap.size) (hn:l.length=n)
  (M:∀ (k:Nat) (h:k<l.length) (x:Value) (W:World),Below w.heap.size w W→zq W B d l[k].kids x→zt l[k].own→Calls Tryz.prog 66 #[ze l[k].own x] W fun e W'=>e=.returned (.bool (p l[k]))∧Below W.heap.size W W') :
  Calls Tryz.prog 103 #[.slice A n c,.func (.func 66) #[] #[]] w (zhS (l.any p) w):=by
 obtain ⟨ans,g⟩:∃ ans,l.any p=ans:=⟨_,rfl⟩
 rw [g]
 have HL:=Lib.hid E
 have HP:=Lib.hid M
 have G:=Lib.hid hn
 have Z:=Lib.hid (show (l.drop 0).any p=ans by rw [List.drop_zero]; exact g)
 have F:=E.slice.1
 rw [hn]at F
 clear E M hn g
 go_enter Tryz.func103,Tryz.ntmps103
 go_wp2_with fail
 go_loopw [8] (fun i wr=>∃ k:Nat,k≤n∧i=.int .i64 k∧Below w.heap.size w wr∧Hid ((l.drop k).any p=ans)) (fun i _=>n - (intOf i).toNat)
 case atStart=>exact ⟨0,by omega,rfl,Below.refl _ _,Z⟩
 case round =>
  obtain ⟨k,hk,rfl,a,N⟩:=hrel
  by_cases J:k<n
  ·have q:k<l.length:=by rw [G.out]; exact J
   have m:=N.out
   rw [List.drop_eq_getElem_cons q,List.any_cons]at m
   obtain ⟨d1,ad,x1,I,rfl,ag,C,r,j⟩:=(HL.out.below a hB).at_ q
   obtain ⟨_,Y,c2,rfl⟩:=j.slice
   obtain ⟨n2,z⟩:∃ n2,l[k].kids.length=n2:=⟨_,rfl⟩
   rw [z]at r j
   have f:=HP.out k q (.slice Y n2 c2) wr a (j.deeper (by omega)) C
   obtain ⟨b1,v⟩:∃ b1,p l[k]=b1:=⟨_,rfl⟩
   rw [v]at f m
   have y1:(k:Int)<n:=by omega
   obtain ⟨⟨kind,b,neg,dg,ex,u,wd,s⟩,L⟩:∃ o,l[k].own=o:=⟨_,rfl⟩
   rw [L]at f r
   unfold ze at f
   obtain ⟨O,P,Q,R,S,T,U,V,X⟩:=r
   simp only []at O P Q R S T U V X f
   have f:=Lib.hid f
   have t:=Lib.hid m
   clear m v L j C I z
   go_wp2_with fail
   refine f.out.mono ?_
   rintro e w2 ⟨rfl,H⟩
   have y:=a.trans (H.mono a.size)
   clear H a f O P Q R S T U V X
   cases b1 with
   | true =>
    have D:ans=true:=by rw [← t.out,Bool.true_or]
    subst D
    go_wp2_with fail
    go_ret
    exact ⟨_,rfl,iff_of_true (by omega) rfl,y⟩
   | false =>
    have K:Hid ((l.drop (k+1)).any p=ans):=Lib.hid (by have:=t.out; rw [Bool.false_or]at this; exact this)
    go_wp2_with fail
    go_roundw
    case rel=>exact ⟨k+1,by omega,by go_num,y,K⟩
    case measure=>simp [intOf]; omega
  ·obtain rfl:k=n:=by omega
   have y1:¬ (k:Int)<k:=by omega
   have D:ans=false:=by
    rw [← N.out,List.drop_eq_nil_of_le (by rw [G.out]; exact Nat.le_refl _)]
    rfl
   subst D
   go_wp2_with fail
   go_ret
   exact ⟨-1,rfl,iff_of_false (by omega) (by decide),a⟩
theorem zcW (p:Tr→Bool) (l:List Tr) (A:Option Addr) (n c:Nat) (w:World) (B d:Nat) (i:zq w B d l (.slice A n c)) (s:B≤w.heap.size) (hn:l.length=n)
  (j:∀ (k:Nat) (h:k<l.length) (x:Value) (W:World),Below w.heap.size w W→zq W B d l[k].kids x→zt l[k].own→Calls Tryz.prog 66 #[ze l[k].own x] W fun e m=>e=.returned (.bool (p l[k]))∧Below W.heap.size W m) :
  Calls Tryz.prog 65 #[.slice A n c,.func (.func 66) #[] #[]] w fun e w'=>e=.returned (.bool (l.any p))∧Below w.heap.size w w':=by
 have f:=Lib.hid (zfO p l A n c w B d i s hn j)
 obtain ⟨ans,a⟩:∃ ans,l.any p=ans:=⟨_,rfl⟩
 rw [a]at f ⊢
 clear i j hn a
 go_enter Tryz.func65,Tryz.ntmps65
 go_wp2_with fail
 refine f.out.mono ?_
 rintro e u ⟨r,rfl,b,g⟩
 cases ans with
 | true =>
  have o:(0:Int)≤r:=b.2 rfl
  clear b
  go_wp2_with fail
  go_ret
  exact ⟨rfl,g⟩
 | false =>
  have o:r<0:=by
   by_cases h:(0:Int)≤r
   ·exact absurd (b.1 h) (by decide)
   ·omega
  have q:¬ (0:Int)≤r:=by omega
  have t:decide ((0:Int)≤r)=false:=decide_eq_false q
  clear b
  go_wp2_with fail
  go_ret
  exact ⟨rfl,g⟩
theorem zjC (aT aF:Addr):ze0 aT aF 3 flR:=fun o l A n c w B d b a hn hc e h=>znj o l A n c w B d b a hn hc e h
mutual
noncomputable def xF:Tr→Bool
 | .nd o l=>(!decide (o.kind=8) || jZ (xb l) (l.length / 2)) && zbI l
noncomputable def zbI:List Tr→Bool
 | []=>true
 | t::l=>xF t && zbI l
end
theorem zgx:∀ l:List Tr,zbI l = !(l.any fun t=>!xF t)
 | []=>by rw [zbI]; rfl
 | t::l=>by
  rw [zbI,zgx l,List.any_cons]
  cases xF t <;> simp
theorem zm3 (t:Tr):xF t=((!decide (t.own.kind=8) || jZ (xb t.kids) (t.kids.length / 2)) && !(t.kids.any fun t=>!xF t)):=by
 cases t with
 | nd o l=>rw [xF,zgx]; rfl
theorem zfv (m:Nat):∀ (t:Tr) (x:Value) (w:World) (B d:Nat) (N M:Addr),t.count≤m→zq w B d t.kids x→zt t.own→B≤w.heap.size→t.count≤1000000→GW w N M →
  Calls Tryz.prog 42 #[ze t.own x] w fun e w'=>e=.returned (.bool (xF t))∧Below w.heap.size w w':=by
 induction m with
 | zero =>
  intro t x w B d N M hm
  have:=wz (t:=t)
  omega
 | succ m ih =>
 intro t x w B d N M hm G ho K hc h
 rw [zm3]
 obtain ⟨H,A,c,rfl⟩:=G.slice
 have P:=wz (t:=t)
 have g:∀ u∈t.kids,u.count<t.count:=fun u hu=>zhC hu
 obtain ⟨l,Q⟩:∃ l,t.kids=l:=⟨_,rfl⟩
 rw [Q]at G H P g ⊢
 obtain ⟨n,hn⟩:∃ n,l.length=n:=⟨_,rfl⟩
 rw [hn]at G H P ⊢
 obtain ⟨⟨kind,b,neg,dg,ex,u,wd,s⟩,S⟩:∃ o,t.own=o:=⟨_,rfl⟩
 rw [S]at ho ⊢
 have v:=fun (W:World) (C:Below w.heap.size w W)=>zjv l A n c W B d N M (G.below C K) hn (Nat.le_trans K C.size) (fun u hu=>by have:=g u hu; omega) (h.below C) (by omega)
 have z:=fun (W:World) (C:Below w.heap.size w W)=>zcW (fun t=>!xF t) l A n c W B d (G.below C K) (Nat.le_trans K C.size) hn (fun k hk y D hb R ao=>by
  have I:=C.trans (hb.mono C.size)
  have ac:=g l[k] (List.getElem_mem hk)
  have E:=fun W3 (O:Below D.heap.size D W3)=>ih l[k] y W3 B d N M (by omega) (R.below O (Nat.le_trans K I.size)) ao (Nat.le_trans K (Nat.le_trans I.size O.size)) (by omega) (h.below (I.trans (O.mono I.size)))
  obtain ⟨_,A2,c2,rfl⟩:=R.slice
  obtain ⟨n2,Y⟩:∃ n2,l[k].kids.length=n2:=⟨_,rfl⟩
  rw [Y]at E ⊢
  obtain ⟨⟨J,b',T,V,X,u',aa,s'⟩,Z⟩:∃ o,l[k].own=o:=⟨_,rfl⟩
  rw [Z]at E ⊢
  obtain ⟨q,L⟩:∃ q,xF l[k]=q:=⟨_,rfl⟩
  simp only [L]at E ⊢
  unfold ze at E ⊢
  simp only []at E ⊢
  have a:Below D.heap.size D (D.alloc (.cells #[.int .i64 J,.bool b',.bool T,.string V,.int .i64 X,.int .u64 u',.int .i64 aa,.string s',.slice A2 n2 c2] 28)):=(Below.refl _ _).alloc (Nat.le_refl _) _
  have p:=Blk.new D #[.int .i64 J,.bool b',.bool T,.string V,.int .i64 X,.int .u64 u',.int .i64 aa,.string s',.slice A2 n2 c2] 28
  have U:=Lib.hid p
  have H1:=Lib.hid E
  clear E L Z Y ac ih G g h Q S p R v
  go_enter Tryz.func66,Tryz.ntmps66
  go_wp2_with (refine wpList_load_row rfl 28 (.tmp 1) rfl D.heap.size rfl 28 _ (0,0) _ U.out Tryz.underlying28 rfl (by kernel_rfl) ?_)
  refine (H1.out _ a).mono ?_
  rintro e w3 ⟨rfl,f⟩
  have ak:=a.trans (f.mono a.size)
  clear f a H1
  go_wp2_with fail
  go_ret
  exact ⟨by simp,ak⟩)
 obtain ⟨r,hr⟩:∃ r,jZ (xb l) (n / 2)=r:=⟨_,rfl⟩
 obtain ⟨q,L⟩:∃ q,(l.any fun t=>!xF t)=q:=⟨_,rfl⟩
 simp only [hr]at v
 simp only [L]at z
 rw [hr,L]
 unfold ze
 simp only []
 have a:Below w.heap.size w (w.alloc (.cells #[.int .i64 kind,.bool b,.bool neg,.string dg,.int .i64 ex,.int .u64 u,.int .i64 wd,.string s,.slice A n c] 28)):=(Below.refl _ _).alloc (Nat.le_refl _) _
 have p:=Blk.new w #[.int .i64 kind,.bool b,.bool neg,.string dg,.int .i64 ex,.int .u64 u,.int .i64 wd,.string s,.slice A n c] 28
 have k0:=p.cell 0
 have k8:=p.cell 8
 have v:=Lib.hid v
 have z:=Lib.hid z
 have U:=Lib.hid p
 clear hr L ih G hn Q g h S ho P H hc hm
 by_cases h8:kind=8
 ·subst h8
  simp only [decide_true,Bool.not_true,Bool.false_or]
  cases r with
  | false =>
   go_enter Tryz.func42,Tryz.ntmps42
   go_wp2_with fail
   refine (v.out _ a).mono ?_
   rintro e w2 ⟨rfl,i⟩
   have j:=a.trans (i.mono a.size)
   clear i a v z
   go_wp2_with fail
   go_ret
   exact ⟨by simp,j⟩
  | true =>
   go_enter Tryz.func42,Tryz.ntmps42
   go_wp2_with fail
   refine (v.out _ a).mono ?_
   rintro e w2 ⟨rfl,i⟩
   have j:=a.trans (i.mono a.size)
   have al:=U.out.below i U.out.lt
   have az:=al.cell 8
   clear i a v k8 k0
   go_wp2_with fail
   refine (z.out _ j).mono ?_
   rintro e w3 ⟨rfl,f⟩
   have F:=j.trans (f.mono j.size)
   clear f j z
   go_wp2_with fail
   go_ret
   exact ⟨by simp,F⟩
 ·have y8:(kind == 8)=false:=by rw [beq_eq_false_iff_ne]; exact h8
  rw [decide_eq_false h8]
  simp only [Bool.not_false,Bool.true_or,Bool.true_and]
  go_enter Tryz.func42,Tryz.ntmps42
  go_wp2_with fail
  refine (z.out _ a).mono ?_
  rintro e w3 ⟨rfl,f⟩
  have F:=a.trans (f.mono a.size)
  clear f a z v
  go_wp2_with fail
  go_ret
  exact ⟨by simp,F⟩
theorem zeP (t:Tr) (x:Value) (w:World) (B d:Nat) (aT aF:Addr) (I:zq w B d t.kids x) (P:zt t.own) (H:B≤w.heap.size) (hc:t.count≤1000000) (h:GW w aT aF) :
  Calls Tryz.prog 24 #[ze t.own x] w fun e w'=>e=.returned (.bool (decide (zj 3 flR t=0) && xF t))∧Below w.heap.size w w':=by
 have k:=fun (W:World) (m:Below w.heap.size w W)=>vA 3 flR (zjC aT aF) t x W B d (I.below m H) P (Nat.le_trans H m.size) (by omega) (h.below m)
 have j:=fun (W:World) (m:Below w.heap.size w W)=>zfv t.count t x W B d aT aF (Nat.le_refl _) (I.below m H) P (Nat.le_trans H m.size) hc (h.below m)
 obtain ⟨e0,E⟩:∃ e0,zj 3 flR t=e0:=⟨_,rfl⟩
 obtain ⟨r,Q⟩:∃ r,xF t=r:=⟨_,rfl⟩
 simp only [E]at k
 simp only [Q]at j
 rw [E,Q]
 obtain ⟨O,A,c,rfl⟩:=I.slice
 obtain ⟨n,hn⟩:∃ n,t.kids.length=n:=⟨_,rfl⟩
 obtain ⟨⟨kind,b,neg,dg,ex,u,wd,s⟩,L⟩:∃ o,t.own=o:=⟨_,rfl⟩
 rw [L,hn]at k j ⊢
 unfold ze at k j ⊢
 simp only []at k j ⊢
 have p:Below w.heap.size w (w.alloc (.cells #[.int .i64 kind,.bool b,.bool neg,.string dg,.int .i64 ex,.int .u64 u,.int .i64 wd,.string s,.slice A n c] 28)):=(Below.refl _ _).alloc (Nat.le_refl _) _
 have S:=Blk.new w #[.int .i64 kind,.bool b,.bool neg,.string dg,.int .i64 ex,.int .u64 u,.int .i64 wd,.string s,.slice A n c] 28
 have l:=fun M t W (R:Blk W M #[.int .i64 e0] t)=>zfu (some ⟨M,0,none⟩) 1 1 [e0] (M+1) W (by omega) (zf1 R) R.lt
 have T:[e0].all qF=decide (e0=0):=by simp [qF]
 simp only [T]at l
 obtain ⟨q,G⟩:∃ q,decide (e0=0)=q:=⟨_,rfl⟩
 simp only [G]at l
 rw [G]
 have k:=Lib.hid k
 have j:=Lib.hid j
 have l:=Lib.hid l
 have C:=Lib.hid S
 clear E Q I P hc h T G hn L O
 go_enter Tryz.func24,Tryz.ntmps24
 go_wp2_with (refine wpList_load_row rfl 28 (.tmp 1) rfl w.heap.size rfl 28 _ (0,0) _ C.out Tryz.underlying28 rfl (by kernel_rfl) ?_)
 refine (k.out _ p).mono ?_
 rintro e U ⟨rfl,D⟩
 have v:=p.trans (D.mono p.size)
 have F:=C.out.below D C.out.lt
 clear D p k
 have a:=v.alloc v.size (.cells #[.int .i64 e0] 29)
 have z:=Blk.new U #[.int .i64 e0] 29
 have y:=F.alloc (.cells #[.int .i64 e0] 29)
 cases q with
 | true =>
  go_wp2_with fail
  refine (l.out _ _ _ z).mono ?_
  rintro e V ⟨rfl,g⟩
  have f:=a.trans (g.mono a.size)
  have K:=y.below g y.lt
  have X:=fun i=>K.cell i
  clear g a v z l C F y K
  go_wp2_with fail
  refine (j.out _ f).mono ?_
  rintro e Y ⟨rfl,J⟩
  have N:=f.trans (J.mono f.size)
  clear J f j
  go_wp2_with fail
  go_ret
  exact ⟨by simp,N⟩
 | false =>
  go_wp2_with fail
  refine (l.out _ _ _ z).mono ?_
  rintro e V ⟨rfl,g⟩
  have f:=a.trans (g.mono a.size)
  clear g a v z l C F y j
  go_wp2_with fail
  go_ret
  exact ⟨by simp,f⟩
theorem zb8 (it:Nat→ByteArray):∀ m,jZ it m=true↔∀ i,i+1<m→Op.bytesLess (it i).toList (it (i+1)).toList=true
 | 0=>by simp [jZ]
 | 1=>by simp [jZ]
 | m+2=>by
  rw [jZ,Bool.and_eq_true,zb8 it (m+1)]
  constructor
  ·intro ⟨a,b⟩ i c
   by_cases e:i=m
   ·rw [e]; exact b
   ·exact a i (by omega)
  ·exact fun h=>⟨fun i c=>h i (by omega),h m (by omega)⟩
theorem zdq (it:Tr→List UInt8):∀ l:List Tr,kG it l=true↔∀ i a b,l[2*i]? = some a→l[2*i+2]? = some b→2*i+3<l.length→it a<it b
 | []=>by simp [kG]
 | [_]=>by simp [kG]
 | [_,_]=>by simp [kG]
 | [_,_,_]=>by
  simp only [kG,true_iff]
  intro i a b _ _ h
  simp only [List.length_cons,List.length_nil]at h
  omega
 | k::v::f::o::l=>by
  rw [kG,Bool.and_eq_true,decide_eq_true_iff,zdq it (f::o::l)]
  constructor
  ·intro ⟨m,n⟩ i a b c d e
   cases i with
   | zero =>
    have g:k=a:=by simpa using c
    have j:f=b:=by simpa using d
    rw [← g,← j]
    exact m
   | succ i =>
    exact n i a b (by rw [show 2*(i+1)=2*i+1+1 from by omega]at c; simpa using c) (by rw [show 2*(i+1)+2=2*i+2+1+1 from by omega]at d; simpa using d) (by simp at e ⊢; omega)
  ·intro h
   exact ⟨h 0 k f (by simp) (by simp) (by simp),fun i a b c d e=>h (i+1) a b (by rw [show 2*(i+1)=2*i+1+1 from by omega]; simpa using c) (by rw [show 2*(i+1)+2=2*i+2+1+1 from by omega]; simpa using d) (by simp at e ⊢; omega)⟩
theorem zjP {k:Tr} (h:zj 2 flC (keyOf k)=0):zdb k=bs (cbT k):=by
 unfold zdb kr
 rw [h,if_pos rfl]
 rfl
theorem zmO {o:Own} {l:List Tr} {k:Tr} (n:jk (.nd o l)=true) (d:jf 3 flR (.nd o l)=true) (m:o.kind=8) (i:Nat) (b:l[2*i]? = some k):zj 2 flC (keyOf k)=0:=by
 have g:k∈l:=List.mem_of_getElem? b
 have f:=(List.getElem?_eq_some_iff.1 b).1
 have c:=wL (js n).2 g
 have e:=vE (qh d).2 g
 have a:=yG 3 l i f (fit_keys (qh d).1 m)
 rw [List.getElem?_eq_getElem f]at b
 rw [Option.some.inj b,zdN]at a
 refine (wy k).2 ⟨c,?_,a⟩
 obtain ⟨ok,p⟩:=k
 obtain ⟨h,_,j⟩:=vU a (js c).1
 subst h
 have:=(qh e).1
 rw [zbP flR flC ok [] j]at this
 rw [jf,this,jp]
 rfl
mutual
theorem zgy:∀ t:Tr,jk t=true→jf 3 flR t=true→xF t=vx cbT t
 | .nd o l,d,f=>by
  rw [xF,vx,zeA l (js d).2 (qh f).2]
  by_cases m:o.kind=8
  ·have q:=(vJ (js d).1 m).1
   have e:jZ (xb l) (l.length / 2)=kG cbT l:=by
    rw [Bool.eq_iff_iff,zb8,zdq]
    have c:∀ i k,l[2*i]? = some k→(xb l i).toList=cbT k:=fun i k n=>by
     unfold xb
     rw [List.getD_eq_getElem?_getD,n]
     show (zdb k).toList=_
     rw [zjP (zmO d f m i n),ByteArray.toList_eq]
     rfl
    constructor
    ·intro h i a b g j p
     have:=h i (by omega)
     rw [c i a g,c (i+1) b (by rw [show 2*(i+1)=2*i+2 from by omega]; exact j),Go.Proofs.bytesLess_eq,decide_eq_true_iff]at this
     exact this
    ·intro h i p
     have g:l[2*i]? = some l[2*i]:=List.getElem?_eq_getElem (by omega)
     have j:l[2*(i+1)]? = some l[2*(i+1)]:=List.getElem?_eq_getElem (by omega)
     rw [c i _ g,c (i+1) _ j,Go.Proofs.bytesLess_eq,decide_eq_true_iff]
     exact h i _ _ g (by rw [show 2*i+2=2*(i+1) from by omega]; exact j) (by omega)
   rw [e]
  ·rw [decide_eq_false m]
   rfl
theorem zeA:∀ l:List Tr,jy l=true→jp 3 flR l=true→zbI l=kH cbT l
 | [],_,_=>by rw [zbI,kH]
 | t::l,d,f=>by
  rw [zbI,kH,zgy t (all_cons d).1 (xm f).1,zeA l (all_cons d).2 (xm f).2]
end
theorem xO {t:Tr} (h:zj 2 flC t=0) (a:ki t):zj 2 flC (zz cbT zD t)=0∧zz cbT zD (zz cbT zD t)=zz cbT zD t∧zj 3 flR (zz cbT zD t)=0∧xF (zz cbT zD t)=true∧(zz cbT zD t).count=t.count∧(zz cbT zD t).depth=t.depth:=by
 obtain ⟨f,g,i,j⟩:=qn.1 h
 obtain ⟨d,e,c,k⟩:=zad (it:=cbT) vH t a.all
 have b:=zd0 (it:=cbT) vH zlu t a.all a.fit
 refine ⟨zex vH t h,zd1 vH yt t a.all a.ok,qn.2 ⟨by omega,by omega,c,b⟩,?_,d,e⟩
 rw [zgy _ c b]
 exact zaL vH yt t a.all a.fit a.ok
theorem zmC {t:Tr} (h:zt t.own):zt (yD t).own:=by
 rw [zfD]
 exact zjp h
end Go.Proofs.YtonihophanmaaaaGreatDoor
