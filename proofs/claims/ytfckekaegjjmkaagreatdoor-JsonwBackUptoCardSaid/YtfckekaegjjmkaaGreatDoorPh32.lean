/- The texts FloB, put together. -/
import Derived.Test.YtfckekaegjjmkaaGreatDoorPh31
import Derived.Test.YtfckekaegjjmkaaGreatDoorPh04
import Derived.Laws.BitsLemmas
import Derived.IntWalk
import Derived.BigRegion
import Derived.RegionTactic
import Derived.BigQuiet
import Derived.Deep.QuietTactic
import Derived.Laws.Bits64b
namespace Go.Proofs.YtfckekaegjjmkaaGreatDoor
open Go.RowKit Go.Shelf

theorem bitLen_iff:∀ (k x:Nat),x < 18446744073709551616 → (Lib.bitLen x ≤ k ↔ x < 2 ^ k)
 | 0,x,hx=>by
  by_cases h0:x=0
  ·subst h0
   decide
  ·rw [Lib.bitLen_half x h0 hx]
   simp
   omega
 | k + 1,x,hx=>by
  by_cases h0:x=0
  ·subst h0
   have:Lib.bitLen 0=0:=by decide
   rw [this]
   exact iff_of_true (Nat.zero_le _) (Nat.pow_pos (by decide))
  ·rw [Lib.bitLen_half x h0 hx]
   have:=bitLen_iff k (x / 2) (by omega)
   rw [Nat.pow_succ]
   omega
theorem and_mask2 (n:Nat) (hn:n ≤ 63) (x:Int) (h0:0 ≤ x) (h1:x < 18446744073709551616):bits .and .u64 x (2 ^ n - 1)=x % 2 ^ n:=bits_mask .u64 64 (by decide) (fun n h0 h1=>by rw [IntKind.wrap_u64]; omega) n (by omega) x h0 (by simpa using h1)
theorem ones_4 (w:World):Calls Tryz.prog 134 #[.int .i64 4] w fun e w'=>e=.returned (.int .u64 15) ∧ w'=w:=by
 go_enter Tryz.func134,Tryz.ntmps134
 go_wp2
 go_ret
 exact ⟨rfl,rfl⟩
theorem ones_5 (w:World):Calls Tryz.prog 134 #[.int .i64 5] w fun e w'=>e=.returned (.int .u64 31) ∧ w'=w:=by
 go_enter Tryz.func134,Tryz.ntmps134
 go_wp2
 go_ret
 exact ⟨rfl,rfl⟩
theorem ones_7 (w:World):Calls Tryz.prog 134 #[.int .i64 7] w fun e w'=>e=.returned (.int .u64 127) ∧ w'=w:=by
 go_enter Tryz.func134,Tryz.ntmps134
 go_wp2
 go_ret
 exact ⟨rfl,rfl⟩
theorem ones_8 (w:World):Calls Tryz.prog 134 #[.int .i64 8] w fun e w'=>e=.returned (.int .u64 255) ∧ w'=w:=by
 go_enter Tryz.func134,Tryz.ntmps134
 go_wp2
 go_ret
 exact ⟨rfl,rfl⟩
theorem ones_10 (w:World):Calls Tryz.prog 134 #[.int .i64 10] w fun e w'=>e=.returned (.int .u64 1023) ∧ w'=w:=by
 go_enter Tryz.func134,Tryz.ntmps134
 go_wp2
 go_ret
 exact ⟨rfl,rfl⟩
theorem ones_11 (w:World):Calls Tryz.prog 134 #[.int .i64 11] w fun e w'=>e=.returned (.int .u64 2047) ∧ w'=w:=by
 go_enter Tryz.func134,Tryz.ntmps134
 go_wp2
 go_ret
 exact ⟨rfl,rfl⟩
theorem ones_23 (w:World):Calls Tryz.prog 134 #[.int .i64 23] w fun e w'=>e=.returned (.int .u64 8388607) ∧ w'=w:=by
 go_enter Tryz.func134,Tryz.ntmps134
 go_wp2
 go_ret
 exact ⟨rfl,rfl⟩
theorem ones_52 (w:World):Calls Tryz.prog 134 #[.int .i64 52] w fun e w'=>e=.returned (.int .u64 4503599627370495) ∧ w'=w:=by
 go_enter Tryz.func134,Tryz.ntmps134
 go_wp2
 go_ret
 exact ⟨rfl,rfl⟩
theorem bias_16 (w:World):Calls Tryz.prog 136 #[fmV (10,5,16)] w fun e w'=>e=.returned (.int .i64 15) ∧ Below w.heap.size w w':=by
 have hbx:=(Below.refl w.heap.size w).alloc (Nat.le_refl _) (.cells #[.int .i64 10,.int .i64 5,.int .i64 16] 167)
 go_enter Tryz.func136,Tryz.ntmps136
 go_wp2_with fail
 refine (ones_4 _).mono ?_
 rintro e w1 ⟨rfl,rfl⟩
 go_wp2_with fail
 go_ret
 exact ⟨rfl,hbx⟩
set_option maxHeartbeats 2000000 in
set_option maxRecDepth 100000 in
theorem parts_16 (b:Int) (h0:0 ≤ b) (hb:b < 18446744073709551616) (w:World):Calls Tryz.prog 133 #[fmV (10,5,16),.int .u64 b] w fun e w'=>e=.returned (.tuple #[.int .u64 (b / 32768 % 2),.int .i64 (b / 1024 % 32),.int .u64 (b % 1024)]) ∧ Below w.heap.size w w':=by
 have hbx:=(Below.refl w.heap.size w).alloc (Nat.le_refl _) (.cells #[.int .i64 10,.int .i64 5,.int .i64 16] 167)
 have e1:=and_mask2 1 (by decide) (b / 32768) (by omega) (by omega)
 have e2:=and_mask2 5 (by decide) (b / 1024) (by omega) (by omega)
 have e3:=and_mask2 10 (by decide) b (by omega) (by omega)
 have e4:wrap64 (b / 1024 % 32)=b / 1024 % 32:=by
  rw [← IntWalk.i64_left]
  exact IntWalk.i64_in _ (by omega)
 have E1:=Lib.hid e1
 have E2:=Lib.hid e2
 have E3:=Lib.hid e3
 have E4:=Lib.hid e4
 clear e1 e2 e3 e4
 go_enter Tryz.func133,Tryz.ntmps133
 go_wp2_with fail
 go_quiet ((first | (go_at_call 134; exact Calls.quiet_of_same (ones_5 _)) | (go_at_call 134; exact Calls.quiet_of_same (ones_10 _))))
 go_wp2_with fail
 refine bodyPost_ret (v:=.tuple #[.int .u64 (bits .and .u64 (b / 32768) (2 ^ 1 - 1)),.int .i64 (wrap64 (bits .and .u64 (b / 1024) (2 ^ 5 - 1))),.int .u64 (bits .and .u64 b (2 ^ 10 - 1))]) (by simp [results,Tryz.results133,go_sem]) rfl ⟨?_,below_drewN hbx _⟩
 rw [E1.out,E2.out,E3.out]
 show Ending.returned (.tuple #[_,.int .i64 (wrap64 (b / 1024 % 32)),_])=_
 rw [E4.out]
 rfl
theorem bias_32 (w:World):Calls Tryz.prog 136 #[fmV (23,8,32)] w fun e w'=>e=.returned (.int .i64 127) ∧ Below w.heap.size w w':=by
 have hbx:=(Below.refl w.heap.size w).alloc (Nat.le_refl _) (.cells #[.int .i64 23,.int .i64 8,.int .i64 32] 167)
 go_enter Tryz.func136,Tryz.ntmps136
 go_wp2_with fail
 refine (ones_7 _).mono ?_
 rintro e w1 ⟨rfl,rfl⟩
 go_wp2_with fail
 go_ret
 exact ⟨rfl,hbx⟩
set_option maxHeartbeats 2000000 in
set_option maxRecDepth 100000 in
theorem parts_32 (b:Int) (h0:0 ≤ b) (hb:b < 18446744073709551616) (w:World):Calls Tryz.prog 133 #[fmV (23,8,32),.int .u64 b] w fun e w'=>e=.returned (.tuple #[.int .u64 (b / 2147483648 % 2),.int .i64 (b / 8388608 % 256),.int .u64 (b % 8388608)]) ∧ Below w.heap.size w w':=by
 have hbx:=(Below.refl w.heap.size w).alloc (Nat.le_refl _) (.cells #[.int .i64 23,.int .i64 8,.int .i64 32] 167)
 have e1:=and_mask2 1 (by decide) (b / 2147483648) (by omega) (by omega)
 have e2:=and_mask2 8 (by decide) (b / 8388608) (by omega) (by omega)
 have e3:=and_mask2 23 (by decide) b (by omega) (by omega)
 have e4:wrap64 (b / 8388608 % 256)=b / 8388608 % 256:=by
  rw [← IntWalk.i64_left]
  exact IntWalk.i64_in _ (by omega)
 have E1:=Lib.hid e1
 have E2:=Lib.hid e2
 have E3:=Lib.hid e3
 have E4:=Lib.hid e4
 clear e1 e2 e3 e4
 go_enter Tryz.func133,Tryz.ntmps133
 go_wp2_with fail
 go_quiet ((first | (go_at_call 134; exact Calls.quiet_of_same (ones_8 _)) | (go_at_call 134; exact Calls.quiet_of_same (ones_23 _))))
 go_wp2_with fail
 refine bodyPost_ret (v:=.tuple #[.int .u64 (bits .and .u64 (b / 2147483648) (2 ^ 1 - 1)),.int .i64 (wrap64 (bits .and .u64 (b / 8388608) (2 ^ 8 - 1))),.int .u64 (bits .and .u64 b (2 ^ 23 - 1))]) (by simp [results,Tryz.results133,go_sem]) rfl ⟨?_,below_drewN hbx _⟩
 rw [E1.out,E2.out,E3.out]
 show Ending.returned (.tuple #[_,.int .i64 (wrap64 (b / 8388608 % 256)),_])=_
 rw [E4.out]
 rfl
theorem bias_64 (w:World):Calls Tryz.prog 136 #[fmV (52,11,64)] w fun e w'=>e=.returned (.int .i64 1023) ∧ Below w.heap.size w w':=by
 have hbx:=(Below.refl w.heap.size w).alloc (Nat.le_refl _) (.cells #[.int .i64 52,.int .i64 11,.int .i64 64] 167)
 go_enter Tryz.func136,Tryz.ntmps136
 go_wp2_with fail
 refine (ones_10 _).mono ?_
 rintro e w1 ⟨rfl,rfl⟩
 go_wp2_with fail
 go_ret
 exact ⟨rfl,hbx⟩
set_option maxHeartbeats 2000000 in
set_option maxRecDepth 100000 in
theorem parts_64 (b:Int) (h0:0 ≤ b) (hb:b < 18446744073709551616) (w:World):Calls Tryz.prog 133 #[fmV (52,11,64),.int .u64 b] w fun e w'=>e=.returned (.tuple #[.int .u64 (b / 9223372036854775808 % 2),.int .i64 (b / 4503599627370496 % 2048),.int .u64 (b % 4503599627370496)]) ∧ Below w.heap.size w w':=by
 have hbx:=(Below.refl w.heap.size w).alloc (Nat.le_refl _) (.cells #[.int .i64 52,.int .i64 11,.int .i64 64] 167)
 have e1:=and_mask2 1 (by decide) (b / 9223372036854775808) (by omega) (by omega)
 have e2:=and_mask2 11 (by decide) (b / 4503599627370496) (by omega) (by omega)
 have e3:=and_mask2 52 (by decide) b (by omega) (by omega)
 have e4:wrap64 (b / 4503599627370496 % 2048)=b / 4503599627370496 % 2048:=by
  rw [← IntWalk.i64_left]
  exact IntWalk.i64_in _ (by omega)
 have E1:=Lib.hid e1
 have E2:=Lib.hid e2
 have E3:=Lib.hid e3
 have E4:=Lib.hid e4
 clear e1 e2 e3 e4
 go_enter Tryz.func133,Tryz.ntmps133
 go_wp2_with fail
 go_quiet ((first | (go_at_call 134; exact Calls.quiet_of_same (ones_11 _)) | (go_at_call 134; exact Calls.quiet_of_same (ones_52 _))))
 go_wp2_with fail
 refine bodyPost_ret (v:=.tuple #[.int .u64 (bits .and .u64 (b / 9223372036854775808) (2 ^ 1 - 1)),.int .i64 (wrap64 (bits .and .u64 (b / 4503599627370496) (2 ^ 11 - 1))),.int .u64 (bits .and .u64 b (2 ^ 52 - 1))]) (by simp [results,Tryz.results133,go_sem]) rfl ⟨?_,below_drewN hbx _⟩
 rw [E1.out,E2.out,E3.out]
 show Ending.returned (.tuple #[_,.int .i64 (wrap64 (b / 4503599627370496 % 2048)),_])=_
 rw [E4.out]
 rfl
end Go.Proofs.YtfckekaegjjmkaaGreatDoor
