/- The walk of the law UtfHalves. -/
import Derived.Test.YtanccdmlddgnaaaDoorUtfP
namespace Go.Proofs.YtanccdmlddgnaaaDoor
open Go.RowKit Go.Shelf

set_option maxHeartbeats 1000000 in
set_option maxRecDepth 100000 in
theorem halves_walk {aT aQ : Addr} (hi lo r : Int) (h0 : 0 ≤ hi ∧ hi < 65536) (l0 : 0 ≤ lo ∧ lo < 65536) (r0 : -2147483648 ≤ r ∧ r < 2147483648) (w : World) (h : UW w aT aQ) :
    Calls Tryd.prog 6 #[.int .u16 hi, .int .u16 lo, .int .i32 r] w fun e w' => e = .returned (.bool true) ∧ Below w.heap.size w w' := by
  have H0 := Lib.hid (utf_shown w h)
  have H1 := Lib.hid (fun w => utf_Pair hi lo h0 l0 w)
  have H2 := Lib.hid (fun w => ref_Pair hi lo h0 l0 w)
  have H3 := Lib.hid (fun w => utf_Halves r r0 w)
  have H4 := Lib.hid (fun w => ref_Halves r r0 w)
  clear h h0 l0 r0
  generalize pairOf hi lo = v1 at H1 H2
  generalize pairOk hi lo = v2 at H1 H2
  generalize halfHi r = v3 at H3 H4
  generalize halfLo r = v4 at H3 H4
  generalize halfOk r = v5 at H3 H4
  go_enter Tryd.func6, Tryd.ntmps6
  go_wp2_with fail
  refine H0.out.mono ?_
  rintro e w1 ⟨rfl, hb⟩
  go_wp2_with fail
  refine (H1.out _).mono ?_
  rintro e w1' ⟨rfl, rfl⟩
  go_wp2_with fail
  refine (H2.out _).mono ?_
  rintro e w1' ⟨rfl, rfl⟩
  go_wp2_with fail
  refine (H3.out _).mono ?_
  rintro e w1' ⟨rfl, rfl⟩
  go_wp2_with fail
  refine (H4.out _).mono ?_
  rintro e w1' ⟨rfl, rfl⟩
  go_wp2_with fail
  go_ret
  exact ⟨by simp, hb⟩
end Go.Proofs.YtanccdmlddgnaaaDoor
