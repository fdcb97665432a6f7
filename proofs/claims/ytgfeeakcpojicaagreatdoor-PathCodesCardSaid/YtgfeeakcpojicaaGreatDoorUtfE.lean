/- utf: isOf at one rune; Right; first; the reader's cell. -/
import Derived.Test.YtgfeeakcpojicaaGreatDoorUtfD
import Derived.BigQuiet
import Derived.Deep.QuietTactic
namespace Go.Proofs.YtgfeeakcpojicaaGreatDoor
open Go.RowKit Go.Shelf

set_option maxHeartbeats 1000000 in
set_option maxRecDepth 100000 in
theorem utf_isOf (r x : Int) (b : Nat) (w : World) (hb : Blk w b #[.int .i32 x] 21) :
    Calls Tryz.prog 114 #[.int .i32 r, .slice (some ⟨b, 0, none⟩) 1 1] w fun e w' => e = .returned (.bool (x == r)) ∧ w = w' := by
  have hc := hb.cell 0
  by_cases h : x = r
  · have h1 : (x == r) = true := by simp [h]
    rw [h1]
    subst h
    go_enter Tryz.func114, Tryz.ntmps114
    go_wp2_with fail
    refine wp_loop_rounds 1 ?_
    rw [rounds_succ]
    go_wp2_with fail
    go_ret
    exact ⟨rfl, rfl⟩
  · have h1 : (x == r) = false := by simp [h]
    rw [h1]
    go_enter Tryz.func114, Tryz.ntmps114
    go_wp2_with fail
    refine wp_loop_rounds 2 ?_
    rw [rounds_succ]
    go_wp2_with fail
    rw [rounds_succ]
    go_wp2_with fail
    go_ret
    exact ⟨rfl, rfl⟩

set_option maxRecDepth 100000 in
theorem utf_Right {aT aQ : Addr} (s : ByteArray) (hs : s.size ≤ 9223372036854775807) (w : World) (h : UW w aT aQ) :
    Calls Tryz.prog 48 #[.string s] w fun e w' => e = .returned (.bool (Lib.validD s.data.toList)) ∧ Below w.heap.size w w' := by
  have HV := Lib.hid (show Calls Tryz.prog 70 #[.string s] w fun e w' => e = .returned (.bool (Lib.validD s.data.toList)) ∧ Below w.heap.size w w' from Any.utf8_ValidString Tryz.lays196 s w hs h.tabs)
  clear h
  go_enter Tryz.func48, Tryz.ntmps48
  go_wp2_with fail
  refine HV.out.mono ?_
  rintro e w1 ⟨rfl, hb⟩
  go_wp2_with fail
  go_ret
  exact ⟨rfl, hb⟩

/-- What first tells. -/
def firstV (aT aQ : Addr) (s : ByteArray) : Value :=
  if s.size = 0 then .tuple #[.int .i32 0, .int .i64 0, .iface 167 (.pointer (some aQ))]
  else if Lib.decodeGo s = (65533, 1) then .tuple #[.int .i32 0, .int .i64 0, .iface 167 (.pointer (some aT))]
  else .tuple #[.int .i32 (Lib.decodeGo s).1, .int .i64 (Lib.decodeGo s).2, .nilIface]

set_option maxHeartbeats 1000000 in
set_option maxRecDepth 100000 in
theorem utf_first {aT aQ : Addr} (s : ByteArray) (p : Nat) (w : World) (h : UW w aT aQ) (hp : Blk w p #[.string s] 110) :
    Calls Tryz.prog 77 #[.pointer (some ⟨p, 0, none⟩)] w fun e w' => e = .returned (firstV aT aQ s) ∧ Below w.heap.size w w' := by
  have hc : w.cell? ⟨p, 0, none⟩ = some (.string s) := hp.cell 0
  have hT := h.hT
  have hQ := h.hQ
  unfold firstV
  by_cases h0 : s.size = 0
  · rw [if_pos h0]
    have e0 : s = ⟨#[]⟩ := by
      apply ByteArray.ext
      apply Array.eq_empty_of_size_eq_zero
      exact h0
    subst e0
    clear h0 h
    go_enter Tryz.func77, Tryz.ntmps77
    go_wp2_with fail
    go_quiet (fail)
    go_wp2_with fail
    exact bodyPost_ret (v := .tuple #[.int .i32 0, .int .i64 0, .iface 167 (.pointer (some aQ))]) (by simp [results, Tryz.results77, go_sem]) rfl ⟨rfl, below_drewN (Below.refl _ _) _⟩
  · rw [if_neg h0]
    have hne : s.toList.isEmpty = false := by
      rw [ByteArray.toList_eq]
      cases hl : s.data.toList with
      | nil => exact absurd (show s.data.toList.length = 0 by rw [hl]; rfl) (by simpa using h0)
      | cons a l => rfl
    have HD := Lib.hid (show Calls Tryz.prog 97 #[.string s] w fun e w' => e = .returned (.tuple #[.int .i32 (Lib.decodeGo s).1, .int .i64 (Lib.decodeGo s).2]) ∧ Below w.heap.size w w' from Tryz.utf8_DecodeRuneInString s w h.tabs)
    obtain ⟨c, hcc⟩ : ∃ c, (Lib.decodeGo s).1 = c := ⟨_, rfl⟩
    obtain ⟨n, hnn⟩ : ∃ n, (Lib.decodeGo s).2 = n := ⟨_, rfl⟩
    have hd : Lib.decodeGo s = (c, n) := by rw [← hcc, ← hnn]
    rw [hcc, hnn] at HD ⊢
    rw [hd]
    clear hcc hnn hd h0
    by_cases h1 : c = 65533 ∧ n = 1
    · obtain ⟨rfl, rfl⟩ := h1
      rw [if_pos rfl]
      go_enter Tryz.func77, Tryz.ntmps77
      go_wp2_with fail
      refine HD.out.mono ?_
      rintro e w1 ⟨rfl, hb⟩
      have hT := (h.below hb).hT
      clear h
      go_wp2_with fail
      go_quiet (fail)
      go_wp2_with fail
      exact bodyPost_ret (v := .tuple #[.int .i32 0, .int .i64 0, .iface 167 (.pointer (some aT))]) (by simp [results, Tryz.results77, go_sem]) rfl ⟨rfl, below_drewN hb _⟩
    · rw [if_neg (fun e => h1 (by simpa using e))]
      by_cases h2 : c = 65533
      · have h3 : ((n : Int) == 1) = false := by rw [beq_eq_false_iff_ne]; omega
        have h4 : ((c : Int) == 65533) = true := by rw [beq_iff_eq]; omega
        clear h1 h2 h
        go_enter Tryz.func77, Tryz.ntmps77
        go_wp2_with fail
        refine HD.out.mono ?_
        rintro e w1 ⟨rfl, hb⟩
        go_wp2_with fail
        exact bodyPost_ret (v := .tuple #[.int .i32 c, .int .i64 n, .nilIface]) (by simp [results, Tryz.results77, go_sem]) rfl ⟨rfl, hb⟩
      · have h4 : ((c : Int) == 65533) = false := by rw [beq_eq_false_iff_ne]; omega
        clear h1 h2 h
        go_enter Tryz.func77, Tryz.ntmps77
        go_wp2_with fail
        refine HD.out.mono ?_
        rintro e w1 ⟨rfl, hb⟩
        go_wp2_with fail
        exact bodyPost_ret (v := .tuple #[.int .i32 c, .int .i64 n, .nilIface]) (by simp [results, Tryz.results77, go_sem]) rfl ⟨rfl, hb⟩
end Go.Proofs.YtgfeeakcpojicaaGreatDoor
