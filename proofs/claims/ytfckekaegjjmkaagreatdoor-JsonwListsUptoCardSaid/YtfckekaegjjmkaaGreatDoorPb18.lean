/- The texts GateG, UtfM, UtfN, UtfRt, put together. -/
import Derived.Test.YtfckekaegjjmkaaGreatDoorPb16
import Derived.Test.YtfckekaegjjmkaaGreatDoorPb12
import Derived.Lib.ParseIntBCases
import Derived.Lib.AtoiErrMem
import Derived.Test.YtfckekaegjjmkaaGreatDoorPb10
import Derived.Outline
import Derived.Deep.RegionHeld3
import Derived.Test.YtfckekaegjjmkaaGreatDoorPb01
import Derived.Test.YtfckekaegjjmkaaGreatDoorPb06
import Derived.Shelf.Unicode.ValidAny
namespace Go.Proofs.YtfckekaegjjmkaaGreatDoor
open Go.RowKit Go.Shelf

/-- The gate's two sentinels lie where they were laid, Go's two tables, and strconv's ErrRange. -/
structure GW (w : World) (aT aF : Addr) : Prop where
  hT : w.cell? ⟨0, 0, none⟩ = some (.iface 289 (.pointer (some aT)))
  hF : w.cell? ⟨1, 0, none⟩ = some (.iface 289 (.pointer (some aF)))
  ne : aT ≠ aF
  bT : ∃ c t, w.heap[aT.block]? = some (.cells c t (0, 0))
  bF : ∃ c t, w.heap[aF.block]? = some (.cells c t (0, 0))
  tabs : Lib.Utf8Tabs 4 5 w
  rng : ∃ tp p, w.var? Tryz.prog "strconv.ErrRange" = some #[.iface tp p]
theorem GW.below {w w' : World} {aT aF : Addr} (h : GW w aT aF) (hb : Below w.heap.size w w') : GW w' aT aF where
  hT := cell_below hb h.hT
  hF := cell_below hb h.hF
  ne := h.ne
  bT := let ⟨c, t, e⟩ := h.bT; ⟨c, t, block_below hb e⟩
  bF := let ⟨c, t, e⟩ := h.bF; ⟨c, t, block_below hb e⟩
  tabs := Utf8Tabs_below h.tabs hb
  rng := let ⟨tp, p, e⟩ := h.rng; ⟨tp, p, var_below e hb⟩

/-- The number of a natural, if it has 64 bits. -/
def natTo (s : ByteArray) : Option Nat := if natOk s = true ∧ dval 0 s.data.toList < 18446744073709551616 then some (dval 0 s.data.toList) else none
def natToV : Option Nat → Value
  | some n => .tuple #[.int .u64 (n : Nat), .bool true]
  | none => .tuple #[.int .u64 0, .bool false]
theorem natOk_parts {s : ByteArray} (h : natOk s = true) : 1 ≤ s.size ∧ s.size ≤ 400 ∧ (∀ c ∈ s.data.toList, isDig c = true) := by
  unfold natOk at h
  rw [Bool.and_eq_true, Bool.and_eq_true, Bool.and_eq_true, decide_eq_true_iff, decide_eq_true_iff] at h
  exact ⟨h.1, h.2.1, fun c hc => List.all_eq_true.1 h.2.2.2 c hc⟩

set_option maxHeartbeats 2000000 in
set_option maxRecDepth 100000 in
theorem nat_To {aT aF : Addr} (s : ByteArray) (hs : s.size ≤ 1000000000000) (w : World) (h : GW w aT aF) :
    Calls Tryz.prog 140 #[.string s] w fun e w' => e = .returned (natToV (natTo s)) ∧ Below w.heap.size w w' := by
  obtain ⟨ans, hans⟩ : ∃ ans, natTo s = ans := ⟨_, rfl⟩
  rw [hans]
  unfold natTo at hans
  have HN := Lib.hid (nat_Right s (by omega) w)
  cases hn : natOk s with
  | false =>
    rw [hn] at HN hans
    rw [if_neg (fun q => absurd q.1 (by decide))] at hans
    subst hans
    clear hn h
    go_enter Tryz.func140, Tryz.ntmps140
    go_wp2_with fail
    refine HN.out.mono ?_
    rintro e w1 ⟨rfl, hb⟩
    go_wp2_with fail
    go_ret2
    exact ⟨rfl, hb⟩
  | true =>
    obtain ⟨h1, h4, hd⟩ := natOk_parts hn
    have hne : s.data.toList ≠ [] := fun e => by
      have : s.data.toList.length = s.size := by simp
      rw [e] at this
      simp at this
      omega
    have hp : Lib.parseUintB 64 s.data.toList = if dval 0 s.data.toList < 18446744073709551616 then .ok (dval 0 s.data.toList) else .range := by
      rw [Lib.parseUintB_64]
      unfold Lib.parseMag
      rw [if_neg hne, parse_digits _ 0 (by decide) hd]
    rw [hn] at HN hans
    by_cases hlt : dval 0 s.data.toList < 18446744073709551616
    · rw [if_pos ⟨rfl, hlt⟩] at hans
      rw [if_pos hlt] at hp
      subst hans
      have HP := Lib.hid (fun w => Tryz.strconv_ParseUint_10_at64_ok s (by omega) _ hp w)
      obtain ⟨v, hv⟩ : ∃ v, dval 0 s.data.toList = v := ⟨_, rfl⟩
      rw [hv] at HP ⊢
      clear hn h hp hlt hv hd hne
      go_enter Tryz.func140, Tryz.ntmps140
      go_wp2_with fail
      refine HN.out.mono ?_
      rintro e w1 ⟨rfl, hb⟩
      go_wp2_with fail
      refine (HP.out _).mono ?_
      rintro e w2 ⟨rfl, hw2⟩
      have hb2 : Below w.heap.size w w2 := by
        rcases hw2 with rfl | rfl
        · exact hb
        · exact hb.trans ((Lib.bytesWorld_below _ _ _).mono hb.size)
      clear hw2
      go_wp2_with fail
      go_ret2
      exact ⟨rfl, hb2⟩
    · rw [if_neg (fun q => hlt q.2)] at hans
      rw [if_neg hlt] at hp
      subst hans
      obtain ⟨tp, p, hr⟩ := h.rng
      have HP := Lib.hid (fun w (hw : w.var? Tryz.prog "strconv.ErrRange" = some #[.iface tp p]) => Tryz.strconv_ParseUint_10_at64_range_var s (by omega) hp tp p w hw)
      have HR := Lib.hid hr
      clear hn h hp hlt hd hne hr
      go_enter Tryz.func140, Tryz.ntmps140
      go_wp2_with fail
      refine HN.out.mono ?_
      rintro e w1 ⟨rfl, hb⟩
      have HR1 := Lib.hid (var_below HR.out hb)
      go_wp2_with fail
      refine (HP.out _ HR1.out).mono ?_
      rintro e w2 ⟨N, rfl, _, _, hb2⟩
      have hb3 := hb.trans (hb2.mono hb.size)
      go_wp2_with fail
      go_ret2
      exact ⟨rfl, hb3⟩
end Go.Proofs.YtfckekaegjjmkaaGreatDoor
namespace Go.Proofs.YtfckekaegjjmkaaGreatDoor
open Go.RowKit Go.Shelf
attribute [local go_sem] Oper.semAt_some wide_fn wide_depth


end Go.Proofs.YtfckekaegjjmkaaGreatDoor
namespace Go.Proofs.YtfckekaegjjmkaaGreatDoor
open Go.RowKit Go.Shelf

end Go.Proofs.YtfckekaegjjmkaaGreatDoor
namespace Go.Proofs.YtfckekaegjjmkaaGreatDoor
open Go.RowKit Go.Shelf

set_option maxRecDepth 100000 in
theorem utf_RightT (s : ByteArray) (hs : s.size ≤ 9223372036854775807) (w : World) (h : Lib.Utf8Tabs 4 5 w) :
    Calls Tryz.prog 128 #[.string s] w fun e w' => e = .returned (.bool (Lib.validD s.data.toList)) ∧ Below w.heap.size w w' := by
  have HV := Lib.hid (show Calls Tryz.prog 164 #[.string s] w fun e w' => e = .returned (.bool (Lib.validD s.data.toList)) ∧ Below w.heap.size w w' from Any.utf8_ValidString Tryz.lays196 s w hs h)
  clear h
  go_enter Tryz.func128, Tryz.ntmps128
  go_wp2_with fail
  refine HV.out.mono ?_
  rintro e w1 ⟨rfl, hb⟩
  go_wp2_with fail
  go_ret
  exact ⟨rfl, hb⟩
end Go.Proofs.YtfckekaegjjmkaaGreatDoor
