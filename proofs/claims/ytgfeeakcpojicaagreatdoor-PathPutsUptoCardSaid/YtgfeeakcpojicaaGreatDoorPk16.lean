/- The texts UtfI, put together. -/
import Derived.Test.YtgfeeakcpojicaaGreatDoorPk15
/- utf: next. -/
namespace Go.Proofs.YtgfeeakcpojicaaGreatDoor
open Go.RowKit Go.Shelf

def NextPost (aT aQ : Addr) (p : Nat) (s : ByteArray) (w : World) (e : Ending) (w' : World) : Prop :=
  w.grownBy w' (some p) ∧ match nextL s.data.toList with
    | .error b => e = .returned (.tuple #[.int .i32 0, .bool false, errV (if b then aT else aQ)])
    | .ok (none, r) => e = .returned (.tuple #[.int .i32 0, .bool false, .nilIface]) ∧ Rd w' p ⟨r.toArray⟩
    | .ok (some x, r) => e = .returned (.tuple #[.int .i32 (x : Int), .bool true, .nilIface]) ∧ Rd w' p ⟨r.toArray⟩

theorem decodeGo_list {s : ByteArray} (h : s.size ≠ 0) : Lib.decodeGo s = Lib.decodeL s.data.toList := by
  unfold Lib.decodeGo
  rw [if_neg h]
  exact (Lib.decodeL_drop s 0).symm
theorem list_ne {s : ByteArray} (h : s.size ≠ 0) : s.data.toList ≠ [] := fun e => h (by
  have := congrArg List.length e
  simpa using this)

set_option maxHeartbeats 4000000 in
set_option maxRecDepth 100000 in
theorem utf_next {n : Nat} {aT aQ : Addr} (s : ByteArray) (p : Nat) (w : World) (h : UWB n w aT aQ) (hn : n ≤ p) (hp : Rd w p s) :
    Calls Tryz.prog 100 #[.pointer (some ⟨p, 0, none⟩)] w (NextPost aT aQ p s w) := by
  have hc : w.cell? ⟨p, 0, none⟩ = some (.string s) := hp.cell 0
  have hfz := hp.frozen 0
  have HF := Lib.hid (utf_first s p w h.uw hp)
  unfold firstV at HF
  by_cases h0 : s.size = 0
  · rw [if_pos h0] at HF
    have hfin : ∀ e w', e = .returned (.tuple #[.int .i32 0, .bool false, errV aQ]) → w.grownBy w' (some p) → NextPost aT aQ p s w e w' := fun e w' he hg => ⟨hg, by
      rw [str_empty h0]
      exact he⟩
    have hfin := Lib.hid hfin
    clear hc hfz h0 h hp
    go_enter Tryz.func100, Tryz.ntmps100
    go_wp2_with fail
    refine HF.out.mono ?_
    rintro e w1 ⟨rfl, hb⟩
    go_wp2_with fail
    go_ret3
    exact hfin.out _ _ rfl (below_grown hb _)
  · rw [if_neg h0] at HF
    have hdec := decodeGo_list h0
    have hle := Lib.decodeL_le _ (list_ne h0)
    have hge := Lib.decodeL_width s.data.toList
    have hru := Lib.decodeL_rune s.data.toList
    have hex := extract_list s (Lib.decodeL s.data.toList).2
    have hlen : s.data.toList.length = s.size := by simp
    rw [hlen] at hle
    have hNL := nextL_ne (list_ne h0)
    rw [hdec] at HF
    rw [← hex] at hNL
    obtain ⟨⟨c, k⟩, hck⟩ : ∃ ck, Lib.decodeL s.data.toList = ck := ⟨_, rfl⟩
    rw [hck] at HF hle hge hru hNL
    simp only [] at HF hle hge hru hNL
    rw [hck] at hex
    clear hck hdec hlen h0
    by_cases hbad : (c, k) = (65533, 1)
    · rw [if_pos hbad] at HF hNL
      have hfin : ∀ e w', e = .returned (.tuple #[.int .i32 0, .bool false, errV aT]) → w.grownBy w' (some p) → NextPost aT aQ p s w e w' := fun e w' he hg => ⟨hg, by
        rw [hNL]
        exact he⟩
      have hfin := Lib.hid hfin
      clear hc hfz h hp hNL hbad hex
      go_enter Tryz.func100, Tryz.ntmps100
      go_wp2_with fail
      refine HF.out.mono ?_
      rintro e w1 ⟨rfl, hb⟩
      go_wp2_with fail
      go_ret3
      exact hfin.out _ _ rfl (below_grown hb _)
    · rw [if_neg hbad] at HF hNL
      have z1 : (k : Int) ≤ s.size := by omega
      have z2 : (0 : Int) ≤ k := by omega
      have z3 : (c : Int) ≤ 1114111 := by omega
      obtain ⟨r, hr⟩ : ∃ r, s.extract k s.size = r := ⟨_, rfl⟩
      rw [hr] at hNL
      have HR := Lib.hid hr
      have HNL := Lib.hid hNL
      clear hr hbad hex hNL hge hle hru
      go_enter Tryz.func100, Tryz.ntmps100
      go_wp2_with fail
      refine HF.out.mono ?_
      rintro e w1 ⟨rfl, hb⟩
      have h1 : UWB n w1 aT aQ := h.to (hb.mono h.le)
      have hp1 : Rd w1 p s := hp.below hb hp.lt
      have hg1 := below_grown hb (some p)
      have hc1 : w1.cell? ⟨p, 0, none⟩ = some (.string s) := hp1.cell 0
      have hf1 := hp1.frozen 0
      clear hb HF hp h hc hfz
      have hg2 := grown_trans hg1 ((grown_trans (grown_set w1 p 0 (.string r)) (World.grownBy_alloc _ (.cells #[.int .i32 34] 21) (some p))))
      have hp2 : Rd ((w1.setCell ⟨p, 0, none⟩ (.string r)).alloc (.cells #[.int .i32 34] 21)) p r := (hp1.put r).alloc _
      have hz : (w1.setCell ⟨p, 0, none⟩ (.string r)).heap.size = w1.heap.size := by simp [World.setCell]
      have hB : Blk ((w1.setCell ⟨p, 0, none⟩ (.string r)).alloc (.cells #[.int .i32 34] 21)) w1.heap.size #[.int .i32 34] 21 := by
        have := Blk.new (w1.setCell ⟨p, 0, none⟩ (.string r)) #[.int .i32 34] 21
        rw [hz] at this
        exact this
      have h2 : UWB n ((w1.setCell ⟨p, 0, none⟩ (.string r)).alloc (.cells #[.int .i32 34] 21)) aT aQ := h1.to ((grown_below (grown_set w1 p 0 (.string r)) hn hp1.lt).alloc (by rw [hz]; exact h1.le) _)
      go_wp2_with fail
      rw [HR.out]
      clear hc1 hf1 hz h1 hp1 hg1
      generalize (w1.setCell ⟨p, 0, none⟩ (.string r)).alloc (.cells #[.int .i32 34] 21) = w2 at hg2 hp2 hB h2 ⊢
      generalize w1.heap.size = b1 at hB ⊢
      refine (utf_isOf c 34 b1 w2 hB).mono ?_
      rintro e w2' ⟨rfl, hw⟩
      obtain rfl : w2 = w2' := hw
      by_cases q1 : c = 34
      · rw [if_pos q1] at HNL
        have e1 : ((34 : Int) == (c : Int)) = true := by rw [beq_iff_eq]; omega
        rw [e1]
        have hfin : ∀ e w', e = .returned (.tuple #[.int .i32 0, .bool false, .nilIface]) → w.grownBy w' (some p) → Rd w' p r → NextPost aT aQ p s w e w' := fun e w' he hg hr => ⟨hg, by
          rw [HNL.out]
          exact ⟨he, hr⟩⟩
        have hfin := Lib.hid hfin
        clear q1 e1 HNL
        go_wp2_with fail
        go_ret3
        exact hfin.out _ _ rfl hg2 hp2
      · rw [if_neg q1] at HNL
        have e1 : ((34 : Int) == (c : Int)) = false := by rw [beq_eq_false_iff_ne]; omega
        rw [e1]
        have hQ := h2.uw.hQ
        by_cases q2 : c < 32
        · rw [if_pos q2] at HNL
          have z4 : (c : Int) < 32 := by omega
          have hfin : ∀ e w', e = .returned (.tuple #[.int .i32 0, .bool false, errV aQ]) → w.grownBy w' (some p) → NextPost aT aQ p s w e w' := fun e w' he hg => ⟨hg, by
            rw [HNL.out]
            exact he⟩
          have hfin := Lib.hid hfin
          clear q1 q2 e1 HNL
          go_wp2_with fail
          go_quiet (fail)
          go_wp2_with fail
          go_ret3
          exact hfin.out _ _ rfl (grown_trans hg2 (below_grown (below_drewN (Below.refl _ _) _) _))
        · rw [if_neg q2] at HNL
          have z4 : (32 : Int) ≤ c := by omega
          have hg3 := grown_trans hg2 (World.grownBy_alloc w2 (.cells #[.int .i32 92] 21) (some p))
          have hp3 : Rd (w2.alloc (.cells #[.int .i32 92] 21)) p r := hp2.alloc _
          have hB3 : Blk (w2.alloc (.cells #[.int .i32 92] 21)) w2.heap.size #[.int .i32 92] 21 := Blk.new _ _ _
          have h3 : UWB n (w2.alloc (.cells #[.int .i32 92] 21)) aT aQ := h2.to ((Below.refl _ w2).alloc h2.le _)
          clear q1 q2 e1 hQ hg2 hB h2
          go_wp2_with fail
          clear hp2
          generalize w2.alloc (.cells #[.int .i32 92] 21) = w3 at hg3 hp3 hB3 h3 ⊢
          generalize w2.heap.size = b2 at hB3 ⊢
          refine (utf_isOf c 92 b2 w3 hB3).mono ?_
          rintro e w3' ⟨rfl, hw⟩
          obtain rfl : w3 = w3' := hw
          by_cases q3 : c = 92
          · rw [if_pos q3] at HNL
            have e1 : ((92 : Int) == (c : Int)) = true := by rw [beq_iff_eq]; omega
            rw [e1]
            have HE := Lib.hid (utf_escaped r p w3 h3 hn hp3)
            clear q3 e1
            go_wp2_with fail
            refine HE.out.mono ?_
            clear HE
            rintro e w4 ⟨hg4, hm4⟩
            have hg04 := grown_trans hg3 hg4
            cases hh : escL r.data.toList with
            | none =>
              rw [hh] at hm4
              subst hm4
              have hfin : ∀ e w', e = .returned (.tuple #[.int .i32 0, .bool false, errV aQ]) → w.grownBy w' (some p) → NextPost aT aQ p s w e w' := fun e w' he hg => ⟨hg, by
                rw [HNL.out, hh]
                exact he⟩
              have hfin := Lib.hid hfin
              clear hh hg4 hg3 hp3 hB3 h3 HNL
              go_wp2_with fail
              go_quiet (fail)
              go_wp2_with fail
              go_ret3
              exact hfin.out _ _ rfl (grown_trans hg04 (below_grown (below_drewN (Below.refl _ _) _) _))
            | some q =>
              obtain ⟨x, r'⟩ := q
              rw [hh] at hm4
              obtain ⟨rfl, hp4⟩ := hm4
              have hfin : ∀ e w', e = .returned (.tuple #[.int .i32 x, .bool true, .nilIface]) → w.grownBy w' (some p) → Rd w' p ⟨r'.toArray⟩ → NextPost aT aQ p s w e w' := fun e w' he hg hr => ⟨hg, by
                rw [HNL.out, hh]
                exact ⟨he, hr⟩⟩
              have hfin := Lib.hid hfin
              clear hh hg4 hg3 hp3 hB3 h3 HNL
              go_wp2_with fail
              go_quiet (fail)
              go_wp2_with fail
              go_ret3
              exact hfin.out _ _ rfl (grown_trans hg04 (below_grown (below_drewN (Below.refl _ _) _) _)) (hp4.below (below_drewN (Below.refl _ _) _) hp4.lt)
          · rw [if_neg q3] at HNL
            have e1 : ((92 : Int) == (c : Int)) = false := by rw [beq_eq_false_iff_ne]; omega
            rw [e1]
            have hfin : ∀ e w', e = .returned (.tuple #[.int .i32 c, .bool true, .nilIface]) → w.grownBy w' (some p) → Rd w' p r → NextPost aT aQ p s w e w' := fun e w' he hg hr => ⟨hg, by
              rw [HNL.out]
              exact ⟨he, hr⟩⟩
            have hfin := Lib.hid hfin
            clear q3 e1 hB3 h3 HNL
            go_wp2_with fail
            go_quiet (fail)
            go_wp2_with fail
            go_ret3
            exact hfin.out _ _ rfl (grown_trans hg3 (below_grown (below_drewN (Below.refl _ _) _) _)) (hp3.below (below_drewN (Below.refl _ _) _) hp3.lt)
end Go.Proofs.YtgfeeakcpojicaaGreatDoor
