/- The texts UtfW, put together. -/
import Derived.Test.YtgfeeakcpojicaaGreatDoorPk01
import Derived.Test.YtgfeeakcpojicaaGreatDoorPk12
import Derived.Shelf.Unicode.ValidAny
/- utf: the world that its functions ask for; told. -/
namespace Go.Proofs.YtgfeeakcpojicaaGreatDoor
open Go.RowKit Go.Shelf

/-- The two sentinels lie where they were laid, and Go's two tables. -/
structure UW (w : World) (aT aQ : Addr) : Prop where
  hT : w.cell? ⟨3, 0, none⟩ = some (.iface 167 (.pointer (some aT)))
  hQ : w.cell? ⟨0, 0, none⟩ = some (.iface 167 (.pointer (some aQ)))
  ne : aT ≠ aQ
  bT : ∃ c t, w.heap[aT.block]? = some (.cells c t (0, 0))
  bQ : ∃ c t, w.heap[aQ.block]? = some (.cells c t (0, 0))
  tabs : Lib.Utf8Tabs 1 2 w

theorem cell_below {w w' : World} (hb : Below w.heap.size w w') {b i : Nat} {v : Value} (h : w.cell? ⟨b, i, none⟩ = some v) : w'.cell? ⟨b, i, none⟩ = some v := by
  have hlt : b < w.heap.size := by
    apply Decidable.byContradiction
    intro hn
    have : w.heap[b]? = none := Array.getElem?_eq_none (by omega)
    simp [World.cell?, this] at h
  rw [← h]
  simp only [World.cell?, hb.block b hlt]

theorem block_below {w w' : World} (hb : Below w.heap.size w w') {b : Nat} {o : Obj} (h : w.heap[b]? = some o) : w'.heap[b]? = some o :=
  (hb.block b (Array.getElem?_eq_some_iff.1 h).1).trans h

theorem UW.below {w w' : World} {aT aQ : Addr} (h : UW w aT aQ) (hb : Below w.heap.size w w') : UW w' aT aQ where
  hT := cell_below hb h.hT
  hQ := cell_below hb h.hQ
  ne := h.ne
  bT := let ⟨c, t, e⟩ := h.bT; ⟨c, t, block_below hb e⟩
  bQ := let ⟨c, t, e⟩ := h.bQ; ⟨c, t, block_below hb e⟩
  tabs := Utf8Tabs_below h.tabs hb

set_option maxRecDepth 100000 in
theorem told_nil {aT aQ : Addr} (w : World) (h : UW w aT aQ) : Calls Tryz.prog 78 #[.nilIface] w fun e w' => e = .returned (.int .i64 0) ∧ w = w' := by
  have hT := h.hT
  have hQ := h.hQ
  have H1 := Lib.hid (is_nil aT)
  have H2 := Lib.hid (is_nil aQ)
  clear h
  go_enter Tryz.func78, Tryz.ntmps78
  go_wp2_with fail
  refine (H1.out _).mono ?_
  rintro e w1 ⟨rfl, rfl⟩
  go_wp2_with fail
  refine (H2.out _).mono ?_
  rintro e w1 ⟨rfl, rfl⟩
  go_wp2_with fail
  go_ret
  exact ⟨rfl, rfl⟩

set_option maxRecDepth 100000 in
theorem told_text {aT aQ : Addr} (w : World) (h : UW w aT aQ) : Calls Tryz.prog 78 #[.iface 167 (.pointer (some aT))] w fun e w' => e = .returned (.int .i64 20) ∧ w = w' := by
  have hT := h.hT
  have H1 := Lib.hid (is_same aT)
  clear h
  go_enter Tryz.func78, Tryz.ntmps78
  go_wp2_with fail
  refine (H1.out _).mono ?_
  rintro e w1 ⟨rfl, rfl⟩
  go_wp2_with fail
  go_ret
  exact ⟨rfl, rfl⟩

set_option maxRecDepth 100000 in
theorem told_quote {aT aQ : Addr} (w : World) (h : UW w aT aQ) : Calls Tryz.prog 78 #[.iface 167 (.pointer (some aQ))] w fun e w' => e = .returned (.int .i64 21) ∧ w = w' := by
  have hT := h.hT
  have hQ := h.hQ
  obtain ⟨c1, t1, e1⟩ := h.bT
  obtain ⟨c2, t2, e2⟩ := h.bQ
  have H1 := Lib.hid (is_other aQ aT c2 c1 t2 t1 w h.ne.symm e2 e1)
  have H2 := Lib.hid (is_same aQ)
  clear h e1 e2
  go_enter Tryz.func78, Tryz.ntmps78
  go_wp2_with fail
  refine H1.out.mono ?_
  rintro e w1 ⟨rfl, rfl⟩
  go_wp2_with fail
  refine (H2.out _).mono ?_
  rintro e w1 ⟨rfl, rfl⟩
  go_wp2_with fail
  go_ret
  exact ⟨rfl, rfl⟩
end Go.Proofs.YtgfeeakcpojicaaGreatDoor
