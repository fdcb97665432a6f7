/- The texts UtfW, put together. -/
import Derived.Test.YtfckekaegjjmkaaGreatDoorPc01
import Derived.Test.YtfckekaegjjmkaaGreatDoorPc04
import Derived.Shelf.Unicode.ValidAny
namespace Go.Proofs.YtfckekaegjjmkaaGreatDoor
open Go.RowKit Go.Shelf

/-- The two sentinels lie where they were laid, and Go's two tables. -/
structure UW (w : World) (aT aQ : Addr) : Prop where
  hT : w.cell? ⟨6, 0, none⟩ = some (.iface 289 (.pointer (some aT)))
  hQ : w.cell? ⟨3, 0, none⟩ = some (.iface 289 (.pointer (some aQ)))
  ne : aT ≠ aQ
  bT : ∃ c t, w.heap[aT.block]? = some (.cells c t (0, 0))
  bQ : ∃ c t, w.heap[aQ.block]? = some (.cells c t (0, 0))
  tabs : Lib.Utf8Tabs 4 5 w

theorem UW.below {w w' : World} {aT aQ : Addr} (h : UW w aT aQ) (hb : Below w.heap.size w w') : UW w' aT aQ where
  hT := cell_below hb h.hT
  hQ := cell_below hb h.hQ
  ne := h.ne
  bT := let ⟨c, t, e⟩ := h.bT; ⟨c, t, block_below hb e⟩
  bQ := let ⟨c, t, e⟩ := h.bQ; ⟨c, t, block_below hb e⟩
  tabs := Utf8Tabs_below h.tabs hb



end Go.Proofs.YtfckekaegjjmkaaGreatDoor
