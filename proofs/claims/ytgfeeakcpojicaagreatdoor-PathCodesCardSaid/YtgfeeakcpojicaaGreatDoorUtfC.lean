/- utf: signs, sign. -/
import Derived.Test.YtgfeeakcpojicaaGreatDoorUtfB
import Derived.Laws.IdiomRangeMap
import Derived.Carry
namespace Go.Proofs.YtgfeeakcpojicaaGreatDoor
open Go.RowKit Go.Shelf

theorem run_ins (w : World) (t : TypeId) (kt et : TypeId) (ht : Tryz.prog.underlying t = some (.map kt et)) (hk : Tryz.prog.underlying kt = some (.int .u8)) (es : Array MapEntry) (c : Nat) (k : Int) (v : Value)
    (hf : Instr.findNow (.int .u8) (.int .u8 k) es.toList 0 = some none) :
    (Instr.mapUpdate t (.map (some w.heap.size)) (.int .u8 k) v).run Tryz.prog (w.alloc (.map es c)) = .ok () (w.alloc (.map (es.push ⟨.int .u8 k, v, c⟩) (c + 1))) := by
  have h1 : (Instr.findKey kt (.int .u8 k) es.toList).run Tryz.prog (w.alloc (.map es c)) = .ok none (w.alloc (.map es c)) := MapKept.run_findKey hk hf
  have h2 : (Instr.checkKey false 10000 kt (.int .u8 k)).run Tryz.prog (w.alloc (.map es c)) = .ok () (w.alloc (.map es c)) := by
    unfold Instr.checkKey
    simp [run_underlying hk]
  have h3 : ∀ o, (setObj w.heap.size o).run Tryz.prog (w.alloc (.map es c)) = .ok () (w.alloc o) := fun o => by
    simp only [setObj, Sem.run, heap_alloc_new]
    show Result.ok () ({ w.alloc (.map es c) with heap := (w.heap.push (.map es c)).setIfInBounds w.heap.size o } : World) = _
    rw [show (w.heap.push (.map es c)).setIfInBounds w.heap.size o = w.heap.push o by
      apply Array.toList_inj.1
      simp]
    rfl
  simp only [Instr.mapUpdate, Sem.run_bind, run_underlying ht, Result.andThen, MapKept.run_getObj_map (heap_alloc_new w _), h2, h1, h3]

def signsE : Array MapEntry := #[⟨.int .u8 34, .int .i32 34, 0⟩, ⟨.int .u8 92, .int .i32 92, 1⟩, ⟨.int .u8 47, .int .i32 47, 2⟩, ⟨.int .u8 98, .int .i32 8, 3⟩, ⟨.int .u8 102, .int .i32 12, 4⟩, ⟨.int .u8 110, .int .i32 10, 5⟩, ⟨.int .u8 114, .int .i32 13, 6⟩, ⟨.int .u8 116, .int .i32 9, 7⟩]

set_option maxHeartbeats 2000000 in
set_option maxRecDepth 100000 in
theorem utf_signs (w : World) :
    Calls Tryz.prog 71 #[] w fun e w' => e = .returned (.map (some w.heap.size)) ∧ w' = w.alloc (.map signsE 8) := by
  have h0 := run_makeMap (P := Tryz.prog) 100 w
  have hi := run_ins w 100 5 21 Tryz.underlying100 Tryz.underlying5
  have g0 := hi #[] 0 34 (.int .i32 34) (by kernel_rfl)
  have g1 := hi #[⟨.int .u8 34, .int .i32 34, 0⟩] 1 92 (.int .i32 92) (by kernel_rfl)
  have g2 := hi #[⟨.int .u8 34, .int .i32 34, 0⟩, ⟨.int .u8 92, .int .i32 92, 1⟩] 2 47 (.int .i32 47) (by kernel_rfl)
  have g3 := hi #[⟨.int .u8 34, .int .i32 34, 0⟩, ⟨.int .u8 92, .int .i32 92, 1⟩, ⟨.int .u8 47, .int .i32 47, 2⟩] 3 98 (.int .i32 8) (by kernel_rfl)
  have g4 := hi #[⟨.int .u8 34, .int .i32 34, 0⟩, ⟨.int .u8 92, .int .i32 92, 1⟩, ⟨.int .u8 47, .int .i32 47, 2⟩, ⟨.int .u8 98, .int .i32 8, 3⟩] 4 102 (.int .i32 12) (by kernel_rfl)
  have g5 := hi #[⟨.int .u8 34, .int .i32 34, 0⟩, ⟨.int .u8 92, .int .i32 92, 1⟩, ⟨.int .u8 47, .int .i32 47, 2⟩, ⟨.int .u8 98, .int .i32 8, 3⟩, ⟨.int .u8 102, .int .i32 12, 4⟩] 5 110 (.int .i32 10) (by kernel_rfl)
  have g6 := hi #[⟨.int .u8 34, .int .i32 34, 0⟩, ⟨.int .u8 92, .int .i32 92, 1⟩, ⟨.int .u8 47, .int .i32 47, 2⟩, ⟨.int .u8 98, .int .i32 8, 3⟩, ⟨.int .u8 102, .int .i32 12, 4⟩, ⟨.int .u8 110, .int .i32 10, 5⟩] 6 114 (.int .i32 13) (by kernel_rfl)
  have g7 := hi #[⟨.int .u8 34, .int .i32 34, 0⟩, ⟨.int .u8 92, .int .i32 92, 1⟩, ⟨.int .u8 47, .int .i32 47, 2⟩, ⟨.int .u8 98, .int .i32 8, 3⟩, ⟨.int .u8 102, .int .i32 12, 4⟩, ⟨.int .u8 110, .int .i32 10, 5⟩, ⟨.int .u8 114, .int .i32 13, 6⟩] 7 116 (.int .i32 9) (by kernel_rfl)
  clear hi
  simp only [List.push_toArray, List.cons_append, List.nil_append, Nat.zero_add, Nat.reduceAdd] at g0 g1 g2 g3 g4 g5 g6 g7
  go_enter Tryz.func71, Tryz.ntmps71
  go_wp2
  go_ret
  exact ⟨rfl, rfl⟩
end Go.Proofs.YtgfeeakcpojicaaGreatDoor
