/- The texts MakeN, put together. -/
import Derived.Test.YtgfeeakcpojicaaGreatDoorPk08
import Derived.Test.YtgfeeakcpojicaaGreatDoorPk18
import Derived.Test.YtgfeeakcpojicaaGreatDoorPk31
import Derived.Laws.MakeOwn
import Derived.Laws.IdiomCopy
/- Rows of nodes: 'make([]Node, n)', 'copy(l, n.L)'; a slice of steps without its first. -/
namespace Go.Proofs.YtgfeeakcpojicaaGreatDoor
open Go.RowKit Go.Shelf

def zeroCs : Array Value := #[.int .i64 0, .bool false, .bool false, .string ⟨#[]⟩, .int .i64 0, .int .u64 0, .int .i64 0, .string ⟨#[]⟩, .slice none 0 0]

theorem wpList_make_node (w : World) {ops : Array Oper} {rest : List Oper} {o : Oper} {a : Act} {Q : Exit → Act → World → Prop}
    (hg : o.guard = none) (l c : Operand) (hop : o.op = Op.makeSlice 36 l c) (n : Nat) (hn : n ≤ 1000000)
    (hl : a.eval l = .int .i64 (n : Int)) (hc : a.eval c = .int .i64 (n : Int))
    (hK : wpList Tryz.prog ops Q rest (a.put o.dst (.slice (some ⟨w.heap.size, 0, none⟩) n n)) (w.alloc (.cells (madeCells zeroCs (n * 9)) 38))) :
    wpList Tryz.prog ops Q (o :: rest) a w := by
  obtain ⟨i0, hi, hz0, hz1, hz2⟩ := info_parts infoNode
  refine wpList_plain hg fun K hK' => ?_
  have hrun := run_make (P := Tryz.prog) w 36 38 i0 _ Tryz.underlying36 hi hz0 .i64 .i64 n n (by omega) (Int.le_refl _) (by rw [hz2]; omega) (by omega)
  simp only [Int.toNat_natCast, hz1] at hrun
  unfold Oper.wp
  simp only [execOp, hop, hl, hc, Sem.run_bind, hrun, Result.andThen_ok, Sem.run_pure]
  exact hK' _ _ hK

theorem wpList_copy_node (w : World) {ops : Array Oper} {rest : List Oper} {o : Oper} {a : Act} {Q : Exit → Act → World → Prop}
    (hg : o.guard = none) (x y : Operand) (hop : o.op = .call { callee := .builtin .copy, args := #[x, y], argTypes := #[36, 36] }) (g n c c' : Nat) (ad : Addr) (cs : List Value)
    (hx : a.eval x = .slice (some ⟨g, 0, none⟩) n c) (hy : a.eval y = .slice (some ad) n c') (hl : cs.length = n * 9)
    (hsrc : ∀ j v, cs[j]? = some v → w.cell? (ad.add j) = some v) (ht : w.there g 0 (n * 9)) (h1 : ∀ v ∈ cs, v.oneCell' = true)
    (hK : wpList Tryz.prog ops Q rest (a.put o.dst (.int .i64 (n : Int))) (w.setCells g 0 cs)) :
    wpList Tryz.prog ops Q (o :: rest) a w := by
  obtain ⟨i0, hi, hz0, hz1, hz2⟩ := info_parts infoNode
  refine wpList_plain hg fun K hK' => ?_
  have hld := run_loadCells_list (P := Tryz.prog) w ad cs hsrc
  have hst := run_storeCells_cells (P := Tryz.prog) g 0 cs 0 w (fun j hj => (ht j (by omega)).1) (fun j hj => (ht j (by omega)).2) h1
  have hrun : (Builtin.copy_ #[36, 36] o.type #[.slice (some ⟨g, 0, none⟩) n c, .slice (some ad) n c']).run Tryz.prog w = .ok (.int .i64 (n : Int)) (w.setCells g 0 cs) := by
    rw [hl] at hld
    simp [Builtin.copy_, run_underlying Tryz.underlying36, Builtin.lenOf, Builtin.firstCells, sizeOf, typeInfo, hi, hz1, hld, hst, goInt]
  unfold Oper.wp execOp
  simp only [hop, resolve, invoke, builtin, Sem.run_bind, Sem.run_pure, Result.andThen_ok, List.map_toArray, List.map_cons, List.map_nil, hx, hy, hrun]
  exact hK' _ _ hK

theorem made_there (w : World) (n : Nat) : (w.alloc (.cells (madeCells zeroCs (n * 9)) 38)).there w.heap.size 0 (n * 9) := fun j hj => by
  have hb := Blk.new w (madeCells zeroCs (n * 9)) 38
  rw [Nat.zero_add]
  refine ⟨?_, hb.frozen j⟩
  rw [hb.cell j]
  have : j < (madeCells zeroCs (n * 9)).size := by rw [size_madeCells]; exact hj
  simp [this]
/-- What was stored into the whole of it. -/
theorem set_all {w : World} {g n : Nat} {cs : List Value} (ht : w.there g 0 (n * 9)) (hl : cs.length = n * 9) : (w.setCells g 0 cs).rangeAt g 0 cs ∧ (w.setCells g 0 cs).there g 0 (n * 9) :=
  ⟨fun j v hj => by
    have hj' : j < cs.length := (List.getElem?_eq_some_iff.1 hj).1
    rw [World.cell?_setCells_in g cs 0 w (fun i hi => (ht i (by omega)).1) j hj', ← hj, List.getElem?_eq_getElem hj'], World.there_setCells ht _ _ _⟩

theorem StepsAt.tail {W : World} {B n : Nat} {a : Addr} {s : Stp} {p : List Stp} (h : StepsAt W B (some a) n (s :: p)) : StepsAt W B (some (a.add 2)) (n - 1) p := by
  have hn := h.len
  rw [List.length_cons] at hn
  refine ⟨by omega, ⟨by rw [stepCells_length]; omega, fun _ => ?_⟩, fun x hx => h.size x (List.mem_cons_of_mem _ hx)⟩
  obtain ⟨ad, e, hlt, hc⟩ := h.lies.2 (by omega)
  cases e
  refine ⟨_, rfl, by rw [add_block]; exact hlt, fun j u hu => ?_⟩
  rw [add_add', Nat.add_comm 2 j]
  exact hc (j + 2) u (by rw [stepCells_cons]; simpa using hu)
theorem StepsAt.rest {W : World} {B n c : Nat} {a : Addr} {s : Stp} {p : List Stp} (h : StepsAt W B (some a) n (s :: p)) (hc : n ≤ c) : StepsAt W B (if c = 1 then some a else some (a.add 2)) (n - 1) p := by
  split
  · have hn := h.len
    rw [List.length_cons] at hn
    have hp : p = [] := List.eq_nil_of_length_eq_zero (by omega)
    subst hp
    have : n - 1 = 0 := by omega
    rw [this]
    exact ⟨rfl, Lies.nil _ _ _ _, fun x hx => by cases hx⟩
  · exact h.tail
end Go.Proofs.YtgfeeakcpojicaaGreatDoor
