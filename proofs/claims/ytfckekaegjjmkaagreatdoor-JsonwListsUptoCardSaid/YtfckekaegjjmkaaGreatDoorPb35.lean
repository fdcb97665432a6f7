/- The texts JwC, put together. -/
import Derived.Test.YtfckekaegjjmkaaGreatDoorPb20
import Derived.Test.YtfckekaegjjmkaaGreatDoorPb34
namespace Go.Proofs.YtfckekaegjjmkaaGreatDoor
open Go.RowKit Go.Shelf

def formsJ (p : Nat) : Array MapEntry := #[⟨.int .i64 1, .func (.func 101) #[.pointer (some ⟨p, 0, none⟩)] #[], 0⟩, ⟨.int .i64 2, .func (.func 102) #[.pointer (some ⟨p, 0, none⟩)] #[], 1⟩, ⟨.int .i64 3, .func (.func 103) #[.pointer (some ⟨p, 0, none⟩)] #[], 2⟩, ⟨.int .i64 5, .func (.func 104) #[.pointer (some ⟨p, 0, none⟩)] #[], 3⟩, ⟨.int .i64 7, .func (.func 105) #[.pointer (some ⟨p, 0, none⟩)] #[], 4⟩, ⟨.int .i64 8, .func (.func 106) #[.pointer (some ⟨p, 0, none⟩)] #[], 5⟩]

set_option maxHeartbeats 4000000 in
set_option maxRecDepth 100000 in
theorem j_forms (p : Nat) (w : World) :
    Calls Tryz.prog 66 #[.pointer (some ⟨p, 0, none⟩)] w fun e w' => e = .returned (.map (some w.heap.size)) ∧ w' = w.alloc (.map (formsJ p) 6) := by
  have h0 := run_makeMap (P := Tryz.prog) 107 w
  have hi := run_insI w 107 3 84 Tryz.underlying107 Tryz.underlying3
  have g1 := hi #[] 0 1 (.func (.func 101) #[.pointer (some ⟨p, 0, none⟩)] #[]) rfl
  have g2 := hi #[⟨.int .i64 1, .func (.func 101) #[.pointer (some ⟨p, 0, none⟩)] #[], 0⟩] 1 2 (.func (.func 102) #[.pointer (some ⟨p, 0, none⟩)] #[]) rfl
  have g3 := hi #[⟨.int .i64 1, .func (.func 101) #[.pointer (some ⟨p, 0, none⟩)] #[], 0⟩, ⟨.int .i64 2, .func (.func 102) #[.pointer (some ⟨p, 0, none⟩)] #[], 1⟩] 2 3 (.func (.func 103) #[.pointer (some ⟨p, 0, none⟩)] #[]) rfl
  have g5 := hi #[⟨.int .i64 1, .func (.func 101) #[.pointer (some ⟨p, 0, none⟩)] #[], 0⟩, ⟨.int .i64 2, .func (.func 102) #[.pointer (some ⟨p, 0, none⟩)] #[], 1⟩, ⟨.int .i64 3, .func (.func 103) #[.pointer (some ⟨p, 0, none⟩)] #[], 2⟩] 3 5 (.func (.func 104) #[.pointer (some ⟨p, 0, none⟩)] #[]) rfl
  have g7 := hi #[⟨.int .i64 1, .func (.func 101) #[.pointer (some ⟨p, 0, none⟩)] #[], 0⟩, ⟨.int .i64 2, .func (.func 102) #[.pointer (some ⟨p, 0, none⟩)] #[], 1⟩, ⟨.int .i64 3, .func (.func 103) #[.pointer (some ⟨p, 0, none⟩)] #[], 2⟩, ⟨.int .i64 5, .func (.func 104) #[.pointer (some ⟨p, 0, none⟩)] #[], 3⟩] 4 7 (.func (.func 105) #[.pointer (some ⟨p, 0, none⟩)] #[]) rfl
  have g8 := hi #[⟨.int .i64 1, .func (.func 101) #[.pointer (some ⟨p, 0, none⟩)] #[], 0⟩, ⟨.int .i64 2, .func (.func 102) #[.pointer (some ⟨p, 0, none⟩)] #[], 1⟩, ⟨.int .i64 3, .func (.func 103) #[.pointer (some ⟨p, 0, none⟩)] #[], 2⟩, ⟨.int .i64 5, .func (.func 104) #[.pointer (some ⟨p, 0, none⟩)] #[], 3⟩, ⟨.int .i64 7, .func (.func 105) #[.pointer (some ⟨p, 0, none⟩)] #[], 4⟩] 5 8 (.func (.func 106) #[.pointer (some ⟨p, 0, none⟩)] #[]) rfl
  clear hi
  simp only [List.push_toArray, List.cons_append, List.nil_append, Nat.zero_add, Nat.reduceAdd] at g1 g2 g3 g5 g7 g8
  go_enter Tryz.func66, Tryz.ntmps66
  go_wp2
  go_ret
  exact ⟨rfl, rfl⟩

/-- The kinds of JSON. -/
def kindJ (k : Int) : Prop := k = 1 ∨ k = 2 ∨ k = 3 ∨ k = 5 ∨ k = 7 ∨ k = 8
/-- The writer of a kind. -/
def wjF (k : Int) : FuncId := if k = 1 then 101 else if k = 2 then 102 else if k = 3 then 103 else if k = 5 then 104 else if k = 7 then 105 else 106
theorem formsJ_find (p : Nat) (k : Int) (h : kindJ k) : ∃ i, Instr.findNow (.int .i64) (.int .i64 k) (formsJ p).toList 0 = some (some (i, .func (.func (wjF k)) #[.pointer (some ⟨p, 0, none⟩)] #[])) := by
  rcases h with rfl | rfl | rfl | rfl | rfl | rfl <;> exact ⟨_, rfl⟩

set_option maxRecDepth 100000 in
theorem formsJ_look (p : Nat) (w : World) (b : Nat) (hm : w.heap[b]? = some (.map (formsJ p) 6)) (k : Int) (h : kindJ k) :
    (Instr.lookup 107 (.map (some b)) (.int .i64 k) true).run Tryz.prog w = .ok (.tuple #[.func (.func (wjF k)) #[.pointer (some ⟨p, 0, none⟩)] #[], .bool true]) w := by
  obtain ⟨i, hf⟩ := formsJ_find p k h
  have q1 : (Instr.findKey 3 (.int .i64 k) (formsJ p).toList).run Tryz.prog w = .ok (some (i, .func (.func (wjF k)) #[.pointer (some ⟨p, 0, none⟩)] #[])) w := MapKept.run_findKey Tryz.underlying3 hf
  have q2 : (Instr.checkKey (formsJ p).isEmpty 10000 3 (.int .i64 k)).run Tryz.prog w = .ok () w := by
    unfold Instr.checkKey
    simp [run_underlying Tryz.underlying3]
  simp only [Instr.lookup, Sem.run_bind, run_underlying Tryz.underlying107, Result.andThen, MapKept.run_getObj_map hm, q2, q1, Sem.run_pure]
  rfl
set_option maxRecDepth 100000 in
theorem wjF_enters (k : Int) (h : kindJ k) (args : Array Value) (w : World) : (callFunc (wjF k) args).run Tryz.prog w = .ok (.enter (wjF k) args) w := by
  rcases h with rfl | rfl | rfl | rfl | rfl | rfl
  · exact enters_of Tryz.func101 (by kernel_rfl) rfl args w
  · exact enters_of Tryz.func102 (by kernel_rfl) rfl args w
  · exact enters_of Tryz.func103 (by kernel_rfl) rfl args w
  · exact enters_of Tryz.func104 (by kernel_rfl) rfl args w
  · exact enters_of Tryz.func105 (by kernel_rfl) rfl args w
  · exact enters_of Tryz.func106 (by kernel_rfl) rfl args w

set_option maxHeartbeats 4000000 in
set_option maxRecDepth 100000 in
/-- A node, by its kind. -/
theorem j_node (B p : Nat) (pr : Bool) (dp : Int) (l l' : List UInt8) (kind : Int) (b neg : Bool) (dg : ByteArray) (ex u wd : Int) (s : ByteArray) (v : Value) (W : World) (h : IsJ B p pr dp (Lib.byteCells l) W) (hk : kindJ kind)
    (hcall : ∀ W2, JP B p pr dp l W W2 → Calls Tryz.prog (wjF kind) #[.pointer (some ⟨p, 0, none⟩), .agg #[.int .i64 kind, .bool b, .bool neg, .string dg, .int .i64 ex, .int .u64 u, .int .i64 wd, .string s, v]] W2 fun e W' => e = .returned (.tuple #[]) ∧ JP B p pr dp l' W2 W') :
    Calls Tryz.prog 46 #[.pointer (some ⟨p, 0, none⟩), .agg #[.int .i64 kind, .bool b, .bool neg, .string dg, .int .i64 ex, .int .u64 u, .int .i64 wd, .string s, v]] W fun e W' => e = .returned (.tuple #[]) ∧ JP B p pr dp l' W W' := by
  have hb1 : Below W.heap.size W (W.alloc (.cells #[.int .i64 kind, .bool b, .bool neg, .string dg, .int .i64 ex, .int .u64 u, .int .i64 wd, .string s, v] 27)) := (Below.refl _ _).alloc (Nat.le_refl _) _
  have hk1 := Blk.new W #[.int .i64 kind, .bool b, .bool neg, .string dg, .int .i64 ex, .int .u64 u, .int .i64 wd, .string s, v] 27
  have z0 := hk1.cell 0
  have HF := Lib.hid (fun w => j_forms p w)
  have HI := Lib.hid h
  have HC := Lib.hid hcall
  have heg := wjF_enters kind hk
  have HL := Lib.hid (fun w b hm => formsJ_look p w b hm kind hk)
  have HK := Lib.hid hk1
  have HB := Lib.hid hb1
  clear h hcall hk hk1 hb1
  go_enter Tryz.func46, Tryz.ntmps46
  go_wp2_with fail
  go_region_held3 (fun w' => w'.cell? ⟨W.heap.size, 0, none⟩ = some (.int .i64 kind)) (go_keep)
    (first | (go_at_call 66; refine (HF.out _).mono ?_; rintro e w6 ⟨rfl, hw6⟩; have hs6 : (W.alloc (.cells #[.int .i64 kind, .bool b, .bool neg, .string dg, .int .i64 ex, .int .u64 u, .int .i64 wd, .string s, v] 27)).drew.heap.size = W.heap.size + 1 := by { show (W.alloc _).heap.size = _; simp }; have hm6 : w6.heap[W.heap.size + 1]? = some (.map (formsJ p) 6) := by { rw [hw6, ← hs6]; exact heap_alloc_new _ _ }; have hb6 : Below W.heap.size W w6 := by { rw [hw6]; exact (HB.out.drew).alloc (by show W.heap.size ≤ (W.alloc _).heap.size; simp) _ }; have hk6 : Blk w6 W.heap.size #[.int .i64 kind, .bool b, .bool neg, .string dg, .int .i64 ex, .int .u64 u, .int .i64 wd, .string s, v] 27 := by { rw [hw6]; exact (Blk.drew HK.out).alloc _ }; have hl6 := HL.out w6 _ hm6; simp only [hs6]; clear hw6 z0; have z0 := hk6.cell 0))
  have HJ := Lib.hid (HC.out w6 (JP.step HI.out hb6))
  have HS := Lib.hid (JP.step HI.out hb6)
  have z1 := hk6.cell 1
  have z2 := hk6.cell 2
  have z3 := hk6.cell 3
  have z4 := hk6.cell 4
  have z5 := hk6.cell 5
  have z6 := hk6.cell 6
  have z7 := hk6.cell 7
  have z8 := hk6.cell 8
  clear HC HI HF HL HK HB hm6 hb6 hk6 hl6 hs6
  go_wp2_with fail
  refine HJ.out.mono ?_
  rintro e W7 ⟨rfl, h7⟩
  have hw7 := HS.out.trans h7
  go_wp2_with fail
  go_end0
  exact ⟨rfl, hw7⟩
end Go.Proofs.YtfckekaegjjmkaaGreatDoor
