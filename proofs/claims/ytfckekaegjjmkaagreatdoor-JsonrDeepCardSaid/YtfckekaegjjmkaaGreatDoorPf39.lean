/- The texts GateU, GateA, put together. -/
import Derived.Test.YtfckekaegjjmkaaGreatDoorPf38
import Derived.Test.YtfckekaegjjmkaaGreatDoorPf02
import Derived.Test.YtfckekaegjjmkaaGreatDoorPf09
namespace Go.Proofs.YtfckekaegjjmkaaGreatDoor
open Go.RowKit Go.Shelf

theorem run_insI (w : World) (t : TypeId) (kt et : TypeId) (ht : Tryz.prog.underlying t = some (.map kt et)) (hk : Tryz.prog.underlying kt = some (.int .i64)) (es : Array MapEntry) (c : Nat) (k : Int) (v : Value)
    (hf : Instr.findNow (.int .i64) (.int .i64 k) es.toList 0 = some none) :
    (Instr.mapUpdate t (.map (some w.heap.size)) (.int .i64 k) v).run Tryz.prog (w.alloc (.map es c)) = .ok () (w.alloc (.map (es.push ⟨.int .i64 k, v, c⟩) (c + 1))) := by
  have h1 : (Instr.findKey kt (.int .i64 k) es.toList).run Tryz.prog (w.alloc (.map es c)) = .ok none (w.alloc (.map es c)) := MapKept.run_findKey hk hf
  have h2 : (Instr.checkKey false 10000 kt (.int .i64 k)).run Tryz.prog (w.alloc (.map es c)) = .ok () (w.alloc (.map es c)) := by
    unfold Instr.checkKey
    simp [run_underlying hk]
  have h3 : ∀ o, (setObj w.heap.size o).run Tryz.prog (w.alloc (.map es c)) = .ok () (w.alloc o) := fun o => by
    simp only [setObj, Sem.run, heap_alloc_new]
    show Result.ok () ({ w.alloc (.map es c) with heap := (w.heap.push (.map es c)).setIfInBounds w.heap.size o } : World) = _
    rw [show (w.heap.push (.map es c)).setIfInBounds w.heap.size o = w.heap.push o by
      apply Array.toList_inj.1
      simp]
    rfl
  simp only [Instr.mapUpdate, Sem.run_bind, run_underlying ht, Result.andThen, MapKept.run_getObj_map (heap_alloc_new w _), h2, h1, h3]

def kindsE : Array MapEntry := #[⟨.int .i64 1, .func (.func 81) #[] #[], 0⟩, ⟨.int .i64 2, .func (.func 82) #[] #[], 1⟩, ⟨.int .i64 3, .func (.func 83) #[] #[], 2⟩, ⟨.int .i64 4, .func (.func 84) #[] #[], 3⟩, ⟨.int .i64 5, .func (.func 85) #[] #[], 4⟩, ⟨.int .i64 6, .func (.func 86) #[] #[], 5⟩, ⟨.int .i64 7, .func (.func 87) #[] #[], 6⟩, ⟨.int .i64 8, .func (.func 88) #[] #[], 7⟩, ⟨.int .i64 9, .func (.func 89) #[] #[], 8⟩, ⟨.int .i64 10, .func (.func 90) #[] #[], 9⟩, ⟨.int .i64 11, .func (.func 91) #[] #[], 10⟩]

set_option maxHeartbeats 4000000 in
set_option maxRecDepth 100000 in
theorem tree_kinds (w : World) :
    Calls Tryz.prog 57 #[] w fun e w' => e = .returned (.map (some w.heap.size)) ∧ w' = w.alloc (.map kindsE 11) := by
  have h0 := run_makeMap (P := Tryz.prog) 94 w
  have hi := run_insI w 94 3 96 Tryz.underlying94 Tryz.underlying3
  have g1 := hi #[] 0 1 (.func (.func 81) #[] #[]) (by kernel_rfl)
  have g2 := hi #[⟨.int .i64 1, .func (.func 81) #[] #[], 0⟩] 1 2 (.func (.func 82) #[] #[]) (by kernel_rfl)
  have g3 := hi #[⟨.int .i64 1, .func (.func 81) #[] #[], 0⟩, ⟨.int .i64 2, .func (.func 82) #[] #[], 1⟩] 2 3 (.func (.func 83) #[] #[]) (by kernel_rfl)
  have g4 := hi #[⟨.int .i64 1, .func (.func 81) #[] #[], 0⟩, ⟨.int .i64 2, .func (.func 82) #[] #[], 1⟩, ⟨.int .i64 3, .func (.func 83) #[] #[], 2⟩] 3 4 (.func (.func 84) #[] #[]) (by kernel_rfl)
  have g5 := hi #[⟨.int .i64 1, .func (.func 81) #[] #[], 0⟩, ⟨.int .i64 2, .func (.func 82) #[] #[], 1⟩, ⟨.int .i64 3, .func (.func 83) #[] #[], 2⟩, ⟨.int .i64 4, .func (.func 84) #[] #[], 3⟩] 4 5 (.func (.func 85) #[] #[]) (by kernel_rfl)
  have g6 := hi #[⟨.int .i64 1, .func (.func 81) #[] #[], 0⟩, ⟨.int .i64 2, .func (.func 82) #[] #[], 1⟩, ⟨.int .i64 3, .func (.func 83) #[] #[], 2⟩, ⟨.int .i64 4, .func (.func 84) #[] #[], 3⟩, ⟨.int .i64 5, .func (.func 85) #[] #[], 4⟩] 5 6 (.func (.func 86) #[] #[]) (by kernel_rfl)
  have g7 := hi #[⟨.int .i64 1, .func (.func 81) #[] #[], 0⟩, ⟨.int .i64 2, .func (.func 82) #[] #[], 1⟩, ⟨.int .i64 3, .func (.func 83) #[] #[], 2⟩, ⟨.int .i64 4, .func (.func 84) #[] #[], 3⟩, ⟨.int .i64 5, .func (.func 85) #[] #[], 4⟩, ⟨.int .i64 6, .func (.func 86) #[] #[], 5⟩] 6 7 (.func (.func 87) #[] #[]) (by kernel_rfl)
  have g8 := hi #[⟨.int .i64 1, .func (.func 81) #[] #[], 0⟩, ⟨.int .i64 2, .func (.func 82) #[] #[], 1⟩, ⟨.int .i64 3, .func (.func 83) #[] #[], 2⟩, ⟨.int .i64 4, .func (.func 84) #[] #[], 3⟩, ⟨.int .i64 5, .func (.func 85) #[] #[], 4⟩, ⟨.int .i64 6, .func (.func 86) #[] #[], 5⟩, ⟨.int .i64 7, .func (.func 87) #[] #[], 6⟩] 7 8 (.func (.func 88) #[] #[]) (by kernel_rfl)
  have g9 := hi #[⟨.int .i64 1, .func (.func 81) #[] #[], 0⟩, ⟨.int .i64 2, .func (.func 82) #[] #[], 1⟩, ⟨.int .i64 3, .func (.func 83) #[] #[], 2⟩, ⟨.int .i64 4, .func (.func 84) #[] #[], 3⟩, ⟨.int .i64 5, .func (.func 85) #[] #[], 4⟩, ⟨.int .i64 6, .func (.func 86) #[] #[], 5⟩, ⟨.int .i64 7, .func (.func 87) #[] #[], 6⟩, ⟨.int .i64 8, .func (.func 88) #[] #[], 7⟩] 8 9 (.func (.func 89) #[] #[]) (by kernel_rfl)
  have g10 := hi #[⟨.int .i64 1, .func (.func 81) #[] #[], 0⟩, ⟨.int .i64 2, .func (.func 82) #[] #[], 1⟩, ⟨.int .i64 3, .func (.func 83) #[] #[], 2⟩, ⟨.int .i64 4, .func (.func 84) #[] #[], 3⟩, ⟨.int .i64 5, .func (.func 85) #[] #[], 4⟩, ⟨.int .i64 6, .func (.func 86) #[] #[], 5⟩, ⟨.int .i64 7, .func (.func 87) #[] #[], 6⟩, ⟨.int .i64 8, .func (.func 88) #[] #[], 7⟩, ⟨.int .i64 9, .func (.func 89) #[] #[], 8⟩] 9 10 (.func (.func 90) #[] #[]) (by kernel_rfl)
  have g11 := hi #[⟨.int .i64 1, .func (.func 81) #[] #[], 0⟩, ⟨.int .i64 2, .func (.func 82) #[] #[], 1⟩, ⟨.int .i64 3, .func (.func 83) #[] #[], 2⟩, ⟨.int .i64 4, .func (.func 84) #[] #[], 3⟩, ⟨.int .i64 5, .func (.func 85) #[] #[], 4⟩, ⟨.int .i64 6, .func (.func 86) #[] #[], 5⟩, ⟨.int .i64 7, .func (.func 87) #[] #[], 6⟩, ⟨.int .i64 8, .func (.func 88) #[] #[], 7⟩, ⟨.int .i64 9, .func (.func 89) #[] #[], 8⟩, ⟨.int .i64 10, .func (.func 90) #[] #[], 9⟩] 10 11 (.func (.func 91) #[] #[]) (by kernel_rfl)
  clear hi
  simp only [List.push_toArray, List.cons_append, List.nil_append, Nat.zero_add, Nat.reduceAdd] at g1 g2 g3 g4 g5 g6 g7 g8 g9 g10 g11
  go_enter Tryz.func57, Tryz.ntmps57
  go_wp2
  go_ret
  exact ⟨rfl, rfl⟩

/-- The check of a kind. -/
def isF (k : Int) : FuncId := if k = 1 then 81 else if k = 2 then 82 else if k = 3 then 83 else if k = 4 then 84 else if k = 5 then 85 else if k = 6 then 86 else if k = 7 then 87 else if k = 8 then 88 else if k = 9 then 89 else if k = 10 then 90 else 91
theorem kinds_find (k : Int) (h1 : 1 ≤ k) (h2 : k ≤ 11) : ∃ i, Instr.findNow (.int .i64) (.int .i64 k) kindsE.toList 0 = some (some (i, .func (.func (isF k)) #[] #[])) := by
  have : k = 1 ∨ k = 2 ∨ k = 3 ∨ k = 4 ∨ k = 5 ∨ k = 6 ∨ k = 7 ∨ k = 8 ∨ k = 9 ∨ k = 10 ∨ k = 11 := by omega
  rcases this with rfl | rfl | rfl | rfl | rfl | rfl | rfl | rfl | rfl | rfl | rfl <;> exact ⟨_, rfl⟩
theorem kinds_miss (k : Int) (h : ¬ (1 ≤ k ∧ k ≤ 11)) : Instr.findNow (.int .i64) (.int .i64 k) kindsE.toList 0 = some none := by
  have e : ∀ m : Int, 1 ≤ m → m ≤ 11 → (m == k) = false ∧ (k == m) = false := fun m h1 h2 => by
    constructor <;> (rw [beq_eq_false_iff_ne]; omega)
  have e1 := e 1 (by decide) (by decide)
  have e2 := e 2 (by decide) (by decide)
  have e3 := e 3 (by decide) (by decide)
  have e4 := e 4 (by decide) (by decide)
  have e5 := e 5 (by decide) (by decide)
  have e6 := e 6 (by decide) (by decide)
  have e7 := e 7 (by decide) (by decide)
  have e8 := e 8 (by decide) (by decide)
  have e9 := e 9 (by decide) (by decide)
  have e10 := e 10 (by decide) (by decide)
  have e11 := e 11 (by decide) (by decide)
  simp [kindsE, Instr.findNow, Instr.sameNow, e1, e2, e3, e4, e5, e6, e7, e8, e9, e10, e11]

set_option maxRecDepth 100000 in
theorem kinds_look (w : World) (b : Nat) (hm : w.heap[b]? = some (.map kindsE 11)) (k : Int) (h1 : 1 ≤ k) (h2 : k ≤ 11) :
    (Instr.lookup 94 (.map (some b)) (.int .i64 k) true).run Tryz.prog w = .ok (.tuple #[.func (.func (isF k)) #[] #[], .bool true]) w := by
  obtain ⟨i, hf⟩ := kinds_find k h1 h2
  have q1 : (Instr.findKey 3 (.int .i64 k) kindsE.toList).run Tryz.prog w = .ok (some (i, .func (.func (isF k)) #[] #[])) w := MapKept.run_findKey Tryz.underlying3 hf
  have q2 : (Instr.checkKey kindsE.isEmpty 10000 3 (.int .i64 k)).run Tryz.prog w = .ok () w := by
    unfold Instr.checkKey
    simp [run_underlying Tryz.underlying3]
  simp only [Instr.lookup, Sem.run_bind, run_underlying Tryz.underlying94, Result.andThen, MapKept.run_getObj_map hm, q2, q1, Sem.run_pure]
  rfl
set_option maxRecDepth 100000 in
theorem kinds_lookno (w : World) (b : Nat) (hm : w.heap[b]? = some (.map kindsE 11)) (k : Int) (h : ¬ (1 ≤ k ∧ k ≤ 11)) :
    (Instr.lookup 94 (.map (some b)) (.int .i64 k) true).run Tryz.prog w = .ok (.tuple #[.nilFunc, .bool false]) w := by
  have hf := kinds_miss k h
  have q1 : (Instr.findKey 3 (.int .i64 k) kindsE.toList).run Tryz.prog w = .ok none w := MapKept.run_findKey Tryz.underlying3 hf
  have q2 : (Instr.checkKey kindsE.isEmpty 10000 3 (.int .i64 k)).run Tryz.prog w = .ok () w := by
    unfold Instr.checkKey
    simp [run_underlying Tryz.underlying3]
  have q3 : (zeroValue 96).run Tryz.prog w = .ok .nilFunc w := by kernel_rfl
  simp only [Instr.lookup, Sem.run_bind, run_underlying Tryz.underlying94, Result.andThen, MapKept.run_getObj_map hm, q2, q1, q3, Sem.run_pure]
  rfl

set_option maxRecDepth 100000 in
theorem isF_enters (k : Int) (h1 : 1 ≤ k) (h2 : k ≤ 11) (args : Array Value) (w : World) : (callFunc (isF k) args).run Tryz.prog w = .ok (.enter (isF k) args) w := by
  have : k = 1 ∨ k = 2 ∨ k = 3 ∨ k = 4 ∨ k = 5 ∨ k = 6 ∨ k = 7 ∨ k = 8 ∨ k = 9 ∨ k = 10 ∨ k = 11 := by omega
  rcases this with rfl | rfl | rfl | rfl | rfl | rfl | rfl | rfl | rfl | rfl | rfl
  · exact enters_of Tryz.func81 (by kernel_rfl) rfl args w
  · exact enters_of Tryz.func82 (by kernel_rfl) rfl args w
  · exact enters_of Tryz.func83 (by kernel_rfl) rfl args w
  · exact enters_of Tryz.func84 (by kernel_rfl) rfl args w
  · exact enters_of Tryz.func85 (by kernel_rfl) rfl args w
  · exact enters_of Tryz.func86 (by kernel_rfl) rfl args w
  · exact enters_of Tryz.func87 (by kernel_rfl) rfl args w
  · exact enters_of Tryz.func88 (by kernel_rfl) rfl args w
  · exact enters_of Tryz.func89 (by kernel_rfl) rfl args w
  · exact enters_of Tryz.func90 (by kernel_rfl) rfl args w
  · exact enters_of Tryz.func91 (by kernel_rfl) rfl args w

set_option maxRecDepth 100000 in
/-- The check of a node's kind tells whether the node is right. -/
theorem is_node (id : Int) (o : Own) (l : List Tr) (A : Option Addr) (n c : Nat) (w : World) (B d : Nat) (hl : ListAt w B d l (.slice A n c)) (hB : B ≤ w.heap.size) (hn : l.length = n) (hc : n ≤ 1000000000000) (ho : OwnOk o)
    (hT : Lib.Utf8Tabs 4 5 w) (h1 : 1 ≤ o.kind) (h2 : o.kind ≤ 11) :
    Calls Tryz.prog (isF o.kind) #[.agg #[.int .i64 id], nodeV o (.slice A n c)] w fun e w' => e = .returned (.bool (ownB o l)) ∧ Below w.heap.size w w' := by
  obtain ⟨kind, b, neg, dg, ex, u, wd, s⟩ := o
  simp only [] at h1 h2 ⊢
  have : kind = 1 ∨ kind = 2 ∨ kind = 3 ∨ kind = 4 ∨ kind = 5 ∨ kind = 6 ∨ kind = 7 ∨ kind = 8 ∨ kind = 9 ∨ kind = 10 ∨ kind = 11 := by omega
  rcases this with rfl | rfl | rfl | rfl | rfl | rfl | rfl | rfl | rfl | rfl | rfl
  · refine (is_Null id 1 b neg dg ex u wd s A n c w).mono ?_
    rintro e w' ⟨rfl, hb⟩
    refine ⟨ret_bool ?_, hb⟩
    unfold ownB
    rw [hn]
    simp only []
    simp
  · refine (is_Bool id 2 b neg dg ex u wd s A n c w).mono ?_
    rintro e w' ⟨rfl, hb⟩
    refine ⟨ret_bool ?_, hb⟩
    unfold ownB
    rw [hn]
    simp only []
    simp
  · refine (is_Num id 3 b neg dg ex u wd s A n c w ho.dg).mono ?_
    rintro e w' ⟨rfl, hb⟩
    refine ⟨ret_bool ?_, hb⟩
    unfold ownB
    rw [hn]
    simp only []
    simp [Bool.and_assoc]
  · refine (is_Float id 4 b neg dg ex u wd s A n c w ho.u).mono ?_
    rintro e w' ⟨rfl, hb⟩
    refine ⟨ret_bool ?_, hb⟩
    unfold ownB
    rw [hn]
    simp only []
    simp [Bool.and_assoc]
  · refine (is_Text id 5 b neg dg ex u wd s A n c w ho.s hT).mono ?_
    rintro e w' ⟨rfl, hb⟩
    refine ⟨ret_bool ?_, hb⟩
    unfold ownB
    rw [hn]
    simp only []
    simp [Bool.and_assoc]
  · refine (is_Bytes id 6 b neg dg ex u wd s A n c w).mono ?_
    rintro e w' ⟨rfl, hb⟩
    refine ⟨ret_bool ?_, hb⟩
    unfold ownB
    rw [hn]
    simp only []
    simp [Bool.and_assoc]
  · refine (is_Array id 7 b neg dg ex u wd s A n c w).mono ?_
    rintro e w' ⟨rfl, hb⟩
    refine ⟨ret_bool ?_, hb⟩
    unfold ownB
    rw [hn]
    simp only []
    simp
  · refine (is_Map id 8 b neg dg ex u wd s l A n c w B d hl hB hn hc).mono ?_
    rintro e w' ⟨rfl, hb⟩
    refine ⟨ret_bool ?_, hb⟩
    unfold ownB
    rw [hn]
    simp only []
    simp
  · refine (is_Tag id 9 b neg dg ex u wd s A n c w).mono ?_
    rintro e w' ⟨rfl, hb⟩
    refine ⟨ret_bool ?_, hb⟩
    unfold ownB
    rw [hn]
    simp only []
    simp [Bool.and_comm]
  · refine (is_Simple id 10 b neg dg ex u wd s A n c w ho.u).mono ?_
    rintro e w' ⟨rfl, hb⟩
    refine ⟨ret_bool ?_, hb⟩
    unfold ownB
    rw [hn]
    simp only []
    simp [Bool.and_assoc]
  · refine (is_Ext id 11 b neg dg ex u wd s A n c w).mono ?_
    rintro e w' ⟨rfl, hb⟩
    refine ⟨ret_bool ?_, hb⟩
    unfold ownB
    rw [hn]
    simp only []
    simp [Bool.and_assoc]
end Go.Proofs.YtfckekaegjjmkaaGreatDoor
namespace Go.Proofs.YtfckekaegjjmkaaGreatDoor
open Go.RowKit Go.Shelf

set_option maxHeartbeats 2000000 in
set_option maxRecDepth 100000 in
theorem tree_Depth (d : Nat) : ∀ (t : Tr) (x : Value) (w : World) (B : Nat), ListAt w B d t.kids x → B ≤ w.heap.size → t.count ≤ 1000000000000 →
    Calls Tryz.prog 30 #[nodeV t.own x] w fun e w' => e = .returned (.int .i64 (t.depth : Nat)) ∧ Below w.heap.size w w' := by
  induction d using Nat.strongRecOn with
  | _ d ih =>
  intro t x w B hl hB hc
  obtain ⟨hlen, A, c, rfl⟩ := hl.slice
  have hdc := depth_count t
  rw [Tr.depth_eq] at hdc ⊢
  have hkc : ∀ l, t.kids = l → ∀ k (h : k < l.length), l[k].count ≤ 1000000000000 := by
    rintro _ rfl k h
    have := Tr.count_eq t
    have h1 := countL_take t.kids k h
    have h2 := countL_mono t.kids (k + 1)
    omega
  obtain ⟨l, hkl⟩ : ∃ l, t.kids = l := ⟨_, rfl⟩
  have hkc := hkc l hkl
  rw [hkl] at hl hlen hdc ⊢
  obtain ⟨n, hn⟩ : ∃ n, l.length = n := ⟨_, rfl⟩
  rw [hn] at hl hlen ⊢
  obtain ⟨⟨kind, b, neg, dg, ex, u, wd, s⟩, ho⟩ : ∃ o, t.own = o := ⟨_, rfl⟩
  rw [ho]
  unfold nodeV
  have HL := Lib.hid hl
  have IH := Lib.hid ih
  have HKC := Lib.hid hkc
  have hbx := (Below.refl w.heap.size w).alloc (Nat.le_refl _) (.cells #[.int .i64 kind, .bool b, .bool neg, .string dg, .int .i64 ex, .int .u64 u, .int .i64 wd, .string s, .slice A n c] 27)
  have hBx : Blk (w.alloc (.cells #[.int .i64 kind, .bool b, .bool neg, .string dg, .int .i64 ex, .int .u64 u, .int .i64 wd, .string s, .slice A n c] 27)) w.heap.size #[.int .i64 kind, .bool b, .bool neg, .string dg, .int .i64 ex, .int .u64 u, .int .i64 wd, .string s, .slice A n c] 27 := Blk.new _ _ _
  have hd2 : depthL l + 1 ≤ 1000000000000 := by omega
  clear hl ih ho hkl hkc hdc hc
  simp only []
  have hf0 := hBx.cell 8
  go_enter Tryz.func30, Tryz.ntmps30
  go_wp2_with fail
  go_loopw [3, 9] (fun m i wr => ∃ k : Nat, k ≤ n ∧ i = .int .i64 k ∧ m = .int .i64 ((depthL (l.take k) : Nat) : Int) ∧ Below w.heap.size w wr) (fun _ i _ => n - (intOf i).toNat)
  case atStart => exact ⟨0, by omega, rfl, rfl, hbx⟩
  case round =>
    obtain ⟨k, hk, rfl, rfl, hbw⟩ := hrel
    by_cases hlt : k < n
    · have hkl : k < l.length := by omega
      obtain ⟨d', ad, x', hdd, rfl, hab, hok, hna, hkk⟩ := (HL.out.below hbw hB).at_ hkl
      obtain ⟨_, A2, c2, rfl⟩ := hkk.slice
      obtain ⟨n2, hn2⟩ : ∃ n2, l[k].kids.length = n2 := ⟨_, rfl⟩
      rw [hn2] at hna hkk
      have htk := depthL_take l k hkl
      have hba : Below wr.heap.size wr (wr.alloc (.cells (cellsV l[k].own (.slice A2 n2 c2)) 27)) := (Below.refl _ _).alloc (Nat.le_refl _) _
      have hba2 := hbw.trans (hba.mono hbw.size)
      have hkb := Blk.new wr (cellsV l[k].own (.slice A2 n2 c2)) 27
      have HC := IH.out d' (by omega) l[k] (.slice A2 n2 c2) _ B (hkk.below hba (Nat.le_trans hB hbw.size)) (Nat.le_trans hB hba2.size) (HKC.out k hkl)
      obtain ⟨m0, hm0⟩ : ∃ m0, depthL (l.take k) = m0 := ⟨_, rfl⟩
      obtain ⟨m1, hm1⟩ : ∃ m1, l[k].depth = m1 := ⟨_, rfl⟩
      rw [hm0, hm1] at htk
      rw [hm1] at HC
      obtain ⟨⟨kind', b', neg', dg', ex', u', wd', s'⟩, ho'⟩ : ∃ o, l[k].own = o := ⟨_, rfl⟩
      rw [ho'] at HC hna hkb hba2
      unfold nodeV at HC
      unfold cellsV at HC hkb hba2
      obtain ⟨k0, k1, k2, k3, k4, k5, k6, k7, k8⟩ := hna
      simp only [] at k0 k1 k2 k3 k4 k5 k6 k7 k8 HC hkb hba2
      have z0 := hkb.cell 0
      have z1 := hkb.cell 1
      have z2 := hkb.cell 2
      have z3 := hkb.cell 3
      have z4 := hkb.cell 4
      have z5 := hkb.cell 5
      have z6 := hkb.cell 6
      have z7 := hkb.cell 7
      have z8 := hkb.cell 8
      have HC := Lib.hid HC
      have HT := Lib.hid htk
      rw [hm0]
      have y1 : (k : Int) < n := by omega
      have y2 : max (m0 : Int) (m1 : Int) = ((max m0 m1 : Nat) : Int) := by omega
      clear htk hm0 hm1 ho' hkk hok hdd hba hn2
      go_wp2_with fail
      refine HC.out.mono ?_
      rintro e w2 ⟨rfl, hb2⟩
      have hb3 := hba2.trans (hb2.mono hba2.size)
      clear hb2 HC hkb k0 k1 k2 k3 k4 k5 k6 k7 k8 z0 z1 z2 z3 z4 z5 z6 z7 z8
      go_wp2_with fail
      go_roundw
      case rel => exact ⟨k + 1, by omega, by go_num, by first | (rw [HT.out]; done) | (rw [HT.out]; exact congrArg (Value.int .i64) (by omega)), hb3⟩
      case measure => simp [intOf]; omega
    · obtain rfl : k = n := by omega
      have y1 : ¬ (k : Int) < k := by omega
      have hf : l.take k = l := by rw [← hn, List.take_length]
      rw [hf]
      clear hn hf
      go_wp2_with fail
      go_ret
      exact ⟨by go_num, hbw⟩
end Go.Proofs.YtfckekaegjjmkaaGreatDoor
