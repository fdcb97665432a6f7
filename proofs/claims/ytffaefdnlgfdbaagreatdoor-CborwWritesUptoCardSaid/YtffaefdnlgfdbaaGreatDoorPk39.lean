/- The texts CbD, put together. -/
import Derived.Test.YtffaefdnlgfdbaaGreatDoorPk37
import Derived.Test.YtffaefdnlgfdbaaGreatDoorPk28
/- cborw: the map of forms, its lookup; the iterator over a list's nodes. Printed by gen_cbd.py. -/
namespace Go.Proofs.YtffaefdnlgfdbaaGreatDoor
open Go.RowKit Go.Shelf

def formsE (p : Nat) : Array MapEntry := #[⟨.int .i64 1, .func (.func 69) #[.pointer (some ⟨p, 0, none⟩)] #[], 0⟩, ⟨.int .i64 2, .func (.func 70) #[.pointer (some ⟨p, 0, none⟩)] #[], 1⟩, ⟨.int .i64 3, .func (.func 71) #[.pointer (some ⟨p, 0, none⟩)] #[], 2⟩, ⟨.int .i64 4, .func (.func 72) #[.pointer (some ⟨p, 0, none⟩)] #[], 3⟩, ⟨.int .i64 5, .func (.func 73) #[.pointer (some ⟨p, 0, none⟩)] #[], 4⟩, ⟨.int .i64 6, .func (.func 74) #[.pointer (some ⟨p, 0, none⟩)] #[], 5⟩, ⟨.int .i64 7, .func (.func 75) #[.pointer (some ⟨p, 0, none⟩)] #[], 6⟩, ⟨.int .i64 8, .func (.func 76) #[.pointer (some ⟨p, 0, none⟩)] #[], 7⟩, ⟨.int .i64 9, .func (.func 77) #[.pointer (some ⟨p, 0, none⟩)] #[], 8⟩, ⟨.int .i64 10, .func (.func 78) #[.pointer (some ⟨p, 0, none⟩)] #[], 9⟩]

set_option maxHeartbeats 4000000 in
set_option maxRecDepth 100000 in
theorem w_forms (p : Nat) (w : World) :
    Calls Tryz.prog 39 #[.pointer (some ⟨p, 0, none⟩)] w fun e w' => e = .returned (.map (some w.heap.size)) ∧ w' = w.alloc (.map (formsE p) 10) := by
  have h0 := run_makeMap (P := Tryz.prog) 75 w
  have hi := run_insI w 75 3 78 Tryz.underlying75 Tryz.underlying3
  have g1 := hi #[] 0 1 (.func (.func 69) #[.pointer (some ⟨p, 0, none⟩)] #[]) rfl
  have g2 := hi #[⟨.int .i64 1, .func (.func 69) #[.pointer (some ⟨p, 0, none⟩)] #[], 0⟩] 1 2 (.func (.func 70) #[.pointer (some ⟨p, 0, none⟩)] #[]) rfl
  have g3 := hi #[⟨.int .i64 1, .func (.func 69) #[.pointer (some ⟨p, 0, none⟩)] #[], 0⟩, ⟨.int .i64 2, .func (.func 70) #[.pointer (some ⟨p, 0, none⟩)] #[], 1⟩] 2 3 (.func (.func 71) #[.pointer (some ⟨p, 0, none⟩)] #[]) rfl
  have g4 := hi #[⟨.int .i64 1, .func (.func 69) #[.pointer (some ⟨p, 0, none⟩)] #[], 0⟩, ⟨.int .i64 2, .func (.func 70) #[.pointer (some ⟨p, 0, none⟩)] #[], 1⟩, ⟨.int .i64 3, .func (.func 71) #[.pointer (some ⟨p, 0, none⟩)] #[], 2⟩] 3 4 (.func (.func 72) #[.pointer (some ⟨p, 0, none⟩)] #[]) rfl
  have g5 := hi #[⟨.int .i64 1, .func (.func 69) #[.pointer (some ⟨p, 0, none⟩)] #[], 0⟩, ⟨.int .i64 2, .func (.func 70) #[.pointer (some ⟨p, 0, none⟩)] #[], 1⟩, ⟨.int .i64 3, .func (.func 71) #[.pointer (some ⟨p, 0, none⟩)] #[], 2⟩, ⟨.int .i64 4, .func (.func 72) #[.pointer (some ⟨p, 0, none⟩)] #[], 3⟩] 4 5 (.func (.func 73) #[.pointer (some ⟨p, 0, none⟩)] #[]) rfl
  have g6 := hi #[⟨.int .i64 1, .func (.func 69) #[.pointer (some ⟨p, 0, none⟩)] #[], 0⟩, ⟨.int .i64 2, .func (.func 70) #[.pointer (some ⟨p, 0, none⟩)] #[], 1⟩, ⟨.int .i64 3, .func (.func 71) #[.pointer (some ⟨p, 0, none⟩)] #[], 2⟩, ⟨.int .i64 4, .func (.func 72) #[.pointer (some ⟨p, 0, none⟩)] #[], 3⟩, ⟨.int .i64 5, .func (.func 73) #[.pointer (some ⟨p, 0, none⟩)] #[], 4⟩] 5 6 (.func (.func 74) #[.pointer (some ⟨p, 0, none⟩)] #[]) rfl
  have g7 := hi #[⟨.int .i64 1, .func (.func 69) #[.pointer (some ⟨p, 0, none⟩)] #[], 0⟩, ⟨.int .i64 2, .func (.func 70) #[.pointer (some ⟨p, 0, none⟩)] #[], 1⟩, ⟨.int .i64 3, .func (.func 71) #[.pointer (some ⟨p, 0, none⟩)] #[], 2⟩, ⟨.int .i64 4, .func (.func 72) #[.pointer (some ⟨p, 0, none⟩)] #[], 3⟩, ⟨.int .i64 5, .func (.func 73) #[.pointer (some ⟨p, 0, none⟩)] #[], 4⟩, ⟨.int .i64 6, .func (.func 74) #[.pointer (some ⟨p, 0, none⟩)] #[], 5⟩] 6 7 (.func (.func 75) #[.pointer (some ⟨p, 0, none⟩)] #[]) rfl
  have g8 := hi #[⟨.int .i64 1, .func (.func 69) #[.pointer (some ⟨p, 0, none⟩)] #[], 0⟩, ⟨.int .i64 2, .func (.func 70) #[.pointer (some ⟨p, 0, none⟩)] #[], 1⟩, ⟨.int .i64 3, .func (.func 71) #[.pointer (some ⟨p, 0, none⟩)] #[], 2⟩, ⟨.int .i64 4, .func (.func 72) #[.pointer (some ⟨p, 0, none⟩)] #[], 3⟩, ⟨.int .i64 5, .func (.func 73) #[.pointer (some ⟨p, 0, none⟩)] #[], 4⟩, ⟨.int .i64 6, .func (.func 74) #[.pointer (some ⟨p, 0, none⟩)] #[], 5⟩, ⟨.int .i64 7, .func (.func 75) #[.pointer (some ⟨p, 0, none⟩)] #[], 6⟩] 7 8 (.func (.func 76) #[.pointer (some ⟨p, 0, none⟩)] #[]) rfl
  have g9 := hi #[⟨.int .i64 1, .func (.func 69) #[.pointer (some ⟨p, 0, none⟩)] #[], 0⟩, ⟨.int .i64 2, .func (.func 70) #[.pointer (some ⟨p, 0, none⟩)] #[], 1⟩, ⟨.int .i64 3, .func (.func 71) #[.pointer (some ⟨p, 0, none⟩)] #[], 2⟩, ⟨.int .i64 4, .func (.func 72) #[.pointer (some ⟨p, 0, none⟩)] #[], 3⟩, ⟨.int .i64 5, .func (.func 73) #[.pointer (some ⟨p, 0, none⟩)] #[], 4⟩, ⟨.int .i64 6, .func (.func 74) #[.pointer (some ⟨p, 0, none⟩)] #[], 5⟩, ⟨.int .i64 7, .func (.func 75) #[.pointer (some ⟨p, 0, none⟩)] #[], 6⟩, ⟨.int .i64 8, .func (.func 76) #[.pointer (some ⟨p, 0, none⟩)] #[], 7⟩] 8 9 (.func (.func 77) #[.pointer (some ⟨p, 0, none⟩)] #[]) rfl
  have g10 := hi #[⟨.int .i64 1, .func (.func 69) #[.pointer (some ⟨p, 0, none⟩)] #[], 0⟩, ⟨.int .i64 2, .func (.func 70) #[.pointer (some ⟨p, 0, none⟩)] #[], 1⟩, ⟨.int .i64 3, .func (.func 71) #[.pointer (some ⟨p, 0, none⟩)] #[], 2⟩, ⟨.int .i64 4, .func (.func 72) #[.pointer (some ⟨p, 0, none⟩)] #[], 3⟩, ⟨.int .i64 5, .func (.func 73) #[.pointer (some ⟨p, 0, none⟩)] #[], 4⟩, ⟨.int .i64 6, .func (.func 74) #[.pointer (some ⟨p, 0, none⟩)] #[], 5⟩, ⟨.int .i64 7, .func (.func 75) #[.pointer (some ⟨p, 0, none⟩)] #[], 6⟩, ⟨.int .i64 8, .func (.func 76) #[.pointer (some ⟨p, 0, none⟩)] #[], 7⟩, ⟨.int .i64 9, .func (.func 77) #[.pointer (some ⟨p, 0, none⟩)] #[], 8⟩] 9 10 (.func (.func 78) #[.pointer (some ⟨p, 0, none⟩)] #[]) rfl
  clear hi
  simp only [List.push_toArray, List.cons_append, List.nil_append, Nat.zero_add, Nat.reduceAdd] at g1 g2 g3 g4 g5 g6 g7 g8 g9 g10
  go_enter Tryz.func39, Tryz.ntmps39
  go_wp2
  go_ret
  exact ⟨rfl, rfl⟩

/-- The writer of a kind. -/
def wrF (k : Int) : FuncId := if k = 1 then 69 else if k = 2 then 70 else if k = 3 then 71 else if k = 4 then 72 else if k = 5 then 73 else if k = 6 then 74 else if k = 7 then 75 else if k = 8 then 76 else if k = 9 then 77 else 78
theorem forms_find (p : Nat) (k : Int) (h1 : 1 ≤ k) (h2 : k ≤ 10) : ∃ i, Instr.findNow (.int .i64) (.int .i64 k) (formsE p).toList 0 = some (some (i, .func (.func (wrF k)) #[.pointer (some ⟨p, 0, none⟩)] #[])) := by
  have : k = 1 ∨ k = 2 ∨ k = 3 ∨ k = 4 ∨ k = 5 ∨ k = 6 ∨ k = 7 ∨ k = 8 ∨ k = 9 ∨ k = 10 := by omega
  rcases this with rfl | rfl | rfl | rfl | rfl | rfl | rfl | rfl | rfl | rfl <;> exact ⟨_, rfl⟩

set_option maxRecDepth 100000 in
theorem forms_look (p : Nat) (w : World) (b : Nat) (hm : w.heap[b]? = some (.map (formsE p) 10)) (k : Int) (h1 : 1 ≤ k) (h2 : k ≤ 10) :
    (Instr.lookup 75 (.map (some b)) (.int .i64 k) true).run Tryz.prog w = .ok (.tuple #[.func (.func (wrF k)) #[.pointer (some ⟨p, 0, none⟩)] #[], .bool true]) w := by
  obtain ⟨i, hf⟩ := forms_find p k h1 h2
  have q1 : (Instr.findKey 3 (.int .i64 k) (formsE p).toList).run Tryz.prog w = .ok (some (i, .func (.func (wrF k)) #[.pointer (some ⟨p, 0, none⟩)] #[])) w := MapKept.run_findKey Tryz.underlying3 hf
  have q2 : (Instr.checkKey (formsE p).isEmpty 10000 3 (.int .i64 k)).run Tryz.prog w = .ok () w := by
    unfold Instr.checkKey
    simp [run_underlying Tryz.underlying3]
  simp only [Instr.lookup, Sem.run_bind, run_underlying Tryz.underlying75, Result.andThen, MapKept.run_getObj_map hm, q2, q1, Sem.run_pure]
  rfl
set_option maxRecDepth 100000 in
theorem wrF_enters (k : Int) (h1 : 1 ≤ k) (h2 : k ≤ 10) (args : Array Value) (w : World) : (callFunc (wrF k) args).run Tryz.prog w = .ok (.enter (wrF k) args) w := by
  have : k = 1 ∨ k = 2 ∨ k = 3 ∨ k = 4 ∨ k = 5 ∨ k = 6 ∨ k = 7 ∨ k = 8 ∨ k = 9 ∨ k = 10 := by omega
  rcases this with rfl | rfl | rfl | rfl | rfl | rfl | rfl | rfl | rfl | rfl
  · exact enters_of Tryz.func69 (by kernel_rfl) rfl args w
  · exact enters_of Tryz.func70 (by kernel_rfl) rfl args w
  · exact enters_of Tryz.func71 (by kernel_rfl) rfl args w
  · exact enters_of Tryz.func72 (by kernel_rfl) rfl args w
  · exact enters_of Tryz.func73 (by kernel_rfl) rfl args w
  · exact enters_of Tryz.func74 (by kernel_rfl) rfl args w
  · exact enters_of Tryz.func75 (by kernel_rfl) rfl args w
  · exact enters_of Tryz.func76 (by kernel_rfl) rfl args w
  · exact enters_of Tryz.func77 (by kernel_rfl) rfl args w
  · exact enters_of Tryz.func78 (by kernel_rfl) rfl args w

theorem w_nodes (p : Value) (A : Option Addr) (n c : Nat) (w : World) :
    Calls Tryz.prog 40 #[p, .slice A n c] w fun e w' => e = .returned (.func (.func 79) #[] #[.pointer (some ⟨w.heap.size, 0, none⟩)]) ∧ w.alloc (.cells #[.slice A n c] 25) = w' := by
  go_enter Tryz.func40, Tryz.ntmps40
  go_wp2
  go_ret
  exact ⟨rfl, rfl⟩

/-- What a round keeps: what lies below n, and all cells but the builder's and rows of bytes. -/
def KpW (p n : Nat) (A B : World) : Prop := A.heap.size ≤ B.heap.size ∧ (∀ q, q < n → B.heap[q]? = A.heap[q]?) ∧ ∀ (q : Nat) (cs : Array Value) (t : TypeId) (fr : Nat × Nat), A.heap[q]? = some (.cells cs t fr) → t ≠ 5 → q ≠ p → B.heap[q]? = some (.cells cs t fr)
theorem KpW.trans {p n : Nat} {A B C : World} (h : KpW p n A B) (k : KpW p n B C) : KpW p n A C :=
  ⟨Nat.le_trans h.1 k.1, fun q hq => (k.2.1 q hq).trans (h.2.1 q hq), fun q cs t fr ho ht hp => k.2.2 q cs t fr (h.2.2 q cs t fr ho ht hp) ht hp⟩
theorem KpW.refl (p n : Nat) (A : World) : KpW p n A A := ⟨Nat.le_refl _, fun _ _ => rfl, fun _ _ _ _ h _ _ => h⟩
theorem KpW.below {p n : Nat} {A B : World} (h : Below A.heap.size A B) (hn : n ≤ A.heap.size) : KpW p n A B :=
  ⟨h.size, fun q hq => h.block q (by omega), fun q cs t fr ho _ _ => (h.block q (Array.getElem?_eq_some_iff.1 ho).1).trans ho⟩
theorem KpW.putObj {p n : Nat} (W : World) (l : Nat) (o o' : Obj) (hl : n ≤ l) (h : W.heap[l]? = some o) (ho : o.isCells = false) : KpW p n W (W.putObj l o') := by
  refine ⟨?_, fun q hq => World.putObj_heap_other (by omega), fun q cs t fr hp _ _ => ?_⟩
  · exact (grownBy_putObj' W l o').size
  · refine (World.putObj_heap_other ?_).trans hp
    rintro rfl
    rw [h] at hp
    cases hp
    cases ho
theorem KpW.of {p B : Nat} {l : List UInt8} {W W' : World} (h : WP B p l W W') (hz : W.heap.size ≤ W'.heap.size) : KpW p B W W' :=
  ⟨hz, fun q hq => h.below.block q hq, fun q cs t fr ho ht hp => h.others q _ ho (fun e => hp (by cases e; rfl)) (fun c fz e => by cases e; exact ht rfl)⟩

section
attribute [local go_sem] Oper.semAt_some wide_fn wide_depth
set_option maxHeartbeats 4000000 in
set_option maxRecDepth 100000 in
theorem wnodes_seq (bn p B B0 d : Nat) (l : List Tr) (A : Option Addr) (n c : Nat) (w0 : World) (hB0 : B0 ≤ B) (hBw : B ≤ w0.heap.size) (hb : Blk w0 bn #[.slice A n c] 25) (hl : ListAt w0 B0 d l (.slice A n c)) (hn : l.length = n) :
    SeqW Tryz.prog 79 #[.pointer (some ⟨bn, 0, none⟩)] encN MvB (KpW p B) (fun _ => True) (fun xs _ => xs.map Prod.fst <+: l ∧ AllG w0 B0 xs) (fun xs _ => xs.map Prod.fst = l ∧ AllG w0 B0 xs) (fun pre _ => pre.map Prod.fst <+: l ∧ AllG w0 B0 pre) (fun W => Below w0.heap.size w0 W) := by
  intro l0 J Jx W hW hJ hJx hY h0
  have hbW := hb.below hW hb.lt
  have z0 := hbW.cell 0
  have hlen := hl.slice.1
  rw [hn] at hlen
  have HL := Lib.hid hl
  have HY := Lib.hid hY
  have HJ := Lib.hid hJ
  have HN := Lib.hid hn
  have HW := Lib.hid hW
  have H0 := Lib.hid h0
  clear hY hJ hJx hl hb hbW hn hW h0
  refine callsIn_of_wp Tryz.func79 rfl trivial ?_ rfl
  simp only [Tryz.ntmps79, List.size_toArray, List.length_cons, List.length_nil, Nat.reduceAdd, Nat.reduceSub, Array.replicate_succ, Array.replicate_zero, List.push_toArray, List.append_toArray, List.nil_append, List.cons_append]
  gi_wp2_with fail
  gi_loopw [7] (fun i wr => ∃ k : Nat, k ≤ n ∧ i = .int .i64 k ∧ (∃ ys : List TV, ys.map Prod.fst = l.take k ∧ AllG w0 B0 ys ∧ J ys wr) ∧ (∀ q, q < B0 → wr.heap[q]? = w0.heap[q]?) ∧ B ≤ wr.heap.size) (fun i _ => n - (intOf i).toNat)
  case atStart => exact ⟨0, by omega, rfl, ⟨[], by simp, fun s hs => absurd hs (by simp), H0.out⟩, fun q hq => HW.out.block q (by omega), Nat.le_trans hBw HW.out.size⟩
  case round =>
    obtain ⟨k, hk, rfl, ⟨ys, hm, hgy, hjy⟩, hkr, hzr⟩ := hrel
    clear z0 H0
    by_cases hlt : k < n
    · have hkl : k < l.length := by rw [HN.out]; exact hlt
      obtain ⟨d', ad, x', hdd, rfl, hab, hok, hna, hkk⟩ := HL.out.at_ hkl
      obtain ⟨_, A2, c2, rfl⟩ := hkk.slice
      have hgood : GoodN w0 B0 (l[k], .slice A2 l[k].kids.length c2) := ⟨hok, d', hkk⟩
      have hna := hna.keep (W' := wr) (by rw [add_block]; exact hkr _ hab)
      have hba : Below wr.heap.size wr (wr.alloc (.cells (cellsV l[k].own (.slice A2 l[k].kids.length c2)) 27)) := (Below.refl _ _).alloc (Nat.le_refl _) _
      have hkb := Blk.new wr (cellsV l[k].own (.slice A2 l[k].kids.length c2)) 27
      have hmap : (ys ++ [(l[k], Value.slice A2 l[k].kids.length c2)]).map Prod.fst = l.take (k + 1) := by
        rw [List.map_append, hm, List.take_succ_eq_append_getElem hkl]
        rfl
      have hT : (ys ++ [(l[k], Value.slice A2 l[k].kids.length c2)]).map Prod.fst <+: l ∧ AllG w0 B0 (ys ++ [(l[k], Value.slice A2 l[k].kids.length c2)]) := ⟨by rw [hmap]; exact List.take_prefix _ _, hgy.append (AllG.one hgood)⟩
      have hcall := HY.out ys (l[k], .slice A2 l[k].kids.length c2) _ (HJ.out _ _ _ hjy hba) hT
      obtain ⟨n2, hn2⟩ : ∃ n2, l[k].kids.length = n2 := ⟨_, rfl⟩
      rw [hn2] at hmap hT
      have HT := Lib.hid hT
      have HM := Lib.hid hmap
      unfold encN at hcall
      obtain ⟨⟨kind', b', neg', dg', ex', u', wd', s'⟩, ho2⟩ : ∃ o, l[k].own = o := ⟨_, rfl⟩
      simp only [ho2, hn2] at hcall hkb hna
      have hkz : ∀ q, q < B0 → (wr.alloc (.cells (cellsV l[k].own (.slice A2 l[k].kids.length c2)) 27)).heap[q]? = w0.heap[q]? := fun q hq => (hba.block q (by omega)).trans (hkr q hq)
      have HKZ := Lib.hid hkz
      have HBA := Lib.hid hba.size
      simp only [ho2, hn2] at HKZ HBA
      unfold nodeV at hcall
      unfold cellsV at hcall hkb HKZ HBA
      obtain ⟨k0, k1, k2, k3, k4, k5, k6, k7, k8⟩ := hna
      simp only [] at k0 k1 k2 k3 k4 k5 k6 k7 k8 hcall hkb HKZ HBA
      have z0 := hkb.cell 0
      have z1 := hkb.cell 1
      have z2 := hkb.cell 2
      have z3 := hkb.cell 3
      have z4 := hkb.cell 4
      have z5 := hkb.cell 5
      have z6 := hkb.cell 6
      have z7 := hkb.cell 7
      have z8 := hkb.cell 8
      obtain ⟨fn, tmps, assign, body, hy, hR⟩ := hcall
      have y1 : (k : Int) < n := by omega
      clear hT hmap hgood hkb hkk hok hdd ho2 hn2 hjy hgy hm hba hkz hkr
      gi_wp2_with fail
      refine hR.mono ?_
      rintro e W3 (⟨rfl, _, hJ3, hk3⟩ | ⟨rfl, hJx3⟩)
      · have hkr3 : ∀ q, q < B0 → W3.heap[q]? = w0.heap[q]? := fun q hq => (hk3.2.1 q (by omega)).trans (HKZ.out q hq)
        have hz3 : B ≤ W3.heap.size := Nat.le_trans hzr (Nat.le_trans HBA.out hk3.1)
        clear hR hy hk3 k0 k1 k2 k3 k4 k5 k6 k7 k8 z0 z1 z2 z3 z4 z5 z6 z7 z8
        gi_wp2_with fail
        go_roundw
        case rel => exact ⟨k + 1, by omega, by go_num, ⟨_, HM.out, HT.out.2, hJ3⟩, hkr3, hz3⟩
        case measure => simp [intOf]; omega
      · clear hR hy k0 k1 k2 k3 k4 k5 k6 k7 k8 z0 z1 z2 z3 z4 z5 z6 z7 z8
        gi_wp2_with fail
        refine bodyPost_ret (results_none rfl _ _ _) rfl ?_
        exact ⟨⟨_, rfl⟩, .inr ⟨_, HT.out, hJx3⟩⟩
    · obtain rfl : k = n := by omega
      have y1 : ¬ (k : Int) < k := by omega
      have hf : l.take k = l := by rw [← HN.out, List.take_length]
      rw [hf] at hm
      gi_wp2_with fail
      go_end0
      exact ⟨⟨_, rfl⟩, .inl ⟨_, ⟨hm, hgy⟩, hjy⟩⟩
end
end Go.Proofs.YtffaefdnlgfdbaaGreatDoor
