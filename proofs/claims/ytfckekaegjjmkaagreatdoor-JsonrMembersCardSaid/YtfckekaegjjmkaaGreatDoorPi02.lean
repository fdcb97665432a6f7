/- The texts TreeB, TreeC, TreeD, UtfA, Str, UtfIs, UtfW, put together. -/
import Derived.Test.YtfckekaegjjmkaaGreatDoorPi01
import Derived.BigQuiet
import Derived.Deep.QuietTactic
import Derived.StillTailTactics
import Derived.Deep.AppendLies
import Derived.Laws.Rows
import Derived.Laws.Tables
import Derived.Test.YtfckekaegjjmkaaGreatDoorChecked
import Derived.IntWalk
import Derived.Laws.BitsLemmas
import Derived.Outline
import Derived.WalkKit
import Derived.LaidEql
import Derived.Stop.Asserts
import Derived.RowKitTokens
import Derived.Shelf.Unicode.ValidAny
namespace Go.Proofs.YtfckekaegjjmkaaGreatDoor
open Go.RowKit Go.Shelf

deriving instance DecidableEq for Own
mutual
def sameT : Tr → Tr → Bool
  | .nd o l, .nd o' l' => decide (o = o') && decide (l.length = l'.length) && sameL l l'
def sameL : List Tr → List Tr → Bool
  | [], _ => true
  | _ :: _, [] => true
  | t :: l, t' :: l' => sameT t t' && sameL l l'
end
theorem sameT_eq (t t' : Tr) : sameT t t' = (decide (t.own = t'.own) && decide (t.kids.length = t'.kids.length) && sameL t.kids t'.kids) := by
  cases t
  cases t'
  rw [sameT]
  rfl
mutual
theorem sameT_refl : ∀ t : Tr, sameT t t = true
  | .nd o l => by
    rw [sameT, sameL_refl l]
    simp
theorem sameL_refl : ∀ l : List Tr, sameL l l = true
  | [] => by rw [sameL]
  | t :: l => by
    rw [sameL, sameT_refl t, sameL_refl l]
    rfl
end
theorem sameL_drop : ∀ (l l' : List Tr) (k : Nat) (h : k < l.length) (h' : k < l'.length), sameL (l.drop k) (l'.drop k) = (sameT l[k] l'[k] && sameL (l.drop (k + 1)) (l'.drop (k + 1))) := by
  intro l l' k h h'
  rw [List.drop_eq_getElem_cons h, List.drop_eq_getElem_cons h', sameL]

abbrev cellsV (o : Own) (v : Value) : Array Value := #[.int .i64 o.kind, .bool o.b, .bool o.neg, .string o.dg, .int .i64 o.ex, .int .u64 o.u, .int .i64 o.wd, .string o.s, v]

theorem box2 (w : World) (cs cs' : Array Value) (t t' : TypeId) : Below w.heap.size w ((w.alloc (.cells cs t)).alloc (.cells cs' t')) ∧ Blk ((w.alloc (.cells cs t)).alloc (.cells cs' t')) w.heap.size cs t ∧ Blk ((w.alloc (.cells cs t)).alloc (.cells cs' t')) (w.heap.size + 1) cs' t' := by
  refine ⟨((Below.refl w.heap.size w).alloc (Nat.le_refl _) _).alloc (by simp) _, (Blk.new w _ _).alloc _, ?_⟩
  have := Blk.new (w.alloc (.cells cs t)) cs' t'
  rw [World.size_alloc] at this
  exact this

end Go.Proofs.YtfckekaegjjmkaaGreatDoor
namespace Go.Proofs.YtfckekaegjjmkaaGreatDoor
open Go.RowKit Go.Shelf


theorem infoNode : (Tryz.prog.info? 27).map (fun i => (i.zero, i.size, i.bytes)) = some (some (.agg #[.int .i64 0, .bool false, .bool false, .string ⟨#[]⟩, .int .i64 0, .int .u64 0, .int .i64 0, .string ⟨#[]⟩, .slice none 0 0]), 9, 104) := by kernel_rfl

theorem own_sliceT {W : World} {base size n : Nat} {e : TypeId} {v : Value} {xs : List Value} (h : W.ownsRow base e size v n xs) : ∃ A c, v = .slice A n c := by
  rcases h.2 with ⟨hv, hn⟩ | ⟨g, cap, cur, hv, _⟩
  · exact ⟨none, 0, by rw [hv, hn]⟩
  · exact ⟨_, _, hv⟩

theorem cells_newT (W : World) (cs : List Value) (t : TypeId) : ∀ j u, cs[j]? = some u → (W.alloc (.cells cs.toArray t)).cell? ((⟨W.heap.size, 0, none⟩ : Addr).add j) = some u := by
  intro j u hj
  have ea : (⟨W.heap.size, 0, none⟩ : Addr).add j = ⟨W.heap.size, j, none⟩ := by
    unfold Addr.add
    split
    · rename_i h0
      rw [h0]
    · simp
  rw [ea, (Blk.new W cs.toArray t).cell j]
  simpa using hj

end Go.Proofs.YtfckekaegjjmkaaGreatDoor
namespace Go.Proofs.YtfckekaegjjmkaaGreatDoor
open Go.RowKit Go.Shelf

theorem blk_row {W : World} {p : Nat} {cs : Array Value} {t : TypeId} (h : Blk W p cs t) (cs' : Array Value) : Blk (W.setRow p cs') p cs' t := setRow_heap _ _ _ _ _ _ h
theorem blk_row_other {W : World} {p q : Nat} {cs : Array Value} {t : TypeId} (h : Blk W q cs t) (hne : q ≠ p) (cs' : Array Value) : Blk (W.setRow p cs') q cs t := (setRow_other _ _ _ _ hne).trans h
theorem grown_row (w : World) (p : Nat) (cs : Array Value) : w.grownBy (w.setRow p cs) (some p) :=
  ⟨rfl, rfl, rfl, by simp, fun k _ hk => setRow_other _ _ _ _ (fun e => hk (by rw [e]))⟩

end Go.Proofs.YtfckekaegjjmkaaGreatDoor
namespace Go.Proofs.YtfckekaegjjmkaaGreatDoor
open Go.RowKit Go.Shelf

def pairOk (hi lo : Int) : Bool := decide (55296 ≤ hi ∧ hi < 56320 ∧ 56320 ≤ lo ∧ lo ≤ 57343)
def pairOf (hi lo : Int) : Int := if pairOk hi lo then 65536 + (hi - 55296) * 1024 + lo - 56320 else 0

theorem wraps_i32 : ∀ n : Int, 0 ≤ n → n < 2 ^ 31 → IntKind.i32.wrap n = n := fun n h0 h1 => IntWalk.i32_in n (by omega)

set_option maxRecDepth 100000 in
set_option maxHeartbeats 1000000 in
theorem utf_Pair (hi lo : Int) (h0 : 0 ≤ hi ∧ hi < 65536) (l0 : 0 ≤ lo ∧ lo < 65536) (w : World) :
    Calls Tryz.prog 246 #[.int .u16 hi, .int .u16 lo] w fun e w' => e = .returned (.tuple #[.int .i32 (pairOf hi lo), .bool (pairOk hi lo)]) ∧ w = w' := by
  unfold pairOf
  by_cases h : pairOk hi lo = true
  · rw [if_pos h, h]
    simp only [pairOk, decide_eq_true_eq] at h
    obtain ⟨h1, h2, h3, h4⟩ := h
    go_enter Tryz.func246, Tryz.ntmps246
    go_wp2
    go_ret2
    exact ⟨rfl, rfl⟩
  · rw [if_neg h, Bool.eq_false_iff.2 h]
    simp only [pairOk, decide_eq_true_eq] at h
    by_cases h1 : hi < 55296
    · clear h
      go_enter Tryz.func246, Tryz.ntmps246
      go_wp2
      go_ret2
      exact ⟨rfl, rfl⟩
    · by_cases h2 : 56320 ≤ hi
      · clear h
        go_enter Tryz.func246, Tryz.ntmps246
        go_wp2
        go_ret2
        exact ⟨rfl, rfl⟩
      · by_cases h3 : lo < 56320
        · clear h
          go_enter Tryz.func246, Tryz.ntmps246
          go_wp2
          go_ret2
          exact ⟨rfl, rfl⟩
        · have h4 : 57343 < lo := by omega
          clear h
          go_enter Tryz.func246, Tryz.ntmps246
          go_wp2
          go_ret2
          exact ⟨rfl, rfl⟩
end Go.Proofs.YtfckekaegjjmkaaGreatDoor
namespace Go.Proofs.YtfckekaegjjmkaaGreatDoor
open Go.RowKit Go.Shelf

theorem grown_below {n p : Nat} {w w' : World} (h : w.grownBy w' (some p)) (hn : n ≤ p) (hp : p < w.heap.size) : Below n w w' :=
  ⟨h.os, h.tape, h.output, h.size, fun k hk => h.block k (by omega) (fun e => by cases e; omega)⟩
theorem below_grown {w w' : World} (h : Below w.heap.size w w') (r : Option Nat) : w.grownBy w' r := ⟨h.os, h.tape, h.output, h.size, fun k hk _ => h.block k hk⟩
theorem grown_trans {a b c : World} {r : Option Nat} (h : a.grownBy b r) (k : b.grownBy c r) : a.grownBy c r :=
  ⟨k.os.trans h.os, k.tape.trans h.tape, k.output.trans h.output, Nat.le_trans h.size k.size, fun i hi hr => (k.block i (Nat.lt_of_lt_of_le hi h.size) hr).trans (h.block i hi hr)⟩
theorem grown_set (w : World) (p i : Nat) (v : Value) : w.grownBy (w.setCell ⟨p, i, none⟩ v) (some p) :=
  ⟨rfl, rfl, rfl, by simp [World.setCell], fun k _ hk => Below.heap_setCell w ⟨p, i, none⟩ v k (fun e => hk (by rw [e]))⟩
theorem extract_list (s : ByteArray) (k : Nat) : (s.extract k s.size).data.toList = s.data.toList.drop k := by
  rw [ByteArray.data_extract, Array.toList_extract]
  simp [List.extract]
  rw [List.take_of_length_le (by simp)]
theorem str_ext {s t : ByteArray} (h : s.data.toList = t.data.toList) : s = t := by
  apply ByteArray.ext
  exact Array.toList_inj.1 h
theorem str_empty {s : ByteArray} (h : s.size = 0) : s = ⟨#[]⟩ := by
  apply ByteArray.ext
  apply Array.eq_empty_of_size_eq_zero
  exact h
theorem cell_below {w w' : World} (hb : Below w.heap.size w w') {b i : Nat} {v : Value} (h : w.cell? ⟨b, i, none⟩ = some v) : w'.cell? ⟨b, i, none⟩ = some v := by
  have hlt : b < w.heap.size := by
    apply Decidable.byContradiction
    intro hn
    have : w.heap[b]? = none := Array.getElem?_eq_none (by omega)
    simp [World.cell?, this] at h
  rw [← h]
  simp only [World.cell?, hb.block b hlt]

theorem block_below {w w' : World} (hb : Below w.heap.size w w') {b : Nat} {o : Obj} (h : w.heap[b]? = some o) : w'.heap[b]? = some o :=
  (hb.block b (Array.getElem?_eq_some_iff.1 h).1).trans h

theorem var_below {w w' : World} {n : String} {cs : Array Value} (h : w.var? Tryz.prog n = some cs) (hb : Below w.heap.size w w') : w'.var? Tryz.prog n = some cs := by
  unfold World.var? at h ⊢
  cases hg : Tryz.prog.globalNamed n with
  | none => rw [hg] at h; cases h
  | some g =>
    rw [hg] at h
    simp only [Option.bind_some] at h ⊢
    cases hh : w.heap[g]? with
    | none => rw [hh] at h; cases h
    | some o => rw [block_below hb hh]; rw [hh] at h; exact h

end Go.Proofs.YtfckekaegjjmkaaGreatDoor
namespace Go.Proofs.YtfckekaegjjmkaaGreatDoor
open Go.RowKit Go.Stop Go.Extern

theorem isTypeOf (v : Value) (w : World) : (callFunc 59 #[.iface 289 v]).run Tryz.prog w = .ok (.value (.iface 134 (.agg #[.pointer (some ⟨Tryz.prog.globals.size, 289, none⟩)]))) w := by
  rw [@run_callFunc_extern Tryz.prog 59 _ Extern.ReflectliteType.typeOf Tryz.func59 (by kernel_rfl) (by kernel_rfl) (by kernel_rfl) (by kernel_rfl)]
  kernel_rfl
theorem isComparable (w : World) : (callFunc 283 #[.agg #[.pointer (some ⟨Tryz.prog.globals.size, 289, none⟩)]]).run Tryz.prog w = .ok (.value (.bool true)) w := by
  rw [@run_callFunc_extern Tryz.prog 283 _ (Extern.ReflectliteType.method fun t => do Extern.Rtype.noPackHeld "Comparable" t; pure (.bool (← typeInfo t).comparable)) Tryz.func283 (by kernel_rfl) (by kernel_rfl) (by kernel_rfl) (by kernel_rfl)]
  kernel_rfl
theorem isMethodComparable (n : Nat) (v : Value) (w : World) : (Go.method (n + 1) 134 v "Comparable").run Tryz.prog w = .ok (283, v) w := by kernel_rfl
theorem isComp : (Tryz.prog.info? 289).map (·.comparable) = some true := by kernel_rfl
theorem isSize : (Tryz.prog.info? 291).map (·.size) = some 1 := by kernel_rfl
theorem noIsE (v : Value) (xT : TypeId) (w : World) : (Instr.typeAssert (.iface 289 v) xT 136 true).run Tryz.prog w = .ok (.tuple #[.nilIface, .bool false]) w := run_typeAssert_lacksB Tryz.underlying136 (by kernel_rfl) (by kernel_rfl) v xT w
theorem noUnwrapE (v : Value) (xT : TypeId) (w : World) : (Instr.typeAssert (.iface 289 v) xT 139 true).run Tryz.prog w = .ok (.tuple #[.nilIface, .bool false]) w := run_typeAssert_lacksB Tryz.underlying139 (by kernel_rfl) (by kernel_rfl) v xT w
theorem noUnwrapsE (v : Value) (xT : TypeId) (w : World) : (Instr.typeAssert (.iface 289 v) xT 140 true).run Tryz.prog w = .ok (.tuple #[.nilIface, .bool false]) w := run_typeAssert_lacksB Tryz.underlying140 (by kernel_rfl) (by kernel_rfl) v xT w

set_option maxRecDepth 100000 in
/-- errors.Is(x, x), x a pointer to an errors.errorString. -/
theorem is_same (a : Addr) (w : World) :
    Calls Tryz.prog 42 #[.iface 289 (.pointer (some a)), .iface 289 (.pointer (some a))] w fun e w' => e = .returned (.bool true) ∧ w' = w := by
  obtain ⟨i, hi, hcmp⟩ := Option.map_eq_some_iff.1 isComp
  obtain ⟨j, hj, hjs⟩ := Option.map_eq_some_iff.1 isSize
  have tT := isTypeOf
  have cT := isComparable
  have mR := isMethodComparable
  obtain ⟨G, hG⟩ : ∃ G, Tryz.prog.globals.size = G := ⟨_, rfl⟩
  rw [hG] at tT cT
  clear hG
  have heq := run_eql_iface_ptr_same (P := Tryz.prog) w a Tryz.underlying62 Tryz.underlying289 hi hcmp hj
  go_enter Tryz.func42, Tryz.ntmps42
  go_wp2
  refine wp_loop_rounds 1 ?_
  rw [rounds_succ]
  go_wp2
  go_ret
  exact ⟨rfl, rfl⟩

/-- errors.Is(nil, x). -/
theorem is_nil (b : Addr) (w : World) :
    Calls Tryz.prog 42 #[.nilIface, .iface 289 (.pointer (some b))] w fun e w' => e = .returned (.bool false) ∧ w' = w := by
  have hn := run_eql_iface_nil_left (P := Tryz.prog) w 289 (.pointer (some b)) Tryz.underlying62
  go_enter Tryz.func42, Tryz.ntmps42
  go_wp2
  go_ret
  exact ⟨rfl, rfl⟩

set_option maxRecDepth 100000 in
/-- errors.Is(x, y), two sentinels. -/
theorem is_other (a b : Addr) (ca cb : Array Value) (ta tb : TypeId) (w : World) (hne : a ≠ b) (ha : w.heap[a.block]? = some (.cells ca ta (0, 0))) (hb : w.heap[b.block]? = some (.cells cb tb (0, 0))) :
    Calls Tryz.prog 42 #[.iface 289 (.pointer (some a)), .iface 289 (.pointer (some b))] w fun e w' => e = .returned (.bool false) ∧ w' = w := by
  obtain ⟨i, hi, hcmp⟩ := Option.map_eq_some_iff.1 isComp
  obtain ⟨j, hj, hjs⟩ := Option.map_eq_some_iff.1 isSize
  have tT := isTypeOf
  have cT := isComparable
  have mR := isMethodComparable
  obtain ⟨G, hG⟩ : ∃ G, Tryz.prog.globals.size = G := ⟨_, rfl⟩
  rw [hG] at tT cT
  clear hG
  have nE := noIsE
  have uE := noUnwrapE
  have vE := noUnwrapsE
  have heq := run_eql_iface_ptr_other (P := Tryz.prog) w Tryz.underlying62 Tryz.underlying289 hi hcmp hj (by rw [hjs]; decide) hne ha hb
  go_enter Tryz.func42, Tryz.ntmps42
  go_wp2
  refine wp_loop_rounds 1 ?_
  rw [rounds_succ]
  go_wp2
  go_ret
  exact ⟨rfl, rfl⟩
end Go.Proofs.YtfckekaegjjmkaaGreatDoor
namespace Go.Proofs.YtfckekaegjjmkaaGreatDoor
open Go.RowKit Go.Shelf

/-- The two sentinels lie where they were laid, and Go's two tables. -/
structure UW (w : World) (aT aQ : Addr) : Prop where
  hT : w.cell? ⟨6, 0, none⟩ = some (.iface 289 (.pointer (some aT)))
  hQ : w.cell? ⟨3, 0, none⟩ = some (.iface 289 (.pointer (some aQ)))
  ne : aT ≠ aQ
  bT : ∃ c t, w.heap[aT.block]? = some (.cells c t (0, 0))
  bQ : ∃ c t, w.heap[aQ.block]? = some (.cells c t (0, 0))
  tabs : Lib.Utf8Tabs 4 5 w

theorem UW.below {w w' : World} {aT aQ : Addr} (h : UW w aT aQ) (hb : Below w.heap.size w w') : UW w' aT aQ where
  hT := cell_below hb h.hT
  hQ := cell_below hb h.hQ
  ne := h.ne
  bT := let ⟨c, t, e⟩ := h.bT; ⟨c, t, block_below hb e⟩
  bQ := let ⟨c, t, e⟩ := h.bQ; ⟨c, t, block_below hb e⟩
  tabs := Utf8Tabs_below h.tabs hb


set_option maxRecDepth 100000 in
theorem told_text {aT aQ : Addr} (w : World) (h : UW w aT aQ) : Calls Tryz.prog 185 #[.iface 289 (.pointer (some aT))] w fun e w' => e = .returned (.int .i64 20) ∧ w = w' := by
  have hT := h.hT
  have H1 := Lib.hid (is_same aT)
  clear h
  go_enter Tryz.func185, Tryz.ntmps185
  go_wp2_with fail
  refine (H1.out _).mono ?_
  rintro e w1 ⟨rfl, rfl⟩
  go_wp2_with fail
  go_ret
  exact ⟨rfl, rfl⟩

set_option maxRecDepth 100000 in
theorem told_quote {aT aQ : Addr} (w : World) (h : UW w aT aQ) : Calls Tryz.prog 185 #[.iface 289 (.pointer (some aQ))] w fun e w' => e = .returned (.int .i64 21) ∧ w = w' := by
  have hT := h.hT
  have hQ := h.hQ
  obtain ⟨c1, t1, e1⟩ := h.bT
  obtain ⟨c2, t2, e2⟩ := h.bQ
  have H1 := Lib.hid (is_other aQ aT c2 c1 t2 t1 w h.ne.symm e2 e1)
  have H2 := Lib.hid (is_same aQ)
  clear h e1 e2
  go_enter Tryz.func185, Tryz.ntmps185
  go_wp2_with fail
  refine H1.out.mono ?_
  rintro e w1 ⟨rfl, rfl⟩
  go_wp2_with fail
  refine (H2.out _).mono ?_
  rintro e w1 ⟨rfl, rfl⟩
  go_wp2_with fail
  go_ret
  exact ⟨rfl, rfl⟩
end Go.Proofs.YtfckekaegjjmkaaGreatDoor
