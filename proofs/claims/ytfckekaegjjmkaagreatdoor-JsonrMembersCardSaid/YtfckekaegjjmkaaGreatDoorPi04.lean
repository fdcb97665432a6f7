/- The texts Build, BuildR, UtfB, UtfC, Tape, UtfD, UtfE, UtfF, put together. -/
import Derived.Test.YtfckekaegjjmkaaGreatDoorPi01
import Derived.Test.YtfckekaegjjmkaaGreatDoorChecked
import Derived.Test.YtfckekaegjjmkaaGreatDoorPi03
import Derived.Shelf.Strings.BuilderRune
import Derived.Test.YtfckekaegjjmkaaGreatDoorPi02
import Derived.Laws.IdiomRangeMap
import Derived.Carry
import Derived.BigQuiet
import Derived.Deep.QuietTactic
namespace Go.Proofs.YtfckekaegjjmkaaGreatDoor
open Go.RowKit Go.Shelf

abbrev IsB (B b : Nat) (bs : List Value) (w : World) : Prop := Lib.IsBuilderF 81 5 B b bs w
abbrev AtB (B b : Nat) (bs : List Value) (w : World) : Prop := Lib.BuilderAtF 81 5 B b (.pointer (some ⟨b, 0, none⟩)) bs w
theorem AtB.is {B b : Nat} {bs : List Value} {w : World} (h : AtB B b bs w) : IsB B b bs w := .inr h

theorem sizeBuilder : (Tryz.prog.info? 81).map (·.size) = some 2 := by kernel_rfl
theorem liesBuilder : liesAt Tryz.prog Tryz.prog.depth 81 (2 / Tryz.prog.cellsOf 81) 0 81 1 = true := by kernel_rfl
theorem infoByte : (Tryz.prog.info? 5).map (fun i => (i.zero, i.size, i.bytes)) = some (some (.int .u8 0), 1, 1) := by kernel_rfl

set_option maxRecDepth 100000 in
theorem check_fresh (b : Nat) (w : World) (h0 : w.cell? ⟨b, 0, none⟩ = some (.pointer none)) (hsh : w.shape? b = some (81, 2)) (hfz : w.frozen? ⟨b, 0, none⟩ = false) :
    Calls Tryz.prog 206 #[.pointer (some ⟨b, 0, none⟩)] w fun e w' => e = .returned (.tuple #[]) ∧ w' = w.setCell ⟨b, 0, none⟩ (.pointer (some ⟨b, 0, none⟩)) := by
  obtain ⟨j, hj, hjs⟩ := Option.map_eq_some_iff.1 sizeBuilder
  go_enter Tryz.func206, Tryz.ntmps206
  go_wp2
  rw [Lib.run_to_unsafe w ⟨b, 0, none⟩ Tryz.underlying79 Tryz.underlying120 hj (by rw [hjs]; decide) hsh (Nat.zero_lt_succ 1)]
  simp only [Result.andThen]
  rw [Oper.upon_value]
  go_wp2
  rw [run_callFunc_extern Tryz.func229 (by kernel_rfl) (by kernel_rfl) (by kernel_rfl) (e := Extern.AbiNoEscape.same) (by kernel_rfl)]
  rw [Lib.run_noEscape]
  simp only [Result.andThen]
  rw [Oper.upon_value]
  go_wp2
  rw [Lib.run_from_unsafe w ⟨b, 0, none⟩ Tryz.underlying120 Tryz.underlying79 hj hsh liesBuilder]
  simp only [Result.andThen]
  rw [Oper.upon_value]
  go_wp2
  go_end0
  exact ⟨rfl, rfl⟩

set_option maxRecDepth 100000 in
theorem check_used (b : Nat) (w : World) (h0 : w.cell? ⟨b, 0, none⟩ = some (.pointer (some ⟨b, 0, none⟩))) :
    Calls Tryz.prog 206 #[.pointer (some ⟨b, 0, none⟩)] w fun e w' => e = .returned (.tuple #[]) ∧ w' = w := by
  obtain ⟨j, hj, _⟩ := Option.map_eq_some_iff.1 sizeBuilder
  go_enter Tryz.func206, Tryz.ntmps206
  go_wp2
  rw [Lib.run_neq_ptr_same w _ Tryz.underlying79 hj]
  go_wp2
  go_end0
  exact ⟨rfl, rfl⟩

theorem b_check (B b : Nat) (bs : List Value) (w : World) (h : IsB B b bs w) :
    Calls Tryz.prog 206 #[.pointer (some ⟨b, 0, none⟩)] w fun e w' => e = .returned (.tuple #[]) ∧ (AtB B b bs w' ∧ Below B w w' ∧ Lib.OthersKept 5 (some b) w w') := by
  rcases h with h | h
  · refine (check_fresh b w h.cell0 h.shape h.frozen0).mono ?_
    rintro e w' ⟨rfl, rfl⟩
    exact ⟨rfl, h.used _, (Below.refl B w).setCell (p := ⟨b, 0, none⟩) h.1 _, (Lib.OthersKept.refl _ _ w).setCell ⟨b, 0, none⟩ rfl _⟩
  · refine (check_used b w h.cell0).mono ?_
    rintro e w' ⟨rfl, rfl⟩
    exact ⟨rfl, h, Below.refl B _, Lib.OthersKept.refl _ _ _⟩


end Go.Proofs.YtfckekaegjjmkaaGreatDoor
namespace Go.Proofs.YtfckekaegjjmkaaGreatDoor
open Go.RowKit Go.Shelf

set_option maxHeartbeats 2000000 in
set_option maxRecDepth 100000 in
theorem b_WriteRune (B b : Nat) (bs : List Value) (r : Int) (hr0 : -2147483648 ≤ r) (hr1 : r ≤ 2147483647) (w : World) (h : IsB B b bs w) (hlen : bs.length + 4 ≤ 140737488355328) (hBw : B ≤ w.heap.size) :
    Calls Tryz.prog 179 #[.pointer (some ⟨b, 0, none⟩), .int .i32 r] w fun e w' => e = .returned (.tuple #[.int .i64 (Lib.runeCells r).length, .nilIface]) ∧ (AtB B b (bs ++ Lib.runeCells r) w' ∧ Below B w w' ∧ Lib.OthersKept 5 (some b) w w') := by
  have hk4 := Lib.runeCells_le r
  have HC := Lib.hid (b_check B b bs w h)
  go_enter Tryz.func179, Tryz.ntmps179
  go_wp2_with fail
  refine HC.out.mono ?_
  rintro e w1 ⟨rfl, h1, hb1, hk1⟩
  obtain ⟨hB, v, hbk, hown, hne⟩ := h1
  obtain ⟨ao, cap, rfl⟩ : ∃ ao cap, v = .slice ao bs.length cap := by
    rcases hown.2 with ⟨hv, h0⟩ | ⟨g, cap, cur, fz, hv, _⟩
    · exact ⟨none, 0, by rw [hv, h0]⟩
    · exact ⟨_, _, hv⟩
  have c0 : w1.cell? ⟨b, 0, none⟩ = some (.pointer (some ⟨b, 0, none⟩)) := by rw [Lib.cell_of_heap hbk]; rfl
  have c1 : w1.cell? ⟨b, 1, none⟩ = some (.slice ao bs.length cap) := by rw [Lib.cell_of_heap hbk]; rfl
  go_wp2_with fail
  refine (Tryz.utf8_AppendRune_row B _ bs.length bs r hr0 hr1 _ hown hlen (by have := hb1.size; omega)).mono ?_
  rintro e w2 ⟨v', rfl, hown', o, hgrow⟩
  have hlt : b < w1.heap.size := by
    rcases Nat.lt_or_ge b w1.heap.size with h' | h'
    · exact h'
    · simp [Array.getElem?_eq_none h'] at hbk
  have hb2 : w2.heap[b]? = some (.cells #[.pointer (some ⟨b, 0, none⟩), .slice ao bs.length cap] 81 (0, 0)) := by
    rw [hgrow.block b (by simp; omega) (fun e => hne e.symm), Lib.alloc_old w1 _ b hlt]
    exact hbk
  have d0 : w2.cell? ⟨b, 0, none⟩ = some (.pointer (some ⟨b, 0, none⟩)) := by rw [Lib.cell_of_heap hb2]; rfl
  have d1 : w2.cell? ⟨b, 1, none⟩ = some (.slice ao bs.length cap) := by rw [Lib.cell_of_heap hb2]; rfl
  have f1 : w2.frozen? ⟨b, 1, none⟩ = false := Lib.frozen_of_heap hb2 1
  obtain ⟨g, cap', rfl⟩ : ∃ g cap', v' = .slice (some ⟨g, 0, none⟩) (bs.length + (Lib.runeCells r).length) cap' := by
    rcases hown'.2 with ⟨_, h0⟩ | ⟨g, cap', cur, fz, hv, _⟩
    · omega
    · exact ⟨g, cap', hv⟩
  go_wp2
  go_ret2
  refine ⟨?_, ?_, ?_, ((hk1.alloc _).grown hgrow (Lib.ownsRowF_kind (hown.alloc _))).setCell ⟨b, 1, none⟩ rfl _⟩
  · have e : ((bs.length : Int) + ((Lib.runeCells r).length : Int) - (bs.length : Int)) = ((Lib.runeCells r).length : Int) := by omega
    simp [e]
  · exact Lib.BuilderAtF.put (T := 81) (e := 5) hB hb2 (bs' := bs ++ Lib.runeCells r) (by simpa using hown') (by decide)
  · exact ((hb1.alloc (by have := hb1.size; omega) _).grown hgrow (by have := hb1.size; simp; omega) (fun k hk => (hown.lt k hk).1)).setCell (p := ⟨b, 1, none⟩) hB _
end Go.Proofs.YtfckekaegjjmkaaGreatDoor
namespace Go.Proofs.YtfckekaegjjmkaaGreatDoor
open Go.RowKit Go.Shelf

def hexAll : ByteArray := ⟨#[48, 49, 50, 51, 52, 53, 54, 55, 56, 57, 97, 98, 99, 100, 101, 102]⟩
theorem hexAll_lt (d : Nat) : d % 16 < hexAll.size := Nat.mod_lt _ (by decide)
def hx (d : Nat) : UInt8 := hexAll[d % 16]'(hexAll_lt d)
def hex4 (n : Nat) : List UInt8 := [hx (n / 4096), hx (n / 256), hx (n / 16), hx n]

end Go.Proofs.YtfckekaegjjmkaaGreatDoor
namespace Go.Proofs.YtfckekaegjjmkaaGreatDoor
open Go.RowKit Go.Shelf

theorem run_ins (w : World) (t : TypeId) (kt et : TypeId) (ht : Tryz.prog.underlying t = some (.map kt et)) (hk : Tryz.prog.underlying kt = some (.int .u8)) (es : Array MapEntry) (c : Nat) (k : Int) (v : Value)
    (hf : Instr.findNow (.int .u8) (.int .u8 k) es.toList 0 = some none) :
    (Instr.mapUpdate t (.map (some w.heap.size)) (.int .u8 k) v).run Tryz.prog (w.alloc (.map es c)) = .ok () (w.alloc (.map (es.push ⟨.int .u8 k, v, c⟩) (c + 1))) := by
  have h1 : (Instr.findKey kt (.int .u8 k) es.toList).run Tryz.prog (w.alloc (.map es c)) = .ok none (w.alloc (.map es c)) := MapKept.run_findKey hk hf
  have h2 : (Instr.checkKey false 10000 kt (.int .u8 k)).run Tryz.prog (w.alloc (.map es c)) = .ok () (w.alloc (.map es c)) := by
    unfold Instr.checkKey
    simp [run_underlying hk]
  have h3 : ∀ o, (setObj w.heap.size o).run Tryz.prog (w.alloc (.map es c)) = .ok () (w.alloc o) := fun o => by
    simp only [setObj, Sem.run, heap_alloc_new]
    show Result.ok () ({ w.alloc (.map es c) with heap := (w.heap.push (.map es c)).setIfInBounds w.heap.size o } : World) = _
    rw [show (w.heap.push (.map es c)).setIfInBounds w.heap.size o = w.heap.push o by
      apply Array.toList_inj.1
      simp]
    rfl
  simp only [Instr.mapUpdate, Sem.run_bind, run_underlying ht, Result.andThen, MapKept.run_getObj_map (heap_alloc_new w _), h2, h1, h3]

def signsE : Array MapEntry := #[⟨.int .u8 34, .int .i32 34, 0⟩, ⟨.int .u8 92, .int .i32 92, 1⟩, ⟨.int .u8 47, .int .i32 47, 2⟩, ⟨.int .u8 98, .int .i32 8, 3⟩, ⟨.int .u8 102, .int .i32 12, 4⟩, ⟨.int .u8 110, .int .i32 10, 5⟩, ⟨.int .u8 114, .int .i32 13, 6⟩, ⟨.int .u8 116, .int .i32 9, 7⟩]

set_option maxHeartbeats 2000000 in
set_option maxRecDepth 100000 in
theorem utf_signs (w : World) :
    Calls Tryz.prog 209 #[] w fun e w' => e = .returned (.map (some w.heap.size)) ∧ w' = w.alloc (.map signsE 8) := by
  have h0 := run_makeMap (P := Tryz.prog) 252 w
  have hi := run_ins w 252 5 21 Tryz.underlying252 Tryz.underlying5
  have g0 := hi #[] 0 34 (.int .i32 34) (by kernel_rfl)
  have g1 := hi #[⟨.int .u8 34, .int .i32 34, 0⟩] 1 92 (.int .i32 92) (by kernel_rfl)
  have g2 := hi #[⟨.int .u8 34, .int .i32 34, 0⟩, ⟨.int .u8 92, .int .i32 92, 1⟩] 2 47 (.int .i32 47) (by kernel_rfl)
  have g3 := hi #[⟨.int .u8 34, .int .i32 34, 0⟩, ⟨.int .u8 92, .int .i32 92, 1⟩, ⟨.int .u8 47, .int .i32 47, 2⟩] 3 98 (.int .i32 8) (by kernel_rfl)
  have g4 := hi #[⟨.int .u8 34, .int .i32 34, 0⟩, ⟨.int .u8 92, .int .i32 92, 1⟩, ⟨.int .u8 47, .int .i32 47, 2⟩, ⟨.int .u8 98, .int .i32 8, 3⟩] 4 102 (.int .i32 12) (by kernel_rfl)
  have g5 := hi #[⟨.int .u8 34, .int .i32 34, 0⟩, ⟨.int .u8 92, .int .i32 92, 1⟩, ⟨.int .u8 47, .int .i32 47, 2⟩, ⟨.int .u8 98, .int .i32 8, 3⟩, ⟨.int .u8 102, .int .i32 12, 4⟩] 5 110 (.int .i32 10) (by kernel_rfl)
  have g6 := hi #[⟨.int .u8 34, .int .i32 34, 0⟩, ⟨.int .u8 92, .int .i32 92, 1⟩, ⟨.int .u8 47, .int .i32 47, 2⟩, ⟨.int .u8 98, .int .i32 8, 3⟩, ⟨.int .u8 102, .int .i32 12, 4⟩, ⟨.int .u8 110, .int .i32 10, 5⟩] 6 114 (.int .i32 13) (by kernel_rfl)
  have g7 := hi #[⟨.int .u8 34, .int .i32 34, 0⟩, ⟨.int .u8 92, .int .i32 92, 1⟩, ⟨.int .u8 47, .int .i32 47, 2⟩, ⟨.int .u8 98, .int .i32 8, 3⟩, ⟨.int .u8 102, .int .i32 12, 4⟩, ⟨.int .u8 110, .int .i32 10, 5⟩, ⟨.int .u8 114, .int .i32 13, 6⟩] 7 116 (.int .i32 9) (by kernel_rfl)
  clear hi
  simp only [List.push_toArray, List.cons_append, List.nil_append, Nat.zero_add, Nat.reduceAdd] at g0 g1 g2 g3 g4 g5 g6 g7
  go_enter Tryz.func209, Tryz.ntmps209
  go_wp2
  go_ret
  exact ⟨rfl, rfl⟩
end Go.Proofs.YtfckekaegjjmkaaGreatDoor
namespace Go.Proofs.YtfckekaegjjmkaaGreatDoor
open Go.RowKit Go.Shelf

/-- m leaves the tape as it was. -/
def KT {α : Type} (m : Sem α) : Prop := ∀ P w v w', m.run P w = .ok v w' → w'.tape = w.tape
theorem KT.pure {α : Type} (v : α) : KT (Pure.pure v : Sem α) := fun P w v' w' h => by
  simp at h
  rw [← h.2]
theorem KT.bind {α β : Type} {m : Sem α} {f : α → Sem β} (hm : KT m) (hf : ∀ v, KT (f v)) : KT (m >>= f) := fun P w v w' h => by
  rw [Sem.run_bind] at h
  cases hr : m.run P w with
  | halt x w1 => rw [hr] at h; cases h
  | ok a w1 =>
    rw [hr] at h
    exact (hf a P w1 v w' h).trans (hm P w a w1 hr)
theorem KT.setObj (r : Nat) (o : Obj) : KT (setObj r o) := fun P w v w' h => by
  simp only [Go.setObj, Sem.run] at h
  split at h <;> first | (cases h; done) | (cases h; rfl)
theorem KT.unsupported {α : Type} (s : Unsupported) : KT (Go.unsupported s : Sem α) := fun P w v w' h => by simp [Go.unsupported] at h

end Go.Proofs.YtfckekaegjjmkaaGreatDoor
namespace Go.Proofs.YtfckekaegjjmkaaGreatDoor
open Go.RowKit Go.Shelf

def signC (r : Int) : Int := if r = 34 then 34 else if r = 92 then 92 else if r = 8 then 98 else if r = 12 then 102 else if r = 10 then 110 else if r = 13 then 114 else if r = 9 then 116 else 0
def signOk (r : Int) : Bool := signC r != 0



end Go.Proofs.YtfckekaegjjmkaaGreatDoor
namespace Go.Proofs.YtfckekaegjjmkaaGreatDoor
open Go.RowKit Go.Shelf

set_option maxHeartbeats 1000000 in
set_option maxRecDepth 100000 in
theorem utf_isOf (r x : Int) (b : Nat) (w : World) (hb : Blk w b #[.int .i32 x] 21) :
    Calls Tryz.prog 235 #[.int .i32 r, .slice (some ⟨b, 0, none⟩) 1 1] w fun e w' => e = .returned (.bool (x == r)) ∧ w = w' := by
  have hc := hb.cell 0
  by_cases h : x = r
  · have h1 : (x == r) = true := by simp [h]
    rw [h1]
    subst h
    go_enter Tryz.func235, Tryz.ntmps235
    go_wp2_with fail
    refine wp_loop_rounds 1 ?_
    rw [rounds_succ]
    go_wp2_with fail
    go_ret
    exact ⟨rfl, rfl⟩
  · have h1 : (x == r) = false := by simp [h]
    rw [h1]
    go_enter Tryz.func235, Tryz.ntmps235
    go_wp2_with fail
    refine wp_loop_rounds 2 ?_
    rw [rounds_succ]
    go_wp2_with fail
    rw [rounds_succ]
    go_wp2_with fail
    go_ret
    exact ⟨rfl, rfl⟩


/-- What first tells. -/
def firstV (aT aQ : Addr) (s : ByteArray) : Value :=
  if s.size = 0 then .tuple #[.int .i32 0, .int .i64 0, .iface 289 (.pointer (some aQ))]
  else if Lib.decodeGo s = (65533, 1) then .tuple #[.int .i32 0, .int .i64 0, .iface 289 (.pointer (some aT))]
  else .tuple #[.int .i32 (Lib.decodeGo s).1, .int .i64 (Lib.decodeGo s).2, .nilIface]

set_option maxHeartbeats 1000000 in
set_option maxRecDepth 100000 in
theorem utf_first {aT aQ : Addr} (s : ByteArray) (p : Nat) (w : World) (h : UW w aT aQ) (hp : Blk w p #[.string s] 223) :
    Calls Tryz.prog 184 #[.pointer (some ⟨p, 0, none⟩)] w fun e w' => e = .returned (firstV aT aQ s) ∧ Below w.heap.size w w' := by
  have hc : w.cell? ⟨p, 0, none⟩ = some (.string s) := hp.cell 0
  have hT := h.hT
  have hQ := h.hQ
  unfold firstV
  by_cases h0 : s.size = 0
  · rw [if_pos h0]
    have e0 : s = ⟨#[]⟩ := by
      apply ByteArray.ext
      apply Array.eq_empty_of_size_eq_zero
      exact h0
    subst e0
    clear h0 h
    go_enter Tryz.func184, Tryz.ntmps184
    go_wp2_with fail
    go_quiet (fail)
    go_wp2_with fail
    exact bodyPost_ret (v := .tuple #[.int .i32 0, .int .i64 0, .iface 289 (.pointer (some aQ))]) (by simp [results, Tryz.results184, go_sem]) rfl ⟨rfl, below_drewN (Below.refl _ _) _⟩
  · rw [if_neg h0]
    have hne : s.toList.isEmpty = false := by
      rw [ByteArray.toList_eq]
      cases hl : s.data.toList with
      | nil => exact absurd (show s.data.toList.length = 0 by rw [hl]; rfl) (by simpa using h0)
      | cons a l => rfl
    have HD := Lib.hid (show Calls Tryz.prog 215 #[.string s] w fun e w' => e = .returned (.tuple #[.int .i32 (Lib.decodeGo s).1, .int .i64 (Lib.decodeGo s).2]) ∧ Below w.heap.size w w' from Tryz.utf8_DecodeRuneInString s w h.tabs)
    obtain ⟨c, hcc⟩ : ∃ c, (Lib.decodeGo s).1 = c := ⟨_, rfl⟩
    obtain ⟨n, hnn⟩ : ∃ n, (Lib.decodeGo s).2 = n := ⟨_, rfl⟩
    have hd : Lib.decodeGo s = (c, n) := by rw [← hcc, ← hnn]
    rw [hcc, hnn] at HD ⊢
    rw [hd]
    clear hcc hnn hd h0
    by_cases h1 : c = 65533 ∧ n = 1
    · obtain ⟨rfl, rfl⟩ := h1
      rw [if_pos rfl]
      go_enter Tryz.func184, Tryz.ntmps184
      go_wp2_with fail
      refine HD.out.mono ?_
      rintro e w1 ⟨rfl, hb⟩
      have hT := (h.below hb).hT
      clear h
      go_wp2_with fail
      go_quiet (fail)
      go_wp2_with fail
      exact bodyPost_ret (v := .tuple #[.int .i32 0, .int .i64 0, .iface 289 (.pointer (some aT))]) (by simp [results, Tryz.results184, go_sem]) rfl ⟨rfl, below_drewN hb _⟩
    · rw [if_neg (fun e => h1 (by simpa using e))]
      by_cases h2 : c = 65533
      · have h3 : ((n : Int) == 1) = false := by rw [beq_eq_false_iff_ne]; omega
        have h4 : ((c : Int) == 65533) = true := by rw [beq_iff_eq]; omega
        clear h1 h2 h
        go_enter Tryz.func184, Tryz.ntmps184
        go_wp2_with fail
        refine HD.out.mono ?_
        rintro e w1 ⟨rfl, hb⟩
        go_wp2_with fail
        exact bodyPost_ret (v := .tuple #[.int .i32 c, .int .i64 n, .nilIface]) (by simp [results, Tryz.results184, go_sem]) rfl ⟨rfl, hb⟩
      · have h4 : ((c : Int) == 65533) = false := by rw [beq_eq_false_iff_ne]; omega
        clear h1 h2 h
        go_enter Tryz.func184, Tryz.ntmps184
        go_wp2_with fail
        refine HD.out.mono ?_
        rintro e w1 ⟨rfl, hb⟩
        go_wp2_with fail
        exact bodyPost_ret (v := .tuple #[.int .i32 c, .int .i64 n, .nilIface]) (by simp [results, Tryz.results184, go_sem]) rfl ⟨rfl, hb⟩
end Go.Proofs.YtfckekaegjjmkaaGreatDoor
namespace Go.Proofs.YtfckekaegjjmkaaGreatDoor
open Go.RowKit Go.Shelf

def hexv (c : Nat) : Option Nat := if 65 ≤ c ∧ c ≤ 70 then some (c - 55) else if 97 ≤ c ∧ c ≤ 102 then some (c - 87) else if 48 ≤ c ∧ c ≤ 57 then some (c - 48) else none
def hexAcc : List UInt8 → Nat → Option Nat
  | [], n => some n
  | b :: l, n => match hexv b.toNat with
    | some d => hexAcc l (n * 16 + d)
    | none => none
/-- Four hexadecimal digits' number. -/
def hexOf (s : ByteArray) : Option Nat := if s.size < 4 then none else hexAcc (s.data.toList.take 4) 0
def p16 (j : Nat) : Nat := 16 ^ j

theorem hexv_lt {c d : Nat} (h : hexv c = some d) : d < 16 := by
  unfold hexv at h
  split at h
  · cases h; omega
  · split at h
    · cases h; omega
    · split at h
      · cases h; omega
      · cases h
theorem i32_or16 (n d : Nat) (hn : n < 4096) (hd : d < 16) : bits .or .i32 ((n : Int) * 16) (d : Int) = ((n * 16 + d : Nat) : Int) := by
  have h := (bits_nat .i32 31 (by decide) wraps_i32 (n * 16) d (by omega) (by omega)).2
  rw [show ((n : Int) * 16) = ((n * 16 : Nat) : Int) by omega, h]
  congr 1
  have := Nat.two_pow_add_eq_or_of_lt (i := 4) (b := d) (by omega) n
  rw [show 2 ^ 4 * n = n * 16 by omega] at this
  exact this.symm

/-- The list from place j on. -/
theorem take_drop (s : ByteArray) (j : Nat) (hj : j < 4) (hs : 4 ≤ s.size) : (s.data.toList.take 4).drop j = (s[j]'(by omega)) :: (s.data.toList.take 4).drop (j + 1) := by
  have hl : j < (s.data.toList.take 4).length := by simp; omega
  rw [List.drop_eq_getElem_cons hl]
  congr 1
  simp [ByteArray.getElem_eq_getElem_data]

set_option maxHeartbeats 2000000 in
set_option maxRecDepth 100000 in
theorem utf_hex_short {aT aQ : Addr} (s : ByteArray) (p : Nat) (w : World) (h : UW w aT aQ) (hp : Blk w p #[.string s] 223) (hs : s.size < 4) :
    Calls Tryz.prog 245 #[.pointer (some ⟨p, 0, none⟩)] w fun e w' => e = .returned (.tuple #[.int .i32 0, .iface 289 (.pointer (some aQ))]) ∧ Below w.heap.size w w' := by
  have hc : w.cell? ⟨p, 0, none⟩ = some (.string s) := hp.cell 0
  have hQ := h.hQ
  have hz : (s.size : Int) < 4 := by omega
  clear h
  go_enter Tryz.func245, Tryz.ntmps245
  go_wp2_with fail
  go_quiet (fail)
  go_wp2_with fail
  go_ret2
  exact ⟨rfl, below_drewN (Below.refl _ _) _⟩

set_option maxHeartbeats 4000000 in
set_option maxRecDepth 100000 in
theorem utf_hex {aT aQ : Addr} (s : ByteArray) (p : Nat) (w : World) (h : UW w aT aQ) (hp : Blk w p #[.string s] 223) (hs : 4 ≤ s.size) :
    Calls Tryz.prog 245 #[.pointer (some ⟨p, 0, none⟩)] w fun e w' =>
      (∃ n : Nat, hexOf s = some n ∧ n < 65536 ∧ e = .returned (.tuple #[.int .i32 (n : Int), .nilIface]) ∧ w' = w.setCell ⟨p, 0, none⟩ (.string (s.extract 4 s.size))) ∨
      (hexOf s = none ∧ e = .returned (.tuple #[.int .i32 0, .iface 289 (.pointer (some aQ))]) ∧ Below w.heap.size w w') := by
  have hc : w.cell? ⟨p, 0, none⟩ = some (.string s) := hp.cell 0
  have hQ := h.hQ
  have hz : ¬ (s.size : Int) < 4 := by omega
  have hfz := hp.frozen 0
  obtain ⟨ans, hans⟩ : ∃ ans, hexOf s = ans := ⟨_, rfl⟩
  have h0 : hexAcc ((s.data.toList.take 4).drop 0) 0 = ans := by rw [← hans]; unfold hexOf; rw [if_neg (by omega)]; rfl
  rw [hans]
  have h0 := Lib.hid h0
  clear h hans
  go_enter Tryz.func245, Tryz.ntmps245
  go_wp2_with fail
  go_loopw [4, 15] (fun s4 s15 wr => ∃ j n : Nat, j ≤ 4 ∧ n < p16 j ∧ s15 = .int .i64 (j : Int) ∧ s4 = .int .i32 (n : Int) ∧ wr = w ∧ Hid (hexAcc ((s.data.toList.take 4).drop j) n = ans)) (fun _ i _ => (4 - intOf i).toNat)
  case atStart => exact ⟨0, 0, by omega, by decide, rfl, rfl, rfl, h0⟩
  case round =>
    obtain ⟨j, n, hj, hn, rfl, rfl, rfl, hacc⟩ := hrel
    by_cases hlt : j < 4
    · have hltz : (j : Int) < 4 := by omega
      have hn4 : n < 4096 := by
        have : j = 0 ∨ j = 1 ∨ j = 2 ∨ j = 3 := by omega
        rcases this with rfl | rfl | rfl | rfl <;> simp [p16] at hn <;> omega
      have hp16 : p16 (j + 1) = 16 * p16 j := by unfold p16; rw [Nat.pow_succ, Nat.mul_comm]
      have hjs : j < s.size := by omega
      have ha := hacc.out
      rw [take_drop s j hlt hs] at ha
      unfold hexAcc at ha
      obtain ⟨k, hb⟩ : ∃ k, s[j].toNat = k := ⟨_, rfl⟩
      have hk : k < 256 := by have := s[j].toNat_lt; omega
      rw [hb] at ha
      clear hacc h0 hz
      by_cases cA : 65 ≤ k ∧ k ≤ 70
      · have hv : hexv k = some (k - 55) := by unfold hexv; rw [if_pos cA]
        rw [hv] at ha
        have ha := Lib.hid (show hexAcc ((s.data.toList.take 4).drop (j + 1)) (n * 16 + (k - 55)) = ans from ha)
        have hor : bits .or .i32 ((n : Int) * 16) ((k : Int) + 32 - 39 - 48) = ((n * 16 + (k - 55) : Nat) : Int) := by
          rw [show ((k : Int) + 32 - 39 - 48) = ((k - 55 : Nat) : Int) by omega]
          exact i32_or16 n (k - 55) hn4 (by omega)
        have k1 : (65 : Int) ≤ k := by omega
        have k2 : (k : Int) ≤ 70 := by omega
        have hnn : n * 16 + (k - 55) < p16 (j + 1) := by omega
        go_wp2_with fail
        go_roundw
        case rel => exact ⟨j + 1, _, by omega, hnn, by go_num, rfl, trivial, ha⟩
        case measure => simp [intOf]; omega
      · by_cases cB : 97 ≤ k ∧ k ≤ 102
        · have hv : hexv k = some (k - 87) := by unfold hexv; rw [if_neg cA, if_pos cB]
          rw [hv] at ha
          have ha := Lib.hid (show hexAcc ((s.data.toList.take 4).drop (j + 1)) (n * 16 + (k - 87)) = ans from ha)
          have hor : bits .or .i32 ((n : Int) * 16) ((k : Int) - 39 - 48) = ((n * 16 + (k - 87) : Nat) : Int) := by
            rw [show ((k : Int) - 39 - 48) = ((k - 87 : Nat) : Int) by omega]
            exact i32_or16 n (k - 87) hn4 (by omega)
          have k1 : (70 : Int) < k := by omega
          have k2 : (97 : Int) ≤ k := by omega
          have k3 : (k : Int) ≤ 102 := by omega
          have hnn : n * 16 + (k - 87) < p16 (j + 1) := by omega
          go_wp2_with fail
          go_roundw
          case rel => exact ⟨j + 1, _, by omega, hnn, by go_num, rfl, trivial, ha⟩
          case measure => simp [intOf]; omega
        · by_cases cC : 48 ≤ k ∧ k ≤ 57
          · have hv : hexv k = some (k - 48) := by unfold hexv; rw [if_neg cA, if_neg cB, if_pos cC]
            rw [hv] at ha
            have ha := Lib.hid (show hexAcc ((s.data.toList.take 4).drop (j + 1)) (n * 16 + (k - 48)) = ans from ha)
            have hor : bits .or .i32 ((n : Int) * 16) ((k : Int) - 48) = ((n * 16 + (k - 48) : Nat) : Int) := by
              rw [show ((k : Int) - 48) = ((k - 48 : Nat) : Int) by omega]
              exact i32_or16 n (k - 48) hn4 (by omega)
            have k1 : (k : Int) < 65 := by omega
            have k2 : (k : Int) < 97 := by omega
            have k3 : (48 : Int) ≤ k := by omega
            have k4 : (k : Int) ≤ 57 := by omega
            have hnn : n * 16 + (k - 48) < p16 (j + 1) := by omega
            go_wp2_with fail
            go_roundw
            case rel => exact ⟨j + 1, _, by omega, hnn, by go_num, rfl, trivial, ha⟩
            case measure => simp [intOf]; omega
          · have hv : hexv k = none := by unfold hexv; rw [if_neg cA, if_neg cB, if_neg cC]
            rw [hv] at ha
            have han : ans = none := ha.symm
            by_cases d1 : k < 48
            · have k1 : (k : Int) < 65 := by omega
              have k2 : (k : Int) < 97 := by omega
              have k3 : (k : Int) < 48 := by omega
              clear ha
              go_wp2_with fail
              go_quiet (fail)
              go_wp2_with fail
              go_ret2
              exact .inr ⟨han, rfl, below_drewN (Below.refl _ _) _⟩
            · by_cases d2 : k < 65
              · have k1 : (k : Int) < 65 := by omega
                have k2 : (k : Int) < 97 := by omega
                have k3 : (48 : Int) ≤ k := by omega
                have k4 : (57 : Int) < k := by omega
                clear ha
                go_wp2_with fail
                go_quiet (fail)
                go_wp2_with fail
                go_ret2
                exact .inr ⟨han, rfl, below_drewN (Below.refl _ _) _⟩
              · by_cases d3 : k < 97
                · have k1 : (65 : Int) ≤ k := by omega
                  have k1b : (70 : Int) < k := by omega
                  have k2 : (k : Int) < 97 := by omega
                  have k3 : (48 : Int) ≤ k := by omega
                  have k4 : (57 : Int) < k := by omega
                  clear ha
                  go_wp2_with fail
                  go_quiet (fail)
                  go_wp2_with fail
                  go_ret2
                  exact .inr ⟨han, rfl, below_drewN (Below.refl _ _) _⟩
                · have k1 : (65 : Int) ≤ k := by omega
                  have k1b : (70 : Int) < k := by omega
                  have k2 : (97 : Int) ≤ k := by omega
                  have k2b : (102 : Int) < k := by omega
                  have k3 : (48 : Int) ≤ k := by omega
                  have k4 : (57 : Int) < k := by omega
                  clear ha
                  go_wp2_with fail
                  go_quiet (fail)
                  go_wp2_with fail
                  go_ret2
                  exact .inr ⟨han, rfl, below_drewN (Below.refl _ _) _⟩
    · obtain rfl : j = 4 := by omega
      have hlist : (s.data.toList.take 4).drop 4 = [] := by simp
      have ha := hacc.out
      rw [hlist] at ha
      have han : ans = some n := ha.symm
      have hn6 : n < 65536 := hn
      clear hacc h0 ha
      simp only [Int.cast_ofNat_Int]
      go_wp2_with fail
      go_ret2
      exact .inl ⟨n, han, hn6, rfl, rfl⟩
end Go.Proofs.YtfckekaegjjmkaaGreatDoor
