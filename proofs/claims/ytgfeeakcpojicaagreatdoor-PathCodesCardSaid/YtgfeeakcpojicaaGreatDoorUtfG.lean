/- utf: hex as one contract; the lookup of a sign; escaped. -/
import Derived.Test.YtgfeeakcpojicaaGreatDoorUtfS
namespace Go.Proofs.YtgfeeakcpojicaaGreatDoor
open Go.RowKit Go.Shelf

theorem signs_find (k : Nat) (x : Nat) (h : signX k = some x) : ∃ i, Instr.findNow (.int .u8) (.int .u8 (k : Int)) signsE.toList 0 = some (some (i, .int .i32 (x : Int))) := by
  unfold signX at h
  repeat' split at h
  all_goals first | (cases h; subst k; exact ⟨_, rfl⟩) | cases h
theorem signs_miss (k : Nat) (h : signX k = none) : Instr.findNow (.int .u8) (.int .u8 (k : Int)) signsE.toList 0 = some none := by
  unfold signX at h
  repeat' split at h
  all_goals first | cases h | skip
  have e : ∀ m : Nat, k ≠ m → ((m : Int) == (k : Int)) = false ∧ ((k : Int) == (m : Int)) = false := fun m hm => by
    constructor <;> (rw [beq_eq_false_iff_ne]; omega)
  have e34 := e 34 (by assumption)
  have e92 := e 92 (by assumption)
  have e47 := e 47 (by assumption)
  have e98 := e 98 (by assumption)
  have e102 := e 102 (by assumption)
  have e110 := e 110 (by assumption)
  have e114 := e 114 (by assumption)
  have e116 := e 116 (by assumption)
  simp only [Int.cast_ofNat_Int] at e34 e92 e47 e98 e102 e110 e114 e116
  simp [signsE, Instr.findNow, Instr.sameNow, e34, e92, e47, e98, e102, e110, e114, e116]

theorem signs_look (w : World) (b : Nat) (hm : w.heap[b]? = some (.map signsE 8)) (k x : Nat) (h : signX k = some x) :
    (Instr.lookup 100 (.map (some b)) (.int .u8 (k : Int)) true).run Tryz.prog w = .ok (.tuple #[.int .i32 (x : Int), .bool true]) w := by
  obtain ⟨i, hf⟩ := signs_find k x h
  have h1 : (Instr.findKey 5 (.int .u8 (k : Int)) signsE.toList).run Tryz.prog w = .ok (some (i, .int .i32 (x : Int))) w := MapKept.run_findKey Tryz.underlying5 hf
  have h2 : (Instr.checkKey signsE.isEmpty 10000 5 (.int .u8 (k : Int))).run Tryz.prog w = .ok () w := by
    unfold Instr.checkKey
    simp [run_underlying Tryz.underlying5]
  simp only [Instr.lookup, Sem.run_bind, run_underlying Tryz.underlying100, Result.andThen, MapKept.run_getObj_map hm, h2, h1, Sem.run_pure]
  rfl
theorem signs_lookno (w : World) (b : Nat) (hm : w.heap[b]? = some (.map signsE 8)) (k : Nat) (h : signX k = none) :
    (Instr.lookup 100 (.map (some b)) (.int .u8 (k : Int)) true).run Tryz.prog w = .ok (.tuple #[.int .i32 0, .bool false]) w := by
  have hf := signs_miss k h
  have h1 : (Instr.findKey 5 (.int .u8 (k : Int)) signsE.toList).run Tryz.prog w = .ok none w := MapKept.run_findKey Tryz.underlying5 hf
  have h2 : (Instr.checkKey signsE.isEmpty 10000 5 (.int .u8 (k : Int))).run Tryz.prog w = .ok () w := by
    unfold Instr.checkKey
    simp [run_underlying Tryz.underlying5]
  have h3 : (zeroValue 21).run Tryz.prog w = .ok (.int .i32 0) w := by kernel_rfl
  simp only [Instr.lookup, Sem.run_bind, run_underlying Tryz.underlying100, Result.andThen, MapKept.run_getObj_map hm, h2, h1, h3, Sem.run_pure]
  rfl

abbrev errV (a : Addr) : Value := .iface 167 (.pointer (some a))

/-- hex, as one contract. -/
def HexPost (aQ : Addr) (p : Nat) (s : ByteArray) (w : World) (e : Ending) (w' : World) : Prop :=
  w.grownBy w' (some p) ∧ match hexL s.data.toList with
    | some n => e = .returned (.tuple #[.int .i32 (n : Int), .nilIface]) ∧ Rd w' p (s.extract 4 s.size)
    | none => e = .returned (.tuple #[.int .i32 0, errV aQ])
theorem utf_hexA {n : Nat} {aT aQ : Addr} (s : ByteArray) (p : Nat) (w : World) (h : UWB n w aT aQ) (hp : Rd w p s) :
    Calls Tryz.prog 120 #[.pointer (some ⟨p, 0, none⟩)] w (HexPost aQ p s w) := by
  by_cases hs : s.size < 4
  · refine (utf_hex_short s p w h.uw hp hs).mono ?_
    rintro e w' ⟨rfl, hb⟩
    refine ⟨below_grown hb _, ?_⟩
    have e0 : hexL s.data.toList = none := by
      unfold hexL
      rw [if_pos (by simpa using hs)]
    rw [e0]
  · refine (utf_hex s p w h.uw hp (by omega)).mono ?_
    rintro e w' (⟨n, hx, _, rfl, rfl⟩ | ⟨hx, rfl, hb⟩)
    · refine ⟨grown_set _ _ _ _, ?_⟩
      rw [hexOf_eq] at hx
      rw [hx]
      exact ⟨rfl, hp.put _⟩
    · refine ⟨below_grown hb _, ?_⟩
      rw [hexOf_eq] at hx
      rw [hx]
end Go.Proofs.YtgfeeakcpojicaaGreatDoor
