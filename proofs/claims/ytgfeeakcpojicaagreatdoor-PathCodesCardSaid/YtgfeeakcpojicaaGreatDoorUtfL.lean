/- utf: Unquote. -/
import Derived.Test.YtgfeeakcpojicaaGreatDoorUtfK
import Derived.Outline
import Derived.Outline
namespace Go.Proofs.YtgfeeakcpojicaaGreatDoor
open Go.RowKit Go.Shelf
attribute [local go_sem] Oper.semAt_some wide_fn wide_depth

def UnqPost (s : ByteArray) (w : World) (e : Ending) (w' : World) : Prop :=
  Below w.heap.size w w' ∧ match unquoteL s.data.toList with
    | .error b => e = .returned (.tuple #[.string ⟨#[]⟩, .string s, .int .i64 (if b then 20 else 21)])
    | .ok (t, r) => e = .returned (.tuple #[.string ⟨t.toArray⟩, .string ⟨r.toArray⟩, .int .i64 0])

theorem built_left (s : ByteArray) (w : World) : (Instr.build 108 #[(0, .string s)]).run Tryz.prog w = .ok (.agg #[.string s]) w := run_build w _ _ _ (by kernel_rfl)
theorem built_reader (s : ByteArray) (w : World) : (Instr.build 110 #[(0, .agg #[.string s])]).run Tryz.prog w = .ok (.agg #[.string s]) w := run_build w _ _ _ (by kernel_rfl)

set_option maxHeartbeats 4000000 in
set_option maxRecDepth 100000 in
/-- What does not begin a quotation. -/
theorem utf_Unquote_no {aT aQ : Addr} (s : ByteArray) (w : World) (h : UW w aT aQ) (b : Bool)
    (hf : firstV aT aQ s = .tuple #[.int .i32 0, .int .i64 0, errV (if b then aT else aQ)]) :
    Calls Tryz.prog 58 #[.string s] w fun e w' => e = .returned (.tuple #[.string ⟨#[]⟩, .string s, .int .i64 (if b then 20 else 21)]) ∧ Below w.heap.size w w' := by
  have hU0 : UWB w.heap.size (w.alloc (.cells #[.string s] 110)) aT aQ := (UWB.of h).to ((Below.refl _ w).alloc (Nat.le_refl _) _)
  have hp0 : Rd (w.alloc (.cells #[.string s] 110)) w.heap.size s := Blk.new _ _ _
  have HF := Lib.hid (utf_first s w.heap.size _ hU0.uw hp0)
  rw [hf] at HF
  have hb0 : Below w.heap.size w (w.alloc (.cells #[.string s] 110)) := (Below.refl _ w).alloc (Nat.le_refl _) _
  have k1 := built_left s
  have k2 := built_reader s
  clear hf
  refine calls_of_marks Tryz.func58 rfl ?_
  simp only [Tryz.ntmps58, List.size_toArray, List.length_cons, List.length_nil, Nat.reduceAdd, Nat.reduceSub, Array.replicate_succ, Array.replicate_zero, List.push_toArray, List.append_toArray, List.nil_append, List.cons_append]
  go_wp2_with fail
  go_step3
  go_wp2_with fail
  refine HF.out.mono ?_
  rintro e w1 ⟨rfl, hb1⟩
  have hU1 : UWB w.heap.size w1 aT aQ := hU0.to (hb1.mono (by simp))
  have hb01 := hb0.trans (hb1.mono (by simp))
  clear hb0 hb1 hU0 hp0 HF h
  have hb2 : ∀ o, Below w.heap.size w (w1.alloc o) := fun o => hb01.alloc hU1.le _
  cases b with
  | true =>
    have HT := Lib.hid (fun o => told_text (w1.alloc o) (hU1.uw.below ((Below.refl _ w1).alloc (Nat.le_refl _) o)))
    simp only [if_true]
    go_wp2_with fail
    refine (HT.out _).mono ?_
    rintro e w2 ⟨rfl, rfl⟩
    go_wp2_with fail
    rw [Exit.noGoto_ret]
    exact leave0 (v := .tuple #[.string ⟨#[]⟩, .string s, .int .i64 20]) (by simp [results, Tryz.results58, go_sem]) rfl ⟨rfl, hb2 _⟩
  | false =>
    have HT := Lib.hid (fun o => told_quote (w1.alloc o) (hU1.uw.below ((Below.refl _ w1).alloc (Nat.le_refl _) o)))
    simp only [Bool.false_eq_true, if_false]
    go_wp2_with fail
    refine (HT.out _).mono ?_
    rintro e w2 ⟨rfl, rfl⟩
    go_wp2_with fail
    rw [Exit.noGoto_ret]
    exact leave0 (v := .tuple #[.string ⟨#[]⟩, .string s, .int .i64 21]) (by simp [results, Tryz.results58, go_sem]) rfl ⟨rfl, hb2 _⟩

set_option maxHeartbeats 4000000 in
set_option maxRecDepth 100000 in
/-- Another sign stands first. -/
theorem utf_Unquote_else {aT aQ : Addr} (s : ByteArray) (w : World) (h : UW w aT aQ) (c k : Nat) (hc : c ≠ 34)
    (hf : firstV aT aQ s = .tuple #[.int .i32 c, .int .i64 k, .nilIface]) :
    Calls Tryz.prog 58 #[.string s] w fun e w' => e = .returned (.tuple #[.string ⟨#[]⟩, .string s, .int .i64 21]) ∧ Below w.heap.size w w' := by
  have hU0 : UWB w.heap.size (w.alloc (.cells #[.string s] 110)) aT aQ := (UWB.of h).to ((Below.refl _ w).alloc (Nat.le_refl _) _)
  have hp0 : Rd (w.alloc (.cells #[.string s] 110)) w.heap.size s := Blk.new _ _ _
  have HF := Lib.hid (utf_first s w.heap.size _ hU0.uw hp0)
  rw [hf] at HF
  have hb0 : Below w.heap.size w (w.alloc (.cells #[.string s] 110)) := (Below.refl _ w).alloc (Nat.le_refl _) _
  have k1 := built_left s
  have k2 := built_reader s
  have hc2 : ((c : Int) != 34) = true := by rw [bne_iff_ne]; omega
  clear hf hc
  refine calls_of_marks Tryz.func58 rfl ?_
  simp only [Tryz.ntmps58, List.size_toArray, List.length_cons, List.length_nil, Nat.reduceAdd, Nat.reduceSub, Array.replicate_succ, Array.replicate_zero, List.push_toArray, List.append_toArray, List.nil_append, List.cons_append]
  go_wp2_with fail
  go_step3
  go_wp2_with fail
  refine HF.out.mono ?_
  rintro e w1 ⟨rfl, hb1⟩
  have hU1 : UWB w.heap.size w1 aT aQ := hU0.to (hb1.mono (by simp))
  have hb01 := hb0.trans (hb1.mono (by simp))
  clear hb0 hb1 hU0 hp0 HF h
  have hQ : ∀ o, (w1.alloc o).cell? ⟨0, 0, none⟩ = some (errV aQ) := fun o => (hU1.uw.below ((Below.refl _ w1).alloc (Nat.le_refl _) o)).hQ
  have hb2 : ∀ o, Below w.heap.size w (w1.alloc o) := fun o => hb01.alloc hU1.le _
  have HT := Lib.hid (fun o => told_quote (w1.alloc o) (hU1.uw.below ((Below.refl _ w1).alloc (Nat.le_refl _) o)))
  go_wp2_with fail
  refine (HT.out _).mono ?_
  rintro e w2 ⟨rfl, rfl⟩
  go_wp2_with fail
  rw [Exit.noGoto_ret]
  exact leave0 (v := .tuple #[.string ⟨#[]⟩, .string s, .int .i64 21]) (by simp [results, Tryz.results58, go_sem]) rfl ⟨rfl, hb2 _⟩
end Go.Proofs.YtgfeeakcpojicaaGreatDoor
