/- utf: parts: an iterator that writes the reader's cell. -/
import Derived.Test.YtgfeeakcpojicaaGreatDoorUtfI
import Derived.Test.YtgfeeakcpojicaaGreatDoorRange
namespace Go.Proofs.YtgfeeakcpojicaaGreatDoor
open Go.RowKit Go.Shelf
attribute [local go_sem] Oper.semAt_some wide_fn wide_depth

abbrev Part := Except Bool Nat
def partEnc (aT aQ : Addr) : Part → Array Value
  | .ok x => #[.int .i32 (x : Int), .nilIface]
  | .error b => #[.int .i32 0, errV (if b then aT else aQ)]
def Steps : List UInt8 → List Part → List UInt8 → Prop
  | l, [], l' => l = l'
  | l, .ok x :: xs, l' => ∃ r, nextL l = .ok (some x, r) ∧ Steps r xs l'
  | _, .error _ :: _, _ => False
theorem Steps.snoc : ∀ {xs : List Part} {l l' r : List UInt8} {x : Nat}, Steps l xs l' → nextL l' = .ok (some x, r) → Steps l (xs ++ [.ok x]) r
  | [], l, l', r, x, h, hn => by
    cases h
    exact ⟨r, hn, rfl⟩
  | .ok y :: xs, l, l', r, x, ⟨m, hm, h⟩, hn => ⟨m, hm, h.snoc hn⟩
  | .error b :: xs, l, l', r, x, h, hn => h.elim
def strLen (W : World) (p : Nat) : Nat := match W.cell? ⟨p, 0, none⟩ with
  | some (.string s) => s.size
  | _ => 0

theorem Steps.len : ∀ {xs : List Part} {l0 l : List UInt8}, Steps l0 xs l → xs.length + l.length ≤ l0.length
  | [], l0, l, h => by
    cases h
    simp
  | .ok x :: xs, l0, l, ⟨m, hm, h⟩ => by
    have hs := nextL_shorter hm
    have := h.len
    simp
    omega
  | .error _ :: _, _, _, h => h.elim
theorem Steps.chars : ∀ {xs : List Part} {l0 l : List UInt8}, Steps l0 xs l → ∀ v, .ok v ∈ xs → charOk v
  | [], _, _, _ => by simp
  | .ok x :: xs, l0, l, ⟨m, hm, h⟩ => by
    intro v hv
    rcases List.mem_cons.1 hv with h1 | h1
    · cases h1
      exact nextL_char hm
    · exact h.chars v h1
  | .error _ :: _, _, _, h => h.elim
/-- What a round's body keeps. -/
def PartsKp (n p bc : Nat) (A B : World) : Prop := Below n A B ∧ (p < A.heap.size → B.heap[p]? = A.heap[p]?) ∧ (bc < A.heap.size → B.heap[bc]? = A.heap[bc]?)
def PartsS (p : Nat) (l0 : List UInt8) (xs : List Part) (W : World) : Prop := ∃ l r, Steps l0 xs l ∧ nextL l = .ok (none, r) ∧ Rd W p ⟨r.toArray⟩
def PartsSp (l0 : List UInt8) (pre : List Part) (_ : World) : Prop := (∃ xs b l, pre = xs ++ [.error b] ∧ Steps l0 xs l ∧ nextL l = .error b) ∨ (∃ l, Steps l0 pre l)
def PartsA (n p bc : Nat) (aT aQ : Addr) (s : ByteArray) (W : World) : Prop := UWB n W aT aQ ∧ Rd W p s ∧ Blk W bc #[.pointer (some ⟨p, 0, none⟩)] 106

theorem utf_parts (p : Nat) (w : World) :
    Calls Tryz.prog 79 #[.pointer (some ⟨p, 0, none⟩)] w fun e w' => e = .returned (.func (.func 99) #[] #[.pointer (some ⟨w.heap.size, 0, none⟩)]) ∧ w.alloc (.cells #[.pointer (some ⟨p, 0, none⟩)] 106) = w' := by
  go_enter Tryz.func79, Tryz.ntmps79
  go_wp2
  go_ret
  exact ⟨rfl, rfl⟩

set_option maxHeartbeats 4000000 in
set_option maxRecDepth 100000 in
theorem utf_parts_seq (n p bc : Nat) (aT aQ : Addr) (s0 : ByteArray) (hn : n ≤ p) (hne : p ≠ bc) :
    SeqW Tryz.prog 99 #[.pointer (some ⟨bc, 0, none⟩)] (partEnc aT aQ) (fun A B => A.grownBy B (some p)) (PartsKp n p bc) (fun x => ∃ y, x = .ok y) (fun xs _ => xs.length ≤ s0.size + 1 ∧ ∀ v, .ok v ∈ xs → charOk v)
      (PartsS p s0.data.toList) (PartsSp s0.data.toList) (PartsA n p bc aT aQ s0) := by
  intro l J Jx W hA hJ hJx hY h0
  obtain ⟨hU, hp, hB⟩ := hA
  refine callsIn_of_wp Tryz.func99 rfl trivial ?_ rfl
  simp only [Tryz.ntmps99, List.size_toArray, List.length_cons, List.length_nil, Nat.reduceAdd, Nat.reduceSub, Array.replicate_succ, Array.replicate_zero, List.push_toArray, List.append_toArray, List.nil_append, List.cons_append]
  have HY := Lib.hid hY
  have HJ := Lib.hid hJ
  clear hY hJ hJx
  gi_wp2
  gi_loopw [] (fun wr => ∃ (pre : List Part) (sr : ByteArray), Steps s0.data.toList pre sr.data.toList ∧ J pre wr ∧ UWB n wr aT aQ ∧ Rd wr p sr ∧ Blk wr bc #[.pointer (some ⟨p, 0, none⟩)] 106) (fun wr => strLen wr p)
  case atStart => exact ⟨[], s0, rfl, h0, hU, hp, hB⟩
  case round =>
    obtain ⟨pre, sr, hst, hj, hu, hr, hb⟩ := hrel
    have hc := hb.cell 0
    have HN := Lib.hid (utf_next sr p wr hu hn hr)
    have HST := Lib.hid hst
    have hT := hst.len
    have hs0 : s0.data.toList.length = s0.size := by simp
    have hch := hst.chars
    have HT := Lib.hid (show ∀ x : Part, (∀ v, x = .ok v → charOk v) → (pre ++ [x]).length ≤ s0.size + 1 ∧ ∀ v, .ok v ∈ pre ++ [x] → charOk v from fun x hx => ⟨by rw [List.length_append, List.length_singleton]; omega, fun v hv => by
      rcases List.mem_append.1 hv with h1 | h1
      · exact hch v h1
      · exact hx v (List.mem_singleton.1 h1).symm⟩)
    clear hch
    clear hT hs0
    have hlen : strLen wr p = sr.size := by
      unfold strLen
      rw [hr.cell 0]
      rfl
    have HL := Lib.hid hlen
    clear hst hU hp hB h0 hlen
    gi_wp2_with fail
    refine (callsIn_wide.2 HN.out).mono ?_
    rintro e w1 ⟨hg, hm⟩
    have hj1 := HJ.out _ _ _ hj hg
    have hu1 : UWB n w1 aT aQ := hu.to (grown_below hg hn hr.lt)
    have hb1 : Blk w1 bc #[.pointer (some ⟨p, 0, none⟩)] 106 := hb.kept hg (by simpa using fun e => hne e.symm)
    clear hj hu hr hb HN hg hc
    cases hnx : nextL sr.data.toList with
    | error b =>
      rw [hnx] at hm
      subst hm
      obtain ⟨fn, tmps, assign, body, hy, hR⟩ := HY.out pre (.error b) w1 hj1 (HT.out _ (fun v e => by cases e))
      simp only [partEnc] at hy hR
      have hend : PartsSp s0.data.toList (pre ++ [.error b]) w1 := .inl ⟨pre, b, _, rfl, HST.out, hnx⟩
      have HE := Lib.hid hend
      clear hnx hend hj1 HL
      generalize (if b = true then aT else aQ) = ev at hy hR ⊢
      gi_wp2_with fail
      refine hR.mono ?_
      rintro e w2 (⟨_, ⟨y, hy⟩, _⟩ | ⟨rfl, hx2⟩)
      · cases hy
      · gi_wp2_with fail
        refine bodyPost_ret (results_none rfl _ _ _) rfl ?_
        exact ⟨⟨_, rfl⟩, .inr ⟨_, HE.out, hx2⟩⟩
    | ok q =>
      obtain ⟨x, r⟩ := q
      rw [hnx] at hm
      cases x with
      | none =>
        obtain ⟨rfl, hp1⟩ := hm
        have hend : PartsS p s0.data.toList pre w1 := ⟨_, r, HST.out, hnx, hp1⟩
        have HE := Lib.hid hend
        clear hnx hend HL
        gi_wp2_with fail
        refine bodyPost_ret (results_none rfl _ _ _) rfl ?_
        exact ⟨⟨_, rfl⟩, .inl ⟨_, HE.out, hj1⟩⟩
      | some x =>
        obtain ⟨rfl, hp1⟩ := hm
        have hst1 := Steps.snoc HST.out hnx
        have hsh := nextL_shorter hnx
        obtain ⟨fn, tmps, assign, body, hy, hR⟩ := HY.out pre (.ok x) w1 hj1 (HT.out _ (fun v e => by cases e; exact nextL_char hnx))
        simp only [partEnc] at hy hR
        have HST1 := Lib.hid hst1
        have HSH := Lib.hid hsh
        clear hnx hst1 hsh hj1
        gi_wp2_with fail
        refine hR.mono ?_
        rintro e w2 (⟨rfl, _, hj2, hk1, hk2, hk3⟩ | ⟨rfl, hx2⟩)
        · have hp2 : Rd w2 p ⟨r.toArray⟩ := (hk2 hp1.lt).trans hp1
          have hb2 : Blk w2 bc #[.pointer (some ⟨p, 0, none⟩)] 106 := (hk3 hb1.lt).trans hb1
          have hu2 := hu1.to hk1
          clear hk1 hk2 hk3 hp1 hb1 hu1
          gi_wp2_with fail
          go_roundw
          case rel => exact ⟨_, _, HST1.out, hj2, hu2, hp2, hb2⟩
          case measure =>
            rw [HL.out]
            have h2 : strLen w2 p = r.length := by
              unfold strLen
              rw [hp2.cell 0]
              rfl
            rw [h2]
            have := HSH.out
            simpa using this
        · gi_wp2_with fail
          refine bodyPost_ret (results_none rfl _ _ _) rfl ?_
          exact ⟨⟨_, rfl⟩, .inr ⟨_, .inr ⟨_, HST1.out⟩, hx2⟩⟩
end Go.Proofs.YtgfeeakcpojicaaGreatDoor
