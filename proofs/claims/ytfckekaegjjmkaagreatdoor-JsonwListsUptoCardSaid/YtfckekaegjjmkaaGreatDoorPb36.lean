/- The texts JwD, JsL, put together. -/
import Derived.Test.YtfckekaegjjmkaaGreatDoorPb35
import Derived.Test.YtfckekaegjjmkaaGreatDoorPb10
import Derived.Test.YtfckekaegjjmkaaGreatDoorPb13
namespace Go.Proofs.YtfckekaegjjmkaaGreatDoor
open Go.RowKit Go.Shelf

theorem j_pairs (A : Option Addr) (n c : Nat) (size : Int) (w : World) :
    Calls Tryz.prog 180 #[.slice A n c, .int .i64 size] w fun e w' => e = .returned (.func (.func 211) #[] #[.pointer (some ⟨w.heap.size + 1, 0, none⟩), .pointer (some ⟨w.heap.size, 0, none⟩)]) ∧ w' = (w.alloc (.cells #[.slice A n c] 25)).alloc (.cells #[.int .i64 size] 3) := by
  go_enter Tryz.func180, Tryz.ntmps180
  go_wp2
  go_ret
  exact ⟨rfl, rfl⟩
/-- What a round keeps: what lies below n, and all cells but the writer's and rows of bytes. -/
def KpJ (p n : Nat) (A B : World) : Prop := A.heap.size ≤ B.heap.size ∧ (∀ q, q < n → B.heap[q]? = A.heap[q]?) ∧ ∀ (q : Nat) (cs : Array Value) (t : TypeId) (fr : Nat × Nat), A.heap[q]? = some (.cells cs t fr) → t ≠ 5 → q ≠ p → B.heap[q]? = some (.cells cs t fr)
theorem KpJ.trans {p n : Nat} {A B C : World} (h : KpJ p n A B) (k : KpJ p n B C) : KpJ p n A C :=
  ⟨Nat.le_trans h.1 k.1, fun q hq => (k.2.1 q hq).trans (h.2.1 q hq), fun q cs t fr ho ht hp => k.2.2 q cs t fr (h.2.2 q cs t fr ho ht hp) ht hp⟩
theorem KpJ.refl (p n : Nat) (A : World) : KpJ p n A A := ⟨Nat.le_refl _, fun _ _ => rfl, fun _ _ _ _ h _ _ => h⟩
theorem KpJ.putObj {p n : Nat} (W : World) (l : Nat) (o o' : Obj) (hl : n ≤ l) (h : W.heap[l]? = some o) (ho : o.isCells = false) : KpJ p n W (W.putObj l o') := by
  refine ⟨?_, fun q hq => World.putObj_heap_other (by omega), fun q cs t fr hp _ _ => ?_⟩
  · exact (grownBy_putObj' W l o').size
  · refine (World.putObj_heap_other ?_).trans hp
    rintro rfl
    rw [h] at hp
    cases hp
    cases ho
theorem KpJ.of {p B : Nat} {pr : Bool} {dp : Int} {l : List UInt8} {W W' : World} (h : JP B p pr dp l W W') (hz : W.heap.size ≤ W'.heap.size) : KpJ p B W W' :=
  ⟨hz, fun q hq => h.below.block q hq, fun q cs t fr ho ht hp => h.others q _ ho (fun e => hp (by cases e; rfl)) (fun c fz e => by cases e; exact ht rfl)⟩
theorem KpJ.blk {p B : Nat} {W W' : World} (h : KpJ p B W W') {k : Nat} {cs : Array Value} {t : TypeId} (hk : Blk W k cs t) (hkp : k ≠ p) (ht : t ≠ 5) : Blk W' k cs t := h.2.2 k cs t (0, 0) hk ht hkp
/-- What a round is told: the number of its first node, the row of its nodes. -/
def encJ (sz : Nat) (ad : Addr) (c k : Nat) : Array Value := #[.int .i64 (k * sz : Nat), .slice (some (ad.add (k * sz * 9))) sz (c - k * sz)]
def SoFar (sz n : Nat) (xs : List Nat) (_ : World) : Prop := xs = List.range xs.length ∧ xs.length * sz ≤ n
def AllOf (sz n : Nat) (xs : List Nat) (_ : World) : Prop := xs = List.range xs.length ∧ xs.length * sz ≤ n ∧ n < xs.length * sz + sz

section
attribute [local go_sem] Oper.semAt_some wide_fn wide_depth

set_option maxHeartbeats 4000000 in
set_option maxRecDepth 100000 in
theorem jpairs1_seq (bz bl p B : Nat) (ad : Addr) (n c : Nat) (w0 : World) (hbz : Blk w0 bz #[.int .i64 1] 3) (hbl : Blk w0 bl #[.slice (some ad) n c] 25) (hnc : n ≤ c) (hn : n ≤ 1000000000000) (hzp : bz ≠ p) (hlp : bl ≠ p) :
    SeqW Tryz.prog 211 #[.pointer (some ⟨bz, 0, none⟩), .pointer (some ⟨bl, 0, none⟩)] (encJ 1 ad c) (fun A B => A = B) (KpJ p B) (fun _ => True) (SoFar 1 n) (AllOf 1 n) (fun _ _ => True) (fun W => Below w0.heap.size w0 W) := by
  intro l0 J Jx W hW hJ hJx hY h0
  have hbz := hbz.below hW hbz.lt
  have hbl := hbl.below hW hbl.lt
  have HY := Lib.hid hY
  have H0 := Lib.hid h0
  clear hY hJ hJx hW h0
  refine callsIn_of_wp Tryz.func211 rfl trivial ?_ rfl
  simp only [Tryz.ntmps211, List.size_toArray, List.length_cons, List.length_nil, Nat.reduceAdd, Nat.reduceSub, Array.replicate_succ, Array.replicate_zero, List.push_toArray, List.append_toArray, List.nil_append, List.cons_append]
  gi_wp2_with fail
  gi_loopw [4] (fun i wr => ∃ xs : List Nat, i = .int .i64 (xs.length * 1 : Nat) ∧ SoFar 1 n xs wr ∧ J xs wr ∧ Blk wr bz #[.int .i64 1] 3 ∧ Blk wr bl #[.slice (some ad) n c] 25) (fun i _ => n + 1 - (intOf i).toNat)
  case atStart => exact ⟨[], rfl, ⟨rfl, by simp⟩, H0.out, hbz, hbl⟩
  case round =>
    obtain ⟨xs, rfl, ⟨hx1, hx2⟩, hj, hz, hl⟩ := hrel
    clear hbz hbl H0
    have z0 := hz.cell 0
    have zl := hl.cell 0
    obtain ⟨k, hk⟩ : ∃ k, xs.length = k := ⟨_, rfl⟩
    have HK := Lib.hid hk
    rw [hk] at hx1 hx2 ⊢
    clear hk
    obtain ⟨i, hi⟩ : ∃ i, k * 1 = i := ⟨_, rfl⟩
    have HIE := Lib.hid hi
    have ya : wrap64 ((i : Int) + 1) = (i : Int) + 1 := by unfold wrap64; omega
    rw [hi] at hx2 ⊢
    by_cases hlt : i + 1 ≤ n
    · have y1' : (i : Int) + 1 ≤ n := by omega
      have y2 : (0 : Int) ≤ i := by omega
      have y3 : (i : Int) ≤ (i : Int) + 1 := by omega
      have y4' : (i : Int) + 1 ≤ c := by omega
      have hT : SoFar 1 n (xs ++ [k]) wr := by
        have := HK.out
        refine ⟨?_, ?_⟩
        · rw [List.length_append, List.length_singleton, this, List.range_succ, ← hx1]
        · rw [List.length_append, List.length_singleton, this]
          omega
      have hcall := HY.out xs k wr hj hT
      have HT := Lib.hid hT
      unfold encJ at hcall
      rw [hi] at hcall
      obtain ⟨fn, tmps, assign, body, hy, hR⟩ := hcall
      clear hT hj hi hx1
      gi_wp2_with fail
      refine hR.mono ?_
      rintro e W3 (⟨rfl, _, hJ3, hk3⟩ | ⟨rfl, hJx3⟩)
      · have hz3 := hk3.blk hz hzp (by decide)
        have hl3 := hk3.blk hl hlp (by decide)
        clear hR hy hk3 hz hl z0 zl
        have z0 := hz3.cell 0
        gi_wp2_with fail
        go_roundw
        case rel =>
          refine ⟨xs ++ [k], ?_, HT.out, hJ3, hz3, hl3⟩
          have h1 := HK.out
          have h2 := HIE.out
          rw [List.length_append, List.length_singleton, h1]
          congr 1
          omega
        case measure => simp [intOf]; omega
      · clear hR hy hz hl z0 zl
        gi_wp2_with fail
        refine bodyPost_ret (results_none rfl _ _ _) rfl ?_
        exact ⟨⟨_, rfl⟩, .inr ⟨_, trivial, hJx3⟩⟩
    · have y1' : ¬ (i : Int) + 1 ≤ n := by omega
      have hS : AllOf 1 n xs wr := ⟨by rw [HK.out]; exact hx1, by rw [HK.out]; omega, by rw [HK.out]; omega⟩
      have HS := Lib.hid hS
      clear hS hx1
      gi_wp2_with fail
      go_end0
      exact ⟨⟨_, rfl⟩, .inl ⟨_, HS.out, hj⟩⟩

set_option maxHeartbeats 4000000 in
set_option maxRecDepth 100000 in
theorem jpairs2_seq (bz bl p B : Nat) (ad : Addr) (n c : Nat) (w0 : World) (hbz : Blk w0 bz #[.int .i64 2] 3) (hbl : Blk w0 bl #[.slice (some ad) n c] 25) (hnc : n ≤ c) (hn : n ≤ 1000000000000) (hzp : bz ≠ p) (hlp : bl ≠ p) :
    SeqW Tryz.prog 211 #[.pointer (some ⟨bz, 0, none⟩), .pointer (some ⟨bl, 0, none⟩)] (encJ 2 ad c) (fun A B => A = B) (KpJ p B) (fun _ => True) (SoFar 2 n) (AllOf 2 n) (fun _ _ => True) (fun W => Below w0.heap.size w0 W) := by
  intro l0 J Jx W hW hJ hJx hY h0
  have hbz := hbz.below hW hbz.lt
  have hbl := hbl.below hW hbl.lt
  have HY := Lib.hid hY
  have H0 := Lib.hid h0
  clear hY hJ hJx hW h0
  refine callsIn_of_wp Tryz.func211 rfl trivial ?_ rfl
  simp only [Tryz.ntmps211, List.size_toArray, List.length_cons, List.length_nil, Nat.reduceAdd, Nat.reduceSub, Array.replicate_succ, Array.replicate_zero, List.push_toArray, List.append_toArray, List.nil_append, List.cons_append]
  gi_wp2_with fail
  gi_loopw [4] (fun i wr => ∃ xs : List Nat, i = .int .i64 (xs.length * 2 : Nat) ∧ SoFar 2 n xs wr ∧ J xs wr ∧ Blk wr bz #[.int .i64 2] 3 ∧ Blk wr bl #[.slice (some ad) n c] 25) (fun i _ => n + 1 - (intOf i).toNat)
  case atStart => exact ⟨[], rfl, ⟨rfl, by simp⟩, H0.out, hbz, hbl⟩
  case round =>
    obtain ⟨xs, rfl, ⟨hx1, hx2⟩, hj, hz, hl⟩ := hrel
    clear hbz hbl H0
    have z0 := hz.cell 0
    have zl := hl.cell 0
    obtain ⟨k, hk⟩ : ∃ k, xs.length = k := ⟨_, rfl⟩
    have HK := Lib.hid hk
    rw [hk] at hx1 hx2 ⊢
    clear hk
    obtain ⟨i, hi⟩ : ∃ i, k * 2 = i := ⟨_, rfl⟩
    have HIE := Lib.hid hi
    have ya : wrap64 ((i : Int) + 2) = (i : Int) + 2 := by unfold wrap64; omega
    rw [hi] at hx2 ⊢
    by_cases hlt : i + 2 ≤ n
    · have y1' : (i : Int) + 2 ≤ n := by omega
      have y2 : (0 : Int) ≤ i := by omega
      have y3 : (i : Int) ≤ (i : Int) + 2 := by omega
      have y4' : (i : Int) + 2 ≤ c := by omega
      have hT : SoFar 2 n (xs ++ [k]) wr := by
        have := HK.out
        refine ⟨?_, ?_⟩
        · rw [List.length_append, List.length_singleton, this, List.range_succ, ← hx1]
        · rw [List.length_append, List.length_singleton, this]
          omega
      have hcall := HY.out xs k wr hj hT
      have HT := Lib.hid hT
      unfold encJ at hcall
      rw [hi] at hcall
      obtain ⟨fn, tmps, assign, body, hy, hR⟩ := hcall
      clear hT hj hi hx1
      gi_wp2_with fail
      refine hR.mono ?_
      rintro e W3 (⟨rfl, _, hJ3, hk3⟩ | ⟨rfl, hJx3⟩)
      · have hz3 := hk3.blk hz hzp (by decide)
        have hl3 := hk3.blk hl hlp (by decide)
        clear hR hy hk3 hz hl z0 zl
        have z0 := hz3.cell 0
        gi_wp2_with fail
        go_roundw
        case rel =>
          refine ⟨xs ++ [k], ?_, HT.out, hJ3, hz3, hl3⟩
          have h1 := HK.out
          have h2 := HIE.out
          rw [List.length_append, List.length_singleton, h1]
          congr 1
          omega
        case measure => simp [intOf]; omega
      · clear hR hy hz hl z0 zl
        gi_wp2_with fail
        refine bodyPost_ret (results_none rfl _ _ _) rfl ?_
        exact ⟨⟨_, rfl⟩, .inr ⟨_, trivial, hJx3⟩⟩
    · have y1' : ¬ (i : Int) + 2 ≤ n := by omega
      have hS : AllOf 2 n xs wr := ⟨by rw [HK.out]; exact hx1, by rw [HK.out]; omega, by rw [HK.out]; omega⟩
      have HS := Lib.hid hS
      clear hS hx1
      gi_wp2_with fail
      go_end0
      exact ⟨⟨_, rfl⟩, .inl ⟨_, HS.out, hj⟩⟩
end
end Go.Proofs.YtfckekaegjjmkaaGreatDoor
namespace Go.Proofs.YtfckekaegjjmkaaGreatDoor
open Go.RowKit Go.Shelf

section
variable (Q : List UInt8 → List UInt8)
mutual
theorem plain_T : ∀ (t : Tr) (k k' : Nat), jsT Q false k t = jsT Q false k' t
  | .nd o l, k, k' => by
    rw [jsT, jsT, plain_A l (k + 1) (k' + 1) true, plain_M l (k + 1) (k' + 1) true]
    rfl
theorem plain_A : ∀ (l : List Tr) (k k' : Nat) (b : Bool), jsA Q false k b l = jsA Q false k' b l
  | [], _, _, _ => by rw [jsA, jsA]
  | t :: l, k, k', b => by
    rw [jsA, jsA, plain_T t k k', plain_A l k k' false]
    rfl
theorem plain_M : ∀ (l : List Tr) (k k' : Nat) (b : Bool), jsM Q false k b l = jsM Q false k' b l
  | [], _, _, _ => by rw [jsM, jsM]
  | [_], _, _, _ => by rw [jsM, jsM]
  | a :: t :: l, k, k', b => by
    rw [jsM, jsM, plain_T a k k', plain_T t k k', plain_M l k k' false]
    rfl
end
/-- One more node of an array. -/
theorem rowsA_snoc (p : Bool) (k : Nat) (t : Tr) : ∀ (l : List Tr) (b : Bool), jsA Q p k b (l ++ [t]) = jsA Q p k b l ++ ((if b = true ∧ l = [] then [] else [44]) ++ (lineL p k ++ jsT Q p k t))
  | [], b => by
    rw [List.nil_append, jsA, jsA, jsA]
    cases b <;> simp
  | s :: l, b => by
    rw [List.cons_append, jsA, jsA, rowsA_snoc p k t l false]
    simp
/-- One more member of a map. -/
theorem rowsM_snoc (p : Bool) (k : Nat) (a t : Tr) : ∀ (n : Nat) (l : List Tr) (b : Bool), l.length = 2 * n → jsM Q p k b (l ++ [a, t]) = jsM Q p k b l ++ ((if b = true ∧ l = [] then [] else [44]) ++ (lineL p k ++ (jsT Q p k a ++ (58 :: (gapL p ++ jsT Q p k t)))))
  | 0, l, b, h => by
    have : l = [] := len_nil (by omega)
    subst this
    rw [List.nil_append, jsM, jsM, jsM]
    cases b <;> simp
  | n + 1, l, b, h => by
    match l, h with
    | x :: y :: l, h =>
      rw [List.cons_append, List.cons_append, jsM, jsM, rowsM_snoc p k a t n l false (by simp at h; omega)]
      simp
    | [x], h => simp at h; omega
    | [], h => simp at h
end
end Go.Proofs.YtfckekaegjjmkaaGreatDoor
