/- The texts CbA, put together. -/
import Derived.Test.YtffaefdnlgfdbaaGreatDoorPk19
import Derived.Test.YtffaefdnlgfdbaaGreatDoorPk34
import Derived.Test.YtffaefdnlgfdbaaGreatDoorPk36
/- cborw: the writer's frame; its head, its bytes. -/
namespace Go.Proofs.YtffaefdnlgfdbaaGreatDoor
open Go.RowKit Go.Shelf

/-- A builder abides what turns another block. -/
theorem isW_grown {B b : Nat} {bs : List Value} {W W' : World} (h : IsW B b bs W) {row : Option Nat} (hg : W.grownBy W' row) (hr : ∀ r, row = some r → r < B ∨ ∃ o : Obj, W.heap[r]? = some o ∧ o.isCells = false) : IsW B b bs W' := by
  have key : ∀ p, Lib.BuilderAtF 58 5 B b p bs W → Lib.BuilderAtF 58 5 B b p bs W' := by
    rintro p ⟨hB, v, hb, hown, hne⟩
    refine ⟨hB, v, (hg.block b (Array.getElem?_eq_some_iff.1 hb).1 ?_).trans hb, hown.kept hg ?_, hne⟩
    · intro e
      rcases hr b e.symm with h1 | ⟨o, ho, hc⟩
      · omega
      · rw [hb] at ho
        cases ho
        cases hc
    · by_cases hv : v.ownBlock = none
      · exact .inl hv
      · right
        intro e
        obtain ⟨g, hvg⟩ : ∃ g, v.ownBlock = some g := by
          cases hq : v.ownBlock with
          | none => exact absurd hq hv
          | some g => exact ⟨g, rfl⟩
        rcases hr g (by rw [← e, hvg]) with h1 | ⟨o, ho, hc⟩
        · have := (hown.lt g hvg).1
          omega
        · rcases hown.2 with ⟨rfl, _⟩ | ⟨g', cap, cur, fz, rfl, _, hgc, _⟩
          · simp [Value.ownBlock] at hvg
          · simp [Value.ownBlock] at hvg
            subst hvg
            rw [hgc] at ho
            cases ho
            cases hc
  rcases h with h | h
  · exact .inl (key _ h)
  · exact .inr (key _ h)
theorem isW_own {α : Type} (B b : Nat) (f : α → List Value) : Go.Own (fun (s : α) W => IsW B b (f s) W) := fun _ _ _ _ hs hg hrow =>
  isW_grown hs hg (fun r e => .inr (hrow r e))
/-- A block that is neither the builder nor a row of bytes. -/
theorem othersW_blk {b : Nat} {W W' : World} (h : Lib.OthersKept 5 (some b) W W') {k : Nat} {cs : Array Value} {t : TypeId} (hk : Blk W k cs t) (hkb : k ≠ b) (ht : t ≠ 5) : Blk W' k cs t :=
  h k _ hk (fun e => hkb (by cases e; rfl)) (fun c fz e => by cases e; exact ht rfl)
theorem othersW_from {b B : Nat} {W W' : World} (h : Lib.OthersKept 5 (some b) W W') (hz : W.heap.size ≤ W'.heap.size) {B' : Nat} {bs : List Value} (hI : IsW B' b bs W) : KeepsFrom B W W' := by
  obtain ⟨c, t, z, hb⟩ : ∃ c t z, W.heap[b]? = some (.cells c t z) := by
    rcases hI with ⟨_, v, hb, _⟩ | ⟨_, v, hb, _⟩
    · exact ⟨_, _, _, hb⟩
    · exact ⟨_, _, _, hb⟩
  refine ⟨hz, fun k o _ hk ho => h k o hk (fun e => ?_) (fun c fz e => ?_)⟩
  · cases e
    rw [hb] at hk
    cases hk
    cases ho
  · subst e
    cases ho

theorem others_below {p : Nat} {W W' : World} (h : Below W.heap.size W W') : Lib.OthersKept 5 (some p) W W' := fun k _ hk _ _ => (h.block k (Array.getElem?_eq_some_iff.1 hk).1).trans hk
/-- What a writer's call leaves: the builder with its bytes; all else as it was, but rows of bytes. -/
structure WP (B p : Nat) (l : List UInt8) (W W' : World) : Prop where
  is : IsW B p (Lib.byteCells l) W'
  below : Below B W W'
  others : Lib.OthersKept 5 (some p) W W'
theorem WP.trans {B p : Nat} {l l' : List UInt8} {W W1 W2 : World} (h : WP B p l W W1) (k : WP B p l' W1 W2) : WP B p l' W W2 := ⟨k.is, h.below.trans k.below, h.others.trans k.others⟩
theorem isW_below {B p : Nat} {bs : List Value} {W W' : World} (h : IsW B p bs W) (hb : Below W.heap.size W W') : IsW B p bs W' := isW_grown h (below_none hb) (fun r e => by cases e)
theorem WP.step {B p : Nat} {l : List UInt8} {W W' : World} (h : IsW B p (Lib.byteCells l) W) (hb : Below W.heap.size W W') (hB : B ≤ W.heap.size) : WP B p l W W' := ⟨isW_below h hb, hb.mono hB, others_below hb⟩
theorem WP.blk {B p : Nat} {l : List UInt8} {W W' : World} (h : WP B p l W W') {k : Nat} {cs : Array Value} {t : TypeId} (hk : Blk W k cs t) (hkp : k ≠ p) (ht : t ≠ 5) : Blk W' k cs t := othersW_blk h.others hk hkp ht
theorem cells_app (l : List UInt8) (s : ByteArray) : Lib.byteCells l ++ Lib.strCells s = Lib.byteCells (l ++ s.data.toList) := by
  simp [Lib.byteCells, Lib.strCells]
theorem cells_snoc (l : List UInt8) (c : UInt8) : Lib.byteCells l ++ [.int .u8 (c.toNat : Int)] = Lib.byteCells (l ++ [c]) := by
  simp [Lib.byteCells]
theorem cells_len (l : List UInt8) : (Lib.byteCells l).length = l.length := Lib.byteCells_length l

set_option maxHeartbeats 2000000 in
set_option maxRecDepth 100000 in
theorem w_bytes (B p k : Nat) (l : List UInt8) (c : UInt8) (W : World) (h : IsW B p (Lib.byteCells l) W) (hB : B ≤ W.heap.size) (hlen : l.length ≤ 1000000000) (hk : Blk W k #[.int .u8 (c.toNat : Int)] 5) :
    Calls Tryz.prog 105 #[.pointer (some ⟨p, 0, none⟩), .slice (some ⟨k, 0, none⟩) 1 1] W fun e W' => e = .returned (.tuple #[]) ∧ WP B p (l ++ [c]) W W' := by
  have HB := Lib.hid (wb_WriteByte B p (Lib.byteCells l) (c.toNat : Int) W h (by rw [cells_len]; omega) hB)
  rw [cells_snoc] at HB
  have hc := hk.cell 0
  clear h hk
  go_enter Tryz.func105, Tryz.ntmps105
  go_wp2_with fail
  refine wp_loop_rounds 2 ?_
  rw [rounds_succ]
  go_wp2_with fail
  refine HB.out.mono ?_
  rintro e W1 ⟨rfl, h1, hb1, ho1⟩
  go_wp2_with fail
  rw [rounds_succ]
  go_wp2_with fail
  go_end0
  exact ⟨rfl, h1.is, hb1, ho1⟩

set_option maxHeartbeats 2000000 in
set_option maxRecDepth 100000 in
theorem w_head (B p : Nat) (l : List UInt8) (maj n : Nat) (hmaj : maj ≤ 7) (hn : n < 18446744073709551616) (W : World) (h : IsW B p (Lib.byteCells l) W) (hB : B ≤ W.heap.size) (hlen : l.length ≤ 1000000000) :
    Calls Tryz.prog 106 #[.pointer (some ⟨p, 0, none⟩), .int .i64 maj, .int .u64 n] W fun e W' => e = .returned (.tuple #[]) ∧ WP B p (l ++ makeL maj n) W W' := by
  have HM := Lib.hid (head_Make maj n hmaj hn W)
  have hml : (makeL maj n).length ≤ 100 := by
    rw [makeL_length]
    rcases leastN_is n hn with ⟨_, _, h3⟩ | ⟨_, h1, h2, h3, _⟩
    · omega
    · have : ∀ m, m ≤ 3 → 2 ^ m ≤ 8 := fun m hm => Nat.pow_le_pow_right (show 0 < 2 by decide) hm
      have := this ((leastN n).1 - 24) (by omega)
      omega
  obtain ⟨mk, hmk⟩ : ∃ mk, makeL maj n = mk := ⟨_, rfl⟩
  rw [hmk] at HM hml ⊢
  have HS := Lib.hid (fun W1 (hb : Below W.heap.size W W1) => wb_WriteString B p (Lib.byteCells l) ⟨mk.toArray⟩ W1 (isW_below h hb) (by rw [cells_len]; have : (⟨mk.toArray⟩ : ByteArray).size = mk.length := rfl; omega) (Nat.le_trans hB hb.size))
  rw [cells_app] at HS
  have H := Lib.hid h
  clear h hmk hn
  go_enter Tryz.func106, Tryz.ntmps106
  go_wp2_with fail
  refine HM.out.mono ?_
  rintro e W1 ⟨rfl, hb1⟩
  go_wp2_with fail
  refine (HS.out W1 hb1).mono ?_
  rintro e W2 ⟨rfl, h2, hb2, ho2⟩
  have hw := (WP.step H.out hb1 hB).trans (l' := l ++ mk) ⟨h2.is, hb2, ho2⟩
  go_wp2_with fail
  go_end0
  exact ⟨rfl, hw⟩
end Go.Proofs.YtffaefdnlgfdbaaGreatDoor
