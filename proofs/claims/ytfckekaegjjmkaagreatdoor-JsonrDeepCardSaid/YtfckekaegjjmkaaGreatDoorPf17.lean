/- The texts RowC, CrQ, put together. -/
import Derived.Test.YtfckekaegjjmkaaGreatDoorPf02
import Derived.Deep.MidRow
import Derived.Test.YtfckekaegjjmkaaGreatDoorPf09
namespace Go.Proofs.YtfckekaegjjmkaaGreatDoor
open Go.RowKit Go.Shelf

def bs (l : List UInt8) : ByteArray := ⟨l.toArray⟩
theorem grown_drew (w : World) (r : Option Nat) (n : Nat) : w.grownBy (w.drewN n) r := ⟨rfl, rfl, rfl, Nat.le_refl _, fun _ _ _ => rfl⟩

theorem grown_at {A B C : World} {p q : Nat} (h : A.grownBy B (some p)) (k : B.grownBy C (some q)) (hq : A.heap.size ≤ q) : A.grownBy C (some p) :=
  ⟨k.os.trans h.os, k.tape.trans h.tape, k.output.trans h.output, Nat.le_trans h.size k.size, fun i hi hr => (k.block i (Nat.lt_of_lt_of_le hi h.size) (fun e => by injection e with e; omega)).trans (h.block i hi hr)⟩
theorem grown_of {A B C : World} {r : Option Nat} (h : A.grownBy B r) (k : Below B.heap.size B C) : A.grownBy C r := grown_trans h (below_grown k r)

theorem below_of_grown {w0 w w' : World} {p : Nat} (hb : Below w0.heap.size w0 w) (hp : w0.heap.size ≤ p) (hlt : p < w.heap.size) (hg : w.grownBy w' (some p)) : Below w0.heap.size w0 w' := hb.trans (grown_below hg hp hlt)

theorem LAt.keptC {W W' : World} {S : Nat → Prop} {row : Option Nat} (hg : W.grownBy W' row) (hrow : ∀ r, row = some r → ∃ o : Obj, W.heap[r]? = some o ∧ o.isCells = false) : ∀ {d : Nat} {l : List Tr} {v : Value}, LAt W S d l v → LAt W' S d l v
  | 0, _, _, h => h
  | d + 1, l, v, ⟨A, c, hv, hl, h⟩ => ⟨A, c, hv, hl, fun i hi => by
      obtain ⟨a, x, ha, hs, ho, hc, hkk⟩ := h i hi
      exact ⟨a, x, ha, hs, ho, fun j u hu => cell_kept (hc j u hu) hg hrow, hkk.keptC hg hrow⟩⟩
theorem RowT.keptC {W W' : World} {S : Nat → Prop} {row : Option Nat} (hg : W.grownBy W' row) (hrow : ∀ r, row = some r → ∃ o : Obj, W.heap[r]? = some o ∧ o.isCells = false) {d : Nat} : ∀ {l : List Tr} {xs : List Value}, RowT W S d l xs → RowT W' S d l xs
  | [], _, h => h
  | _ :: _, _, ⟨y, r, hx, ho, hl, h⟩ => ⟨y, r, hx, ho, hl.keptC hg hrow, h.keptC hg hrow⟩
theorem row_cells {W : World} {base size n : Nat} {e : TypeId} {v : Value} {xs : List Value} (h : W.ownsRow base e size v n xs) {g : Nat} (hg : v.ownBlock = some g) : ∃ o : Obj, W.heap[g]? = some o ∧ o.isCells = true := by
  rcases h.2 with ⟨rfl, _⟩ | ⟨g', cap, cur, rfl, _, hh, _⟩
  · cases hg
  · have : g' = g := by simpa [Value.ownBlock] using hg
    subst this
    exact ⟨_, hh, rfl⟩
theorem row_keptC {W W' : World} {row : Option Nat} {base size n : Nat} {e : TypeId} {v : Value} {xs : List Value} (h : W.ownsRow base e size v n xs) (hg : W.grownBy W' row) (hr : ∀ r, row = some r → ∃ o : Obj, W.heap[r]? = some o ∧ o.isCells = false) : W'.ownsRow base e size v n xs :=
  h.kept hg (by
    cases hv : v.ownBlock with
    | none => exact .inl rfl
    | some g =>
      refine .inr (fun e => ?_)
      obtain ⟨o, ho, hc⟩ := row_cells h hv
      obtain ⟨o', ho', hc'⟩ := hr g e.symm
      rw [ho] at ho'
      cases ho'
      rw [hc] at hc'
      cases hc')
theorem row_there {w : World} {base n cap g : Nat} {e : TypeId} {xs : List Value} (h : w.ownsRow base e 9 (.slice (some ⟨g, 0, none⟩) (n + 1) cap) (n + 1) xs) : w.there g (n * 9) 9 := by
  rcases h.2 with ⟨h2, _⟩ | ⟨g', cap', cur, hv, hb, hh, hn, hc, hs, ht⟩
  · cases h2
  · injection hv with hv _ hv2
    injection hv with hv
    injection hv with hv
    subst hv hv2
    have hk : Blk w g cur e := hh
    intro j hj
    have hlt : n * 9 + j < cur.size := by rw [hs]; omega
    refine ⟨?_, hk.frozen _⟩
    rw [hk.cell (n * 9 + j), Array.getElem?_eq_getElem hlt]
    rfl
theorem blk_at {W : World} {k : Nat} (h : W.heap.size = k) (cs : Array Value) (t : TypeId) : Blk (W.alloc (.cells cs t)) k cs t := h ▸ Blk.new W cs t
theorem grown_refl (w : World) (r : Option Nat) : w.grownBy w r := ⟨rfl, rfl, rfl, Nat.le_refl _, fun _ _ _ => rfl⟩
theorem grown_C {A B C : World} {p : Nat} {row : Option Nat} (h : A.grownBy B (some p)) (k : B.grownBy C row) {n : Nat} (hn : A.heap.size ≤ n) (hr : ∀ r, row = some r → n ≤ r) : A.grownBy C (some p) :=
  ⟨k.os.trans h.os, k.tape.trans h.tape, k.output.trans h.output, Nat.le_trans h.size k.size, fun i hi hp => (k.block i (Nat.lt_of_lt_of_le hi h.size) (fun e => by have := hr i e.symm; omega)).trans (h.block i hi hp)⟩

theorem blkC {W W' : World} {b : Nat} {cs : Array Value} {t : TypeId} (h : Blk W b cs t) {row : Option Nat} (hg : W.grownBy W' row) (hr : ∀ r, row = some r → ∃ o : Obj, W.heap[r]? = some o ∧ o.isCells = false) : Blk W' b cs t :=
  blk_own (β := Unit) b t (fun _ => cs) () W W' row h hg hr
theorem own_u (k : Int) (u : Nat) (wd : Int) (hk : 0 ≤ k ∧ k ≤ 100) (hu : u < 18446744073709551616) (hw : 0 ≤ wd ∧ wd ≤ 100) : OwnOk { zeroO with kind := k, u := (u : Int), wd := wd } :=
  ⟨by show (0 : Nat) ≤ _; omega, by show (0 : Nat) ≤ _; omega, by show _ ≤ k ∧ k < _; omega, by show _ ≤ (0 : Int) ∧ (0 : Int) < _; omega, by show (0 : Int) ≤ (u : Int) ∧ (u : Int) < _; omega, by show _ ≤ wd ∧ wd < _; omega⟩

theorem own_n {n : Bool} {g : ByteArray} {e : Int} (h : decOk n g e = true) : OwnOk { zeroO with kind := 3, neg := n, dg := g, ex := e } := by
  unfold decOk at h
  rw [Bool.and_eq_true, Bool.and_eq_true, decide_eq_true_iff] at h
  obtain ⟨_, h2, h3⟩ := h
  have he : -100 ≤ e ∧ e ≤ 100 := by
    split at h3
    · rw [Bool.and_eq_true, decide_eq_true_iff] at h3
      omega
    · rw [Bool.and_eq_true, Bool.and_eq_true, decide_eq_true_iff, decide_eq_true_iff] at h3
      exact ⟨h3.1, h3.2.1⟩
  exact ⟨by show g.size ≤ _; omega, by show (0 : Nat) ≤ _; omega, by show _ ≤ (3 : Int) ∧ (3 : Int) < _; omega, by show _ ≤ e ∧ e < _; omega, by show (0 : Int) ≤ (0 : Int) ∧ (0 : Int) < _; omega, by show _ ≤ (0 : Int) ∧ (0 : Int) < _; omega⟩
theorem blk_gb {W W' : World} {p q : Nat} {cs : Array Value} {t : TypeId} (h : Blk W q cs t) (hg : W.grownBy W' (some p)) (hne : q ≠ p) : Blk W' q cs t := (hg.block q h.lt (fun e => hne (by injection e))).trans h
end Go.Proofs.YtfckekaegjjmkaaGreatDoor
namespace Go.Proofs.YtfckekaegjjmkaaGreatDoor
open Go.RowKit Go.Shelf

theorem set_at (l : List Value) (o : Nat) (v : Value) (h : o < l.length) : l.set o v = l.take o ++ v :: l.drop (o + 1) := by
  rw [List.set_eq_take_append_cons_drop, if_pos h]
theorem cells_set (g : Nat) (e : TypeId) : ∀ (vs : List Value) (o : Nat) (w : World) (cur : Array Value), w.heap[g]? = some (.cells cur e (0, 0)) → o + vs.length ≤ cur.size →
    ∃ cur' : Array Value, (w.setCells g o vs).heap[g]? = some (.cells cur' e (0, 0)) ∧ cur'.toList = cur.toList.take o ++ vs ++ cur.toList.drop (o + vs.length)
  | [], o, w, cur, h, _ => ⟨cur, h, by simp⟩
  | v :: r, o, w, cur, h, hl => by
    rw [List.length_cons] at hl
    have hb : Blk w g cur e := h
    have h1 : (w.setCell ⟨g, o, none⟩ v).heap[g]? = some (.cells (cur.setIfInBounds o v) e (0, 0)) := hb.set o v
    obtain ⟨cur', h2, h3⟩ := cells_set g e r (o + 1) _ (cur.setIfInBounds o v) h1 (by simp; omega)
    refine ⟨cur', h2, ?_⟩
    have ho : o < cur.toList.length := by simp; omega
    rw [h3, Array.toList_setIfInBounds, set_at _ _ _ ho, List.length_cons]
    have e1 : (cur.toList.take o ++ v :: cur.toList.drop (o + 1)).take (o + 1) = cur.toList.take o ++ [v] := by
      rw [List.take_append, List.take_of_length_le (by simp; omega)]
      simp
      rw [show o + 1 - min o cur.size = 1 by omega]
      rfl
    have e2 : (cur.toList.take o ++ v :: cur.toList.drop (o + 1)).drop (o + 1 + r.length) = cur.toList.drop (o + (r.length + 1)) := by
      rw [List.drop_append, List.drop_eq_nil_of_le (by simp; omega), List.nil_append]
      rw [show o + 1 + r.length - (cur.toList.take o).length = r.length + 1 by simp; omega, List.drop_succ_cons, List.drop_drop]
      congr 1
      omega
    rw [e1, e2]
    simp
/-- The last element of an owned row, written anew. -/
theorem row_setLast {w : World} {base n cap g : Nat} {e : TypeId} {xs zs ys : List Value} (h : w.ownsRow base e 9 (.slice (some ⟨g, 0, none⟩) (n + 1) cap) (n + 1) (xs ++ zs)) (hx : xs.length = n * 9) (hy : ys.length = 9) :
    (w.setCells g (n * 9) ys).ownsRow base e 9 (.slice (some ⟨g, 0, none⟩) (n + 1) cap) (n + 1) (xs ++ ys) := by
  obtain ⟨h1, h2⟩ := h
  rcases h2 with ⟨h2, _⟩ | ⟨g', cap', cur, hv, hb, hh, hn, hc, hs, ht⟩
  · cases h2
  · injection hv with hv _ hv2
    injection hv with hv
    injection hv with hv
    subst hv hv2
    obtain ⟨cur', k1, k2⟩ := cells_set g e ys (n * 9) w cur hh (by rw [hy, hs]; omega)
    have hsz : cur.toList.length = cap * 9 := by simpa using hs
    refine ⟨by rw [List.length_append, hx, hy]; omega, .inr ⟨g, cap, cur', rfl, hb, k1, hn, hc, ?_, ?_⟩⟩
    · have := congrArg List.length k2
      rw [List.length_append, List.length_append, List.length_take, List.length_drop, hy] at this
      have h3 : cur'.toList.length = cur'.size := by simp
      omega
    · have hp : cur.toList.take (n * 9) = xs := by
        have := congrArg (List.take (n * 9)) ht
        rw [List.take_take, Nat.min_eq_left (by omega), List.take_append_of_le_length (by omega), ← hx, List.take_length, hx] at this
        exact this
      rw [k2, hp, List.take_append_of_le_length (by rw [List.length_append, hx, hy]; omega), List.take_of_length_le (by rw [List.length_append, hx, hy]; omega)]
end Go.Proofs.YtfckekaegjjmkaaGreatDoor
