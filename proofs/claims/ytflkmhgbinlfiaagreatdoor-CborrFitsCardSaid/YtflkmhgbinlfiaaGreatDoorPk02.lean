/- The texts TreeB, TreeC, TreeD, HeadA, HeadL, HeadM, HeadD, HeadP, put together. -/
import Derived.Test.YtflkmhgbinlfiaaGreatDoorPk01
import Derived.BigQuiet
import Derived.Deep.QuietTactic
import Derived.StillTailTactics
import Derived.Deep.AppendLies
import Derived.Laws.Rows
import Derived.Laws.Tables
import Derived.Lib.Hide
import Derived.Outline
namespace Go.Proofs.YtflkmhgbinlfiaaGreatDoor
open Go.RowKit Go.Shelf

deriving instance DecidableEq for Own
mutual
def sameT : Tr → Tr → Bool
  | .nd o l, .nd o' l' => decide (o = o') && decide (l.length = l'.length) && sameL l l'
def sameL : List Tr → List Tr → Bool
  | [], _ => true
  | _ :: _, [] => true
  | t :: l, t' :: l' => sameT t t' && sameL l l'
end
theorem sameT_eq (t t' : Tr) : sameT t t' = (decide (t.own = t'.own) && decide (t.kids.length = t'.kids.length) && sameL t.kids t'.kids) := by
  cases t
  cases t'
  rw [sameT]
  rfl
theorem sameL_drop : ∀ (l l' : List Tr) (k : Nat) (h : k < l.length) (h' : k < l'.length), sameL (l.drop k) (l'.drop k) = (sameT l[k] l'[k] && sameL (l.drop (k + 1)) (l'.drop (k + 1))) := by
  intro l l' k h h'
  rw [List.drop_eq_getElem_cons h, List.drop_eq_getElem_cons h', sameL]

abbrev cellsV (o : Own) (v : Value) : Array Value := #[.int .i64 o.kind, .bool o.b, .bool o.neg, .string o.dg, .int .i64 o.ex, .int .u64 o.u, .int .i64 o.wd, .string o.s, v]

theorem box2 (w : World) (cs cs' : Array Value) (t t' : TypeId) : Below w.heap.size w ((w.alloc (.cells cs t)).alloc (.cells cs' t')) ∧ Blk ((w.alloc (.cells cs t)).alloc (.cells cs' t')) w.heap.size cs t ∧ Blk ((w.alloc (.cells cs t)).alloc (.cells cs' t')) (w.heap.size + 1) cs' t' := by
  refine ⟨((Below.refl w.heap.size w).alloc (Nat.le_refl _) _).alloc (by simp) _, (Blk.new w _ _).alloc _, ?_⟩
  have := Blk.new (w.alloc (.cells cs t)) cs' t'
  rw [World.size_alloc] at this
  exact this

end Go.Proofs.YtflkmhgbinlfiaaGreatDoor
namespace Go.Proofs.YtflkmhgbinlfiaaGreatDoor
open Go.RowKit Go.Shelf


theorem infoNode : (Tryz.prog.info? 28).map (fun i => (i.zero, i.size, i.bytes)) = some (some (.agg #[.int .i64 0, .bool false, .bool false, .string ⟨#[]⟩, .int .i64 0, .int .u64 0, .int .i64 0, .string ⟨#[]⟩, .slice none 0 0]), 9, 104) := by kernel_rfl

theorem own_sliceT {W : World} {base size n : Nat} {e : TypeId} {v : Value} {xs : List Value} (h : W.ownsRow base e size v n xs) : ∃ A c, v = .slice A n c := by
  rcases h.2 with ⟨hv, hn⟩ | ⟨g, cap, cur, hv, _⟩
  · exact ⟨none, 0, by rw [hv, hn]⟩
  · exact ⟨_, _, hv⟩

theorem cells_newT (W : World) (cs : List Value) (t : TypeId) : ∀ j u, cs[j]? = some u → (W.alloc (.cells cs.toArray t)).cell? ((⟨W.heap.size, 0, none⟩ : Addr).add j) = some u := by
  intro j u hj
  have ea : (⟨W.heap.size, 0, none⟩ : Addr).add j = ⟨W.heap.size, j, none⟩ := by
    unfold Addr.add
    split
    · rename_i h0
      rw [h0]
    · simp
  rw [ea, (Blk.new W cs.toArray t).cell j]
  simpa using hj

end Go.Proofs.YtflkmhgbinlfiaaGreatDoor
namespace Go.Proofs.YtflkmhgbinlfiaaGreatDoor
open Go.RowKit Go.Shelf

theorem blk_row {W : World} {p : Nat} {cs : Array Value} {t : TypeId} (h : Blk W p cs t) (cs' : Array Value) : Blk (W.setRow p cs') p cs' t := setRow_heap _ _ _ _ _ _ h
theorem blk_row_other {W : World} {p q : Nat} {cs : Array Value} {t : TypeId} (h : Blk W q cs t) (hne : q ≠ p) (cs' : Array Value) : Blk (W.setRow p cs') q cs t := (setRow_other _ _ _ _ hne).trans h
theorem grown_row (w : World) (p : Nat) (cs : Array Value) : w.grownBy (w.setRow p cs) (some p) :=
  ⟨rfl, rfl, rfl, by simp, fun k _ hk => setRow_other _ _ _ _ (fun e => hk (by rw [e]))⟩

end Go.Proofs.YtflkmhgbinlfiaaGreatDoor
namespace Go.Proofs.YtflkmhgbinlfiaaGreatDoor
open Go.RowKit Go.Shelf

theorem head_sizes (w : World) :
    Calls Tryz.prog 78 #[] w fun e w' => e = .returned (.agg #[.int .i64 24, .int .i64 1, .int .i64 25, .int .i64 2, .int .i64 26, .int .i64 4, .int .i64 27, .int .i64 8]) ∧ Below w.heap.size w w' := by
  go_enter Tryz.func78, Tryz.ntmps78
  go_wp2
  exact bodyPost_ret (v := .agg #[.int .i64 24, .int .i64 1, .int .i64 25, .int .i64 2, .int .i64 26, .int .i64 4, .int .i64 27, .int .i64 8]) (by simp [results, Tryz.results78, go_sem]) rfl ⟨rfl, (Below.refl _ _).alloc (Nat.le_refl _) _⟩


attribute [local go_sem] Oper.semAt_some
attribute [local go_sem] wide_fn wide_depth



theorem szA0 (w : World) : (Instr.index 143 (.agg #[.int .i64 24, .int .i64 1, .int .i64 25, .int .i64 2, .int .i64 26, .int .i64 4, .int .i64 27, .int .i64 8]) (.int .i64 0)).run Tryz.prog w = .ok (.agg #[.int .i64 24, .int .i64 1]) w := by kernel_rfl
theorem szA1 (w : World) : (Instr.index 143 (.agg #[.int .i64 24, .int .i64 1, .int .i64 25, .int .i64 2, .int .i64 26, .int .i64 4, .int .i64 27, .int .i64 8]) (.int .i64 1)).run Tryz.prog w = .ok (.agg #[.int .i64 25, .int .i64 2]) w := by kernel_rfl
theorem szA2 (w : World) : (Instr.index 143 (.agg #[.int .i64 24, .int .i64 1, .int .i64 25, .int .i64 2, .int .i64 26, .int .i64 4, .int .i64 27, .int .i64 8]) (.int .i64 2)).run Tryz.prog w = .ok (.agg #[.int .i64 26, .int .i64 4]) w := by kernel_rfl
theorem szA3 (w : World) : (Instr.index 143 (.agg #[.int .i64 24, .int .i64 1, .int .i64 25, .int .i64 2, .int .i64 26, .int .i64 4, .int .i64 27, .int .i64 8]) (.int .i64 3)).run Tryz.prog w = .ok (.agg #[.int .i64 27, .int .i64 8]) w := by kernel_rfl



end Go.Proofs.YtflkmhgbinlfiaaGreatDoor
namespace Go.Proofs.YtflkmhgbinlfiaaGreatDoor
open Go.RowKit Go.Shelf
attribute [local go_sem] Oper.semAt_some wide_fn wide_depth

def leastOf (n : Int) : Int × Int := if n < 24 then (n, 0) else if n < 256 then (24, 1) else if n < 65536 then (25, 2) else if n < 4294967296 then (26, 4) else (27, 8)

end Go.Proofs.YtflkmhgbinlfiaaGreatDoor
namespace Go.Proofs.YtflkmhgbinlfiaaGreatDoor
open Go.RowKit Go.Shelf




/-- The first byte of a head, the bytes behind it: k of them, of n, the greatest ones first. -/
def firstByte (maj info : Nat) : UInt8 := UInt8.ofNat (32 * maj + info)
def beByte (n k i : Nat) : UInt8 := UInt8.ofNat (n / 2 ^ (8 * (k - 1 - i)))
def beBytes (n k : Nat) : List UInt8 := (List.range k).map (beByte n k)
def leastN (n : Nat) : Nat × Nat := ((leastOf n).1.toNat, (leastOf n).2.toNat)
def makeL (maj n : Nat) : List UInt8 := firstByte maj (leastN n).1 :: beBytes n (leastN n).2



end Go.Proofs.YtflkmhgbinlfiaaGreatDoor
namespace Go.Proofs.YtflkmhgbinlfiaaGreatDoor

def beVal (l : List UInt8) : Nat := l.foldl (fun a b => a * 256 + b.toNat) 0
structure ReadR where
  maj : Nat
  info : Nat
  arg : Nat
  rest : List UInt8
  err : Nat
def readL (l : List UInt8) : ReadR :=
  match l with
  | [] => ⟨0, 0, 0, [], 100⟩
  | b :: r =>
    if b.toNat % 32 < 24 then ⟨b.toNat / 32, b.toNat % 32, b.toNat % 32, r, 0⟩
    else if b.toNat % 32 = 31 then ⟨b.toNat / 32, 31, 0, r, 0⟩
    else if 27 < b.toNat % 32 then ⟨0, 0, 0, l, 101⟩
    else if r.length < 2 ^ (b.toNat % 32 - 24) then ⟨0, 0, 0, l, 100⟩
    else ⟨b.toNat / 32, b.toNat % 32, beVal (r.take (2 ^ (b.toNat % 32 - 24))), r.drop (2 ^ (b.toNat % 32 - 24)), 0⟩

theorem beVal_snoc (l : List UInt8) (b : UInt8) : beVal (l ++ [b]) = beVal l * 256 + b.toNat := by simp [beVal]
end Go.Proofs.YtflkmhgbinlfiaaGreatDoor
namespace Go.Proofs.YtflkmhgbinlfiaaGreatDoor







theorem beVal_lt (l : List UInt8) : beVal l < 2 ^ (8 * l.length) := by
  suffices h : ∀ (l : List UInt8), beVal l.reverse < 2 ^ (8 * l.length) by
    have := h l.reverse
    simpa using this
  intro l
  induction l with
  | nil => decide
  | cons b l ih =>
    rw [List.reverse_cons, beVal_snoc, List.length_cons, Nat.mul_add, Nat.pow_add]
    have := b.toNat_lt
    omega




end Go.Proofs.YtflkmhgbinlfiaaGreatDoor
