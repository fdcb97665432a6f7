/- The texts TreeA, TreeB, TreeC, put together. -/
import Derived.Test.YtfckekaegjjmkaaGreatDoorPg01
import Derived.BigQuiet
import Derived.Deep.QuietTactic
import Derived.StillTailTactics
import Derived.Deep.AppendLies
import Derived.Laws.Rows
import Derived.Laws.Tables
namespace Go.Proofs.YtfckekaegjjmkaaGreatDoor
open Go.RowKit Go.Shelf

/-- What a node has without its list. -/
structure Own where
  kind : Int
  b : Bool
  neg : Bool
  dg : ByteArray
  ex : Int
  u : Int
  wd : Int
  s : ByteArray
inductive Tr where
  | nd (o : Own) (l : List Tr)
def Tr.own : Tr → Own
  | .nd o _ => o
def Tr.kids : Tr → List Tr
  | .nd _ l => l
def nodeCells (o : Own) (v : Value) : List Value := [.int .i64 o.kind, .bool o.b, .bool o.neg, .string o.dg, .int .i64 o.ex, .int .u64 o.u, .int .i64 o.wd, .string o.s, v]
def nodeV (o : Own) (v : Value) : Value := .agg #[.int .i64 o.kind, .bool o.b, .bool o.neg, .string o.dg, .int .i64 o.ex, .int .u64 o.u, .int .i64 o.wd, .string o.s, v]
abbrev zeroO : Own := ⟨0, false, false, ⟨#[]⟩, 0, 0, 0, ⟨#[]⟩⟩
structure OwnOk (o : Own) : Prop where
  dg : o.dg.size ≤ 9223372036854775807
  s : o.s.size ≤ 9223372036854775807
  kind : -9223372036854775808 ≤ o.kind ∧ o.kind < 9223372036854775808
  ex : -9223372036854775808 ≤ o.ex ∧ o.ex < 9223372036854775808
  u : 0 ≤ o.u ∧ o.u < 18446744073709551616
  wd : -9223372036854775808 ≤ o.wd ∧ o.wd < 9223372036854775808

/-- The slice v holds the nodes l, all of it in blocks of S, d deep at most. -/
def LAt (W : World) (S : Nat → Prop) : Nat → List Tr → Value → Prop
  | 0, l, v => l = [] ∧ ∃ A c, v = .slice A 0 c
  | d + 1, l, v => ∃ A c, v = .slice A l.length c ∧ (l.length ≤ 9223372036854775807 ∧ l.length ≤ c) ∧ ∀ i (h : i < l.length), ∃ a x, A = some a ∧ S a.block ∧ OwnOk l[i].own ∧
      (∀ j u, (nodeCells l[i].own x)[j]? = some u → W.cell? (a.add (i * 9 + j)) = some u) ∧ LAt W S d l[i].kids x
/-- The slice v holds the nodes l, all of it below block B. -/
abbrev ListAt (W : World) (B : Nat) : Nat → List Tr → Value → Prop := LAt W (fun q => q < B)

theorem cell_keep {W W' : World} {a : Addr} (h : W'.heap[a.block]? = W.heap[a.block]?) : W'.cell? a = W.cell? a := by
  unfold World.cell?
  rw [h]
theorem LAt.keep {W W' : World} {S : Nat → Prop} (hk : ∀ q, S q → W'.heap[q]? = W.heap[q]?) : ∀ {d : Nat} {l : List Tr} {v : Value}, LAt W S d l v → LAt W' S d l v
  | 0, _, _, h => h
  | d + 1, l, v, ⟨A, c, hv, hl, h⟩ => ⟨A, c, hv, hl, fun i hi => by
      obtain ⟨a, x, ha, hs, ho, hc, hkk⟩ := h i hi
      exact ⟨a, x, ha, hs, ho, fun j u hu => by
        rw [← hc j u hu]
        exact cell_keep (by rw [add_block]; exact hk _ hs), hkk.keep hk⟩⟩
theorem LAt.mono {W : World} {S S' : Nat → Prop} (hS : ∀ q, S q → S' q) : ∀ {d : Nat} {l : List Tr} {v : Value}, LAt W S d l v → LAt W S' d l v
  | 0, _, _, h => h
  | d + 1, l, v, ⟨A, c, hv, hl, h⟩ => ⟨A, c, hv, hl, fun i hi => by
      obtain ⟨a, x, ha, hs, ho, hc, hkk⟩ := h i hi
      exact ⟨a, x, ha, hS _ hs, ho, hc, hkk.mono hS⟩⟩
theorem LAt.below {W W' : World} {B m : Nat} (hb : Below m W W') (hm : B ≤ m) {d : Nat} {l : List Tr} {v : Value} (h : ListAt W B d l v) : ListAt W' B d l v :=
  LAt.keep (fun q hq => hb.block q (by omega)) h
theorem LAt.more {W : World} {B B' : Nat} (hB : B ≤ B') {d : Nat} {l : List Tr} {v : Value} (h : ListAt W B d l v) : ListAt W B' d l v :=
  LAt.mono (fun q hq => by omega) h
theorem LAt.slice {W : World} {S : Nat → Prop} : ∀ {d : Nat} {l : List Tr} {v : Value}, LAt W S d l v → l.length ≤ 9223372036854775807 ∧ ∃ A c, v = .slice A l.length c
  | 0, _, _, ⟨h, A, c, hv⟩ => by
    subst h
    exact ⟨by simp, A, c, hv⟩
  | _ + 1, _, _, ⟨A, c, hv, hl, _⟩ => ⟨hl.1, A, c, hv⟩
theorem LAt.cap {W : World} {S : Nat → Prop} : ∀ {d : Nat} {l : List Tr} {A : Option Addr} {n c : Nat}, LAt W S d l (.slice A n c) → l.length ≤ c
  | 0, _, _, _, _, ⟨h, _⟩ => by
    subst h
    exact Nat.zero_le _
  | _ + 1, _, _, _, _, ⟨_, _, hv, hl, _⟩ => by
    injection hv with _ _ hc
    rw [hc]
    exact hl.2
theorem LAt.nil (W : World) (S : Nat → Prop) (d : Nat) (A : Option Addr) (c : Nat) : LAt W S d [] (.slice A 0 c) := by
  cases d with
  | zero => exact ⟨rfl, A, c, rfl⟩
  | succ d => exact ⟨A, c, rfl, by simp, fun i hi => absurd hi (by simp)⟩
theorem LAt.deeper {W : World} {S : Nat → Prop} : ∀ {d d' : Nat} {l : List Tr} {v : Value}, d ≤ d' → LAt W S d l v → LAt W S d' l v
  | 0, d', l, v, _, ⟨h, A, c, hv⟩ => by
    subst h hv
    exact LAt.nil W S d' A c
  | d + 1, 0, _, _, h, _ => absurd h (by omega)
  | d + 1, d' + 1, l, v, hd, ⟨A, c, hv, hl, h⟩ => ⟨A, c, hv, hl, fun i hi => by
      obtain ⟨a, x, ha, hlt, ho, hc, hk⟩ := h i hi
      exact ⟨a, x, ha, hlt, ho, hc, hk.deeper (by omega)⟩⟩

/-- The node's nine cells at an address, as the walk spells them. -/
structure NodeAt (W : World) (a : Addr) (o : Own) (x : Value) : Prop where
  c0 : W.cell? a = some (.int .i64 o.kind)
  c1 : W.cell? ⟨a.block, a.off + 1, none⟩ = some (.bool o.b)
  c2 : W.cell? ⟨a.block, a.off + 2, none⟩ = some (.bool o.neg)
  c3 : W.cell? ⟨a.block, a.off + 3, none⟩ = some (.string o.dg)
  c4 : W.cell? ⟨a.block, a.off + 4, none⟩ = some (.int .i64 o.ex)
  c5 : W.cell? ⟨a.block, a.off + 5, none⟩ = some (.int .u64 o.u)
  c6 : W.cell? ⟨a.block, a.off + 6, none⟩ = some (.int .i64 o.wd)
  c7 : W.cell? ⟨a.block, a.off + 7, none⟩ = some (.string o.s)
  c8 : W.cell? ⟨a.block, a.off + 8, none⟩ = some x
theorem NodeAt.of {W : World} {a : Addr} {o : Own} {x : Value} {k : Nat} (h : ∀ j u, (nodeCells o x)[j]? = some u → W.cell? (a.add (k + j)) = some u) : NodeAt W (a.add k) o x where
  c0 := h 0 _ rfl
  c1 := by rw [← add_field a k 0]; exact h 1 _ rfl
  c2 := by rw [← add_field a k 1]; exact h 2 _ rfl
  c3 := by rw [← add_field a k 2]; exact h 3 _ rfl
  c4 := by rw [← add_field a k 3]; exact h 4 _ rfl
  c5 := by rw [← add_field a k 4]; exact h 5 _ rfl
  c6 := by rw [← add_field a k 5]; exact h 6 _ rfl
  c7 := by rw [← add_field a k 6]; exact h 7 _ rfl
  c8 := by rw [← add_field a k 7]; exact h 8 _ rfl
theorem LAt.at_ {W : World} {S : Nat → Prop} {d : Nat} {l : List Tr} {A : Option Addr} {n c : Nat} (h : LAt W S d l (.slice A n c)) {k : Nat} (hk : k < l.length) :
    ∃ d' a x, d = d' + 1 ∧ A = some a ∧ S a.block ∧ OwnOk l[k].own ∧ NodeAt W (a.add (k * 9)) l[k].own x ∧ LAt W S d' l[k].kids x := by
  cases d with
  | zero =>
    obtain ⟨rfl, _⟩ := h
    simp at hk
  | succ d =>
    obtain ⟨A', c', hv, _, h⟩ := h
    obtain ⟨a, x, ha, hlt, ho, hc, hkk⟩ := h k hk
    have : A = A' := by injection hv
    subst this
    exact ⟨d, a, x, rfl, ha, hlt, ho, NodeAt.of hc, hkk⟩

/-- The cells of a row of nodes, their lists in blocks of S. -/
def RowT (W : World) (S : Nat → Prop) (d : Nat) : List Tr → List Value → Prop
  | [], xs => xs = []
  | t :: l, xs => ∃ y r, xs = nodeCells t.own y ++ r ∧ OwnOk t.own ∧ LAt W S d t.kids y ∧ RowT W S d l r
theorem RowT.keep {W W' : World} {S : Nat → Prop} (hk : ∀ q, S q → W'.heap[q]? = W.heap[q]?) {d : Nat} : ∀ {l : List Tr} {xs : List Value}, RowT W S d l xs → RowT W' S d l xs
  | [], _, h => h
  | _ :: _, _, ⟨y, r, hx, ho, hl, h⟩ => ⟨y, r, hx, ho, hl.keep hk, h.keep hk⟩
theorem RowT.mono {W : World} {S S' : Nat → Prop} (hS : ∀ q, S q → S' q) {d : Nat} : ∀ {l : List Tr} {xs : List Value}, RowT W S d l xs → RowT W S' d l xs
  | [], _, h => h
  | _ :: _, _, ⟨y, r, hx, ho, hl, h⟩ => ⟨y, r, hx, ho, hl.mono hS, h.mono hS⟩
theorem RowT.append {W : World} {S : Nat → Prop} {d : Nat} {l' : List Tr} {xs' : List Value} (h' : RowT W S d l' xs') : ∀ {l : List Tr} {xs : List Value}, RowT W S d l xs → RowT W S d (l ++ l') (xs ++ xs')
  | [], _, h => by
    have h : _ = [] := h
    subst h
    exact h'
  | _ :: _, _, ⟨y, r, hx, ho, hl, h⟩ => ⟨y, r ++ xs', by rw [hx, List.append_assoc], ho, hl, RowT.append h' h⟩
theorem RowT.one {W : World} {S : Nat → Prop} {d : Nat} {t : Tr} {y : Value} (ho : OwnOk t.own) (hl : LAt W S d t.kids y) : RowT W S d [t] (nodeCells t.own y) :=
  ⟨y, [], by rw [List.append_nil], ho, hl, rfl⟩
theorem RowT.len {W : World} {S : Nat → Prop} {d : Nat} : ∀ {l : List Tr} {xs : List Value}, RowT W S d l xs → xs.length = l.length * 9
  | [], _, h => by
    have h : _ = [] := h
    subst h
    rfl
  | _ :: l, _, ⟨y, r, hx, _, _, h⟩ => by
    rw [hx, List.length_append, h.len]
    simp [nodeCells]
    omega
theorem RowT.get {W : World} {S : Nat → Prop} {d : Nat} : ∀ {l : List Tr} {xs : List Value} (_ : RowT W S d l xs) (i : Nat) (hi : i < l.length),
    ∃ y, OwnOk l[i].own ∧ (∀ j u, (nodeCells l[i].own y)[j]? = some u → xs[i * 9 + j]? = some u) ∧ LAt W S d l[i].kids y
  | [], _, _, i, hi => absurd hi (by simp)
  | t :: l, _, ⟨y, r, hx, ho, hl, h⟩, 0, _ => ⟨y, ho, fun j u hu => by
      have hu' : (nodeCells t.own y)[j]? = some u := hu
      rw [hx, Nat.zero_mul, Nat.zero_add, List.getElem?_append_left (List.getElem?_eq_some_iff.1 hu').1]
      exact hu', hl⟩
  | t :: l, _, ⟨y, r, hx, ho, hl, h⟩, i + 1, hi => by
    obtain ⟨y', ho', hc, hl'⟩ := h.get i (by simpa using hi)
    refine ⟨y', ho', fun j u hu => ?_, hl'⟩
    have := hc j u hu
    rw [hx, List.getElem?_append_right (by simp [nodeCells]; omega)]
    rw [← this]
    congr 1
    simp [nodeCells]
    omega
/-- A row that the call owns is a list of nodes. -/
theorem RowT.list {W : World} {S S' : Nat → Prop} {d base n c : Nat} {e : TypeId} {A : Option Addr} {l : List Tr} {xs : List Value} (h : RowT W S d l xs) (hown : W.ownsRow base e 9 (.slice A n c) n xs) (hn : n = l.length) (hl : n ≤ 9223372036854775807)
    (hS : ∀ q, S q → S' q) (hA : ∀ a, A = some a → S' a.block) : LAt W S' (d + 1) l (.slice A n c) := by
  subst hn
  refine ⟨A, c, rfl, ⟨hl, ?_⟩, fun i hi => ?_⟩
  · rcases hown.2 with ⟨h1, h2⟩ | ⟨_, _, _, h1, _, _, h2, _⟩
    · omega
    · injection h1 with _ _ h1
      omega
  obtain ⟨_, hlies⟩ := Lies.own hown
  obtain ⟨a, ha, _, hc⟩ := hlies (by omega)
  obtain ⟨y, ho, hg, hk⟩ := h.get i hi
  exact ⟨a, y, ha, hA a ha, ho, fun j u hu => hc _ _ (hg j u hu), hk.mono hS⟩

mutual
def Tr.count : Tr → Nat
  | .nd _ l => 1 + countL l
def countL : List Tr → Nat
  | [] => 0
  | t :: l => t.count + countL l
end
theorem Tr.count_eq (t : Tr) : t.count = 1 + countL t.kids := by
  cases t
  rw [Tr.count]
  rfl
theorem countL_append : ∀ a b : List Tr, countL (a ++ b) = countL a + countL b
  | [], b => by simp [countL]
  | t :: a, b => by
    show t.count + countL (a ++ b) = t.count + countL a + countL b
    rw [countL_append a b]
    omega
theorem countL_take (l : List Tr) (k : Nat) (hk : k < l.length) : countL (l.take (k + 1)) = countL (l.take k) + l[k].count := by
  rw [List.take_succ_eq_append_getElem hk, countL_append]
  simp [countL]
theorem countL_mono (l : List Tr) (k : Nat) : countL (l.take k) ≤ countL l := by
  have := countL_append (l.take k) (l.drop k)
  rw [List.take_append_drop] at this
  omega

set_option maxHeartbeats 2000000 in
set_option maxRecDepth 100000 in
theorem ref_Count (d : Nat) : ∀ (t : Tr) (x : Value) (w : World) (B : Nat), ListAt w B d t.kids x → B ≤ w.heap.size → t.count ≤ 1000000000000 →
    Calls Tryz.prog 18 #[nodeV t.own x] w fun e w' => e = .returned (.int .i64 (t.count : Nat)) ∧ Below w.heap.size w w' := by
  induction d using Nat.strongRecOn with
  | _ d ih =>
  intro t x w B hl hB hc
  obtain ⟨hlen, A, c, rfl⟩ := hl.slice
  rw [Tr.count_eq] at hc ⊢
  obtain ⟨l, hkl⟩ : ∃ l, t.kids = l := ⟨_, rfl⟩
  rw [hkl] at hl hlen hc ⊢
  obtain ⟨n, hn⟩ : ∃ n, l.length = n := ⟨_, rfl⟩
  rw [hn] at hl hlen ⊢
  obtain ⟨⟨kind, b, neg, dg, ex, u, wd, s⟩, ho⟩ : ∃ o, t.own = o := ⟨_, rfl⟩
  rw [ho]
  unfold nodeV
  have HL := Lib.hid hl
  have IH := Lib.hid ih
  have hbx := (Below.refl w.heap.size w).alloc (Nat.le_refl _) (.cells #[.int .i64 kind, .bool b, .bool neg, .string dg, .int .i64 ex, .int .u64 u, .int .i64 wd, .string s, .slice A n c] 27)
  have hBx : Blk (w.alloc (.cells #[.int .i64 kind, .bool b, .bool neg, .string dg, .int .i64 ex, .int .u64 u, .int .i64 wd, .string s, .slice A n c] 27)) w.heap.size #[.int .i64 kind, .bool b, .bool neg, .string dg, .int .i64 ex, .int .u64 u, .int .i64 wd, .string s, .slice A n c] 27 := Blk.new _ _ _
  clear hl ih ho hkl
  simp only []
  go_enter Tryz.func18, Tryz.ntmps18
  go_wp2_with fail
  go_loopw [3, 4] (fun m i wr => ∃ k : Nat, k ≤ n ∧ i = .int .i64 k ∧ m = .int .i64 ((1 + countL (l.take k) : Nat) : Int) ∧ Below w.heap.size w wr ∧ Blk wr w.heap.size #[.int .i64 kind, .bool b, .bool neg, .string dg, .int .i64 ex, .int .u64 u, .int .i64 wd, .string s, .slice A n c] 27) (fun _ i _ => n - (intOf i).toNat)
  case atStart => exact ⟨0, by omega, rfl, rfl, hbx, hBx⟩
  case round =>
    obtain ⟨k, hk, rfl, rfl, hbw, hbk⟩ := hrel
    have hfl : wr.cell? ⟨w.heap.size, 8, none⟩ = some (.slice A n c) := hbk.cell 8
    by_cases hlt : k < n
    · have hkl : k < l.length := by omega
      obtain ⟨d', ad, x', hdd, rfl, hab, hok, hna, hkk⟩ := (HL.out.below hbw hB).at_ hkl
      have htk := countL_take l k hkl
      have hm := countL_mono l (k + 1)
      obtain ⟨m0, hm0⟩ : ∃ m0, countL (l.take k) = m0 := ⟨_, rfl⟩
      obtain ⟨m1, hm1⟩ : ∃ m1, l[k].count = m1 := ⟨_, rfl⟩
      rw [hm0, hm1] at htk
      rw [htk] at hm
      have HC := IH.out d' (by omega) l[k] x' wr B hkk (Nat.le_trans hB hbw.size) (by omega)
      rw [hm1] at HC
      obtain ⟨⟨kind', b', neg', dg', ex', u', wd', s'⟩, ho'⟩ : ∃ o, l[k].own = o := ⟨_, rfl⟩
      rw [ho'] at HC hna
      unfold nodeV at HC
      obtain ⟨k0, k1, k2, k3, k4, k5, k6, k7, k8⟩ := hna
      simp only [] at k0 k1 k2 k3 k4 k5 k6 k7 k8 HC
      have HC := Lib.hid HC
      have HT := Lib.hid htk
      rw [hm0]
      have y1 : (k : Int) < n := by omega
      have y2 : ((1 + m0 : Nat) : Int) + (m1 : Int) ≤ 2000000000000 := by omega
      clear htk hm hm0 hm1 ho' hkk hok hdd
      go_wp2_with fail
      refine HC.out.mono ?_
      rintro e w2 ⟨rfl, hb2⟩
      have hb3 := hbw.trans (hb2.mono hbw.size)
      have hbk2 := hbk.below hb2 hbk.lt
      clear hb2 HC hbk k0 k1 k2 k3 k4 k5 k6 k7 k8 hfl
      go_wp2_with fail
      go_roundw
      case rel => exact ⟨k + 1, by omega, by go_num, by rw [HT.out]; congr 1; omega, hb3, hbk2⟩
      case measure => simp [intOf]; omega
    · obtain rfl : k = n := by omega
      have y1 : ¬ (k : Int) < k := by omega
      have hf : l.take k = l := by rw [← hn, List.take_length]
      rw [hf]
      clear hn hf
      go_wp2_with fail
      go_ret
      exact ⟨rfl, hbw⟩
end Go.Proofs.YtfckekaegjjmkaaGreatDoor
namespace Go.Proofs.YtfckekaegjjmkaaGreatDoor
open Go.RowKit Go.Shelf

deriving instance DecidableEq for Own
mutual
def sameT : Tr → Tr → Bool
  | .nd o l, .nd o' l' => decide (o = o') && decide (l.length = l'.length) && sameL l l'
def sameL : List Tr → List Tr → Bool
  | [], _ => true
  | _ :: _, [] => true
  | t :: l, t' :: l' => sameT t t' && sameL l l'
end
theorem sameT_eq (t t' : Tr) : sameT t t' = (decide (t.own = t'.own) && decide (t.kids.length = t'.kids.length) && sameL t.kids t'.kids) := by
  cases t
  cases t'
  rw [sameT]
  rfl
mutual
theorem sameT_refl : ∀ t : Tr, sameT t t = true
  | .nd o l => by
    rw [sameT, sameL_refl l]
    simp
theorem sameL_refl : ∀ l : List Tr, sameL l l = true
  | [] => by rw [sameL]
  | t :: l => by
    rw [sameL, sameT_refl t, sameL_refl l]
    rfl
end
theorem sameL_drop : ∀ (l l' : List Tr) (k : Nat) (h : k < l.length) (h' : k < l'.length), sameL (l.drop k) (l'.drop k) = (sameT l[k] l'[k] && sameL (l.drop (k + 1)) (l'.drop (k + 1))) := by
  intro l l' k h h'
  rw [List.drop_eq_getElem_cons h, List.drop_eq_getElem_cons h', sameL]

abbrev cellsV (o : Own) (v : Value) : Array Value := #[.int .i64 o.kind, .bool o.b, .bool o.neg, .string o.dg, .int .i64 o.ex, .int .u64 o.u, .int .i64 o.wd, .string o.s, v]

set_option maxHeartbeats 4000000 in
set_option maxRecDepth 100000 in
/-- Two nodes that differ in themselves, or in how many they have. -/
theorem same_not (o o' : Own) (A A' : Option Addr) (n n' c c' : Nat) (h : ¬ (o = o' ∧ n = n')) (w : World) :
    Calls Tryz.prog 17 #[nodeV o (.slice A n c), nodeV o' (.slice A' n' c')] w fun e w' => e = .returned (.bool false) ∧ Below w.heap.size w w' := by
  obtain ⟨kind, b, neg, dg, ex, u, wd, s⟩ := o
  obtain ⟨kind', b', neg', dg', ex', u', wd', s'⟩ := o'
  have hb2 := ((Below.refl w.heap.size w).alloc (Nat.le_refl _) (.cells #[.int .i64 kind, .bool b, .bool neg, .string dg, .int .i64 ex, .int .u64 u, .int .i64 wd, .string s, .slice A n c] 27)).alloc (by simp) (.cells #[.int .i64 kind', .bool b', .bool neg', .string dg', .int .i64 ex', .int .u64 u', .int .i64 wd', .string s', .slice A' n' c'] 27)
  unfold nodeV
  simp only []
  have sne : ∀ a b : ByteArray, a ≠ b → (a.toList == b.toList) = false := fun a b h => by
    rw [beq_eq_false_iff_ne, ByteArray.toList_eq, ByteArray.toList_eq]
    exact fun e => h (by apply ByteArray.ext; exact Array.toList_inj.1 e)
  by_cases h1 : kind = kind'
  case neg =>
    have e1 : (kind == kind') = false := by rw [beq_eq_false_iff_ne]; exact h1
    clear h sne
    go_enter Tryz.func17, Tryz.ntmps17
    go_wp2_with fail
    go_ret
    exact ⟨rfl, hb2⟩
  subst h1
  by_cases h2 : b = b'
  case neg =>
    have e1 : (b == b') = false := by rw [beq_eq_false_iff_ne]; exact h2
    clear h sne
    go_enter Tryz.func17, Tryz.ntmps17
    go_wp2_with fail
    go_ret
    exact ⟨rfl, hb2⟩
  subst h2
  by_cases h3 : neg = neg'
  case neg =>
    have e1 : (neg == neg') = false := by rw [beq_eq_false_iff_ne]; exact h3
    clear h sne
    go_enter Tryz.func17, Tryz.ntmps17
    go_wp2_with fail
    go_ret
    exact ⟨rfl, hb2⟩
  subst h3
  by_cases h4 : dg = dg'
  case neg =>
    have e1 := sne _ _ h4
    clear h sne
    go_enter Tryz.func17, Tryz.ntmps17
    go_wp2_with fail
    go_ret
    exact ⟨rfl, hb2⟩
  subst h4
  by_cases h5 : ex = ex'
  case neg =>
    have e1 : (ex == ex') = false := by rw [beq_eq_false_iff_ne]; exact h5
    clear h sne
    go_enter Tryz.func17, Tryz.ntmps17
    go_wp2_with fail
    go_ret
    exact ⟨rfl, hb2⟩
  subst h5
  by_cases h6 : u = u'
  case neg =>
    have e1 : (u == u') = false := by rw [beq_eq_false_iff_ne]; exact h6
    clear h sne
    go_enter Tryz.func17, Tryz.ntmps17
    go_wp2_with fail
    go_ret
    exact ⟨rfl, hb2⟩
  subst h6
  by_cases h7 : wd = wd'
  case neg =>
    have e1 : (wd == wd') = false := by rw [beq_eq_false_iff_ne]; exact h7
    clear h sne
    go_enter Tryz.func17, Tryz.ntmps17
    go_wp2_with fail
    go_ret
    exact ⟨rfl, hb2⟩
  subst h7
  by_cases h8 : s = s'
  case neg =>
    have e1 := sne _ _ h8
    clear h sne
    go_enter Tryz.func17, Tryz.ntmps17
    go_wp2_with fail
    go_ret
    exact ⟨rfl, hb2⟩
  subst h8
  have h9 : n ≠ n' := fun e => h ⟨rfl, e⟩
  have e1 : ((n : Int) == (n' : Int)) = false := by rw [beq_eq_false_iff_ne]; omega
  clear h sne h9
  go_enter Tryz.func17, Tryz.ntmps17
  go_wp2_with fail
  go_ret
  exact ⟨rfl, hb2⟩
theorem box2 (w : World) (cs cs' : Array Value) (t t' : TypeId) : Below w.heap.size w ((w.alloc (.cells cs t)).alloc (.cells cs' t')) ∧ Blk ((w.alloc (.cells cs t)).alloc (.cells cs' t')) w.heap.size cs t ∧ Blk ((w.alloc (.cells cs t)).alloc (.cells cs' t')) (w.heap.size + 1) cs' t' := by
  refine ⟨((Below.refl w.heap.size w).alloc (Nat.le_refl _) _).alloc (by simp) _, (Blk.new w _ _).alloc _, ?_⟩
  have := Blk.new (w.alloc (.cells cs t)) cs' t'
  rw [World.size_alloc] at this
  exact this

set_option maxHeartbeats 4000000 in
set_option maxRecDepth 100000 in
theorem ref_SameT (d : Nat) : ∀ (t t' : Tr) (x x' : Value) (w : World) (B d2 : Nat), ListAt w B d t.kids x → ListAt w B d2 t'.kids x' → B ≤ w.heap.size →
    Calls Tryz.prog 17 #[nodeV t.own x, nodeV t'.own x'] w fun e w' => e = .returned (.bool (sameT t t')) ∧ Below w.heap.size w w' := by
  induction d using Nat.strongRecOn with
  | _ d ih =>
  intro t t' x x' w B d2 hl hl' hB
  obtain ⟨hlen, A, c, rfl⟩ := hl.slice
  obtain ⟨hlen', A', c', rfl⟩ := hl'.slice
  rw [sameT_eq]
  by_cases hne : t.own = t'.own ∧ t.kids.length = t'.kids.length
  case neg =>
    have hf : (decide (t.own = t'.own) && decide (t.kids.length = t'.kids.length) && sameL t.kids t'.kids) = false := by
      rw [Bool.and_eq_false_iff, Bool.and_eq_false_iff, decide_eq_false_iff_not, decide_eq_false_iff_not]
      by_cases h1 : t.own = t'.own
      · exact .inl (.inr fun h2 => hne ⟨h1, h2⟩)
      · exact .inl (.inl h1)
    rw [hf]
    exact same_not _ _ _ _ _ _ _ _ hne w
  obtain ⟨hoo, hnn⟩ := hne
  rw [decide_eq_true hoo, decide_eq_true hnn, Bool.true_and, Bool.true_and, ← hoo, ← hnn]
  rw [← hnn] at hl' hlen'
  obtain ⟨l, hkl⟩ : ∃ l, t.kids = l := ⟨_, rfl⟩
  obtain ⟨l', hkl'⟩ : ∃ l', t'.kids = l' := ⟨_, rfl⟩
  rw [hkl] at hl hlen hnn hl' hlen' ⊢
  rw [hkl'] at hnn hl' ⊢
  obtain ⟨n, hn⟩ : ∃ n, l.length = n := ⟨_, rfl⟩
  rw [hn] at hl hlen hl' hnn ⊢
  obtain ⟨⟨kind, b, neg, dg, ex, u, wd, s⟩, ho⟩ : ∃ o, t.own = o := ⟨_, rfl⟩
  rw [ho]
  unfold nodeV
  obtain ⟨ans, hans⟩ : ∃ ans, sameL l l' = ans := ⟨_, rfl⟩
  rw [hans]
  have HANS := Lib.hid (show sameL (l.drop 0) (l'.drop 0) = ans from hans)
  have HL := Lib.hid hl
  have HL' := Lib.hid hl'
  have IH := Lib.hid ih
  simp only []
  have HB2 := Lib.hid (box2 w #[.int .i64 kind, .bool b, .bool neg, .string dg, .int .i64 ex, .int .u64 u, .int .i64 wd, .string s, .slice A n c] #[.int .i64 kind, .bool b, .bool neg, .string dg, .int .i64 ex, .int .u64 u, .int .i64 wd, .string s, .slice A' n c'] 27 27)
  have HNN := Lib.hid hnn
  clear hl hl' ih ho hkl hkl' hoo hans hnn hlen'
  go_enter Tryz.func17, Tryz.ntmps17
  go_wp2_with fail
  go_loopw [5] (fun i wr => ∃ k : Nat, k ≤ n ∧ i = .int .i64 k ∧ Below w.heap.size w wr ∧ wr.cell? ⟨w.heap.size, 8, none⟩ = some (.slice A n c) ∧ wr.cell? ⟨w.heap.size + 1, 8, none⟩ = some (.slice A' n c') ∧ w.heap.size + 2 ≤ wr.heap.size ∧ Hid (sameL (l.drop k) (l'.drop k) = ans)) (fun i _ => n - (intOf i).toNat)
  case atStart => exact ⟨0, by omega, rfl, HB2.out.1, HB2.out.2.1.cell 8, HB2.out.2.2.cell 8, by simp, HANS⟩
  case round =>
    obtain ⟨k, hk, rfl, hbw, hf1, hf2, hz, hac⟩ := hrel
    clear HB2 HANS
    by_cases hlt : k < n
    · have hkl : k < l.length := by omega
      have hkl' : k < l'.length := by have := HNN.out; omega
      obtain ⟨d', ad, y, hdd, rfl, hab, hok, hna, hkk⟩ := (HL.out.below hbw hB).at_ hkl
      obtain ⟨d2', ad', y', hdd2, rfl, hab', hok', hna', hkk'⟩ := (HL'.out.below hbw hB).at_ hkl'
      have hdr := hac.out
      rw [sameL_drop l l' k hkl hkl'] at hdr
      have HC := fun (w' : World) (hw : Below wr.heap.size wr w') => IH.out d' (by omega) l[k] l'[k] y y' w' B d2' (hkk.below hw (Nat.le_trans hB hbw.size)) (hkk'.below hw (Nat.le_trans hB hbw.size)) (Nat.le_trans (Nat.le_trans hB hbw.size) hw.size)
      obtain ⟨⟨kind1, b1, neg1, dg1, ex1, u1, wd1, s1⟩, ho1⟩ : ∃ o, l[k].own = o := ⟨_, rfl⟩
      obtain ⟨⟨kind2, b2, neg2, dg2, ex2, u2, wd2, s2⟩, ho2⟩ : ∃ o, l'[k].own = o := ⟨_, rfl⟩
      rw [ho1] at hna
      rw [ho2] at hna'
      rw [ho1, ho2] at HC
      unfold nodeV at HC
      obtain ⟨k0, k1, k2, k3, k4, k5, k6, k7, k8⟩ := hna
      obtain ⟨m0, m1, m2, m3, m4, m5, m6, m7, m8⟩ := hna'
      simp only [] at k0 k1 k2 k3 k4 k5 k6 k7 k8 m0 m1 m2 m3 m4 m5 m6 m7 m8 HC
      have y1 : (k : Int) < n := by omega
      have y0 : (0 : Int) ≤ k := by omega
      have HC := Lib.hid HC
      have hdb : Below wr.heap.size wr wr.drew := (Below.refl _ _).drew
      clear hac ho1 ho2 hkk hkk' hok hok' hdd hdd2
      cases hs : sameT l[k] l'[k] with
      | false =>
        rw [hs] at hdr HC
        have hdr : false = ans := hdr
        subst hdr
        clear hs
        go_wp2_with fail
        go_still_tail 10, (by kernel_rfl)
        change wpList _ _ _ _ _ wr.drew
        go_wp2_with fail
        refine (HC.out _ hdb).mono ?_
        rintro e w2 ⟨rfl, hb2⟩
        have hb3 := (hbw.trans (hdb.mono hbw.size)).trans (hb2.mono (Nat.le_trans hbw.size hdb.size))
        go_wp2_with fail
        go_ret
        exact ⟨rfl, hb3⟩
      | true =>
        rw [hs, Bool.true_and] at hdr
        rw [hs] at HC
        have HD := Lib.hid hdr
        clear hs hdr
        go_wp2_with fail
        go_still_tail 10, (by kernel_rfl)
        change wpList _ _ _ _ _ wr.drew
        go_wp2_with fail
        refine (HC.out _ hdb).mono ?_
        rintro e w2 ⟨rfl, hb2⟩
        have hb3 := (hbw.trans (hdb.mono hbw.size)).trans (hb2.mono (Nat.le_trans hbw.size hdb.size))
        have hz1 : wr.drew.heap.size = wr.heap.size := rfl
        have hf1' : w2.cell? ⟨w.heap.size, 8, none⟩ = some (.slice (some ad) n c) := (hb2.cell (p := ⟨w.heap.size, 8, none⟩) (by show w.heap.size < _; omega)).trans hf1
        have hf2' : w2.cell? ⟨w.heap.size + 1, 8, none⟩ = some (.slice (some ad') n c') := (hb2.cell (p := ⟨w.heap.size + 1, 8, none⟩) (by show w.heap.size + 1 < _; omega)).trans hf2
        have hz2 := hb2.size
        clear hb2 k0 k1 k2 k3 k4 k5 k6 k7 k8 m0 m1 m2 m3 m4 m5 m6 m7 m8 hf1 hf2 hbw hdb HC
        go_wp2_with fail
        go_roundw
        case rel => exact ⟨k + 1, by omega, by go_num, hb3, hf1', hf2', by omega, HD⟩
        case measure => simp [intOf]; omega
    · obtain rfl : k = n := by omega
      have y1 : ¬ (k : Int) < k := by omega
      have hdr := hac.out
      rw [List.drop_eq_nil_of_le (by omega), sameL] at hdr
      subst hdr
      clear hac
      go_wp2_with fail
      go_ret
      exact ⟨rfl, hbw⟩
end Go.Proofs.YtfckekaegjjmkaaGreatDoor
namespace Go.Proofs.YtfckekaegjjmkaaGreatDoor
open Go.RowKit Go.Shelf


theorem infoNode : (Tryz.prog.info? 27).map (fun i => (i.zero, i.size, i.bytes)) = some (some (.agg #[.int .i64 0, .bool false, .bool false, .string ⟨#[]⟩, .int .i64 0, .int .u64 0, .int .i64 0, .string ⟨#[]⟩, .slice none 0 0]), 9, 104) := by kernel_rfl

theorem own_sliceT {W : World} {base size n : Nat} {e : TypeId} {v : Value} {xs : List Value} (h : W.ownsRow base e size v n xs) : ∃ A c, v = .slice A n c := by
  rcases h.2 with ⟨hv, hn⟩ | ⟨g, cap, cur, hv, _⟩
  · exact ⟨none, 0, by rw [hv, hn]⟩
  · exact ⟨_, _, hv⟩

theorem cells_newT (W : World) (cs : List Value) (t : TypeId) : ∀ j u, cs[j]? = some u → (W.alloc (.cells cs.toArray t)).cell? ((⟨W.heap.size, 0, none⟩ : Addr).add j) = some u := by
  intro j u hj
  have ea : (⟨W.heap.size, 0, none⟩ : Addr).add j = ⟨W.heap.size, j, none⟩ := by
    unfold Addr.add
    split
    · rename_i h0
      rw [h0]
    · simp
  rw [ea, (Blk.new W cs.toArray t).cell j]
  simpa using hj
theorem blk_keep {W W' : World} {p : Nat} {cs : Array Value} {t : TypeId} (h : Blk W p cs t) (hk : W'.heap[p]? = W.heap[p]?) : Blk W' p cs t := hk.trans h

end Go.Proofs.YtfckekaegjjmkaaGreatDoor
