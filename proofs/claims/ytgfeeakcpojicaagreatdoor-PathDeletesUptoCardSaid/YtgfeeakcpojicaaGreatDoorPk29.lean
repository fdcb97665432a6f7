/- The texts PathL, DelS, PathM, put together. -/
import Derived.Test.YtgfeeakcpojicaaGreatDoorPk21
import Derived.Test.YtgfeeakcpojicaaGreatDoorPk27
import Derived.Test.YtgfeeakcpojicaaGreatDoorPk28
import Derived.ArgAppend
import Derived.Deep.AppendLies
import Derived.Test.YtgfeeakcpojicaaGreatDoorPk24
import Derived.Deep.Upon
/- path: on; slices of paths in memory. -/
namespace Go.Proofs.YtgfeeakcpojicaaGreatDoor
open Go.RowKit Go.Shelf

/-- The steps p, in blocks of S. -/
def StepsS (W : World) (S : Nat → Prop) (A : Option Addr) (p : List Stp) : Prop :=
  (0 < p.length → ∃ ad, A = some ad ∧ S ad.block ∧ ∀ j u, (stepCells p)[j]? = some u → W.cell? (ad.add j) = some u) ∧ ∀ s ∈ p, s.2.size ≤ 9223372036854775807
theorem StepsS.keep {W W' : World} {S : Nat → Prop} {A : Option Addr} {p : List Stp} (h : StepsS W S A p) (hk : ∀ q, S q → W'.heap[q]? = W.heap[q]?) : StepsS W' S A p :=
  ⟨fun hp => by
    obtain ⟨ad, e, hs, hc⟩ := h.1 hp
    exact ⟨ad, e, hs, fun j u hu => by
      rw [← hc j u hu]
      exact cell_keep (by rw [add_block]; exact hk _ hs)⟩, h.2⟩
theorem StepsS.mono {W : World} {S S' : Nat → Prop} {A : Option Addr} {p : List Stp} (h : StepsS W S A p) (hS : ∀ q, S q → S' q) : StepsS W S' A p :=
  ⟨fun hp => by
    obtain ⟨ad, e, hs, hc⟩ := h.1 hp
    exact ⟨ad, e, hS _ hs, hc⟩, h.2⟩
theorem StepsS.at_ {W : World} {S : Nat → Prop} {A : Option Addr} {p : List Stp} {B : Nat} (h : StepsS W S A p) (hS : ∀ q, S q → q < B) : StepsAt W B A p.length p :=
  ⟨rfl, ⟨stepCells_length p, fun hn => by
    obtain ⟨ad, e, hs, hc⟩ := h.1 hn
    exact ⟨ad, e, hS _ hs, hc⟩⟩, h.2⟩
theorem StepsAt.toS {W : World} {B n : Nat} {A : Option Addr} {p : List Stp} (h : StepsAt W B A n p) : StepsS W (fun q => q < B) A p :=
  ⟨fun hp => by
    obtain ⟨ad, e, hs, hc⟩ := h.lies.2 (by rw [← h.len]; exact hp)
    exact ⟨ad, e, hs, hc⟩, h.size⟩
/-- A row of slices of steps. -/
def RowsS (W : World) (S : Nat → Prop) : List (List Stp) → List Value → Prop
  | [], vs => vs = []
  | p :: ps, vs => ∃ A c r, vs = .slice A p.length c :: r ∧ p.length ≤ c ∧ StepsS W S A p ∧ RowsS W S ps r
theorem RowsS.keep {W W' : World} {S : Nat → Prop} (hk : ∀ q, S q → W'.heap[q]? = W.heap[q]?) : ∀ {ps : List (List Stp)} {vs : List Value}, RowsS W S ps vs → RowsS W' S ps vs
  | [], _, h => h
  | _ :: _, _, ⟨A, c, r, hv, hc, hs, h⟩ => ⟨A, c, r, hv, hc, hs.keep hk, h.keep hk⟩
theorem RowsS.mono {W : World} {S S' : Nat → Prop} (hS : ∀ q, S q → S' q) : ∀ {ps : List (List Stp)} {vs : List Value}, RowsS W S ps vs → RowsS W S' ps vs
  | [], _, h => h
  | _ :: _, _, ⟨A, c, r, hv, hc, hs, h⟩ => ⟨A, c, r, hv, hc, hs.mono hS, h.mono hS⟩
theorem RowsS.append {W : World} {S : Nat → Prop} {qs : List (List Stp)} {us : List Value} (h' : RowsS W S qs us) : ∀ {ps : List (List Stp)} {vs : List Value}, RowsS W S ps vs → RowsS W S (ps ++ qs) (vs ++ us)
  | [], _, h => by
    have h : _ = [] := h
    subst h
    exact h'
  | _ :: _, _, ⟨A, c, r, hv, hc, hs, h⟩ => ⟨A, c, r ++ us, by rw [hv]; rfl, hc, hs, RowsS.append h' h⟩
theorem RowsS.len {W : World} {S : Nat → Prop} : ∀ {ps : List (List Stp)} {vs : List Value}, RowsS W S ps vs → vs.length = ps.length
  | [], _, h => by
    have h : _ = [] := h
    subst h
    rfl
  | _ :: _, _, ⟨A, c, r, hv, hc, hs, h⟩ => by rw [hv, List.length_cons, List.length_cons, h.len]
theorem RowsS.cells1 {W : World} {S : Nat → Prop} : ∀ {ps : List (List Stp)} {vs : List Value}, RowsS W S ps vs → ∀ u ∈ vs, u.oneCell' = true
  | [], _, h, u, hu => by
    have h : _ = [] := h
    subst h
    cases hu
  | _ :: _, _, ⟨A, c, r, hv, hc, hs, h⟩, u, hu => by
    subst hv
    rcases List.mem_cons.1 hu with rfl | hu
    · rfl
    · exact h.cells1 u hu
theorem RowsS.get {W : World} {S : Nat → Prop} : ∀ {ps : List (List Stp)} {vs : List Value} (_ : RowsS W S ps vs) (i : Nat) (hi : i < ps.length), ∃ A c, vs[i]? = some (.slice A ps[i].length c) ∧ ps[i].length ≤ c ∧ StepsS W S A ps[i]
  | [], _, _, i, hi => absurd hi (by simp)
  | p :: ps, _, ⟨A, c, r, hv, hc, hs, h⟩, 0, _ => ⟨A, c, by rw [hv]; rfl, hc, hs⟩
  | p :: ps, _, ⟨A, c, r, hv, hc, hs, h⟩, i + 1, hi => by
    obtain ⟨A', c', h1, h2, h3⟩ := h.get i (by simpa using hi)
    exact ⟨A', c', by rw [hv]; exact h1, h2, h3⟩

/-- An append whose run is known. -/
theorem wpList_append_run {P : Program} (w : World) {ops : Array Oper} {rest : List Oper} {o : Oper} {a : Act} {Q : Exit → Act → World → Prop}
    (hg : o.guard = none) (s x : Operand) (t : TypeId) (hop : o.op = .call { callee := .builtin .append, args := #[s, x], argTypes := #[t, t] }) (v vx r : Value) (w' : World)
    (hs : a.eval s = v) (hx : a.eval x = vx) (hrun : (Builtin.append_ #[t, t] o.type #[v, vx]).run P w = .ok r w') (hK : wpList P ops Q rest (a.put o.dst r) w') :
    wpList P ops Q (o :: rest) a w := by
  refine wpList_plain hg fun K hK' => ?_
  unfold Oper.wp execOp
  simp only [hop, resolve, invoke, builtin, Sem.run_bind, Sem.run_pure, Result.andThen_ok, List.map_toArray, List.map_cons, List.map_nil, hs, hx, hrun]
  exact hK' _ _ hK
theorem wpListIn_append_run {F : Fence} {nF : Nat} {P : Program} (w : World) {ops : Array Oper} {rest : List Oper} {o : Oper} {a : Act} {Q : Exit → Act → World → Prop}
    (hg : o.guard = none) (s x : Operand) (t : TypeId) (hop : o.op = .call { callee := .builtin .append, args := #[s, x], argTypes := #[t, t] }) (v vx r : Value) (w' : World)
    (hs : a.eval s = v) (hx : a.eval x = vx) (hrun : (Builtin.append_ #[t, t] o.type #[v, vx]).run P w = .ok r w') (hK : wpListIn F nF P ops Q rest (a.put o.dst r) w') :
    wpListIn F nF P ops Q (o :: rest) a w := by
  refine wpListIn_plain hg fun K hK' => ?_
  unfold Oper.wpIn
  refine ⟨by simp [Oper.about, hop, resolve, Target.leads], ?_⟩
  rw [Oper.semAt_plain F _ _ (by rw [hop]; intro c hc'; cases hc')]
  unfold execOp
  simp only [hop, resolve, invoke, builtin, Sem.run_bind, Sem.run_pure, Result.andThen_ok, List.map_toArray, List.map_cons, List.map_nil, hs, hx, hrun]
  exact hK' _ _ hK

set_option maxHeartbeats 2000000 in
set_option maxRecDepth 100000 in
theorem path_on (A : Option Addr) (n c : Nat) (p : List Stp) (s : Stp) (al : Addr) (cl : Nat) (w : World) (B : Nat) (hp : StepsAt w B A n p) (hnc : n ≤ c) (hn : n ≤ 1000) (h0 : w.cell? al = some (.int .i64 s.1)) (h1 : w.cell? (al.add 1) = some (.string s.2)) (hs : s.2.size ≤ 9223372036854775807) :
    Calls Tryz.prog 65 #[.slice A n c, .slice (some al) 1 cl] w fun e w' => (∃ A' c', e = .returned (.slice A' (n + 1) c') ∧ n + 1 ≤ c' ∧ StepsS w' (fun q => w.heap.size ≤ q ∧ q < w'.heap.size) A' (p ++ [s])) ∧ Below w.heap.size w w' := by
  obtain ⟨i0, hi, hz0, hz1, hz2⟩ := info_parts infoStep
  have hlen := hp.len
  have hcells : ∀ j u, ([.int .i64 s.1, .string s.2] : List Value)[j]? = some u → w.cell? (al.add j) = some u := by
    intro j u hj
    match j, hj with
    | 0, hj => rw [show al.add 0 = al from if_pos rfl, h0]; exact hj
    | 1, hj => rw [h1]; exact hj
    | j + 2, hj => simp at hj
  have hc1 : ∀ u ∈ ([.int .i64 s.1, .string s.2] : List Value), u.oneCell' = true := by
    intro u hu
    simp at hu
    rcases hu with rfl | rfl <;> rfl
  have hgo : ∃ v' w', (Builtin.append_ #[22, 22] 22 #[.slice A n n, .slice (some al) 1 cl]).run Tryz.prog w = .ok v' w' ∧ w'.ownsRow w.heap.size 53 2 v' (n + 1) (stepCells (p ++ [s])) ∧ w.grownBy w' none := by
    rw [stepCells_append]
    cases A with
    | none =>
      have hn0 : n = 0 := by
        rcases Nat.eq_zero_or_pos n with h | h
        · exact h
        · obtain ⟨ad, e, _⟩ := hp.lies.2 h
          cases e
      subst hn0
      obtain rfl : p = [] := List.eq_nil_of_length_eq_zero hlen
      obtain ⟨v', w', h2, h3, h4, h5⟩ := run_append_own (P := Tryz.prog) w w.heap.size 22 22 53 i0 _ 2 24 Tryz.underlying22 hi hz0 hz1 hz2 rfl (by decide) (.slice none 0 0) 0 [] (World.ownsRow_nil _ _ _ _) al 1 cl [.int .i64 s.1, .string s.2] rfl hcells hc1 (by decide) (by omega) (Nat.le_refl _)
      exact ⟨v', w', h2, h3, h4⟩
    | some a =>
      exact run_append_arg_grows (P := Tryz.prog) w 22 22 53 i0 _ 2 24 Tryz.underlying22 hi hz0 hz1 hz2 rfl (by decide) a n n (stepCells p) (by rw [stepCells_length, hlen]) (fun j u hj => by
        have hpos : 0 < n := by
          have := (List.getElem?_eq_some_iff.1 hj).1
          rw [stepCells_length, hlen] at this
          omega
        obtain ⟨ad, e, _, hc⟩ := hp.lies.2 hpos
        cases e
        exact hc j u hj) al 1 cl [.int .i64 s.1, .string s.2] rfl hcells (by omega) (by unfold maxLen; omega) (by omega)
  obtain ⟨v', w', hrun, hown, hg⟩ := hgo
  have hnI : (n : Int) ≤ c := by omega
  have hsz := hp.size
  clear hp hlen hcells hc1 h0 h1
  go_enter Tryz.func65, Tryz.ntmps65
  go_wp2_with (at_builtin; refine wpList_append_run _ rfl _ _ 22 rfl _ _ v' w' rfl rfl hrun ?_)
  go_ret
  have hb := none_below hg
  refine ⟨?_, hb⟩
  rcases hown.2 with ⟨_, h⟩ | ⟨g, cap, cur, rfl, hgb, hgh, hnc', _⟩
  · omega
  refine ⟨_, _, rfl, hnc', ⟨fun _ => ?_, fun x hx => ?_⟩⟩
  · obtain ⟨_, hl⟩ := Lies.own hown
    obtain ⟨ad, e, hlt, hc⟩ := hl (by omega)
    cases e
    exact ⟨_, rfl, ⟨hgb, hlt⟩, hc⟩
  · rcases List.mem_append.1 hx with hx | hx
    · exact hsz x hx
    · rw [List.mem_singleton.1 hx]
      exact hs
end Go.Proofs.YtgfeeakcpojicaaGreatDoor
/- path: a row of nodes, a part of it left out: the append. -/
namespace Go.Proofs.YtgfeeakcpojicaaGreatDoor
open Go.RowKit Go.Shelf

theorem RowT.take {W : World} {S : Nat → Prop} {d : Nat} : ∀ {l : List Tr} {xs : List Value} (_ : RowT W S d l xs) (f : Nat), RowT W S d (l.take f) (xs.take (f * 9))
  | [], _, h, f => by
    have h : _ = [] := h
    subst h
    rw [List.take_nil, List.take_nil]
    exact rfl
  | t :: l, xs, _, 0 => by
    rw [Nat.zero_mul, List.take_zero, List.take_zero]
    exact rfl
  | t :: l, _, ⟨y, r, hx, ho, hl, h⟩, f + 1 => by
    refine ⟨y, r.take (f * 9), ?_, ho, hl, RowT.take h f⟩
    subst hx
    rw [List.take_append, List.take_of_length_le (by simp only [nodeCells, List.length_cons, List.length_nil]; omega)]
    congr 2
    simp only [nodeCells, List.length_cons, List.length_nil]
    omega
theorem RowT.drop {W : World} {S : Nat → Prop} {d : Nat} : ∀ {l : List Tr} {xs : List Value} (_ : RowT W S d l xs) (f : Nat), RowT W S d (l.drop f) (xs.drop (f * 9))
  | [], _, h, f => by
    have h : _ = [] := h
    subst h
    rw [List.drop_nil, List.drop_nil]
    exact rfl
  | t :: l, xs, h, 0 => by
    rw [Nat.zero_mul, List.drop_zero, List.drop_zero]
    exact h
  | t :: l, _, ⟨y, r, hx, ho, hl, h⟩, f + 1 => by
    have ih := RowT.drop h f
    subst hx
    have e : (nodeCells t.own y ++ r).drop ((f + 1) * 9) = r.drop (f * 9) := by
      rw [List.drop_append, List.drop_eq_nil_of_le (by simp only [nodeCells, List.length_cons, List.length_nil]; omega), List.nil_append]
      congr 1
      simp only [nodeCells, List.length_cons, List.length_nil]
      omega
    rw [e, List.drop_succ_cons]
    exact ih
theorem LAt.takeF {W : World} {S : Nat → Prop} {d n c : Nat} {A : Option Addr} {l : List Tr} (h : LAt W S d l (.slice A n c)) (f : Nat) (hf : f ≤ l.length) : LAt W S d (l.take f) (.slice A f f) := by
  cases d with
  | zero =>
    obtain ⟨rfl, _⟩ := h
    obtain rfl : f = 0 := by simpa using hf
    exact ⟨rfl, A, 0, rfl⟩
  | succ d =>
    obtain ⟨A', c', hv, hl, h⟩ := h
    have hA : A = A' := by injection hv
    subst hA
    have e : (l.take f).length = f := by rw [List.length_take]; omega
    refine ⟨A, f, by rw [e], ⟨by rw [e]; have := hl.1; omega, by rw [e]; exact Nat.le_refl f⟩, fun i hi => ?_⟩
    obtain ⟨a, x, h1, h2, h3, h4, h5⟩ := h i (by omega)
    rw [List.getElem_take]
    exact ⟨a, x, h1, h2, h3, h4, h5⟩

/-- Nothing behind it. -/
theorem del_append0 (W : World) (A : Option Addr) (f c : Nat) (ty : TypeId) (A' : Option Addr) : (Builtin.append_ #[36, 36] ty #[.slice A f f, .slice A' 0 c]).run Tryz.prog W = .ok (.slice A f f) W := by
  obtain ⟨i0, hi, hz0, hz1, hz2⟩ := info_parts infoNode
  refine run_append_nothing W _ _ _ _ i0 Tryz.underlying36 hi A f f (Nat.le_refl f) _ ?_
  cases A' with
  | none => exact Src.ofNil W Tryz.underlying36 c
  | some a => exact Src.ofSlice W Tryz.underlying36 a 0 c [] (by simp) (fun j u hj => by simp at hj) (fun u hu => by cases hu)
/-- Something behind it. -/
theorem del_append (W : World) (S : Nat → Prop) (d : Nat) (l : List Tr) (a : Addr) (n c f k : Nat) (h : LAt W S d l (.slice (some a) n c)) (hS : ∀ q, S q → q < W.heap.size) (hf : f ≤ l.length) (hk : k < l.length) (hn : l.length ≤ 1000000) (hm : f + (l.length - k) ≤ 1000000) (c' : Nat) :
    ∃ A2 n2 c2 W', (Builtin.append_ #[36, 36] 36 #[.slice (some a) f f, .slice (some (a.add (k * 9))) (l.length - k) c']).run Tryz.prog W = .ok (.slice A2 n2 c2) W' ∧
      LAt W' (fun q => (S q ∨ W.heap.size ≤ q) ∧ q < W'.heap.size) d (l.take f ++ l.drop k) (.slice A2 n2 c2) ∧ Below W.heap.size W W' := by
  obtain ⟨i0, hi, hz0, hz1, hz2⟩ := info_parts infoNode
  cases d with
  | zero =>
    obtain ⟨rfl, _⟩ := h
    simp at hk
  | succ d =>
    obtain ⟨xs, hr, hc⟩ := h.row
    have hlen := hr.len
    obtain ⟨v', W', hrun, hown, hg⟩ := run_append_arg_grows (P := Tryz.prog) W 36 36 38 i0 _ 9 104 Tryz.underlying36 hi hz0 hz1 hz2 rfl (by decide) a f f (xs.take (f * 9))
      (by rw [List.length_take]; omega)
      (fun j u hj => hc j u (by
        rw [List.getElem?_take] at hj
        split at hj
        · exact hj
        · cases hj))
      (a.add (k * 9)) (l.length - k) c' (xs.drop (k * 9)) (by rw [List.length_drop, hlen]; omega)
      (fun j u hj => by
        rw [add_add']
        exact hc _ u (by rwa [List.getElem?_drop] at hj))
      (by omega) (by unfold maxLen; omega) (by omega)
    have hb := none_below hg
    obtain ⟨A2, c2, rfl⟩ := own_sliceT hown
    refine ⟨A2, _, c2, W', hrun, ?_, hb⟩
    have hrow := RowT.append (hr.drop k) (hr.take f)
    have hrow2 := hrow.keep (W' := W') (fun q hq => hb.block q (hS q hq))
    refine RowT.list hrow2 hown (by rw [List.length_append, List.length_take, List.length_drop]; omega) (by omega) (fun q hq => ⟨.inl hq, Nat.lt_of_lt_of_le (hS q hq) hb.size⟩) ?_
    rintro a' rfl
    have := hown.lt a'.block
    rcases hown.2 with ⟨hv, hz⟩ | ⟨g, cap, cur, hv, hgb, hgh, _⟩
    · omega
    · injection hv with h1
      injection h1 with h1
      subst h1
      exact ⟨.inr hgb, (Array.getElem?_eq_some_iff.1 hgh).1⟩
/-- Both, as the walk spells them. -/
theorem del_appends (W : World) (S : Nat → Prop) (d : Nat) (l : List Tr) (a : Addr) (n c f k : Nat) (h : LAt W S d l (.slice (some a) n c)) (hS : ∀ q, S q → q < W.heap.size) (hn : l.length = n) (hf : f ≤ k) (hk : k ≤ n) (hnc : n ≤ c) (hm : n ≤ 1000000) :
    ∃ A2 n2 c2 W', (Builtin.append_ #[36, 36] 36 #[.slice (some a) f f, .slice (if c = k then some a else some (a.add (k * 9))) (n - k) (c - k)]).run Tryz.prog W = .ok (.slice A2 n2 c2) W' ∧
      LAt W' (fun q => (S q ∨ W.heap.size ≤ q) ∧ q < W'.heap.size) d (l.take f ++ l.drop k) (.slice A2 n2 c2) ∧ Below W.heap.size W W' := by
  subst hn
  by_cases hlt : k < l.length
  · rw [if_neg (by omega)]
    exact del_append W S d l a _ c f k h hS (by omega) hlt hm (by omega) _
  · obtain rfl : k = l.length := by omega
    rw [Nat.sub_self, List.drop_length, List.append_nil]
    refine ⟨_, _, _, W, del_append0 W (some a) f _ _ _, ?_, Below.refl _ _⟩
    exact (h.takeF f hf).mono (fun q hq => ⟨.inl hq, hS q hq⟩)
end Go.Proofs.YtgfeeakcpojicaaGreatDoor
/- path: all paths of a tree; their number. No function of the program. -/
namespace Go.Proofs.YtgfeeakcpojicaaGreatDoor
open Go.RowKit Go.Shelf

/-- A path, and those that go on with it, so many steps more at most. -/
def allT : Nat → Tr → List Stp → List (List Stp)
  | 0, _, p => [p]
  | k + 1, t, p => p :: (stepsOf t).flatMap fun x => if stepRight x.1 = true then (match t.kids[x.2]? with
    | some u => allT k u (p ++ [x.1])
    | none => []) else []
/-- Those behind one step. -/
def goT (k : Nat) (t : Tr) (p : List Stp) (x : Stp × Nat) : List (List Stp) := if stepRight x.1 = true then (match t.kids[x.2]? with
    | some u => allT k u (p ++ [x.1])
    | none => []) else []
def accT (k : Nat) (t : Tr) (p : List Stp) (pre : List (Stp × Nat)) : List (List Stp) := p :: pre.flatMap (goT k t p)
theorem allT_succ (k : Nat) (t : Tr) (p : List Stp) : allT (k + 1) t p = accT k t p (stepsOf t) := rfl
theorem accT_snoc (k : Nat) (t : Tr) (p : List Stp) (pre : List (Stp × Nat)) (x : Stp × Nat) : accT k t p (pre ++ [x]) = accT k t p pre ++ goT k t p x := by
  unfold accT
  rw [List.flatMap_append]
  simp

def sumTo (f : Nat → Nat) : Nat → Nat
  | 0 => 0
  | k + 1 => sumTo f k + f k
theorem steps_sum (f : Nat → Nat) (kind : Int) (l : List Tr) : ∀ k, ((stepsTo kind l k).map fun x => f x.2).sum ≤ sumTo f (if kind = 8 then k + 1 else k)
  | 0 => by simp [stepsTo]
  | k + 1 => by
    have ih := steps_sum f kind l k
    have hm : sumTo f (if kind = 8 then k + 1 else k) ≤ sumTo f (if kind = 8 then k + 1 + 1 else k + 1) := by
      split
      · show _ ≤ sumTo f (k + 1) + f (k + 1)
        omega
      · show _ ≤ sumTo f k + f k
        omega
    cases hs : stepAt kind l k with
    | none =>
      rw [stepsTo_none hs]
      omega
    | some x =>
      cases hh : hasStp ((stepsTo kind l k).map (·.1)) x.1 with
      | true =>
        rw [stepsTo_old hs hh]
        omega
      | false =>
        rw [stepsTo_new hs hh, List.map_append, List.sum_append]
        have hx : x.2 = if kind = 8 then k + 1 else k := by
          unfold stepAt at hs
          split at hs
          · split at hs
            · rename_i h
              cases hs
              rw [if_pos h.1]
            · split at hs
              · rename_i h
                cases hs
                rw [if_neg (by omega)]
              · cases hs
          · cases hs
        have e : ([x].map fun x => f x.2).sum = f x.2 := by simp
        rw [e, hx]
        split
        · rename_i h8
          rw [if_pos h8] at ih
          show _ ≤ sumTo f (k + 1) + f (k + 1)
          omega
        · rename_i h8
          rw [if_neg h8] at ih
          show _ ≤ sumTo f k + f k
          omega
theorem sumTo_count (l : List Tr) : ∀ k, sumTo (fun i => ((l[i]?).map Tr.count).getD 0) k = countL (l.take k)
  | 0 => by simp [sumTo, countL]
  | k + 1 => by
    show sumTo _ k + ((l[k]?).map Tr.count).getD 0 = _
    rw [sumTo_count l k]
    by_cases hk : k < l.length
    · rw [countL_take l k hk, List.getElem?_eq_getElem hk]
      rfl
    · have hn : l[k]? = none := List.getElem?_eq_none (by omega)
      rw [hn, List.take_of_length_le (by omega), List.take_of_length_le (by omega)]
      rfl
theorem sum_le {α : Type} (f g : α → Nat) : ∀ l : List α, (∀ x ∈ l, f x ≤ g x) → (l.map f).sum ≤ (l.map g).sum
  | [], _ => by simp
  | a :: l, h => by
    have h1 := h a (List.mem_cons_self ..)
    have h2 := sum_le f g l (fun x hx => h x (List.mem_cons_of_mem _ hx))
    simp only [List.map_cons, List.sum_cons]
    omega
theorem allT_len : ∀ (k : Nat) (t : Tr) (p : List Stp), (allT k t p).length ≤ t.count
  | 0, t, p => by
    rw [Tr.count_eq]
    show 1 ≤ _
    omega
  | k + 1, t, p => by
    rw [allT_succ, Tr.count_eq]
    unfold accT
    rw [List.length_cons, List.length_flatMap]
    have h1 := sum_le (fun x => (goT k t p x).length) (fun x => ((t.kids[x.2]?).map Tr.count).getD 0) (stepsOf t) (fun x _ => by
      unfold goT
      split
      · cases h : t.kids[x.2]? with
        | none => simp
        | some u => exact allT_len k u _
      · simp)
    have h2 := steps_sum (fun i => ((t.kids[i]?).map Tr.count).getD 0) t.own.kind t.kids t.kids.length
    have h3 := sumTo_count t.kids (if t.own.kind = 8 then t.kids.length + 1 else t.kids.length)
    have h4 : t.kids.take (if t.own.kind = 8 then t.kids.length + 1 else t.kids.length) = t.kids := List.take_of_length_le (by split <;> omega)
    rw [h4] at h3
    rw [h3] at h2
    unfold stepsOf at h1 ⊢
    omega
theorem accT_len {k : Nat} {t : Tr} {p : List Stp} {pre : List (Stp × Nat)} (h : pre <+: stepsOf t) : (accT k t p pre).length ≤ t.count := by
  obtain ⟨r, hr⟩ := h
  have h1 := allT_len (k + 1) t p
  rw [allT_succ, ← hr] at h1
  unfold accT at *
  rw [List.flatMap_append] at h1
  simp only [List.length_cons, List.length_append] at h1 ⊢
  omega
end Go.Proofs.YtgfeeakcpojicaaGreatDoor
