/- The texts GateA, GateW, GateN, put together. -/
import Derived.Test.YtfckekaegjjmkaaGreatDoorPi02
import Derived.Test.YtfckekaegjjmkaaGreatDoorPi07
import Derived.Test.YtfckekaegjjmkaaGreatDoorPi06
import Derived.RangeFuncWrites
import Derived.Carry
namespace Go.Proofs.YtfckekaegjjmkaaGreatDoor
open Go.RowKit Go.Shelf

set_option maxHeartbeats 2000000 in
set_option maxRecDepth 100000 in
theorem tree_Depth (d : Nat) : ∀ (t : Tr) (x : Value) (w : World) (B : Nat), ListAt w B d t.kids x → B ≤ w.heap.size → t.count ≤ 1000000000000 →
    Calls Tryz.prog 30 #[nodeV t.own x] w fun e w' => e = .returned (.int .i64 (t.depth : Nat)) ∧ Below w.heap.size w w' := by
  induction d using Nat.strongRecOn with
  | _ d ih =>
  intro t x w B hl hB hc
  obtain ⟨hlen, A, c, rfl⟩ := hl.slice
  have hdc := depth_count t
  rw [Tr.depth_eq] at hdc ⊢
  have hkc : ∀ l, t.kids = l → ∀ k (h : k < l.length), l[k].count ≤ 1000000000000 := by
    rintro _ rfl k h
    have := Tr.count_eq t
    have h1 := countL_take t.kids k h
    have h2 := countL_mono t.kids (k + 1)
    omega
  obtain ⟨l, hkl⟩ : ∃ l, t.kids = l := ⟨_, rfl⟩
  have hkc := hkc l hkl
  rw [hkl] at hl hlen hdc ⊢
  obtain ⟨n, hn⟩ : ∃ n, l.length = n := ⟨_, rfl⟩
  rw [hn] at hl hlen ⊢
  obtain ⟨⟨kind, b, neg, dg, ex, u, wd, s⟩, ho⟩ : ∃ o, t.own = o := ⟨_, rfl⟩
  rw [ho]
  unfold nodeV
  have HL := Lib.hid hl
  have IH := Lib.hid ih
  have HKC := Lib.hid hkc
  have hbx := (Below.refl w.heap.size w).alloc (Nat.le_refl _) (.cells #[.int .i64 kind, .bool b, .bool neg, .string dg, .int .i64 ex, .int .u64 u, .int .i64 wd, .string s, .slice A n c] 27)
  have hBx : Blk (w.alloc (.cells #[.int .i64 kind, .bool b, .bool neg, .string dg, .int .i64 ex, .int .u64 u, .int .i64 wd, .string s, .slice A n c] 27)) w.heap.size #[.int .i64 kind, .bool b, .bool neg, .string dg, .int .i64 ex, .int .u64 u, .int .i64 wd, .string s, .slice A n c] 27 := Blk.new _ _ _
  have hd2 : depthL l + 1 ≤ 1000000000000 := by omega
  clear hl ih ho hkl hkc hdc hc
  simp only []
  have hf0 := hBx.cell 8
  go_enter Tryz.func30, Tryz.ntmps30
  go_wp2_with fail
  go_loopw [3, 9] (fun m i wr => ∃ k : Nat, k ≤ n ∧ i = .int .i64 k ∧ m = .int .i64 ((depthL (l.take k) : Nat) : Int) ∧ Below w.heap.size w wr) (fun _ i _ => n - (intOf i).toNat)
  case atStart => exact ⟨0, by omega, rfl, rfl, hbx⟩
  case round =>
    obtain ⟨k, hk, rfl, rfl, hbw⟩ := hrel
    by_cases hlt : k < n
    · have hkl : k < l.length := by omega
      obtain ⟨d', ad, x', hdd, rfl, hab, hok, hna, hkk⟩ := (HL.out.below hbw hB).at_ hkl
      obtain ⟨_, A2, c2, rfl⟩ := hkk.slice
      obtain ⟨n2, hn2⟩ : ∃ n2, l[k].kids.length = n2 := ⟨_, rfl⟩
      rw [hn2] at hna hkk
      have htk := depthL_take l k hkl
      have hba : Below wr.heap.size wr (wr.alloc (.cells (cellsV l[k].own (.slice A2 n2 c2)) 27)) := (Below.refl _ _).alloc (Nat.le_refl _) _
      have hba2 := hbw.trans (hba.mono hbw.size)
      have hkb := Blk.new wr (cellsV l[k].own (.slice A2 n2 c2)) 27
      have HC := IH.out d' (by omega) l[k] (.slice A2 n2 c2) _ B (hkk.below hba (Nat.le_trans hB hbw.size)) (Nat.le_trans hB hba2.size) (HKC.out k hkl)
      obtain ⟨m0, hm0⟩ : ∃ m0, depthL (l.take k) = m0 := ⟨_, rfl⟩
      obtain ⟨m1, hm1⟩ : ∃ m1, l[k].depth = m1 := ⟨_, rfl⟩
      rw [hm0, hm1] at htk
      rw [hm1] at HC
      obtain ⟨⟨kind', b', neg', dg', ex', u', wd', s'⟩, ho'⟩ : ∃ o, l[k].own = o := ⟨_, rfl⟩
      rw [ho'] at HC hna hkb hba2
      unfold nodeV at HC
      unfold cellsV at HC hkb hba2
      obtain ⟨k0, k1, k2, k3, k4, k5, k6, k7, k8⟩ := hna
      simp only [] at k0 k1 k2 k3 k4 k5 k6 k7 k8 HC hkb hba2
      have z0 := hkb.cell 0
      have z1 := hkb.cell 1
      have z2 := hkb.cell 2
      have z3 := hkb.cell 3
      have z4 := hkb.cell 4
      have z5 := hkb.cell 5
      have z6 := hkb.cell 6
      have z7 := hkb.cell 7
      have z8 := hkb.cell 8
      have HC := Lib.hid HC
      have HT := Lib.hid htk
      rw [hm0]
      have y1 : (k : Int) < n := by omega
      have y2 : max (m0 : Int) (m1 : Int) = ((max m0 m1 : Nat) : Int) := by omega
      clear htk hm0 hm1 ho' hkk hok hdd hba hn2
      go_wp2_with fail
      refine HC.out.mono ?_
      rintro e w2 ⟨rfl, hb2⟩
      have hb3 := hba2.trans (hb2.mono hba2.size)
      clear hb2 HC hkb k0 k1 k2 k3 k4 k5 k6 k7 k8 z0 z1 z2 z3 z4 z5 z6 z7 z8
      go_wp2_with fail
      go_roundw
      case rel => exact ⟨k + 1, by omega, by go_num, by first | (rw [HT.out]; done) | (rw [HT.out]; exact congrArg (Value.int .i64) (by omega)), hb3⟩
      case measure => simp [intOf]; omega
    · obtain rfl : k = n := by omega
      have y1 : ¬ (k : Int) < k := by omega
      have hf : l.take k = l := by rw [← hn, List.take_length]
      rw [hf]
      clear hn hf
      go_wp2_with fail
      go_ret
      exact ⟨by go_num, hbw⟩
end Go.Proofs.YtfckekaegjjmkaaGreatDoor
namespace Go.Proofs.YtfckekaegjjmkaaGreatDoor
open Go.RowKit Go.Shelf
attribute [local go_sem] Oper.semAt_some wide_fn wide_depth

mutual
/-- A tree's nodes, from above, from the left. -/
def preT : Tr → List Tr
  | .nd o l => .nd o l :: preL l
def preL : List Tr → List Tr
  | [] => []
  | t :: l => preT t ++ preL l
end
theorem preT_eq (t : Tr) : preT t = t :: preL t.kids := by
  cases t
  rw [preT]
  rfl
theorem preL_append : ∀ a b : List Tr, preL (a ++ b) = preL a ++ preL b
  | [], _ => rfl
  | t :: a, b => by
    show preT t ++ preL (a ++ b) = (preT t ++ preL a) ++ preL b
    rw [preL_append a b, List.append_assoc]
theorem preL_take (l : List Tr) (k : Nat) (hk : k < l.length) : preL (l.take (k + 1)) = preL (l.take k) ++ preT l[k] := by
  rw [List.take_succ_eq_append_getElem hk, preL_append]
  show preL (l.take k) ++ (preT l[k] ++ []) = _
  rw [List.append_nil]
theorem preL_all (l : List Tr) (k : Nat) : preL l = preL (l.take k) ++ preL (l.drop k) := by
  rw [← preL_append, List.take_append_drop]
theorem countL_pre : (∀ t : Tr, (preT t).length = t.count) := by
  have h : (∀ t : Tr, (preT t).length = t.count) ∧ (∀ l : List Tr, (preL l).length = countL l) := by
    constructor
    · intro t
      exact Tr.rec (motive_1 := fun t => (preT t).length = t.count) (motive_2 := fun l => (preL l).length = countL l)
        (fun o l ih => by rw [preT, Tr.count, List.length_cons, ih, Nat.add_comm]) rfl (fun t l h1 h2 => by rw [preL, countL, List.length_append, h1, h2]) t
    · intro l
      exact Tr.rec_1 (motive_1 := fun t => (preT t).length = t.count) (motive_2 := fun l => (preL l).length = countL l)
        (fun o l ih => by rw [preT, Tr.count, List.length_cons, ih, Nat.add_comm]) rfl (fun t l h1 h2 => by rw [preL, countL, List.length_append, h1, h2]) l
  exact h.1

/-- A node that the iterator yields, with its list. -/
abbrev TV := Tr × Value
def encN (s : TV) : Array Value := #[nodeV s.1.own s.2]
def GoodN (W : World) (B : Nat) (s : TV) : Prop := OwnOk s.1.own ∧ ∃ d, ListAt W B d s.1.kids s.2
def AllG (W : World) (B : Nat) (ys : List TV) : Prop := ∀ s ∈ ys, GoodN W B s
theorem AllG.one {W : World} {B : Nat} {s : TV} (h : GoodN W B s) : AllG W B [s] := fun x hx => by
  rw [List.mem_singleton.1 hx]
  exact h
theorem AllG.append {W : World} {B : Nat} {a b : List TV} (ha : AllG W B a) (hb : AllG W B b) : AllG W B (a ++ b) := fun s hs => (List.mem_append.1 hs).elim (ha s) (hb s)

/-- What a round keeps: what lies below n, and all cells, but the blocks of X. -/
def KpC (X : Nat → Prop) (n : Nat) (A B : World) : Prop := A.heap.size ≤ B.heap.size ∧ (∀ q, q < n → ¬ X q → B.heap[q]? = A.heap[q]?) ∧ ∀ q o, A.heap[q]? = some o → o.isCells = true → ¬ X q → B.heap[q]? = some o
theorem KpC.refl (X : Nat → Prop) (n : Nat) (A : World) : KpC X n A A := ⟨Nat.le_refl _, fun _ _ _ => rfl, fun _ _ h _ _ => h⟩
theorem KpC.trans {X : Nat → Prop} {n : Nat} {A B C : World} (h : KpC X n A B) (k : KpC X n B C) : KpC X n A C :=
  ⟨Nat.le_trans h.1 k.1, fun q hq hx => (k.2.1 q hq hx).trans (h.2.1 q hq hx), fun q o ho hc hx => k.2.2 q o (h.2.2 q o ho hc hx) hc hx⟩
theorem KpC.below {X : Nat → Prop} {n : Nat} {A B : World} (h : Below A.heap.size A B) (hn : n ≤ A.heap.size) : KpC X n A B :=
  ⟨h.size, fun q hq _ => h.block q (by omega), fun q o ho _ _ => (h.block q (Array.getElem?_eq_some_iff.1 ho).1).trans ho⟩
theorem KpC.putObj {X : Nat → Prop} {n : Nat} (W : World) (l : Nat) (o o' : Obj) (hl : n ≤ l) (h : W.heap[l]? = some o) (ho : o.isCells = false) : KpC X n W (W.putObj l o') := by
  refine ⟨?_, fun q hq _ => World.putObj_heap_other (by omega), fun q p hp hc _ => ?_⟩
  · exact (grownBy_putObj' W l o').size
  · refine (World.putObj_heap_other ?_).trans hp
    rintro rfl
    rw [h] at hp
    cases hp
    rw [ho] at hc
    cases hc
theorem KpC.blk {X : Nat → Prop} {n : Nat} {A B : World} (h : KpC X n A B) {b : Nat} {cs : Array Value} {t : TypeId} (hb : Blk A b cs t) (hx : ¬ X b) : Blk B b cs t := h.2.2 b _ hb rfl hx
theorem KpC.list {X : Nat → Prop} {n m : Nat} {A B : World} (h : KpC X n A B) (hm : m ≤ n) (hx : ∀ q, q < m → ¬ X q) {d : Nat} {l : List Tr} {v : Value} (hl : ListAt A m d l v) : ListAt B m d l v :=
  hl.keep (fun q hq => h.2.1 q (by omega) (hx q hq))
theorem NodeAt.keep {W W' : World} {a : Addr} {o : Own} {x : Value} (h : NodeAt W a o x) (hk : W'.heap[a.block]? = W.heap[a.block]?) : NodeAt W' a o x where
  c0 := (cell_keep hk).trans h.c0
  c1 := (cell_keep (a := ⟨a.block, a.off + 1, none⟩) hk).trans h.c1
  c2 := (cell_keep (a := ⟨a.block, a.off + 2, none⟩) hk).trans h.c2
  c3 := (cell_keep (a := ⟨a.block, a.off + 3, none⟩) hk).trans h.c3
  c4 := (cell_keep (a := ⟨a.block, a.off + 4, none⟩) hk).trans h.c4
  c5 := (cell_keep (a := ⟨a.block, a.off + 5, none⟩) hk).trans h.c5
  c6 := (cell_keep (a := ⟨a.block, a.off + 6, none⟩) hk).trans h.c6
  c7 := (cell_keep (a := ⟨a.block, a.off + 7, none⟩) hk).trans h.c7
  c8 := (cell_keep (a := ⟨a.block, a.off + 8, none⟩) hk).trans h.c8
/-- What the iterator may do between two rounds: make memory. -/
abbrev MvB (A B : World) : Prop := Below A.heap.size A B

set_option maxHeartbeats 4000000 in
set_option maxRecDepth 100000 in
theorem walk_in (l0 B n0 : Nat) (X : Nat → Prop) (W0 : World) (J Jx : List TV → World → Prop) (T : List TV → Prop) (hJ : ∀ s A B, J s A → MvB A B → J s B) (hB : B ≤ n0) (hn0 : n0 ≤ W0.heap.size) (hXB : ∀ q, q < B → ¬ X q) (hXn : ∀ q, n0 ≤ q → ¬ X q)
    (hY : ∀ pre x W1, J pre W1 → T (pre ++ [x]) → YieldAt Fence.wide 7 Tryz.prog l0 (encN x) W1 fun e W' => (e = .returned (.bool true) ∧ J (pre ++ [x]) W' ∧ KpC X n0 W1 W') ∨ (e = .returned (.bool false) ∧ Jx (pre ++ [x]) W')) (d : Nat) :
    ∀ (t : Tr) (x : Value) (acc : List TV) (W : World), KpC X n0 W0 W → ListAt W0 B d t.kids x → OwnOk t.own →
      (∀ xs : List TV, xs.map Prod.fst <+: preT t → AllG W0 B xs → T (acc ++ xs)) → J acc W →
      Calls Tryz.prog 62 #[nodeV t.own x, .func (.yield l0) #[] #[]] W fun e W' =>
        (e = .returned (.bool true) ∧ ∃ ys : List TV, ys.map Prod.fst = preT t ∧ AllG W0 B ys ∧ J (acc ++ ys) W' ∧ KpC X n0 W W') ∨
        (e = .returned (.bool false) ∧ ∃ ys : List TV, ys.map Prod.fst <+: preT t ∧ AllG W0 B ys ∧ Jx (acc ++ ys) W') := by
  induction d using Nat.strongRecOn with
  | _ d ih =>
  intro t x acc W hkw hl ho hT hj
  have hnw := Nat.le_trans hn0 hkw.1
  have hgt : GoodN W0 B (t, x) := ⟨ho, d, hl⟩
  have hpre := preT_eq t
  have hT1 := hT [(t, x)] (by rw [hpre]; exact ⟨_, rfl⟩) (AllG.one hgt)
  obtain ⟨hlen, A, c, rfl⟩ := hl.slice
  obtain ⟨l, hkl⟩ : ∃ l, t.kids = l := ⟨_, rfl⟩
  have HE := Lib.hid (show encN (t, .slice A l.length c) = #[nodeV t.own (.slice A l.length c)] from rfl)
  rw [hkl] at hl hlen hpre hT1 hgt ⊢
  obtain ⟨n, hn⟩ : ∃ n, l.length = n := ⟨_, rfl⟩
  rw [hn] at hl hlen hT1 HE hgt ⊢
  have hb1 : Below W.heap.size W (W.alloc (.cells (cellsV t.own (.slice A n c)) 27)) := (Below.refl _ _).alloc (Nat.le_refl _) _
  have hk1 := Blk.new W (cellsV t.own (.slice A n c)) 27
  have hj1 := hJ acc W _ hj hb1
  have hkw1 : KpC X n0 W _ := KpC.below hb1 hnw
  have HYX := Lib.hid (hY acc (t, .slice A n c) _ hj1 hT1)
  rw [HE.out] at HYX
  obtain ⟨⟨kind, b, neg, dg, ex, u, wd, s⟩, ho'⟩ : ∃ o, t.own = o := ⟨_, rfl⟩
  rw [ho'] at HYX hk1 hkw1 ⊢
  have HL := Lib.hid hl
  have HT := Lib.hid hT
  have HP := Lib.hid hpre
  have HG := Lib.hid hgt
  have IH := Lib.hid ih
  have HKW := Lib.hid hkw
  unfold nodeV at *
  unfold cellsV at *
  simp only [] at HYX hk1 hkw1 ⊢
  have hxW : ¬ X W.heap.size := hXn _ hnw
  have z0 := hk1.cell 0
  have z1 := hk1.cell 1
  have z2 := hk1.cell 2
  have z3 := hk1.cell 3
  have z4 := hk1.cell 4
  have z5 := hk1.cell 5
  have z6 := hk1.cell 6
  have z7 := hk1.cell 7
  have z8 := hk1.cell 8
  have HN := Lib.hid hn
  clear hl hT hpre hgt ih hY hT1 hb1 hj1 hn hkw
  refine callsIn_wide.1 (callsIn_of_wp (n := 8) Tryz.func62 rfl trivial ?_ rfl)
  simp only [Tryz.ntmps62, List.size_toArray, List.length_cons, List.length_nil, Nat.reduceAdd, Nat.reduceSub, Array.replicate_succ, Array.replicate_zero, List.push_toArray, List.append_toArray, List.nil_append, List.cons_append]
  obtain ⟨fn, tmps, assign, body, hy, hR⟩ := HYX.out
  gi_wp2_with fail
  refine hR.mono ?_
  rintro e W1 (⟨rfl, hj2, hkp⟩ | ⟨rfl, hx2⟩)
  · have hk2 := hkp.blk hk1 hxW
    have hkw2 := hkw1.trans hkp
    have y8 := hk2.cell 8
    clear hR hy HYX z0 z1 z2 z3 z4 z5 z6 z7 z8 hkp hkw1 hk1
    have HJ2 := Lib.hid hj2
    gi_wp2_with fail
    gi_loopw [14] (fun i wr => ∃ k : Nat, k ≤ n ∧ i = .int .i64 k ∧ (∃ ys : List TV, ys.map Prod.fst = t :: preL (l.take k) ∧ AllG W0 B ys ∧ J (acc ++ ys) wr) ∧ KpC X n0 W wr) (fun i _ => n - (intOf i).toNat)
    case atStart => exact ⟨0, by omega, rfl, ⟨[(t, .slice A n c)], by rw [List.take_zero]; rfl, AllG.one HG.out, HJ2.out⟩, hkw2⟩
    case round =>
      obtain ⟨k, hk, rfl, ⟨ys, hm, hgy, hjy⟩, hkr⟩ := hrel
      clear y8 hk2 HJ2
      by_cases hlt : k < n
      · have hkl : k < l.length := by rw [HN.out]; exact hlt
        obtain ⟨d', ad, x', hdd, rfl, hab, hok, hna, hkk⟩ := HL.out.at_ hkl
        obtain ⟨_, A2, c2, rfl⟩ := hkk.slice
        obtain ⟨n2, hn2⟩ : ∃ n2, l[k].kids.length = n2 := ⟨_, rfl⟩
        rw [hn2] at hna hkk
        have hk0 := HKW.out.trans hkr
        have hna := hna.keep (W' := wr) (by rw [add_block]; exact hk0.2.1 _ (by omega) (hXB _ hab))
        have hnr := Nat.le_trans hn0 hk0.1
        have htk := preL_take l k hkl
        have hpa := preL_all l (k + 1)
        have hba : Below wr.heap.size wr (wr.alloc (.cells (cellsV l[k].own (.slice A2 n2 c2)) 27)) := (Below.refl _ _).alloc (Nat.le_refl _) _
        have hba0 := KpC.below (X := X) (n := n0) hba hnr
        have hpf : preT t = (t :: preL (l.take k)) ++ (preT l[k] ++ preL (l.drop (k + 1))) := by
          rw [HP.out, hpa, htk, List.cons_append, List.append_assoc]
        have hcall := IH.out d' (by omega) l[k] (.slice A2 n2 c2) (acc ++ ys) _ (hk0.trans hba0) hkk hok (fun xs hx hg => by
          rw [List.append_assoc]
          refine HT.out (ys ++ xs) ?_ (hgy.append hg)
          rw [List.map_append, hm, hpf, List.prefix_append_right_inj]
          exact hx.trans (List.prefix_append _ _)) (hJ _ _ _ hjy hba)
        have hkb := Blk.new wr (cellsV l[k].own (.slice A2 n2 c2)) 27
        have HTK := Lib.hid htk
        have HPF := Lib.hid hpf
        have HKR := Lib.hid (hkr.trans hba0)
        obtain ⟨tk, htke⟩ : ∃ tk, l[k] = tk := ⟨_, rfl⟩
        rw [htke] at hcall hkb hna HTK HPF
        obtain ⟨⟨kind', b', neg', dg', ex', u', wd', s'⟩, ho2⟩ : ∃ o, tk.own = o := ⟨_, rfl⟩
        simp only [htke, ho2] at hcall hkb hna HKR
        unfold cellsV at hcall hkb HKR
        obtain ⟨k0, k1, k2, k3, k4, k5, k6, k7, k8⟩ := hna
        simp only [] at k0 k1 k2 k3 k4 k5 k6 k7 k8 hcall hkb HKR
        have z0 := hkb.cell 0
        have z1 := hkb.cell 1
        have z2 := hkb.cell 2
        have z3 := hkb.cell 3
        have z4 := hkb.cell 4
        have z5 := hkb.cell 5
        have z6 := hkb.cell 6
        have z7 := hkb.cell 7
        have z8 := hkb.cell 8
        have HC := Lib.hid (callsIn_wide (n := 7).2 hcall)
        have y1 : (k : Int) < n := by omega
        clear hcall hkb htk hpa hpf hba hba0 hkk hok hdd hk0 htke ho2 hkr hjy hn2
        gi_wp2_with fail
        refine HC.out.mono ?_
        rintro e w2 (⟨rfl, ys2, hm2, hg2, hj2, hk2⟩ | ⟨rfl, ys2, hm2, hg2, hx2⟩)
        · have hkr2 := HKR.out.trans hk2
          clear HC z0 z1 z2 z3 z4 z5 z6 z7 z8 k0 k1 k2 k3 k4 k5 k6 k7 k8
          gi_wp2_with fail
          go_roundw
          case rel => exact ⟨k + 1, by omega, by go_num, ⟨ys ++ ys2, by rw [List.map_append, hm, hm2, HTK.out]; rfl, hgy.append hg2, by rw [← List.append_assoc]; exact hj2⟩, hkr2⟩
          case measure => simp [intOf]; omega
        · clear HC z0 z1 z2 z3 z4 z5 z6 z7 z8 k0 k1 k2 k3 k4 k5 k6 k7 k8
          gi_wp2_with fail
          refine bodyPost_ret (v := .bool false) (by simp [results, Tryz.results62, go_sem]) rfl ?_
          refine .inr ⟨rfl, ys ++ ys2, ?_, hgy.append hg2, by rw [← List.append_assoc]; exact hx2⟩
          rw [List.map_append, hm, HPF.out, List.prefix_append_right_inj]
          exact hm2.trans (List.prefix_append _ _)
      · obtain rfl : k = n := by omega
        have y1 : ¬ (k : Int) < k := by omega
        have hf : l.take k = l := by rw [← HN.out, List.take_length]
        rw [hf] at hm
        gi_wp2_with fail
        refine bodyPost_ret (v := .bool true) (by simp [results, Tryz.results62, go_sem]) rfl ?_
        exact .inl ⟨rfl, ys, by rw [hm, HP.out], hgy, hjy, hkr⟩
  · clear hR hy HYX z0 z1 z2 z3 z4 z5 z6 z7 z8
    gi_wp2_with fail
    refine bodyPost_ret (v := .bool false) (by simp [results, Tryz.results62, go_sem]) rfl ?_
    exact .inr ⟨rfl, [(t, .slice A n c)], by rw [HP.out]; exact ⟨_, rfl⟩, AllG.one HG.out, hx2⟩
end Go.Proofs.YtfckekaegjjmkaaGreatDoor
namespace Go.Proofs.YtfckekaegjjmkaaGreatDoor
open Go.RowKit Go.Shelf

theorem tree_nodes (v : Value) (o : Own) (w : World) :
    Calls Tryz.prog 43 #[nodeV o v] w fun e w' => e = .returned (.func (.func 61) #[] #[.pointer (some ⟨w.heap.size, 0, none⟩)]) ∧ w.alloc (.cells (cellsV o v) 27) = w' := by
  unfold nodeV cellsV
  go_enter Tryz.func43, Tryz.ntmps43
  go_wp2
  go_ret
  exact ⟨rfl, rfl⟩

section
attribute [local go_sem] Oper.semAt_some wide_fn wide_depth
theorem GoodN.back {w W : World} {B : Nat} {s : TV} (hb : Below w.heap.size w W) (hB : B ≤ w.heap.size) (h : GoodN W B s) : GoodN w B s :=
  ⟨h.1, let ⟨d, hl⟩ := h.2; ⟨d, hl.keep (fun q hq => (hb.block q (by omega)).symm)⟩⟩
theorem AllG.back {w W : World} {B : Nat} {ys : List TV} (hb : Below w.heap.size w W) (hB : B ≤ w.heap.size) (h : AllG W B ys) : AllG w B ys := fun s hs => (h s hs).back hb hB

set_option maxHeartbeats 4000000 in
set_option maxRecDepth 100000 in
theorem nodes_seq (bn B d n0 : Nat) (X : Nat → Prop) (t : Tr) (x : Value) (w0 : World) (hB : B ≤ n0) (hn0 : n0 ≤ w0.heap.size) (hXB : ∀ q, q < B → ¬ X q) (hXn : ∀ q, n0 ≤ q → ¬ X q) (hb : Blk w0 bn (cellsV t.own x) 27) (hl : ListAt w0 B d t.kids x) (ho : OwnOk t.own) :
    SeqW Tryz.prog 61 #[.pointer (some ⟨bn, 0, none⟩)] encN MvB (KpC X n0) (fun _ => True) (fun xs _ => xs.map Prod.fst <+: preT t ∧ AllG w0 B xs) (fun xs _ => xs.map Prod.fst = preT t ∧ AllG w0 B xs) (fun pre _ => pre.map Prod.fst <+: preT t ∧ AllG w0 B pre) (fun W => Below w0.heap.size w0 W) := by
  intro l0 J Jx W hW hJ hJx hY h0
  have hB0 := Nat.le_trans hB hn0
  have hW2 := walk_in l0 B n0 X W J Jx (fun xs => xs.map Prod.fst <+: preT t ∧ AllG w0 B xs) hJ hB (Nat.le_trans hn0 hW.size) hXB hXn
    (fun pre y W1 hj hT => by
      obtain ⟨fn, tmps, assign, body, hy, hR⟩ := hY pre y W1 hj hT
      refine ⟨fn, tmps, assign, body, hy, hR.mono ?_⟩
      rintro e W' (⟨h1, _, h2, h3⟩ | h1)
      · exact .inl ⟨h1, h2, h3⟩
      · exact .inr h1) d t x [] W (KpC.refl _ _ _) (hl.below hW hB0) ho (fun xs hx hg => ⟨hx, hg.back hW hB0⟩) h0
  have hbW := hb.below hW hb.lt
  obtain ⟨⟨kind, b, neg, dg, ex, u, wd, s⟩, ho'⟩ : ∃ o, t.own = o := ⟨_, rfl⟩
  obtain ⟨_, A, c, rfl⟩ := hl.slice
  obtain ⟨n, hn⟩ : ∃ n, t.kids.length = n := ⟨_, rfl⟩
  rw [ho', hn] at hW2 hbW
  unfold nodeV at hW2
  unfold cellsV at hbW
  simp only [] at hW2 hbW
  have HC := Lib.hid (callsIn_wide (n := 7).2 hW2)
  have z0 := hbW.cell 0
  have z1 := hbW.cell 1
  have z2 := hbW.cell 2
  have z3 := hbW.cell 3
  have z4 := hbW.cell 4
  have z5 := hbW.cell 5
  have z6 := hbW.cell 6
  have z7 := hbW.cell 7
  have z8 := hbW.cell 8
  clear hY hJ hJx hl hb hW2 hbW
  refine callsIn_of_wp Tryz.func61 rfl trivial ?_ rfl
  simp only [Tryz.ntmps61, List.size_toArray, List.length_cons, List.length_nil, Nat.reduceAdd, Nat.reduceSub, Array.replicate_succ, Array.replicate_zero, List.push_toArray, List.append_toArray, List.nil_append, List.cons_append]
  gi_wp2_with fail
  refine HC.out.mono ?_
  rintro e w2 (⟨rfl, ys, hm, hg, hj, _⟩ | ⟨rfl, ys, hm, hg, hx⟩)
  · have hg2 := hg.back hW hB0
    clear HC z0 z1 z2 z3 z4 z5 z6 z7 z8
    gi_wp2_with fail
    go_end0
    exact ⟨⟨_, rfl⟩, .inl ⟨ys, ⟨hm, hg2⟩, hj⟩⟩
  · have hg2 := hg.back hW hB0
    clear HC z0 z1 z2 z3 z4 z5 z6 z7 z8
    gi_wp2_with fail
    go_end0
    exact ⟨⟨_, rfl⟩, .inr ⟨ys, ⟨hm, hg2⟩, hx⟩⟩

theorem KpC.setCell {X : Nat → Prop} {n : Nat} (W : World) (p i : Nat) (v : Value) (hx : X p) : KpC X n W (W.setCell ⟨p, i, none⟩ v) := by
  have hne : ∀ q, ¬ X q → q ≠ p := fun q hq e => hq (by rw [e]; exact hx)
  exact ⟨by simp [World.setCell], fun q _ hq => Below.heap_setCell W ⟨p, i, none⟩ v q (hne q hq), fun q o ho _ hq => (Below.heap_setCell W ⟨p, i, none⟩ v q (hne q hq)).trans ho⟩

set_option maxHeartbeats 4000000 in
set_option maxRecDepth 100000 in
theorem tree_Count (t : Tr) (x : Value) (w : World) (B d : Nat) (hl : ListAt w B d t.kids x) (ho : OwnOk t.own) (hB : B ≤ w.heap.size) (hc : t.count ≤ 1000000000000) :
    Calls Tryz.prog 31 #[nodeV t.own x] w fun e w' => e = .returned (.int .i64 (t.count : Nat)) ∧ Below w.heap.size w w' := by
  obtain ⟨hb2, hk1, hk2⟩ := box2 w (cellsV t.own x) #[.int .i64 0] 27 3
  have HN := Lib.hid (tree_nodes x t.own)
  refine calls_of_marks Tryz.func31 rfl ?_
  simp only [Tryz.ntmps31, List.size_toArray, List.length_cons, List.length_nil, Nat.reduceAdd, Nat.reduceSub, Array.replicate_succ, Array.replicate_zero, List.push_toArray, List.append_toArray, List.nil_append, List.cons_append]
  obtain ⟨⟨kind, b, neg, dg, ex, u, wd, s⟩, ho'⟩ : ∃ o, t.own = o := ⟨_, rfl⟩
  rw [ho'] at HN hk1 hk2 hb2
  unfold nodeV at *
  unfold cellsV at *
  simp only [] at HN hk1 hk2 hb2
  have hbx := box2
  have HK2 := Lib.hid hk2
  have HB2 := Lib.hid hb2
  have HK1 := Lib.hid hk1
  clear hbx
  go_wp2_with (refine wpList_load_row rfl 27 (.tmp 1) rfl w.heap.size rfl 27 _ (0, 0) _ HK1.out Tryz.underlying27 rfl (by kernel_rfl) ?_)
  refine (HN.out _).mono ?_
  rintro e w1 ⟨rfl, hw1⟩
  have hb3 : Below w.heap.size w w1 := by
    rw [← hw1]
    exact HB2.out.alloc (by simp; omega) _
  have hbn : Blk w1 (w.heap.size + 2) #[.int .i64 kind, .bool b, .bool neg, .string dg, .int .i64 ex, .int .u64 u, .int .i64 wd, .string s, x] 27 := by
    rw [← hw1]
    have := Blk.new ((w.alloc (.cells #[.int .i64 kind, .bool b, .bool neg, .string dg, .int .i64 ex, .int .u64 u, .int .i64 wd, .string s, x] 27)).alloc (.cells #[.int .i64 0] 3)) #[.int .i64 kind, .bool b, .bool neg, .string dg, .int .i64 ex, .int .u64 u, .int .i64 wd, .string s, x] 27
    simp only [World.size_alloc] at this
    exact this
  have hbc : Blk w1 (w.heap.size + 1) #[.int .i64 0] 3 := by
    rw [← hw1]
    exact HK2.out.alloc (.cells #[.int .i64 kind, .bool b, .bool neg, .string dg, .int .i64 ex, .int .u64 u, .int .i64 wd, .string s, x] 27)
  have hzw : w1.heap.size = w.heap.size + 3 := by rw [← hw1]; simp
  rw [World.size_alloc, World.size_alloc]
  clear HK1 HK2 HB2 hw1 hk1 hk2 hb2
  go_wp2_with fail
  have hcn := countL_pre t
  refine wp_rangeFuncW (gf := 61) (lb := #[.pointer (some ⟨w.heap.size + 2, 0, none⟩)]) rfl (enters_of Tryz.func61 (by kernel_rfl) rfl)
    (nodes_seq (w.heap.size + 2) B d w1.heap.size (fun q => q = w.heap.size + 1) t x w1 (by omega) (Nat.le_refl _) (fun q hq => by omega) (fun q hq => by omega) (by rw [ho']; exact hbn) (hl.below hb3 hB) ho)
    ?hMv ?hA0 ?hKt ?hKb ?hps (fun pre W => Blk W (w.heap.size + 1) #[.int .i64 pre.length] 3 ∧ Below w.heap.size w W) (fun _ _ _ => False) ?hI ?hIx ?hIM ?hIxM ?h0 ?hCt
    (fun tm pre y a' _ => pre.length < t.count ∧ a' = { tmps := tm.setIfInBounds 6 (nodeV y.1.own y.2), defers := [] }) ?hAx ?assign ?body ?hS ?hSp ?done ?stop
  case hMv => exact fun A B k o hM hk ho _ => (hM.block k (Array.getElem?_eq_some_iff.1 ho).1).trans ho
  case hA0 => exact fun o o' => ((Below.refl _ w1).alloc (Nat.le_refl _) o).alloc (by simp) o'
  case hKt => exact fun h1 h2 => h1.trans h2
  case hKb => exact fun W l o o' hl h ho => KpC.putObj W l o o' hl h ho
  case hps => exact fun _ => rfl
  case hI =>
    refine OwnFrom.and (Own.from ?_ _) (ownFrom_below (by omega) (by omega))
    exact blk_own _ _ (fun pre : List TV => #[.int .i64 pre.length])
  case hIx => exact fun c s A B row h _ _ => h.elim
  case hIM => exact fun s A B h hM => ⟨h.1.below hM h.1.lt, h.2.trans (hM.mono h.2.size)⟩
  case hIxM => exact fun c s A B h _ => h.elim
  case h0 => exact ⟨hbc, hb3⟩
  case hCt => exact fun _ _ _ _ => trivial
  case hAx => exact fun _ _ _ _ _ _ _ h _ _ => h
  case assign =>
    intro l pre y W K hI hT hK
    have hlt : pre.length < t.count := by
      have := hT.1.length_le
      rw [List.map_append, List.length_append, List.length_map, hcn] at this
      exact this
    unfold encN
    gi_wp2
    exact hK _ _ (KeepsFrom.refl _ _) (KpC.refl _ _ _) hI ⟨hlt, rfl⟩
  case body =>
    rintro l pre y a' W hl hlo ⟨hc0, hbw⟩ ⟨hlt, rfl⟩
    have y1 := hc0.cell 0
    have y2 := hc0.frozen 0
    have e1 : wrap64 ((pre.length : Int) + 1) = ((pre.length + 1 : Nat) : Int) := by
      rw [← IntWalk.i64_left]
      exact IntWalk.i64_in _ (by omega)
    gi_wp2
    refine ⟨KeepsFrom.of_grownBy (grown_set W (w.heap.size + 1) 0 _) (fun j e => by cases e; omega), KpC.setCell _ _ _ _ rfl, ?_, hbw.setCell (Nat.le_succ _) _⟩
    have := hc0.set 0 (.int .i64 ((pre.length : Int) + 1))
    rw [List.length_append]
    exact this
  case hS => exact fun _ _ _ _ h _ _ => h
  case hSp => exact fun _ _ _ _ h _ _ => h
  case done =>
    rintro D xs W hD ⟨hS, _⟩ ⟨hc0, hbw⟩ hdf
    have hlen : xs.length = t.count := by
      rw [← hcn, ← hS, List.length_map]
    have y1 := hc0.cell 0
    rw [hlen] at y1
    go_wp2_with fail
    refine leave1 (v := .int .i64 (t.count : Nat)) hdf (by simp [results, Tryz.results31, go_sem]) rfl ⟨rfl, below_shut hbw (by omega) hbw.size _⟩
  case stop => exact fun D c pre W _ _ h _ => h.elim
end
end Go.Proofs.YtfckekaegjjmkaaGreatDoor
