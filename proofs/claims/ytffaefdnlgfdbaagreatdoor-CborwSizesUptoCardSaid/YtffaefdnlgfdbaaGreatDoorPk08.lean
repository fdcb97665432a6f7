/- The texts Spec, GateK, put together. -/
import Derived.Test.YtffaefdnlgfdbaaGreatDoorPk03
import Derived.Test.YtffaefdnlgfdbaaGreatDoorPk07
import Derived.Lib.ValidU
import Derived.Test.YtffaefdnlgfdbaaGreatDoorPk05
/- What a tree is that is right, plainly: naturals, decimals, widths, a node's own, all of it. No function of the program. -/
namespace Go.Proofs.YtffaefdnlgfdbaaGreatDoor
open Go.RowKit Go.Shelf

mutual
def Tr.depth : Tr → Nat
  | .nd _ l => depthL l + 1
def depthL : List Tr → Nat
  | [] => 0
  | t :: l => max t.depth (depthL l)
end
theorem Tr.depth_eq (t : Tr) : t.depth = depthL t.kids + 1 := by
  cases t
  rw [Tr.depth]
  rfl
theorem depthL_append : ∀ a b : List Tr, depthL (a ++ b) = max (depthL a) (depthL b)
  | [], b => by simp [depthL]
  | t :: a, b => by
    show max t.depth (depthL (a ++ b)) = max (max t.depth (depthL a)) (depthL b)
    rw [depthL_append a b]
    omega
theorem depthL_take (l : List Tr) (k : Nat) (hk : k < l.length) : depthL (l.take (k + 1)) = max (depthL (l.take k)) l[k].depth := by
  rw [List.take_succ_eq_append_getElem hk, depthL_append]
  simp [depthL]
mutual
theorem depth_count : ∀ t : Tr, t.depth ≤ t.count
  | .nd _ l => by
    rw [Tr.depth, Tr.count]
    have := depthL_count l
    omega
theorem depthL_count : ∀ l : List Tr, depthL l ≤ countL l
  | [] => by simp [depthL]
  | t :: l => by
    rw [depthL, countL]
    have := depth_count t
    have := depthL_count l
    omega
end

theorem sameT_own (t : Tr) (o : Own) : sameT t (.nd o t.kids) = decide (t.own = o) := by
  rw [sameT_eq]
  show (decide (t.own = o) && decide (t.kids.length = t.kids.length) && sameL t.kids t.kids) = _
  rw [sameL_refl, decide_eq_true rfl, Bool.and_true, Bool.and_true]
/-- Has a node nothing but what x has (and its kind and its list)? -/
def onlyB (o x : Own) : Bool := decide (o = { x with kind := o.kind })

def natOk (s : ByteArray) : Bool := decide (1 ≤ s.size) && (decide (s.size ≤ 400) && (!(decide (1 < s.size) && decide (s.data.toList.head? = some 48)) && s.data.toList.all isDig))
theorem all_dig {s : ByteArray} : s.data.toList.all isDig = true ↔ ∀ j (h : j < s.size), isDig s[j] = true := by
  rw [List.all_eq_true]
  constructor
  · intro h j hj
    refine h _ ?_
    rw [ByteArray.getElem_eq_getElem_data, Array.mem_toList_iff]
    exact Array.getElem_mem _
  · intro h c hc
    obtain ⟨j, hj, rfl⟩ := List.getElem_of_mem hc
    have hj' : j < s.size := by simpa using hj
    have := h j hj'
    rw [ByteArray.getElem_eq_getElem_data] at this
    simpa using this
theorem head_at0 (s : ByteArray) (h : 0 < s.size) : s.data.toList.head? = some s[0] := by
  rw [List.head?_eq_getElem?, List.getElem?_eq_getElem (by simpa using h)]
  simp [ByteArray.getElem_eq_getElem_data]

def decOk (neg : Bool) (dg : ByteArray) (ex : Int) : Bool :=
  natOk dg && (decide (dg.size ≤ 100) && (if dg.toList = [48] then decide (ex = 0) && !neg else decide (-100 ≤ ex) && (decide (ex ≤ 100) && !decide (dg.data.toList.getLast? = some 48))))

def wideB (w : Int) : Bool := decide (w = 16) || (decide (w = 32) || decide (w = 64))

def wideOk (u : Int) (wd : Int) : Bool := if wd = 64 then true else if wd = 16 then decide (u < 65536) else if wd = 32 then decide (u < 4294967296) else false

/-- No two keys are the same. -/
def KeysApart (l : List Tr) : Prop := ∀ (i k : Nat) (hi : i < l.length) (hk : k < i), i % 2 = 0 → k % 2 = 0 → sameT l[i] (l[k]'(by omega)) = false
noncomputable def keysB (l : List Tr) : Bool := @decide (KeysApart l) (Classical.propDecidable _)
noncomputable def ownB (o : Own) (l : List Tr) : Bool :=
  if o.kind = 1 then decide (l.length = 0) && onlyB o zeroO
  else if o.kind = 2 then decide (l.length = 0) && onlyB o { zeroO with b := o.b }
  else if o.kind = 3 then decide (l.length = 0) && (onlyB o { zeroO with neg := o.neg, dg := o.dg, ex := o.ex } && decOk o.neg o.dg o.ex)
  else if o.kind = 4 then decide (l.length = 0) && (onlyB o { zeroO with u := o.u, wd := o.wd } && wideOk o.u o.wd)
  else if o.kind = 5 then decide (l.length = 0) && (onlyB o { zeroO with s := o.s } && (decide (o.s.size ≤ 400) && Lib.validD o.s.data.toList))
  else if o.kind = 6 then decide (l.length = 0) && (onlyB o { zeroO with s := o.s } && decide (o.s.size ≤ 400))
  else if o.kind = 7 then onlyB o zeroO
  else if o.kind = 8 then onlyB o zeroO && (decide (l.length % 2 = 0) && keysB l)
  else if o.kind = 9 then decide (l.length = 1) && onlyB o { zeroO with u := o.u }
  else if o.kind = 10 then decide (l.length = 0) && (onlyB o { zeroO with u := o.u } && (decide (o.u ≤ 19) || (decide (o.u = 23) || (decide (32 ≤ o.u) && decide (o.u ≤ 255)))))
  else if o.kind = 11 then decide (l.length = 0) && (onlyB o { zeroO with u := o.u, s := o.s } && (decide (o.u ≤ 255) && decide (o.s.size ≤ 400)))
  else false

mutual
noncomputable def allB : Tr → Bool
  | .nd o l => ownB o l && allL l
noncomputable def allL : List Tr → Bool
  | [] => true
  | t :: l => allB t && allL l
end
theorem allB_eq (t : Tr) : allB t = (ownB t.own t.kids && allL t.kids) := by
  cases t
  rw [allB]
  rfl
theorem allL_drop (l : List Tr) (k : Nat) (h : k < l.length) : allL (l.drop k) = (allB l[k] && allL (l.drop (k + 1))) := by
  rw [List.drop_eq_getElem_cons h, allL]

/-- The reference's Right. -/
noncomputable def rightT (t : Tr) : Bool := decide (t.count ≤ 300) && (decide (t.depth ≤ 16) && allB t)
end Go.Proofs.YtffaefdnlgfdbaaGreatDoor
/- tree: keys. -/
namespace Go.Proofs.YtffaefdnlgfdbaaGreatDoor
open Go.RowKit Go.Shelf

/-- Every second one. -/
def evens : List Tr → List Tr
  | [] => []
  | [k] => [k]
  | k :: _ :: r => k :: evens r
theorem evens_drop (l : List Tr) (k : Nat) (h : k < l.length) : evens (l.drop k) = l[k] :: evens (l.drop (k + 2)) := by
  rw [List.drop_eq_getElem_cons h]
  by_cases h1 : k + 1 < l.length
  · rw [List.drop_eq_getElem_cons h1]
    rfl
  · rw [List.drop_eq_nil_of_le (by omega), List.drop_eq_nil_of_le (by omega)]
    rfl
theorem evens_length : ∀ l : List Tr, (evens l).length = (l.length + 1) / 2
  | [] => by simp [evens]
  | [k] => by simp [evens]
  | k :: k' :: r => by
    show (evens r).length + 1 = _
    rw [evens_length r]
    simp only [List.length_cons]
    omega
theorem evens_get : ∀ (l : List Tr) (i : Nat) (h : i < (evens l).length), ∃ h' : 2 * i < l.length, (evens l)[i] = l[2 * i]
  | [], i, h => absurd h (by simp [evens])
  | [k], i, h => by
    have : i = 0 := by simp [evens] at h; exact h
    subst this
    exact ⟨by simp, rfl⟩
  | k :: k' :: r, 0, h => ⟨by simp, rfl⟩
  | k :: k' :: r, i + 1, h => by
    have h1 : i < (evens r).length := by
      have : i + 1 < (evens r).length + 1 := h
      omega
    obtain ⟨h2, e⟩ := evens_get r i h1
    have h3 : 2 * (i + 1) < (k :: k' :: r).length := by
      simp only [List.length_cons]
      omega
    refine ⟨h3, ?_⟩
    show (evens r)[i] = _
    rw [e]
    simp only [Nat.mul_add, Nat.mul_one, List.getElem_cons_succ]

set_option maxHeartbeats 8000000 in
set_option maxRecDepth 100000 in
theorem tree_keys (l : List Tr) (A : Option Addr) (n c : Nat) (w : World) (B d : Nat) (hl : ListAt w B d l (.slice A n c)) (hB : B ≤ w.heap.size) (hn : l.length = n) (hc : n ≤ 1000000000000) :
    Calls Tryz.prog 68 #[.slice A n c] w fun e w' => (∃ A' n' c', e = .returned (.slice A' n' c') ∧ (evens l).length = n' ∧ ListAt w' w'.heap.size (d + 1) (evens l) (.slice A' n' c')) ∧ Below w.heap.size w w' := by
  obtain ⟨i0, hi, hz0, hz1, hz2⟩ := info_parts infoNode
  have HI := Lib.hid hi
  have HZ0 := Lib.hid hz0
  have HZ1 := Lib.hid hz1
  have HZ2 := Lib.hid hz2
  clear hi hz0 hz1 hz2
  have HL := Lib.hid hl
  have HN := Lib.hid hn
  have H0 := Lib.hid (show evens l = [] ++ evens (l.drop (2 * 0)) by simp)
  have hcI : (n : Int) ≤ 1000000000000 := by omega
  have hlen := hl.slice.1
  rw [hn] at hlen
  clear hl hn hc
  go_enter Tryz.func68, Tryz.ntmps68
  go_wp2_with fail
  go_loopw [3, 4] (fun v i wr => ∃ (j : Nat) (acc : List Tr) (xs : List Value), 2 * j ≤ n + 1 ∧ acc.length = j ∧ i = .int .i64 ((2 * j : Nat) : Int) ∧ wr.ownsRow w.heap.size 27 9 v j xs ∧ RowT wr (fun q => q < B) d acc xs ∧ Below w.heap.size w wr ∧ Hid (evens l = acc ++ evens (l.drop (2 * j)))) (fun _ i _ => n + 2 - (intOf i).toNat)
  case atStart => exact ⟨0, [], [], by omega, rfl, rfl, World.ownsRow_nil _ _ _ _, rfl, Below.refl _ _, H0⟩
  case round =>
    obtain ⟨j, acc, xs, hj, hacc, rfl, hown, hrow, hbw, hev⟩ := hrel
    clear H0
    obtain ⟨A', c', rfl⟩ := own_sliceT hown
    have hzw := hbw.size
    obtain ⟨k, hk⟩ : ∃ k, 2 * j = k := ⟨_, rfl⟩
    rw [hk] at hev hj ⊢
    by_cases hlt : k < n
    · have hkl : k < l.length := by rw [HN.out]; exact hlt
      obtain ⟨d', ad, y, hdd, rfl, hab, hok, hna, hkk⟩ := (HL.out.below hbw hB).at_ hkl
      have hev2 : evens l = (acc ++ [l[k]]) ++ evens (l.drop (k + 2)) := by
        rw [hev.out, evens_drop l k hkl, List.append_assoc]
        rfl
      obtain ⟨_, A1, c1, rfl⟩ := hkk.slice
      obtain ⟨n1, hn1⟩ : ∃ n1, l[k].kids.length = n1 := ⟨_, rfl⟩
      rw [hn1] at hkk hna
      have hone : RowT wr (fun q => q < B) d [l[k]] (nodeCells l[k].own (.slice A1 n1 c1)) := RowT.one hok (hkk.deeper (by omega))
      have hrow2 := RowT.append hone hrow
      obtain ⟨o1, ho1⟩ : ∃ o, l[k].own = o := ⟨_, rfl⟩
      rw [ho1] at hna hrow2
      obtain ⟨kind3, b3, neg3, dg3, ex3, u3, wd3, s3⟩ := o1
      unfold nodeCells at hrow2
      obtain ⟨k0, k1, k2, k3, k4, k5, k6, k7, k8⟩ := hna
      simp only [] at k0 k1 k2 k3 k4 k5 k6 k7 k8 hrow2
      have HR2 := Lib.hid hrow2
      have HE2 := Lib.hid hev2
      have HOWN := Lib.hid hown
      have y1 : (k : Int) < n := by omega
      have y2 : (k : Int) + 2 ≤ 2000000000000 := by omega
      have hq : ∀ q, (Value.slice A' j c').ownBlock = some q → w.heap.size ≤ q ∧ q < wr.heap.size := fun q e => ⟨(hown.lt q e).1, (hown.lt q e).2⟩
      have HQ := Lib.hid hq
      have hown2 : (wr.alloc (.cells #[.int .i64 kind3, .bool b3, .bool neg3, .string dg3, .int .i64 ex3, .int .u64 u3, .int .i64 wd3, .string s3, .slice A1 n1 c1] 27)).ownsRow w.heap.size 27 9 (.slice A' j c') j xs := hown.alloc _
      have c3 : j + 1 ≤ maxLen := by unfold maxLen; omega
      clear hlen
      have yj : (j : Int) ≤ 1000000000000 := by omega
      have HK := Lib.hid hk
      have HACC := Lib.hid hacc
      clear hev hev2 hkk hok hdd ho1 hn1 hone hrow hrow2 hown hq hk hacc
      go_wp2_with (at_builtin; refine wpList_append_lies _ rfl _ _ 25 rfl w.heap.size 27 i0 (.agg #[.int .i64 0, .bool false, .bool false, .string ⟨#[]⟩, .int .i64 0, .int .u64 0, .int .i64 0, .string ⟨#[]⟩, .slice none 0 0]) 9 104 Tryz.underlying25 HI.out HZ0.out HZ1.out HZ2.out rfl (by decide) _ _ _ rfl hown2 ⟨wr.heap.size, 0, none⟩ 1 1 [.int .i64 kind3, .bool b3, .bool neg3, .string dg3, .int .i64 ex3, .int .u64 u3, .int .i64 wd3, .string s3, .slice A1 n1 c1] rfl rfl (cells_newT _ [.int .i64 kind3, .bool b3, .bool neg3, .string dg3, .int .i64 ex3, .int .u64 u3, .int .i64 wd3, .string s3, .slice A1 n1 c1] _) (by intro u hu; simp at hu; rcases hu with rfl | rfl | rfl | rfl | rfl | rfl | rfl | rfl | rfl <;> rfl) (by decide) (by omega) (by omega) (by simp; omega) (wr.heap.size + 1) (by simp) ?_; intro g cap w4 hown4 hgrow hat hg4)
      have hbw4 : Below w.heap.size w w4 := (hbw.alloc hbw.size _).grown hgrow (by simp; omega) (fun q e => (HQ.out q e).1)
      have hkp : ∀ q, q < w.heap.size → w4.heap[q]? = wr.heap[q]? := fun q hq => (hbw4.block q hq).trans (hbw.block q hq).symm
      have hrow4 := HR2.out.keep (W' := w4) (fun q hq => hkp q (by omega))
      have HR4 := Lib.hid hrow4
      have HO4 := Lib.hid hown4
      clear hgrow hat hg4 hkp hrow4 hown4 hown2 HR2 HOWN HQ hbw k0 k1 k2 k3 k4 k5 k6 k7 k8
      go_wp2_with fail
      go_roundw
      case rel => exact ⟨j + 1, _, _, by have := HK.out; omega, by rw [List.length_append, HACC.out]; rfl, by have := HK.out; rw [show 2 * (j + 1) = k + 2 by omega]; go_num, HO4.out, HR4.out, hbw4, by have := HK.out; rw [show 2 * (j + 1) = k + 2 by omega]; exact HE2⟩
      case measure => simp [intOf]; omega
    · have y1 : ¬ (k : Int) < n := by omega
      have hfin : evens l = acc := by
        rw [hev.out, List.drop_eq_nil_of_le (by rw [HN.out]; omega)]
        exact List.append_nil _
      have hres : ListAt wr wr.heap.size (d + 1) acc (.slice A' j c') := hrow.list hown hacc.symm (by omega) (fun q hq => by omega) (fun a e => by
        subst e
        exact (hown.lt a.block rfl).2)
      have HFIN := Lib.hid hfin
      have HRES := Lib.hid hres
      have HACC := Lib.hid hacc
      clear hlen
      clear hown hrow hev hfin hres hk hacc
      go_wp2_with fail
      go_ret
      exact ⟨⟨_, _, _, rfl, by rw [HFIN.out]; exact HACC.out, by rw [HFIN.out]; exact HRES.out⟩, hbw⟩
end Go.Proofs.YtffaefdnlgfdbaaGreatDoor
