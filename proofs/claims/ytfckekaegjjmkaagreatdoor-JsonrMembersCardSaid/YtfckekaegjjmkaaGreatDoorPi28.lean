/- The texts JrH, put together. -/
import Derived.Test.YtfckekaegjjmkaaGreatDoorPi26
import Derived.Outline
import Derived.Test.YtfckekaegjjmkaaGreatDoorPi21
import Derived.Test.YtfckekaegjjmkaaGreatDoorPi15
import Derived.Test.YtfckekaegjjmkaaGreatDoorPi27
namespace Go.Proofs.YtfckekaegjjmkaaGreatDoor
open Go.RowKit Go.Shelf
attribute [local go_sem] Oper.semAt_some wide_fn wide_depth

theorem jr_nodes (p : Nat) (en : ByteArray) (mem : Bool) (w : World) :
    Calls Tryz.prog 183 #[.pointer (some ⟨p, 0, none⟩), .string en, .bool mem] w fun e w' => e = .returned (.func (.func 213) #[] #[.pointer (some ⟨w.heap.size, 0, none⟩), .pointer (some ⟨w.heap.size + 1, 0, none⟩), .pointer (some ⟨w.heap.size + 2, 0, none⟩)]) ∧
      w' = (((w.alloc (.cells #[.pointer (some ⟨p, 0, none⟩)] 56)).alloc (.cells #[.string en] 9)).alloc (.cells #[.bool mem] 4)) := by
  go_enter Tryz.func183, Tryz.ntmps183
  go_wp2
  go_ret
  exact ⟨rfl, rfl⟩
set_option maxHeartbeats 2000000 in
set_option maxRecDepth 100000 in
theorem jr_takeE (p d : Nat) (s v : ByteArray) (w : World) (hR : RdJ w p s d) :
    Calls Tryz.prog 182 #[.pointer (some ⟨p, 0, none⟩), .string v] w fun e w' => e = .returned (.bool (takeJ v.data.toList s.data.toList).1) ∧ w' = w.setCell ⟨p, 0, none⟩ (.string (bsD (takeJ v.data.toList s.data.toList).2)) := by
  have HC := Lib.hid (fun w => Tryz.strings_CutPrefix s v w)
  obtain ⟨h1, h2⟩ := cut_take v.data.toList s.data.toList
  simp only [h1, h2] at HC
  obtain ⟨⟨b, r⟩, hx⟩ : ∃ x, takeJ v.data.toList s.data.toList = x := ⟨_, rfl⟩
  simp only [hx] at HC ⊢
  have HC : Hid (∀ w : World, Calls Tryz.prog 212 #[.string s, .string v] w fun e w' => e = .returned (.tuple #[.string (bsD r), .bool b]) ∧ w' = w) := HC
  obtain ⟨rb, hrb⟩ : ∃ x, bsD r = x := ⟨_, rfl⟩
  simp only [hrb] at HC ⊢
  have c0 := hR.cell 0
  have f0 := hR.frozen 0
  clear h1 h2 hx hrb
  go_enter Tryz.func182, Tryz.ntmps182
  go_wp2_with fail
  refine (HC.out _).mono ?_
  rintro e w2 ⟨rfl, rfl⟩
  go_wp2_with fail
  go_ret
  exact ⟨rfl, rfl⟩
theorem bindJ_pure {α β : Type} (p : Psr α) (f : α → β) (l : List UInt8) : bindP p (fun a => pureP (f a)) l = match p l with
    | .good a r => .good (f a) r
    | .bad e => .bad e := by
  unfold bindP pureP
  cases p l <;> rfl
theorem row_same {W W' : World} {base size n : Nat} {e : TypeId} {v : Value} {xs : List Value} (h : W.ownsRow base e size v n xs) (hk : ∀ g, v.ownBlock = some g → W'.heap[g]? = W.heap[g]?) : W'.ownsRow base e size v n xs := by
  obtain ⟨h1, h2⟩ := h
  rcases h2 with h2 | ⟨g, cap, cur, rfl, hb, hh, h3⟩
  · exact ⟨h1, .inl h2⟩
  · exact ⟨h1, .inr ⟨g, cap, cur, rfl, hb, (hk g rfl).trans hh, h3⟩⟩
theorem wrap_inc (q : Nat) (h : q ≤ 100) : wrap64 ((q : Int) + 1) = ((q + 1 : Nat) : Int) := by
  unfold wrap64
  omega
theorem wrap_dec (q : Nat) (h : q ≤ 100) : wrap64 (((q + 1 : Nat) : Int) - 1) = (q : Int) := by
  unfold wrap64
  omega
/-- Between two steps of the append. -/
def MdJ (n s0 : Nat) (v : Value) (A B : World) : Prop := Below n A B ∧ (∀ q, q < s0 → q ≠ n + 2 → v.ownBlock ≠ some q → B.heap[q]? = A.heap[q]?) ∧ KeepsFrom (n + 6) A B
theorem MdJ.refl (n s0 : Nat) (v : Value) (A : World) : MdJ n s0 v A A := ⟨Below.refl _ _, fun _ _ _ _ => rfl, KeepsFrom.refl _ _⟩
theorem MdJ.trans {n s0 : Nat} {v : Value} {A B C : World} (h : MdJ n s0 v A B) (k : MdJ n s0 v B C) : MdJ n s0 v A C :=
  ⟨h.1.trans k.1, fun q h1 h2 h3 => (k.2.1 q h1 h2 h3).trans (h.2.1 q h1 h2 h3), h.2.2.trans k.2.2⟩
theorem MdJ.of {n s0 : Nat} {v : Value} {A B : World} {r : Option Nat} (hg : A.grownBy B r) (hs : s0 ≤ A.heap.size) (hn : n ≤ A.heap.size) (hr : ∀ g, r = some g → n ≤ g ∧ (g = n + 2 ∨ v.ownBlock = some g ∨ s0 ≤ g) ∧ (g < n + 6 ∨ ∀ o, A.heap[g]? = some o → o.isCells = true)) : MdJ n s0 v A B := by
  refine ⟨(Below.refl _ A).grown hg hn (fun g e => (hr g e).1), fun q h1 h2 h3 => hg.block q (by omega) (fun e => ?_), ⟨hg.size, fun k o hk ho hc => ?_⟩⟩
  · rcases (hr q e.symm).2.1 with h | h | h
    · exact h2 h
    · exact h3 h
    · omega
  · refine (hg.block k (Array.getElem?_eq_some_iff.1 ho).1 (fun e => ?_)).trans ho
    rcases (hr k e.symm).2.2 with h | h
    · omega
    · rw [h o ho] at hc
      cases hc
/-- The joint fact. -/
def ChiJ (n s0 gn : Nat) (v : Value) (O : Value → Array Value) (xs nx zl : List Value) (sel : Nat → Bool) (env : Nat → Value) (A : World) : Prop :=
  ((sel 9 = true → sel 1 = true) ∧ (sel 9 = true → sel 5 = true) ∧ (sel 7 = true → sel 5 = true)) ∧
  Blk A (n + 2) (O (if sel 9 = true then env 5 else v)) 27 ∧
  (sel 5 = false → A.ownsRow (n + 9) 27 9 v gn xs) ∧
  (sel 5 = true → A.ownsRow (n + 9) 27 9 (env 5) (gn + 1) (xs ++ (if sel 7 = true then nx else zl))) ∧
  (sel 4 = true → sel 5 = false → ∃ zb, env 4 = .slice (some ⟨zb, 0, none⟩) 1 1 ∧ s0 ≤ zb ∧ Blk A zb zl.toArray 27)
theorem chiJ_pure {n s0 gn : Nat} {v : Value} {O : Value → Array Value} {xs nx zl : List Value} {sel : Nat → Bool} {env : Nat → Value} {A : World} (h : ChiJ n s0 gn v O xs nx zl sel env A) (i : Nat) (u : Value) (h4 : i ≠ 4) (h5 : i ≠ 5) (h7 : i ≠ 7) (h9 : i ≠ 9) : ChiJ n s0 gn v O xs nx zl (updB sel i) (updV env i u) A := by
  obtain ⟨⟨a1, a2, a3⟩, b, c, e, f⟩ := h
  unfold ChiJ
  rw [updB_ne sel (Ne.symm h9), updB_ne sel (Ne.symm h5), updB_ne sel (Ne.symm h7), updB_ne sel (Ne.symm h4), updV_ne env u (Ne.symm h5), updV_ne env u (Ne.symm h4)]
  refine ⟨⟨fun q => ?_, a2, a3⟩, b, c, e, f⟩
  unfold updB
  rw [a1 q, Bool.or_true]
/-- What holds ahead of a round. -/
def ListJI (n : Nat) (kd : Int) (d p sz : Nat) (w : World) (pre : List EvJ) (W : World) : Prop :=
  (((∀ x ∈ pre, x.isOk) ∧ pre.length ≤ sz) ∧ n + 6 ≤ W.heap.size) ∧ w.grownBy W (some p) ∧ Blk W n zeroC 27 ∧ Blk W (n + 1) #[.nilIface] 62 ∧ ∃ v xs, Blk W (n + 2) #[.int .i64 kd, .bool false, .bool false, .string ⟨#[]⟩, .int .i64 0, .int .u64 0, .int .i64 0, .string ⟨#[]⟩, v] 27 ∧ W.ownsRow (n + 9) 27 9 v pre.length xs ∧ RowT W (fun q => n + 9 ≤ q ∧ q < W.heap.size ∧ v.ownBlock ≠ some q) d (treesJ pre) xs
/-- What holds where the range is left. -/
def ListJX (n : Nat) (p sz : Nat) (w : World) (c : Code) (pre : List EvJ) (W : World) : Prop :=
  c = .ret ∧ w.grownBy W (some p) ∧ Blk W n zeroC 27 ∧ (∃ xs e, pre = xs ++ [.no e] ∧ (e = 60 ∨ e = 80) ∧ Blk W (n + 1) #[errJ e] 62) ∧ RdXJ p sz W
/-- What the assignment tells the body. -/
def ListJA (n : Nat) (kd : Int) (d p sz : Nat) (T : Array Value) (pre : List EvJ) (x : EvJ) (a' : Act) (W : World) : Prop :=
  ∃ k, n + 9 ≤ k ∧ k ≤ W.heap.size ∧ (∀ v, Blk W (n + 2) #[.int .i64 kd, .bool false, .bool false, .string ⟨#[]⟩, .int .i64 0, .int .u64 0, .int .i64 0, .string ⟨#[]⟩, v] 27 → ∀ q, v.ownBlock = some q → q < k) ∧ NodesT p k d sz (pre ++ [x]) W ∧ ∃ b, (k ≤ b ∧ b < W.heap.size) ∧ match x with
    | .ok t v => Blk W b (cellsV t.own v) 27 ∧ a' = { tmps := (((T.setIfInBounds 42 (nodeV t.own v)).setIfInBounds 43 .nilIface).setIfInBounds 13 (.pointer (some ⟨b, 0, none⟩))).setIfInBounds 14 .nilIface, defers := [] }
    | .no e => Blk W b zeroC 27 ∧ a' = { tmps := (((T.setIfInBounds 42 zeroJ).setIfInBounds 43 (errJ e)).setIfInBounds 13 (.pointer (some ⟨b, 0, none⟩))).setIfInBounds 14 (errJ e), defers := [] }
theorem listJI_own (n : Nat) (kd : Int) (d p sz : Nat) (w : World) {B : Nat} (hB : n + 6 ≤ B) (hw : w.heap.size = n) : OwnFrom B (ListJI n kd d p sz w) := by
  rintro s X Y row ⟨h1, h2, h3, h4, v, xs, h5, h6, h7⟩ hg hr
  have hr2 := fun r e => (hr r e).2
  refine ⟨⟨h1.1, Nat.le_trans h1.2 hg.size⟩, grown_C h2 hg (n := n) (by omega) (fun r e => by have := (hr r e).1; omega), blkC h3 hg hr2, blkC h4 hg hr2, v, xs, blkC h5 hg hr2, row_keptC h6 hg hr2, ?_⟩
  exact (h7.keptC hg hr2).mono (fun q hq => ⟨hq.1, Nat.lt_of_lt_of_le hq.2.1 hg.size, hq.2.2⟩)
theorem rdXJ_own {p sz : Nat} {X Y : World} {row : Option Nat} (h : RdXJ p sz X) (hg : X.grownBy Y row) (hr2 : ∀ r, row = some r → ∃ o : Obj, X.heap[r]? = some o ∧ o.isCells = false) : RdXJ p sz Y := by
  obtain ⟨s', d', h1, h2⟩ := h
  exact ⟨s', d', blkC h1 hg hr2, h2⟩
theorem listJX_own (n : Nat) (p sz : Nat) (w : World) {B : Nat} (hB : n + 6 ≤ B) (hw : w.heap.size = n) (c : Code) : OwnFrom B (ListJX n p sz w c) := by
  rintro s X Y row ⟨h1, h2, h3, ⟨xs, e, h4, h5, h6⟩, h8⟩ hg hr
  have hr2 := fun r e => (hr r e).2
  exact ⟨h1, grown_C h2 hg (n := n) (by omega) (fun r e => by have := (hr r e).1; omega), blkC h3 hg hr2, ⟨xs, e, h4, h5, blkC h6 hg hr2⟩, rdXJ_own h8 hg hr2⟩
theorem nodesT_own (p n d sz : Nat) (pre : List EvJ) {X Y : World} {row : Option Nat} (h : NodesT p n d sz pre X) (hg : X.grownBy Y row) (hr2 : ∀ r, row = some r → ∃ o : Obj, X.heap[r]? = some o ∧ o.isCells = false) : NodesT p n d sz pre Y := by
  refine ⟨h.1, fun xs x hx => ?_⟩
  have := h.2 xs x hx
  cases x with
  | ok t v => exact ⟨this.1, (this.2.1.keptC hg hr2).mono (fun q hq => ⟨hq.1, Nat.lt_of_lt_of_le hq.2 hg.size⟩), this.2.2⟩
  | no e => exact ⟨this.1, rdXJ_own this.2 hg hr2⟩

set_option maxHeartbeats 8000000 in
set_option maxRecDepth 100000 in
theorem jr_list {w0 : World} {uT uQ : Addr} (hU : UW w0 uT uQ) (F d p : Nat) (kd : Int) (hkd : 0 ≤ kd ∧ kd ≤ 100) (c0 en : UInt8) (hen : en ≠ 44) (mem : Bool) (hd15 : d ≤ 15) (hV : ValC w0 F d) (s : ByteArray) (r0 : List UInt8) (hsr : s.data.toList = c0 :: r0) (w : World) (hb0 : Below w0.heap.size w0 w) (hp0 : w0.heap.size ≤ p) (hr : RdJ w p s (16 - (d + 1))) (hs : s.size ≤ 100000000) (hF : s.size < F) :
    Calls Tryz.prog 149 #[.pointer (some ⟨p, 0, none⟩), .int .i64 kd, .string ⟨#[c0]⟩, .string ⟨#[en]⟩, .bool mem] w (ReadJ p (16 - (d + 1)) (d + 1) w s (bindP (listJ uqJ (valueJ uqJ F d) mem en F) (fun L => pureP (listT kd L)) r0)) := by
  have hplt := hr.lt
  have hsl : s.data.toList.length = s.size := by simp
  rw [hsr, List.length_cons] at hsl
  obtain ⟨n, hn⟩ : ∃ n, w.heap.size = n := ⟨_, rfl⟩
  have hseq : ∃ st : PR (List Tr), listJ uqJ (valueJ uqJ F d) mem en F r0 = st ∧ SeqA Tryz.prog 213 #[.pointer (some ⟨n + 3, 0, none⟩), .pointer (some ⟨n + 4, 0, none⟩), .pointer (some ⟨n + 5, 0, none⟩)] EvJ.enc (MvJ p (n + 8) (bsD r0).size) (NodesKp n (n + 3) (n + 4) (n + 5) (n + 8)) EvJ.isOk (fun pre A W => NodesT p A.heap.size d (bsD r0).size pre W ∧ n + 8 < A.heap.size)
      (NodesS p (16 - d) (bsD r0).size st) (NodesSp st) (fun W => NodesA w0 p (16 - d) (n + 3) (n + 4) (n + 5) (n + 8) en mem (bsD r0) W ∧ 0 ≤ W.heap.size) := by
    refine ⟨_, rfl, ?_⟩
    cases mem with
    | false => exact nodes_seq_false hU F d p 0 n (n + 3) (n + 4) (n + 5) (n + 8) en hen (bsD r0) hV hp0 (by omega) (by omega) (by omega) (by omega) (by omega) (by omega) (by omega) (by omega) (by have := hb0.size; omega) (by rw [bsD_size]; omega) (by rw [bsD_size]; omega)
    | true => exact nodes_seq_true hU F d p 0 n (n + 3) (n + 4) (n + 5) (n + 8) en hen (bsD r0) hV hp0 (by omega) (by omega) (by omega) (by omega) (by omega) (by omega) (by omega) (by omega) (by have := hb0.size; omega) (by rw [bsD_size]; omega) (by rw [bsD_size]; omega)
  obtain ⟨st, hst, hseq⟩ := hseq
  have hbp := bindJ_pure (listJ uqJ (valueJ uqJ F d) mem en F) (listT kd) r0
  rw [hst] at hbp
  rw [hbp]
  clear hst hbp hV hU
  have htk : takeJ [c0] (c0 :: r0) = (true, r0) := by unfold takeJ; simp
  have HT := Lib.hid (fun W (h : RdJ W p s (16 - (d + 1))) => jr_takeE p (16 - (d + 1)) s ⟨#[c0]⟩ W h)
  have HT : Hid (∀ W, RdJ W p s (16 - (d + 1)) → Calls Tryz.prog 182 #[.pointer (some ⟨p, 0, none⟩), .string ⟨#[c0]⟩] W fun e w' => e = .returned (.bool true) ∧ w' = W.setCell ⟨p, 0, none⟩ (.string (bsD r0))) := Lib.hid (fun W h => by
    have := HT.out W h
    rw [hsr, show (⟨#[c0]⟩ : ByteArray).data.toList = [c0] from rfl, htk] at this
    exact this)
  obtain ⟨dp, hdp⟩ : ∃ dp, 16 - d = dp := ⟨_, rfl⟩
  obtain ⟨dq, hdq⟩ : ∃ dq, 16 - (d + 1) = dq := ⟨_, rfl⟩
  rw [hdp] at hseq
  rw [hdq] at hr HT ⊢
  have hdd : dp = dq + 1 := by omega
  have hd16 : dp ≤ 16 := by omega
  subst hdd
  have y2 : ¬ (16 : Int) < ((dq + 1 : Nat) : Int) := by omega
  have HY1 := Lib.hid (wrap_inc dq (by omega))
  have HY3 := Lib.hid (wrap_dec dq (by omega))
  have hb2 : Below n w ((w.alloc (.cells zeroC 27)).alloc (.cells #[.nilIface] 62)) := ((Below.refl _ w).alloc (by omega) _).alloc (by simp; omega) _
  have hr2 := (hr.alloc (.cells zeroC 27)).alloc (.cells #[.nilIface] 62)
  have hk0 : Blk ((w.alloc (.cells zeroC 27)).alloc (.cells #[.nilIface] 62)) n zeroC 27 := by rw [← hn]; exact (Blk.new w _ _).alloc _
  have hk1 : Blk ((w.alloc (.cells zeroC 27)).alloc (.cells #[.nilIface] 62)) (n + 1) #[.nilIface] 62 := by
    have := Blk.new (w.alloc (.cells zeroC 27)) #[.nilIface] 62
    rw [World.size_alloc, hn] at this
    exact this
  have hz2 : ((w.alloc (.cells zeroC 27)).alloc (.cells #[.nilIface] 62)).heap.size = n + 2 := by simp [hn]
  have hkl := hsr
  clear hdp hdq htk hr hsr
  refine calls_of_marks Tryz.func149 rfl ?_
  simp only [Tryz.ntmps149, List.size_toArray, List.length_cons, List.length_nil, Nat.reduceAdd, Nat.reduceSub, Array.replicate_succ, Array.replicate_zero, List.push_toArray, List.append_toArray, List.nil_append, List.cons_append]
  clear hkl
  go_wp2_with fail
  refine (HT.out _ hr2).mono ?_
  rintro e w3 ⟨rfl, hw3⟩
  have hg3 : ((w.alloc (.cells zeroC 27)).alloc (.cells #[.nilIface] 62)).grownBy w3 (some p) := by rw [hw3]; exact grown_set _ p 0 _
  have hr3 : RdJ w3 p (bsD r0) dq := by rw [hw3]; exact hr2.set 0 _
  have hz3 : w3.heap.size = n + 2 := by rw [hw3]; simp [World.setCell, hn]
  clear hw3
  have hk03 := blk_gb hk0 hg3 (by omega)
  have hk13 := blk_gb hk1 hg3 (by omega)
  have hg3w : w.grownBy w3 (some p) := grown_trans (below_grown (by rw [hn]; exact hb2) _) hg3
  have hr4 : RdJ (w3.setCell ⟨p, 1, none⟩ (.int .i64 ((dq + 1 : Nat) : Int))) p (bsD r0) (dq + 1) := hr3.set 1 _
  have hk04 := hk03.other (b' := p) (by omega) 1 (.int .i64 ((dq + 1 : Nat) : Int))
  have hk14 := hk13.other (b' := p) (by omega) 1 (.int .i64 ((dq + 1 : Nat) : Int))
  have hg4 := grown_trans hg3w (grown_set w3 p 1 (.int .i64 ((dq + 1 : Nat) : Int)))
  have hz4 : (w3.setCell ⟨p, 1, none⟩ (.int .i64 ((dq + 1 : Nat) : Int))).heap.size = w3.heap.size := by simp [World.setCell]
  have q1 : w3.cell? ⟨p, 1, none⟩ = some (.int .i64 (dq : Int)) := hr3.cell 1
  have f1 := hr3.frozen 1
  have q2 : (w3.setCell ⟨p, 1, none⟩ (.int .i64 ((dq + 1 : Nat) : Int))).cell? ⟨p, 1, none⟩ = some (.int .i64 ((dq + 1 : Nat) : Int)) := hr4.cell 1
  have yb : ¬ (16 : Int) < ((dq + 1 : Nat) : Int) := by omega
  have y1 := HY1.out
  obtain ⟨ib, hib⟩ : ∃ x : Int, ((dq + 1 : Nat) : Int) = x := ⟨_, rfl⟩
  obtain ⟨ia, hia⟩ : ∃ x : Int, (dq : Int) = x := ⟨_, rfl⟩
  rw [hib] at y1 yb q2 hr4 hk04 hk14 hg4 hz4
  rw [hia] at y1 q1
  have HIA := Lib.hid hia
  have HIB := Lib.hid hib
  clear hr2 hk0 hk1 hb2 hg3 hia hib y2 hr3
  go_wp2_with fail
  refine (jr_nodes p ⟨#[en]⟩ mem _).mono ?_
  rintro e w5 ⟨rfl, hw5⟩
  simp only [World.size_alloc]
  obtain ⟨w4, hw4⟩ : ∃ x, w3.setCell ⟨p, 1, none⟩ (.int .i64 ib) = x := ⟨_, rfl⟩
  rw [hw4] at hr4 hk04 hk14 hg4 hz4 hw5 ⊢
  have hz4 : w4.heap.size = n + 2 := hz4.trans hz3
  rw [hz4]
  clear y1 q1 q2 f1 hw4 hz2 hk03 hk13 hg3w HT
  have hz5 : w5.heap.size = n + 6 := by rw [hw5]; simp [hz4]
  have hB5 : Below w4.heap.size w4 w5 := by
    rw [hw5]
    exact ((((Below.refl _ w4).alloc (Nat.le_refl _) _).alloc (by simp) _).alloc (by simp; omega) _).alloc (by simp; omega) _
  have hR5 : RdJ w5 p (bsD r0) (dq + 1) := hr4.below hB5 hr4.lt
  have hK0 : Blk w5 n zeroC 27 := hk04.below hB5 hk04.lt
  have hK1 : Blk w5 (n + 1) #[.nilIface] 62 := hk14.below hB5 hk14.lt
  have hK2 : Blk w5 (n + 2) #[.int .i64 kd, .bool false, .bool false, .string ⟨#[]⟩, .int .i64 0, .int .u64 0, .int .i64 0, .string ⟨#[]⟩, .slice none 0 0] 27 := by
    rw [hw5]
    exact (((blk_at hz4 _ _).alloc _).alloc _).alloc _
  have hK3 : Blk w5 (n + 3) #[.pointer (some ⟨p, 0, none⟩)] 56 := by
    rw [hw5]
    exact ((blk_at (by simp [hz4]) _ _).alloc _).alloc _
  have hK4 : Blk w5 (n + 4) #[.string ⟨#[en]⟩] 9 := by
    rw [hw5]
    exact (blk_at (by simp [hz4]) _ _).alloc _
  have hK5 : Blk w5 (n + 5) #[.bool mem] 4 := by
    rw [hw5]
    exact blk_at (by simp [hz4]) _ _
  have hg5 : w.grownBy w5 (some p) := grown_of hg4 hB5
  have hb5 : Below w0.heap.size w0 w5 := below_of_grown hb0 hp0 hplt hg5
  clear hw5 hB5 hr4 hk04 hk14 hg4 hz4 hz3
  go_wp2_with fail
  refine wp_rangeFuncA (gf := 213) (lb := #[.pointer (some ⟨n + 3, 0, none⟩), .pointer (some ⟨n + 4, 0, none⟩), .pointer (some ⟨n + 5, 0, none⟩)]) rfl (enters_of Tryz.func213 (by kernel_rfl) rfl)
    hseq ?hMv ?hA0 ?hKt ?hKb ?hps (ListJI n kd d p (bsD r0).size w) (ListJX n p (bsD r0).size w) ?hI ?hIx ?hIM ?hIxM ?h0 ?hCt
    (ListJA n kd d p (bsD r0).size) ?hAx ?assign ?body ?hS ?hSp ?done ?stop
  case hMv => exact fun A B k o hM hk ho hc => hM.kept k o ho (by omega) (fun _ => hc)
  case hA0 =>
    intro o o'
    exact ⟨⟨(hb5.alloc hb5.size o).alloc (by have := hb5.size; simp; omega) o', (hR5.alloc o).alloc o', (hK3.alloc o).alloc o', (hK4.alloc o).alloc o', (hK5.alloc o).alloc o', by simp; omega⟩, by simp⟩
  case hKt =>
    intro A B C h1 h2
    have hz := h1.1.size
    exact ⟨h1.1.trans h2.1, fun hp => (h2.2.1 (by omega)).trans (h1.2.1 hp), fun hp => (h2.2.2.1 (by omega)).trans (h1.2.2.1 hp), fun hp => (h2.2.2.2.1 (by omega)).trans (h1.2.2.2.1 hp), fun o ho hc => h2.2.2.2.2 o (h1.2.2.2.2 o ho hc) hc⟩
  case hKb =>
    intro W l o o' hl ho hc
    have hlt := (Array.getElem?_eq_some_iff.1 ho).1
    refine ⟨(Below.refl _ W).grown (grownBy_putObj' W l o') (by omega) (fun k e => by cases e; omega), fun _ => World.putObj_heap_other (by omega), fun _ => World.putObj_heap_other (by omega), fun _ => World.putObj_heap_other (by omega), fun o2 ho2 hc2 => (World.putObj_heap_other (fun e => ?_)).trans ho2⟩
    subst e
    rw [ho] at ho2
    cases ho2
    rw [hc] at hc2
    cases hc2
  case hps =>
    intro x
    cases x <;> rfl
  case hI => exact listJI_own _ _ _ _ _ _ (by omega) hn
  case hIx => exact fun c => listJX_own _ _ _ _ (by omega) hn c
  case hIM =>
    rintro s' X Y ⟨h1, h2, h3, h4, v, xs, h5, h6, h7⟩ hm
    refine ⟨⟨h1.1, Nat.le_trans h1.2 hm.size⟩, hm.grown h2 (by omega), hm.blk h3 (by omega) (by omega), hm.blk h4 (by omega) (by omega), v, xs, hm.blk h5 (by omega) (by omega), row_same h6 (fun g e => hm.same (h6.lt g e).2 (by have := (h6.lt g e).1; omega) (by have := (h6.lt g e).1; omega)), ?_⟩
    exact (h7.keep (fun q hq => hm.same hq.2.1 (by omega) (by omega))).mono (fun q hq => ⟨hq.1, Nat.lt_of_lt_of_le hq.2.1 hm.size, hq.2.2⟩)
  case hIxM =>
    rintro c s' X Y ⟨h1, h2, h3, ⟨xs, e, h4, h5, h6⟩, h8⟩ hm
    exact ⟨h1, hm.grown h2 (by omega), hm.blk h3 (by omega) (by omega), ⟨xs, e, h4, h5, hm.blk h6 (by omega) (by omega)⟩, hm.rd h8⟩
  case h0 => exact ⟨⟨⟨by simp, by simp⟩, by omega⟩, hg5, hK0, hK1, .slice none 0 0, [], hK2, World.ownsRow_nil _ _ _ _, rfl⟩
  case hCt =>
    rintro pre x W ⟨h1, _⟩
    exact h1.1.1 x (List.mem_append_right _ (List.mem_singleton.2 rfl))
  case hAx =>
    rintro pre x a' u X Y row ⟨k, hk1, hk2, hk3, h1, b, h2, h3⟩ hg hr
    have hr2 := fun r e => (hr r e).2
    refine ⟨k, hk1, Nat.le_trans hk2 hg.size, fun v hv => hk3 v ?_, nodesT_own _ _ _ _ _ h1 hg hr2, b, ⟨h2.1, Nat.lt_of_lt_of_le h2.2 hg.size⟩, ?_⟩
    · exact (hg.block (n + 2) (by omega) (fun e => by have := (hr (n + 2) e.symm).1; omega)).symm.trans hv
    cases x with
    | ok t v => exact ⟨blkC h3.1 hg hr2, h3.2⟩
    | no e => exact ⟨blkC h3.1 hg hr2, h3.2⟩
  case hS =>
    rintro s' X Y row ⟨h1, r, h2, h3, h4⟩ hg hr
    exact ⟨h1, r, h2, blkC h3 hg (fun r e => (hr r e).2), h4⟩
  case hSp =>
    intro s' X Y row hs _ _
    exact hs
  case assign =>
    rintro l pre x A0 W K hIA hmv hI hT hK
    obtain ⟨hT, hzo⟩ : NodesT p A0.heap.size d (bsD r0).size (pre ++ [x]) W ∧ n + 8 < A0.heap.size := hT
    have hz := hI.2.1.size
    have hkz := hmv.size
    have hnb1 : ∀ (o : Obj) (v : Value), Blk (W.alloc o) (n + 2) #[.int .i64 kd, .bool false, .bool false, .string ⟨#[]⟩, .int .i64 0, .int .u64 0, .int .i64 0, .string ⟨#[]⟩, v] 27 → ∀ q, v.ownBlock = some q → q < A0.heap.size := fun o v hv q e => by
      obtain ⟨⟨_, hA7⟩, _, _, _, v0, xs0, hb20, hown0, _⟩ := hIA
      have h1 : Blk (W.alloc o) (n + 2) _ _ := (hmv.blk hb20 (by omega) (by omega)).alloc o
      have h2 : (some (Obj.cells _ _ _) : Option Obj) = some (Obj.cells _ _ _) := h1.symm.trans hv
      injection h2 with h2
      injection h2 with h2 _ _
      have h3 : v0 = v := by
        have := congrArg (fun a : Array Value => a[8]?) h2
        simpa using this
      exact (hown0.lt q (by rw [h3]; exact e)).2
    clear hIA hmv
    cases x with
    | ok t v =>
      obtain ⟨⟨A, m, c, rfl⟩, hly, hot, hxl⟩ := hT.2 pre _ rfl
      have hI2 := (listJI_own n kd d p (bsD r0).size w (B := n + 6) (Nat.le_refl _) hn) pre W (W.alloc (.cells (cellsV t.own (.slice A m c)) 27)) none hI (World.grownBy_alloc _ _ _) (fun r e => by cases e)
      have hT2 := nodesT_own p A0.heap.size d (bsD r0).size (pre ++ [.ok t (.slice A m c)]) hT (World.grownBy_alloc W (.cells (cellsV t.own (.slice A m c)) 27) none) (fun r e => by cases e)
      have hBl := Blk.new W (cellsV t.own (.slice A m c)) 27
      have hnb := hnb1 (.cells (cellsV t.own (.slice A m c)) 27)
      have HNB := Lib.hid hnb
      have HI2 := Lib.hid hI2
      have HT2 := Lib.hid hT2
      have HB := Lib.hid hBl
      have HK := Lib.hid hK
      clear hK hI hT hly hot hI2 hT2 hBl hnb hnb1
      unfold cellsV at HI2 HB HT2 HNB
      simp only [EvJ.enc]
      unfold nodeV
      gi_wp2
      exact HK.out _ _ (keeps_below ((Below.refl _ _).alloc (Nat.le_refl _) _)) ⟨(Below.refl _ _).alloc (by omega) _, fun h => Below.heap_alloc _ _ _ h, fun h => Below.heap_alloc _ _ _ h, fun h => Below.heap_alloc _ _ _ h, fun o ho _ => (Below.heap_alloc _ _ _ (Array.getElem?_eq_some_iff.1 ho).1).trans ho⟩ HI2.out ⟨A0.heap.size, by omega, by simp; omega, HNB.out, HT2.out, _, ⟨hkz, by simp⟩, HB.out, rfl⟩
    | no e =>
      have hI2 := (listJI_own n kd d p (bsD r0).size w (B := n + 6) (Nat.le_refl _) hn) pre W (W.alloc (.cells zeroC 27)) none hI (World.grownBy_alloc _ _ _) (fun r e => by cases e)
      have hT2 := nodesT_own p A0.heap.size d (bsD r0).size (pre ++ [.no e]) hT (World.grownBy_alloc W (.cells zeroC 27) none) (fun r e => by cases e)
      have hBl := Blk.new W zeroC 27
      have hnb := hnb1 (.cells zeroC 27)
      have HNB := Lib.hid hnb
      have HI2 := Lib.hid hI2
      have HT2 := Lib.hid hT2
      have HB := Lib.hid hBl
      have HK := Lib.hid hK
      obtain ⟨ev, hev⟩ : ∃ ev, errJ e = ev := ⟨_, rfl⟩
      have HEV := Lib.hid hev
      clear hK hI hT hI2 hT2 hBl hnb hnb1
      simp only [EvJ.enc]
      rw [hev, show zeroJ = Value.agg #[.int .i64 0, .bool false, .bool false, .string ⟨#[]⟩, .int .i64 0, .int .u64 0, .int .i64 0, .string ⟨#[]⟩, .slice none 0 0] from rfl]
      clear hev
      gi_wp2
      exact HK.out _ _ (keeps_below ((Below.refl _ _).alloc (Nat.le_refl _) _)) ⟨(Below.refl _ _).alloc (by omega) _, fun h => Below.heap_alloc _ _ _ h, fun h => Below.heap_alloc _ _ _ h, fun h => Below.heap_alloc _ _ _ h, fun o ho _ => (Below.heap_alloc _ _ _ (Array.getElem?_eq_some_iff.1 ho).1).trans ho⟩ HI2.out ⟨A0.heap.size, by omega, by simp; omega, HNB.out, HT2.out, _, ⟨hkz, by simp⟩, HB.out, by rw [HEV.out] <;> rfl⟩
  case body =>
    rintro l pre x a' W hl _ ⟨⟨h1, hz⟩, hg, hb0', hb1, v, xs, hb2, hown, hrow⟩ ⟨k, hk7, hkz, hnb, hT, b, ⟨hb, hblt⟩, ha⟩
    have c1 := hb1.cell 0
    have f1 := hb1.frozen 0
    cases x with
    | no e =>
      obtain ⟨he, hrx⟩ := hT.2 pre _ rfl
      obtain ⟨hbx, rfl⟩ := ha
      simp only [List.setIfInBounds_toArray, List.set_cons_zero, List.set_cons_succ]
      have hsA := blk_row_other hb1 (by omega : n + 1 ≠ n) zeroC
      have fA := hsA.frozen 0
      have cA := hsA.cell 0
      have hsB := hsA.set 0 (errJ e)
      have h0B := (blk_row hb0' zeroC).other (b' := n + 1) (by omega) 0 (errJ e)
      have hgA := grown_at (grown_at hg (grown_row W n zeroC) (by omega)) (grown_set (W.setRow n zeroC) (n + 1) 0 (errJ e)) (by omega)
      have hrx2 : RdXJ p (bsD r0).size ((W.setRow n zeroC).setCell ⟨n + 1, 0, none⟩ (errJ e)) := by
        obtain ⟨s', d', hr', hs'⟩ := hrx
        exact ⟨s', d', (blk_row_other hr' (by omega) _).other (by omega) 0 _, hs'⟩
      have hkf : KeepsFrom w5.heap.size W ((W.setRow n zeroC).setCell ⟨n + 1, 0, none⟩ (errJ e)) := (KeepsFrom.of_grownBy (grown_row W n zeroC) (fun j q => by cases q; omega)).trans ((KeepsOthers.setCell (W.setRow n zeroC) _ _).from _)
      clear hT hrx hown hrow hnb
      obtain ⟨tv, hy⟩ : ∃ y, errJ e = .iface 91 y := ⟨_, rfl⟩
      rw [hy] at hsB h0B hgA hrx2 hkf ⊢
      have HY := Lib.hid hy
      clear hy
      gi_wp2_with ((refine wpListIn_store_row rfl 27 (.tmp 10) (.tmp 46) rfl (n) zeroC rfl rfl 27 _ hb0' (by kernel_rfl) rfl (by simp [Value.oneCell']) ?_))
      exact ⟨hkf, rfl, hgA, h0B, ⟨pre, e, rfl, he, by rw [HY.out]; exact hsB⟩, hrx2⟩
    | ok t v' =>
      obtain ⟨⟨A, m, c, rfl⟩, hly, hot, hxl⟩ := hT.2 pre _ rfl
      obtain ⟨hbx, rfl⟩ := ha
      simp only [List.setIfInBounds_toArray, List.set_cons_zero, List.set_cons_succ]
      clear hT c1 f1
      obtain ⟨A2, c2, rfl⟩ := own_sliceT hown
      have hnb0 := hnb _ hb2
      have hzl := treesJ_len h1.1
      obtain ⟨gn, hgn⟩ : ∃ gn, pre.length = gn := ⟨_, rfl⟩
      rw [hgn] at hown hb2 hrow hnb0 hxl hzl
      have hxs : xs.length = gn * 9 := by rw [hrow.len, hzl]
      obtain ⟨⟨kind3, b3, neg3, dg3, ex3, u3, wd3, s3⟩, ho3⟩ : ∃ o, t.own = o := ⟨_, rfl⟩
      rw [ho3] at hbx hot
      obtain ⟨i0, hi, hz0, hz1, hz2⟩ := info_parts infoNode
      have HI := Lib.hid hi
      have HZ0 := Lib.hid hz0
      have HZ1 := Lib.hid hz1
      have HZ2 := Lib.hid hz2
      have hbs : b < W.heap.size := hblt
      have hbx0 : Blk W b #[.int .i64 kind3, .bool b3, .bool neg3, .string dg3, .int .i64 ex3, .int .u64 u3, .int .i64 wd3, .string s3, .slice A m c] 27 := hbx
      have hgz : gn ≤ 100000000 := by have := bsD_size r0; omega
      clear hi hz0 hz1 hz2
      gi_wp2_with fail
      refine wpIn_region_allG (R := MdJ n W.heap.size (.slice A2 gn c2)) (by kernel_rfl) (by kernel_rfl) (fun _ => MdJ.refl _ _ _ _) (by kernel_rfl) (by kernel_rfl) (MdJ n W.heap.size (.slice A2 gn c2) W)
        [fun env _ => env 0 = .pointer (some ⟨n + 2, 8, none⟩), fun env _ => env 1 = .slice A2 gn c2, fun env _ => env 2 = .agg #[.int .i64 kind3, .bool b3, .bool neg3, .string dg3, .int .i64 ex3, .int .u64 u3, .int .i64 wd3, .string s3, .slice A m c], fun env _ => env 3 = .int .i64 gn, fun env _ => ∃ zb, env 4 = .slice (some ⟨zb, 0, none⟩) 1 1,
          fun env _ => ∃ g cap, env 5 = .slice (some ⟨g, 0, none⟩) (gn + 1) cap ∧ ((Value.slice A2 gn c2).ownBlock = some g ∨ W.heap.size ≤ g), fun env _ => ∃ g cap, env 5 = .slice (some ⟨g, 0, none⟩) (gn + 1) cap ∧ ((Value.slice A2 gn c2).ownBlock = some g ∨ W.heap.size ≤ g) ∧ env 6 = .pointer (some ⟨g, gn * 9, none⟩), fun _ _ => True, fun env _ => env 8 = .pointer (some ⟨n + 2, 8, none⟩), fun _ _ => True]
        (ChiJ n W.heap.size gn (.slice A2 gn c2) (fun v => #[.int .i64 kd, .bool false, .bool false, .string ⟨#[]⟩, .int .i64 0, .int .u64 0, .int .i64 0, .string ⟨#[]⟩, v]) xs [.int .i64 kind3, .bool b3, .bool neg3, .string dg3, .int .i64 ex3, .int .u64 u3, .int .i64 wd3, .string s3, .slice A m c] [.int .i64 0, .bool false, .bool false, .string ⟨#[]⟩, .int .i64 0, .int .u64 0, .int .i64 0, .string ⟨#[]⟩, .slice none 0 0]) ?_ ?_ ?_ ?_ ?_ ?_
      case refine_1 => exact ⟨Below.drew (Below.refl _ _), fun _ _ _ _ => rfl, ⟨Nat.le_refl _, fun _ _ _ h _ => h⟩⟩
      case refine_2 => exact fun _ => ⟨⟨fun h => (nomatch h), fun h => (nomatch h), fun h => (nomatch h)⟩, hb2, fun _ => hown, fun h => (nomatch h), fun h => (nomatch h)⟩
      case refine_3 => exact fun A B hE hR => hE.trans hR
      case refine_4 =>
        intro i o env env' A B ho hk _ hp _
        have e : ∀ k, k = i → env' k = env k := fun k h => (hk k (.inl h)).symm
        unfold phisG at hp ⊢
        match i, ho, hp, e with
        | 0, _, hp, e => exact (e 0 rfl).trans hp
        | 1, _, hp, e => exact (e 1 rfl).trans hp
        | 2, _, hp, e => exact (e 2 rfl).trans hp
        | 3, _, hp, e => exact (e 3 rfl).trans hp
        | 4, _, hp, e => obtain ⟨zb, hp⟩ := hp; exact ⟨zb, (e 4 rfl).trans hp⟩
        | 5, _, hp, e => obtain ⟨g, cap, hp, h⟩ := hp; exact ⟨g, cap, (e 5 rfl).trans hp, h⟩
        | 6, ho, hp, e =>
          obtain ⟨g, cap, hp, hq, h⟩ := hp
          have hw5 : waitsFor o 5 = true := by
            rw [← Option.some.inj ho]
            first | kernel_rfl | decide +kernel
          have h5 := hk 5 (.inr hw5)
          exact ⟨g, cap, h5.symm.trans hp, hq, (e 6 rfl).trans h⟩
        | 7, _, _, _ => trivial
        | 8, _, hp, e => exact (e 8 rfl).trans hp
        | 9, _, _, _ => trivial
        | i + 10, ho, _, _ => simp at ho
      case refine_5 =>
        refine flow_consG (flow_opG rfl rfl (by kernel_rfl) (by kernel_rfl) ?_) ?_
        · intro sel env W hE hn hx hs hwt ρ hρ hc hf hg K hK
          have r12 : ρ (.tmp 12) = .pointer (some ⟨n + 2, 0, none⟩) := by rw [hρ]; kernel_rfl
          clear hρ hg
          simp [opLands, go_sem, r12]
          exact hK _ _ (updV_self _ _ _) (chiJ_pure hx 0 _ (by decide) (by decide) (by decide) (by decide)) (MdJ.refl _ _ _ _)
        refine flow_consG (flow_opG rfl rfl (by kernel_rfl) (by kernel_rfl) ?_) ?_
        · intro sel env W hE hn hx hs hwt ρ hρ hc hf hg K hK
          have r48 := (show ρ (.tmp 48) = env 0 by rw [hρ]; kernel_rfl).trans (hn 0 (hwt 0 (by kernel_rfl)))
          clear hρ hg
          have h9 : sel 9 = false := by
            cases h : sel 9 with
            | false => rfl
            | true => rw [hx.1.1 h] at hs; cases hs
          have q0 : W.cell? ⟨n + 2, 8, none⟩ = some (.slice A2 gn c2) := by
            have := hx.2.1
            rw [h9] at this
            exact this.cell 8
          simp [opLands, go_sem, r48, q0]
          exact hK _ _ (updV_self _ _ _) (chiJ_pure hx 1 _ (by decide) (by decide) (by decide) (by decide)) (MdJ.refl _ _ _ _)
        refine flow_consG (flow_opG rfl rfl (by kernel_rfl) (by kernel_rfl) ?_) ?_
        · intro sel env W hE hn hx hs hwt ρ hρ hc hf hg K hK
          have r13 : ρ (.tmp 13) = .pointer (some ⟨b, 0, none⟩) := by rw [hρ]; kernel_rfl
          clear hρ hg
          exact lands_load_row 27 (.tmp 13) rfl b r13 27 _ (0, 0) _ ((hE.2.1 b hbs (by omega) (fun e => by have := hnb0 b e; omega)).trans hbx0) Tryz.underlying27 rfl (by kernel_rfl) (hK _ _ (updV_self _ _ _) (chiJ_pure hx 2 _ (by decide) (by decide) (by decide) (by decide)) (MdJ.refl _ _ _ _))
        refine flow_consG (flow_opG rfl rfl (by kernel_rfl) (by kernel_rfl) ?_) ?_
        · intro sel env W hE hn hx hs hwt ρ hρ hc hf hg K hK
          have r49 := (show ρ (.tmp 49) = env 1 by rw [hρ]; kernel_rfl).trans (hn 1 (hwt 1 (by kernel_rfl)))
          clear hρ hg
          simp [opLands, go_sem, r49]
          exact hK _ _ (updV_self _ _ _) (chiJ_pure hx 3 _ (by decide) (by decide) (by decide) (by decide)) (MdJ.refl _ _ _ _)
        refine flow_consG (flow_opG rfl rfl (by kernel_rfl) (by kernel_rfl) ?_) ?_
        · intro sel env W hE hn hx hs hwt ρ hρ hc hf hg K hK
          clear hρ hg
          simp [opLands, go_sem, hc]
          obtain ⟨a1, a2, a3, a4, a5⟩ := hx
          have hsz := hE.1.size
          refine hK _ _ ⟨W.heap.size, updV_self _ _ _⟩ ?_ (MdJ.of (World.grownBy_alloc _ _ none) (by omega) (by omega) (fun g e => by cases e))
          unfold ChiJ
          rw [updB_ne sel (show (9 : Nat) ≠ 4 by decide), updB_ne sel (show (1 : Nat) ≠ 4 by decide), updB_ne sel (show (5 : Nat) ≠ 4 by decide), updB_ne sel (show (7 : Nat) ≠ 4 by decide), updV_ne env _ (show (5 : Nat) ≠ 4 by decide), updV_self]
          exact ⟨a1, a2.alloc _, fun h => (a3 h).alloc _, fun h => (a4 h).alloc _, fun _ _ => ⟨_, rfl, by omega, Blk.new _ _ _⟩⟩
        refine flow_consG (flow_opG rfl rfl (by kernel_rfl) (by kernel_rfl) ?_) ?_
        · intro sel env W hE hn hx hs hwt ρ hρ hc hf hg K hK
          have r49 := (show ρ (.tmp 49) = env 1 by rw [hρ]; kernel_rfl).trans (hn 1 (hwt 1 (by kernel_rfl)))
          obtain ⟨zb, e52⟩ := (hn 4 (hwt 4 (by kernel_rfl)))
          have r52 := (show ρ (.tmp 52) = env 4 by rw [hρ]; kernel_rfl).trans e52
          clear hρ hg
          obtain ⟨⟨a1, a1', a1''⟩, a2, a3, a4, a5⟩ := hx
          have hsz := hE.1.size
          obtain ⟨zb', ez, hzb, hzk⟩ := a5 (hwt 4 (by kernel_rfl)) hs
          have hzz : zb' = zb := by
            rw [e52] at ez
            injection ez with ez
            injection ez with ez
            injection ez with ez
            exact ez.symm
          subst hzz
          have h9 : sel 9 = false := by
            cases h : sel 9 with
            | false => rfl
            | true => rw [a1' h] at hs; cases hs
          have h7 : sel 7 = false := by
            cases h : sel 7 with
            | false => rfl
            | true => rw [a1'' h] at hs; cases hs
          obtain ⟨g, cap, w', hrun, hown', hgr, hat, hlt⟩ := run_append_lies (P := Tryz.prog) W 25 25 (n + 9) 27 i0 _ 9 104 Tryz.underlying25 HI.out HZ0.out HZ1.out HZ2.out rfl (by decide) (.slice A2 gn c2) gn xs (a3 hs) ⟨zb', 0, none⟩ 1 1 [.int .i64 0, .bool false, .bool false, .string ⟨#[]⟩, .int .i64 0, .int .u64 0, .int .i64 0, .string ⟨#[]⟩, .slice none 0 0] rfl (fun j u hu => by
            have := hzk.cell j
            rw [show (⟨zb', 0, none⟩ : Addr).add j = ⟨zb', j, none⟩ by unfold Addr.add; split <;> rename_i q <;> simp_all]
            rw [this, ← hu]
            simp) (by decide) (by decide) (by unfold maxLen; omega) (by omega) (by omega) W.heap.size rfl
          refine lands_append (.tmp 49) (.tmp 52) 25 rfl (.slice A2 gn c2) (.slice (some ⟨zb', 0, none⟩) 1 1) _ w' r49 r52 hrun (hK _ _ ⟨g, cap, updV_self _ _ _, by rcases hat with h | h; exact .inl h; exact .inr (by omega)⟩ ?_ (MdJ.of hgr (by omega) (by omega) (fun g' e => ⟨by have := ((a3 hs).lt g' e).1; omega, .inr (.inl e), .inr (fun o ho => by
            obtain ⟨o', ho', hc'⟩ := row_cells (a3 hs) e
            rw [ho] at ho'
            cases ho'
            exact hc')⟩)))
          unfold ChiJ
          rw [updB_ne sel (show (9 : Nat) ≠ 5 by decide), updB_ne sel (show (1 : Nat) ≠ 5 by decide), updB_self, updB_ne sel (show (7 : Nat) ≠ 5 by decide), h9, h7]
          refine ⟨⟨fun h => (nomatch h), fun h => (nomatch h), fun h => (nomatch h)⟩, ?_, fun h => (nomatch h), fun _ => (by rw [updV_self]; exact hown'), fun _ h => (nomatch h)⟩
          rw [h9] at a2
          exact (hgr.block (n + 2) a2.lt (fun e => by have := ((a3 hs).lt (n + 2) (by first | exact e.symm | exact e)).1; omega)).trans a2
        refine flow_consG (flow_opG rfl rfl (by kernel_rfl) (by kernel_rfl) ?_) ?_
        · intro sel env W hE hn hx hs hwt ρ hρ hc hf hg K hK
          obtain ⟨g, cap, e53, hgw⟩ := (hn 5 (hwt 5 (by kernel_rfl)))
          have r53 := (show ρ (.tmp 53) = env 5 by rw [hρ]; kernel_rfl).trans e53
          have r51 := (show ρ (.tmp 51) = env 3 by rw [hρ]; kernel_rfl).trans (hn 3 (hwt 3 (by kernel_rfl)))
          clear hρ hg
          have y6 : (gn : Int) < (gn : Int) + 1 := by omega
          simp [opLands, go_sem, r53, r51, y6]
          exact hK _ _ ⟨g, cap, (updV_ne env _ (show (5 : Nat) ≠ 6 by decide)).trans e53, hgw, updV_self _ _ _⟩ (chiJ_pure hx 6 _ (by decide) (by decide) (by decide) (by decide)) (MdJ.refl _ _ _ _)
        refine flow_consG (flow_op0G rfl rfl (by kernel_rfl) rfl ?_) ?_
        · intro sel env W hE hn hx hs hwt ρ hρ hc hf hg K hK
          obtain ⟨g, cap, e53, hgw, e54⟩ := (hn 6 (hwt 6 (by kernel_rfl)))
          have r54 := (show ρ (.tmp 54) = env 6 by rw [hρ]; kernel_rfl).trans e54
          have r50 := (show ρ (.tmp 50) = env 2 by rw [hρ]; kernel_rfl).trans (hn 2 (hwt 2 (by kernel_rfl)))
          clear hρ hg
          obtain ⟨⟨a1, a1', a1''⟩, a2, a3, a4, a5⟩ := hx
          have hsz := hE.1.size
          have s5 := hwt 5 (by kernel_rfl)
          have hrow7 := a4 s5
          rw [hs, if_neg (by decide), e53] at hrow7
          have hgl := hrow7.lt g rfl
          refine lands_store_mid 27 (.tmp 54) (.tmp 50) rfl g (gn * 9) #[.int .i64 kind3, .bool b3, .bool neg3, .string dg3, .int .i64 ex3, .int .u64 u3, .int .i64 wd3, .string s3, .slice A m c] r54 r50 (row_there hrow7) (by kernel_rfl) (by simp [Value.oneCell']) (hK _ _ trivial ?_ (MdJ.of (grown_setCells g _ _ W) (by omega) (by omega) (fun g' e => by
            cases e
            obtain ⟨o', ho', hc'⟩ := row_cells hrow7 rfl
            refine ⟨by omega, ?_, .inr (fun o ho => ?_)⟩
            · rcases hgw with h | h
              · exact .inr (.inl h)
              · exact .inr (.inr h)
            · rw [ho] at ho'
              cases ho'
              exact hc')))
          unfold ChiJ
          rw [updB_ne sel (show (9 : Nat) ≠ 7 by decide), updB_ne sel (show (1 : Nat) ≠ 7 by decide), updB_ne sel (show (5 : Nat) ≠ 7 by decide), updB_self, updB_ne sel (show (4 : Nat) ≠ 7 by decide)]
          refine ⟨⟨a1, a1', fun _ => s5⟩, ?_, fun h => (by rw [s5] at h; cases h), fun _ => ?_, fun _ h => (by rw [s5] at h; cases h)⟩
          · exact ((grown_setCells g _ _ W).block (n + 2) a2.lt (fun e => by cases e; omega)).trans a2
          · rw [if_pos rfl, updV_ne env undef (show (5 : Nat) ≠ 7 by decide), e53]
            exact row_setLast hrow7 hxs rfl
        refine flow_consG (flow_opG rfl rfl (by kernel_rfl) (by kernel_rfl) ?_) ?_
        · intro sel env W hE hn hx hs hwt ρ hρ hc hf hg K hK
          have r12 : ρ (.tmp 12) = .pointer (some ⟨n + 2, 0, none⟩) := by rw [hρ]; kernel_rfl
          clear hρ hg
          simp [opLands, go_sem, r12]
          exact hK _ _ (updV_self _ _ _) (chiJ_pure hx 8 _ (by decide) (by decide) (by decide) (by decide)) (MdJ.refl _ _ _ _)
        refine flow_consG (flow_op0G rfl rfl (by kernel_rfl) rfl ?_) flow_nilG
        · intro sel env W hE hn hx hs hwt ρ hρ hc hf hg K hK
          have r55 := (show ρ (.tmp 55) = env 8 by rw [hρ]; kernel_rfl).trans (hn 8 (hwt 8 (by kernel_rfl)))
          obtain ⟨g, cap, e53, hgw⟩ := (hn 5 (hwt 5 (by kernel_rfl)))
          have r53 := (show ρ (.tmp 53) = env 5 by rw [hρ]; kernel_rfl).trans e53
          clear hρ hg
          obtain ⟨⟨a1, a1', a1''⟩, a2, a3, a4, a5⟩ := hx
          have hsz := hE.1.size
          have s5 := hwt 5 (by kernel_rfl)
          have s1 := hwt 1 (by kernel_rfl)
          rw [hs, if_neg (by decide)] at a2
          have q0 : W.cell? ⟨n + 2, 8, none⟩ = some (.slice A2 gn c2) := a2.cell 8
          have f0 := a2.frozen 8
          have hrow9 := a4 s5
          have hgl := hrow9.lt g (by rw [e53]; rfl)
          simp [opLands, go_sem, r55, r53, q0, f0]
          refine hK _ _ trivial ?_ (MdJ.of (grown_set W (n + 2) 8 _) (by omega) (by omega) (fun g' e => by cases e; exact ⟨by omega, .inl rfl, .inl (by omega)⟩))
          unfold ChiJ
          rw [updB_self, updB_ne sel (show (1 : Nat) ≠ 9 by decide), updB_ne sel (show (5 : Nat) ≠ 9 by decide), updB_ne sel (show (7 : Nat) ≠ 9 by decide), updB_ne sel (show (4 : Nat) ≠ 9 by decide)]
          refine ⟨⟨fun _ => s1, fun _ => s5, a1''⟩, ?_, fun h => (by rw [s5] at h; cases h), fun _ => ?_, fun _ h => (by rw [s5] at h; cases h)⟩
          · rw [if_pos rfl, updV_ne env undef (show (5 : Nat) ≠ 9 by decide), e53]
            exact a2.set 8 _
          · rw [updV_ne env undef (show (5 : Nat) ≠ 9 by decide)]
            exact ownsRow_setCell_other hrow9 (a := ⟨n + 2, 8, none⟩) (fun e => by have := (hrow9.lt (n + 2) e).1; omega) _
      case refine_6 =>
        intro env W2 hE hn2 hx
        obtain ⟨g, cap, e5, hg5'⟩ := hn2 5 (by decide)
        have q2 : Blk W2 (n + 2) #[.int .i64 kd, .bool false, .bool false, .string ⟨#[]⟩, .int .i64 0, .int .u64 0, .int .i64 0, .string ⟨#[]⟩, env 5] 27 := hx.2.1
        have q4 : W2.ownsRow (n + 9) 27 9 (env 5) (gn + 1) (xs ++ [.int .i64 kind3, .bool b3, .bool neg3, .string dg3, .int .i64 ex3, .int .u64 u3, .int .i64 wd3, .string s3, .slice A m c]) := hx.2.2.2.1 rfl
        rw [e5] at q2 q4
        have hB2 : Below n W W2 := hE.1
        have hoz : ∀ q, (Value.slice A2 gn c2).ownBlock = some q → n + 9 ≤ q := fun q e => (hown.lt q e).1
        have hz2 := hE.1.size
        have same : ∀ q, q < W.heap.size → q ≠ n + 2 → (Value.slice A2 gn c2).ownBlock ≠ some q → W2.heap[q]? = W.heap[q]? := fun q h1 h2 h4 => hE.2.1 q h1 h2 h4
        have hgq : ∀ q, q < W.heap.size → (Value.slice A2 gn c2).ownBlock ≠ some q → (Value.slice (some ⟨g, 0, none⟩) (gn + 1) cap).ownBlock ≠ some q := fun q h1 h2 e => by
          have e : g = q := by simpa [Value.ownBlock] using e
          subst e
          rcases hg5' with h | h
          · exact h2 h
          · omega
        have hlen : (pre ++ [EvJ.ok t (.slice A m c)]).length = gn + 1 := by rw [List.length_append, List.length_singleton, hgn]
        have hly2 : LAt W2 (fun q => n + 9 ≤ q ∧ q < W2.heap.size ∧ (Value.slice (some ⟨g, 0, none⟩) (gn + 1) cap).ownBlock ≠ some q) d t.kids (.slice A m c) :=
          (hly.keep (fun q hq => same q hq.2 (by omega) (fun e => by have := hnb0 q e; omega))).mono (fun q hq => ⟨by omega, by omega, hgq q hq.2 (fun e => by have := hnb0 q e; omega)⟩)
        have hro2 : RowT W2 (fun q => n + 9 ≤ q ∧ q < W2.heap.size ∧ (Value.slice (some ⟨g, 0, none⟩) (gn + 1) cap).ownBlock ≠ some q) d (treesJ pre) xs :=
          (hrow.keep (fun q hq => same q hq.2.1 (by omega) hq.2.2)).mono (fun q hq => ⟨hq.1, by omega, hgq q hq.2.1 hq.2.2⟩)
        have h1t := RowT.one (t := t) (by rw [ho3]; exact hot) hly2
        rw [ho3] at h1t
        have hrt := h1t.append hro2
        rw [← treesJ_snoc pre t (.slice A m c)] at hrt
        refine ⟨?_, ⟨hB2, fun h => same _ h (by omega) (fun e => by have := hoz _ e; omega), fun h => same _ h (by omega) (fun e => by have := hoz _ e; omega), fun h => same _ h (by omega) (fun e => by have := hoz _ e; omega), fun o ho _ => (same _ (Array.getElem?_eq_some_iff.1 ho).1 (by omega) (fun e => by have := hoz _ e; omega)).trans ho⟩,
          ⟨⟨ok_snoc h1.1 _ _, by rw [hlen]; exact hxl⟩, by omega⟩, ?_, ?_, ?_, _, _, q2, by rw [hlen]; exact q4, hrt⟩
        · rw [hz5]
          exact hE.2.2
        · exact ⟨hB2.os.trans hg.os, hB2.tape.trans hg.tape, hB2.output.trans hg.output, Nat.le_trans hg.size hB2.size, fun i hi hp => (hB2.block i (by omega)).trans (hg.block i hi hp)⟩
        · exact (same n (by omega) (by omega) (fun e => by have := hoz _ e; omega)).trans hb0'
        · exact (same (n + 1) (by omega) (by omega) (fun e => by have := hoz _ e; omega)).trans hb1
  case done =>
    rintro D xs W hD ⟨hall, r, hst, hrd, hrs⟩ ⟨⟨⟨_, hpl⟩, hz⟩, hg, hb0', hb1, v, ys, hb2, hown, hrow⟩ hK
    subst hst
    obtain ⟨A2, c2, rfl⟩ := own_sliceT hown
    have hDW := (Array.getElem?_eq_some_iff.1 hK).1
    have hzl := treesJ_len hall
    have q1 : W.cell? ⟨p, 1, none⟩ = some (.int .i64 ((dq + 1 : Nat) : Int)) := hrd.cell 1
    have f1 := hrd.frozen 1
    rw [HIB.out] at q1
    have y3 := HY3.out
    rw [HIB.out, HIA.out] at y3
    have hrd2 : RdJ (W.setCell ⟨p, 1, none⟩ (.int .i64 ia)) p (bsD r) dq := by rw [← HIA.out]; exact hrd.set 1 _
    have hb22 := hb2.other (b' := p) (by omega) 1 (.int .i64 ia)
    have hb02 := hb0'.other (b' := p) (by omega) 1 (.int .i64 ia)
    have hb12 := hb1.other (b' := p) (by omega) 1 (.int .i64 ia)
    have hb13 := blk_row_other hb12 (by omega : n + 1 ≠ n) #[.int .i64 kd, .bool false, .bool false, .string ⟨#[]⟩, .int .i64 0, .int .u64 0, .int .i64 0, .string ⟨#[]⟩, .slice A2 xs.length c2]
    have g1 := hb13.frozen 0
    have q3 := hb13.cell 0
    have hlat : LAt W (fun q => n + 9 ≤ q ∧ q < W.heap.size) (d + 1) (treesJ xs) (.slice A2 xs.length c2) := hrow.list hown hzl.symm (by have := bsD_size r0; omega) (fun q hq => ⟨hq.1, hq.2.1⟩) (fun a e => by
      subst e
      exact hown.lt a.block rfl)
    have HLAT := Lib.hid hlat
    have HK := Lib.hid hK
    have hrs2 : r.length ≤ s.size := by have := bsD_size r0; omega
    clear hseq hK0 hK1 hK2 hK3 hK4 hK5 hR5 hb5 hg5 hlat hK hown hrow hb0' hb1 hall
    go_wp2_with (first | (refine wpList_load_row rfl 27 (.tmp 12) rfl (n + 2) rfl 27 _ (0, 0) _ hb22 Tryz.underlying27 rfl (by kernel_rfl) ?_) | (refine wpList_store_row rfl 27 (.tmp 10) (.tmp 65) rfl (n) #[.int .i64 kd, .bool false, .bool false, .string ⟨#[]⟩, .int .i64 0, .int .u64 0, .int .i64 0, .string ⟨#[]⟩, .slice A2 xs.length c2] rfl rfl 27 _ hb02 (by kernel_rfl) rfl (by simp [Value.oneCell']) ?_))
    obtain ⟨W3, hW3⟩ : ∃ x, ((W.setCell ⟨p, 1, none⟩ (.int .i64 ia)).setRow n #[.int .i64 kd, .bool false, .bool false, .string ⟨#[]⟩, .int .i64 0, .int .u64 0, .int .i64 0, .string ⟨#[]⟩, .slice A2 xs.length c2]).setCell ⟨n + 1, 0, none⟩ .nilIface = x := ⟨_, rfl⟩
    have hg3 : w.grownBy W3 (some p) := by
      rw [← hW3]
      exact grown_at (grown_at (grown_trans hg (grown_set W p 1 _)) (grown_row _ n _) (by omega)) (grown_set _ (n + 1) 0 _) (by omega)
    have same : ∀ q, q ≠ p → q ≠ n → q ≠ n + 1 → W3.heap[q]? = W.heap[q]? := fun q h1 h2 h3 => by
      rw [← hW3]
      exact (Below.heap_setCell _ _ _ _ (by exact h3)).trans ((setRow_other _ _ _ _ h2).trans (Below.heap_setCell _ _ _ _ (by exact h1)))
    have b0 : Blk W3 n #[.int .i64 kd, .bool false, .bool false, .string ⟨#[]⟩, .int .i64 0, .int .u64 0, .int .i64 0, .string ⟨#[]⟩, .slice A2 xs.length c2] 27 := by
      rw [← hW3]
      exact (blk_row hb02 _).other (by omega) 0 _
    have b1 : Blk W3 (n + 1) #[.nilIface] 62 := by
      rw [← hW3]
      exact hb13.set 0 _
    have rd3 : RdJ W3 p (bsD r) dq := by
      rw [← hW3]
      exact (blk_row_other hrd2 (by omega) _).other (by omega) 0 _
    have hz3 : W3.heap.size = W.heap.size := by rw [← hW3]; simp [World.setCell, setRow_size]
    rw [hW3]
    have hK3 : W3.heap[D]? = some (.deferred (some [])) := (same D (by omega) (by omega) (by omega)).trans HK.out
    have hDC : ∀ r, some D = some r → ∃ o : Obj, W3.heap[r]? = some o ∧ o.isCells = false := fun r e => by
      cases e
      exact ⟨_, hK3, rfl⟩
    have hgD := grownBy_putObj' W3 D (.deferred none)
    have hgF : w.grownBy (W3.putObj D (.deferred none)) (some p) := grown_C hg3 hgD (n := n) (by omega) (fun r e => by cases e; omega)
    have hl2 := ((HLAT.out.keep (fun q hq => same q (by omega) (by omega) (by omega))).keptC hgD hDC).mono (S' := fun q => w.heap.size ≤ q ∧ q < (W3.putObj D (.deferred none)).heap.size) (fun q hq => ⟨by omega, by have := hgD.size; omega⟩)
    refine leave1 hK3 (results_cell2 (T := 27) (T2 := 62) (b := n) (b2 := n + 1) (u := .nilIface) rfl (by kernel_rfl) (by kernel_rfl) (blkC b0 hgD hDC) Tryz.underlying27 rfl (by kernel_rfl) Tryz.underlying62 rfl ((blkC b1 hgD hDC).cell 0)) rfl ?_
    exact ⟨hgF, ⟨A2, xs.length, c2, rfl, hl2⟩, own_u kd 0 0 hkd (by decide) (by decide), blkC rd3 hgD hDC, hrs2⟩
  case stop =>
    rintro D c pre W hD hsp ⟨rfl, hg, hb0', ⟨ys, e, hpre, he, hb1⟩, s', d', hrd, hrs⟩ hK
    have hst : st = .bad e := by
      rcases hsp with ⟨zs, e', hz, h1, _⟩ | hok
      · rw [hpre] at hz
        obtain ⟨_, hz⟩ := List.append_inj' hz rfl
        injection hz with hz _
        injection hz with hz
        rw [h1, hz]
      · exact (hok (.no e) (by rw [hpre]; exact List.mem_append_right _ (List.mem_singleton.2 rfl))).elim
    subst hst
    clear hseq hK0 hK1 hK2 hK3 hK4 hK5 hR5 hb5 hg5 hsp hpre
    have hrs2 : s'.size ≤ s.size := by have := bsD_size r0; omega
    have hDC : ∀ r, some D = some r → ∃ o : Obj, W.heap[r]? = some o ∧ o.isCells = false := fun r e => by
      cases e
      exact ⟨_, hK, rfl⟩
    have hgD := grownBy_putObj' W D (.deferred none)
    have hgF : w.grownBy (W.putObj D (.deferred none)) (some p) := grown_C hg hgD (n := n) (by omega) (fun r e => by cases e; omega)
    go_wp2_with fail
    refine leave1 hK (results_cell2 (T := 27) (T2 := 62) (b := n) (b2 := n + 1) (u := errJ e) rfl (by kernel_rfl) (by kernel_rfl) (blkC hb0' hgD hDC) Tryz.underlying27 rfl (by kernel_rfl) Tryz.underlying62 rfl ((blkC hb1 hgD hDC).cell 0)) rfl ?_
    exact ⟨hgF, ⟨rfl, he⟩, s', d', blkC hrd hgD hDC, hrs2⟩
end Go.Proofs.YtfckekaegjjmkaaGreatDoor
