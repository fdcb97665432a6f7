/- The texts GateA, Range, put together. -/
import Derived.Test.YtflkmhgbinlfiaaGreatDoorPq02
import Derived.Test.YtflkmhgbinlfiaaGreatDoorPq05
import Derived.Test.YtflkmhgbinlfiaaGreatDoorPq01
namespace Go.Proofs.YtflkmhgbinlfiaaGreatDoor
open Go.RowKit Go.Shelf

set_option maxHeartbeats 2000000 in
set_option maxRecDepth 100000 in
theorem tree_Depth (d : Nat) : ∀ (t : Tr) (x : Value) (w : World) (B : Nat), ListAt w B d t.kids x → B ≤ w.heap.size → t.count ≤ 1000000000000 →
    Calls Tryz.prog 30 #[nodeV t.own x] w fun e w' => e = .returned (.int .i64 (t.depth : Nat)) ∧ Below w.heap.size w w' := by
  induction d using Nat.strongRecOn with
  | _ d ih =>
  intro t x w B hl hB hc
  obtain ⟨hlen, A, c, rfl⟩ := hl.slice
  have hdc := depth_count t
  rw [Tr.depth_eq] at hdc ⊢
  have hkc : ∀ l, t.kids = l → ∀ k (h : k < l.length), l[k].count ≤ 1000000000000 := by
    rintro _ rfl k h
    have := Tr.count_eq t
    have h1 := countL_take t.kids k h
    have h2 := countL_mono t.kids (k + 1)
    omega
  obtain ⟨l, hkl⟩ : ∃ l, t.kids = l := ⟨_, rfl⟩
  have hkc := hkc l hkl
  rw [hkl] at hl hlen hdc ⊢
  obtain ⟨n, hn⟩ : ∃ n, l.length = n := ⟨_, rfl⟩
  rw [hn] at hl hlen ⊢
  obtain ⟨⟨kind, b, neg, dg, ex, u, wd, s⟩, ho⟩ : ∃ o, t.own = o := ⟨_, rfl⟩
  rw [ho]
  unfold nodeV
  have HL := Lib.hid hl
  have IH := Lib.hid ih
  have HKC := Lib.hid hkc
  have hbx := (Below.refl w.heap.size w).alloc (Nat.le_refl _) (.cells #[.int .i64 kind, .bool b, .bool neg, .string dg, .int .i64 ex, .int .u64 u, .int .i64 wd, .string s, .slice A n c] 28)
  have hBx : Blk (w.alloc (.cells #[.int .i64 kind, .bool b, .bool neg, .string dg, .int .i64 ex, .int .u64 u, .int .i64 wd, .string s, .slice A n c] 28)) w.heap.size #[.int .i64 kind, .bool b, .bool neg, .string dg, .int .i64 ex, .int .u64 u, .int .i64 wd, .string s, .slice A n c] 28 := Blk.new _ _ _
  have hd2 : depthL l + 1 ≤ 1000000000000 := by omega
  clear hl ih ho hkl hkc hdc hc
  simp only []
  have hf0 := hBx.cell 8
  go_enter Tryz.func30, Tryz.ntmps30
  go_wp2_with fail
  go_loopw [3, 9] (fun m i wr => ∃ k : Nat, k ≤ n ∧ i = .int .i64 k ∧ m = .int .i64 ((depthL (l.take k) : Nat) : Int) ∧ Below w.heap.size w wr) (fun _ i _ => n - (intOf i).toNat)
  case atStart => exact ⟨0, by omega, rfl, rfl, hbx⟩
  case round =>
    obtain ⟨k, hk, rfl, rfl, hbw⟩ := hrel
    by_cases hlt : k < n
    · have hkl : k < l.length := by omega
      obtain ⟨d', ad, x', hdd, rfl, hab, hok, hna, hkk⟩ := (HL.out.below hbw hB).at_ hkl
      obtain ⟨_, A2, c2, rfl⟩ := hkk.slice
      obtain ⟨n2, hn2⟩ : ∃ n2, l[k].kids.length = n2 := ⟨_, rfl⟩
      rw [hn2] at hna hkk
      have htk := depthL_take l k hkl
      have hba : Below wr.heap.size wr (wr.alloc (.cells (cellsV l[k].own (.slice A2 n2 c2)) 28)) := (Below.refl _ _).alloc (Nat.le_refl _) _
      have hba2 := hbw.trans (hba.mono hbw.size)
      have hkb := Blk.new wr (cellsV l[k].own (.slice A2 n2 c2)) 28
      have HC := IH.out d' (by omega) l[k] (.slice A2 n2 c2) _ B (hkk.below hba (Nat.le_trans hB hbw.size)) (Nat.le_trans hB hba2.size) (HKC.out k hkl)
      obtain ⟨m0, hm0⟩ : ∃ m0, depthL (l.take k) = m0 := ⟨_, rfl⟩
      obtain ⟨m1, hm1⟩ : ∃ m1, l[k].depth = m1 := ⟨_, rfl⟩
      rw [hm0, hm1] at htk
      rw [hm1] at HC
      obtain ⟨⟨kind', b', neg', dg', ex', u', wd', s'⟩, ho'⟩ : ∃ o, l[k].own = o := ⟨_, rfl⟩
      rw [ho'] at HC hna hkb hba2
      unfold nodeV at HC
      unfold cellsV at HC hkb hba2
      obtain ⟨k0, k1, k2, k3, k4, k5, k6, k7, k8⟩ := hna
      simp only [] at k0 k1 k2 k3 k4 k5 k6 k7 k8 HC hkb hba2
      have z0 := hkb.cell 0
      have z1 := hkb.cell 1
      have z2 := hkb.cell 2
      have z3 := hkb.cell 3
      have z4 := hkb.cell 4
      have z5 := hkb.cell 5
      have z6 := hkb.cell 6
      have z7 := hkb.cell 7
      have z8 := hkb.cell 8
      have HC := Lib.hid HC
      have HT := Lib.hid htk
      rw [hm0]
      have y1 : (k : Int) < n := by omega
      have y2 : max (m0 : Int) (m1 : Int) = ((max m0 m1 : Nat) : Int) := by omega
      clear htk hm0 hm1 ho' hkk hok hdd hba hn2
      go_wp2_with fail
      refine HC.out.mono ?_
      rintro e w2 ⟨rfl, hb2⟩
      have hb3 := hba2.trans (hb2.mono hba2.size)
      clear hb2 HC hkb k0 k1 k2 k3 k4 k5 k6 k7 k8 z0 z1 z2 z3 z4 z5 z6 z7 z8
      go_wp2_with fail
      go_roundw
      case rel => exact ⟨k + 1, by omega, by go_num, by first | (rw [HT.out]; done) | (rw [HT.out]; exact congrArg (Value.int .i64) (by omega)), hb3⟩
      case measure => simp [intOf]; omega
    · obtain rfl : k = n := by omega
      have y1 : ¬ (k : Int) < k := by omega
      have hf : l.take k = l := by rw [← hn, List.take_length]
      rw [hf]
      clear hn hf
      go_wp2_with fail
      go_ret
      exact ⟨by go_num, hbw⟩
end Go.Proofs.YtflkmhgbinlfiaaGreatDoor
namespace Go.Proofs.YtflkmhgbinlfiaaGreatDoor
open Go.RowKit Go.Shelf

/-- The contract of an iterator that may write between two rounds. -/
def SeqW {α : Type} (P : Program) (g : Nat) (lb : Array Value) (encs : α → Array Value) (Mv Kp : World → World → Prop) (Ct : α → Prop) (T : List α → World → Prop) (S Sp : List α → World → Prop) (A0 : World → Prop) : Prop :=
  ∀ (l : Nat) (J Jx : List α → World → Prop) (W : World), A0 W → (∀ s A B, J s A → Mv A B → J s B) → (∀ s A B, Jx s A → Mv A B → Jx s B) →
    (∀ pre x W1, J pre W1 → T (pre ++ [x]) W1 → YieldAt Fence.wide 7 P l (encs x) W1 fun e W' =>
      (e = .returned (.bool true) ∧ Ct x ∧ J (pre ++ [x]) W' ∧ Kp W1 W') ∨ (e = .returned (.bool false) ∧ Jx (pre ++ [x]) W')) →
    J [] W →
    CallsIn Fence.wide 8 P g (#[.func (.yield l) #[] #[]] ++ lb) W fun e W' => (∃ v, e = .returned v) ∧ ((∃ xs, S xs W' ∧ J xs W') ∨ (∃ pre, Sp pre W' ∧ Jx pre W'))


/-- The statement, outside every fence. -/
theorem wp_rangeFuncW {P : Program} {α : Type} {g : Operand} {ps : Array Tmp} {assign body : Code} {Q : Exit → Act → World → Prop} {a : Act} {w : World}
    {gf : Nat} {lb : Array Value} (hg : a.eval g = .func (.func gf) #[] lb) (eg : ∀ args w, (callFunc gf args).run P w = .ok (.enter gf args) w)
    {encs : α → Array Value} {Mv Kp : World → World → Prop} {Ct : α → Prop} {T S Sp : List α → World → Prop} {A0 : World → Prop} (hseq : SeqW P gf lb encs Mv Kp Ct T S Sp A0)
    (hMv : ∀ (A B : World) (k : Nat) (o : Obj), Mv A B → w.heap.size ≤ k → A.heap[k]? = some o → o.isCells = false → B.heap[k]? = some o)
    (hA0 : ∀ o o', A0 ((w.alloc o).alloc o'))
    (hKt : ∀ {A B C : World}, Kp A B → Kp B C → Kp A C) (hKb : ∀ (W : World) (l : Nat) (o o' : Obj), w.heap.size ≤ l → W.heap[l]? = some o → o.isCells = false → Kp W (W.putObj l o')) (hps : ∀ x, (encs x).size = ps.size)
    (I : List α → World → Prop) (Ix : Code → List α → World → Prop) (hI : OwnFrom w.heap.size I) (hIx : ∀ c, OwnFrom w.heap.size (Ix c))
    (hIM : ∀ s A B, I s A → Mv A B → I s B) (hIxM : ∀ c s A B, Ix c s A → Mv A B → Ix c s B) (h0 : I [] w) (hCt : ∀ pre x W, I (pre ++ [x]) W → Ct x)
    (Ax : Array Value → List α → α → Act → World → Prop) (hAx : ∀ pre x a', OwnFrom w.heap.size (fun (_ : Unit) W => Ax a.tmps pre x a' W))
    (hassign : ∀ (l : Nat) (pre : List α) (x : α) (W : World) (K : Act → World → Prop), I pre W → T (pre ++ [x]) W → (∀ a' W', KeepsFrom w.heap.size W W' → Kp W W' → I pre W' → Ax a.tmps pre x a' W' → K a' W') →
      assign.wpIn (Fence.wide.inRound l) 7 P (Exit.then K (fun _ _ _ => False)) { tmps := (ps.zip (encs x)).foldl (fun t (p, v) => t.setIfInBounds p v) a.tmps, defers := [] } W)
    (hbody : ∀ (l : Nat) (pre : List α) (x : α) (a' : Act) (W : World), w.heap.size ≤ l → (∃ r, W.heap[l]? = some (.loop r)) → I pre W → Ax a.tmps pre x a' W → body.wpIn (Fence.wide.inRound l) 7 P (ownPostG w.heap.size Kp I Ix (pre ++ [x]) W) a' W)
    (hS : OwnFrom w.heap.size S) (hSp : OwnFrom w.heap.size Sp)
    (hdone : ∀ (D : Nat) (xs : List α) (W : World), w.heap.size ≤ D → S xs W → I xs W → W.heap[D]? = some (.deferred (some [])) → Q .normal { a with defers := { target := .collected D, args := #[] } :: a.defers } W)
    (hstop : ∀ (D : Nat) (c : Code) (pre : List α) (W : World), w.heap.size ≤ D → Sp pre W → Ix c pre W → W.heap[D]? = some (.deferred (some [])) → c.wp P Q { a with defers := { target := .collected D, args := #[] } :: a.defers } W) :
    (Code.rangeFunc g ps assign body).wp P Q a w := by
  refine (wpIn_wide (n := 9)).1 ?_
  refine wpIn_rangeFunc ?_
  intro fn hfn
  rw [show Fence.wide.round = none from rfl]
  obtain ⟨rec, hrec⟩ : ∃ rec : LoopState → Option Code → Loop, rec = fun st pe => { state := st, pending := pe, fn, tmps := a.tmps, params := ps, assign, body, defers := w.heap.size } := ⟨_, rfl⟩
  obtain ⟨W1, hW1⟩ : ∃ W1, (w.alloc (.deferred (some []))).alloc (.loop (rec .ready none)) = W1 := ⟨_, rfl⟩
  have hL1 : W1.heap[w.heap.size + 1]? = some (.loop (rec .ready none)) := by
    have h := World.alloc_heap_new (w.alloc (.deferred (some []))) (.loop (rec .ready none))
    rw [World.size_alloc] at h
    rw [← hW1]
    exact h
  have hK1 : W1.heap[w.heap.size]? = some (.deferred (some [])) := by
    rw [← hW1]
    exact (Below.heap_alloc _ _ _ (by simp)).trans (World.alloc_heap_new w _)
  have hI1 : I [] W1 := by rw [← hW1]; exact hI.alloc _ (hI.alloc _ h0)
  have hA1 : A0 W1 := by rw [← hW1]; exact hA0 _ _
  refine ⟨w.heap.size + 1, [{ target := .collected w.heap.size, args := #[] }], W1, { target := .fn (.func gf) lb, args := #[.func (.yield (w.heap.size + 1)) #[] #[]] }, W1, gf,
    #[.func (.yield (w.heap.size + 1)) #[] #[]] ++ lb, W1, ?_, ?_, ?_, ?_, fun _ => by omega, ?_⟩
  · rw [← hW1, hrec]
    exact run_enterLoop_outer _ _ _ _ _
  · simp only [resolve, hg]
    simp [go_sem]
  · intro f' _
    exact trivial
  · simp [invoke, go_sem, eg]
  · refine (hseq (w.heap.size + 1)
      (fun pre W => I pre W ∧ W.heap[w.heap.size + 1]? = some (.loop (rec .ready none)) ∧ W.heap[w.heap.size]? = some (.deferred (some [])))
      (fun pre W => ∃ c, Ix c pre W ∧ W.heap[w.heap.size + 1]? = some (.loop (rec .done (some c))) ∧ W.heap[w.heap.size]? = some (.deferred (some [])))
      W1 hA1
      (fun s A B hs hm => ⟨hIM s A B hs.1 hm, hMv A B _ _ hm (by omega) hs.2.1 rfl, hMv A B _ _ hm (by omega) hs.2.2 rfl⟩)
      (fun s A B hs hm => by
        obtain ⟨c, hc, hl, hk⟩ := hs
        exact ⟨c, hIxM c s A B hc hm, hMv A B _ _ hm (by omega) hl rfl, hMv A B _ _ hm (by omega) hk rfl⟩)
      ?_ ⟨hI1, hL1, hK1⟩).mono ?_
    · rintro pre x W ⟨hi, hl, hk⟩ hT
      have hy := run_yield (P := P) (args := encs x) hl (by rw [hrec]; exact hps x)
      rw [hrec] at hy
      refine ⟨fn, _, assign, body, hy, roundIn_of_wpIn hfn (hassign _ pre x W _ hi hT ?_)⟩
      intro a' Wa hkfa hkpa hia hax
      have hla := hkfa.same _ _ (by omega) hl rfl
      have hka := hkfa.same _ _ (Nat.le_refl _) hk rfl
      have hlt : w.heap.size + 1 < Wa.heap.size := (Array.getElem?_eq_some_iff.1 hla).1
      refine ⟨_, run_beginRound hla (by rw [hrec]), ?_⟩
      have hl2 : (Wa.putObj (w.heap.size + 1) (.loop { rec .ready none with state := .busy })).heap[w.heap.size + 1]? = some (.loop { rec .ready none with state := .busy }) := World.putObj_heap_same hlt
      have hk2 : (Wa.putObj (w.heap.size + 1) (.loop { rec .ready none with state := .busy })).heap[w.heap.size]? = some (.deferred (some [])) := (World.putObj_heap_other (by omega)).trans hka
      have hw2 : Kp Wa (Wa.putObj (w.heap.size + 1) (.loop { rec .ready none with state := .busy })) := hKb _ _ _ _ (by omega) hla rfl
      refine wpIn_mono (hbody _ pre x a' _ (by omega) ⟨_, hl2⟩ (hI.putObj _ hia (by omega) hla rfl) ((hAx pre x a').putObj (s := ()) _ hax (by omega) hla rfl)) ?_
      have fin : ∀ (jump : Option Code) (W3 : World), KeepsFrom w.heap.size (Wa.putObj (w.heap.size + 1) (.loop { rec .ready none with state := .busy })) W3 →
          (Instr.endRound (w.heap.size + 1) jump).run P W3 = .ok (.bool jump.isNone) (W3.putObj (w.heap.size + 1) (.loop (rec (if jump.isNone then .ready else .done) jump))) ∧
          W3.heap[w.heap.size + 1]? = some (.loop { rec .ready none with state := .busy }) ∧
          (W3.putObj (w.heap.size + 1) (.loop (rec (if jump.isNone then .ready else .done) jump))).heap[w.heap.size + 1]? = some (.loop (rec (if jump.isNone then .ready else .done) jump)) ∧
          (W3.putObj (w.heap.size + 1) (.loop (rec (if jump.isNone then .ready else .done) jump))).heap[w.heap.size]? = some (.deferred (some [])) := fun jump W3 hk3 => by
        have hl3 := hk3.same _ _ (by omega) hl2 rfl
        have hr := run_endRound (P := P) jump hl3
        rw [hrec] at hr ⊢
        exact ⟨hr, by rw [hrec] at hl3; exact hl3, World.putObj_heap_same (Array.getElem?_eq_some_iff.1 hl3).1, (World.putObj_heap_other (by omega)).trans (hk3.same _ _ (Nat.le_refl _) hk2 rfl)⟩
      rintro e a3 W3 hp
      cases e with
      | normal =>
        obtain ⟨hk3, hkp3, hi3⟩ := hp
        obtain ⟨hr, hl3, hl4, hk4⟩ := fin none W3 hk3
        exact ⟨_, _, hr, .inl ⟨rfl, hCt _ _ _ hi3, ⟨hI.putObj _ hi3 (by omega) hl3 rfl, hl4, hk4⟩, hKt hkpa (hKt (hKt hw2 hkp3) (hKb _ _ _ _ (by omega) hl3 rfl))⟩⟩
      | ret =>
        obtain ⟨hk3, hi3⟩ := hp
        obtain ⟨hr, hl3, hl4, hk4⟩ := fin (some .ret) W3 hk3
        exact ⟨_, _, hr, .inr ⟨rfl, .ret, (hIx _).putObj _ hi3 (by omega) hl3 rfl, hl4, hk4⟩⟩
      | exit id =>
        obtain ⟨hk3, hi3⟩ := hp
        obtain ⟨hr, hl3, hl4, hk4⟩ := fin (some (.exit id)) W3 hk3
        exact ⟨_, _, hr, .inr ⟨rfl, .exit id, (hIx _).putObj _ hi3 (by omega) hl3 rfl, hl4, hk4⟩⟩
      | goto t =>
        obtain ⟨hk3, hi3⟩ := hp
        obtain ⟨hr, hl3, hl4, hk4⟩ := fin (some (.goto t)) W3 hk3
        exact ⟨_, _, hr, .inr ⟨rfl, .goto t, (hIx _).putObj _ hi3 (by omega) hl3 rfl, hl4, hk4⟩⟩
      | panic ch => exact hp.elim
      | outgrown => exact hp.elim
    · rintro e W2 ⟨⟨v, rfl⟩, (⟨xs, hs, hi, hl, hk⟩ | ⟨pre, hs, c, hi, hl, hk⟩)⟩
      · exact ⟨none, _, by have h := run_endLoop (P := P) hl (by rw [hrec]; simp); rw [hrec] at h; exact h, hdone _ xs _ (Nat.le_refl _) (hS.putObj _ hs (by omega) hl rfl) (hI.putObj _ hi (by omega) hl rfl) ((World.putObj_heap_other (by omega)).trans hk)⟩
      · exact ⟨some c, _, by have h := run_endLoop (P := P) hl (by rw [hrec]; simp); rw [hrec] at h; exact h, wpIn_wide.2 (hstop _ c pre _ (Nat.le_refl _) (hSp.putObj _ hs (by omega) hl rfl) ((hIx c).putObj _ hi (by omega) hl rfl) ((World.putObj_heap_other (by omega)).trans hk))⟩
end Go.Proofs.YtflkmhgbinlfiaaGreatDoor
