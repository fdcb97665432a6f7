/- The texts JrE, RangeA, JrF, put together. -/
import Derived.Test.YtfckekaegjjmkaaGreatDoorPi23
import Derived.Test.YtfckekaegjjmkaaGreatDoorPi06
import Derived.Test.YtfckekaegjjmkaaGreatDoorPi10
namespace Go.Proofs.YtfckekaegjjmkaaGreatDoor
open Go.RowKit Go.Shelf
attribute [local go_sem] Oper.semAt_some

theorem colon_take (t : Tr) (l : List UInt8) : colonJ t l = if (takeJ [58] (spJ l)).1 = true then .good t (spJ (takeJ [58] (spJ l)).2) else .bad 80 := by
  unfold colonJ takeJ
  cases h : spJ l with
  | nil => rfl
  | cons c r =>
    by_cases hc : c = 58
    · subst hc
      simp
    · simp [hc]
theorem spJ_len (l : List UInt8) : (spJ l).length ≤ l.length := by
  unfold spJ
  exact (List.dropWhile_suffix _).length_le
theorem textJ_bad {l : List UInt8} {e : Int} (h : textJ uqJ l = .bad e) : e = 80 := by
  unfold textJ at h
  split at h
  · cases h
  · injection h with h
    exact h.symm
theorem textJ_good {l r : List UInt8} {t : Tr} (h : textJ uqJ l = .good t r) : ∃ s, t = .nd { zeroO with kind := 5, s := s } [] := by
  unfold textJ at h
  split at h
  · injection h with h _
    exact ⟨_, h.symm⟩
  · cases h
set_option maxHeartbeats 4000000 in
set_option maxRecDepth 100000 in
theorem jr_member {w0 : World} {uT uQ : Addr} (hU : UW w0 uT uQ) (p d D : Nat) (s : ByteArray) (w : World) (hb0 : Below w0.heap.size w0 w) (hR : RdJ w p s d) (hs : s.size ≤ 1000000000) :
    Calls Tryz.prog 214 #[.pointer (some ⟨p, 0, none⟩)] w (ReadJ p d D w s (memberJ uqJ s.data.toList)) := by
  have hk1 := Blk.new w zeroC 27
  have hr1 := hR.alloc (.cells zeroC 27)
  have hb1 : Below w.heap.size w (w.alloc (.cells zeroC 27)) := (Below.refl _ w).alloc (Nat.le_refl _) _
  have hplt := hR.lt
  have hz1 : (w.alloc (.cells zeroC 27)).heap.size = w.heap.size + 1 := by simp
  have HT := jr_text hU p d D s (w.alloc (.cells zeroC 27)) (hb0.trans (hb1.mono hb0.size)) hr1 hs
  have HS := Lib.hid (fun d s W (h : RdJ W p s d) (hz : s.size ≤ 1000000000) => jr_space p d s W h hz)
  have HK := Lib.hid (fun s W (h : RdJ W p s d) => jr_take p d s ⟨#[58]⟩ W h)
  unfold memberJ bindP
  clear hU hb0
  cases hx : textJ uqJ s.data.toList with
  | bad e =>
    have he := textJ_bad hx
    subst he
    rw [hx] at HT
    simp only []
    have HT : Hid (Calls Tryz.prog 115 #[.pointer (some ⟨p, 0, none⟩)] (w.alloc (.cells zeroC 27)) fun x w' => (w.alloc (.cells zeroC 27)).grownBy w' (some p) ∧ (x = .returned (.tuple #[.agg zeroC, errJ 80]) ∧ ((80 : Int) = 60 ∨ (80 : Int) = 80)) ∧ ∃ s' d', RdJ w' p s' d' ∧ s'.size ≤ s.size) := Lib.hid HT
    clear hx
    go_enter Tryz.func214, Tryz.ntmps214
    go_wp2_with fail
    refine HT.out.mono ?_
    rintro x w3 ⟨hg3, ⟨rfl, _⟩, s', d', hr3, hs3⟩
    have hk3 := (blk_gb hk1 hg3 (by omega)).alloc (.cells zeroC 27)
    have hr4 := hr3.alloc (.cells zeroC 27)
    have hg4 : w.grownBy (w3.alloc (.cells zeroC 27)) (some p) := grown_of (grown_trans (below_grown hb1 _) hg3) ((Below.refl _ _).alloc (Nat.le_refl _) _)
    go_wp2_with fail
    refine (HS.out d' s' _ hr4 (by omega)).mono ?_
    rintro x w5 ⟨⟨v5, rfl⟩, hg5, hr5⟩
    have hk5 := blk_gb hk3 hg5 (by omega)
    have hg6 := grown_trans hg4 hg5
    unfold errJ
    go_wp2_with fail
    refine (jr_bad _).mono ?_
    rintro e w6 ⟨rfl, rfl⟩
    go_wp2_with (refine wpList_store_row rfl 27 (.tmp 2) (.tmp 20) rfl (w.heap.size) zeroC rfl rfl 27 _ hk5 (by kernel_rfl) rfl (by simp [Value.oneCell']) ?_)
    refine bodyPost_ret (results_cell (T := 27) rfl rfl rfl (blk_row hk5 zeroC) Tryz.underlying27 rfl (by kernel_rfl)) rfl ?_
    have hl := spJ_len s'.data.toList
    have hsl : s'.data.toList.length = s'.size := by simp
    exact ⟨grown_at hg6 (grown_row _ _ _) (by omega), ⟨rfl, .inr rfl⟩, _, d', blk_row_other hr5 (by omega) _, by rw [bsD_size]; omega⟩
  | good t r =>
    obtain ⟨sx, rfl⟩ := textJ_good hx
    rw [hx] at HT
    simp only []
    have HT : Hid (Calls Tryz.prog 115 #[.pointer (some ⟨p, 0, none⟩)] (w.alloc (.cells zeroC 27)) fun x w' => (w.alloc (.cells zeroC 27)).grownBy w' (some p) ∧ (∃ A n c, x = .returned (.tuple #[.agg #[.int .i64 5, .bool false, .bool false, .string ⟨#[]⟩, .int .i64 0, .int .u64 0, .int .i64 0, .string sx, .slice A n c], .nilIface]) ∧ LAt w' (fun q => (w.alloc (.cells zeroC 27)).heap.size ≤ q ∧ q < w'.heap.size) D [] (.slice A n c)) ∧ OwnOk { zeroO with kind := 5, s := sx } ∧ RdJ w' p (bsD r) d ∧ r.length ≤ s.size) := Lib.hid HT
    rw [colon_take]
    have hl1 := spJ_len r
    have hl2 := takeJ_len [58] (spJ r)
    have HK2 := Lib.hid (fun W (h : RdJ W p (bsD (spJ r)) d) => HK.out (bsD (spJ r)) W h)
    obtain ⟨⟨b, r2⟩, hx2⟩ : ∃ x, takeJ [58] (spJ r) = x := ⟨_, rfl⟩
    have HK2 : Hid (∀ W, RdJ W p (bsD (spJ r)) d → Calls Tryz.prog 182 #[.pointer (some ⟨p, 0, none⟩), .string ⟨#[58]⟩] W fun e w' => e = .returned (.bool b) ∧ W.grownBy w' (some p) ∧ RdJ w' p (bsD r2) d) := Lib.hid (fun W h => by
      have := HK2.out W h
      rw [bsD_list, show (⟨#[58]⟩ : ByteArray).data.toList = [58] from rfl, hx2] at this
      exact this)
    rw [hx2] at hl2 ⊢
    simp only [] at hl2 ⊢
    clear hx hx2 HK
    cases b with
    | false =>
      simp only [Bool.false_eq_true, if_false]
      go_enter Tryz.func214, Tryz.ntmps214
      go_wp2_with fail
      refine HT.out.mono ?_
      rintro x w3 ⟨hg3, ⟨A, n, c, rfl, hly⟩, hot, hr3, hs3⟩
      have hk3 := (blk_gb hk1 hg3 (by omega)).alloc (.cells #[.int .i64 5, .bool false, .bool false, .string ⟨#[]⟩, .int .i64 0, .int .u64 0, .int .i64 0, .string sx, .slice A n c] 27)
      have hr4 := hr3.alloc (.cells #[.int .i64 5, .bool false, .bool false, .string ⟨#[]⟩, .int .i64 0, .int .u64 0, .int .i64 0, .string sx, .slice A n c] 27)
      have hx4 := Blk.new w3 #[.int .i64 5, .bool false, .bool false, .string ⟨#[]⟩, .int .i64 0, .int .u64 0, .int .i64 0, .string sx, .slice A n c] 27
      have hg4 : w.grownBy (w3.alloc (.cells #[.int .i64 5, .bool false, .bool false, .string ⟨#[]⟩, .int .i64 0, .int .u64 0, .int .i64 0, .string sx, .slice A n c] 27)) (some p) := grown_of (grown_trans (below_grown hb1 _) hg3) ((Below.refl _ _).alloc (Nat.le_refl _) _)
      have HLY := Lib.hid hly
      clear hly
      go_wp2_with fail
      refine (HS.out d (bsD r) _ hr4 (by rw [bsD_size]; omega)).mono ?_
      rintro x w5 ⟨⟨v5, rfl⟩, hg5, hr5⟩
      rw [bsD_list] at hr5
      have hk5 := blk_gb hk3 hg5 (by omega)
      have hx5 := blk_gb hx4 hg5 (by have := hr3.lt; omega)
      have hg6 := grown_trans hg4 hg5
      have hz5 := hg5.size
      go_wp2_with fail
      refine (HK2.out _ hr5).mono ?_
      rintro x w7 ⟨rfl, hgx, hr7⟩
      have hk7 := blk_gb hk5 hgx (by omega)
      have hx7 := blk_gb hx5 hgx (by have := hr3.lt; omega)
      have hg7 := grown_trans hg6 hgx
      go_wp2_with fail
      refine (jr_bad _).mono ?_
      rintro e w8 ⟨rfl, rfl⟩
      go_wp2_with (refine wpList_store_row rfl 27 (.tmp 2) (.tmp 20) rfl (w.heap.size) zeroC rfl rfl 27 _ hk7 (by kernel_rfl) rfl (by simp [Value.oneCell']) ?_)
      refine bodyPost_ret (results_cell (T := 27) rfl rfl rfl (blk_row hk7 zeroC) Tryz.underlying27 rfl (by kernel_rfl)) rfl ?_
      exact ⟨grown_at hg7 (grown_row _ _ _) (by omega), ⟨rfl, .inr rfl⟩, _, d, blk_row_other hr7 (by omega) _, by rw [bsD_size]; omega⟩
    | true =>
      simp only [if_true]
      have hl3 := spJ_len r2
      go_enter Tryz.func214, Tryz.ntmps214
      go_wp2_with fail
      refine HT.out.mono ?_
      rintro x w3 ⟨hg3, ⟨A, n, c, rfl, hly⟩, hot, hr3, hs3⟩
      have hk3 := (blk_gb hk1 hg3 (by omega)).alloc (.cells #[.int .i64 5, .bool false, .bool false, .string ⟨#[]⟩, .int .i64 0, .int .u64 0, .int .i64 0, .string sx, .slice A n c] 27)
      have hr4 := hr3.alloc (.cells #[.int .i64 5, .bool false, .bool false, .string ⟨#[]⟩, .int .i64 0, .int .u64 0, .int .i64 0, .string sx, .slice A n c] 27)
      have hx4 := Blk.new w3 #[.int .i64 5, .bool false, .bool false, .string ⟨#[]⟩, .int .i64 0, .int .u64 0, .int .i64 0, .string sx, .slice A n c] 27
      have hg4 : w.grownBy (w3.alloc (.cells #[.int .i64 5, .bool false, .bool false, .string ⟨#[]⟩, .int .i64 0, .int .u64 0, .int .i64 0, .string sx, .slice A n c] 27)) (some p) := grown_of (grown_trans (below_grown hb1 _) hg3) ((Below.refl _ _).alloc (Nat.le_refl _) _)
      have HLY := Lib.hid hly
      clear hly
      go_wp2_with fail
      refine (HS.out d (bsD r) _ hr4 (by rw [bsD_size]; omega)).mono ?_
      rintro x w5 ⟨⟨v5, rfl⟩, hg5, hr5⟩
      rw [bsD_list] at hr5
      have hk5 := blk_gb hk3 hg5 (by omega)
      have hx5 := blk_gb hx4 hg5 (by have := hr3.lt; omega)
      have hg6 := grown_trans hg4 hg5
      have hz5 := hg5.size
      go_wp2_with fail
      refine (HK2.out _ hr5).mono ?_
      rintro x w7 ⟨rfl, hgx, hr7⟩
      have hk7 := blk_gb hk5 hgx (by omega)
      have hx7 := blk_gb hx5 hgx (by have := hr3.lt; omega)
      have hg7 := grown_trans hg6 hgx
      go_wp2_with fail
      refine (HS.out d (bsD r2) _ hr7 (by rw [bsD_size]; omega)).mono ?_
      rintro x w8 ⟨⟨v8, rfl⟩, hg8, hr8⟩
      have hk8 := blk_gb hk7 hg8 (by omega)
      have hx8 := blk_gb hx7 hg8 (by have := hr3.lt; omega)
      have hgA := grown_trans hg7 hg8
      have hz8 := hg8.size
      go_wp2_with (first | (refine wpList_load_row rfl 27 (.tmp 4) rfl (w3.heap.size) rfl 27 _ (0, 0) _ hx8 Tryz.underlying27 rfl (by kernel_rfl) ?_) | (refine wpList_store_row rfl 27 (.tmp 2) (.tmp 24) rfl (w.heap.size) #[.int .i64 5, .bool false, .bool false, .string ⟨#[]⟩, .int .i64 0, .int .u64 0, .int .i64 0, .string sx, .slice A n c] rfl rfl 27 _ hk8 (by kernel_rfl) rfl (by simp [Value.oneCell']) ?_))
      refine bodyPost_ret (results_cell (T := 27) rfl rfl rfl (blk_row hk8 _) Tryz.underlying27 rfl (by kernel_rfl)) rfl ?_
      refine ⟨grown_at hgA (grown_row _ _ _) (by omega), ⟨A, n, c, rfl, ?_⟩, hot, blk_row_other hr8 (by omega) _, by omega⟩
      obtain ⟨hn0, hn1⟩ := HLY.out.slice
      obtain ⟨A', c', hn1⟩ := hn1
      injection hn1 with _ hn1 _
      subst hn1
      exact LAt.nil _ _ _ _ _
end Go.Proofs.YtfckekaegjjmkaaGreatDoor
namespace Go.Proofs.YtfckekaegjjmkaaGreatDoor
open Go.RowKit Go.Shelf

/-- The contract of an iterator that may write between two rounds. -/
def SeqA {α : Type} (P : Program) (g : Nat) (lb : Array Value) (encs : α → Array Value) (Mv Kp : World → World → Prop) (Ct : α → Prop) (T : List α → World → World → Prop) (S Sp : List α → World → Prop) (A0 : World → Prop) : Prop :=
  ∀ (l : Nat) (J Jx : List α → World → Prop) (W : World), A0 W → (∀ s A B, J s A → Mv A B → J s B) → (∀ s A B, Jx s A → Mv A B → Jx s B) →
    (∀ pre x A W1, J pre A → Mv A W1 → J pre W1 → T (pre ++ [x]) A W1 → YieldAt Fence.wide 7 P l (encs x) W1 fun e W' =>
      (e = .returned (.bool true) ∧ Ct x ∧ J (pre ++ [x]) W' ∧ Kp W1 W') ∨ (e = .returned (.bool false) ∧ Jx (pre ++ [x]) W')) →
    J [] W →
    CallsIn Fence.wide 8 P g (#[.func (.yield l) #[] #[]] ++ lb) W fun e W' => (∃ v, e = .returned v) ∧ ((∃ xs, S xs W' ∧ J xs W') ∨ (∃ pre, Sp pre W' ∧ Jx pre W'))

/-- The statement, outside every fence. -/
theorem wp_rangeFuncA {P : Program} {α : Type} {g : Operand} {ps : Array Tmp} {assign body : Code} {Q : Exit → Act → World → Prop} {a : Act} {w : World}
    {gf : Nat} {lb : Array Value} (hg : a.eval g = .func (.func gf) #[] lb) (eg : ∀ args w, (callFunc gf args).run P w = .ok (.enter gf args) w)
    {encs : α → Array Value} {Mv Kp : World → World → Prop} {Ct : α → Prop} {T : List α → World → World → Prop} {S Sp : List α → World → Prop} {A0 : World → Prop} (hseq : SeqA P gf lb encs Mv Kp Ct T S Sp A0)
    (hMv : ∀ (A B : World) (k : Nat) (o : Obj), Mv A B → w.heap.size ≤ k → A.heap[k]? = some o → o.isCells = false → B.heap[k]? = some o)
    (hA0 : ∀ o o', A0 ((w.alloc o).alloc o'))
    (hKt : ∀ {A B C : World}, Kp A B → Kp B C → Kp A C) (hKb : ∀ (W : World) (l : Nat) (o o' : Obj), w.heap.size ≤ l → W.heap[l]? = some o → o.isCells = false → Kp W (W.putObj l o')) (hps : ∀ x, (encs x).size = ps.size)
    (I : List α → World → Prop) (Ix : Code → List α → World → Prop) (hI : OwnFrom w.heap.size I) (hIx : ∀ c, OwnFrom w.heap.size (Ix c))
    (hIM : ∀ s A B, I s A → Mv A B → I s B) (hIxM : ∀ c s A B, Ix c s A → Mv A B → Ix c s B) (h0 : I [] w) (hCt : ∀ pre x W, I (pre ++ [x]) W → Ct x)
    (Ax : Array Value → List α → α → Act → World → Prop) (hAx : ∀ pre x a', OwnFrom w.heap.size (fun (_ : Unit) W => Ax a.tmps pre x a' W))
    (hassign : ∀ (l : Nat) (pre : List α) (x : α) (A W : World) (K : Act → World → Prop), I pre A → Mv A W → I pre W → T (pre ++ [x]) A W → (∀ a' W', KeepsFrom w.heap.size W W' → Kp W W' → I pre W' → Ax a.tmps pre x a' W' → K a' W') →
      assign.wpIn (Fence.wide.inRound l) 7 P (Exit.then K (fun _ _ _ => False)) { tmps := (ps.zip (encs x)).foldl (fun t (p, v) => t.setIfInBounds p v) a.tmps, defers := [] } W)
    (hbody : ∀ (l : Nat) (pre : List α) (x : α) (a' : Act) (W : World), w.heap.size ≤ l → (∃ r, W.heap[l]? = some (.loop r)) → I pre W → Ax a.tmps pre x a' W → body.wpIn (Fence.wide.inRound l) 7 P (ownPostG w.heap.size Kp I Ix (pre ++ [x]) W) a' W)
    (hS : OwnFrom w.heap.size S) (hSp : OwnFrom w.heap.size Sp)
    (hdone : ∀ (D : Nat) (xs : List α) (W : World), w.heap.size ≤ D → S xs W → I xs W → W.heap[D]? = some (.deferred (some [])) → Q .normal { a with defers := { target := .collected D, args := #[] } :: a.defers } W)
    (hstop : ∀ (D : Nat) (c : Code) (pre : List α) (W : World), w.heap.size ≤ D → Sp pre W → Ix c pre W → W.heap[D]? = some (.deferred (some [])) → c.wp P Q { a with defers := { target := .collected D, args := #[] } :: a.defers } W) :
    (Code.rangeFunc g ps assign body).wp P Q a w := by
  refine (wpIn_wide (n := 9)).1 ?_
  refine wpIn_rangeFunc ?_
  intro fn hfn
  rw [show Fence.wide.round = none from rfl]
  obtain ⟨rec, hrec⟩ : ∃ rec : LoopState → Option Code → Loop, rec = fun st pe => { state := st, pending := pe, fn, tmps := a.tmps, params := ps, assign, body, defers := w.heap.size } := ⟨_, rfl⟩
  obtain ⟨W1, hW1⟩ : ∃ W1, (w.alloc (.deferred (some []))).alloc (.loop (rec .ready none)) = W1 := ⟨_, rfl⟩
  have hL1 : W1.heap[w.heap.size + 1]? = some (.loop (rec .ready none)) := by
    have h := World.alloc_heap_new (w.alloc (.deferred (some []))) (.loop (rec .ready none))
    rw [World.size_alloc] at h
    rw [← hW1]
    exact h
  have hK1 : W1.heap[w.heap.size]? = some (.deferred (some [])) := by
    rw [← hW1]
    exact (Below.heap_alloc _ _ _ (by simp)).trans (World.alloc_heap_new w _)
  have hI1 : I [] W1 := by rw [← hW1]; exact hI.alloc _ (hI.alloc _ h0)
  have hA1 : A0 W1 := by rw [← hW1]; exact hA0 _ _
  refine ⟨w.heap.size + 1, [{ target := .collected w.heap.size, args := #[] }], W1, { target := .fn (.func gf) lb, args := #[.func (.yield (w.heap.size + 1)) #[] #[]] }, W1, gf,
    #[.func (.yield (w.heap.size + 1)) #[] #[]] ++ lb, W1, ?_, ?_, ?_, ?_, fun _ => by omega, ?_⟩
  · rw [← hW1, hrec]
    exact run_enterLoop_outer _ _ _ _ _
  · simp only [resolve, hg]
    simp [go_sem]
  · intro f' _
    exact trivial
  · simp [invoke, go_sem, eg]
  · refine (hseq (w.heap.size + 1)
      (fun pre W => I pre W ∧ W.heap[w.heap.size + 1]? = some (.loop (rec .ready none)) ∧ W.heap[w.heap.size]? = some (.deferred (some [])))
      (fun pre W => ∃ c, Ix c pre W ∧ W.heap[w.heap.size + 1]? = some (.loop (rec .done (some c))) ∧ W.heap[w.heap.size]? = some (.deferred (some [])))
      W1 hA1
      (fun s A B hs hm => ⟨hIM s A B hs.1 hm, hMv A B _ _ hm (by omega) hs.2.1 rfl, hMv A B _ _ hm (by omega) hs.2.2 rfl⟩)
      (fun s A B hs hm => by
        obtain ⟨c, hc, hl, hk⟩ := hs
        exact ⟨c, hIxM c s A B hc hm, hMv A B _ _ hm (by omega) hl rfl, hMv A B _ _ hm (by omega) hk rfl⟩)
      ?_ ⟨hI1, hL1, hK1⟩).mono ?_
    · rintro pre x A W ⟨hiA, _, _⟩ hmv ⟨hi, hl, hk⟩ hT
      have hy := run_yield (P := P) (args := encs x) hl (by rw [hrec]; exact hps x)
      rw [hrec] at hy
      refine ⟨fn, _, assign, body, hy, roundIn_of_wpIn hfn (hassign _ pre x A W _ hiA hmv hi hT ?_)⟩
      intro a' Wa hkfa hkpa hia hax
      have hla := hkfa.same _ _ (by omega) hl rfl
      have hka := hkfa.same _ _ (Nat.le_refl _) hk rfl
      have hlt : w.heap.size + 1 < Wa.heap.size := (Array.getElem?_eq_some_iff.1 hla).1
      refine ⟨_, run_beginRound hla (by rw [hrec]), ?_⟩
      have hl2 : (Wa.putObj (w.heap.size + 1) (.loop { rec .ready none with state := .busy })).heap[w.heap.size + 1]? = some (.loop { rec .ready none with state := .busy }) := World.putObj_heap_same hlt
      have hk2 : (Wa.putObj (w.heap.size + 1) (.loop { rec .ready none with state := .busy })).heap[w.heap.size]? = some (.deferred (some [])) := (World.putObj_heap_other (by omega)).trans hka
      have hw2 : Kp Wa (Wa.putObj (w.heap.size + 1) (.loop { rec .ready none with state := .busy })) := hKb _ _ _ _ (by omega) hla rfl
      refine wpIn_mono (hbody _ pre x a' _ (by omega) ⟨_, hl2⟩ (hI.putObj _ hia (by omega) hla rfl) ((hAx pre x a').putObj (s := ()) _ hax (by omega) hla rfl)) ?_
      have fin : ∀ (jump : Option Code) (W3 : World), KeepsFrom w.heap.size (Wa.putObj (w.heap.size + 1) (.loop { rec .ready none with state := .busy })) W3 →
          (Instr.endRound (w.heap.size + 1) jump).run P W3 = .ok (.bool jump.isNone) (W3.putObj (w.heap.size + 1) (.loop (rec (if jump.isNone then .ready else .done) jump))) ∧
          W3.heap[w.heap.size + 1]? = some (.loop { rec .ready none with state := .busy }) ∧
          (W3.putObj (w.heap.size + 1) (.loop (rec (if jump.isNone then .ready else .done) jump))).heap[w.heap.size + 1]? = some (.loop (rec (if jump.isNone then .ready else .done) jump)) ∧
          (W3.putObj (w.heap.size + 1) (.loop (rec (if jump.isNone then .ready else .done) jump))).heap[w.heap.size]? = some (.deferred (some [])) := fun jump W3 hk3 => by
        have hl3 := hk3.same _ _ (by omega) hl2 rfl
        have hr := run_endRound (P := P) jump hl3
        rw [hrec] at hr ⊢
        exact ⟨hr, by rw [hrec] at hl3; exact hl3, World.putObj_heap_same (Array.getElem?_eq_some_iff.1 hl3).1, (World.putObj_heap_other (by omega)).trans (hk3.same _ _ (Nat.le_refl _) hk2 rfl)⟩
      rintro e a3 W3 hp
      cases e with
      | normal =>
        obtain ⟨hk3, hkp3, hi3⟩ := hp
        obtain ⟨hr, hl3, hl4, hk4⟩ := fin none W3 hk3
        exact ⟨_, _, hr, .inl ⟨rfl, hCt _ _ _ hi3, ⟨hI.putObj _ hi3 (by omega) hl3 rfl, hl4, hk4⟩, hKt hkpa (hKt (hKt hw2 hkp3) (hKb _ _ _ _ (by omega) hl3 rfl))⟩⟩
      | ret =>
        obtain ⟨hk3, hi3⟩ := hp
        obtain ⟨hr, hl3, hl4, hk4⟩ := fin (some .ret) W3 hk3
        exact ⟨_, _, hr, .inr ⟨rfl, .ret, (hIx _).putObj _ hi3 (by omega) hl3 rfl, hl4, hk4⟩⟩
      | exit id =>
        obtain ⟨hk3, hi3⟩ := hp
        obtain ⟨hr, hl3, hl4, hk4⟩ := fin (some (.exit id)) W3 hk3
        exact ⟨_, _, hr, .inr ⟨rfl, .exit id, (hIx _).putObj _ hi3 (by omega) hl3 rfl, hl4, hk4⟩⟩
      | goto t =>
        obtain ⟨hk3, hi3⟩ := hp
        obtain ⟨hr, hl3, hl4, hk4⟩ := fin (some (.goto t)) W3 hk3
        exact ⟨_, _, hr, .inr ⟨rfl, .goto t, (hIx _).putObj _ hi3 (by omega) hl3 rfl, hl4, hk4⟩⟩
      | panic ch => exact hp.elim
      | outgrown => exact hp.elim
    · rintro e W2 ⟨⟨v, rfl⟩, (⟨xs, hs, hi, hl, hk⟩ | ⟨pre, hs, c, hi, hl, hk⟩)⟩
      · exact ⟨none, _, by have h := run_endLoop (P := P) hl (by rw [hrec]; simp); rw [hrec] at h; exact h, hdone _ xs _ (Nat.le_refl _) (hS.putObj _ hs (by omega) hl rfl) (hI.putObj _ hi (by omega) hl rfl) ((World.putObj_heap_other (by omega)).trans hk)⟩
      · exact ⟨some c, _, by have h := run_endLoop (P := P) hl (by rw [hrec]; simp); rw [hrec] at h; exact h, wpIn_wide.2 (hstop _ c pre _ (Nat.le_refl _) (hSp.putObj _ hs (by omega) hl rfl) ((hIx c).putObj _ hi (by omega) hl rfl) ((World.putObj_heap_other (by omega)).trans hk))⟩
end Go.Proofs.YtfckekaegjjmkaaGreatDoor
namespace Go.Proofs.YtfckekaegjjmkaaGreatDoor
open Go.RowKit Go.Shelf

/-- What a list's iterator yields: a node; an error. -/
inductive EvJ where
  | ok (t : Tr) (v : Value)
  | no (e : Int)
def EvJ.enc : EvJ → Array Value
  | .ok t v => #[nodeV t.own v, .nilIface]
  | .no e => #[zeroJ, errJ e]
def EvJ.tree : EvJ → List Tr
  | .ok t _ => [t]
  | .no _ => []
def EvJ.isOk : EvJ → Prop
  | .ok _ _ => True
  | .no _ => False
/-- The trees of what was yielded. -/
def treesJ (l : List EvJ) : List Tr := l.flatMap EvJ.tree
theorem treesJ_snoc (l : List EvJ) (t : Tr) (v : Value) : treesJ (l ++ [.ok t v]) = treesJ l ++ [t] := by
  unfold treesJ
  rw [List.flatMap_append]
  rfl
theorem treesJ_len : ∀ {l : List EvJ}, (∀ x ∈ l, x.isOk) → (treesJ l).length = l.length
  | [], _ => rfl
  | .ok t v :: l, h => by
    have := treesJ_len (l := l) (fun x hx => h x (by simp [hx]))
    unfold treesJ at this ⊢
    rw [List.flatMap_cons, List.length_append, this, List.length_cons]
    show 1 + _ = _
    omega
  | .no e :: l, h => (h (.no e) (by simp)).elim
theorem ok_snoc {pre : List EvJ} (h : ∀ x ∈ pre, x.isOk) (t : Tr) (v : Value) : ∀ x ∈ pre ++ [EvJ.ok t v], x.isOk := fun x hx => by
  rcases List.mem_append.1 hx with h1 | h1
  · exact h x h1
  · rw [List.mem_singleton.1 h1]
    exact trivial
/-- The reader is there. -/
def RdXJ (p sz : Nat) (W : World) : Prop := ∃ s' d', RdJ W p s' d' ∧ s'.size ≤ sz
/-- What the iterator may do between two rounds: write the reader, and its own node (block m). -/
structure MvJ (p m sz : Nat) (A B : World) : Prop where
  os : B.os = A.os
  tape : B.tape = A.tape
  output : B.output = A.output
  size : A.heap.size ≤ B.heap.size
  kept : ∀ (k : Nat) (o : Obj), A.heap[k]? = some o → k ≠ p → (k = m → o.isCells = false) → B.heap[k]? = some o
  rd : RdXJ p sz A → RdXJ p sz B
theorem MvJ.trans {p m sz : Nat} {A B C : World} (h : MvJ p m sz A B) (k : MvJ p m sz B C) : MvJ p m sz A C :=
  ⟨k.os.trans h.os, k.tape.trans h.tape, k.output.trans h.output, Nat.le_trans h.size k.size, fun i o ho hp hm => k.kept i o (h.kept i o ho hp hm) hp hm, fun x => k.rd (h.rd x)⟩
theorem MvJ.of_below {p m sz : Nat} {A B : World} (h : Below A.heap.size A B) : MvJ p m sz A B :=
  ⟨h.os, h.tape, h.output, h.size, fun k _ ho _ _ => (h.block k (Array.getElem?_eq_some_iff.1 ho).1).trans ho, fun ⟨s', d', h1, h2⟩ => ⟨s', d', h1.below h h1.lt, h2⟩⟩
theorem MvJ.to {p m sz : Nat} {A B : World} {s' : ByteArray} {d' : Nat} (h : A.grownBy B (some p)) (hr : RdJ B p s' d') (hs : s'.size ≤ sz) : MvJ p m sz A B :=
  ⟨h.os, h.tape, h.output, h.size, fun k _ ho hp _ => (h.block k (Array.getElem?_eq_some_iff.1 ho).1 (fun e => hp (by injection e))).trans ho, fun _ => ⟨s', d', hr, hs⟩⟩
theorem MvJ.row {p m sz : Nat} {A : World} {cs : Array Value} {t : TypeId} (hk : Blk A m cs t) (hpm : p ≠ m) (cs' : Array Value) : MvJ p m sz A (A.setRow m cs') := by
  have hg := grown_row A m cs'
  refine ⟨hg.os, hg.tape, hg.output, hg.size, fun k o ho hp hm => ?_, fun ⟨s', d', h1, h2⟩ => ⟨s', d', blk_row_other h1 hpm _, h2⟩⟩
  by_cases h : k = m
  · subst h
    rw [show A.heap[k]? = _ from hk] at ho
    cases ho
    exact absurd (hm rfl) (by simp [Obj.isCells])
  · exact (setRow_other _ _ _ _ h).trans ho
theorem MvJ.blk {p m sz : Nat} {A B : World} (h : MvJ p m sz A B) {k : Nat} {cs : Array Value} {t : TypeId} (hk : Blk A k cs t) (hp : k ≠ p) (hm : k ≠ m) : Blk B k cs t := h.kept k _ hk hp (fun e => absurd e hm)
theorem MvJ.same {p m sz : Nat} {A B : World} (h : MvJ p m sz A B) {k : Nat} (hk : k < A.heap.size) (hp : k ≠ p) (hm : k ≠ m) : B.heap[k]? = A.heap[k]? := by
  have ho : A.heap[k]? = some (A.heap[k]'hk) := Array.getElem?_eq_getElem hk
  rw [ho]
  exact h.kept k _ ho hp (fun e => absurd e hm)
theorem MvJ.grown {p m sz : Nat} {w A B : World} (h : MvJ p m sz A B) (hg : w.grownBy A (some p)) (hm : w.heap.size ≤ m) : w.grownBy B (some p) :=
  ⟨h.os.trans hg.os, h.tape.trans hg.tape, h.output.trans hg.output, Nat.le_trans hg.size h.size, fun k hk hp => (h.same (Nat.lt_of_lt_of_le hk hg.size) (fun e => hp (by rw [e])) (by omega)).trans (hg.block k hk hp)⟩
theorem MvJ.under {p m sz n : Nat} {w A B : World} (h : MvJ p m sz A B) (hb : Below n w A) (hn : n ≤ w.heap.size) (hp : n ≤ p) (hm : n ≤ m) : Below n w B := by
  refine ⟨h.os.trans hb.os, h.tape.trans hb.tape, h.output.trans hb.output, Nat.le_trans hb.size h.size, fun k hk => ?_⟩
  have := hb.size
  exact (h.same (by omega) (by omega) (by omega)).trans (hb.block k hk)
/-- What is told at a yield: the node's memory; how many there may be. -/
def NodesT (p n d sz : Nat) (pre : List EvJ) (W : World) : Prop := pre.length ≤ sz + 1 ∧ ∀ xs x, pre = xs ++ [x] → match x with
  | .ok t v => (∃ A m c, v = .slice A m c) ∧ LAt W (fun q => n ≤ q ∧ q < W.heap.size) d t.kids v ∧ OwnOk t.own ∧ xs.length + 1 ≤ sz
  | .no e => (e = 60 ∨ e = 80) ∧ RdXJ p sz W
def NodesS (p dp sz : Nat) (res : PR (List Tr)) (xs : List EvJ) (W : World) : Prop := (∀ x ∈ xs, x.isOk) ∧ ∃ r, res = .good (treesJ xs) r ∧ RdJ W p (bsD r) dp ∧ r.length ≤ sz
def NodesSp (res : PR (List Tr)) (pre : List EvJ) (_ : World) : Prop := (∃ xs e, pre = xs ++ [.no e] ∧ res = .bad e ∧ (e = 60 ∨ e = 80)) ∨ (∀ x ∈ pre, x.isOk)
/-- What a round must keep. -/
def NodesKp (n bP bE bM m : Nat) (A B : World) : Prop := Below n A B ∧ (bP < A.heap.size → B.heap[bP]? = A.heap[bP]?) ∧ (bE < A.heap.size → B.heap[bE]? = A.heap[bE]?) ∧ (bM < A.heap.size → B.heap[bM]? = A.heap[bM]?) ∧ (∀ o : Obj, A.heap[m]? = some o → o.isCells = true → B.heap[m]? = some o)
structure NodesA (w0 : World) (p dp bP bE bM m : Nat) (en : UInt8) (mem : Bool) (s : ByteArray) (W : World) : Prop where
  base : Below w0.heap.size w0 W
  rd : RdJ W p s dp
  cP : Blk W bP #[.pointer (some ⟨p, 0, none⟩)] 56
  cE : Blk W bE #[.string ⟨#[en]⟩] 9
  cM : Blk W bM #[.bool mem] 4
  sz : W.heap.size = m
def leftJ (p : Nat) (W : World) : Nat := match W.cell? ⟨p, 0, none⟩ with
  | some (.string s) => s.size
  | _ => 0
theorem leftJ_of {p d : Nat} {W : World} {s : ByteArray} (h : RdJ W p s d) : leftJ p W = s.size := by
  unfold leftJ
  rw [h.cell 0]
  rfl
theorem takeJ_no (v l : List UInt8) (h : (takeJ v l).1 = false) : (takeJ v l).2 = l := by
  unfold takeJ at h ⊢
  split
  · rename_i e
    rw [if_pos e] at h
    cases h
  · rfl
theorem nextJ_take (en : UInt8) (hen : en ≠ 44) (a : List Tr) (go : Psr (List Tr)) (l : List UInt8) : nextJ en a go l = if (takeJ [en] (spJ l)).1 = true then .good a (takeJ [en] (spJ l)).2 else if (takeJ [44] (spJ l)).1 = true then go (spJ (takeJ [44] (spJ l)).2) else .bad 80 := by
  unfold nextJ takeJ
  cases h : spJ l with
  | nil => rfl
  | cons c r =>
    by_cases h1 : c = en
    · subst h1
      simp
    · by_cases h2 : c = 44
      · subst h2
        simp [h1]
      · simp [h1, h2]
theorem listJ_take (U : List UInt8 → Option (List UInt8 × List UInt8)) (v : Psr Tr) (mem : Bool) (en : UInt8) (F : Nat) (l : List UInt8) : listJ U v mem en F l = if (takeJ [en] (spJ l)).1 = true then .good [] (takeJ [en] (spJ l)).2 else nodesJ U v mem en F [] (spJ l) := by
  unfold listJ takeJ
  cases h : spJ l with
  | nil => rfl
  | cons c r =>
    by_cases h1 : c = en
    · subst h1
      simp
    · simp [h1]
/-- What is left of a round behind its key. -/
def restN (v : Psr Tr) (mem : Bool) (en : UInt8) (f : Nat) (acc : List Tr) : Psr (List Tr) := bindP v fun t => nextJ en (acc ++ [t]) (nodesJ uqJ v mem en f (acc ++ [t]))
theorem nodes_mem (v : Psr Tr) (en : UInt8) (f : Nat) (acc : List Tr) (l : List UInt8) : nodesJ uqJ v true en (f + 1) acc l = bindP (memberJ uqJ) (fun k => restN v true en f (acc ++ [k])) l := by
  rw [nodesJ, if_pos rfl]
  unfold restN
  simp only [List.append_assoc, List.cons_append, List.nil_append]
theorem nodes_one (v : Psr Tr) (en : UInt8) (f : Nat) (acc : List Tr) (l : List UInt8) : nodesJ uqJ v false en (f + 1) acc l = restN v false en f acc l := by
  rw [nodesJ, if_neg (by decide)]
  rfl
/-- The contract of value, lists of it so deep at most, in worlds that have grown from w0. -/
def ValC (w0 : World) (F d : Nat) : Prop := ∀ (p : Nat) (s : ByteArray) (w : World), Below w0.heap.size w0 w → w0.heap.size ≤ p → RdJ w p s (16 - d) → s.size ≤ 100000000 → s.size < F →
  Calls Tryz.prog 53 #[.pointer (some ⟨p, 0, none⟩)] w (ReadJ p (16 - d) d w s (valueJ uqJ F d s.data.toList))
end Go.Proofs.YtfckekaegjjmkaaGreatDoor
