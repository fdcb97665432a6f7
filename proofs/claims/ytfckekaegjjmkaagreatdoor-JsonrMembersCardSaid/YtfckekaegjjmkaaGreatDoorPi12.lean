/- The texts RangeI, DrC, DrD, put together. -/
import Derived.Test.YtfckekaegjjmkaaGreatDoorPi06
import Derived.Test.YtfckekaegjjmkaaGreatDoorPi11
import Derived.Test.YtfckekaegjjmkaaGreatDoorPi08
import Derived.Lib.TrimUEq
import Derived.Lib.OthersKept
import Derived.Lib.TrimAscii
import Derived.BigQuiet
namespace Go.Proofs.YtfckekaegjjmkaaGreatDoor
open Go.RowKit Go.Shelf

/-- The statement, outside every fence. -/
theorem wp_rangeFuncI {P : Program} {α : Type} {g : Operand} {ps : Array Tmp} {assign body : Code} {Q : Exit → Act → World → Prop} {a : Act} {w : World}
    {gf : Nat} {lb : Array Value} (hg : a.eval g = .func (.func gf) #[] lb) (eg : ∀ args w, (callFunc gf args).run P w = .ok (.enter gf args) w)
    {encs : α → Array Value} {Mv Kp : World → World → Prop} {Ct : α → Prop} {T S Sp : List α → World → Prop} {A0 : World → Prop} (hseq : SeqW P gf lb encs Mv Kp Ct T S Sp A0)
    (hMv : ∀ (A B : World) (k : Nat) (o : Obj), Mv A B → w.heap.size ≤ k → A.heap[k]? = some o → ((∃ r, o = .loop r) ∨ ∃ d, o = .deferred d) → B.heap[k]? = some o)
    (hA0 : ∀ o o', A0 ((w.alloc o).alloc o'))
    (hKt : ∀ {A B C : World}, Kp A B → Kp B C → Kp A C) (hKb : ∀ (W : World) (l : Nat) (o o' : Obj), w.heap.size ≤ l → W.heap[l]? = some o → (∃ r, o = .loop r) → Kp W (W.putObj l o')) (hps : ∀ x, (encs x).size = ps.size)
    (I : List α → World → Prop) (Ix : Code → List α → World → Prop) (hI : OwnFrom w.heap.size I) (hIx : ∀ c, OwnFrom w.heap.size (Ix c))
    (hIM : ∀ s A B, I s A → Mv A B → I s B) (hIxM : ∀ c s A B, Ix c s A → Mv A B → Ix c s B) (h0 : I [] w) (hCt : ∀ pre x W, I (pre ++ [x]) W → Ct x)
    (Ax : Array Value → List α → α → Act → World → Prop) (hAx : ∀ pre x a', OwnFrom w.heap.size (fun (_ : Unit) W => Ax a.tmps pre x a' W))
    (hassign : ∀ (l : Nat) (pre : List α) (x : α) (W : World) (K : Act → World → Prop), I pre W → T (pre ++ [x]) W → (∀ a' W', KeepsFrom w.heap.size W W' → Kp W W' → I pre W' → Ax a.tmps pre x a' W' → K a' W') →
      assign.wpIn (Fence.wide.inRound l) 7 P (Exit.then K (fun _ _ _ => False)) { tmps := (ps.zip (encs x)).foldl (fun t (p, v) => t.setIfInBounds p v) a.tmps, defers := [] } W)
    (hbody : ∀ (l : Nat) (pre : List α) (x : α) (a' : Act) (W : World), w.heap.size ≤ l → (∃ r, W.heap[l]? = some (.loop r)) → I pre W → Ax a.tmps pre x a' W → body.wpIn (Fence.wide.inRound l) 7 P (ownPostG w.heap.size Kp I Ix (pre ++ [x]) W) a' W)
    (hS : OwnFrom w.heap.size S) (hSp : OwnFrom w.heap.size Sp)
    (hdone : ∀ (D : Nat) (xs : List α) (W : World), w.heap.size ≤ D → S xs W → I xs W → W.heap[D]? = some (.deferred (some [])) → Q .normal { a with defers := { target := .collected D, args := #[] } :: a.defers } W)
    (hstop : ∀ (D : Nat) (c : Code) (pre : List α) (W : World), w.heap.size ≤ D → Sp pre W → Ix c pre W → W.heap[D]? = some (.deferred (some [])) → c.wp P Q { a with defers := { target := .collected D, args := #[] } :: a.defers } W) :
    (Code.rangeFunc g ps assign body).wp P Q a w := by
  refine (wpIn_wide (n := 9)).1 ?_
  refine wpIn_rangeFunc ?_
  intro fn hfn
  rw [show Fence.wide.round = none from rfl]
  obtain ⟨rec, hrec⟩ : ∃ rec : LoopState → Option Code → Loop, rec = fun st pe => { state := st, pending := pe, fn, tmps := a.tmps, params := ps, assign, body, defers := w.heap.size } := ⟨_, rfl⟩
  obtain ⟨W1, hW1⟩ : ∃ W1, (w.alloc (.deferred (some []))).alloc (.loop (rec .ready none)) = W1 := ⟨_, rfl⟩
  have hL1 : W1.heap[w.heap.size + 1]? = some (.loop (rec .ready none)) := by
    have h := World.alloc_heap_new (w.alloc (.deferred (some []))) (.loop (rec .ready none))
    rw [World.size_alloc] at h
    rw [← hW1]
    exact h
  have hK1 : W1.heap[w.heap.size]? = some (.deferred (some [])) := by
    rw [← hW1]
    exact (Below.heap_alloc _ _ _ (by simp)).trans (World.alloc_heap_new w _)
  have hI1 : I [] W1 := by rw [← hW1]; exact hI.alloc _ (hI.alloc _ h0)
  have hA1 : A0 W1 := by rw [← hW1]; exact hA0 _ _
  refine ⟨w.heap.size + 1, [{ target := .collected w.heap.size, args := #[] }], W1, { target := .fn (.func gf) lb, args := #[.func (.yield (w.heap.size + 1)) #[] #[]] }, W1, gf,
    #[.func (.yield (w.heap.size + 1)) #[] #[]] ++ lb, W1, ?_, ?_, ?_, ?_, fun _ => by omega, ?_⟩
  · rw [← hW1, hrec]
    exact run_enterLoop_outer _ _ _ _ _
  · simp only [resolve, hg]
    simp [go_sem]
  · intro f' _
    exact trivial
  · simp [invoke, go_sem, eg]
  · refine (hseq (w.heap.size + 1)
      (fun pre W => I pre W ∧ W.heap[w.heap.size + 1]? = some (.loop (rec .ready none)) ∧ W.heap[w.heap.size]? = some (.deferred (some [])))
      (fun pre W => ∃ c, Ix c pre W ∧ W.heap[w.heap.size + 1]? = some (.loop (rec .done (some c))) ∧ W.heap[w.heap.size]? = some (.deferred (some [])))
      W1 hA1
      (fun s A B hs hm => ⟨hIM s A B hs.1 hm, hMv A B _ _ hm (by omega) hs.2.1 (.inl ⟨_, rfl⟩), hMv A B _ _ hm (by omega) hs.2.2 (.inr ⟨_, rfl⟩)⟩)
      (fun s A B hs hm => by
        obtain ⟨c, hc, hl, hk⟩ := hs
        exact ⟨c, hIxM c s A B hc hm, hMv A B _ _ hm (by omega) hl (.inl ⟨_, rfl⟩), hMv A B _ _ hm (by omega) hk (.inr ⟨_, rfl⟩)⟩)
      ?_ ⟨hI1, hL1, hK1⟩).mono ?_
    · rintro pre x W ⟨hi, hl, hk⟩ hT
      have hy := run_yield (P := P) (args := encs x) hl (by rw [hrec]; exact hps x)
      rw [hrec] at hy
      refine ⟨fn, _, assign, body, hy, roundIn_of_wpIn hfn (hassign _ pre x W _ hi hT ?_)⟩
      intro a' Wa hkfa hkpa hia hax
      have hla := hkfa.same _ _ (by omega) hl rfl
      have hka := hkfa.same _ _ (Nat.le_refl _) hk rfl
      have hlt : w.heap.size + 1 < Wa.heap.size := (Array.getElem?_eq_some_iff.1 hla).1
      refine ⟨_, run_beginRound hla (by rw [hrec]), ?_⟩
      have hl2 : (Wa.putObj (w.heap.size + 1) (.loop { rec .ready none with state := .busy })).heap[w.heap.size + 1]? = some (.loop { rec .ready none with state := .busy }) := World.putObj_heap_same hlt
      have hk2 : (Wa.putObj (w.heap.size + 1) (.loop { rec .ready none with state := .busy })).heap[w.heap.size]? = some (.deferred (some [])) := (World.putObj_heap_other (by omega)).trans hka
      have hw2 : Kp Wa (Wa.putObj (w.heap.size + 1) (.loop { rec .ready none with state := .busy })) := hKb _ _ _ _ (by omega) hla ⟨_, rfl⟩
      refine wpIn_mono (hbody _ pre x a' _ (by omega) ⟨_, hl2⟩ (hI.putObj _ hia (by omega) hla rfl) ((hAx pre x a').putObj (s := ()) _ hax (by omega) hla rfl)) ?_
      have fin : ∀ (jump : Option Code) (W3 : World), KeepsFrom w.heap.size (Wa.putObj (w.heap.size + 1) (.loop { rec .ready none with state := .busy })) W3 →
          (Instr.endRound (w.heap.size + 1) jump).run P W3 = .ok (.bool jump.isNone) (W3.putObj (w.heap.size + 1) (.loop (rec (if jump.isNone then .ready else .done) jump))) ∧
          W3.heap[w.heap.size + 1]? = some (.loop { rec .ready none with state := .busy }) ∧
          (W3.putObj (w.heap.size + 1) (.loop (rec (if jump.isNone then .ready else .done) jump))).heap[w.heap.size + 1]? = some (.loop (rec (if jump.isNone then .ready else .done) jump)) ∧
          (W3.putObj (w.heap.size + 1) (.loop (rec (if jump.isNone then .ready else .done) jump))).heap[w.heap.size]? = some (.deferred (some [])) := fun jump W3 hk3 => by
        have hl3 := hk3.same _ _ (by omega) hl2 rfl
        have hr := run_endRound (P := P) jump hl3
        rw [hrec] at hr ⊢
        exact ⟨hr, by rw [hrec] at hl3; exact hl3, World.putObj_heap_same (Array.getElem?_eq_some_iff.1 hl3).1, (World.putObj_heap_other (by omega)).trans (hk3.same _ _ (Nat.le_refl _) hk2 rfl)⟩
      rintro e a3 W3 hp
      cases e with
      | normal =>
        obtain ⟨hk3, hkp3, hi3⟩ := hp
        obtain ⟨hr, hl3, hl4, hk4⟩ := fin none W3 hk3
        exact ⟨_, _, hr, .inl ⟨rfl, hCt _ _ _ hi3, ⟨hI.putObj _ hi3 (by omega) hl3 rfl, hl4, hk4⟩, hKt hkpa (hKt (hKt hw2 hkp3) (hKb _ _ _ _ (by omega) hl3 ⟨_, rfl⟩))⟩⟩
      | ret =>
        obtain ⟨hk3, hi3⟩ := hp
        obtain ⟨hr, hl3, hl4, hk4⟩ := fin (some .ret) W3 hk3
        exact ⟨_, _, hr, .inr ⟨rfl, .ret, (hIx _).putObj _ hi3 (by omega) hl3 rfl, hl4, hk4⟩⟩
      | exit id =>
        obtain ⟨hk3, hi3⟩ := hp
        obtain ⟨hr, hl3, hl4, hk4⟩ := fin (some (.exit id)) W3 hk3
        exact ⟨_, _, hr, .inr ⟨rfl, .exit id, (hIx _).putObj _ hi3 (by omega) hl3 rfl, hl4, hk4⟩⟩
      | goto t =>
        obtain ⟨hk3, hi3⟩ := hp
        obtain ⟨hr, hl3, hl4, hk4⟩ := fin (some (.goto t)) W3 hk3
        exact ⟨_, _, hr, .inr ⟨rfl, .goto t, (hIx _).putObj _ hi3 (by omega) hl3 rfl, hl4, hk4⟩⟩
      | panic ch => exact hp.elim
      | outgrown => exact hp.elim
    · rintro e W2 ⟨⟨v, rfl⟩, (⟨xs, hs, hi, hl, hk⟩ | ⟨pre, hs, c, hi, hl, hk⟩)⟩
      · exact ⟨none, _, by have h := run_endLoop (P := P) hl (by rw [hrec]; simp); rw [hrec] at h; exact h, hdone _ xs _ (Nat.le_refl _) (hS.putObj _ hs (by omega) hl rfl) (hI.putObj _ hi (by omega) hl rfl) ((World.putObj_heap_other (by omega)).trans hk)⟩
      · exact ⟨some c, _, by have h := run_endLoop (P := P) hl (by rw [hrec]; simp); rw [hrec] at h; exact h, wpIn_wide.2 (hstop _ c pre _ (Nat.le_refl _) (hSp.putObj _ hs (by omega) hl rfl) ((hIx c).putObj _ hi (by omega) hl rfl) ((World.putObj_heap_other (by omega)).trans hk))⟩
end Go.Proofs.YtfckekaegjjmkaaGreatDoor
namespace Go.Proofs.YtfckekaegjjmkaaGreatDoor
open Go.RowKit Go.Shelf
attribute [local go_sem] Oper.semAt_some wide_fn wide_depth

theorem decodeL_highR {b : UInt8} (t : List UInt8) (h : 128 ≤ b.toNat) : 128 ≤ (Lib.decodeL (b :: t)).1 := by
  rw [Lib.decodeL_N]
  have hb : ((b :: t).getD 0 0).toNat = b.toNat := rfl
  rw [hb]
  generalize (b :: t).length = n
  generalize (UInt8.toNat ((b :: t).getD 1 0)) = b1
  generalize (UInt8.toNat ((b :: t).getD 2 0)) = b2
  generalize (UInt8.toNat ((b :: t).getD 3 0)) = b3
  unfold Lib.decodeN
  rw [if_neg (by omega)]
  repeat' split
  all_goals (simp only; omega)
theorem rune_dig (b : UInt8) (t : List UInt8) (h : isDig b = true) : Lib.decodeL (b :: t) = (b.toNat, 1) ∧ 48 ≤ b.toNat ∧ b.toNat ≤ 57 := by
  unfold isDig at h
  rw [Bool.and_eq_true, decide_eq_true_iff, decide_eq_true_iff] at h
  exact ⟨Lib.decodeL_ascii b t (by omega), h⟩
theorem rune_oth (b : UInt8) (t : List UInt8) (h : isDig b = false) : (Lib.decodeL (b :: t)).1 < 48 ∨ 57 < (Lib.decodeL (b :: t)).1 := by
  unfold isDig at h
  rw [Bool.and_eq_false_iff, decide_eq_false_iff_not, decide_eq_false_iff_not] at h
  by_cases hb : b.toNat < 128
  · rw [Lib.decodeL_ascii b t hb]
    simp only
    omega
  · have := decodeL_highR t (by omega : 128 ≤ b.toNat)
    omega
/-- What the iterator may do between two rounds: nothing below n, and nothing but to a text's iterator. -/
structure MvS (n : Nat) (A B : World) : Prop where
  os : B.os = A.os
  tape : B.tape = A.tape
  output : B.output = A.output
  size : A.heap.size ≤ B.heap.size
  below : ∀ (k : Nat), k < n → k < A.heap.size → B.heap[k]? = A.heap[k]?
  kept : ∀ (k : Nat) (o : Obj), A.heap[k]? = some o → (∀ s i, o ≠ Obj.stringIter s i) → B.heap[k]? = some o
theorem MvS.of_below {n : Nat} {A B : World} (h : Below A.heap.size A B) : MvS n A B :=
  ⟨h.os, h.tape, h.output, h.size, fun k _ hk => h.block k hk, fun k _ ho _ => (h.block k (Array.getElem?_eq_some_iff.1 ho).1).trans ho⟩
theorem MvS.blk {n : Nat} {A B : World} (h : MvS n A B) {k : Nat} {cs : Array Value} {t : TypeId} (hk : Blk A k cs t) : Blk B k cs t := h.kept k _ hk (fun s i e => by cases e)
theorem MvS.under {n m : Nat} {w A B : World} (h : MvS n A B) (hb : Below m w A) (hm : m ≤ n) (hw : m ≤ w.heap.size) : Below m w B := by
  refine ⟨h.os.trans hb.os, h.tape.trans hb.tape, h.output.trans hb.output, Nat.le_trans hb.size h.size, fun k hk => ?_⟩
  have := hb.size
  exact (h.below k (by omega) (by omega)).trans (hb.block k hk)
/-- What a round must keep: the iterators of texts. -/
def KpS (A B : World) : Prop := ∀ (k : Nat) (s : ByteArray) (i : Nat), A.heap[k]? = some (Obj.stringIter s i) → B.heap[k]? = some (Obj.stringIter s i)
theorem KpS.trans {A B C : World} (h : KpS A B) (k : KpS B C) : KpS A C := fun i s j e => k i s j (h i s j e)
theorem KpS.put {W : World} {l : Nat} {o : Obj} (o' : Obj) (ho : W.heap[l]? = some o) (hl : ∃ r, o = .loop r) : KpS W (W.putObj l o') := fun k s i e => by
  refine (World.putObj_heap_other (fun h => ?_)).trans e
  subst h
  obtain ⟨r, rfl⟩ := hl
  rw [ho] at e
  cases e
theorem KpS.below {A B : World} {n : Nat} (h : Below n A B) (hs : ∀ (k : Nat) (s : ByteArray) (i : Nat), A.heap[k]? = some (Obj.stringIter s i) → k < n) : KpS A B := fun k s i e => (h.block k (hs k s i e)).trans e

theorem mv_iter {n i k : Nat} {W : World} {s : ByteArray} (hn : n ≤ i) (h : W.heap[i]? = some (.stringIter s k)) (j : Nat) : MvS n W (W.iterAt i s j) := by
  refine ⟨rfl, rfl, rfl, ?_, fun m hm hl => ?_, fun m o ho hx => ?_⟩
  · rw [Lib.iterAt_size]
    exact Nat.le_refl _
  · exact Lib.iterAt_other W i m s j (by omega)
  · refine (Lib.iterAt_other W i m s j (fun e => ?_)).trans ho
    subst e
    rw [h] at ho
    cases ho
    exact hx _ _ rfl

theorem dec_runes (s : ByteArray) (w : World) :
    Calls Tryz.prog 187 #[.string s] w fun e w' => e = .returned (.func (.func 218) #[] #[.pointer (some ⟨w.heap.size, 0, none⟩)]) ∧ w' = w.alloc (.cells #[.string s] 9) := by
  go_enter Tryz.func187, Tryz.ntmps187
  go_wp2
  go_ret
  exact ⟨rfl, rfl⟩
def rEnc (c : Nat) : Array Value := #[.int .i32 c]

set_option maxHeartbeats 4000000 in
set_option maxRecDepth 100000 in
theorem runes_seq (n b : Nat) (s : ByteArray) (hs : s.size ≤ 1000000000) :
    SeqW Tryz.prog 218 #[.pointer (some ⟨b, 0, none⟩)] rEnc (MvS n) KpS (fun _ => True) (fun xs _ => xs.length ≤ digN s.data.toList)
      (fun xs _ => xs.length = digN s.data.toList) (fun _ _ => True) (fun W => n ≤ W.heap.size ∧ Blk W b #[.string s] 9) := by
  intro l J Jx W hA hJ hJx hY h0
  obtain ⟨hn, hA⟩ := hA
  refine callsIn_of_wp Tryz.func218 rfl trivial ?_ rfl
  simp only [Tryz.ntmps218, List.size_toArray, List.length_cons, List.length_nil, Nat.reduceAdd, Nat.reduceSub, Array.replicate_succ, Array.replicate_zero, List.push_toArray, List.append_toArray, List.nil_append, List.cons_append]
  have HY := Lib.hid hY
  have HJ := Lib.hid hJ
  have HD := Lib.hid dec_isDigit
  have z0 := hA.cell 0
  clear hY hJ hJx
  refine wpIn_wide.2 (wp_scope_straight ((wpIn_wide (n := 8)).1 ?_))
  refine wpIn_seq (wpIn_label ?_)
  show Code.wpIn Fence.wide 8 _ _ _ _ _
  gi_wp2_with fail
  gi_loopw [] (fun wr => ∃ (k : Nat) (pre : List Nat), k ≤ s.size ∧ wr.heap[W.heap.size]? = some (.stringIter s k) ∧ J pre wr ∧ Hid (digN s.data.toList = pre.length + digN (s.data.toList.drop k))) (fun wr => s.size - wr.iterPos W.heap.size)
  case atStart => exact ⟨0, [], by omega, World.iter_heap W s 0, HJ.out _ _ _ h0 (.of_below ((Below.refl _ W).alloc (Nat.le_refl _) _)), Lib.hid (by simp)⟩
  case round =>
    obtain ⟨k, pre, hk, hit, hj, hd⟩ := hrel
    have hsz : W.heap.size < wr.heap.size := (Array.getElem?_eq_some_iff.1 hit).1
    have hlen : s.data.toList.length = s.size := by simp
    have HN := Lib.hid hn
    clear h0 hA z0 hn
    by_cases hp : k < s.size
    · have hnx : ∀ ty, (Instr.next (.pointer (some ⟨W.heap.size, 0, none⟩)) true ty).run Tryz.prog wr = _ := fun ty => Lib.run_next_any_at wr W.heap.size s k ty hit hp
      have hdl := Lib.decodeL_drop s k
      rw [← hdl] at hnx
      have hdr := List.drop_eq_getElem_cons (l := s.data.toList) (i := k) (by rw [hlen]; exact hp)
      obtain ⟨b', hb⟩ : ∃ b', s.data.toList[k]'(by rw [hlen]; exact hp) = b' := ⟨_, rfl⟩
      rw [hb] at hdr
      rw [hdr] at hnx hd
      have hmv : ∀ j, MvS n wr (wr.iterAt W.heap.size s j) := fun j => mv_iter HN.out hit j
      have hit2 := Lib.iterAt_heap wr W.heap.size s k (k + (Lib.decodeL (b' :: s.data.toList.drop (k + 1))).2) hit
      have hj2 := HJ.out _ _ _ hj (hmv (k + (Lib.decodeL (b' :: s.data.toList.drop (k + 1))).2))
      cases hg : isDig b' with
      | true =>
        obtain ⟨h1, h2, h3⟩ := rune_dig b' (s.data.toList.drop (k + 1)) hg
        have hd2 := hd.out
        rw [digN_cons_yes hg] at hd2
        have hd3 : digN s.data.toList = (pre.length + 1) + digN (s.data.toList.drop (k + 1)) := by omega
        rw [h1] at hnx hit2 hj2
        simp only [] at hnx hit2 hj2
        obtain ⟨c, hc⟩ : ∃ c, b'.toNat = c := ⟨_, rfl⟩
        rw [hc] at hnx h2 h3
        have HD3 := Lib.hid hd3
        have HDD : Hid (∀ w, Calls Tryz.prog 155 #[.int .i32 (c : Int)] w fun e w' => e = .returned (.bool true) ∧ w' = w) := Lib.hid (fun w => by
          have := HD.out (c : Int) w
          rw [decide_eq_true (by omega), decide_eq_true (by omega)] at this
          exact this)
        obtain ⟨W2, hW2⟩ : ∃ W2, wr.iterAt W.heap.size s (k + 1) = W2 := ⟨_, rfl⟩
        rw [hW2] at hnx hit2 hj2
        obtain ⟨fn, tmps, assign, body, hy, hR⟩ := HY.out pre c W2 hj2 (by rw [List.length_append, List.length_singleton]; omega)
        unfold rEnc at hy
        have HIT := Lib.hid hit
        clear hdl hdr hb hg h1 hd hd2 hd3 hc h2 h3 hmv hj2 hW2 hit hj
        gi_wp2_with fail
        refine (callsIn_wide.2 (HDD.out _)).mono ?_
        rintro e w1 ⟨rfl, rfl⟩
        gi_wp2_with fail
        refine hR.mono ?_
        rintro e w2 (⟨rfl, _, hj3, hk3⟩ | ⟨rfl, hx2⟩)
        · have hit3 := hk3 _ _ _ hit2
          gi_wp2_with fail
          go_roundw
          case rel => exact ⟨k + 1, _, by omega, hit3, hj3, by
            rw [List.length_append, List.length_singleton]
            exact HD3⟩
          case measure =>
            simp only [World.iterPos, hit3, HIT.out]
            omega
        · gi_wp2_with fail
          rw [Exit.noGoto_normal]
          refine bodyPost_end (results_none rfl _ _ _) rfl ?_
          exact ⟨⟨_, rfl⟩, .inr ⟨_, trivial, hx2⟩⟩
      | false =>
        have hr := rune_oth b' (s.data.toList.drop (k + 1)) hg
        have hd2 := hd.out
        rw [digN_cons_no hg, Nat.add_zero] at hd2
        have HD3 := Lib.hid hd2
        obtain ⟨⟨c, wd⟩, hck⟩ : ∃ ck, Lib.decodeL (b' :: s.data.toList.drop (k + 1)) = ck := ⟨_, rfl⟩
        rw [hck] at hnx hit2 hr hj2
        simp only [] at hnx hit2 hr hj2
        have HDD : Hid (∀ w, Calls Tryz.prog 155 #[.int .i32 (c : Int)] w fun e w' => e = .returned (.bool false) ∧ w' = w) := Lib.hid (fun w => by
          have := HD.out (c : Int) w
          rcases hr with h | h
          · rw [decide_eq_false (by omega), Bool.false_and] at this
            exact this
          · rw [decide_eq_false (show ¬ (c : Int) ≤ 57 by omega), Bool.and_false] at this
            exact this)
        obtain ⟨W2, hW2⟩ : ∃ W2, wr.iterAt W.heap.size s (k + wd) = W2 := ⟨_, rfl⟩
        rw [hW2] at hnx hit2 hj2
        clear hdl hdr hb hg hd hd2 hr hmv hW2 hit hj hck
        gi_wp2_with fail
        refine (callsIn_wide.2 (HDD.out _)).mono ?_
        rintro e w1 ⟨rfl, rfl⟩
        gi_wp2_with fail
        rw [Exit.noGoto_normal]
        refine bodyPost_end (results_none rfl _ _ _) rfl ?_
        exact ⟨⟨_, rfl⟩, .inl ⟨pre, HD3.out.symm, hj2⟩⟩
    · have hnx : ∀ ty, (Instr.next (.pointer (some ⟨W.heap.size, 0, none⟩)) true ty).run Tryz.prog wr = _ := fun ty => Lib.run_next_end_at wr W.heap.size s k ty hit hp
      have hd2 := hd.out
      rw [List.drop_eq_nil_of_le (by rw [hlen]; omega)] at hd2
      have HD3 := Lib.hid (show digN s.data.toList = pre.length from hd2)
      clear hd hd2 hlen
      gi_wp2_with fail
      rw [Exit.noGoto_normal]
      refine bodyPost_end (results_none rfl _ _ _) rfl ?_
      exact ⟨⟨_, rfl⟩, .inl ⟨pre, HD3.out.symm, hj⟩⟩
end Go.Proofs.YtfckekaegjjmkaaGreatDoor
namespace Go.Proofs.YtfckekaegjjmkaaGreatDoor
open Go.RowKit Go.Shelf
attribute [local go_sem] Oper.semAt_some wide_fn wide_depth

/-- The reader of a number: what is left. -/
abbrev RdD (W : World) (p : Nat) (s : ByteArray) : Prop := Blk W p #[.string s] 154
def bsD (l : List UInt8) : ByteArray := ⟨l.toArray⟩
def DigI (n : Nat) (w : World) (pre : List Nat) (W : World) : Prop := Blk W n #[.int .i64 pre.length] 3 ∧ Below n w W
def DigA (m : Nat) (T : Array Value) (pre : List Nat) (x : Nat) (a' : Act) (_ : World) : Prop := a' = { tmps := T.setIfInBounds 11 (.int .i32 x), defers := [] } ∧ pre.length + 1 ≤ m
theorem digI_own (n : Nat) (w : World) {m : Nat} (hm : n ≤ m) (hm2 : n ≤ w.heap.size) : OwnFrom m (DigI n w) := by
  refine fun s X Y row hs hg hr => ⟨?_, ?_⟩
  · exact blk_own _ _ (fun _ : Unit => _) () X Y row hs.1 hg (fun r e => (hr r e).2)
  · exact ownFrom_below (β := Unit) hm2 hm () X Y row hs.2 hg hr
theorem grown_shut {w W : World} {p D : Nat} {o : Obj} (h : w.grownBy W (some p)) (hD : w.heap.size ≤ D) : w.grownBy (W.putObj D o) (some p) :=
  ⟨h.os, h.tape, h.output, Nat.le_trans h.size (by simp), fun i hi hr => (World.putObj_heap_other (by omega)).trans (h.block i hi hr)⟩
theorem KpS.set {W : World} {b : Nat} {cs : Array Value} {t : TypeId} (h : Blk W b cs t) (i : Nat) (v : Value) : KpS W (W.setCell ⟨b, i, none⟩ v) := fun k s j e => by
  refine (Below.heap_setCell W ⟨b, i, none⟩ v k (fun q => ?_)).trans e
  have q : k = b := q
  subst q
  rw [show W.heap[k]? = _ from h] at e
  cases e
theorem digN_le (l : List UInt8) : digN l ≤ l.length := by
  induction l with
  | nil => exact Nat.le_refl _
  | cons c r ih =>
    cases h : isDig c with
    | true => rw [digN_cons_yes h, List.length_cons]; omega
    | false => rw [digN_cons_no h]; omega

set_option maxHeartbeats 4000000 in
set_option maxRecDepth 100000 in
theorem dec_digits (p : Nat) (s : ByteArray) (w : World) (hR : RdD w p s) (hz : s.size ≤ 1000000000) :
    Calls Tryz.prog 152 #[.pointer (some ⟨p, 0, none⟩)] w fun e w' => e = .returned (.string (bsD (digits s.data.toList).1)) ∧ w.grownBy w' (some p) ∧ RdD w' p (bsD (digits s.data.toList).2) := by
  have c0 := (hR.alloc (.cells #[.int .i64 0] 3)).cell 0
  have hplt := hR.lt
  obtain ⟨n, hn⟩ : ∃ n, w.heap.size = n := ⟨_, rfl⟩
  have hB1 : Below n w (w.alloc (.cells #[.int .i64 0] 3)) := (Below.refl _ w).alloc (by omega) _
  have hk1 : Blk (w.alloc (.cells #[.int .i64 0] 3)) n #[.int .i64 0] 3 := by rw [← hn]; exact Blk.new _ _ _
  have hdn := digN_le s.data.toList
  have hsl : s.data.toList.length = s.size := by simp
  obtain ⟨k, hk⟩ : ∃ k, digN s.data.toList = k := ⟨_, rfl⟩
  have e1 : s.extract 0 k = bsD (digits s.data.toList).1 := by
    unfold digits bsD
    rw [hk]
    apply ByteArray.ext
    apply Array.toList_inj.1
    simp [ByteArray.data_extract]
  have e2 : s.extract k s.size = bsD (digits s.data.toList).2 := by
    unfold digits bsD
    rw [hk]
    apply ByteArray.ext
    apply Array.toList_inj.1
    have : (s.extract k s.size).data.toList = (s.data.toList.drop k).take (s.size - k) := by simp [ByteArray.data_extract]
    rw [this, List.take_of_length_le (by rw [List.length_drop]; omega)]
  obtain ⟨x1, hx1⟩ : ∃ x, bsD (digits s.data.toList).1 = x := ⟨_, rfl⟩
  obtain ⟨x2, hx2⟩ : ∃ x, bsD (digits s.data.toList).2 = x := ⟨_, rfl⟩
  rw [hx1] at e1 ⊢
  rw [hx2] at e2 ⊢
  rw [hk] at hdn
  have HDK := Lib.hid hk
  have E1 := Lib.hid e1
  have E2 := Lib.hid e2
  clear hx1 hx2 e1 e2 hk
  refine calls_of_marks Tryz.func152 rfl ?_
  simp only [Tryz.ntmps152, List.size_toArray, List.length_cons, List.length_nil, Nat.reduceAdd, Nat.reduceSub, Array.replicate_succ, Array.replicate_zero, List.push_toArray, List.append_toArray, List.nil_append, List.cons_append]
  go_wp2_with fail
  refine (dec_runes s _).mono ?_
  rintro e w3 ⟨rfl, hw3⟩
  have hz3 : w3.heap.size = n + 2 := by rw [hw3]; simp [hn]
  have hB3 : Below n w w3 := by rw [hw3]; exact hB1.alloc (by simp; omega) _
  have hk3 : Blk w3 n #[.int .i64 0] 3 := by rw [hw3]; exact hk1.alloc _
  have hb3 : Blk w3 (n + 1) #[.string s] 9 := by
    have := Blk.new (w.alloc (.cells #[.int .i64 0] 3)) #[.string s] 9
    rw [World.size_alloc, hn] at this
    rw [hw3]
    exact this
  rw [World.size_alloc, hn]
  clear hw3 hB1 hk1 c0
  go_wp2_with fail
  refine wp_rangeFuncI (gf := 218) (lb := #[.pointer (some ⟨n + 1, 0, none⟩)]) rfl (enters_of Tryz.func218 (by kernel_rfl) rfl)
    (runes_seq (n + 2) (n + 1) s hz) ?hMv ?hA0 ?hKt ?hKb ?hps (DigI n w) (fun _ _ _ => False) ?hI ?hIx ?hIM ?hIxM ?h0 ?hCt
    (DigA k) ?hAx ?assign ?body ?hS ?hSp ?done ?stop
  case hMv =>
    rintro A B k o hM hk ho (⟨r, rfl⟩ | ⟨d, rfl⟩)
    · exact hM.kept _ _ ho (fun s i e => by cases e)
    · exact hM.kept _ _ ho (fun s i e => by cases e)
  case hA0 =>
    intro o o'
    exact ⟨by simp; omega, (hb3.alloc o).alloc o'⟩
  case hKt => exact fun h1 h2 => h1.trans h2
  case hKb => exact fun W l o o' _ ho hl => KpS.put o' ho hl
  case hps => exact fun x => rfl
  case hI => exact digI_own n w (by omega) (by omega)
  case hIx => exact fun c s X Y row h _ _ => h
  case hIM =>
    rintro s' X Y ⟨h1, h2⟩ hm
    exact ⟨hm.blk h1, hm.under h2 (by omega) (by omega)⟩
  case hIxM => exact fun c s' X Y h _ => h
  case h0 => exact ⟨hk3, hB3⟩
  case hCt => exact fun _ _ _ _ => trivial
  case hAx => exact fun pre x a' _ X Y row hs _ _ => hs
  case hS => exact fun s' X Y row hs _ _ => hs
  case hSp => exact fun s' X Y row hs _ _ => hs
  case assign =>
    rintro l pre x W K hI hT hK
    have HK := Lib.hid hK
    have HI := Lib.hid hI
    rw [List.length_append, List.length_singleton, HDK.out] at hT
    have HT := Lib.hid hT
    clear hK hI hT
    simp only [rEnc]
    gi_wp2
    exact HK.out _ _ (KeepsFrom.refl _ _) (fun _ _ _ e => e) HI.out ⟨rfl, HT.out⟩
  case body =>
    rintro l pre x a' W hl _ ⟨h1, h2⟩ ⟨rfl, hT⟩
    simp only [List.setIfInBounds_toArray, List.set_cons_zero, List.set_cons_succ]
    have q0 := h1.cell 0
    have f0 := h1.frozen 0
    have hlen : (pre ++ [x]).length = pre.length + 1 := by simp
    generalize pre.length = g at *
    gi_wp2_with fail
    refine ⟨(KeepsOthers.setCell W _ _).from _, KpS.set h1 _ _, ?_, h2.setCell (by simp) _⟩
    rw [hlen]
    exact h1.set 0 _
  case done =>
    rintro D xs W hD hs ⟨h1, h2⟩ hK
    rw [hs] at h1
    have hRW : RdD W p s := hR.below h2 (by omega)
    have q0 := hRW.cell 0
    have f0 := hRW.frozen 0
    have q1 := h1.cell 0
    have hDW := (Array.getElem?_eq_some_iff.1 hK).1
    rw [HDK.out] at q1
    have z1 : (k : Int) ≤ s.size := by omega
    have hDn : n + 2 ≤ D := by omega
    have H1 := Lib.hid h1
    have H2 := Lib.hid h2
    have HK := Lib.hid hK
    have HR := Lib.hid hRW
    clear hR h1 h2 hK hRW hs hz3 hB3 hk3 hb3 hsl hdn
    go_wp2_with fail
    go_quiet (fail)
    go_wp2_with fail
    go_region
    go_wp2_with fail
    rw [E2.out]
    have hK2 : ((W.drewN (nq + 1)).setCell ⟨p, 0, none⟩ (.string x2)).heap[D]? = some (.deferred (some [])) := (Below.heap_setCell _ _ _ _ (by show D ≠ p; omega)).trans HK.out
    refine leave1 (v := .string (s.extract 0 k)) hK2 (by simp [results, Tryz.results152, go_sem]) rfl ?_
    rw [E1.out]
    have hR2 : RdD ((W.drewN (nq + 1)).setCell ⟨p, 0, none⟩ (.string x2)) p x2 := (show Blk (W.drewN (nq + 1)) p #[.string s] 154 from HR.out).set 0 _
    have hg : w.grownBy W (some p) := below_grown (by rw [hn]; exact H2.out) _
    have hg2 : w.grownBy (W.drewN (nq + 1)) (some p) := ⟨hg.os, hg.tape, hg.output, hg.size, hg.block⟩
    refine ⟨rfl, grown_shut (grown_trans hg2 (grown_set _ p 0 _)) (by omega), ?_⟩
    exact (World.putObj_heap_other (by omega)).trans hR2
  case stop =>
    rintro D c pre W hD hsp h hK
    exact h.elim
end Go.Proofs.YtfckekaegjjmkaaGreatDoor
