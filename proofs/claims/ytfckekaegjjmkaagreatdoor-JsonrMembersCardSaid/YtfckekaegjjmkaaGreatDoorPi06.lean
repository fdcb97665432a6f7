/- The texts UtfI, Range, UtfJ, put together. -/
import Derived.Test.YtfckekaegjjmkaaGreatDoorPi05
import Derived.Test.YtfckekaegjjmkaaGreatDoorPi01
namespace Go.Proofs.YtfckekaegjjmkaaGreatDoor
open Go.RowKit Go.Shelf

def NextPost (aT aQ : Addr) (p : Nat) (s : ByteArray) (w : World) (e : Ending) (w' : World) : Prop :=
  w.grownBy w' (some p) ∧ match nextL s.data.toList with
    | .error b => e = .returned (.tuple #[.int .i32 0, .bool false, errV (if b then aT else aQ)])
    | .ok (none, r) => e = .returned (.tuple #[.int .i32 0, .bool false, .nilIface]) ∧ Rd w' p ⟨r.toArray⟩
    | .ok (some x, r) => e = .returned (.tuple #[.int .i32 (x : Int), .bool true, .nilIface]) ∧ Rd w' p ⟨r.toArray⟩

theorem decodeGo_list {s : ByteArray} (h : s.size ≠ 0) : Lib.decodeGo s = Lib.decodeL s.data.toList := by
  unfold Lib.decodeGo
  rw [if_neg h]
  exact (Lib.decodeL_drop s 0).symm
theorem list_ne {s : ByteArray} (h : s.size ≠ 0) : s.data.toList ≠ [] := fun e => h (by
  have := congrArg List.length e
  simpa using this)

set_option maxHeartbeats 4000000 in
set_option maxRecDepth 100000 in
theorem utf_next {n : Nat} {aT aQ : Addr} (s : ByteArray) (p : Nat) (w : World) (h : UWB n w aT aQ) (hn : n ≤ p) (hp : Rd w p s) :
    Calls Tryz.prog 217 #[.pointer (some ⟨p, 0, none⟩)] w (NextPost aT aQ p s w) := by
  have hc : w.cell? ⟨p, 0, none⟩ = some (.string s) := hp.cell 0
  have hfz := hp.frozen 0
  have HF := Lib.hid (utf_first s p w h.uw hp)
  unfold firstV at HF
  by_cases h0 : s.size = 0
  · rw [if_pos h0] at HF
    have hfin : ∀ e w', e = .returned (.tuple #[.int .i32 0, .bool false, errV aQ]) → w.grownBy w' (some p) → NextPost aT aQ p s w e w' := fun e w' he hg => ⟨hg, by
      rw [str_empty h0]
      exact he⟩
    have hfin := Lib.hid hfin
    clear hc hfz h0 h hp
    go_enter Tryz.func217, Tryz.ntmps217
    go_wp2_with fail
    refine HF.out.mono ?_
    rintro e w1 ⟨rfl, hb⟩
    go_wp2_with fail
    go_ret3
    exact hfin.out _ _ rfl (below_grown hb _)
  · rw [if_neg h0] at HF
    have hdec := decodeGo_list h0
    have hle := Lib.decodeL_le _ (list_ne h0)
    have hge := Lib.decodeL_width s.data.toList
    have hru := Lib.decodeL_rune s.data.toList
    have hex := extract_list s (Lib.decodeL s.data.toList).2
    have hlen : s.data.toList.length = s.size := by simp
    rw [hlen] at hle
    have hNL := nextL_ne (list_ne h0)
    rw [hdec] at HF
    rw [← hex] at hNL
    obtain ⟨⟨c, k⟩, hck⟩ : ∃ ck, Lib.decodeL s.data.toList = ck := ⟨_, rfl⟩
    rw [hck] at HF hle hge hru hNL
    simp only [] at HF hle hge hru hNL
    rw [hck] at hex
    clear hck hdec hlen h0
    by_cases hbad : (c, k) = (65533, 1)
    · rw [if_pos hbad] at HF hNL
      have hfin : ∀ e w', e = .returned (.tuple #[.int .i32 0, .bool false, errV aT]) → w.grownBy w' (some p) → NextPost aT aQ p s w e w' := fun e w' he hg => ⟨hg, by
        rw [hNL]
        exact he⟩
      have hfin := Lib.hid hfin
      clear hc hfz h hp hNL hbad hex
      go_enter Tryz.func217, Tryz.ntmps217
      go_wp2_with fail
      refine HF.out.mono ?_
      rintro e w1 ⟨rfl, hb⟩
      go_wp2_with fail
      go_ret3
      exact hfin.out _ _ rfl (below_grown hb _)
    · rw [if_neg hbad] at HF hNL
      have z1 : (k : Int) ≤ s.size := by omega
      have z2 : (0 : Int) ≤ k := by omega
      have z3 : (c : Int) ≤ 1114111 := by omega
      obtain ⟨r, hr⟩ : ∃ r, s.extract k s.size = r := ⟨_, rfl⟩
      rw [hr] at hNL
      have HR := Lib.hid hr
      have HNL := Lib.hid hNL
      clear hr hbad hex hNL hge hle hru
      go_enter Tryz.func217, Tryz.ntmps217
      go_wp2_with fail
      refine HF.out.mono ?_
      rintro e w1 ⟨rfl, hb⟩
      have h1 : UWB n w1 aT aQ := h.to (hb.mono h.le)
      have hp1 : Rd w1 p s := hp.below hb hp.lt
      have hg1 := below_grown hb (some p)
      have hc1 : w1.cell? ⟨p, 0, none⟩ = some (.string s) := hp1.cell 0
      have hf1 := hp1.frozen 0
      clear hb HF hp h hc hfz
      have hg2 := grown_trans hg1 ((grown_trans (grown_set w1 p 0 (.string r)) (World.grownBy_alloc _ (.cells #[.int .i32 34] 21) (some p))))
      have hp2 : Rd ((w1.setCell ⟨p, 0, none⟩ (.string r)).alloc (.cells #[.int .i32 34] 21)) p r := (hp1.put r).alloc _
      have hz : (w1.setCell ⟨p, 0, none⟩ (.string r)).heap.size = w1.heap.size := by simp [World.setCell]
      have hB : Blk ((w1.setCell ⟨p, 0, none⟩ (.string r)).alloc (.cells #[.int .i32 34] 21)) w1.heap.size #[.int .i32 34] 21 := by
        have := Blk.new (w1.setCell ⟨p, 0, none⟩ (.string r)) #[.int .i32 34] 21
        rw [hz] at this
        exact this
      have h2 : UWB n ((w1.setCell ⟨p, 0, none⟩ (.string r)).alloc (.cells #[.int .i32 34] 21)) aT aQ := h1.to ((grown_below (grown_set w1 p 0 (.string r)) hn hp1.lt).alloc (by rw [hz]; exact h1.le) _)
      go_wp2_with fail
      rw [HR.out]
      clear hc1 hf1 hz h1 hp1 hg1
      generalize (w1.setCell ⟨p, 0, none⟩ (.string r)).alloc (.cells #[.int .i32 34] 21) = w2 at hg2 hp2 hB h2 ⊢
      generalize w1.heap.size = b1 at hB ⊢
      refine (utf_isOf c 34 b1 w2 hB).mono ?_
      rintro e w2' ⟨rfl, hw⟩
      obtain rfl : w2 = w2' := hw
      by_cases q1 : c = 34
      · rw [if_pos q1] at HNL
        have e1 : ((34 : Int) == (c : Int)) = true := by rw [beq_iff_eq]; omega
        rw [e1]
        have hfin : ∀ e w', e = .returned (.tuple #[.int .i32 0, .bool false, .nilIface]) → w.grownBy w' (some p) → Rd w' p r → NextPost aT aQ p s w e w' := fun e w' he hg hr => ⟨hg, by
          rw [HNL.out]
          exact ⟨he, hr⟩⟩
        have hfin := Lib.hid hfin
        clear q1 e1 HNL
        go_wp2_with fail
        go_ret3
        exact hfin.out _ _ rfl hg2 hp2
      · rw [if_neg q1] at HNL
        have e1 : ((34 : Int) == (c : Int)) = false := by rw [beq_eq_false_iff_ne]; omega
        rw [e1]
        have hQ := h2.uw.hQ
        by_cases q2 : c < 32
        · rw [if_pos q2] at HNL
          have z4 : (c : Int) < 32 := by omega
          have hfin : ∀ e w', e = .returned (.tuple #[.int .i32 0, .bool false, errV aQ]) → w.grownBy w' (some p) → NextPost aT aQ p s w e w' := fun e w' he hg => ⟨hg, by
            rw [HNL.out]
            exact he⟩
          have hfin := Lib.hid hfin
          clear q1 q2 e1 HNL
          go_wp2_with fail
          go_quiet (fail)
          go_wp2_with fail
          go_ret3
          exact hfin.out _ _ rfl (grown_trans hg2 (below_grown (below_drewN (Below.refl _ _) _) _))
        · rw [if_neg q2] at HNL
          have z4 : (32 : Int) ≤ c := by omega
          have hg3 := grown_trans hg2 (World.grownBy_alloc w2 (.cells #[.int .i32 92] 21) (some p))
          have hp3 : Rd (w2.alloc (.cells #[.int .i32 92] 21)) p r := hp2.alloc _
          have hB3 : Blk (w2.alloc (.cells #[.int .i32 92] 21)) w2.heap.size #[.int .i32 92] 21 := Blk.new _ _ _
          have h3 : UWB n (w2.alloc (.cells #[.int .i32 92] 21)) aT aQ := h2.to ((Below.refl _ w2).alloc h2.le _)
          clear q1 q2 e1 hQ hg2 hB h2
          go_wp2_with fail
          clear hp2
          generalize w2.alloc (.cells #[.int .i32 92] 21) = w3 at hg3 hp3 hB3 h3 ⊢
          generalize w2.heap.size = b2 at hB3 ⊢
          refine (utf_isOf c 92 b2 w3 hB3).mono ?_
          rintro e w3' ⟨rfl, hw⟩
          obtain rfl : w3 = w3' := hw
          by_cases q3 : c = 92
          · rw [if_pos q3] at HNL
            have e1 : ((92 : Int) == (c : Int)) = true := by rw [beq_iff_eq]; omega
            rw [e1]
            have HE := Lib.hid (utf_escaped r p w3 h3 hn hp3)
            clear q3 e1
            go_wp2_with fail
            refine HE.out.mono ?_
            clear HE
            rintro e w4 ⟨hg4, hm4⟩
            have hg04 := grown_trans hg3 hg4
            cases hh : escL r.data.toList with
            | none =>
              rw [hh] at hm4
              subst hm4
              have hfin : ∀ e w', e = .returned (.tuple #[.int .i32 0, .bool false, errV aQ]) → w.grownBy w' (some p) → NextPost aT aQ p s w e w' := fun e w' he hg => ⟨hg, by
                rw [HNL.out, hh]
                exact he⟩
              have hfin := Lib.hid hfin
              clear hh hg4 hg3 hp3 hB3 h3 HNL
              go_wp2_with fail
              go_quiet (fail)
              go_wp2_with fail
              go_ret3
              exact hfin.out _ _ rfl (grown_trans hg04 (below_grown (below_drewN (Below.refl _ _) _) _))
            | some q =>
              obtain ⟨x, r'⟩ := q
              rw [hh] at hm4
              obtain ⟨rfl, hp4⟩ := hm4
              have hfin : ∀ e w', e = .returned (.tuple #[.int .i32 x, .bool true, .nilIface]) → w.grownBy w' (some p) → Rd w' p ⟨r'.toArray⟩ → NextPost aT aQ p s w e w' := fun e w' he hg hr => ⟨hg, by
                rw [HNL.out, hh]
                exact ⟨he, hr⟩⟩
              have hfin := Lib.hid hfin
              clear hh hg4 hg3 hp3 hB3 h3 HNL
              go_wp2_with fail
              go_quiet (fail)
              go_wp2_with fail
              go_ret3
              exact hfin.out _ _ rfl (grown_trans hg04 (below_grown (below_drewN (Below.refl _ _) _) _)) (hp4.below (below_drewN (Below.refl _ _) _) hp4.lt)
          · rw [if_neg q3] at HNL
            have e1 : ((92 : Int) == (c : Int)) = false := by rw [beq_eq_false_iff_ne]; omega
            rw [e1]
            have hfin : ∀ e w', e = .returned (.tuple #[.int .i32 c, .bool true, .nilIface]) → w.grownBy w' (some p) → Rd w' p r → NextPost aT aQ p s w e w' := fun e w' he hg hr => ⟨hg, by
              rw [HNL.out]
              exact ⟨he, hr⟩⟩
            have hfin := Lib.hid hfin
            clear q3 e1 hB3 h3 HNL
            go_wp2_with fail
            go_quiet (fail)
            go_wp2_with fail
            go_ret3
            exact hfin.out _ _ rfl (grown_trans hg3 (below_grown (below_drewN (Below.refl _ _) _) _)) (hp3.below (below_drewN (Below.refl _ _) _) hp3.lt)
end Go.Proofs.YtfckekaegjjmkaaGreatDoor
namespace Go.Proofs.YtfckekaegjjmkaaGreatDoor
open Go.RowKit Go.Shelf

/-- The contract of an iterator that may write between two rounds. -/
def SeqW {α : Type} (P : Program) (g : Nat) (lb : Array Value) (encs : α → Array Value) (Mv Kp : World → World → Prop) (Ct : α → Prop) (T : List α → World → Prop) (S Sp : List α → World → Prop) (A0 : World → Prop) : Prop :=
  ∀ (l : Nat) (J Jx : List α → World → Prop) (W : World), A0 W → (∀ s A B, J s A → Mv A B → J s B) → (∀ s A B, Jx s A → Mv A B → Jx s B) →
    (∀ pre x W1, J pre W1 → T (pre ++ [x]) W1 → YieldAt Fence.wide 7 P l (encs x) W1 fun e W' =>
      (e = .returned (.bool true) ∧ Ct x ∧ J (pre ++ [x]) W' ∧ Kp W1 W') ∨ (e = .returned (.bool false) ∧ Jx (pre ++ [x]) W')) →
    J [] W →
    CallsIn Fence.wide 8 P g (#[.func (.yield l) #[] #[]] ++ lb) W fun e W' => (∃ v, e = .returned v) ∧ ((∃ xs, S xs W' ∧ J xs W') ∨ (∃ pre, Sp pre W' ∧ Jx pre W'))


/-- The statement, outside every fence. -/
theorem wp_rangeFuncW {P : Program} {α : Type} {g : Operand} {ps : Array Tmp} {assign body : Code} {Q : Exit → Act → World → Prop} {a : Act} {w : World}
    {gf : Nat} {lb : Array Value} (hg : a.eval g = .func (.func gf) #[] lb) (eg : ∀ args w, (callFunc gf args).run P w = .ok (.enter gf args) w)
    {encs : α → Array Value} {Mv Kp : World → World → Prop} {Ct : α → Prop} {T S Sp : List α → World → Prop} {A0 : World → Prop} (hseq : SeqW P gf lb encs Mv Kp Ct T S Sp A0)
    (hMv : ∀ (A B : World) (k : Nat) (o : Obj), Mv A B → w.heap.size ≤ k → A.heap[k]? = some o → o.isCells = false → B.heap[k]? = some o)
    (hA0 : ∀ o o', A0 ((w.alloc o).alloc o'))
    (hKt : ∀ {A B C : World}, Kp A B → Kp B C → Kp A C) (hKb : ∀ (W : World) (l : Nat) (o o' : Obj), w.heap.size ≤ l → W.heap[l]? = some o → o.isCells = false → Kp W (W.putObj l o')) (hps : ∀ x, (encs x).size = ps.size)
    (I : List α → World → Prop) (Ix : Code → List α → World → Prop) (hI : OwnFrom w.heap.size I) (hIx : ∀ c, OwnFrom w.heap.size (Ix c))
    (hIM : ∀ s A B, I s A → Mv A B → I s B) (hIxM : ∀ c s A B, Ix c s A → Mv A B → Ix c s B) (h0 : I [] w) (hCt : ∀ pre x W, I (pre ++ [x]) W → Ct x)
    (Ax : Array Value → List α → α → Act → World → Prop) (hAx : ∀ pre x a', OwnFrom w.heap.size (fun (_ : Unit) W => Ax a.tmps pre x a' W))
    (hassign : ∀ (l : Nat) (pre : List α) (x : α) (W : World) (K : Act → World → Prop), I pre W → T (pre ++ [x]) W → (∀ a' W', KeepsFrom w.heap.size W W' → Kp W W' → I pre W' → Ax a.tmps pre x a' W' → K a' W') →
      assign.wpIn (Fence.wide.inRound l) 7 P (Exit.then K (fun _ _ _ => False)) { tmps := (ps.zip (encs x)).foldl (fun t (p, v) => t.setIfInBounds p v) a.tmps, defers := [] } W)
    (hbody : ∀ (l : Nat) (pre : List α) (x : α) (a' : Act) (W : World), w.heap.size ≤ l → (∃ r, W.heap[l]? = some (.loop r)) → I pre W → Ax a.tmps pre x a' W → body.wpIn (Fence.wide.inRound l) 7 P (ownPostG w.heap.size Kp I Ix (pre ++ [x]) W) a' W)
    (hS : OwnFrom w.heap.size S) (hSp : OwnFrom w.heap.size Sp)
    (hdone : ∀ (D : Nat) (xs : List α) (W : World), w.heap.size ≤ D → S xs W → I xs W → W.heap[D]? = some (.deferred (some [])) → Q .normal { a with defers := { target := .collected D, args := #[] } :: a.defers } W)
    (hstop : ∀ (D : Nat) (c : Code) (pre : List α) (W : World), w.heap.size ≤ D → Sp pre W → Ix c pre W → W.heap[D]? = some (.deferred (some [])) → c.wp P Q { a with defers := { target := .collected D, args := #[] } :: a.defers } W) :
    (Code.rangeFunc g ps assign body).wp P Q a w := by
  refine (wpIn_wide (n := 9)).1 ?_
  refine wpIn_rangeFunc ?_
  intro fn hfn
  rw [show Fence.wide.round = none from rfl]
  obtain ⟨rec, hrec⟩ : ∃ rec : LoopState → Option Code → Loop, rec = fun st pe => { state := st, pending := pe, fn, tmps := a.tmps, params := ps, assign, body, defers := w.heap.size } := ⟨_, rfl⟩
  obtain ⟨W1, hW1⟩ : ∃ W1, (w.alloc (.deferred (some []))).alloc (.loop (rec .ready none)) = W1 := ⟨_, rfl⟩
  have hL1 : W1.heap[w.heap.size + 1]? = some (.loop (rec .ready none)) := by
    have h := World.alloc_heap_new (w.alloc (.deferred (some []))) (.loop (rec .ready none))
    rw [World.size_alloc] at h
    rw [← hW1]
    exact h
  have hK1 : W1.heap[w.heap.size]? = some (.deferred (some [])) := by
    rw [← hW1]
    exact (Below.heap_alloc _ _ _ (by simp)).trans (World.alloc_heap_new w _)
  have hI1 : I [] W1 := by rw [← hW1]; exact hI.alloc _ (hI.alloc _ h0)
  have hA1 : A0 W1 := by rw [← hW1]; exact hA0 _ _
  refine ⟨w.heap.size + 1, [{ target := .collected w.heap.size, args := #[] }], W1, { target := .fn (.func gf) lb, args := #[.func (.yield (w.heap.size + 1)) #[] #[]] }, W1, gf,
    #[.func (.yield (w.heap.size + 1)) #[] #[]] ++ lb, W1, ?_, ?_, ?_, ?_, fun _ => by omega, ?_⟩
  · rw [← hW1, hrec]
    exact run_enterLoop_outer _ _ _ _ _
  · simp only [resolve, hg]
    simp [go_sem]
  · intro f' _
    exact trivial
  · simp [invoke, go_sem, eg]
  · refine (hseq (w.heap.size + 1)
      (fun pre W => I pre W ∧ W.heap[w.heap.size + 1]? = some (.loop (rec .ready none)) ∧ W.heap[w.heap.size]? = some (.deferred (some [])))
      (fun pre W => ∃ c, Ix c pre W ∧ W.heap[w.heap.size + 1]? = some (.loop (rec .done (some c))) ∧ W.heap[w.heap.size]? = some (.deferred (some [])))
      W1 hA1
      (fun s A B hs hm => ⟨hIM s A B hs.1 hm, hMv A B _ _ hm (by omega) hs.2.1 rfl, hMv A B _ _ hm (by omega) hs.2.2 rfl⟩)
      (fun s A B hs hm => by
        obtain ⟨c, hc, hl, hk⟩ := hs
        exact ⟨c, hIxM c s A B hc hm, hMv A B _ _ hm (by omega) hl rfl, hMv A B _ _ hm (by omega) hk rfl⟩)
      ?_ ⟨hI1, hL1, hK1⟩).mono ?_
    · rintro pre x W ⟨hi, hl, hk⟩ hT
      have hy := run_yield (P := P) (args := encs x) hl (by rw [hrec]; exact hps x)
      rw [hrec] at hy
      refine ⟨fn, _, assign, body, hy, roundIn_of_wpIn hfn (hassign _ pre x W _ hi hT ?_)⟩
      intro a' Wa hkfa hkpa hia hax
      have hla := hkfa.same _ _ (by omega) hl rfl
      have hka := hkfa.same _ _ (Nat.le_refl _) hk rfl
      have hlt : w.heap.size + 1 < Wa.heap.size := (Array.getElem?_eq_some_iff.1 hla).1
      refine ⟨_, run_beginRound hla (by rw [hrec]), ?_⟩
      have hl2 : (Wa.putObj (w.heap.size + 1) (.loop { rec .ready none with state := .busy })).heap[w.heap.size + 1]? = some (.loop { rec .ready none with state := .busy }) := World.putObj_heap_same hlt
      have hk2 : (Wa.putObj (w.heap.size + 1) (.loop { rec .ready none with state := .busy })).heap[w.heap.size]? = some (.deferred (some [])) := (World.putObj_heap_other (by omega)).trans hka
      have hw2 : Kp Wa (Wa.putObj (w.heap.size + 1) (.loop { rec .ready none with state := .busy })) := hKb _ _ _ _ (by omega) hla rfl
      refine wpIn_mono (hbody _ pre x a' _ (by omega) ⟨_, hl2⟩ (hI.putObj _ hia (by omega) hla rfl) ((hAx pre x a').putObj (s := ()) _ hax (by omega) hla rfl)) ?_
      have fin : ∀ (jump : Option Code) (W3 : World), KeepsFrom w.heap.size (Wa.putObj (w.heap.size + 1) (.loop { rec .ready none with state := .busy })) W3 →
          (Instr.endRound (w.heap.size + 1) jump).run P W3 = .ok (.bool jump.isNone) (W3.putObj (w.heap.size + 1) (.loop (rec (if jump.isNone then .ready else .done) jump))) ∧
          W3.heap[w.heap.size + 1]? = some (.loop { rec .ready none with state := .busy }) ∧
          (W3.putObj (w.heap.size + 1) (.loop (rec (if jump.isNone then .ready else .done) jump))).heap[w.heap.size + 1]? = some (.loop (rec (if jump.isNone then .ready else .done) jump)) ∧
          (W3.putObj (w.heap.size + 1) (.loop (rec (if jump.isNone then .ready else .done) jump))).heap[w.heap.size]? = some (.deferred (some [])) := fun jump W3 hk3 => by
        have hl3 := hk3.same _ _ (by omega) hl2 rfl
        have hr := run_endRound (P := P) jump hl3
        rw [hrec] at hr ⊢
        exact ⟨hr, by rw [hrec] at hl3; exact hl3, World.putObj_heap_same (Array.getElem?_eq_some_iff.1 hl3).1, (World.putObj_heap_other (by omega)).trans (hk3.same _ _ (Nat.le_refl _) hk2 rfl)⟩
      rintro e a3 W3 hp
      cases e with
      | normal =>
        obtain ⟨hk3, hkp3, hi3⟩ := hp
        obtain ⟨hr, hl3, hl4, hk4⟩ := fin none W3 hk3
        exact ⟨_, _, hr, .inl ⟨rfl, hCt _ _ _ hi3, ⟨hI.putObj _ hi3 (by omega) hl3 rfl, hl4, hk4⟩, hKt hkpa (hKt (hKt hw2 hkp3) (hKb _ _ _ _ (by omega) hl3 rfl))⟩⟩
      | ret =>
        obtain ⟨hk3, hi3⟩ := hp
        obtain ⟨hr, hl3, hl4, hk4⟩ := fin (some .ret) W3 hk3
        exact ⟨_, _, hr, .inr ⟨rfl, .ret, (hIx _).putObj _ hi3 (by omega) hl3 rfl, hl4, hk4⟩⟩
      | exit id =>
        obtain ⟨hk3, hi3⟩ := hp
        obtain ⟨hr, hl3, hl4, hk4⟩ := fin (some (.exit id)) W3 hk3
        exact ⟨_, _, hr, .inr ⟨rfl, .exit id, (hIx _).putObj _ hi3 (by omega) hl3 rfl, hl4, hk4⟩⟩
      | goto t =>
        obtain ⟨hk3, hi3⟩ := hp
        obtain ⟨hr, hl3, hl4, hk4⟩ := fin (some (.goto t)) W3 hk3
        exact ⟨_, _, hr, .inr ⟨rfl, .goto t, (hIx _).putObj _ hi3 (by omega) hl3 rfl, hl4, hk4⟩⟩
      | panic ch => exact hp.elim
      | outgrown => exact hp.elim
    · rintro e W2 ⟨⟨v, rfl⟩, (⟨xs, hs, hi, hl, hk⟩ | ⟨pre, hs, c, hi, hl, hk⟩)⟩
      · exact ⟨none, _, by have h := run_endLoop (P := P) hl (by rw [hrec]; simp); rw [hrec] at h; exact h, hdone _ xs _ (Nat.le_refl _) (hS.putObj _ hs (by omega) hl rfl) (hI.putObj _ hi (by omega) hl rfl) ((World.putObj_heap_other (by omega)).trans hk)⟩
      · exact ⟨some c, _, by have h := run_endLoop (P := P) hl (by rw [hrec]; simp); rw [hrec] at h; exact h, wpIn_wide.2 (hstop _ c pre _ (Nat.le_refl _) (hSp.putObj _ hs (by omega) hl rfl) ((hIx c).putObj _ hi (by omega) hl rfl) ((World.putObj_heap_other (by omega)).trans hk))⟩
end Go.Proofs.YtfckekaegjjmkaaGreatDoor
namespace Go.Proofs.YtfckekaegjjmkaaGreatDoor
open Go.RowKit Go.Shelf
attribute [local go_sem] Oper.semAt_some wide_fn wide_depth

abbrev Part := Except Bool Nat
def partEnc (aT aQ : Addr) : Part → Array Value
  | .ok x => #[.int .i32 (x : Int), .nilIface]
  | .error b => #[.int .i32 0, errV (if b then aT else aQ)]
def Steps : List UInt8 → List Part → List UInt8 → Prop
  | l, [], l' => l = l'
  | l, .ok x :: xs, l' => ∃ r, nextL l = .ok (some x, r) ∧ Steps r xs l'
  | _, .error _ :: _, _ => False
theorem Steps.snoc : ∀ {xs : List Part} {l l' r : List UInt8} {x : Nat}, Steps l xs l' → nextL l' = .ok (some x, r) → Steps l (xs ++ [.ok x]) r
  | [], l, l', r, x, h, hn => by
    cases h
    exact ⟨r, hn, rfl⟩
  | .ok y :: xs, l, l', r, x, ⟨m, hm, h⟩, hn => ⟨m, hm, h.snoc hn⟩
  | .error b :: xs, l, l', r, x, h, hn => h.elim
def strLen (W : World) (p : Nat) : Nat := match W.cell? ⟨p, 0, none⟩ with
  | some (.string s) => s.size
  | _ => 0

theorem Steps.len : ∀ {xs : List Part} {l0 l : List UInt8}, Steps l0 xs l → xs.length + l.length ≤ l0.length
  | [], l0, l, h => by
    cases h
    simp
  | .ok x :: xs, l0, l, ⟨m, hm, h⟩ => by
    have hs := nextL_shorter hm
    have := h.len
    simp
    omega
  | .error _ :: _, _, _, h => h.elim
theorem Steps.chars : ∀ {xs : List Part} {l0 l : List UInt8}, Steps l0 xs l → ∀ v, .ok v ∈ xs → charOk v
  | [], _, _, _ => by simp
  | .ok x :: xs, l0, l, ⟨m, hm, h⟩ => by
    intro v hv
    rcases List.mem_cons.1 hv with h1 | h1
    · cases h1
      exact nextL_char hm
    · exact h.chars v h1
  | .error _ :: _, _, _, h => h.elim
/-- What a round's body keeps. -/
def PartsKp (n p bc : Nat) (A B : World) : Prop := Below n A B ∧ (p < A.heap.size → B.heap[p]? = A.heap[p]?) ∧ (bc < A.heap.size → B.heap[bc]? = A.heap[bc]?)
def PartsS (p : Nat) (l0 : List UInt8) (xs : List Part) (W : World) : Prop := ∃ l r, Steps l0 xs l ∧ nextL l = .ok (none, r) ∧ Rd W p ⟨r.toArray⟩
def PartsSp (l0 : List UInt8) (pre : List Part) (_ : World) : Prop := (∃ xs b l, pre = xs ++ [.error b] ∧ Steps l0 xs l ∧ nextL l = .error b) ∨ (∃ l, Steps l0 pre l)
def PartsA (n p bc : Nat) (aT aQ : Addr) (s : ByteArray) (W : World) : Prop := UWB n W aT aQ ∧ Rd W p s ∧ Blk W bc #[.pointer (some ⟨p, 0, none⟩)] 219

theorem utf_parts (p : Nat) (w : World) :
    Calls Tryz.prog 186 #[.pointer (some ⟨p, 0, none⟩)] w fun e w' => e = .returned (.func (.func 216) #[] #[.pointer (some ⟨w.heap.size, 0, none⟩)]) ∧ w.alloc (.cells #[.pointer (some ⟨p, 0, none⟩)] 219) = w' := by
  go_enter Tryz.func186, Tryz.ntmps186
  go_wp2
  go_ret
  exact ⟨rfl, rfl⟩

set_option maxHeartbeats 4000000 in
set_option maxRecDepth 100000 in
theorem utf_parts_seq (n p bc : Nat) (aT aQ : Addr) (s0 : ByteArray) (hn : n ≤ p) (hne : p ≠ bc) :
    SeqW Tryz.prog 216 #[.pointer (some ⟨bc, 0, none⟩)] (partEnc aT aQ) (fun A B => A.grownBy B (some p)) (PartsKp n p bc) (fun x => ∃ y, x = .ok y) (fun xs _ => xs.length ≤ s0.size + 1 ∧ ∀ v, .ok v ∈ xs → charOk v)
      (PartsS p s0.data.toList) (PartsSp s0.data.toList) (PartsA n p bc aT aQ s0) := by
  intro l J Jx W hA hJ hJx hY h0
  obtain ⟨hU, hp, hB⟩ := hA
  refine callsIn_of_wp Tryz.func216 rfl trivial ?_ rfl
  simp only [Tryz.ntmps216, List.size_toArray, List.length_cons, List.length_nil, Nat.reduceAdd, Nat.reduceSub, Array.replicate_succ, Array.replicate_zero, List.push_toArray, List.append_toArray, List.nil_append, List.cons_append]
  have HY := Lib.hid hY
  have HJ := Lib.hid hJ
  clear hY hJ hJx
  gi_wp2
  gi_loopw [] (fun wr => ∃ (pre : List Part) (sr : ByteArray), Steps s0.data.toList pre sr.data.toList ∧ J pre wr ∧ UWB n wr aT aQ ∧ Rd wr p sr ∧ Blk wr bc #[.pointer (some ⟨p, 0, none⟩)] 219) (fun wr => strLen wr p)
  case atStart => exact ⟨[], s0, rfl, h0, hU, hp, hB⟩
  case round =>
    obtain ⟨pre, sr, hst, hj, hu, hr, hb⟩ := hrel
    have hc := hb.cell 0
    have HN := Lib.hid (utf_next sr p wr hu hn hr)
    have HST := Lib.hid hst
    have hT := hst.len
    have hs0 : s0.data.toList.length = s0.size := by simp
    have hch := hst.chars
    have HT := Lib.hid (show ∀ x : Part, (∀ v, x = .ok v → charOk v) → (pre ++ [x]).length ≤ s0.size + 1 ∧ ∀ v, .ok v ∈ pre ++ [x] → charOk v from fun x hx => ⟨by rw [List.length_append, List.length_singleton]; omega, fun v hv => by
      rcases List.mem_append.1 hv with h1 | h1
      · exact hch v h1
      · exact hx v (List.mem_singleton.1 h1).symm⟩)
    clear hch
    clear hT hs0
    have hlen : strLen wr p = sr.size := by
      unfold strLen
      rw [hr.cell 0]
      rfl
    have HL := Lib.hid hlen
    clear hst hU hp hB h0 hlen
    gi_wp2_with fail
    refine (callsIn_wide.2 HN.out).mono ?_
    rintro e w1 ⟨hg, hm⟩
    have hj1 := HJ.out _ _ _ hj hg
    have hu1 : UWB n w1 aT aQ := hu.to (grown_below hg hn hr.lt)
    have hb1 : Blk w1 bc #[.pointer (some ⟨p, 0, none⟩)] 219 := hb.kept hg (by simpa using fun e => hne e.symm)
    clear hj hu hr hb HN hg hc
    cases hnx : nextL sr.data.toList with
    | error b =>
      rw [hnx] at hm
      subst hm
      obtain ⟨fn, tmps, assign, body, hy, hR⟩ := HY.out pre (.error b) w1 hj1 (HT.out _ (fun v e => by cases e))
      simp only [partEnc] at hy hR
      have hend : PartsSp s0.data.toList (pre ++ [.error b]) w1 := .inl ⟨pre, b, _, rfl, HST.out, hnx⟩
      have HE := Lib.hid hend
      clear hnx hend hj1 HL
      generalize (if b = true then aT else aQ) = ev at hy hR ⊢
      gi_wp2_with fail
      refine hR.mono ?_
      rintro e w2 (⟨_, ⟨y, hy⟩, _⟩ | ⟨rfl, hx2⟩)
      · cases hy
      · gi_wp2_with fail
        refine bodyPost_ret (results_none rfl _ _ _) rfl ?_
        exact ⟨⟨_, rfl⟩, .inr ⟨_, HE.out, hx2⟩⟩
    | ok q =>
      obtain ⟨x, r⟩ := q
      rw [hnx] at hm
      cases x with
      | none =>
        obtain ⟨rfl, hp1⟩ := hm
        have hend : PartsS p s0.data.toList pre w1 := ⟨_, r, HST.out, hnx, hp1⟩
        have HE := Lib.hid hend
        clear hnx hend HL
        gi_wp2_with fail
        refine bodyPost_ret (results_none rfl _ _ _) rfl ?_
        exact ⟨⟨_, rfl⟩, .inl ⟨_, HE.out, hj1⟩⟩
      | some x =>
        obtain ⟨rfl, hp1⟩ := hm
        have hst1 := Steps.snoc HST.out hnx
        have hsh := nextL_shorter hnx
        obtain ⟨fn, tmps, assign, body, hy, hR⟩ := HY.out pre (.ok x) w1 hj1 (HT.out _ (fun v e => by cases e; exact nextL_char hnx))
        simp only [partEnc] at hy hR
        have HST1 := Lib.hid hst1
        have HSH := Lib.hid hsh
        clear hnx hst1 hsh hj1
        gi_wp2_with fail
        refine hR.mono ?_
        rintro e w2 (⟨rfl, _, hj2, hk1, hk2, hk3⟩ | ⟨rfl, hx2⟩)
        · have hp2 : Rd w2 p ⟨r.toArray⟩ := (hk2 hp1.lt).trans hp1
          have hb2 : Blk w2 bc #[.pointer (some ⟨p, 0, none⟩)] 219 := (hk3 hb1.lt).trans hb1
          have hu2 := hu1.to hk1
          clear hk1 hk2 hk3 hp1 hb1 hu1
          gi_wp2_with fail
          go_roundw
          case rel => exact ⟨_, _, HST1.out, hj2, hu2, hp2, hb2⟩
          case measure =>
            rw [HL.out]
            have h2 : strLen w2 p = r.length := by
              unfold strLen
              rw [hp2.cell 0]
              rfl
            rw [h2]
            have := HSH.out
            simpa using this
        · gi_wp2_with fail
          refine bodyPost_ret (results_none rfl _ _ _) rfl ?_
          exact ⟨⟨_, rfl⟩, .inr ⟨_, .inr ⟨_, HST1.out⟩, hx2⟩⟩
end Go.Proofs.YtfckekaegjjmkaaGreatDoor
