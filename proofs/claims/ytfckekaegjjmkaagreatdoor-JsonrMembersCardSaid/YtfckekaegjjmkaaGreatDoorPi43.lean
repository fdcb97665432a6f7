/- The texts JrP, JrQ, JrR, JsG, JsH, JsI, JsK, put together. -/
import Derived.Test.YtfckekaegjjmkaaGreatDoorPi42
import Derived.Test.YtfckekaegjjmkaaGreatDoorPi20
import Derived.Test.YtfckekaegjjmkaaGreatDoorPi10
namespace Go.Proofs.YtfckekaegjjmkaaGreatDoor
open Go.RowKit Go.Shelf
attribute [local go_sem] Oper.semAt_some

theorem ety_grown {A B : World} {p : Nat} (h : ErrTyJ A) (hg : A.grownBy B (some p)) (hp : 2 ≠ p) : ErrTyJ B := by
  have hlt := World.block_lt_of_cell? A ⟨2, 0, none⟩ h
  have hb := hg.block 2 hlt (fun e => hp (by injection e))
  have h' : A.cell? ⟨2, 0, none⟩ = _ := h
  show B.cell? ⟨2, 0, none⟩ = _
  unfold World.cell? at h' ⊢
  simp only [hb]
  exact h'
/-- What Read tells. -/
def ReadP (w : World) (res : Int × Tr) (x : Ending) (w' : World) : Prop := Below w.heap.size w w' ∧ ∃ A n c, x = .returned (.tuple #[nodeV res.2.own (.slice A n c), .int .i64 res.1]) ∧ LAt w' (fun q => w.heap.size ≤ q ∧ q < w'.heap.size) 16 res.2.kids (.slice A n c) ∧ OwnOk res.2.own
theorem own_zero : OwnOk zeroO := ⟨by decide, by decide, by decide, by decide, by decide, by decide⟩

set_option maxHeartbeats 8000000 in
set_option maxRecDepth 100000 in
theorem jr_Read {uT uQ aT aF : Addr} (s : ByteArray) (hs : s.size ≤ 100000000) (w : World) (h : JRW w uT uQ aT aF) :
    Calls Tryz.prog 25 #[.string s] w (ReadP w (readJ uqJ s.data.toList)) := by
  have hsl : s.data.toList.length = s.size := by simp
  have hgl : 2 < w.heap.size := World.block_lt_of_cell? w ⟨2, 0, none⟩ h.ty
  unfold readJ
  by_cases h4 : 4000 < s.data.toList.length
  · rw [if_pos h4]
    rw [hsl] at h4
    have y1 : (4000 : Int) < s.size := by omega
    have hk1 := Blk.new w zeroC 27
    have hb1 : Below w.heap.size w (w.alloc (.cells zeroC 27)) := (Below.refl _ w).alloc (Nat.le_refl _) _
    clear h4 hsl h
    go_enter Tryz.func25, Tryz.ntmps25
    go_wp2_with (refine wpList_store_row rfl 27 (.tmp 2) (.tmp 10) rfl (w.heap.size) zeroC rfl rfl 27 _ hk1 (by kernel_rfl) rfl (by simp [Value.oneCell']) ?_)
    refine bodyPost_ret (results_cell (T := 27) rfl rfl rfl (blk_row hk1 zeroC) Tryz.underlying27 rfl (by kernel_rfl)) rfl ?_
    exact ⟨hb1.grown (grown_row _ _ _) hb1.size (fun q e => by cases e; omega), none, 0, 0, rfl, LAt.nil _ _ _ _ _, own_zero⟩
  · rw [if_neg h4]
    rw [hsl] at h4 ⊢
    have y1 : ¬ (4000 : Int) < s.size := by omega
    have hb2 : Below w.heap.size w ((w.alloc (.cells zeroC 27)).alloc (.cells #[.string s, .int .i64 0] 60)) := ((Below.refl _ w).alloc (Nat.le_refl _) _).alloc (by simp) _
    have hk2 := (Blk.new w zeroC 27).alloc (.cells #[.string s, .int .i64 0] 60)
    have hr2 : RdJ ((w.alloc (.cells zeroC 27)).alloc (.cells #[.string s, .int .i64 0] 60)) (w.heap.size + 1) s 0 := by
      have := Blk.new (w.alloc (.cells zeroC 27)) #[.string s, .int .i64 0] 60
      rw [World.size_alloc] at this
      exact this
    have hz2 : ((w.alloc (.cells zeroC 27)).alloc (.cells #[.string s, .int .i64 0] 60)).heap.size = w.heap.size + 2 := by simp
    have HD := jr_document h (s.size + 1) (w.heap.size + 1) s ((w.alloc (.cells zeroC 27)).alloc (.cells #[.string s, .int .i64 0] 60)) hb2 (by omega) hr2 hs (Nat.lt_succ_self _)
    have HTY := Lib.hid (fun W (hb : Below w.heap.size w W) => (h.below hb).ty)
    clear h hsl h4
    cases hx : docJ uqJ (s.size + 1) s.data.toList with
    | bad e =>
      rw [hx] at HD
      have HD : Hid (Calls Tryz.prog 39 #[.pointer (some ⟨w.heap.size + 1, 0, none⟩)] ((w.alloc (.cells zeroC 27)).alloc (.cells #[.string s, .int .i64 0] 60)) fun x w' => ((w.alloc (.cells zeroC 27)).alloc (.cells #[.string s, .int .i64 0] 60)).grownBy w' (some (w.heap.size + 1)) ∧ (x = .returned (.tuple #[.agg zeroC, errJ e]) ∧ (e = 60 ∨ e = 80)) ∧ ∃ s' d', RdJ w' (w.heap.size + 1) s' d' ∧ s'.size ≤ s.size) := Lib.hid HD
      have HT := Lib.hid (fun W (h : ErrTyJ W) => jr_told e W h)
      simp only []
      clear hx
      obtain ⟨tv, hy⟩ : ∃ y, errJ e = .iface 91 y := ⟨_, rfl⟩
      rw [hy] at HD HT
      clear hy
      go_enter Tryz.func25, Tryz.ntmps25
      go_wp2_with fail
      refine HD.out.mono ?_
      rintro x w3 ⟨hg3, ⟨rfl, he⟩, s', d', hr3, hs3⟩
      have hb3 := hb2.trans (grown_below hg3 (by omega) hr2.lt)
      have hk4' := (blk_gb hk2 hg3 (by omega)).alloc (.cells zeroC 27)
      have hb4' := hb3.alloc hb3.size (.cells zeroC 27)
      have hx4' := Blk.new w3 zeroC 27
      have hz3 := hg3.size
      go_wp2_with fail
      obtain ⟨w4, hw4⟩ : ∃ x, w3.alloc (.cells zeroC 27) = x := ⟨_, rfl⟩
      rw [hw4] at hk4' hb4' hx4'
      have hk4 : Blk w4.drew w.heap.size zeroC 27 := hk4'
      have hb4 := hb4'
      have hx4 : Blk w4.drew w3.heap.size zeroC 27 := hx4'
      have HTY4 : Hid (ErrTyJ w4.drew) := Lib.hid (HTY.out w4 hb4)
      first | rw [hw4] | skip
      refine wp_region_allG (R := fun A B => A.grownBy B (some w.heap.size)) (by kernel_rfl) (by kernel_rfl) (fun _ => grown_refl _ _) (by kernel_rfl) (fun Wx => Blk Wx w3.heap.size zeroC 27 ∧ ErrTyJ Wx)
        [fun env _ => env 0 = .agg zeroC, fun env _ => env 1 = .iface 91 tv, fun env _ => env 2 = .int .i64 e, fun _ _ => True, fun env _ => env 4 = .int .i64 e]
        (fun sel _ Wx => w4.grownBy Wx (some w.heap.size) ∧ Blk Wx w.heap.size (if sel 3 = true then zeroC else zeroC) 27) ?_ ?_ ?_ ?_ ?_ ?_
      case refine_1 => exact ⟨hx4, HTY4.out⟩
      case refine_2 => exact fun _ => ⟨grown_drew w4 _ 1, hk4⟩
      case refine_3 => exact fun A B hE hg => ⟨blk_gb hE.1 hg (by omega), ety_grown hE.2 hg (by omega)⟩
      case refine_4 =>
        intro i o env env' A B ho hk _ hp _
        have e : ∀ k, k = i → env' k = env k := fun k h => (hk k (.inl h)).symm
        unfold phisG at hp ⊢
        match i, ho, hp, e with
        | 0, _, hp, e => exact (e 0 rfl).trans hp
        | 1, _, hp, e => exact (e 1 rfl).trans hp
        | 2, _, hp, e => exact (e 2 rfl).trans hp
        | 3, _, _, _ => trivial
        | 4, _, hp, e => exact (e 4 rfl).trans hp
        | i + 5, ho, _, _ => simp at ho
      case refine_5 =>
        refine flow_consG (flow_opG rfl rfl (by kernel_rfl) (by kernel_rfl) ?_) ?_
        · intro sel env W hE hn hx hs hwt ρ hρ hc hf hg K hK
          have r5 : ρ (.tmp 5) = .pointer (some ⟨w3.heap.size, 0, none⟩) := by rw [hρ]; kernel_rfl
          clear hρ hg
          exact lands_load_row 27 (.tmp 5) rfl w3.heap.size r5 27 _ (0, 0) _ hE.1 Tryz.underlying27 rfl (by kernel_rfl) (hK _ _ (updV_self _ _ _) ⟨hx.1, by rw [updB_ne sel (show (3 : Nat) ≠ 0 by decide)]; exact hx.2⟩ (grown_refl _ _))
        refine flow_consG (flow_opG rfl rfl (by kernel_rfl) (by kernel_rfl) ?_) ?_
        · intro sel env W hE hn hx hs hwt ρ hρ hc hf hg K hK
          have r6 : ρ (.tmp 6) = .iface 91 tv := by rw [hρ]; kernel_rfl
          clear hρ hg
          simp [opLands, go_sem, r6]
          exact hK _ _ (updV_self _ _ _) ⟨hx.1, by rw [updB_ne sel (show (3 : Nat) ≠ 1 by decide)]; exact hx.2⟩ (grown_refl _ _)
        refine flow_consG (flow_opG rfl rfl (by kernel_rfl) (by kernel_rfl) ?_) ?_
        · intro sel env W hE hn hx hs hwt ρ hρ hc hf hg K hK
          have r21 := (show ρ (.tmp 21) = env 1 by rw [hρ]; kernel_rfl).trans (hn 1 (hwt 1 (by kernel_rfl)))
          clear hρ hg
          refine lands_call rfl (by kernel_rfl) hf ?_
          simp only [List.map_toArray, List.map_cons, List.map_nil, r21]
          refine (HT.out W hE.2).mono ?_
          rintro e w'' ⟨rfl, hbt⟩
          exact ⟨_, rfl, hK _ _ (updV_self _ _ _) ⟨grown_of hx.1 hbt, by rw [updB_ne sel (show (3 : Nat) ≠ 2 by decide)]; exact hx.2.below hbt hx.2.lt⟩ (below_grown hbt _)⟩
        refine flow_consG (flow_op0G rfl rfl (by kernel_rfl) rfl ?_) ?_
        · intro sel env W hE hn hx hs hwt ρ hρ hc hf hg K hK
          have r2 : ρ (.tmp 2) = .pointer (some ⟨w.heap.size, 0, none⟩) := by rw [hρ]; kernel_rfl
          have r20 := (show ρ (.tmp 20) = env 0 by rw [hρ]; kernel_rfl).trans (hn 0 (hwt 0 (by kernel_rfl)))
          clear hρ hg
          have hb := hx.2
          rw [hs, if_neg (by decide)] at hb
          exact lands_store_row 27 (.tmp 2) (.tmp 20) rfl w.heap.size zeroC r2 r20 27 _ hb (by kernel_rfl) rfl (by simp [Value.oneCell']) (hK undef _ trivial ⟨grown_trans hx.1 (grown_row _ _ _), by rw [updB_self, if_pos rfl]; exact blk_row hb _⟩ (grown_row _ _ _))
        refine flow_consG (flow_opG rfl rfl (by kernel_rfl) (by kernel_rfl) ?_) flow_nilG
        · intro sel env W hE hn hx hs hwt ρ hρ hc hf hg K hK
          have r22 := (show ρ (.tmp 22) = env 2 by rw [hρ]; kernel_rfl).trans (hn 2 (hwt 2 (by kernel_rfl)))
          clear hρ hg
          simp [opLands, go_sem, r22]
          exact hK _ _ (updV_self _ _ _) ⟨hx.1, by rw [updB_ne sel (show (3 : Nat) ≠ 4 by decide)]; exact hx.2⟩ (grown_refl _ _)
      case refine_6 =>
        intro env W hE hn hx
        have e4 : env 4 = .int .i64 e := hn 4 (by decide)
        have hk7 : Blk W w.heap.size zeroC 27 := hx.2
        have hgW := hx.1
        have hgE := grown_trans (below_grown hb4 (some w.heap.size)) hgW
        have hbF : Below w.heap.size w W := ⟨hgE.os, hgE.tape, hgE.output, hgE.size, fun q hq => hgE.block q hq (fun e => by injection e with e; omega)⟩
        refine (‹∀ (a : Act) (w : World), Code.wp _ Code.ret _ a w → _›) _ _ (wp_ret ?_)
        refine bodyPost_ret (results_cell (T := 27) (b := w.heap.size) rfl (by kernel_rfl) ((show _ = env 4 by kernel_rfl).trans e4) hk7 Tryz.underlying27 rfl (by kernel_rfl)) rfl ?_
        exact ⟨hbF, none, 0, 0, rfl, LAt.nil _ _ _ _ _, own_zero⟩
    | good t r =>
      rw [hx] at HD
      obtain ⟨⟨kind3, b3, neg3, dg3, ex3, u3, wd3, s3⟩, ho3⟩ : ∃ o, t.own = o := ⟨_, rfl⟩
      have HO3 := Lib.hid ho3
      have HD : Hid (Calls Tryz.prog 39 #[.pointer (some ⟨w.heap.size + 1, 0, none⟩)] ((w.alloc (.cells zeroC 27)).alloc (.cells #[.string s, .int .i64 0] 60)) fun x w' => ((w.alloc (.cells zeroC 27)).alloc (.cells #[.string s, .int .i64 0] 60)).grownBy w' (some (w.heap.size + 1)) ∧ (∃ A n c, x = .returned (.tuple #[.agg #[.int .i64 kind3, .bool b3, .bool neg3, .string dg3, .int .i64 ex3, .int .u64 u3, .int .i64 wd3, .string s3, .slice A n c], .nilIface]) ∧ LAt w' (fun q => ((w.alloc (.cells zeroC 27)).alloc (.cells #[.string s, .int .i64 0] 60)).heap.size ≤ q ∧ q < w'.heap.size) 16 t.kids (.slice A n c)) ∧ OwnOk t.own ∧ RdJ w' (w.heap.size + 1) (bsD r) 0 ∧ r.length ≤ s.size) := Lib.hid (by
        unfold ReadJ at HD
        simp only [nodeV, ho3] at HD
        rw [ho3]
        exact HD)
      have HT := Lib.hid (fun W (_ : ErrTyJ W) => jr_told0 W)
      simp only []
      clear hx ho3
      go_enter Tryz.func25, Tryz.ntmps25
      go_wp2_with fail
      refine HD.out.mono ?_
      rintro x w3 ⟨hg3, ⟨A, n, c, rfl, hly⟩, hot, hr3, hs3⟩
      have hb3 := hb2.trans (grown_below hg3 (by omega) hr2.lt)
      have hk4' := (blk_gb hk2 hg3 (by omega)).alloc (.cells #[.int .i64 kind3, .bool b3, .bool neg3, .string dg3, .int .i64 ex3, .int .u64 u3, .int .i64 wd3, .string s3, .slice A n c] 27)
      have hb4' := hb3.alloc hb3.size (.cells #[.int .i64 kind3, .bool b3, .bool neg3, .string dg3, .int .i64 ex3, .int .u64 u3, .int .i64 wd3, .string s3, .slice A n c] 27)
      have hx4' := Blk.new w3 #[.int .i64 kind3, .bool b3, .bool neg3, .string dg3, .int .i64 ex3, .int .u64 u3, .int .i64 wd3, .string s3, .slice A n c] 27
      have hz3 := hg3.size
      have HLY := Lib.hid hly
      clear hly
      go_wp2_with fail
      obtain ⟨w4, hw4⟩ : ∃ x, w3.alloc (.cells #[.int .i64 kind3, .bool b3, .bool neg3, .string dg3, .int .i64 ex3, .int .u64 u3, .int .i64 wd3, .string s3, .slice A n c] 27) = x := ⟨_, rfl⟩
      have hb34 : Below w3.heap.size w3 w4 := by rw [← hw4]; exact (Below.refl _ _).alloc (Nat.le_refl _) _
      rw [hw4] at hk4' hb4' hx4'
      have hk4 : Blk w4.drew w.heap.size zeroC 27 := hk4'
      have hb4 := hb4'
      have hx4 : Blk w4.drew w3.heap.size #[.int .i64 kind3, .bool b3, .bool neg3, .string dg3, .int .i64 ex3, .int .u64 u3, .int .i64 wd3, .string s3, .slice A n c] 27 := hx4'
      have HTY4 : Hid (ErrTyJ w4.drew) := Lib.hid (HTY.out w4 hb4)
      first | rw [hw4] | skip
      refine wp_region_allG (R := fun A B => A.grownBy B (some w.heap.size)) (by kernel_rfl) (by kernel_rfl) (fun _ => grown_refl _ _) (by kernel_rfl) (fun Wx => Blk Wx w3.heap.size #[.int .i64 kind3, .bool b3, .bool neg3, .string dg3, .int .i64 ex3, .int .u64 u3, .int .i64 wd3, .string s3, .slice A n c] 27 ∧ ErrTyJ Wx)
        [fun env _ => env 0 = .agg #[.int .i64 kind3, .bool b3, .bool neg3, .string dg3, .int .i64 ex3, .int .u64 u3, .int .i64 wd3, .string s3, .slice A n c], fun env _ => env 1 = .nilIface, fun env _ => env 2 = .int .i64 0, fun _ _ => True, fun env _ => env 4 = .int .i64 0]
        (fun sel _ Wx => w4.grownBy Wx (some w.heap.size) ∧ Blk Wx w.heap.size (if sel 3 = true then #[.int .i64 kind3, .bool b3, .bool neg3, .string dg3, .int .i64 ex3, .int .u64 u3, .int .i64 wd3, .string s3, .slice A n c] else zeroC) 27) ?_ ?_ ?_ ?_ ?_ ?_
      case refine_1 => exact ⟨hx4, HTY4.out⟩
      case refine_2 => exact fun _ => ⟨grown_drew w4 _ 1, hk4⟩
      case refine_3 => exact fun A B hE hg => ⟨blk_gb hE.1 hg (by omega), ety_grown hE.2 hg (by omega)⟩
      case refine_4 =>
        intro i o env env' A B ho hk _ hp _
        have e : ∀ k, k = i → env' k = env k := fun k h => (hk k (.inl h)).symm
        unfold phisG at hp ⊢
        match i, ho, hp, e with
        | 0, _, hp, e => exact (e 0 rfl).trans hp
        | 1, _, hp, e => exact (e 1 rfl).trans hp
        | 2, _, hp, e => exact (e 2 rfl).trans hp
        | 3, _, _, _ => trivial
        | 4, _, hp, e => exact (e 4 rfl).trans hp
        | i + 5, ho, _, _ => simp at ho
      case refine_5 =>
        refine flow_consG (flow_opG rfl rfl (by kernel_rfl) (by kernel_rfl) ?_) ?_
        · intro sel env W hE hn hx hs hwt ρ hρ hc hf hg K hK
          have r5 : ρ (.tmp 5) = .pointer (some ⟨w3.heap.size, 0, none⟩) := by rw [hρ]; kernel_rfl
          clear hρ hg
          exact lands_load_row 27 (.tmp 5) rfl w3.heap.size r5 27 _ (0, 0) _ hE.1 Tryz.underlying27 rfl (by kernel_rfl) (hK _ _ (updV_self _ _ _) ⟨hx.1, by rw [updB_ne sel (show (3 : Nat) ≠ 0 by decide)]; exact hx.2⟩ (grown_refl _ _))
        refine flow_consG (flow_opG rfl rfl (by kernel_rfl) (by kernel_rfl) ?_) ?_
        · intro sel env W hE hn hx hs hwt ρ hρ hc hf hg K hK
          have r6 : ρ (.tmp 6) = .nilIface := by rw [hρ]; kernel_rfl
          clear hρ hg
          simp [opLands, go_sem, r6]
          exact hK _ _ (updV_self _ _ _) ⟨hx.1, by rw [updB_ne sel (show (3 : Nat) ≠ 1 by decide)]; exact hx.2⟩ (grown_refl _ _)
        refine flow_consG (flow_opG rfl rfl (by kernel_rfl) (by kernel_rfl) ?_) ?_
        · intro sel env W hE hn hx hs hwt ρ hρ hc hf hg K hK
          have r21 := (show ρ (.tmp 21) = env 1 by rw [hρ]; kernel_rfl).trans (hn 1 (hwt 1 (by kernel_rfl)))
          clear hρ hg
          refine lands_call rfl (by kernel_rfl) hf ?_
          simp only [List.map_toArray, List.map_cons, List.map_nil, r21]
          refine (HT.out W hE.2).mono ?_
          rintro e w'' ⟨rfl, hbt⟩
          exact ⟨_, rfl, hK _ _ (updV_self _ _ _) ⟨grown_of hx.1 hbt, by rw [updB_ne sel (show (3 : Nat) ≠ 2 by decide)]; exact hx.2.below hbt hx.2.lt⟩ (below_grown hbt _)⟩
        refine flow_consG (flow_op0G rfl rfl (by kernel_rfl) rfl ?_) ?_
        · intro sel env W hE hn hx hs hwt ρ hρ hc hf hg K hK
          have r2 : ρ (.tmp 2) = .pointer (some ⟨w.heap.size, 0, none⟩) := by rw [hρ]; kernel_rfl
          have r20 := (show ρ (.tmp 20) = env 0 by rw [hρ]; kernel_rfl).trans (hn 0 (hwt 0 (by kernel_rfl)))
          clear hρ hg
          have hb := hx.2
          rw [hs, if_neg (by decide)] at hb
          exact lands_store_row 27 (.tmp 2) (.tmp 20) rfl w.heap.size #[.int .i64 kind3, .bool b3, .bool neg3, .string dg3, .int .i64 ex3, .int .u64 u3, .int .i64 wd3, .string s3, .slice A n c] r2 r20 27 _ hb (by kernel_rfl) rfl (by simp [Value.oneCell']) (hK undef _ trivial ⟨grown_trans hx.1 (grown_row _ _ _), by rw [updB_self, if_pos rfl]; exact blk_row hb _⟩ (grown_row _ _ _))
        refine flow_consG (flow_opG rfl rfl (by kernel_rfl) (by kernel_rfl) ?_) flow_nilG
        · intro sel env W hE hn hx hs hwt ρ hρ hc hf hg K hK
          have r22 := (show ρ (.tmp 22) = env 2 by rw [hρ]; kernel_rfl).trans (hn 2 (hwt 2 (by kernel_rfl)))
          clear hρ hg
          simp [opLands, go_sem, r22]
          exact hK _ _ (updV_self _ _ _) ⟨hx.1, by rw [updB_ne sel (show (3 : Nat) ≠ 4 by decide)]; exact hx.2⟩ (grown_refl _ _)
      case refine_6 =>
        intro env W hE hn hx
        have e4 : env 4 = .int .i64 0 := hn 4 (by decide)
        have hk7 : Blk W w.heap.size #[.int .i64 kind3, .bool b3, .bool neg3, .string dg3, .int .i64 ex3, .int .u64 u3, .int .i64 wd3, .string s3, .slice A n c] 27 := hx.2
        have hgW := hx.1
        have hgE := grown_trans (below_grown hb4 (some w.heap.size)) hgW
        have hbF : Below w.heap.size w W := ⟨hgE.os, hgE.tape, hgE.output, hgE.size, fun q hq => hgE.block q hq (fun e => by injection e with e; omega)⟩
        refine (‹∀ (a : Act) (w : World), Code.wp _ Code.ret _ a w → _›) _ _ (wp_ret ?_)
        refine bodyPost_ret (results_cell (T := 27) (b := w.heap.size) rfl (by kernel_rfl) ((show _ = env 4 by kernel_rfl).trans e4) hk7 Tryz.underlying27 rfl (by kernel_rfl)) rfl ?_
        refine ⟨hbF, A, n, c, by rw [HO3.out]; rfl, ?_, hot⟩
        have hz4 := hb34.size
        have hzW := hgW.size
        refine (((HLY.out.keep (W' := w4) (fun q hq => hb34.block q hq.2)).keep (W' := W) (fun q hq => hgW.block q (by omega) (fun e => by injection e with e; have := hq.1; omega))).mono (fun q hq => ⟨by have := hq.1; omega, by have := hq.2; omega⟩))

set_option maxHeartbeats 4000000 in
set_option maxRecDepth 100000 in
theorem jr_Valid {uT uQ aT aF : Addr} (s : ByteArray) (hs : s.size ≤ 100000000) (w : World) (h : JRW w uT uQ aT aF) :
    Calls Tryz.prog 27 #[.string s] w fun x w' => x = .returned (.bool ((readJ uqJ s.data.toList).1 == 0)) ∧ Below w.heap.size w w' := by
  have HR := Lib.hid (jr_Read s hs w h)
  obtain ⟨⟨e, t⟩, hx⟩ : ∃ x, readJ uqJ s.data.toList = x := ⟨_, rfl⟩
  rw [hx] at HR ⊢
  have HR : Hid (Calls Tryz.prog 25 #[.string s] w fun x w' => Below w.heap.size w w' ∧ ∃ A n c, x = .returned (.tuple #[nodeV t.own (.slice A n c), .int .i64 e]) ∧ LAt w' (fun q => w.heap.size ≤ q ∧ q < w'.heap.size) 16 t.kids (.slice A n c) ∧ OwnOk t.own) := HR
  obtain ⟨bb, hbb⟩ : ∃ b, (e == 0) = b := ⟨_, rfl⟩
  simp only []
  rw [hbb]
  clear hx h
  go_enter Tryz.func27, Tryz.ntmps27
  go_wp2_with fail
  refine HR.out.mono ?_
  rintro x w2 ⟨hb2, A, n, c, rfl, _, _⟩
  unfold nodeV
  have hb3 := fun o => hb2.alloc hb2.size o
  go_wp2_with fail
  go_ret
  exact ⟨rfl, hb3 _⟩
end Go.Proofs.YtfckekaegjjmkaaGreatDoor
namespace Go.Proofs.YtfckekaegjjmkaaGreatDoor
open Go.RowKit Go.Shelf
attribute [local go_sem] Oper.semAt_some

abbrev q1A : Tr := .nd { zeroO with kind := 7 } [.nd { zeroO with kind := 3, dg := ⟨#[49]⟩ } [], .nd { zeroO with kind := 3, dg := ⟨#[50, 53]⟩, ex := -1 } []]
abbrev q1L : List Tr := [.nd { zeroO with kind := 5, s := ⟨#[97]⟩ } [], q1A]
abbrev q1T : Tr := .nd { zeroO with kind := 8 } q1L
abbrev q3L : List Tr := [.nd { zeroO with kind := 5, s := ⟨#[97]⟩ } [], .nd { zeroO with kind := 3, dg := ⟨#[49]⟩ } [], .nd { zeroO with kind := 5, s := ⟨#[97]⟩ } [], .nd { zeroO with kind := 3, dg := ⟨#[50]⟩ } []]
abbrev q3T : Tr := .nd { zeroO with kind := 8 } q3L
theorem q1_value : valueJ uqJ 15 16 [123, 34, 97, 34, 58, 91, 49, 44, 50, 46, 53, 48, 93, 125] = .good q1T [] := by kernel_rfl
theorem q2_value : valueJ uqJ 5 16 [91, 49, 44, 93] = .bad 80 := by kernel_rfl
theorem q3_value : valueJ uqJ 14 16 [123, 34, 97, 34, 58, 49, 44, 34, 97, 34, 58, 50, 125] = .good q3T [] := by kernel_rfl
theorem q4_value : valueJ uqJ 5 16 [110, 117, 108, 108] = .good nilT [] := by kernel_rfl
theorem q1_keys : keysB q1L = true := by
  unfold keysB
  refine @decide_eq_true _ (Classical.propDecidable _) ?_
  intro i k hi hk h1 h2
  simp only [List.length_cons, List.length_nil] at hi
  omega
theorem q3_keys : keysB q3L = false := by
  unfold keysB
  refine @decide_eq_false _ (Classical.propDecidable _) ?_
  intro h
  have := h 2 0 (by decide) (by decide) (by decide) (by decide)
  have h2 : sameT (.nd { zeroO with kind := 5, s := ⟨#[97]⟩ } []) (.nd { zeroO with kind := 5, s := ⟨#[97]⟩ } []) = true := by decide +kernel
  exact absurd (h2.symm.trans this) (by decide)
theorem q1_right : rightT q1T = true := by
  unfold rightT
  have h1 : q1T.count ≤ 300 := by decide +kernel
  have h2 : q1T.depth ≤ 16 := by decide +kernel
  rw [decide_eq_true h1, decide_eq_true h2, allB]
  have hv : Lib.validD (⟨#[97]⟩ : ByteArray).data.toList = true := by decide +kernel
  have d1 : decOk false ⟨#[49]⟩ 0 = true := by decide +kernel
  have d2 : decOk false ⟨#[50, 53]⟩ (-1) = true := by decide +kernel
  have ho : ownB { zeroO with kind := 8 } q1L = true := by
    simp [ownB, q1_keys, onlyB]
  have e1 : ownB { zeroO with kind := 5, s := ⟨#[97]⟩ } [] = true := by
    simp [ownB, onlyB, hv]
    decide
  have e2 : ownB { zeroO with kind := 3, dg := ⟨#[49]⟩ } [] = true := by
    simp [ownB, onlyB, d1]
  have e3 : ownB { zeroO with kind := 3, dg := ⟨#[50, 53]⟩, ex := -1 } [] = true := by
    simp [ownB, onlyB, d2]
  have e4 : ownB { zeroO with kind := 7 } [.nd { zeroO with kind := 3, dg := ⟨#[49]⟩ } [], .nd { zeroO with kind := 3, dg := ⟨#[50, 53]⟩, ex := -1 } []] = true := by
    simp [ownB, onlyB]
  rw [ho, allL, allL, allL, allB, allB, e1, e4, allL, allL, allL, allB, allB, allL, e2, e3]
  rfl
theorem q3_right : rightT q3T = false := by
  unfold rightT
  have ho : ownB { zeroO with kind := 8 } q3L = false := by
    simp [ownB, q3_keys, onlyB]
  rw [allB, ho, Bool.false_and, Bool.and_false, Bool.and_false]
theorem q4_right : rightT nilT = true := by
  unfold rightT
  have h1 : nilT.count ≤ 300 := by decide +kernel
  have h2 : nilT.depth ≤ 16 := by decide +kernel
  have h3 : ownB { zeroO with kind := 1 } [] = true := by
    simp [ownB, onlyB]
  rw [decide_eq_true h1, decide_eq_true h2]
  unfold nilT
  rw [allB, h3, allL]
  rfl
theorem rj_1 : readJ uqJ [123, 34, 97, 34, 58, 91, 49, 44, 50, 46, 53, 48, 93, 125] = (0, q1T) := by
  unfold readJ docJ
  rw [if_neg (by decide), show spJ [123, 34, 97, 34, 58, 91, 49, 44, 50, 46, 53, 48, 93, 125] = [123, 34, 97, 34, 58, 91, 49, 44, 50, 46, 53, 48, 93, 125] from rfl]
  rw [show ([123, 34, 97, 34, 58, 91, 49, 44, 50, 46, 53, 48, 93, 125] : List UInt8).length + 1 = 15 from rfl, q1_value]
  simp only []
  rw [if_neg (by decide), if_pos q1_right]
theorem rj_2 : readJ uqJ [91, 49, 44, 93] = (80, .nd zeroO []) := by
  unfold readJ docJ
  rw [if_neg (by decide), show spJ [91, 49, 44, 93] = [91, 49, 44, 93] from rfl]
  rw [show ([91, 49, 44, 93] : List UInt8).length + 1 = 5 from rfl, q2_value]
theorem rj_3 : readJ uqJ [123, 34, 97, 34, 58, 49, 44, 34, 97, 34, 58, 50, 125] = (60, .nd zeroO []) := by
  unfold readJ docJ
  rw [if_neg (by decide), show spJ [123, 34, 97, 34, 58, 49, 44, 34, 97, 34, 58, 50, 125] = [123, 34, 97, 34, 58, 49, 44, 34, 97, 34, 58, 50, 125] from rfl]
  rw [show ([123, 34, 97, 34, 58, 49, 44, 34, 97, 34, 58, 50, 125] : List UInt8).length + 1 = 14 from rfl, q3_value]
  simp only []
  rw [if_neg (by decide), if_neg (by rw [q3_right]; decide)]
theorem rj_4 : readJ uqJ [110, 117, 108, 108] = (0, nilT) := by
  unfold readJ docJ
  rw [if_neg (by decide), show spJ [110, 117, 108, 108] = [110, 117, 108, 108] from rfl]
  rw [show ([110, 117, 108, 108] : List UInt8).length + 1 = 5 from rfl, q4_value]
  simp only []
  rw [if_neg (by decide), if_pos q4_right]
theorem LAt.lenJ {W : World} {S : Nat → Prop} {d n c : Nat} {l : List Tr} {A : Option Addr} (h : LAt W S d l (.slice A n c)) : n = l.length := by
  obtain ⟨_, A', c', e⟩ := h.slice
  injection e
set_option maxHeartbeats 4000000 in
set_option maxRecDepth 100000 in
theorem jr_shown {uT uQ aT aF : Addr} (w : World) (h : JRW w uT uQ aT aF) :
    Calls Tryz.prog 24 #[] w fun e w' => e = .returned (.bool true) ∧ Below w.heap.size w w' := by
  have H1 := Lib.hid (jr_Read ⟨#[123, 34, 97, 34, 58, 91, 49, 44, 50, 46, 53, 48, 93, 125]⟩ (by decide) w h)
  have H2 := Lib.hid (fun W (hb : Below w.heap.size w W) => jr_Read ⟨#[91, 49, 44, 93]⟩ (by decide) W (h.below hb))
  have H3 := Lib.hid (fun W (hb : Below w.heap.size w W) => jr_Read ⟨#[123, 34, 97, 34, 58, 49, 44, 34, 97, 34, 58, 50, 125]⟩ (by decide) W (h.below hb))
  have H4 := Lib.hid (fun W (hb : Below w.heap.size w W) => jr_Valid ⟨#[110, 117, 108, 108]⟩ (by decide) W (h.below hb))
  rw [rj_1] at H1
  simp only [rj_2] at H2
  simp only [rj_3] at H3
  simp only [rj_4] at H4
  clear h
  go_enter Tryz.func24, Tryz.ntmps24
  go_wp2_with fail
  refine H1.out.mono ?_
  rintro x w1 ⟨hb1, A1, n1, c1, rfl, hl1, _⟩
  have e1 : n1 = 2 := hl1.lenJ
  clear hl1
  subst e1
  rw [show nodeV q1T.own (.slice A1 2 c1) = .agg #[.int .i64 8, .bool false, .bool false, .string ⟨#[]⟩, .int .i64 0, .int .u64 0, .int .i64 0, .string ⟨#[]⟩, .slice A1 2 c1] from rfl]
  have hk1 := Blk.new w1 #[.int .i64 8, .bool false, .bool false, .string ⟨#[]⟩, .int .i64 0, .int .u64 0, .int .i64 0, .string ⟨#[]⟩, .slice A1 2 c1] 27
  have hb2 := hb1.alloc hb1.size (.cells #[.int .i64 8, .bool false, .bool false, .string ⟨#[]⟩, .int .i64 0, .int .u64 0, .int .i64 0, .string ⟨#[]⟩, .slice A1 2 c1] 27)
  go_wp2_with fail
  refine (H2.out _ hb2).mono ?_
  rintro x w3 ⟨hb3, A2, n2, c2, rfl, hl2, _⟩
  clear hl2
  rw [show nodeV (Tr.nd zeroO []).own (.slice A2 n2 c2) = .agg #[.int .i64 0, .bool false, .bool false, .string ⟨#[]⟩, .int .i64 0, .int .u64 0, .int .i64 0, .string ⟨#[]⟩, .slice A2 n2 c2] from rfl]
  have hk3 := (hk1.below hb3 hk1.lt).alloc (.cells #[.int .i64 0, .bool false, .bool false, .string ⟨#[]⟩, .int .i64 0, .int .u64 0, .int .i64 0, .string ⟨#[]⟩, .slice A2 n2 c2] 27)
  have hb4 := hb2.trans (hb3.mono hb2.size)
  have hb5 := hb4.alloc hb4.size (.cells #[.int .i64 0, .bool false, .bool false, .string ⟨#[]⟩, .int .i64 0, .int .u64 0, .int .i64 0, .string ⟨#[]⟩, .slice A2 n2 c2] 27)
  clear H1 H2 hk1 hb3 hb1
  go_wp2_with fail
  refine (H3.out _ hb5).mono ?_
  rintro x w5 ⟨hb6, A3, n3, c3, rfl, hl3, _⟩
  clear hl3
  rw [show nodeV (Tr.nd zeroO []).own (.slice A3 n3 c3) = .agg #[.int .i64 0, .bool false, .bool false, .string ⟨#[]⟩, .int .i64 0, .int .u64 0, .int .i64 0, .string ⟨#[]⟩, .slice A3 n3 c3] from rfl]
  have hk7 := (hk3.below hb6 hk3.lt).alloc (.cells #[.int .i64 0, .bool false, .bool false, .string ⟨#[]⟩, .int .i64 0, .int .u64 0, .int .i64 0, .string ⟨#[]⟩, .slice A3 n3 c3] 27)
  have hb7 := hb5.trans (hb6.mono hb5.size)
  have hb8 := hb7.alloc hb7.size (.cells #[.int .i64 0, .bool false, .bool false, .string ⟨#[]⟩, .int .i64 0, .int .u64 0, .int .i64 0, .string ⟨#[]⟩, .slice A3 n3 c3] 27)
  have z0 := hk7.cell 0
  have z8 := hk7.cell 8
  clear H3
  go_wp2_with fail
  refine (H4.out _ hb8).mono ?_
  rintro x w9 ⟨rfl, hb9⟩
  clear z0 z8
  go_wp2_with fail
  go_ret
  exact ⟨rfl, hb8.trans (hb9.mono hb8.size)⟩
end Go.Proofs.YtfckekaegjjmkaaGreatDoor
namespace Go.Proofs.YtfckekaegjjmkaaGreatDoor
open Go.RowKit Go.Shelf
attribute [local go_sem] Oper.semAt_some


end Go.Proofs.YtfckekaegjjmkaaGreatDoor
namespace Go.Proofs.YtfckekaegjjmkaaGreatDoor
open Go.RowKit Go.Shelf

section
variable {U : List UInt8 → Option (List UInt8 × List UInt8)} (hU3 : ∀ l s r, U l = some (s, r) → ∃ o, l = o ++ 34 :: r)
include hU3
omit hU3 in
end
end Go.Proofs.YtfckekaegjjmkaaGreatDoor
namespace Go.Proofs.YtfckekaegjjmkaaGreatDoor
open Go.RowKit Go.Shelf

section
variable {U : List UInt8 → Option (List UInt8 × List UInt8)} (hU2 : ∀ l s r, U l = some (s, r) → ∃ own, own ≠ [] ∧ l = own ++ r ∧ ∀ m, U (own ++ m) = some (s, m)) (hU3 : ∀ l s r, U l = some (s, r) → ∃ o, l = o ++ 34 :: r)
include hU2
omit hU2 in
include hU3
end
end Go.Proofs.YtfckekaegjjmkaaGreatDoor
namespace Go.Proofs.YtfckekaegjjmkaaGreatDoor
open Go.RowKit Go.Shelf

end Go.Proofs.YtfckekaegjjmkaaGreatDoor
namespace Go.Proofs.YtfckekaegjjmkaaGreatDoor
open Go.RowKit Go.Shelf

end Go.Proofs.YtfckekaegjjmkaaGreatDoor
