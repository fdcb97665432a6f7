/- The texts JrP, put together. -/
import Derived.Test.YtfckekaegjjmkaaGreatDoorPf45
import Derived.Test.YtfckekaegjjmkaaGreatDoorPf20
namespace Go.Proofs.YtfckekaegjjmkaaGreatDoor
open Go.RowKit Go.Shelf
attribute [local go_sem] Oper.semAt_some

theorem ety_grown {A B : World} {p : Nat} (h : ErrTyJ A) (hg : A.grownBy B (some p)) (hp : 2 ≠ p) : ErrTyJ B := by
  have hlt := World.block_lt_of_cell? A ⟨2, 0, none⟩ h
  have hb := hg.block 2 hlt (fun e => hp (by injection e))
  have h' : A.cell? ⟨2, 0, none⟩ = _ := h
  show B.cell? ⟨2, 0, none⟩ = _
  unfold World.cell? at h' ⊢
  simp only [hb]
  exact h'
/-- What Read tells. -/
def ReadP (w : World) (res : Int × Tr) (x : Ending) (w' : World) : Prop := Below w.heap.size w w' ∧ ∃ A n c, x = .returned (.tuple #[nodeV res.2.own (.slice A n c), .int .i64 res.1]) ∧ LAt w' (fun q => w.heap.size ≤ q ∧ q < w'.heap.size) 16 res.2.kids (.slice A n c) ∧ OwnOk res.2.own
theorem own_zero : OwnOk zeroO := ⟨by decide, by decide, by decide, by decide, by decide, by decide⟩

set_option maxHeartbeats 8000000 in
set_option maxRecDepth 100000 in
theorem jr_Read {uT uQ aT aF : Addr} (s : ByteArray) (hs : s.size ≤ 100000000) (w : World) (h : JRW w uT uQ aT aF) :
    Calls Tryz.prog 25 #[.string s] w (ReadP w (readJ uqJ s.data.toList)) := by
  have hsl : s.data.toList.length = s.size := by simp
  have hgl : 2 < w.heap.size := World.block_lt_of_cell? w ⟨2, 0, none⟩ h.ty
  unfold readJ
  by_cases h4 : 4000 < s.data.toList.length
  · rw [if_pos h4]
    rw [hsl] at h4
    have y1 : (4000 : Int) < s.size := by omega
    have hk1 := Blk.new w zeroC 27
    have hb1 : Below w.heap.size w (w.alloc (.cells zeroC 27)) := (Below.refl _ w).alloc (Nat.le_refl _) _
    clear h4 hsl h
    go_enter Tryz.func25, Tryz.ntmps25
    go_wp2_with (refine wpList_store_row rfl 27 (.tmp 2) (.tmp 10) rfl (w.heap.size) zeroC rfl rfl 27 _ hk1 (by kernel_rfl) rfl (by simp [Value.oneCell']) ?_)
    refine bodyPost_ret (results_cell (T := 27) rfl rfl rfl (blk_row hk1 zeroC) Tryz.underlying27 rfl (by kernel_rfl)) rfl ?_
    exact ⟨hb1.grown (grown_row _ _ _) hb1.size (fun q e => by cases e; omega), none, 0, 0, rfl, LAt.nil _ _ _ _ _, own_zero⟩
  · rw [if_neg h4]
    rw [hsl] at h4 ⊢
    have y1 : ¬ (4000 : Int) < s.size := by omega
    have hb2 : Below w.heap.size w ((w.alloc (.cells zeroC 27)).alloc (.cells #[.string s, .int .i64 0] 60)) := ((Below.refl _ w).alloc (Nat.le_refl _) _).alloc (by simp) _
    have hk2 := (Blk.new w zeroC 27).alloc (.cells #[.string s, .int .i64 0] 60)
    have hr2 : RdJ ((w.alloc (.cells zeroC 27)).alloc (.cells #[.string s, .int .i64 0] 60)) (w.heap.size + 1) s 0 := by
      have := Blk.new (w.alloc (.cells zeroC 27)) #[.string s, .int .i64 0] 60
      rw [World.size_alloc] at this
      exact this
    have hz2 : ((w.alloc (.cells zeroC 27)).alloc (.cells #[.string s, .int .i64 0] 60)).heap.size = w.heap.size + 2 := by simp
    have HD := jr_document h (s.size + 1) (w.heap.size + 1) s ((w.alloc (.cells zeroC 27)).alloc (.cells #[.string s, .int .i64 0] 60)) hb2 (by omega) hr2 hs (Nat.lt_succ_self _)
    have HTY := Lib.hid (fun W (hb : Below w.heap.size w W) => (h.below hb).ty)
    clear h hsl h4
    cases hx : docJ uqJ (s.size + 1) s.data.toList with
    | bad e =>
      rw [hx] at HD
      have HD : Hid (Calls Tryz.prog 39 #[.pointer (some ⟨w.heap.size + 1, 0, none⟩)] ((w.alloc (.cells zeroC 27)).alloc (.cells #[.string s, .int .i64 0] 60)) fun x w' => ((w.alloc (.cells zeroC 27)).alloc (.cells #[.string s, .int .i64 0] 60)).grownBy w' (some (w.heap.size + 1)) ∧ (x = .returned (.tuple #[.agg zeroC, errJ e]) ∧ (e = 60 ∨ e = 80)) ∧ ∃ s' d', RdJ w' (w.heap.size + 1) s' d' ∧ s'.size ≤ s.size) := Lib.hid HD
      have HT := Lib.hid (fun W (h : ErrTyJ W) => jr_told e W h)
      simp only []
      clear hx
      obtain ⟨tv, hy⟩ : ∃ y, errJ e = .iface 91 y := ⟨_, rfl⟩
      rw [hy] at HD HT
      clear hy
      go_enter Tryz.func25, Tryz.ntmps25
      go_wp2_with fail
      refine HD.out.mono ?_
      rintro x w3 ⟨hg3, ⟨rfl, he⟩, s', d', hr3, hs3⟩
      have hb3 := hb2.trans (grown_below hg3 (by omega) hr2.lt)
      have hk4' := (blk_gb hk2 hg3 (by omega)).alloc (.cells zeroC 27)
      have hb4' := hb3.alloc hb3.size (.cells zeroC 27)
      have hx4' := Blk.new w3 zeroC 27
      have hz3 := hg3.size
      go_wp2_with fail
      obtain ⟨w4, hw4⟩ : ∃ x, w3.alloc (.cells zeroC 27) = x := ⟨_, rfl⟩
      rw [hw4] at hk4' hb4' hx4'
      have hk4 : Blk w4.drew w.heap.size zeroC 27 := hk4'
      have hb4 := hb4'
      have hx4 : Blk w4.drew w3.heap.size zeroC 27 := hx4'
      have HTY4 : Hid (ErrTyJ w4.drew) := Lib.hid (HTY.out w4 hb4)
      first | rw [hw4] | skip
      refine wp_region_allG (R := fun A B => A.grownBy B (some w.heap.size)) (by kernel_rfl) (by kernel_rfl) (fun _ => grown_refl _ _) (by kernel_rfl) (fun Wx => Blk Wx w3.heap.size zeroC 27 ∧ ErrTyJ Wx)
        [fun env _ => env 0 = .agg zeroC, fun env _ => env 1 = .iface 91 tv, fun env _ => env 2 = .int .i64 e, fun _ _ => True, fun env _ => env 4 = .int .i64 e]
        (fun sel _ Wx => w4.grownBy Wx (some w.heap.size) ∧ Blk Wx w.heap.size (if sel 3 = true then zeroC else zeroC) 27) ?_ ?_ ?_ ?_ ?_ ?_
      case refine_1 => exact ⟨hx4, HTY4.out⟩
      case refine_2 => exact fun _ => ⟨grown_drew w4 _ 1, hk4⟩
      case refine_3 => exact fun A B hE hg => ⟨blk_gb hE.1 hg (by omega), ety_grown hE.2 hg (by omega)⟩
      case refine_4 =>
        intro i o env env' A B ho hk _ hp _
        have e : ∀ k, k = i → env' k = env k := fun k h => (hk k (.inl h)).symm
        unfold phisG at hp ⊢
        match i, ho, hp, e with
        | 0, _, hp, e => exact (e 0 rfl).trans hp
        | 1, _, hp, e => exact (e 1 rfl).trans hp
        | 2, _, hp, e => exact (e 2 rfl).trans hp
        | 3, _, _, _ => trivial
        | 4, _, hp, e => exact (e 4 rfl).trans hp
        | i + 5, ho, _, _ => simp at ho
      case refine_5 =>
        refine flow_consG (flow_opG rfl rfl (by kernel_rfl) (by kernel_rfl) ?_) ?_
        · intro sel env W hE hn hx hs hwt ρ hρ hc hf hg K hK
          have r5 : ρ (.tmp 5) = .pointer (some ⟨w3.heap.size, 0, none⟩) := by rw [hρ]; kernel_rfl
          clear hρ hg
          exact lands_load_row 27 (.tmp 5) rfl w3.heap.size r5 27 _ (0, 0) _ hE.1 Tryz.underlying27 rfl (by kernel_rfl) (hK _ _ (updV_self _ _ _) ⟨hx.1, by rw [updB_ne sel (show (3 : Nat) ≠ 0 by decide)]; exact hx.2⟩ (grown_refl _ _))
        refine flow_consG (flow_opG rfl rfl (by kernel_rfl) (by kernel_rfl) ?_) ?_
        · intro sel env W hE hn hx hs hwt ρ hρ hc hf hg K hK
          have r6 : ρ (.tmp 6) = .iface 91 tv := by rw [hρ]; kernel_rfl
          clear hρ hg
          simp [opLands, go_sem, r6]
          exact hK _ _ (updV_self _ _ _) ⟨hx.1, by rw [updB_ne sel (show (3 : Nat) ≠ 1 by decide)]; exact hx.2⟩ (grown_refl _ _)
        refine flow_consG (flow_opG rfl rfl (by kernel_rfl) (by kernel_rfl) ?_) ?_
        · intro sel env W hE hn hx hs hwt ρ hρ hc hf hg K hK
          have r21 := (show ρ (.tmp 21) = env 1 by rw [hρ]; kernel_rfl).trans (hn 1 (hwt 1 (by kernel_rfl)))
          clear hρ hg
          refine lands_call rfl (by kernel_rfl) hf ?_
          simp only [List.map_toArray, List.map_cons, List.map_nil, r21]
          refine (HT.out W hE.2).mono ?_
          rintro e w'' ⟨rfl, hbt⟩
          exact ⟨_, rfl, hK _ _ (updV_self _ _ _) ⟨grown_of hx.1 hbt, by rw [updB_ne sel (show (3 : Nat) ≠ 2 by decide)]; exact hx.2.below hbt hx.2.lt⟩ (below_grown hbt _)⟩
        refine flow_consG (flow_op0G rfl rfl (by kernel_rfl) rfl ?_) ?_
        · intro sel env W hE hn hx hs hwt ρ hρ hc hf hg K hK
          have r2 : ρ (.tmp 2) = .pointer (some ⟨w.heap.size, 0, none⟩) := by rw [hρ]; kernel_rfl
          have r20 := (show ρ (.tmp 20) = env 0 by rw [hρ]; kernel_rfl).trans (hn 0 (hwt 0 (by kernel_rfl)))
          clear hρ hg
          have hb := hx.2
          rw [hs, if_neg (by decide)] at hb
          exact lands_store_row 27 (.tmp 2) (.tmp 20) rfl w.heap.size zeroC r2 r20 27 _ hb (by kernel_rfl) rfl (by simp [Value.oneCell']) (hK undef _ trivial ⟨grown_trans hx.1 (grown_row _ _ _), by rw [updB_self, if_pos rfl]; exact blk_row hb _⟩ (grown_row _ _ _))
        refine flow_consG (flow_opG rfl rfl (by kernel_rfl) (by kernel_rfl) ?_) flow_nilG
        · intro sel env W hE hn hx hs hwt ρ hρ hc hf hg K hK
          have r22 := (show ρ (.tmp 22) = env 2 by rw [hρ]; kernel_rfl).trans (hn 2 (hwt 2 (by kernel_rfl)))
          clear hρ hg
          simp [opLands, go_sem, r22]
          exact hK _ _ (updV_self _ _ _) ⟨hx.1, by rw [updB_ne sel (show (3 : Nat) ≠ 4 by decide)]; exact hx.2⟩ (grown_refl _ _)
      case refine_6 =>
        intro env W hE hn hx
        have e4 : env 4 = .int .i64 e := hn 4 (by decide)
        have hk7 : Blk W w.heap.size zeroC 27 := hx.2
        have hgW := hx.1
        have hgE := grown_trans (below_grown hb4 (some w.heap.size)) hgW
        have hbF : Below w.heap.size w W := ⟨hgE.os, hgE.tape, hgE.output, hgE.size, fun q hq => hgE.block q hq (fun e => by injection e with e; omega)⟩
        refine (‹∀ (a : Act) (w : World), Code.wp _ Code.ret _ a w → _›) _ _ (wp_ret ?_)
        refine bodyPost_ret (results_cell (T := 27) (b := w.heap.size) rfl (by kernel_rfl) ((show _ = env 4 by kernel_rfl).trans e4) hk7 Tryz.underlying27 rfl (by kernel_rfl)) rfl ?_
        exact ⟨hbF, none, 0, 0, rfl, LAt.nil _ _ _ _ _, own_zero⟩
    | good t r =>
      rw [hx] at HD
      obtain ⟨⟨kind3, b3, neg3, dg3, ex3, u3, wd3, s3⟩, ho3⟩ : ∃ o, t.own = o := ⟨_, rfl⟩
      have HO3 := Lib.hid ho3
      have HD : Hid (Calls Tryz.prog 39 #[.pointer (some ⟨w.heap.size + 1, 0, none⟩)] ((w.alloc (.cells zeroC 27)).alloc (.cells #[.string s, .int .i64 0] 60)) fun x w' => ((w.alloc (.cells zeroC 27)).alloc (.cells #[.string s, .int .i64 0] 60)).grownBy w' (some (w.heap.size + 1)) ∧ (∃ A n c, x = .returned (.tuple #[.agg #[.int .i64 kind3, .bool b3, .bool neg3, .string dg3, .int .i64 ex3, .int .u64 u3, .int .i64 wd3, .string s3, .slice A n c], .nilIface]) ∧ LAt w' (fun q => ((w.alloc (.cells zeroC 27)).alloc (.cells #[.string s, .int .i64 0] 60)).heap.size ≤ q ∧ q < w'.heap.size) 16 t.kids (.slice A n c)) ∧ OwnOk t.own ∧ RdJ w' (w.heap.size + 1) (bsD r) 0 ∧ r.length ≤ s.size) := Lib.hid (by
        unfold ReadJ at HD
        simp only [nodeV, ho3] at HD
        rw [ho3]
        exact HD)
      have HT := Lib.hid (fun W (_ : ErrTyJ W) => jr_told0 W)
      simp only []
      clear hx ho3
      go_enter Tryz.func25, Tryz.ntmps25
      go_wp2_with fail
      refine HD.out.mono ?_
      rintro x w3 ⟨hg3, ⟨A, n, c, rfl, hly⟩, hot, hr3, hs3⟩
      have hb3 := hb2.trans (grown_below hg3 (by omega) hr2.lt)
      have hk4' := (blk_gb hk2 hg3 (by omega)).alloc (.cells #[.int .i64 kind3, .bool b3, .bool neg3, .string dg3, .int .i64 ex3, .int .u64 u3, .int .i64 wd3, .string s3, .slice A n c] 27)
      have hb4' := hb3.alloc hb3.size (.cells #[.int .i64 kind3, .bool b3, .bool neg3, .string dg3, .int .i64 ex3, .int .u64 u3, .int .i64 wd3, .string s3, .slice A n c] 27)
      have hx4' := Blk.new w3 #[.int .i64 kind3, .bool b3, .bool neg3, .string dg3, .int .i64 ex3, .int .u64 u3, .int .i64 wd3, .string s3, .slice A n c] 27
      have hz3 := hg3.size
      have HLY := Lib.hid hly
      clear hly
      go_wp2_with fail
      obtain ⟨w4, hw4⟩ : ∃ x, w3.alloc (.cells #[.int .i64 kind3, .bool b3, .bool neg3, .string dg3, .int .i64 ex3, .int .u64 u3, .int .i64 wd3, .string s3, .slice A n c] 27) = x := ⟨_, rfl⟩
      have hb34 : Below w3.heap.size w3 w4 := by rw [← hw4]; exact (Below.refl _ _).alloc (Nat.le_refl _) _
      rw [hw4] at hk4' hb4' hx4'
      have hk4 : Blk w4.drew w.heap.size zeroC 27 := hk4'
      have hb4 := hb4'
      have hx4 : Blk w4.drew w3.heap.size #[.int .i64 kind3, .bool b3, .bool neg3, .string dg3, .int .i64 ex3, .int .u64 u3, .int .i64 wd3, .string s3, .slice A n c] 27 := hx4'
      have HTY4 : Hid (ErrTyJ w4.drew) := Lib.hid (HTY.out w4 hb4)
      first | rw [hw4] | skip
      refine wp_region_allG (R := fun A B => A.grownBy B (some w.heap.size)) (by kernel_rfl) (by kernel_rfl) (fun _ => grown_refl _ _) (by kernel_rfl) (fun Wx => Blk Wx w3.heap.size #[.int .i64 kind3, .bool b3, .bool neg3, .string dg3, .int .i64 ex3, .int .u64 u3, .int .i64 wd3, .string s3, .slice A n c] 27 ∧ ErrTyJ Wx)
        [fun env _ => env 0 = .agg #[.int .i64 kind3, .bool b3, .bool neg3, .string dg3, .int .i64 ex3, .int .u64 u3, .int .i64 wd3, .string s3, .slice A n c], fun env _ => env 1 = .nilIface, fun env _ => env 2 = .int .i64 0, fun _ _ => True, fun env _ => env 4 = .int .i64 0]
        (fun sel _ Wx => w4.grownBy Wx (some w.heap.size) ∧ Blk Wx w.heap.size (if sel 3 = true then #[.int .i64 kind3, .bool b3, .bool neg3, .string dg3, .int .i64 ex3, .int .u64 u3, .int .i64 wd3, .string s3, .slice A n c] else zeroC) 27) ?_ ?_ ?_ ?_ ?_ ?_
      case refine_1 => exact ⟨hx4, HTY4.out⟩
      case refine_2 => exact fun _ => ⟨grown_drew w4 _ 1, hk4⟩
      case refine_3 => exact fun A B hE hg => ⟨blk_gb hE.1 hg (by omega), ety_grown hE.2 hg (by omega)⟩
      case refine_4 =>
        intro i o env env' A B ho hk _ hp _
        have e : ∀ k, k = i → env' k = env k := fun k h => (hk k (.inl h)).symm
        unfold phisG at hp ⊢
        match i, ho, hp, e with
        | 0, _, hp, e => exact (e 0 rfl).trans hp
        | 1, _, hp, e => exact (e 1 rfl).trans hp
        | 2, _, hp, e => exact (e 2 rfl).trans hp
        | 3, _, _, _ => trivial
        | 4, _, hp, e => exact (e 4 rfl).trans hp
        | i + 5, ho, _, _ => simp at ho
      case refine_5 =>
        refine flow_consG (flow_opG rfl rfl (by kernel_rfl) (by kernel_rfl) ?_) ?_
        · intro sel env W hE hn hx hs hwt ρ hρ hc hf hg K hK
          have r5 : ρ (.tmp 5) = .pointer (some ⟨w3.heap.size, 0, none⟩) := by rw [hρ]; kernel_rfl
          clear hρ hg
          exact lands_load_row 27 (.tmp 5) rfl w3.heap.size r5 27 _ (0, 0) _ hE.1 Tryz.underlying27 rfl (by kernel_rfl) (hK _ _ (updV_self _ _ _) ⟨hx.1, by rw [updB_ne sel (show (3 : Nat) ≠ 0 by decide)]; exact hx.2⟩ (grown_refl _ _))
        refine flow_consG (flow_opG rfl rfl (by kernel_rfl) (by kernel_rfl) ?_) ?_
        · intro sel env W hE hn hx hs hwt ρ hρ hc hf hg K hK
          have r6 : ρ (.tmp 6) = .nilIface := by rw [hρ]; kernel_rfl
          clear hρ hg
          simp [opLands, go_sem, r6]
          exact hK _ _ (updV_self _ _ _) ⟨hx.1, by rw [updB_ne sel (show (3 : Nat) ≠ 1 by decide)]; exact hx.2⟩ (grown_refl _ _)
        refine flow_consG (flow_opG rfl rfl (by kernel_rfl) (by kernel_rfl) ?_) ?_
        · intro sel env W hE hn hx hs hwt ρ hρ hc hf hg K hK
          have r21 := (show ρ (.tmp 21) = env 1 by rw [hρ]; kernel_rfl).trans (hn 1 (hwt 1 (by kernel_rfl)))
          clear hρ hg
          refine lands_call rfl (by kernel_rfl) hf ?_
          simp only [List.map_toArray, List.map_cons, List.map_nil, r21]
          refine (HT.out W hE.2).mono ?_
          rintro e w'' ⟨rfl, hbt⟩
          exact ⟨_, rfl, hK _ _ (updV_self _ _ _) ⟨grown_of hx.1 hbt, by rw [updB_ne sel (show (3 : Nat) ≠ 2 by decide)]; exact hx.2.below hbt hx.2.lt⟩ (below_grown hbt _)⟩
        refine flow_consG (flow_op0G rfl rfl (by kernel_rfl) rfl ?_) ?_
        · intro sel env W hE hn hx hs hwt ρ hρ hc hf hg K hK
          have r2 : ρ (.tmp 2) = .pointer (some ⟨w.heap.size, 0, none⟩) := by rw [hρ]; kernel_rfl
          have r20 := (show ρ (.tmp 20) = env 0 by rw [hρ]; kernel_rfl).trans (hn 0 (hwt 0 (by kernel_rfl)))
          clear hρ hg
          have hb := hx.2
          rw [hs, if_neg (by decide)] at hb
          exact lands_store_row 27 (.tmp 2) (.tmp 20) rfl w.heap.size #[.int .i64 kind3, .bool b3, .bool neg3, .string dg3, .int .i64 ex3, .int .u64 u3, .int .i64 wd3, .string s3, .slice A n c] r2 r20 27 _ hb (by kernel_rfl) rfl (by simp [Value.oneCell']) (hK undef _ trivial ⟨grown_trans hx.1 (grown_row _ _ _), by rw [updB_self, if_pos rfl]; exact blk_row hb _⟩ (grown_row _ _ _))
        refine flow_consG (flow_opG rfl rfl (by kernel_rfl) (by kernel_rfl) ?_) flow_nilG
        · intro sel env W hE hn hx hs hwt ρ hρ hc hf hg K hK
          have r22 := (show ρ (.tmp 22) = env 2 by rw [hρ]; kernel_rfl).trans (hn 2 (hwt 2 (by kernel_rfl)))
          clear hρ hg
          simp [opLands, go_sem, r22]
          exact hK _ _ (updV_self _ _ _) ⟨hx.1, by rw [updB_ne sel (show (3 : Nat) ≠ 4 by decide)]; exact hx.2⟩ (grown_refl _ _)
      case refine_6 =>
        intro env W hE hn hx
        have e4 : env 4 = .int .i64 0 := hn 4 (by decide)
        have hk7 : Blk W w.heap.size #[.int .i64 kind3, .bool b3, .bool neg3, .string dg3, .int .i64 ex3, .int .u64 u3, .int .i64 wd3, .string s3, .slice A n c] 27 := hx.2
        have hgW := hx.1
        have hgE := grown_trans (below_grown hb4 (some w.heap.size)) hgW
        have hbF : Below w.heap.size w W := ⟨hgE.os, hgE.tape, hgE.output, hgE.size, fun q hq => hgE.block q hq (fun e => by injection e with e; omega)⟩
        refine (‹∀ (a : Act) (w : World), Code.wp _ Code.ret _ a w → _›) _ _ (wp_ret ?_)
        refine bodyPost_ret (results_cell (T := 27) (b := w.heap.size) rfl (by kernel_rfl) ((show _ = env 4 by kernel_rfl).trans e4) hk7 Tryz.underlying27 rfl (by kernel_rfl)) rfl ?_
        refine ⟨hbF, A, n, c, by rw [HO3.out]; rfl, ?_, hot⟩
        have hz4 := hb34.size
        have hzW := hgW.size
        refine (((HLY.out.keep (W' := w4) (fun q hq => hb34.block q hq.2)).keep (W' := W) (fun q hq => hgW.block q (by omega) (fun e => by injection e with e; have := hq.1; omega))).mono (fun q hq => ⟨by have := hq.1; omega, by have := hq.2; omega⟩))

set_option maxHeartbeats 4000000 in
set_option maxRecDepth 100000 in
theorem jr_Valid {uT uQ aT aF : Addr} (s : ByteArray) (hs : s.size ≤ 100000000) (w : World) (h : JRW w uT uQ aT aF) :
    Calls Tryz.prog 27 #[.string s] w fun x w' => x = .returned (.bool ((readJ uqJ s.data.toList).1 == 0)) ∧ Below w.heap.size w w' := by
  have HR := Lib.hid (jr_Read s hs w h)
  obtain ⟨⟨e, t⟩, hx⟩ : ∃ x, readJ uqJ s.data.toList = x := ⟨_, rfl⟩
  rw [hx] at HR ⊢
  have HR : Hid (Calls Tryz.prog 25 #[.string s] w fun x w' => Below w.heap.size w w' ∧ ∃ A n c, x = .returned (.tuple #[nodeV t.own (.slice A n c), .int .i64 e]) ∧ LAt w' (fun q => w.heap.size ≤ q ∧ q < w'.heap.size) 16 t.kids (.slice A n c) ∧ OwnOk t.own) := HR
  obtain ⟨bb, hbb⟩ : ∃ b, (e == 0) = b := ⟨_, rfl⟩
  simp only []
  rw [hbb]
  clear hx h
  go_enter Tryz.func27, Tryz.ntmps27
  go_wp2_with fail
  refine HR.out.mono ?_
  rintro x w2 ⟨hb2, A, n, c, rfl, _, _⟩
  unfold nodeV
  have hb3 := fun o => hb2.alloc hb2.size o
  go_wp2_with fail
  go_ret
  exact ⟨rfl, hb3 _⟩
end Go.Proofs.YtfckekaegjjmkaaGreatDoor
