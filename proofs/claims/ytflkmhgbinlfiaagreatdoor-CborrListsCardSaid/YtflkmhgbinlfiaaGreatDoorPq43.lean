/- The texts CrY, CrZ, put together. -/
import Derived.Test.YtflkmhgbinlfiaaGreatDoorPq42
import Derived.Test.YtflkmhgbinlfiaaGreatDoorPq27
import Derived.Test.YtflkmhgbinlfiaaGreatDoorPq07
namespace Go.Proofs.YtflkmhgbinlfiaaGreatDoor
open Go.RowKit Go.Shelf
attribute [local go_sem] Oper.semAt_some

/-- A function's results, the first of them in a block. -/
theorem results_cell3 {P : Program} {fn : Func} {tmps : Array Value} {W : World} {a s s2 b : Nat} {T t : TypeId} {cs : Array Value} {fr : Nat × Nat} {d : TypeDesc} {u u2 : Value} (hr : fn.results = #[.cell a T, .tmp s, .tmp s2])
    (ha : tmps.getD a undef = .pointer (some ⟨b, 0, none⟩)) (hs : tmps.getD s undef = u) (hs2 : tmps.getD s2 undef = u2) (hk : W.heap[b]? = some (.cells cs t fr))
    (hu : P.underlying T = some d) (hd : (match d with | .struct _ | .array _ _ => true | _ => false) = true) (hi : (P.info? T).map (·.size) = some cs.size) :
    (results fn tmps).run P W = .ok (.tuple #[.agg cs, u, u2]) W := by
  unfold results
  rw [hr]
  have h1 := run_loadVar_row (P := P) W b t T cs fr d hk hu hd hi
  rw [Array.getD_eq_getD_getElem?] at ha hs hs2
  simp [Array.mapM_eq_foldlM, ha, hs, hs2, asAddr, h1, Result.andThen]
/-- errors.errorType lies where it was laid. -/
abbrev ErrTy (w : World) : Prop := w.cell? ⟨2, 0, none⟩ = some (.iface 119 (.agg #[.pointer (some ⟨11, 53, none⟩)]))
abbrev Pow10 (w : World) : Prop := Lib.TabIs Tryz.prog w "internal/strconv.uint64pow10" .u64 Lib.pow10Tab
/-- What the reader asks of the world. -/
structure RW (w : World) (aT aF : Addr) : Prop where
  g : GW w aT aF
  tab : Pow10 w
  ty : ErrTy w
theorem RW.below {w w' : World} {aT aF : Addr} (h : RW w aT aF) (hb : Below w.heap.size w w') : RW w' aT aF where
  g := h.g.below hb
  tab := Lib.tabBelow_of_tabIs h.tab w' hb
  ty := cell_below hb h.ty
/-- What Item tells. -/
def itemC (s : ByteArray) : PR Tr := itemP (s.size + 1) 16 s.data.toList
def ItemPost (w : World) (s : ByteArray) (res : PR Tr) (x : Ending) (w' : World) : Prop := Below w.heap.size w w' ∧ match res with
  | .good t r => (∃ A n c, x = .returned (.tuple #[nodeV t.own (.slice A n c), .string (bs r), .int .i64 0]) ∧ LAt w' (fun q => w.heap.size ≤ q ∧ q < w'.heap.size) 16 t.kids (.slice A n c)) ∧ OwnOk t.own ∧ r.length + 1 ≤ s.size
  | .bad e => x = .returned (.tuple #[zeroN, .string s, .int .i64 e]) ∧ e ≠ 0

set_option maxHeartbeats 8000000 in
set_option maxRecDepth 100000 in
theorem cr_Item (s : ByteArray) (hs : s.size ≤ 1000000000) (w : World) (htab : Pow10 w) (hty : ErrTy w) :
    Calls Tryz.prog 14 #[.string s] w (ItemPost w s (itemC s)) := by
  have hit := cr_item (w0 := w) htab (s.size + 1) 16 (Nat.le_refl _)
  have HTY := Lib.hid (fun W (hb : Below w.heap.size w W) => (show ErrTy W from (hb.cell (p := ⟨2, 0, none⟩) (World.block_lt_of_cell? w ⟨2, 0, none⟩ hty)).trans hty))
  have hb1 := (Below.refl w.heap.size w).alloc (Nat.le_refl _) (.cells #[.int .i64 0, .bool false, .bool false, .string ⟨#[]⟩, .int .i64 0, .int .u64 0, .int .i64 0, .string ⟨#[]⟩, .slice none 0 0] 28)
  have hb2 := hb1.alloc hb1.size (.cells #[.string s, .int .i64 0] 64)
  have hk2 := (Blk.new w #[.int .i64 0, .bool false, .bool false, .string ⟨#[]⟩, .int .i64 0, .int .u64 0, .int .i64 0, .string ⟨#[]⟩, .slice none 0 0] 28).alloc (.cells #[.string s, .int .i64 0] 64)
  have hr2 := Blk.new (w.alloc (.cells #[.int .i64 0, .bool false, .bool false, .string ⟨#[]⟩, .int .i64 0, .int .u64 0, .int .i64 0, .string ⟨#[]⟩, .slice none 0 0] 28)) #[.string s, .int .i64 0] 64
  rw [World.size_alloc] at hr2
  have HI := Lib.hid (hit (w.heap.size + 1) s _ hb2 (by omega) hr2 hs (Nat.lt_succ_self _))
  have HI : Hid (Calls Tryz.prog 24 #[.pointer (some ⟨w.heap.size + 1, 0, none⟩)] ((w.alloc (.cells #[.int .i64 0, .bool false, .bool false, .string ⟨#[]⟩, .int .i64 0, .int .u64 0, .int .i64 0, .string ⟨#[]⟩, .slice none 0 0] 28)).alloc (.cells #[.string s, .int .i64 0] 64)) (ReadN (w.heap.size + 1) 0 16 ((w.alloc (.cells #[.int .i64 0, .bool false, .bool false, .string ⟨#[]⟩, .int .i64 0, .int .u64 0, .int .i64 0, .string ⟨#[]⟩, .slice none 0 0] 28)).alloc (.cells #[.string s, .int .i64 0] 64)) s (itemC s))) := HI
  have hsz2 : ((w.alloc (.cells #[.int .i64 0, .bool false, .bool false, .string ⟨#[]⟩, .int .i64 0, .int .u64 0, .int .i64 0, .string ⟨#[]⟩, .slice none 0 0] 28)).alloc (.cells #[.string s, .int .i64 0] 64)).heap.size = w.heap.size + 2 := by simp
  have hless : ∀ t r, itemC s = .good t r → r.length + 1 ≤ s.size := fun t r h => by
    have := item_less h
    have hl : s.data.toList.length = s.size := by simp
    omega
  have HLESS := Lib.hid hless
  clear htab hty hit hless
  cases hres : itemC s with
  | bad e =>
    rw [hres] at HI
    have HI : Hid (Calls Tryz.prog 24 #[.pointer (some ⟨w.heap.size + 1, 0, none⟩)] ((w.alloc (.cells #[.int .i64 0, .bool false, .bool false, .string ⟨#[]⟩, .int .i64 0, .int .u64 0, .int .i64 0, .string ⟨#[]⟩, .slice none 0 0] 28)).alloc (.cells #[.string s, .int .i64 0] 64)) fun x w' => ((w.alloc (.cells #[.int .i64 0, .bool false, .bool false, .string ⟨#[]⟩, .int .i64 0, .int .u64 0, .int .i64 0, .string ⟨#[]⟩, .slice none 0 0] 28)).alloc (.cells #[.string s, .int .i64 0] 64)).grownBy w' (some (w.heap.size + 1)) ∧ (∃ o A n c, x = .returned (.tuple #[nodeV o (.slice A n c), errW e])) ∧ e ≠ 0 ∧ ∃ s', RdB w' (w.heap.size + 1) s' 0 ∧ s'.size ≤ s.size) := HI
    show Calls _ _ _ _ fun x w' => Below w.heap.size w w' ∧ x = .returned (.tuple #[zeroN, .string s, .int .i64 e]) ∧ e ≠ 0
    have he : e ≠ 0 := errP_item _ _ _ _ hres
    clear hres
    skip
    · have HT := Lib.hid (fun W hb => cr_told e he W (HTY.out W hb))
      obtain ⟨ex, hex⟩ : ∃ x, errW e = .iface 95 x := ⟨_, errW_ne he⟩
      rw [hex] at HI HT
      have HE := Lib.hid he
      clear hex he
      go_enter Tryz.func14, Tryz.ntmps14
      go_wp2_with fail
      refine HI.out.mono ?_
      rintro x w3 ⟨hg3, ⟨⟨kind3, b3, neg3, dg3, ex3, u3, wd3, s3⟩, A, n, c, rfl⟩, _, s', hr3, hs3⟩
      unfold nodeV
      simp only []
      have hk4 := (RdB.grown hk2 hg3 (by omega)).alloc (.cells #[.int .i64 kind3, .bool b3, .bool neg3, .string dg3, .int .i64 ex3, .int .u64 u3, .int .i64 wd3, .string s3, .slice A n c] 28)
      have hb3 : Below w.heap.size w w3 := hb2.trans (grown_below hg3 (by omega) (by rw [hsz2]; omega))
      have hb4 := hb3.alloc hb3.size (.cells #[.int .i64 kind3, .bool b3, .bool neg3, .string dg3, .int .i64 ex3, .int .u64 u3, .int .i64 wd3, .string s3, .slice A n c] 28)
      go_wp2_with fail
      refine (HT.out _ hb4).mono ?_
      rintro x w5 ⟨rfl, hb5⟩
      have hk5 := hk4.below hb5 hk4.lt
      have hb6 := hb4.trans (hb5.mono hb4.size)
      go_wp2_with (refine wpList_store_row rfl 28 (.tmp 2) (.tmp 19) rfl (w.heap.size) #[.int .i64 0, .bool false, .bool false, .string ⟨#[]⟩, .int .i64 0, .int .u64 0, .int .i64 0, .string ⟨#[]⟩, .slice none 0 0] rfl rfl 28 _ hk5 (by kernel_rfl) rfl (by simp [Value.oneCell']) ?_)
      refine bodyPost_ret (results_cell3 (T := 28) rfl rfl rfl rfl (blk_row hk5 #[.int .i64 0, .bool false, .bool false, .string ⟨#[]⟩, .int .i64 0, .int .u64 0, .int .i64 0, .string ⟨#[]⟩, .slice none 0 0]) Tryz.underlying28 rfl (by kernel_rfl)) rfl ?_
      exact ⟨hb6.grown (grown_row _ w.heap.size _) hb6.size (fun q e => by cases e; omega), rfl, HE.out⟩
  | good t r =>
    rw [hres] at HI
    have hle := HLESS.out t r hres
    have HI : Hid (Calls Tryz.prog 24 #[.pointer (some ⟨w.heap.size + 1, 0, none⟩)] ((w.alloc (.cells #[.int .i64 0, .bool false, .bool false, .string ⟨#[]⟩, .int .i64 0, .int .u64 0, .int .i64 0, .string ⟨#[]⟩, .slice none 0 0] 28)).alloc (.cells #[.string s, .int .i64 0] 64)) fun x w' => ((w.alloc (.cells #[.int .i64 0, .bool false, .bool false, .string ⟨#[]⟩, .int .i64 0, .int .u64 0, .int .i64 0, .string ⟨#[]⟩, .slice none 0 0] 28)).alloc (.cells #[.string s, .int .i64 0] 64)).grownBy w' (some (w.heap.size + 1)) ∧ (∃ A n c, x = .returned (.tuple #[nodeV t.own (.slice A n c), .nilIface]) ∧ LAt w' (fun q => ((w.alloc (.cells #[.int .i64 0, .bool false, .bool false, .string ⟨#[]⟩, .int .i64 0, .int .u64 0, .int .i64 0, .string ⟨#[]⟩, .slice none 0 0] 28)).alloc (.cells #[.string s, .int .i64 0] 64)).heap.size ≤ q ∧ q < w'.heap.size) 16 t.kids (.slice A n c)) ∧ OwnOk t.own ∧ RdB w' (w.heap.size + 1) (bs r) 0 ∧ (bs r).size ≤ s.size) := HI
    clear hres
    show Calls _ _ _ _ fun x w' => Below w.heap.size w w' ∧ (∃ A n c, x = .returned (.tuple #[nodeV t.own (.slice A n c), .string (bs r), .int .i64 0]) ∧ LAt w' (fun q => w.heap.size ≤ q ∧ q < w'.heap.size) 16 t.kids (.slice A n c)) ∧ OwnOk t.own ∧ r.length + 1 ≤ s.size
    obtain ⟨rb, hrb⟩ : ∃ rb, bs r = rb := ⟨_, rfl⟩
    rw [hrb] at HI ⊢
    have HLE := Lib.hid hle
    clear hrb hle
    go_enter Tryz.func14, Tryz.ntmps14
    go_wp2_with fail
    refine HI.out.mono ?_
    rintro x w3 ⟨hg3, ⟨A, n, c, rfl, hly⟩, hot, hr3, hs3⟩
    obtain ⟨⟨kind3, b3, neg3, dg3, ex3, u3, wd3, s3⟩, ho3⟩ : ∃ o, t.own = o := ⟨_, rfl⟩
    have HO3 := Lib.hid ho3
    rw [ho3]
    unfold nodeV
    simp only []
    have hz3 : w.heap.size + 2 ≤ w3.heap.size := by have := hg3.size; omega
    have hk4 := (RdB.grown hk2 hg3 (by omega)).alloc (.cells #[.int .i64 kind3, .bool b3, .bool neg3, .string dg3, .int .i64 ex3, .int .u64 u3, .int .i64 wd3, .string s3, .slice A n c] 28)
    have hb3 : Below w.heap.size w w3 := hb2.trans (grown_below hg3 (by omega) (by rw [hsz2]; omega))
    have hb4 := hb3.alloc hb3.size (.cells #[.int .i64 kind3, .bool b3, .bool neg3, .string dg3, .int .i64 ex3, .int .u64 u3, .int .i64 wd3, .string s3, .slice A n c] 28)
    have HX4 := Lib.hid (Blk.new w3 #[.int .i64 kind3, .bool b3, .bool neg3, .string dg3, .int .i64 ex3, .int .u64 u3, .int .i64 wd3, .string s3, .slice A n c] 28)
    have HR4 := Lib.hid (hr3.alloc (.cells #[.int .i64 kind3, .bool b3, .bool neg3, .string dg3, .int .i64 ex3, .int .u64 u3, .int .i64 wd3, .string s3, .slice A n c] 28))
    have HLY := Lib.hid hly
    clear hly ho3 hs3
    go_wp2_with fail
    refine wp_region_tailG (R := fun W W' => W.grownBy W' (some w.heap.size)) 7 (by kernel_rfl) (by kernel_rfl) (fun _ => grown_refl _ _) (by kernel_rfl) (by kernel_rfl) (fun W => (w3.alloc (.cells #[.int .i64 kind3, .bool b3, .bool neg3, .string dg3, .int .i64 ex3, .int .u64 u3, .int .i64 wd3, .string s3, .slice A n c] 28)).grownBy W (some w.heap.size))
      [fun env _ => env 0 = .agg #[.int .i64 kind3, .bool b3, .bool neg3, .string dg3, .int .i64 ex3, .int .u64 u3, .int .i64 wd3, .string s3, .slice A n c], fun env _ => env 1 = .pointer (some ⟨w.heap.size + 1, 0, none⟩), fun env _ => env 2 = .pointer (some ⟨w.heap.size + 1, 0, none⟩), fun env _ => env 3 = .pointer (some ⟨w.heap.size + 1, 0, none⟩), fun env _ => env 4 = .pointer (some ⟨w.heap.size + 1, 0, none⟩), fun env _ => env 5 = .string rb]
      (fun sel _ W => Blk W w.heap.size (if sel 6 = true then #[.int .i64 kind3, .bool b3, .bool neg3, .string dg3, .int .i64 ex3, .int .u64 u3, .int .i64 wd3, .string s3, .slice A n c] else #[.int .i64 0, .bool false, .bool false, .string ⟨#[]⟩, .int .i64 0, .int .u64 0, .int .i64 0, .string ⟨#[]⟩, .slice none 0 0]) 28) ?_ ?_ ?_ ?_ ?_ ?_
    case refine_1 => exact grown_drew _ _ 1
    case refine_2 => exact fun _ => hk4
    case refine_3 => exact fun W W' he hr => grown_trans he hr
    case refine_4 =>
      intro i o' env env' W W' ho hk _ hp _
      match i, ho with
      | 0, ho => exact (hk 0 (.inl rfl)).symm.trans hp
      | 1, ho => exact (hk 1 (.inl rfl)).symm.trans hp
      | 2, ho => exact (hk 2 (.inl rfl)).symm.trans hp
      | 3, ho => exact (hk 3 (.inl rfl)).symm.trans hp
      | 4, ho => exact (hk 4 (.inl rfl)).symm.trans hp
      | 5, ho => exact (hk 5 (.inl rfl)).symm.trans hp
      | n + 6, ho => exact (show True from trivial)
    case refine_5 =>
      refine flow_consG (flow_opG rfl rfl (by kernel_rfl) (by kernel_rfl) ?_) ?_
      · intro sel env W hE hn hx hs hwt ρ hρ hc hf hg K hK
        have r6 : ρ (.tmp 6) = .pointer (some ⟨w3.heap.size, 0, none⟩) := by rw [hρ]; kernel_rfl
        clear hρ hg
        exact lands_load_row 28 (.tmp 6) rfl w3.heap.size r6 28 _ (0, 0) _ (RdB.grown HX4.out hE (by omega)) Tryz.underlying28 rfl (by kernel_rfl) (hK _ _ (updV_self _ _ _) (by rw [updB_ne sel (show (6 : Nat) ≠ 0 by decide)]; exact hx) (grown_refl _ _))
      refine flow_consG (flow_opG rfl rfl (by kernel_rfl) (by kernel_rfl) ?_) ?_
      · intro sel env W hE hn hx hs hwt ρ hρ hc hf hg K hK
        have r5 : ρ (.tmp 5) = .pointer (some ⟨w.heap.size + 1, 0, none⟩) := by rw [hρ]; kernel_rfl
        clear hρ hg
        simp [opLands, go_sem, r5]
        exact hK _ _ (updV_self _ _ _) (by rw [updB_ne sel (show (6 : Nat) ≠ 1 by decide)]; exact hx) (grown_refl _ _)
      refine flow_consG (flow_opG rfl rfl (by kernel_rfl) (by kernel_rfl) ?_) ?_
      · intro sel env W hE hn hx hs hwt ρ hρ hc hf hg K hK
        have r24 := (show ρ (.tmp 24) = env 1 by rw [hρ]; kernel_rfl).trans (hn 1 (hwt 1 (by kernel_rfl)))
        clear hρ hg
        simp [opLands, go_sem, r24]
        exact hK _ _ (updV_self _ _ _) (by rw [updB_ne sel (show (6 : Nat) ≠ 2 by decide)]; exact hx) (grown_refl _ _)
      refine flow_consG (flow_opG rfl rfl (by kernel_rfl) (by kernel_rfl) ?_) ?_
      · intro sel env W hE hn hx hs hwt ρ hρ hc hf hg K hK
        have r25 := (show ρ (.tmp 25) = env 2 by rw [hρ]; kernel_rfl).trans (hn 2 (hwt 2 (by kernel_rfl)))
        clear hρ hg
        simp [opLands, go_sem, r25]
        exact hK _ _ (updV_self _ _ _) (by rw [updB_ne sel (show (6 : Nat) ≠ 3 by decide)]; exact hx) (grown_refl _ _)
      refine flow_consG (flow_opG rfl rfl (by kernel_rfl) (by kernel_rfl) ?_) ?_
      · intro sel env W hE hn hx hs hwt ρ hρ hc hf hg K hK
        have r26 := (show ρ (.tmp 26) = env 3 by rw [hρ]; kernel_rfl).trans (hn 3 (hwt 3 (by kernel_rfl)))
        clear hρ hg
        simp [opLands, go_sem, r26]
        exact hK _ _ (updV_self _ _ _) (by rw [updB_ne sel (show (6 : Nat) ≠ 4 by decide)]; exact hx) (grown_refl _ _)
      refine flow_consG (flow_opG rfl rfl (by kernel_rfl) (by kernel_rfl) ?_) ?_
      · intro sel env W hE hn hx hs hwt ρ hρ hc hf hg K hK
        have r27 := (show ρ (.tmp 27) = env 4 by rw [hρ]; kernel_rfl).trans (hn 4 (hwt 4 (by kernel_rfl)))
        clear hρ hg
        have q0 : W.cell? ⟨w.heap.size + 1, 0, none⟩ = some (.string rb) := (RdB.grown HR4.out hE (by omega)).cell 0
        simp [opLands, go_sem, r27, q0]
        exact hK _ _ (updV_self _ _ _) (by rw [updB_ne sel (show (6 : Nat) ≠ 5 by decide)]; exact hx) (grown_refl _ _)
      refine flow_consG (flow_op0G rfl rfl (by kernel_rfl) rfl ?_) flow_nilG
      · intro sel env W hE hn hx hs hwt ρ hρ hc hf hg K hK
        have r2 : ρ (.tmp 2) = .pointer (some ⟨w.heap.size, 0, none⟩) := by rw [hρ]; kernel_rfl
        have r23 := (show ρ (.tmp 23) = env 0 by rw [hρ]; kernel_rfl).trans (hn 0 (hwt 0 (by kernel_rfl)))
        clear hρ hg
        rw [hs, if_neg (by decide)] at hx
        exact lands_store_row 28 (.tmp 2) (.tmp 23) rfl w.heap.size #[.int .i64 kind3, .bool b3, .bool neg3, .string dg3, .int .i64 ex3, .int .u64 u3, .int .i64 wd3, .string s3, .slice A n c] r2 r23 28 _ hx (by kernel_rfl) rfl (by simp [Value.oneCell']) (hK undef _ trivial (by rw [updB_self, if_pos rfl]; exact blk_row hx _) (grown_row _ _ _))
    case refine_6 =>
      intro env W hE hn hx
      have e0 : env 0 = .agg #[.int .i64 kind3, .bool b3, .bool neg3, .string dg3, .int .i64 ex3, .int .u64 u3, .int .i64 wd3, .string s3, .slice A n c] := hn 0 (by decide)
      have e5 : env 5 = .string rb := hn 5 (by decide)
      have hk7 : Blk W w.heap.size #[.int .i64 kind3, .bool b3, .bool neg3, .string dg3, .int .i64 ex3, .int .u64 u3, .int .i64 wd3, .string s3, .slice A n c] 28 := hx
      clear hn HX4 HR4 hx
      have hgE := grown_trans (below_grown hb4 (some w.heap.size)) hE
      have hzE := hE.size
      rw [World.size_alloc] at hzE
      have hl7 : LAt W (fun q => w.heap.size + 2 ≤ q ∧ q < w3.heap.size) 16 t.kids (.slice A n c) := (HLY.out.keep (fun q hq => (hE.block q (by rw [World.size_alloc]; omega) (fun e => by have := hq.1; injection e with e; omega)).trans (Below.heap_alloc w3 _ q hq.2))).mono (fun q hq => by rw [hsz2] at hq; exact hq)
      have HL7 := Lib.hid hl7
      have hbF : Below w.heap.size w W := ⟨hgE.os, hgE.tape, hgE.output, hgE.size, fun q hq => hgE.block q hq (fun e => by injection e with e; omega)⟩
      simp only [List.take_succ_cons, List.take_zero, List.drop_succ_cons, List.drop_zero, frameAll, e0, e5]
      go_simp
      clear e0 e5 hE hl7 hgE
      go_wp2_with fail
      refine bodyPost_ret (results_cell3 (T := 28) rfl rfl rfl rfl hk7 Tryz.underlying28 rfl (by kernel_rfl)) rfl ?_
      exact ⟨hbF, ⟨A, n, c, by rw [HO3.out]; rfl, HL7.out.mono (fun q hq => ⟨by omega, by omega⟩)⟩, hot, HLE.out⟩
end Go.Proofs.YtflkmhgbinlfiaaGreatDoor
namespace Go.Proofs.YtflkmhgbinlfiaaGreatDoor
open Go.RowKit Go.Shelf

theorem good_le {α : Type} {p : Psr α} (hp : GoodP p) {l r : List UInt8} {a : α} (h : p l = .good a r) : r.length ≤ l.length := by
  obtain ⟨own, e, _⟩ := hp l a r h
  rw [e, List.length_append]
  omega
def CountP (p : Psr Tr) : Prop := ∀ l t r, p l = .good t r → t.count + r.length ≤ l.length
theorem times_count {p : Psr Tr} (hp : CountP p) : ∀ (n : Nat) (acc : List Tr) (l : List UInt8) (L : List Tr) (r : List UInt8), timesP p n acc l = .good L r → ∃ new, L = acc ++ new ∧ countL new + r.length ≤ l.length
  | 0, acc, l, L, r, h => by
    have h : PR.good acc l = .good L r := h
    injection h with e1 e2
    subst e1 e2
    exact ⟨[], by simp, by simp [countL]⟩
  | n + 1, acc, l, L, r, h => by
    obtain ⟨t, s, h1, h2⟩ := bindP_good h
    obtain ⟨new, e, h3⟩ := times_count hp n _ _ _ _ h2
    refine ⟨t :: new, by rw [e, List.append_assoc]; rfl, ?_⟩
    have h4 := hp _ _ _ h1
    rw [countL]
    omega
theorem open_count {p : Psr Tr} (hp : CountP p) (hw : WantP p) (size : Nat) : ∀ (f : Nat) (acc : List Tr) (l : List UInt8) (L : List Tr) (r : List UInt8), openP p (size + 1) f acc l = .good L r → ∃ new, L = acc ++ new ∧ countL new + r.length ≤ l.length
  | 0, _, _, _, _, h => by cases h
  | f + 1, acc, l, L, r, h => by
    cases l with
    | nil =>
      have h : bindP (timesP p (size + 1) acc) _ [] = .good L r := h
      rw [bindP_bad (wantP_times hw _ _)] at h
      cases h
    | cons c t =>
      by_cases hc : c = 255
      · subst hc
        have h : PR.good acc t = .good L r := h
        injection h with e1 e2
        subst e1 e2
        exact ⟨[], by simp, by simp [countL]⟩
      · have h' : bindP (timesP p (size + 1) acc) (fun l => openP p (size + 1) f l) (c :: t) = .good L r := by
          have : endP acc (bindP (timesP p (size + 1) acc) fun l => openP p (size + 1) f l) (c :: t) = .good L r := h
          unfold endP at this
          simpa [hc] using this
        obtain ⟨L1, r1, h1, h2⟩ := bindP_good h'
        obtain ⟨n1, e1, g1⟩ := times_count hp _ _ _ _ _ h1
        obtain ⟨n2, e2, g2⟩ := open_count hp hw size f _ _ _ _ h2
        refine ⟨n1 ++ n2, by rw [e2, e1, List.append_assoc], ?_⟩
        rw [countL_append]
        omega
theorem list_count {F : Nat} {p : Psr Tr} (hp : CountP p) (hw : WantP p) (size : Nat) {h : Nat × Nat × Nat} {l : List UInt8} {L : List Tr} {r : List UInt8} (hl : listP F p (size + 1) h l = .good L r) : countL L + r.length ≤ l.length := by
  unfold listP at hl
  split at hl
  · obtain ⟨new, e, g⟩ := open_count hp hw size _ _ _ _ _ hl
    rw [e, List.nil_append]
    exact g
  · obtain ⟨new, e, g⟩ := times_count hp _ _ _ _ _ hl
    rw [e, List.nil_append]
    exact g
theorem leaf_count (o : Own) : (Tr.nd o []).count = 1 := by rw [Tr.count, countL]
theorem other_leaf {h : Nat × Nat × Nat} {l r : List UInt8} {t : Tr} (hp : otherP h l = .good t r) : t.count = 1 ∧ r = l := by
  have key : ∀ {x : Tr} {o : Own}, x = .nd o [] → pureP x l = .good t r → t.count = 1 ∧ r = l := fun {x o} hx h => by
    have h : PR.good x l = .good t r := h
    injection h with e1 e2
    subst e1
    exact ⟨by rw [hx, leaf_count], e2.symm⟩
  unfold otherP at hp
  repeat' split at hp
  all_goals first | exact key rfl hp | cases hp
theorem item_count (F : Nat) : ∀ d, CountP (itemP F d)
  | 0 => fun l t r h => by
    unfold itemP at h
    split at h <;> cases h
  | d + 1 => fun l t r h => by
    obtain ⟨hd, s, h1, h2⟩ := bindP_good h
    have q : s.length + 1 ≤ l.length := by
      obtain ⟨own, e, g, _⟩ := goodP_head _ _ _ h1
      have := own_pos wantP_head g
      rw [e, List.length_append]
      omega
    have hpu : ∀ {x : Tr} {m : List UInt8}, pureP x m = .good t r → x = t ∧ m = r := fun {x m} hx => by
      have hx : PR.good x m = .good t r := hx
      injection hx with e1 e2
      exact ⟨e1, e2⟩
    have ih := item_count F d
    unfold bodyP at h2
    by_cases c0 : (hd.1 < 2 ∨ hd.1 = 6) ∧ hd.2.1 = 31
    · rw [if_pos c0] at h2
      cases h2
    rw [if_neg c0] at h2
    by_cases c1 : hd.1 = 0
    · rw [if_pos c1] at h2
      obtain ⟨e1, e2⟩ := hpu h2
      rw [← e1, ← e2]
      unfold numT
      rw [leaf_count]
      omega
    rw [if_neg c1] at h2
    by_cases c2 : hd.1 = 1
    · rw [if_pos c2] at h2
      obtain ⟨e1, e2⟩ := hpu h2
      rw [← e1, ← e2]
      unfold numT
      rw [leaf_count]
      omega
    rw [if_neg c2] at h2
    by_cases c3 : hd.1 = 2
    · rw [if_pos c3] at h2
      obtain ⟨x, r1, g1, g2⟩ := bindP_good h2
      obtain ⟨e1, e2⟩ := hpu g2
      have := good_le (goodP_text _ _) g1
      rw [← e1, ← e2]
      unfold strT
      rw [leaf_count]
      omega
    rw [if_neg c3] at h2
    by_cases c4 : hd.1 = 3
    · rw [if_pos c4] at h2
      obtain ⟨x, r1, g1, g2⟩ := bindP_good h2
      obtain ⟨e1, e2⟩ := hpu g2
      have := good_le (goodP_text _ _) g1
      rw [← e1, ← e2]
      unfold strT
      rw [leaf_count]
      omega
    rw [if_neg c4] at h2
    by_cases c5 : hd.1 = 4
    · rw [if_pos c5] at h2
      obtain ⟨x, r1, g1, g2⟩ := bindP_good h2
      obtain ⟨e1, e2⟩ := hpu g2
      have := list_count ih (wantP_item F d) 0 g1
      rw [← e1, ← e2]
      unfold listT
      rw [Tr.count]
      omega
    rw [if_neg c5] at h2
    by_cases c6 : hd.1 = 5
    · rw [if_pos c6] at h2
      obtain ⟨x, r1, g1, g2⟩ := bindP_good h2
      obtain ⟨e1, e2⟩ := hpu g2
      have := list_count ih (wantP_item F d) 1 g1
      rw [← e1, ← e2]
      unfold listT
      rw [Tr.count]
      omega
    rw [if_neg c6] at h2
    by_cases c7 : hd.1 = 6
    · rw [if_pos c7] at h2
      obtain ⟨x, r1, g1, g2⟩ := bindP_good h2
      obtain ⟨e1, e2⟩ := hpu g2
      have := ih _ _ _ g1
      rw [← e1, ← e2]
      unfold tagT
      rw [Tr.count, countL, countL]
      omega
    rw [if_neg c7] at h2
    obtain ⟨e1, e2⟩ := other_leaf h2
    rw [e1, e2]
    omega
end Go.Proofs.YtflkmhgbinlfiaaGreatDoor
