/- The texts CrG, CrH, CrI, put together. -/
import Derived.Test.YtflkmhgbinlfiaaGreatDoorPq04
import Derived.Test.YtflkmhgbinlfiaaGreatDoorPq07
import Derived.Test.YtflkmhgbinlfiaaGreatDoorPq02
import Derived.Test.YtflkmhgbinlfiaaGreatDoorPq05
import Derived.Deep.MidRow
namespace Go.Proofs.YtflkmhgbinlfiaaGreatDoor
open Go.RowKit Go.Shelf

/-- A function's results, the first of them in a block. -/
theorem results_cell {P : Program} {fn : Func} {tmps : Array Value} {W : World} {a s b : Nat} {T t : TypeId} {cs : Array Value} {fr : Nat × Nat} {d : TypeDesc} {u : Value} (hr : fn.results = #[.cell a T, .tmp s])
    (ha : tmps.getD a undef = .pointer (some ⟨b, 0, none⟩)) (hs : tmps.getD s undef = u) (hk : W.heap[b]? = some (.cells cs t fr))
    (hu : P.underlying T = some d) (hd : (match d with | .struct _ | .array _ _ => true | _ => false) = true) (hi : (P.info? T).map (·.size) = some cs.size) :
    (results fn tmps).run P W = .ok (.tuple #[.agg cs, u]) W := by
  unfold results
  rw [hr]
  have h1 := run_loadVar_row (P := P) W b t T cs fr d hk hu hd hi
  rw [Array.getD_eq_getD_getElem?] at ha hs
  simp [Array.mapM_eq_foldlM, ha, hs, asAddr, h1, Result.andThen]

theorem str_noneQ {s : ByteArray} (h0 : s.size ≠ 0) : s.toList.isEmpty = false := by
  rw [ByteArray.toList_eq]
  cases hl : s.data.toList with
  | nil => exact absurd (show s.data.toList.length = 0 by rw [hl]; rfl) (by simpa using h0)
  | cons a l => rfl
/-- An error's value; none where it is 0. -/
def errW (e : Int) : Value := if e = 0 then .nilIface else .iface 95 (.agg #[.int .i64 e])
theorem errW_ne {e : Int} (h : e ≠ 0) : errW e = .iface 95 (.agg #[.int .i64 e]) := if_neg h
/-- A head as the reader's. -/
abbrev startV (h : Nat × Nat × Nat) : Value := .agg #[.int .i64 h.1, .int .i64 h.2.1, .int .u64 h.2.2]
/-- The reader: what is left, how deep. -/
abbrev RdB (W : World) (p : Nat) (s : ByteArray) (d : Nat) : Prop := Blk W p #[.string s, .int .i64 d] 64
def bs (l : List UInt8) : ByteArray := ⟨l.toArray⟩
theorem bs_list (l : List UInt8) : (bs l).data.toList = l := rfl
theorem bs_size (l : List UInt8) : (bs l).size = l.length := rfl
theorem bs_of (s : ByteArray) : bs s.data.toList = s := by
  apply ByteArray.ext
  unfold bs
  simp
theorem grown_drew (w : World) (r : Option Nat) (n : Nat) : w.grownBy (w.drewN n) r := ⟨rfl, rfl, rfl, Nat.le_refl _, fun _ _ _ => rfl⟩

set_option maxHeartbeats 2000000 in
set_option maxRecDepth 100000 in
theorem cr_first (b : Nat) (e : Int) (w : World) (hk : Blk w b #[.int .i64 e] 29) :
    Calls Tryz.prog 37 #[.slice (some ⟨b, 0, none⟩) 1 1] w fun x w' => x = .returned (errW (if e = 101 then 110 else e)) ∧ w' = w := by
  have z0 := hk.cell 0
  obtain ⟨x, hx⟩ : ∃ x, errW (if e = 101 then 110 else e) = x := ⟨_, rfl⟩
  rw [hx]
  by_cases h0 : e = 0
  · subst h0
    rw [if_neg (by decide)] at hx
    unfold errW at hx
    rw [if_pos rfl] at hx
    subst hx
    go_enter Tryz.func37, Tryz.ntmps37
    go_wp2_with fail
    refine wp_loop_rounds 2 ?_
    rw [rounds_succ]
    go_wp2_with fail
    rw [rounds_succ]
    go_wp2_with fail
    go_ret
    exact ⟨rfl, rfl⟩
  · by_cases h1 : e = 101
    · subst h1
      rw [if_pos rfl, errW_ne (by decide)] at hx
      subst hx
      go_enter Tryz.func37, Tryz.ntmps37
      go_wp2_with fail
      refine wp_loop_rounds 1 ?_
      rw [rounds_succ]
      go_wp2_with fail
      go_ret
      exact ⟨rfl, rfl⟩
    · rw [if_neg h1, errW_ne h0] at hx
      subst hx
      have y0 : (e == 0) = false := by rw [beq_eq_false_iff_ne]; exact h0
      have y1 : (e == 101) = false := by rw [beq_eq_false_iff_ne]; exact h1
      go_enter Tryz.func37, Tryz.ntmps37
      go_wp2_with fail
      refine wp_loop_rounds 1 ?_
      rw [rounds_succ]
      go_wp2_with fail
      go_ret
      exact ⟨rfl, rfl⟩

set_option maxHeartbeats 2000000 in
set_option maxRecDepth 100000 in
theorem cr_isOpen (maj info arg : Int) (w : World) :
    Calls Tryz.prog 39 #[.agg #[.int .i64 maj, .int .i64 info, .int .u64 arg]] w fun x w' => x = .returned (.bool (info == 31)) ∧ Below w.heap.size w w' := by
  have hb := (Below.refl w.heap.size w).alloc (Nat.le_refl _) (.cells #[.int .i64 maj, .int .i64 info, .int .u64 arg] 88)
  have hk := Blk.new w #[.int .i64 maj, .int .i64 info, .int .u64 arg] 88
  have z0 := hk.cell 0
  have z1 := hk.cell 1
  have z2 := hk.cell 2
  go_enter Tryz.func39, Tryz.ntmps39
  go_wp2_with fail
  go_ret
  exact ⟨rfl, hb⟩

theorem RdB.grown {W W' : World} {p q : Nat} {cs : Array Value} {t : TypeId} (h : Blk W q cs t) (hg : W.grownBy W' (some p)) (hne : q ≠ p) : Blk W' q cs t := (hg.block q h.lt (fun e => hne (by injection e))).trans h
theorem RdB.set {W : World} {p : Nat} {s : ByteArray} {d : Int} (h : Blk W p #[.string s, .int .i64 d] 64) (s' : ByteArray) : Blk (W.setCell ⟨p, 0, none⟩ (.string s')) p #[.string s', .int .i64 d] 64 := h.set 0 _

theorem grown_at {A B C : World} {p q : Nat} (h : A.grownBy B (some p)) (k : B.grownBy C (some q)) (hq : A.heap.size ≤ q) : A.grownBy C (some p) :=
  ⟨k.os.trans h.os, k.tape.trans h.tape, k.output.trans h.output, Nat.le_trans h.size k.size, fun i hi hr => (k.block i (Nat.lt_of_lt_of_le hi h.size) (fun e => by injection e with e; omega)).trans (h.block i hi hr)⟩
theorem grown_of {A B C : World} {r : Option Nat} (h : A.grownBy B r) (k : Below B.heap.size B C) : A.grownBy C r := grown_trans h (below_grown k r)

set_option maxHeartbeats 2000000 in
set_option maxRecDepth 100000 in
/-- start: a head, taken off. -/
theorem cr_start (p d : Nat) (s : ByteArray) (w : World) (hr : RdB w p s d) (hs : s.size ≤ 1000000000) :
    Calls Tryz.prog 38 #[.pointer (some ⟨p, 0, none⟩)] w fun x w' => w.grownBy w' (some p) ∧ match headP s.data.toList with
      | .good h r => x = .returned (.tuple #[startV h, .nilIface]) ∧ RdB w' p (bs r) d
      | .bad e => x = .returned (.tuple #[startV (0, 0, 0), errW e]) ∧ RdB w' p s d := by
  have HR := Lib.hid (fun w => head_Read s (by omega) w)
  have hne := errP_head s.data.toList
  unfold headP at hne ⊢
  unfold readV at HR
  obtain ⟨⟨maj, info, arg, rest, err⟩, hx⟩ : ∃ x, readL s.data.toList = x := ⟨_, rfl⟩
  rw [hx] at hne ⊢
  simp only [hx] at HR
  simp only [] at hne HR ⊢
  clear hx
  have hb1 := (Below.refl w.heap.size w).alloc (Nat.le_refl _) (.cells #[.int .i64 0, .int .i64 0, .int .u64 0] 88)
  have hk1 := Blk.new w #[.int .i64 0, .int .i64 0, .int .u64 0] 88
  have hr1 := hr.below hb1 hr.lt
  have hplt := hr.lt
  have zr := hr1.cell 0
  by_cases h0 : err = 0
  · subst h0
    simp only [if_true]
    clear hne
    obtain ⟨rs, hrs⟩ : ∃ rs, bs rest = rs := ⟨_, rfl⟩
    rw [hrs]
    have HR : Hid (∀ w : World, Calls Tryz.prog 66 #[.string s] w fun e w' => e = .returned (.tuple #[.int .i64 maj, .int .i64 info, .int .u64 arg, .string rs, .int .i64 0]) ∧ Below w.heap.size w w') := Lib.hid (fun w => by
      have := HR.out w
      rw [← hrs]
      exact this)
    clear hrs
    go_enter Tryz.func38, Tryz.ntmps38
    go_wp2_with fail
    refine (HR.out _).mono ?_
    rintro e w2 ⟨rfl, hb⟩
    have hk2 := hk1.below hb hk1.lt
    have hr2 := hr1.below hb hr1.lt
    have hf2 := hr2.frozen 0
    have zc2 := hr2.cell 0
    have hr3 := RdB.set hr2 rs
    have hk3 : Blk (w2.setCell ⟨p, 0, none⟩ (.string rs)) w.heap.size #[.int .i64 0, .int .i64 0, .int .u64 0] 88 := (Below.heap_setCell w2 ⟨p, 0, none⟩ _ _ (by show w.heap.size ≠ p; omega)).trans hk2
    go_wp2_with (refine wpList_store_row rfl 88 (.tmp 2) (.tmp 35) rfl (w.heap.size) #[.int .i64 maj, .int .i64 info, .int .u64 arg] rfl rfl 88 _ hk3 (by kernel_rfl) rfl (by simp [Value.oneCell']) ?_)
    have hg2 : w.grownBy w2 (some p) := below_grown (hb1.trans (hb.mono hb1.size)) _
    have hg3 := grown_trans hg2 (grown_set w2 p 0 (.string rs))
    have hg4 := grown_at hg3 (grown_row (w2.setCell ⟨p, 0, none⟩ (.string rs)) w.heap.size #[.int .i64 maj, .int .i64 info, .int .u64 arg]) (Nat.le_refl _)
    refine bodyPost_ret (results_cell (T := 88) rfl rfl rfl (blk_row hk3 #[.int .i64 maj, .int .i64 info, .int .u64 arg]) Tryz.underlying88 rfl (by kernel_rfl)) rfl ⟨hg4, rfl, blk_row_other hr3 (by omega) _⟩
  · simp only [if_neg h0]
    have he : (if (err : Int) = 101 then 110 else (err : Int)) = headE err := by
      unfold headE
      split <;> rename_i q <;> split <;> omega
    have hne1 : headE err ≠ 0 := headE_ne err h0
    have y0 : ((err : Int) != 0) = true := by rw [bne_iff_ne]; omega
    obtain ⟨rs, hrs⟩ : ∃ rs, bs rest = rs := ⟨_, rfl⟩
    have HR : Hid (∀ w : World, Calls Tryz.prog 66 #[.string s] w fun e w' => e = .returned (.tuple #[.int .i64 maj, .int .i64 info, .int .u64 arg, .string rs, .int .i64 err]) ∧ Below w.heap.size w w') := Lib.hid (fun w => by
      have := HR.out w
      rw [← hrs]
      exact this)
    have HF := Lib.hid (fun (W : World) (b : Nat) (hk : Blk W b #[.int .i64 err] 29) => cr_first b err W hk)
    rw [he] at HF
    obtain ⟨ev, hev⟩ : ∃ ev, errW (headE err) = ev := ⟨_, rfl⟩
    rw [hev] at HF ⊢
    clear hrs hne he hne1 hev
    go_enter Tryz.func38, Tryz.ntmps38
    go_wp2_with fail
    refine (HR.out _).mono ?_
    rintro e w2 ⟨rfl, hb⟩
    have hk2 := hk1.below hb hk1.lt
    have hr2 := hr1.below hb hr1.lt
    go_wp2_with fail
    refine (HF.out _ _ (Blk.new w2 #[.int .i64 err] 29)).mono ?_
    rintro e w3 ⟨rfl, rfl⟩
    have hk3 := hk2.alloc (.cells #[.int .i64 err] 29)
    have hr3 := hr2.alloc (.cells #[.int .i64 err] 29)
    go_wp2_with (refine wpList_store_row rfl 88 (.tmp 2) (.tmp 23) rfl (w.heap.size) #[.int .i64 0, .int .i64 0, .int .u64 0] rfl rfl 88 _ hk3 (by kernel_rfl) rfl (by simp [Value.oneCell']) ?_)
    have hg2 : w.grownBy w2 (some p) := below_grown (hb1.trans (hb.mono hb1.size)) _
    have hg3 := grown_of hg2 ((Below.refl w2.heap.size w2).alloc (Nat.le_refl _) (.cells #[.int .i64 err] 29))
    have hg4 := grown_at hg3 (grown_row (w2.alloc (.cells #[.int .i64 err] 29)) w.heap.size #[.int .i64 0, .int .i64 0, .int .u64 0]) (Nat.le_refl _)
    refine bodyPost_ret (results_cell (T := 88) rfl rfl rfl (blk_row hk3 #[.int .i64 0, .int .i64 0, .int .u64 0]) Tryz.underlying88 rfl (by kernel_rfl)) rfl ⟨hg4, rfl, blk_row_other hr3 (by omega) _⟩
end Go.Proofs.YtflkmhgbinlfiaaGreatDoor
namespace Go.Proofs.YtflkmhgbinlfiaaGreatDoor
open Go.RowKit Go.Shelf

theorem cut_front (s : ByteArray) (n : Nat) : s.extract 0 n = bs (s.data.toList.take n) := by
  apply ByteArray.ext
  apply Array.toList_inj.1
  rw [ByteArray.data_extract, Array.toList_extract]
  simp [List.extract, bs]
theorem cut_back (s : ByteArray) (n : Nat) : s.extract n s.size = bs (s.data.toList.drop n) := by
  apply ByteArray.ext
  apply Array.toList_inj.1
  rw [extract_list]
  rfl

set_option maxHeartbeats 2000000 in
set_option maxRecDepth 100000 in
/-- bytes: so many, taken off. -/
theorem cr_bytes (p d n : Nat) (s : ByteArray) (w : World) (hr : RdB w p s d) (hs : s.size ≤ 1000000000) :
    Calls Tryz.prog 142 #[.pointer (some ⟨p, 0, none⟩), .int .u64 n] w fun x w' => w.grownBy w' (some p) ∧ match bytesP n s.data.toList with
      | .good a r => x = .returned (.tuple #[.string (bs a), .nilIface]) ∧ RdB w' p (bs r) d
      | .bad e => x = .returned (.tuple #[.string ⟨#[]⟩, errW e]) ∧ RdB w' p s d := by
  have hlen : s.data.toList.length = s.size := by simp
  have zr := hr.cell 0
  have fr := hr.frozen 0
  have y0 : IntKind.u64.wrap (s.size : Int) = s.size := by rw [IntKind.wrap_u64]; omega
  unfold bytesP
  rw [hlen]
  by_cases h : s.size < n
  · rw [if_pos h]
    have HF := Lib.hid (fun (W : World) (b : Nat) (hk : Blk W b #[.int .i64 100] 29) => cr_first b 100 W hk)
    rw [if_neg (by decide)] at HF
    show Calls _ _ _ _ fun x w' => w.grownBy w' (some p) ∧ x = .returned (.tuple #[.string ⟨#[]⟩, errW 100]) ∧ RdB w' p s d
    obtain ⟨ev, hev⟩ : ∃ ev, errW 100 = ev := ⟨_, rfl⟩
    rw [hev] at HF ⊢
    have y1 : (s.size : Int) < n := by omega
    clear hev hlen h
    go_enter Tryz.func142, Tryz.ntmps142
    go_wp2_with fail
    refine (HF.out _ _ (Blk.new w #[.int .i64 100] 29)).mono ?_
    rintro e w3 ⟨rfl, rfl⟩
    go_wp2_with fail
    refine bodyPost_ret (v := .tuple #[.string ⟨#[]⟩, ev]) (by simp [results, Tryz.results142, go_sem]) rfl ⟨below_grown ((Below.refl w.heap.size w).alloc (Nat.le_refl _) (.cells #[.int .i64 100] 29)) _, rfl, hr.alloc _⟩
  · rw [if_neg h]
    show Calls _ _ _ _ fun x w' => w.grownBy w' (some p) ∧ x = .returned (.tuple #[.string (bs (s.data.toList.take n)), .nilIface]) ∧ RdB w' p (bs (s.data.toList.drop n)) d
    have y1 : ¬ (s.size : Int) < n := by omega
    have y2 : n ≤ s.size := by omega
    rw [← cut_front, ← cut_back]
    have hr3 := RdB.set hr (s.extract n s.size)
    clear h hlen
    go_enter Tryz.func142, Tryz.ntmps142
    go_wp2_with fail
    refine bodyPost_ret (v := .tuple #[.string (s.extract 0 n), .nilIface]) (by simp [results, Tryz.results142, go_sem]) rfl ⟨grown_set w p 0 _, rfl, hr3⟩

set_option maxHeartbeats 2000000 in
set_option maxRecDepth 100000 in
/-- isEnd: an end, taken off if it is there. -/
theorem cr_isEnd (p d : Nat) (s : ByteArray) (w : World) (hr : RdB w p s d) (hs : s.size ≤ 1000000000) :
    Calls Tryz.prog 143 #[.pointer (some ⟨p, 0, none⟩)] w fun x w' => w.grownBy w' (some p) ∧ x = .returned (.bool (decide (s.data.toList.head? = some 255))) ∧ RdB w' p (if s.data.toList.head? = some 255 then bs (s.data.toList.drop 1) else s) d := by
  have zr := hr.cell 0
  have fr := hr.frozen 0
  by_cases h0 : s.size = 0
  · have e0 := str_empty h0
    subst e0
    rw [if_neg (by simp)]
    show Calls _ _ _ _ fun x w' => w.grownBy w' (some p) ∧ x = .returned (.bool false) ∧ RdB w' p ⟨#[]⟩ d
    go_enter Tryz.func143, Tryz.ntmps143
    go_wp2_with fail
    go_ret
    exact ⟨grown_drew w _ 0, rfl, hr⟩
  · have hne := str_noneQ h0
    have hpos : 0 < s.size := by omega
    have hh := head_at0 s hpos
    rw [hh]
    by_cases h1 : s[0] = 255
    · rw [if_pos (by rw [h1]), h1, ← cut_back]
      show Calls _ _ _ _ fun x w' => w.grownBy w' (some p) ∧ x = .returned (.bool true) ∧ RdB w' p (s.extract 1 s.size) d
      have y1 : ((s[0].toNat : Int) != 255) = false := by rw [h1]; rfl
      have y2 : 1 ≤ s.size := hpos
      have hr3 := RdB.set hr (s.extract 1 s.size)
      clear hh h1 h0
      go_enter Tryz.func143, Tryz.ntmps143
      go_wp2_with fail
      go_ret
      exact ⟨grown_set w p 0 _, rfl, hr3⟩
    · have h2 : ¬ some s[0] = some (255 : UInt8) := fun e => h1 (Option.some.inj e)
      rw [if_neg h2, decide_eq_false h2]
      have y1 : ((s[0].toNat : Int) != 255) = true := by
        rw [bne_iff_ne]
        intro e
        apply h1
        apply UInt8.toNat_inj.1
        have : (255 : UInt8).toNat = 255 := rfl
        omega
      clear hh h1 h0 h2
      go_enter Tryz.func143, Tryz.ntmps143
      go_wp2_with fail
      go_ret
      exact ⟨grown_drew w _ 0, rfl, hr⟩
end Go.Proofs.YtflkmhgbinlfiaaGreatDoor
namespace Go.Proofs.YtflkmhgbinlfiaaGreatDoor
open Go.RowKit Go.Shelf

theorem maj_le (l : List UInt8) : (readL l).maj ≤ 7 := by
  cases l with
  | nil => exact Nat.zero_le _
  | cons b s =>
    have hb := b.toNat_lt
    rw [readL_cons]
    repeat' split
    all_goals (simp only []; omega)
theorem head_arg {l r : List UInt8} {h : Nat × Nat × Nat} (hp : headP l = .good h r) : h.1 ≤ 7 ∧ h.2.1 ≤ 31 ∧ h.2.2 < 18446744073709551616 ∧ r.length + 1 ≤ l.length := by
  have hm : h.1 ≤ 7 := by
    have := maj_le l
    unfold headP at hp
    split at hp
    · injection hp with e1 e2
      rw [← e1]
      exact this
    · cases hp
  rcases head_facts hp with ⟨q1, q2, q3⟩ | ⟨q1, q2, q3, q4⟩
  · exact ⟨hm, by omega, by omega, by omega⟩
  · refine ⟨hm, by omega, ?_, by omega⟩
    by_cases q : h.2.1 < 24
    · have := q2 q
      omega
    · have := q3 (by omega)
      rcases (by omega : h.2.1 = 24 ∨ h.2.1 = 25 ∨ h.2.1 = 26 ∨ h.2.1 = 27) with z | z | z | z <;> rw [z] at this <;> simp at this <;> omega
/-- What a reading of bytes leaves. -/
def ReadS (p d : Nat) (w : World) (s : ByteArray) (r : PR (List UInt8)) (x : Ending) (w' : World) : Prop :=
  w.grownBy w' (some p) ∧ match r with
    | .good a r => x = .returned (.tuple #[.string (bs a), .nilIface]) ∧ RdB w' p (bs r) d ∧ (bs r).size ≤ s.size ∧ a.length ≤ s.size
    | .bad e => x = .returned (.tuple #[.string ⟨#[]⟩, errW e]) ∧ e ≠ 0 ∧ ∃ s', RdB w' p s' d ∧ s'.size ≤ s.size

set_option maxHeartbeats 4000000 in
set_option maxRecDepth 100000 in
theorem cr_chunk (p d maj : Nat) (s : ByteArray) (w : World) (hr : RdB w p s d) (hs : s.size ≤ 1000000000) :
    Calls Tryz.prog 144 #[.pointer (some ⟨p, 0, none⟩), .int .i64 maj] w (ReadS p d w s (chunkP maj s.data.toList)) := by
  have HS := cr_start p d s w hr hs
  have hsl : s.data.toList.length = s.size := by simp
  unfold chunkP bindP
  cases hh : headP s.data.toList with
  | bad e =>
    have he := errP_head _ _ hh
    simp only [hh] at HS
    have HE := Lib.hid he
    obtain ⟨x, hx⟩ : ∃ x, errW e = .iface 95 x := ⟨_, errW_ne he⟩
    unfold ReadS
    simp only []
    rw [hx] at HS ⊢
    clear hh he hx
    go_enter Tryz.func144, Tryz.ntmps144
    go_wp2_with fail
    refine HS.mono ?_
    rintro e1 w1 ⟨hg, rfl, hr1⟩
    go_wp2_with fail
    refine bodyPost_ret (v := .tuple #[.string ⟨#[]⟩, .iface 95 x]) (by simp [results, Tryz.results144, go_sem]) rfl ⟨?_, rfl, HE.out, s, hr1.alloc _, Nat.le_refl _⟩
    exact grown_of hg ((Below.refl w1.heap.size w1).alloc (Nat.le_refl _) _)
  | good h r =>
    obtain ⟨q1, q2, q3, q4⟩ := head_arg hh
    simp only [hh] at HS
    obtain ⟨hm, hi, ha⟩ := h
    simp only [] at q1 q2 q3 HS ⊢
    clear hh
    have hrl : (bs r).size ≤ s.size := by rw [bs_size]; omega
    by_cases hbad : hm ≠ maj ∨ hi = 31
    · rw [if_pos hbad]
      unfold ReadS badP
      simp only []
      have HF := Lib.hid (fun (W : World) (b : Nat) (hk : Blk W b #[.int .i64 110] 29) => cr_first b 110 W hk)
      rw [if_neg (by decide)] at HF
      obtain ⟨ev, hev⟩ : ∃ ev, errW 110 = ev := ⟨_, rfl⟩
      rw [hev] at HF ⊢
      have HO := Lib.hid (fun w => cr_isOpen hm hi ha w)
      clear hev
      by_cases hmj : hm = maj
      · subst hmj
        have hi31 : hi = 31 := hbad.elim (fun h => absurd rfl h) id
        subst hi31
        clear hbad
        go_enter Tryz.func144, Tryz.ntmps144
        go_wp2_with fail
        refine HS.mono ?_
        rintro e1 w1 ⟨hg, rfl, hr1⟩
        have hk1 := Blk.new w1 #[.int .i64 hm, .int .i64 31, .int .u64 ha] 88
        have z0 := hk1.cell 0
        have z1 := hk1.cell 1
        have z2 := hk1.cell 2
        clear HS
        go_wp2_with fail
        refine (HO.out _).mono ?_
        rintro e2 w2 ⟨rfl, hb2⟩
        go_wp2_with fail
        refine (HF.out _ _ (Blk.new w2 #[.int .i64 110] 29)).mono ?_
        rintro e3 w3 ⟨rfl, rfl⟩
        go_wp2_with fail
        refine bodyPost_ret (v := .tuple #[.string ⟨#[]⟩, ev]) (by simp [results, Tryz.results144, go_sem]) rfl ⟨?_, rfl, by decide, bs r, ?_, hrl⟩
        · exact grown_of (grown_of hg (((Below.refl w1.heap.size w1).alloc (Nat.le_refl _) _).trans (hb2.mono (by simp)))) ((Below.refl w2.heap.size w2).alloc (Nat.le_refl _) _)
        · exact ((hr1.alloc _).below hb2 (hr1.alloc _).lt).alloc _
      · have y1 : ((hm : Int) != (maj : Int)) = true := by rw [bne_iff_ne]; omega
        clear hbad hmj
        go_enter Tryz.func144, Tryz.ntmps144
        go_wp2_with fail
        refine HS.mono ?_
        rintro e1 w1 ⟨hg, rfl, hr1⟩
        have hk1 := Blk.new w1 #[.int .i64 hm, .int .i64 hi, .int .u64 ha] 88
        have z0 := hk1.cell 0
        have z1 := hk1.cell 1
        have z2 := hk1.cell 2
        have hkE := Blk.new (w1.alloc (.cells #[.int .i64 hm, .int .i64 hi, .int .u64 ha] 88)) #[.int .i64 110] 29
        rw [World.size_alloc] at hkE
        clear HS
        go_wp2_with fail
        refine (HF.out _ _ hkE).mono ?_
        rintro e3 w3 ⟨rfl, rfl⟩
        go_wp2_with fail
        refine bodyPost_ret (v := .tuple #[.string ⟨#[]⟩, ev]) (by simp [results, Tryz.results144, go_sem]) rfl ⟨?_, rfl, by decide, bs r, (hr1.alloc _).alloc _, hrl⟩
        exact grown_of (grown_of hg ((Below.refl w1.heap.size w1).alloc (Nat.le_refl _) _)) ((Below.refl _ _).alloc (Nat.le_refl _) _)
    · rw [if_neg hbad]
      have hmj : hm = maj := Decidable.byContradiction fun h => hbad (.inl h)
      have hi31 : ¬ hi = 31 := fun h => hbad (.inr h)
      subst hmj
      have y1 : ((hi : Int) == 31) = false := by rw [beq_eq_false_iff_ne]; omega
      have HO := Lib.hid (fun w => cr_isOpen hm hi ha w)
      rw [y1] at HO
      have HB := Lib.hid (fun W (h : RdB W p (bs r) d) => cr_bytes p d ha (bs r) W h (by omega))
      rw [bs_list] at HB
      clear hbad hi31
      unfold bytesP at HB ⊢
      by_cases hlt : r.length < ha
      · rw [if_pos hlt] at HB ⊢
        unfold ReadS
        simp only [] at HB ⊢
        obtain ⟨ev, hev⟩ : ∃ ev, errW 100 = ev := ⟨_, rfl⟩
        rw [hev] at HB ⊢
        clear hev
        go_enter Tryz.func144, Tryz.ntmps144
        go_wp2_with fail
        refine HS.mono ?_
        rintro e1 w1 ⟨hg, rfl, hr1⟩
        have hk1 := Blk.new w1 #[.int .i64 hm, .int .i64 hi, .int .u64 ha] 88
        have z0 := hk1.cell 0
        have z1 := hk1.cell 1
        have z2 := hk1.cell 2
        clear HS
        go_wp2_with fail
        refine (HO.out _).mono ?_
        rintro e2 w2 ⟨rfl, hb2⟩
        have hk2 := hk1.below hb2 hk1.lt
        have hr2 := (hr1.alloc (.cells #[.int .i64 hm, .int .i64 hi, .int .u64 ha] 88)).below hb2 (hr1.alloc _).lt
        have hg2 := grown_of hg (((Below.refl w1.heap.size w1).alloc (Nat.le_refl _) _).trans (hb2.mono (by simp)))
        clear z0 z1 z2
        have z0 := hk2.cell 0
        have z1 := hk2.cell 1
        have z2 := hk2.cell 2
        go_wp2_with fail
        refine (HB.out _ hr2).mono ?_
        rintro e3 w3 ⟨hg3, rfl, hr3⟩
        go_wp2_with fail
        refine bodyPost_ret (v := .tuple #[.string ⟨#[]⟩, ev]) (by simp [results, Tryz.results144, go_sem]) rfl ⟨grown_trans hg2 hg3, rfl, by decide, bs r, hr3, hrl⟩
      · rw [if_neg hlt] at HB ⊢
        unfold ReadS
        simp only [] at HB ⊢
        obtain ⟨a1, ha1⟩ : ∃ a1, bs (r.take ha) = a1 := ⟨_, rfl⟩
        obtain ⟨r1, hr1e⟩ : ∃ r1, bs (r.drop ha) = r1 := ⟨_, rfl⟩
        have hr1s : r1.size ≤ s.size := by rw [← hr1e, bs_size, List.length_drop]; omega
        have hals : (r.take ha).length ≤ s.size := by rw [List.length_take]; omega
        rw [ha1, hr1e] at HB ⊢
        clear ha1 hr1e
        go_enter Tryz.func144, Tryz.ntmps144
        go_wp2_with fail
        refine HS.mono ?_
        rintro e1 w1 ⟨hg, rfl, hr1⟩
        have hk1 := Blk.new w1 #[.int .i64 hm, .int .i64 hi, .int .u64 ha] 88
        have z0 := hk1.cell 0
        have z1 := hk1.cell 1
        have z2 := hk1.cell 2
        clear HS
        go_wp2_with fail
        refine (HO.out _).mono ?_
        rintro e2 w2 ⟨rfl, hb2⟩
        have hk2 := hk1.below hb2 hk1.lt
        have hr2 := (hr1.alloc (.cells #[.int .i64 hm, .int .i64 hi, .int .u64 ha] 88)).below hb2 (hr1.alloc _).lt
        have hg2 := grown_of hg (((Below.refl w1.heap.size w1).alloc (Nat.le_refl _) _).trans (hb2.mono (by simp)))
        clear z0 z1 z2
        have z0 := hk2.cell 0
        have z1 := hk2.cell 1
        have z2 := hk2.cell 2
        go_wp2_with fail
        refine (HB.out _ hr2).mono ?_
        rintro e3 w3 ⟨hg3, rfl, hr3⟩
        go_wp2_with fail
        refine bodyPost_ret (v := .tuple #[.string a1, .nilIface]) (by simp [results, Tryz.results144, go_sem]) rfl ⟨grown_trans hg2 hg3, rfl, hr3, hr1s, hals⟩
end Go.Proofs.YtflkmhgbinlfiaaGreatDoor
