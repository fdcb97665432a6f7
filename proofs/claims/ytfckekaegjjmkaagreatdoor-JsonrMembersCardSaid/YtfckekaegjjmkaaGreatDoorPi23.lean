/- The texts JrC, JrD, put together. -/
import Derived.Test.YtfckekaegjjmkaaGreatDoorPi22
namespace Go.Proofs.YtfckekaegjjmkaaGreatDoor
open Go.RowKit Go.Shelf
attribute [local go_sem] Oper.semAt_some

theorem own_b (k : Int) (b : Bool) (hk : 0 ≤ k ∧ k ≤ 100) : OwnOk { zeroO with kind := k, b := b } :=
  ⟨by show (0 : Nat) ≤ _; omega, by show (0 : Nat) ≤ _; omega, by show _ ≤ k ∧ k < _; omega, by show _ ≤ (0 : Int) ∧ (0 : Int) < _; omega, by show (0 : Int) ≤ (0 : Int) ∧ (0 : Int) < _; omega, by show _ ≤ (0 : Int) ∧ (0 : Int) < _; omega⟩

set_option maxHeartbeats 4000000 in
set_option maxRecDepth 100000 in
theorem jr_null (p d D : Nat) (s : ByteArray) (w : World) (hR : RdJ w p s d) :
    Calls Tryz.prog 116 #[.pointer (some ⟨p, 0, none⟩)] w (ReadJ p d D w s (wordJ [110, 117, 108, 108] nilT s.data.toList)) := by
  have HC := Lib.hid (jr_word p d D ⟨#[110, 117, 108, 108]⟩ 1 false false ⟨#[]⟩ 0 0 0 ⟨#[]⟩ s _ (hR.alloc (.cells zeroC 27)) (own_u 1 0 0 (by decide) (by decide) (by decide)))
  have HC : Hid (Calls Tryz.prog 151 #[.pointer (some ⟨p, 0, none⟩), .string ⟨#[110, 117, 108, 108]⟩, .agg #[.int .i64 1, .bool false, .bool false, .string ⟨#[]⟩, .int .i64 0, .int .u64 0, .int .i64 0, .string ⟨#[]⟩, .slice none 0 0]] (w.alloc (.cells zeroC 27)) (ReadJ p d D (w.alloc (.cells zeroC 27)) s (wordJ [110, 117, 108, 108] nilT s.data.toList))) := HC
  obtain ⟨res, hres⟩ : ∃ r, wordJ [110, 117, 108, 108] nilT s.data.toList = r := ⟨_, rfl⟩
  rw [hres] at HC ⊢
  clear hres
  have hk1 := Blk.new w zeroC 27
  have hr1 := hR.alloc (.cells zeroC 27)
  have hb1 : Below w.heap.size w (w.alloc (.cells zeroC 27)) := (Below.refl _ w).alloc (Nat.le_refl _) _
  have hplt := hR.lt
  have hz1 : (w.alloc (.cells zeroC 27)).heap.size = w.heap.size + 1 := by simp
  clear hR
  cases res with
  | bad e =>
    have HC : Hid (Calls Tryz.prog 151 #[.pointer (some ⟨p, 0, none⟩), .string ⟨#[110, 117, 108, 108]⟩, .agg #[.int .i64 1, .bool false, .bool false, .string ⟨#[]⟩, .int .i64 0, .int .u64 0, .int .i64 0, .string ⟨#[]⟩, .slice none 0 0]] (w.alloc (.cells zeroC 27)) fun x w' => (w.alloc (.cells zeroC 27)).grownBy w' (some p) ∧ (x = .returned (.tuple #[.agg zeroC, errJ e]) ∧ (e = 60 ∨ e = 80)) ∧ ∃ s' d', RdJ w' p s' d' ∧ s'.size ≤ s.size) := HC
    go_enter Tryz.func116, Tryz.ntmps116
    go_wp2_with fail
    refine HC.out.mono ?_
    rintro x w3 ⟨hg3, ⟨rfl, he⟩, s', d', hr3, hs3⟩
    have hk3 := (hg3.block w.heap.size hk1.lt (fun e => by injection e with e; omega)).trans hk1
    have hg : w.grownBy w3 (some p) := grown_trans (below_grown hb1 _) hg3
    go_wp2_with (refine wpList_store_row rfl 27 (.tmp 2) (.tmp 7) rfl (w.heap.size) zeroC rfl rfl 27 _ hk3 (by kernel_rfl) rfl (by simp [Value.oneCell']) ?_)
    refine bodyPost_ret (results_cell (T := 27) rfl rfl rfl (blk_row hk3 zeroC) Tryz.underlying27 rfl (by kernel_rfl)) rfl ?_
    exact ⟨grown_at hg (grown_row _ _ _) (by omega), ⟨rfl, he⟩, s', d', blk_row_other hr3 (by omega) _, hs3⟩
  | good t r =>
    have HC : Hid (Calls Tryz.prog 151 #[.pointer (some ⟨p, 0, none⟩), .string ⟨#[110, 117, 108, 108]⟩, .agg #[.int .i64 1, .bool false, .bool false, .string ⟨#[]⟩, .int .i64 0, .int .u64 0, .int .i64 0, .string ⟨#[]⟩, .slice none 0 0]] (w.alloc (.cells zeroC 27)) fun x w' => (w.alloc (.cells zeroC 27)).grownBy w' (some p) ∧ (∃ A n c, x = .returned (.tuple #[nodeV t.own (.slice A n c), .nilIface]) ∧ LAt w' (fun q => (w.alloc (.cells zeroC 27)).heap.size ≤ q ∧ q < w'.heap.size) D t.kids (.slice A n c)) ∧ OwnOk t.own ∧ RdJ w' p (bsD r) d ∧ r.length ≤ s.size) := HC
    obtain ⟨⟨kind3, b3, neg3, dg3, ex3, u3, wd3, s3⟩, ho3⟩ : ∃ o, t.own = o := ⟨_, rfl⟩
    have HO3 := Lib.hid ho3
    rw [ho3] at HC
    unfold nodeV at HC
    simp only [] at HC
    clear ho3
    go_enter Tryz.func116, Tryz.ntmps116
    go_wp2_with fail
    refine HC.out.mono ?_
    rintro x w3 ⟨hg3, ⟨A, n, c, rfl, hly⟩, hot, hr3, hs3⟩
    have hk3 := (hg3.block w.heap.size hk1.lt (fun e => by injection e with e; omega)).trans hk1
    have hg : w.grownBy w3 (some p) := grown_trans (below_grown hb1 _) hg3
    have HLY := Lib.hid hly
    clear hly
    go_wp2_with (refine wpList_store_row rfl 27 (.tmp 2) (.tmp 7) rfl (w.heap.size) #[.int .i64 kind3, .bool b3, .bool neg3, .string dg3, .int .i64 ex3, .int .u64 u3, .int .i64 wd3, .string s3, .slice A n c] rfl rfl 27 _ hk3 (by kernel_rfl) rfl (by simp [Value.oneCell']) ?_)
    refine bodyPost_ret (results_cell (T := 27) rfl rfl rfl (blk_row hk3 #[.int .i64 kind3, .bool b3, .bool neg3, .string dg3, .int .i64 ex3, .int .u64 u3, .int .i64 wd3, .string s3, .slice A n c]) Tryz.underlying27 rfl (by kernel_rfl)) rfl ?_
    refine ⟨grown_at hg (grown_row _ _ _) (by omega), ⟨A, n, c, by rw [HO3.out]; rfl, ?_⟩, by rw [HO3.out]; exact hot, blk_row_other hr3 (by omega) _, hs3⟩
    refine ((HLY.out.keep (W' := w3.setRow w.heap.size #[.int .i64 kind3, .bool b3, .bool neg3, .string dg3, .int .i64 ex3, .int .u64 u3, .int .i64 wd3, .string s3, .slice A n c]) (fun q hq => setRow_other _ _ _ _ (by have := hq.1; omega))).mono (fun q hq => ?_))
    rw [setRow_size]
    exact ⟨by have := hq.1; omega, hq.2⟩

set_option maxHeartbeats 4000000 in
set_option maxRecDepth 100000 in
theorem jr_true (p d D : Nat) (s : ByteArray) (w : World) (hR : RdJ w p s d) :
    Calls Tryz.prog 117 #[.pointer (some ⟨p, 0, none⟩)] w (ReadJ p d D w s (wordJ [116, 114, 117, 101] (boolT true) s.data.toList)) := by
  have HC := Lib.hid (jr_word p d D ⟨#[116, 114, 117, 101]⟩ 2 true false ⟨#[]⟩ 0 0 0 ⟨#[]⟩ s _ (hR.alloc (.cells zeroC 27)) ((own_b 2 true (by decide))))
  have HC : Hid (Calls Tryz.prog 151 #[.pointer (some ⟨p, 0, none⟩), .string ⟨#[116, 114, 117, 101]⟩, .agg #[.int .i64 2, .bool true, .bool false, .string ⟨#[]⟩, .int .i64 0, .int .u64 0, .int .i64 0, .string ⟨#[]⟩, .slice none 0 0]] (w.alloc (.cells zeroC 27)) (ReadJ p d D (w.alloc (.cells zeroC 27)) s (wordJ [116, 114, 117, 101] (boolT true) s.data.toList))) := HC
  obtain ⟨res, hres⟩ : ∃ r, wordJ [116, 114, 117, 101] (boolT true) s.data.toList = r := ⟨_, rfl⟩
  rw [hres] at HC ⊢
  clear hres
  have hk1 := Blk.new w zeroC 27
  have hr1 := hR.alloc (.cells zeroC 27)
  have hb1 : Below w.heap.size w (w.alloc (.cells zeroC 27)) := (Below.refl _ w).alloc (Nat.le_refl _) _
  have hplt := hR.lt
  have hz1 : (w.alloc (.cells zeroC 27)).heap.size = w.heap.size + 1 := by simp
  clear hR
  cases res with
  | bad e =>
    have HC : Hid (Calls Tryz.prog 151 #[.pointer (some ⟨p, 0, none⟩), .string ⟨#[116, 114, 117, 101]⟩, .agg #[.int .i64 2, .bool true, .bool false, .string ⟨#[]⟩, .int .i64 0, .int .u64 0, .int .i64 0, .string ⟨#[]⟩, .slice none 0 0]] (w.alloc (.cells zeroC 27)) fun x w' => (w.alloc (.cells zeroC 27)).grownBy w' (some p) ∧ (x = .returned (.tuple #[.agg zeroC, errJ e]) ∧ (e = 60 ∨ e = 80)) ∧ ∃ s' d', RdJ w' p s' d' ∧ s'.size ≤ s.size) := HC
    go_enter Tryz.func117, Tryz.ntmps117
    go_wp2_with fail
    refine HC.out.mono ?_
    rintro x w3 ⟨hg3, ⟨rfl, he⟩, s', d', hr3, hs3⟩
    have hk3 := (hg3.block w.heap.size hk1.lt (fun e => by injection e with e; omega)).trans hk1
    have hg : w.grownBy w3 (some p) := grown_trans (below_grown hb1 _) hg3
    go_wp2_with (refine wpList_store_row rfl 27 (.tmp 2) (.tmp 7) rfl (w.heap.size) zeroC rfl rfl 27 _ hk3 (by kernel_rfl) rfl (by simp [Value.oneCell']) ?_)
    refine bodyPost_ret (results_cell (T := 27) rfl rfl rfl (blk_row hk3 zeroC) Tryz.underlying27 rfl (by kernel_rfl)) rfl ?_
    exact ⟨grown_at hg (grown_row _ _ _) (by omega), ⟨rfl, he⟩, s', d', blk_row_other hr3 (by omega) _, hs3⟩
  | good t r =>
    have HC : Hid (Calls Tryz.prog 151 #[.pointer (some ⟨p, 0, none⟩), .string ⟨#[116, 114, 117, 101]⟩, .agg #[.int .i64 2, .bool true, .bool false, .string ⟨#[]⟩, .int .i64 0, .int .u64 0, .int .i64 0, .string ⟨#[]⟩, .slice none 0 0]] (w.alloc (.cells zeroC 27)) fun x w' => (w.alloc (.cells zeroC 27)).grownBy w' (some p) ∧ (∃ A n c, x = .returned (.tuple #[nodeV t.own (.slice A n c), .nilIface]) ∧ LAt w' (fun q => (w.alloc (.cells zeroC 27)).heap.size ≤ q ∧ q < w'.heap.size) D t.kids (.slice A n c)) ∧ OwnOk t.own ∧ RdJ w' p (bsD r) d ∧ r.length ≤ s.size) := HC
    obtain ⟨⟨kind3, b3, neg3, dg3, ex3, u3, wd3, s3⟩, ho3⟩ : ∃ o, t.own = o := ⟨_, rfl⟩
    have HO3 := Lib.hid ho3
    rw [ho3] at HC
    unfold nodeV at HC
    simp only [] at HC
    clear ho3
    go_enter Tryz.func117, Tryz.ntmps117
    go_wp2_with fail
    refine HC.out.mono ?_
    rintro x w3 ⟨hg3, ⟨A, n, c, rfl, hly⟩, hot, hr3, hs3⟩
    have hk3 := (hg3.block w.heap.size hk1.lt (fun e => by injection e with e; omega)).trans hk1
    have hg : w.grownBy w3 (some p) := grown_trans (below_grown hb1 _) hg3
    have HLY := Lib.hid hly
    clear hly
    go_wp2_with (refine wpList_store_row rfl 27 (.tmp 2) (.tmp 7) rfl (w.heap.size) #[.int .i64 kind3, .bool b3, .bool neg3, .string dg3, .int .i64 ex3, .int .u64 u3, .int .i64 wd3, .string s3, .slice A n c] rfl rfl 27 _ hk3 (by kernel_rfl) rfl (by simp [Value.oneCell']) ?_)
    refine bodyPost_ret (results_cell (T := 27) rfl rfl rfl (blk_row hk3 #[.int .i64 kind3, .bool b3, .bool neg3, .string dg3, .int .i64 ex3, .int .u64 u3, .int .i64 wd3, .string s3, .slice A n c]) Tryz.underlying27 rfl (by kernel_rfl)) rfl ?_
    refine ⟨grown_at hg (grown_row _ _ _) (by omega), ⟨A, n, c, by rw [HO3.out]; rfl, ?_⟩, by rw [HO3.out]; exact hot, blk_row_other hr3 (by omega) _, hs3⟩
    refine ((HLY.out.keep (W' := w3.setRow w.heap.size #[.int .i64 kind3, .bool b3, .bool neg3, .string dg3, .int .i64 ex3, .int .u64 u3, .int .i64 wd3, .string s3, .slice A n c]) (fun q hq => setRow_other _ _ _ _ (by have := hq.1; omega))).mono (fun q hq => ?_))
    rw [setRow_size]
    exact ⟨by have := hq.1; omega, hq.2⟩

set_option maxHeartbeats 4000000 in
set_option maxRecDepth 100000 in
theorem jr_false (p d D : Nat) (s : ByteArray) (w : World) (hR : RdJ w p s d) :
    Calls Tryz.prog 118 #[.pointer (some ⟨p, 0, none⟩)] w (ReadJ p d D w s (wordJ [102, 97, 108, 115, 101] (boolT false) s.data.toList)) := by
  have HC := Lib.hid (jr_word p d D ⟨#[102, 97, 108, 115, 101]⟩ 2 false false ⟨#[]⟩ 0 0 0 ⟨#[]⟩ s _ (hR.alloc (.cells zeroC 27)) (own_u 2 0 0 (by decide) (by decide) (by decide)))
  have HC : Hid (Calls Tryz.prog 151 #[.pointer (some ⟨p, 0, none⟩), .string ⟨#[102, 97, 108, 115, 101]⟩, .agg #[.int .i64 2, .bool false, .bool false, .string ⟨#[]⟩, .int .i64 0, .int .u64 0, .int .i64 0, .string ⟨#[]⟩, .slice none 0 0]] (w.alloc (.cells zeroC 27)) (ReadJ p d D (w.alloc (.cells zeroC 27)) s (wordJ [102, 97, 108, 115, 101] (boolT false) s.data.toList))) := HC
  obtain ⟨res, hres⟩ : ∃ r, wordJ [102, 97, 108, 115, 101] (boolT false) s.data.toList = r := ⟨_, rfl⟩
  rw [hres] at HC ⊢
  clear hres
  have hk1 := Blk.new w zeroC 27
  have hr1 := hR.alloc (.cells zeroC 27)
  have hb1 : Below w.heap.size w (w.alloc (.cells zeroC 27)) := (Below.refl _ w).alloc (Nat.le_refl _) _
  have hplt := hR.lt
  have hz1 : (w.alloc (.cells zeroC 27)).heap.size = w.heap.size + 1 := by simp
  clear hR
  cases res with
  | bad e =>
    have HC : Hid (Calls Tryz.prog 151 #[.pointer (some ⟨p, 0, none⟩), .string ⟨#[102, 97, 108, 115, 101]⟩, .agg #[.int .i64 2, .bool false, .bool false, .string ⟨#[]⟩, .int .i64 0, .int .u64 0, .int .i64 0, .string ⟨#[]⟩, .slice none 0 0]] (w.alloc (.cells zeroC 27)) fun x w' => (w.alloc (.cells zeroC 27)).grownBy w' (some p) ∧ (x = .returned (.tuple #[.agg zeroC, errJ e]) ∧ (e = 60 ∨ e = 80)) ∧ ∃ s' d', RdJ w' p s' d' ∧ s'.size ≤ s.size) := HC
    go_enter Tryz.func118, Tryz.ntmps118
    go_wp2_with fail
    refine HC.out.mono ?_
    rintro x w3 ⟨hg3, ⟨rfl, he⟩, s', d', hr3, hs3⟩
    have hk3 := (hg3.block w.heap.size hk1.lt (fun e => by injection e with e; omega)).trans hk1
    have hg : w.grownBy w3 (some p) := grown_trans (below_grown hb1 _) hg3
    go_wp2_with (refine wpList_store_row rfl 27 (.tmp 2) (.tmp 7) rfl (w.heap.size) zeroC rfl rfl 27 _ hk3 (by kernel_rfl) rfl (by simp [Value.oneCell']) ?_)
    refine bodyPost_ret (results_cell (T := 27) rfl rfl rfl (blk_row hk3 zeroC) Tryz.underlying27 rfl (by kernel_rfl)) rfl ?_
    exact ⟨grown_at hg (grown_row _ _ _) (by omega), ⟨rfl, he⟩, s', d', blk_row_other hr3 (by omega) _, hs3⟩
  | good t r =>
    have HC : Hid (Calls Tryz.prog 151 #[.pointer (some ⟨p, 0, none⟩), .string ⟨#[102, 97, 108, 115, 101]⟩, .agg #[.int .i64 2, .bool false, .bool false, .string ⟨#[]⟩, .int .i64 0, .int .u64 0, .int .i64 0, .string ⟨#[]⟩, .slice none 0 0]] (w.alloc (.cells zeroC 27)) fun x w' => (w.alloc (.cells zeroC 27)).grownBy w' (some p) ∧ (∃ A n c, x = .returned (.tuple #[nodeV t.own (.slice A n c), .nilIface]) ∧ LAt w' (fun q => (w.alloc (.cells zeroC 27)).heap.size ≤ q ∧ q < w'.heap.size) D t.kids (.slice A n c)) ∧ OwnOk t.own ∧ RdJ w' p (bsD r) d ∧ r.length ≤ s.size) := HC
    obtain ⟨⟨kind3, b3, neg3, dg3, ex3, u3, wd3, s3⟩, ho3⟩ : ∃ o, t.own = o := ⟨_, rfl⟩
    have HO3 := Lib.hid ho3
    rw [ho3] at HC
    unfold nodeV at HC
    simp only [] at HC
    clear ho3
    go_enter Tryz.func118, Tryz.ntmps118
    go_wp2_with fail
    refine HC.out.mono ?_
    rintro x w3 ⟨hg3, ⟨A, n, c, rfl, hly⟩, hot, hr3, hs3⟩
    have hk3 := (hg3.block w.heap.size hk1.lt (fun e => by injection e with e; omega)).trans hk1
    have hg : w.grownBy w3 (some p) := grown_trans (below_grown hb1 _) hg3
    have HLY := Lib.hid hly
    clear hly
    go_wp2_with (refine wpList_store_row rfl 27 (.tmp 2) (.tmp 7) rfl (w.heap.size) #[.int .i64 kind3, .bool b3, .bool neg3, .string dg3, .int .i64 ex3, .int .u64 u3, .int .i64 wd3, .string s3, .slice A n c] rfl rfl 27 _ hk3 (by kernel_rfl) rfl (by simp [Value.oneCell']) ?_)
    refine bodyPost_ret (results_cell (T := 27) rfl rfl rfl (blk_row hk3 #[.int .i64 kind3, .bool b3, .bool neg3, .string dg3, .int .i64 ex3, .int .u64 u3, .int .i64 wd3, .string s3, .slice A n c]) Tryz.underlying27 rfl (by kernel_rfl)) rfl ?_
    refine ⟨grown_at hg (grown_row _ _ _) (by omega), ⟨A, n, c, by rw [HO3.out]; rfl, ?_⟩, by rw [HO3.out]; exact hot, blk_row_other hr3 (by omega) _, hs3⟩
    refine ((HLY.out.keep (W' := w3.setRow w.heap.size #[.int .i64 kind3, .bool b3, .bool neg3, .string dg3, .int .i64 ex3, .int .u64 u3, .int .i64 wd3, .string s3, .slice A n c]) (fun q hq => setRow_other _ _ _ _ (by have := hq.1; omega))).mono (fun q hq => ?_))
    rw [setRow_size]
    exact ⟨by have := hq.1; omega, hq.2⟩
end Go.Proofs.YtfckekaegjjmkaaGreatDoor
namespace Go.Proofs.YtfckekaegjjmkaaGreatDoor
open Go.RowKit Go.Shelf
attribute [local go_sem] Oper.semAt_some

theorem text_own {t : List UInt8} (h : t.length ≤ 9223372036854775807) : OwnOk { zeroO with kind := 5, s := bsD t } :=
  ⟨by show (0 : Nat) ≤ _; omega, h, by show _ ≤ (5 : Int) ∧ (5 : Int) < _; omega, by show _ ≤ (0 : Int) ∧ (0 : Int) < _; omega, by show (0 : Int) ≤ (0 : Int) ∧ (0 : Int) < _; omega, by show _ ≤ (0 : Int) ∧ (0 : Int) < _; omega⟩
set_option maxHeartbeats 4000000 in
set_option maxRecDepth 100000 in
theorem jr_text {w0 : World} {uT uQ : Addr} (hU : UW w0 uT uQ) (p d D : Nat) (s : ByteArray) (w : World) (hb0 : Below w0.heap.size w0 w) (hR : RdJ w p s d) (hs : s.size ≤ 1000000000) :
    Calls Tryz.prog 115 #[.pointer (some ⟨p, 0, none⟩)] w (ReadJ p d D w s (textJ uqJ s.data.toList)) := by
  have hk1 := Blk.new w zeroC 27
  have hr1 := hR.alloc (.cells zeroC 27)
  have hb1 : Below w.heap.size w (w.alloc (.cells zeroC 27)) := (Below.refl _ w).alloc (Nat.le_refl _) _
  have HU := utf_Unquote s _ (hU.below (hb0.trans (hb1.mono hb0.size))) hs
  unfold UnqPost at HU
  have hplt := hR.lt
  have hz1 : (w.alloc (.cells zeroC 27)).heap.size = w.heap.size + 1 := by simp
  have q0 := hr1.cell 0
  have hsl : s.data.toList.length = s.size := by simp
  unfold textJ uqJ
  cases hx : unquoteL s.data.toList with
  | error b =>
    simp only [hx] at HU ⊢
    have HU := Lib.hid HU
    have hec : (if b = true then (20 : Int) else 21) ≠ 0 := by split <;> decide
    generalize (if b = true then (20 : Int) else 21) = ec at HU hec
    clear hx hU hb0 hsl
    show Calls _ _ _ _ (ReadJ p d D w s (.bad 80))
    have y0 : (ec == 0) = false := by rw [beq_eq_false_iff_ne]; exact hec
    go_enter Tryz.func115, Tryz.ntmps115
    go_wp2_with fail
    refine HU.out.mono ?_
    rintro e w3 ⟨hb3, rfl⟩
    have hk3 := hk1.below hb3 hk1.lt
    have hr3 := hr1.below hb3 hr1.lt
    have hg3 : w.grownBy w3 (some p) := below_grown (hb1.trans (hb3.mono (by rw [hz1]; omega))) _
    clear q0
    go_wp2_with fail
    refine (jr_bad _).mono ?_
    rintro e w4 ⟨rfl, rfl⟩
    go_wp2_with (refine wpList_store_row rfl 27 (.tmp 2) (.tmp 19) rfl (w.heap.size) zeroC rfl rfl 27 _ hk3 (by kernel_rfl) rfl (by simp [Value.oneCell']) ?_)
    refine bodyPost_ret (results_cell (T := 27) rfl rfl rfl (blk_row hk3 zeroC) Tryz.underlying27 rfl (by kernel_rfl)) rfl ?_
    exact ⟨grown_at hg3 (grown_row _ _ _) (by omega), ⟨rfl, .inr rfl⟩, s, d, blk_row_other hr3 (by omega) _, Nat.le_refl _⟩
  | ok q =>
    obtain ⟨t, r⟩ := q
    simp only [hx] at HU ⊢
    have h1 := unquoteL_len hx
    have h2 := (unquoteL_text hx).2
    rw [hsl] at h1 h2
    have HO := Lib.hid (text_own (t := t) (by omega))
    have HL := Lib.hid (show r.length ≤ s.size by omega)
    have HU : Hid (Calls Tryz.prog 150 #[.string s] (w.alloc (.cells zeroC 27)) fun e w' => Below (w.alloc (.cells zeroC 27)).heap.size (w.alloc (.cells zeroC 27)) w' ∧ e = .returned (.tuple #[.string (bsD t), .string (bsD r), .int .i64 0])) := Lib.hid HU
    obtain ⟨rb, hrb⟩ : ∃ x, bsD r = x := ⟨_, rfl⟩
    obtain ⟨tb, htb⟩ : ∃ x, bsD t = x := ⟨_, rfl⟩
    rw [hrb] at HU
    rw [htb] at HU HO
    have HRB := Lib.hid hrb
    have HTB := Lib.hid htb
    clear hx h1 h2 hrb htb hsl hU hb0
    show Calls _ _ _ _ (ReadJ p d D w s (.good (strT 5 t) r))
    go_enter Tryz.func115, Tryz.ntmps115
    go_wp2_with fail
    refine HU.out.mono ?_
    rintro e w3 ⟨hb3, rfl⟩
    have hk3 := hk1.below hb3 hk1.lt
    have hr3 := hr1.below hb3 hr1.lt
    have f0 := hr3.frozen 0
    have q3 := hr3.cell 0
    have hg3 : w.grownBy w3 (some p) := below_grown (hb1.trans (hb3.mono (by rw [hz1]; omega))) _
    have hr4 := hr3.set 0 (.string rb)
    have hk4 := hk3.other (b' := p) (by omega) 0 (.string rb)
    have hg4 := grown_trans hg3 (grown_set w3 p 0 (.string rb))
    clear q0
    go_wp2_with (refine wpList_store_row rfl 27 (.tmp 2) (.tmp 27) rfl (w.heap.size) #[.int .i64 5, .bool false, .bool false, .string ⟨#[]⟩, .int .i64 0, .int .u64 0, .int .i64 0, .string tb, .slice none 0 0] rfl rfl 27 _ hk4 (by kernel_rfl) rfl (by simp [Value.oneCell']) ?_)
    refine bodyPost_ret (results_cell (T := 27) rfl rfl rfl (blk_row hk4 _) Tryz.underlying27 rfl (by kernel_rfl)) rfl ?_
    refine ⟨grown_at hg4 (grown_row _ _ _) (by omega), ⟨none, 0, 0, ?_, LAt.nil _ _ _ _ _⟩, ?_, ?_, HL.out⟩
    · rw [← HTB.out]
      rfl
    · have := HO.out
      rw [← HTB.out] at this
      exact this
    · rw [HRB.out]
      exact blk_row_other hr4 (by omega) _
end Go.Proofs.YtfckekaegjjmkaaGreatDoor
