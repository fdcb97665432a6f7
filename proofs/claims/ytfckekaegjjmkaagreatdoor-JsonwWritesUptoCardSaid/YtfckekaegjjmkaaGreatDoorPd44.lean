/- The texts RtD, put together. -/
import Derived.Test.YtfckekaegjjmkaaGreatDoorPd43
import Derived.Shelf.Unicode.ValidAny
namespace Go.Proofs.YtfckekaegjjmkaaGreatDoor
open Go.RowKit Go.Shelf

set_option maxHeartbeats 4000000 in
set_option maxRecDepth 100000 in
theorem own_1 (b neg : Bool) (dg : ByteArray) (ex u wd : Int) (s : ByteArray) (l : List Tr) (A : Option Addr) (n c : Nat) (w : World) (B d : Nat) (hn : l.length = n) (hl : ListAt w B d l (.slice A n c)) (hB : B ≤ w.heap.size) (_hok : OwnOk ⟨1, b, neg, dg, ex, u, wd, s⟩) :
    Calls Tryz.prog 107 #[.agg #[.int .i64 1, .bool b, .bool neg, .string dg, .int .i64 ex, .int .u64 u, .int .i64 wd, .string s, .slice A n c]] w fun e w' => e = .returned (.bool (ownB ⟨1, b, neg, dg, ex, u, wd, s⟩ l)) ∧ Below w.heap.size w w' := by
  have hans : ownB ⟨1, b, neg, dg, ex, u, wd, s⟩ l = (decide (l.length = 0) && onlyB ⟨1, b, neg, dg, ex, u, wd, s⟩ ⟨0, false, false, ⟨#[]⟩, 0, 0, 0, ⟨#[]⟩⟩) := rfl
  rw [hans, hn]
  clear hans
  have hlen := hl.slice.1
  have hb1 : Below w.heap.size w (w.alloc (.cells #[.int .i64 1, .bool b, .bool neg, .string dg, .int .i64 ex, .int .u64 u, .int .i64 wd, .string s, .slice A n c] 27)) := (Below.refl _ _).alloc (Nat.le_refl _) _
  have hk1 := Blk.new w #[.int .i64 1, .bool b, .bool neg, .string dg, .int .i64 ex, .int .u64 u, .int .i64 wd, .string s, .slice A n c] 27
  have HO := fun (W : World) (hW : Below w.heap.size w W) => ref_only (.nd ⟨1, b, neg, dg, ex, u, wd, s⟩ l) ⟨0, false, false, ⟨#[]⟩, 0, 0, 0, ⟨#[]⟩⟩ (.slice A n c) W B d (hl.below hW hB) (Nat.le_trans hB hW.size)
  obtain ⟨ob, hob⟩ : ∃ ob, onlyB ⟨1, b, neg, dg, ex, u, wd, s⟩ ⟨0, false, false, ⟨#[]⟩, 0, 0, 0, ⟨#[]⟩⟩ = ob := ⟨_, rfl⟩
  simp only [Tr.own] at HO
  rw [hob] at HO
  rw [hob]
  unfold nodeV at HO
  simp only [] at HO
  have HO := Lib.hid HO
  have HK1 := Lib.hid hk1
  clear hl hk1 hob hn

  by_cases h0 : n = 0
  · have zl : ((n : Int) == 0) = true := by rw [beq_iff_eq]; omega
    have zl' : (n : Int) = 0 := by omega
    rw [decide_eq_true h0, Bool.true_and]
    clear h0 hlen
    go_enter Tryz.func107, Tryz.ntmps107
    go_wp2_with fail
    refine (HO.out _ hb1).mono ?_
    rintro e w2 ⟨rfl, hb⟩
    have hb2 := hb1.trans (hb.mono hb1.size)
    have hk := HK1.out.below hb HK1.out.lt
    clear hb HO HK1 hk hb1
    go_wp2_with fail
    go_ret
    exact ⟨by first | rfl | (simp [go_sem]; done) | (simp [go_sem]; omega), hb2⟩
  · have zl : ((n : Int) == 0) = false := by rw [beq_eq_false_iff_ne]; omega
    have zl' : ¬ (n : Int) = 0 := by omega
    rw [decide_eq_false h0, Bool.false_and]
    clear h0 hlen
    go_enter Tryz.func107, Tryz.ntmps107
    go_wp2_with fail
    go_ret
    exact ⟨by first | rfl | (simp [go_sem]; done) | (simp [go_sem]; omega), hb1⟩

set_option maxHeartbeats 4000000 in
set_option maxRecDepth 100000 in
theorem own_2 (b neg : Bool) (dg : ByteArray) (ex u wd : Int) (s : ByteArray) (l : List Tr) (A : Option Addr) (n c : Nat) (w : World) (B d : Nat) (hn : l.length = n) (hl : ListAt w B d l (.slice A n c)) (hB : B ≤ w.heap.size) (_hok : OwnOk ⟨2, b, neg, dg, ex, u, wd, s⟩) :
    Calls Tryz.prog 107 #[.agg #[.int .i64 2, .bool b, .bool neg, .string dg, .int .i64 ex, .int .u64 u, .int .i64 wd, .string s, .slice A n c]] w fun e w' => e = .returned (.bool (ownB ⟨2, b, neg, dg, ex, u, wd, s⟩ l)) ∧ Below w.heap.size w w' := by
  have hans : ownB ⟨2, b, neg, dg, ex, u, wd, s⟩ l = (decide (l.length = 0) && onlyB ⟨2, b, neg, dg, ex, u, wd, s⟩ ⟨0, b, false, ⟨#[]⟩, 0, 0, 0, ⟨#[]⟩⟩) := rfl
  rw [hans, hn]
  clear hans
  have hlen := hl.slice.1
  have hb1 : Below w.heap.size w (w.alloc (.cells #[.int .i64 2, .bool b, .bool neg, .string dg, .int .i64 ex, .int .u64 u, .int .i64 wd, .string s, .slice A n c] 27)) := (Below.refl _ _).alloc (Nat.le_refl _) _
  have hk1 := Blk.new w #[.int .i64 2, .bool b, .bool neg, .string dg, .int .i64 ex, .int .u64 u, .int .i64 wd, .string s, .slice A n c] 27
  have HO := fun (W : World) (hW : Below w.heap.size w W) => ref_only (.nd ⟨2, b, neg, dg, ex, u, wd, s⟩ l) ⟨0, b, false, ⟨#[]⟩, 0, 0, 0, ⟨#[]⟩⟩ (.slice A n c) W B d (hl.below hW hB) (Nat.le_trans hB hW.size)
  obtain ⟨ob, hob⟩ : ∃ ob, onlyB ⟨2, b, neg, dg, ex, u, wd, s⟩ ⟨0, b, false, ⟨#[]⟩, 0, 0, 0, ⟨#[]⟩⟩ = ob := ⟨_, rfl⟩
  simp only [Tr.own] at HO
  rw [hob] at HO
  rw [hob]
  unfold nodeV at HO
  simp only [] at HO
  have HO := Lib.hid HO
  have HK1 := Lib.hid hk1
  clear hl hk1 hob hn

  by_cases h0 : n = 0
  · have zl : ((n : Int) == 0) = true := by rw [beq_iff_eq]; omega
    have zl' : (n : Int) = 0 := by omega
    rw [decide_eq_true h0, Bool.true_and]
    clear h0 hlen
    go_enter Tryz.func107, Tryz.ntmps107
    go_wp2_with fail
    refine (HO.out _ hb1).mono ?_
    rintro e w2 ⟨rfl, hb⟩
    have hb2 := hb1.trans (hb.mono hb1.size)
    have hk := HK1.out.below hb HK1.out.lt
    clear hb HO HK1 hk hb1
    go_wp2_with fail
    go_ret
    exact ⟨by first | rfl | (simp [go_sem]; done) | (simp [go_sem]; omega), hb2⟩
  · have zl : ((n : Int) == 0) = false := by rw [beq_eq_false_iff_ne]; omega
    have zl' : ¬ (n : Int) = 0 := by omega
    rw [decide_eq_false h0, Bool.false_and]
    clear h0 hlen
    go_enter Tryz.func107, Tryz.ntmps107
    go_wp2_with fail
    go_ret
    exact ⟨by first | rfl | (simp [go_sem]; done) | (simp [go_sem]; omega), hb1⟩

set_option maxHeartbeats 4000000 in
set_option maxRecDepth 100000 in
theorem own_3 (b neg : Bool) (dg : ByteArray) (ex u wd : Int) (s : ByteArray) (l : List Tr) (A : Option Addr) (n c : Nat) (w : World) (B d : Nat) (hn : l.length = n) (hl : ListAt w B d l (.slice A n c)) (hB : B ≤ w.heap.size) (_hok : OwnOk ⟨3, b, neg, dg, ex, u, wd, s⟩) :
    Calls Tryz.prog 107 #[.agg #[.int .i64 3, .bool b, .bool neg, .string dg, .int .i64 ex, .int .u64 u, .int .i64 wd, .string s, .slice A n c]] w fun e w' => e = .returned (.bool (ownB ⟨3, b, neg, dg, ex, u, wd, s⟩ l)) ∧ Below w.heap.size w w' := by
  have hans : ownB ⟨3, b, neg, dg, ex, u, wd, s⟩ l = (decide (l.length = 0) && (onlyB ⟨3, b, neg, dg, ex, u, wd, s⟩ ⟨0, false, neg, dg, ex, 0, 0, ⟨#[]⟩⟩ && decOk neg dg ex)) := rfl
  rw [hans, hn]
  clear hans
  have hlen := hl.slice.1
  have hb1 : Below w.heap.size w (w.alloc (.cells #[.int .i64 3, .bool b, .bool neg, .string dg, .int .i64 ex, .int .u64 u, .int .i64 wd, .string s, .slice A n c] 27)) := (Below.refl _ _).alloc (Nat.le_refl _) _
  have hk1 := Blk.new w #[.int .i64 3, .bool b, .bool neg, .string dg, .int .i64 ex, .int .u64 u, .int .i64 wd, .string s, .slice A n c] 27
  have HO := fun (W : World) (hW : Below w.heap.size w W) => ref_only (.nd ⟨3, b, neg, dg, ex, u, wd, s⟩ l) ⟨0, false, neg, dg, ex, 0, 0, ⟨#[]⟩⟩ (.slice A n c) W B d (hl.below hW hB) (Nat.le_trans hB hW.size)
  obtain ⟨ob, hob⟩ : ∃ ob, onlyB ⟨3, b, neg, dg, ex, u, wd, s⟩ ⟨0, false, neg, dg, ex, 0, 0, ⟨#[]⟩⟩ = ob := ⟨_, rfl⟩
  simp only [Tr.own] at HO
  rw [hob] at HO
  rw [hob]
  unfold nodeV at HO
  simp only [] at HO
  have HO := Lib.hid HO
  have HK1 := Lib.hid hk1
  clear hl hk1 hob hn

  by_cases h0 : n = 0
  · have zl : ((n : Int) == 0) = true := by rw [beq_iff_eq]; omega
    have zl' : (n : Int) = 0 := by omega
    rw [decide_eq_true h0, Bool.true_and]
    clear h0 hlen
    cases ob with
    | false =>
      rw [Bool.false_and]
      go_enter Tryz.func107, Tryz.ntmps107
      go_wp2_with fail
      refine (HO.out _ hb1).mono ?_
      rintro e w2 ⟨rfl, hb⟩
      have hb2 := hb1.trans (hb.mono hb1.size)
      have hk := HK1.out.below hb HK1.out.lt
      clear hk hb HO HK1 hb1
      go_wp2_with fail
      go_ret
      exact ⟨by first | rfl | (simp [go_sem]; done) | (simp [go_sem]; omega), hb2⟩
    | true =>
      rw [Bool.true_and]
      have HD := Lib.hid (ref_decOk neg dg ex _hok.dg)
      go_enter Tryz.func107, Tryz.ntmps107
      go_wp2_with fail
      refine (HO.out _ hb1).mono ?_
      rintro e w2 ⟨rfl, hb⟩
      have hb2 := hb1.trans (hb.mono hb1.size)
      have hk := HK1.out.below hb HK1.out.lt
      have z2 := hk.cell 2
      have z3 := hk.cell 3
      have z4 := hk.cell 4
      clear hk hb HO HK1 hb1
      go_wp2_with fail
      refine (HD.out _).mono ?_
      rintro e w3 ⟨rfl, hb⟩
      have hb3 := hb2.trans (hb.mono hb2.size)
      clear hb HD hb2
      go_wp2_with fail
      go_ret
      exact ⟨by first | rfl | (simp [go_sem]; done) | (simp [go_sem]; omega), hb3⟩
  · have zl : ((n : Int) == 0) = false := by rw [beq_eq_false_iff_ne]; omega
    have zl' : ¬ (n : Int) = 0 := by omega
    rw [decide_eq_false h0, Bool.false_and]
    clear h0 hlen
    go_enter Tryz.func107, Tryz.ntmps107
    go_wp2_with fail
    go_ret
    exact ⟨by first | rfl | (simp [go_sem]; done) | (simp [go_sem]; omega), hb1⟩

set_option maxHeartbeats 4000000 in
set_option maxRecDepth 100000 in
theorem own_6 (b neg : Bool) (dg : ByteArray) (ex u wd : Int) (s : ByteArray) (l : List Tr) (A : Option Addr) (n c : Nat) (w : World) (B d : Nat) (hn : l.length = n) (hl : ListAt w B d l (.slice A n c)) (hB : B ≤ w.heap.size) (_hok : OwnOk ⟨6, b, neg, dg, ex, u, wd, s⟩) :
    Calls Tryz.prog 107 #[.agg #[.int .i64 6, .bool b, .bool neg, .string dg, .int .i64 ex, .int .u64 u, .int .i64 wd, .string s, .slice A n c]] w fun e w' => e = .returned (.bool (ownB ⟨6, b, neg, dg, ex, u, wd, s⟩ l)) ∧ Below w.heap.size w w' := by
  have hans : ownB ⟨6, b, neg, dg, ex, u, wd, s⟩ l = (decide (l.length = 0) && (onlyB ⟨6, b, neg, dg, ex, u, wd, s⟩ ⟨0, false, false, ⟨#[]⟩, 0, 0, 0, s⟩ && decide (s.size ≤ 400))) := rfl
  rw [hans, hn]
  clear hans
  have hlen := hl.slice.1
  have hb1 : Below w.heap.size w (w.alloc (.cells #[.int .i64 6, .bool b, .bool neg, .string dg, .int .i64 ex, .int .u64 u, .int .i64 wd, .string s, .slice A n c] 27)) := (Below.refl _ _).alloc (Nat.le_refl _) _
  have hk1 := Blk.new w #[.int .i64 6, .bool b, .bool neg, .string dg, .int .i64 ex, .int .u64 u, .int .i64 wd, .string s, .slice A n c] 27
  have HO := fun (W : World) (hW : Below w.heap.size w W) => ref_only (.nd ⟨6, b, neg, dg, ex, u, wd, s⟩ l) ⟨0, false, false, ⟨#[]⟩, 0, 0, 0, s⟩ (.slice A n c) W B d (hl.below hW hB) (Nat.le_trans hB hW.size)
  obtain ⟨ob, hob⟩ : ∃ ob, onlyB ⟨6, b, neg, dg, ex, u, wd, s⟩ ⟨0, false, false, ⟨#[]⟩, 0, 0, 0, s⟩ = ob := ⟨_, rfl⟩
  simp only [Tr.own] at HO
  rw [hob] at HO
  rw [hob]
  unfold nodeV at HO
  simp only [] at HO
  have HO := Lib.hid HO
  have HK1 := Lib.hid hk1
  clear hl hk1 hob hn

  by_cases h0 : n = 0
  · have zl : ((n : Int) == 0) = true := by rw [beq_iff_eq]; omega
    have zl' : (n : Int) = 0 := by omega
    rw [decide_eq_true h0, Bool.true_and]
    clear h0 hlen
    cases ob with
    | false =>
      rw [Bool.false_and]
      go_enter Tryz.func107, Tryz.ntmps107
      go_wp2_with fail
      refine (HO.out _ hb1).mono ?_
      rintro e w2 ⟨rfl, hb⟩
      have hb2 := hb1.trans (hb.mono hb1.size)
      have hk := HK1.out.below hb HK1.out.lt
      clear hk hb HO HK1 hb1
      go_wp2_with fail
      go_ret
      exact ⟨by first | rfl | (simp [go_sem]; done) | (simp [go_sem]; omega), hb2⟩
    | true =>
      rw [Bool.true_and]
      by_cases hs : s.size ≤ 400
      · have q : ((s.size : Int)) ≤ 400 := by omega
        rw [decide_eq_true hs]
        clear hs
        go_enter Tryz.func107, Tryz.ntmps107
        go_wp2_with fail
        refine (HO.out _ hb1).mono ?_
        rintro e w2 ⟨rfl, hb⟩
        have hb2 := hb1.trans (hb.mono hb1.size)
        have hk := HK1.out.below hb HK1.out.lt
        have z7 := hk.cell 7
        clear hk hb HO HK1 hb1
        go_wp2_with fail
        go_ret
        exact ⟨by first | rfl | (simp [go_sem]; done) | (simp [go_sem]; omega), hb2⟩
      · have q : ¬ ((s.size : Int)) ≤ 400 := by omega
        have q2 : (400 : Int) < s.size := by omega
        rw [decide_eq_false hs]
        clear hs
        go_enter Tryz.func107, Tryz.ntmps107
        go_wp2_with fail
        refine (HO.out _ hb1).mono ?_
        rintro e w2 ⟨rfl, hb⟩
        have hb2 := hb1.trans (hb.mono hb1.size)
        have hk := HK1.out.below hb HK1.out.lt
        have z7 := hk.cell 7
        clear hk hb HO HK1 hb1
        go_wp2_with fail
        go_ret
        exact ⟨by first | rfl | (simp [go_sem]; done) | (simp [go_sem]; omega), hb2⟩
  · have zl : ((n : Int) == 0) = false := by rw [beq_eq_false_iff_ne]; omega
    have zl' : ¬ (n : Int) = 0 := by omega
    rw [decide_eq_false h0, Bool.false_and]
    clear h0 hlen
    go_enter Tryz.func107, Tryz.ntmps107
    go_wp2_with fail
    go_ret
    exact ⟨by first | rfl | (simp [go_sem]; done) | (simp [go_sem]; omega), hb1⟩

set_option maxHeartbeats 4000000 in
set_option maxRecDepth 100000 in
theorem own_7 (b neg : Bool) (dg : ByteArray) (ex u wd : Int) (s : ByteArray) (l : List Tr) (A : Option Addr) (n c : Nat) (w : World) (B d : Nat) (_hn : l.length = n) (hl : ListAt w B d l (.slice A n c)) (hB : B ≤ w.heap.size) (_hok : OwnOk ⟨7, b, neg, dg, ex, u, wd, s⟩) :
    Calls Tryz.prog 107 #[.agg #[.int .i64 7, .bool b, .bool neg, .string dg, .int .i64 ex, .int .u64 u, .int .i64 wd, .string s, .slice A n c]] w fun e w' => e = .returned (.bool (ownB ⟨7, b, neg, dg, ex, u, wd, s⟩ l)) ∧ Below w.heap.size w w' := by
  have hans : ownB ⟨7, b, neg, dg, ex, u, wd, s⟩ l = (onlyB ⟨7, b, neg, dg, ex, u, wd, s⟩ ⟨0, false, false, ⟨#[]⟩, 0, 0, 0, ⟨#[]⟩⟩) := rfl
  rw [hans]
  clear hans
  have hlen := hl.slice.1
  have hb1 : Below w.heap.size w (w.alloc (.cells #[.int .i64 7, .bool b, .bool neg, .string dg, .int .i64 ex, .int .u64 u, .int .i64 wd, .string s, .slice A n c] 27)) := (Below.refl _ _).alloc (Nat.le_refl _) _
  have hk1 := Blk.new w #[.int .i64 7, .bool b, .bool neg, .string dg, .int .i64 ex, .int .u64 u, .int .i64 wd, .string s, .slice A n c] 27
  have HO := fun (W : World) (hW : Below w.heap.size w W) => ref_only (.nd ⟨7, b, neg, dg, ex, u, wd, s⟩ l) ⟨0, false, false, ⟨#[]⟩, 0, 0, 0, ⟨#[]⟩⟩ (.slice A n c) W B d (hl.below hW hB) (Nat.le_trans hB hW.size)
  obtain ⟨ob, hob⟩ : ∃ ob, onlyB ⟨7, b, neg, dg, ex, u, wd, s⟩ ⟨0, false, false, ⟨#[]⟩, 0, 0, 0, ⟨#[]⟩⟩ = ob := ⟨_, rfl⟩
  simp only [Tr.own] at HO
  rw [hob] at HO
  rw [hob]
  unfold nodeV at HO
  simp only [] at HO
  have HO := Lib.hid HO
  have HK1 := Lib.hid hk1
  clear hl hk1 hob
  clear hlen
  go_enter Tryz.func107, Tryz.ntmps107
  go_wp2_with fail
  refine (HO.out _ hb1).mono ?_
  rintro e w2 ⟨rfl, hb⟩
  have hb2 := hb1.trans (hb.mono hb1.size)
  have hk := HK1.out.below hb HK1.out.lt
  clear hk hb HO HK1 hb1
  go_wp2_with fail
  go_ret
  exact ⟨by first | rfl | (simp [go_sem]; done) | (simp [go_sem]; omega), hb2⟩

set_option maxHeartbeats 4000000 in
set_option maxRecDepth 100000 in
theorem own_9 (b neg : Bool) (dg : ByteArray) (ex u wd : Int) (s : ByteArray) (l : List Tr) (A : Option Addr) (n c : Nat) (w : World) (B d : Nat) (hn : l.length = n) (hl : ListAt w B d l (.slice A n c)) (hB : B ≤ w.heap.size) (_hok : OwnOk ⟨9, b, neg, dg, ex, u, wd, s⟩) :
    Calls Tryz.prog 107 #[.agg #[.int .i64 9, .bool b, .bool neg, .string dg, .int .i64 ex, .int .u64 u, .int .i64 wd, .string s, .slice A n c]] w fun e w' => e = .returned (.bool (ownB ⟨9, b, neg, dg, ex, u, wd, s⟩ l)) ∧ Below w.heap.size w w' := by
  have hans : ownB ⟨9, b, neg, dg, ex, u, wd, s⟩ l = (decide (l.length = 1) && onlyB ⟨9, b, neg, dg, ex, u, wd, s⟩ ⟨0, false, false, ⟨#[]⟩, 0, u, 0, ⟨#[]⟩⟩) := rfl
  rw [hans, hn]
  clear hans
  have hlen := hl.slice.1
  have hb1 : Below w.heap.size w (w.alloc (.cells #[.int .i64 9, .bool b, .bool neg, .string dg, .int .i64 ex, .int .u64 u, .int .i64 wd, .string s, .slice A n c] 27)) := (Below.refl _ _).alloc (Nat.le_refl _) _
  have hk1 := Blk.new w #[.int .i64 9, .bool b, .bool neg, .string dg, .int .i64 ex, .int .u64 u, .int .i64 wd, .string s, .slice A n c] 27
  have HO := fun (W : World) (hW : Below w.heap.size w W) => ref_only (.nd ⟨9, b, neg, dg, ex, u, wd, s⟩ l) ⟨0, false, false, ⟨#[]⟩, 0, u, 0, ⟨#[]⟩⟩ (.slice A n c) W B d (hl.below hW hB) (Nat.le_trans hB hW.size)
  obtain ⟨ob, hob⟩ : ∃ ob, onlyB ⟨9, b, neg, dg, ex, u, wd, s⟩ ⟨0, false, false, ⟨#[]⟩, 0, u, 0, ⟨#[]⟩⟩ = ob := ⟨_, rfl⟩
  simp only [Tr.own] at HO
  rw [hob] at HO
  rw [hob]
  unfold nodeV at HO
  simp only [] at HO
  have HO := Lib.hid HO
  have HK1 := Lib.hid hk1
  clear hl hk1 hob hn
  by_cases h0 : n = 1
  · have zl : ((n : Int) == 1) = true := by rw [beq_iff_eq]; omega
    have zl' : (n : Int) = 1 := by omega
    rw [decide_eq_true h0, Bool.true_and]
    clear h0 hlen
    go_enter Tryz.func107, Tryz.ntmps107
    go_wp2_with fail
    refine (HO.out _ hb1).mono ?_
    rintro e w2 ⟨rfl, hb⟩
    have hb2 := hb1.trans (hb.mono hb1.size)
    have hk := HK1.out.below hb HK1.out.lt
    clear hk hb HO HK1 hb1
    go_wp2_with fail
    go_ret
    exact ⟨by first | rfl | (simp [go_sem]; done) | (simp [go_sem]; omega), hb2⟩
  · have zl : ((n : Int) == 1) = false := by rw [beq_eq_false_iff_ne]; omega
    have zl' : ¬ (n : Int) = 1 := by omega
    rw [decide_eq_false h0, Bool.false_and]
    clear h0 hlen
    go_enter Tryz.func107, Tryz.ntmps107
    go_wp2_with fail
    go_ret
    exact ⟨by first | rfl | (simp [go_sem]; done) | (simp [go_sem]; omega), hb1⟩

set_option maxHeartbeats 4000000 in
set_option maxRecDepth 100000 in
theorem own_10 (b neg : Bool) (dg : ByteArray) (ex u wd : Int) (s : ByteArray) (l : List Tr) (A : Option Addr) (n c : Nat) (w : World) (B d : Nat) (hn : l.length = n) (hl : ListAt w B d l (.slice A n c)) (hB : B ≤ w.heap.size) (_hok : OwnOk ⟨10, b, neg, dg, ex, u, wd, s⟩) :
    Calls Tryz.prog 107 #[.agg #[.int .i64 10, .bool b, .bool neg, .string dg, .int .i64 ex, .int .u64 u, .int .i64 wd, .string s, .slice A n c]] w fun e w' => e = .returned (.bool (ownB ⟨10, b, neg, dg, ex, u, wd, s⟩ l)) ∧ Below w.heap.size w w' := by
  have hans : ownB ⟨10, b, neg, dg, ex, u, wd, s⟩ l = (decide (l.length = 0) && (onlyB ⟨10, b, neg, dg, ex, u, wd, s⟩ ⟨0, false, false, ⟨#[]⟩, 0, u, 0, ⟨#[]⟩⟩ && (decide (u ≤ 19) || (decide (u = 23) || (decide (32 ≤ u) && decide (u ≤ 255)))))) := rfl
  rw [hans, hn]
  clear hans
  have hlen := hl.slice.1
  have hb1 : Below w.heap.size w (w.alloc (.cells #[.int .i64 10, .bool b, .bool neg, .string dg, .int .i64 ex, .int .u64 u, .int .i64 wd, .string s, .slice A n c] 27)) := (Below.refl _ _).alloc (Nat.le_refl _) _
  have hk1 := Blk.new w #[.int .i64 10, .bool b, .bool neg, .string dg, .int .i64 ex, .int .u64 u, .int .i64 wd, .string s, .slice A n c] 27
  have HO := fun (W : World) (hW : Below w.heap.size w W) => ref_only (.nd ⟨10, b, neg, dg, ex, u, wd, s⟩ l) ⟨0, false, false, ⟨#[]⟩, 0, u, 0, ⟨#[]⟩⟩ (.slice A n c) W B d (hl.below hW hB) (Nat.le_trans hB hW.size)
  obtain ⟨ob, hob⟩ : ∃ ob, onlyB ⟨10, b, neg, dg, ex, u, wd, s⟩ ⟨0, false, false, ⟨#[]⟩, 0, u, 0, ⟨#[]⟩⟩ = ob := ⟨_, rfl⟩
  simp only [Tr.own] at HO
  rw [hob] at HO
  rw [hob]
  unfold nodeV at HO
  simp only [] at HO
  have HO := Lib.hid HO
  have HK1 := Lib.hid hk1
  clear hl hk1 hob hn

  by_cases h0 : n = 0
  · have zl : ((n : Int) == 0) = true := by rw [beq_iff_eq]; omega
    have zl' : (n : Int) = 0 := by omega
    rw [decide_eq_true h0, Bool.true_and]
    clear h0 hlen
    cases ob with
    | false =>
      rw [Bool.false_and]
      go_enter Tryz.func107, Tryz.ntmps107
      go_wp2_with fail
      refine (HO.out _ hb1).mono ?_
      rintro e w2 ⟨rfl, hb⟩
      have hb2 := hb1.trans (hb.mono hb1.size)
      have hk := HK1.out.below hb HK1.out.lt
      clear hk hb HO HK1 hb1
      go_wp2_with fail
      go_ret
      exact ⟨by first | rfl | (simp [go_sem]; done) | (simp [go_sem]; omega), hb2⟩
    | true =>
      rw [Bool.true_and]
      by_cases h19 : u ≤ 19
      · rw [decide_eq_true h19]
        rw [Bool.true_or]
        go_enter Tryz.func107, Tryz.ntmps107
        go_wp2_with fail
        refine (HO.out _ hb1).mono ?_
        rintro e w2 ⟨rfl, hb⟩
        have hb2 := hb1.trans (hb.mono hb1.size)
        have hk := HK1.out.below hb HK1.out.lt
        have z5 := hk.cell 5
        clear hk hb HO HK1 hb1
        go_wp2_with fail
        go_ret
        exact ⟨by first | rfl | (simp [go_sem]; done) | (simp [go_sem]; omega), hb2⟩
      · rw [decide_eq_false h19]
        rw [Bool.false_or]
        have q0 : (19 : Int) < u := by omega
        by_cases h23 : u = 23
        · rw [decide_eq_true h23]
          rw [Bool.true_or]
          subst h23
          go_enter Tryz.func107, Tryz.ntmps107
          go_wp2_with fail
          refine (HO.out _ hb1).mono ?_
          rintro e w2 ⟨rfl, hb⟩
          have hb2 := hb1.trans (hb.mono hb1.size)
          have hk := HK1.out.below hb HK1.out.lt
          have z5 := hk.cell 5
          clear hk hb HO HK1 hb1
          go_wp2_with fail
          go_ret
          exact ⟨by first | rfl | (simp [go_sem]; done) | (simp [go_sem]; omega), hb2⟩
        · rw [decide_eq_false h23]
          have q1 : (u == 23) = false := by rw [beq_eq_false_iff_ne]; exact h23
          rw [Bool.false_or]
          by_cases h32 : 32 ≤ u
          · rw [decide_eq_true h32]
            rw [Bool.true_and]
            by_cases h255 : u ≤ 255
            · rw [decide_eq_true h255]
              go_enter Tryz.func107, Tryz.ntmps107
              go_wp2_with fail
              refine (HO.out _ hb1).mono ?_
              rintro e w2 ⟨rfl, hb⟩
              have hb2 := hb1.trans (hb.mono hb1.size)
              have hk := HK1.out.below hb HK1.out.lt
              have z5 := hk.cell 5
              clear hk hb HO HK1 hb1
              go_wp2_with fail
              go_ret
              exact ⟨by first | rfl | (simp [go_sem]; done) | (simp [go_sem]; omega), hb2⟩
            · rw [decide_eq_false h255]
              have q2 : (255 : Int) < u := by omega
              go_enter Tryz.func107, Tryz.ntmps107
              go_wp2_with fail
              refine (HO.out _ hb1).mono ?_
              rintro e w2 ⟨rfl, hb⟩
              have hb2 := hb1.trans (hb.mono hb1.size)
              have hk := HK1.out.below hb HK1.out.lt
              have z5 := hk.cell 5
              clear hk hb HO HK1 hb1
              go_wp2_with fail
              go_ret
              exact ⟨by first | rfl | (simp [go_sem]; done) | (simp [go_sem]; omega), hb2⟩
          · rw [decide_eq_false h32]
            have q2 : u < 32 := by omega
            rw [Bool.false_and]
            go_enter Tryz.func107, Tryz.ntmps107
            go_wp2_with fail
            refine (HO.out _ hb1).mono ?_
            rintro e w2 ⟨rfl, hb⟩
            have hb2 := hb1.trans (hb.mono hb1.size)
            have hk := HK1.out.below hb HK1.out.lt
            have z5 := hk.cell 5
            clear hk hb HO HK1 hb1
            go_wp2_with fail
            go_ret
            exact ⟨by first | rfl | (simp [go_sem]; done) | (simp [go_sem]; omega), hb2⟩
  · have zl : ((n : Int) == 0) = false := by rw [beq_eq_false_iff_ne]; omega
    have zl' : ¬ (n : Int) = 0 := by omega
    rw [decide_eq_false h0, Bool.false_and]
    clear h0 hlen
    go_enter Tryz.func107, Tryz.ntmps107
    go_wp2_with fail
    go_ret
    exact ⟨by first | rfl | (simp [go_sem]; done) | (simp [go_sem]; omega), hb1⟩

set_option maxHeartbeats 4000000 in
set_option maxRecDepth 100000 in
theorem own_11 (b neg : Bool) (dg : ByteArray) (ex u wd : Int) (s : ByteArray) (l : List Tr) (A : Option Addr) (n c : Nat) (w : World) (B d : Nat) (hn : l.length = n) (hl : ListAt w B d l (.slice A n c)) (hB : B ≤ w.heap.size) (_hok : OwnOk ⟨11, b, neg, dg, ex, u, wd, s⟩) :
    Calls Tryz.prog 107 #[.agg #[.int .i64 11, .bool b, .bool neg, .string dg, .int .i64 ex, .int .u64 u, .int .i64 wd, .string s, .slice A n c]] w fun e w' => e = .returned (.bool (ownB ⟨11, b, neg, dg, ex, u, wd, s⟩ l)) ∧ Below w.heap.size w w' := by
  have hans : ownB ⟨11, b, neg, dg, ex, u, wd, s⟩ l = (decide (l.length = 0) && (onlyB ⟨11, b, neg, dg, ex, u, wd, s⟩ ⟨0, false, false, ⟨#[]⟩, 0, u, 0, s⟩ && (decide (u ≤ 255) && decide (s.size ≤ 400)))) := rfl
  rw [hans, hn]
  clear hans
  have hlen := hl.slice.1
  have hb1 : Below w.heap.size w (w.alloc (.cells #[.int .i64 11, .bool b, .bool neg, .string dg, .int .i64 ex, .int .u64 u, .int .i64 wd, .string s, .slice A n c] 27)) := (Below.refl _ _).alloc (Nat.le_refl _) _
  have hk1 := Blk.new w #[.int .i64 11, .bool b, .bool neg, .string dg, .int .i64 ex, .int .u64 u, .int .i64 wd, .string s, .slice A n c] 27
  have HO := fun (W : World) (hW : Below w.heap.size w W) => ref_only (.nd ⟨11, b, neg, dg, ex, u, wd, s⟩ l) ⟨0, false, false, ⟨#[]⟩, 0, u, 0, s⟩ (.slice A n c) W B d (hl.below hW hB) (Nat.le_trans hB hW.size)
  obtain ⟨ob, hob⟩ : ∃ ob, onlyB ⟨11, b, neg, dg, ex, u, wd, s⟩ ⟨0, false, false, ⟨#[]⟩, 0, u, 0, s⟩ = ob := ⟨_, rfl⟩
  simp only [Tr.own] at HO
  rw [hob] at HO
  rw [hob]
  unfold nodeV at HO
  simp only [] at HO
  have HO := Lib.hid HO
  have HK1 := Lib.hid hk1
  clear hl hk1 hob hn

  by_cases h0 : n = 0
  · have zl : ((n : Int) == 0) = true := by rw [beq_iff_eq]; omega
    have zl' : (n : Int) = 0 := by omega
    rw [decide_eq_true h0, Bool.true_and]
    clear h0 hlen
    cases ob with
    | false =>
      rw [Bool.false_and]
      go_enter Tryz.func107, Tryz.ntmps107
      go_wp2_with fail
      refine (HO.out _ hb1).mono ?_
      rintro e w2 ⟨rfl, hb⟩
      have hb2 := hb1.trans (hb.mono hb1.size)
      have hk := HK1.out.below hb HK1.out.lt
      clear hk hb HO HK1 hb1
      go_wp2_with fail
      go_ret
      exact ⟨by first | rfl | (simp [go_sem]; done) | (simp [go_sem]; omega), hb2⟩
    | true =>
      rw [Bool.true_and]
      by_cases h255 : u ≤ 255
      · rw [decide_eq_true h255]
        rw [Bool.true_and]
        by_cases hs : s.size ≤ 400
        · have q : ((s.size : Int)) ≤ 400 := by omega
          rw [decide_eq_true hs]
          clear hs
          go_enter Tryz.func107, Tryz.ntmps107
          go_wp2_with fail
          refine (HO.out _ hb1).mono ?_
          rintro e w2 ⟨rfl, hb⟩
          have hb2 := hb1.trans (hb.mono hb1.size)
          have hk := HK1.out.below hb HK1.out.lt
          have z5 := hk.cell 5
          have z7 := hk.cell 7
          clear hk hb HO HK1 hb1
          go_wp2_with fail
          go_ret
          exact ⟨by first | rfl | (simp [go_sem]; done) | (simp [go_sem]; omega), hb2⟩
        · have q : ¬ ((s.size : Int)) ≤ 400 := by omega
          have q2 : (400 : Int) < s.size := by omega
          rw [decide_eq_false hs]
          clear hs
          go_enter Tryz.func107, Tryz.ntmps107
          go_wp2_with fail
          refine (HO.out _ hb1).mono ?_
          rintro e w2 ⟨rfl, hb⟩
          have hb2 := hb1.trans (hb.mono hb1.size)
          have hk := HK1.out.below hb HK1.out.lt
          have z5 := hk.cell 5
          have z7 := hk.cell 7
          clear hk hb HO HK1 hb1
          go_wp2_with fail
          go_ret
          exact ⟨by first | rfl | (simp [go_sem]; done) | (simp [go_sem]; omega), hb2⟩
      · rw [decide_eq_false h255]
        have q2 : (255 : Int) < u := by omega
        rw [Bool.false_and]
        go_enter Tryz.func107, Tryz.ntmps107
        go_wp2_with fail
        refine (HO.out _ hb1).mono ?_
        rintro e w2 ⟨rfl, hb⟩
        have hb2 := hb1.trans (hb.mono hb1.size)
        have hk := HK1.out.below hb HK1.out.lt
        have z5 := hk.cell 5
        clear hk hb HO HK1 hb1
        go_wp2_with fail
        go_ret
        exact ⟨by first | rfl | (simp [go_sem]; done) | (simp [go_sem]; omega), hb2⟩
  · have zl : ((n : Int) == 0) = false := by rw [beq_eq_false_iff_ne]; omega
    have zl' : ¬ (n : Int) = 0 := by omega
    rw [decide_eq_false h0, Bool.false_and]
    clear h0 hlen
    go_enter Tryz.func107, Tryz.ntmps107
    go_wp2_with fail
    go_ret
    exact ⟨by first | rfl | (simp [go_sem]; done) | (simp [go_sem]; omega), hb1⟩
end Go.Proofs.YtfckekaegjjmkaaGreatDoor
