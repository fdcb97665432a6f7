/- The texts RtE, put together. -/
import Derived.Test.YtfckekaegjjmkaaGreatDoorPd44
import Derived.Test.YtfckekaegjjmkaaGreatDoorPd40
import Derived.BigQuiet
import Derived.Deep.QuietTactic
import Derived.StillTailTactics
namespace Go.Proofs.YtfckekaegjjmkaaGreatDoor
open Go.RowKit Go.Shelf

set_option maxHeartbeats 4000000 in
set_option maxRecDepth 100000 in
theorem own_4 (b neg : Bool) (dg : ByteArray) (ex u wd : Int) (s : ByteArray) (l : List Tr) (A : Option Addr) (n c : Nat) (w : World) (B d : Nat) (hn : l.length = n) (hl : ListAt w B d l (.slice A n c)) (hB : B ≤ w.heap.size) (_hok : OwnOk ⟨4, b, neg, dg, ex, u, wd, s⟩) :
    Calls Tryz.prog 107 #[.agg #[.int .i64 4, .bool b, .bool neg, .string dg, .int .i64 ex, .int .u64 u, .int .i64 wd, .string s, .slice A n c]] w fun e w' => e = .returned (.bool (ownB ⟨4, b, neg, dg, ex, u, wd, s⟩ l)) ∧ Below w.heap.size w w' := by
  have hans : ownB ⟨4, b, neg, dg, ex, u, wd, s⟩ l = (decide (l.length = 0) && (onlyB ⟨4, b, neg, dg, ex, u, wd, s⟩ ⟨0, false, false, ⟨#[]⟩, 0, u, wd, ⟨#[]⟩⟩ && wideOk u wd)) := rfl
  rw [hans, hn]
  clear hans
  have hlen := hl.slice.1
  have hb1 : Below w.heap.size w (w.alloc (.cells #[.int .i64 4, .bool b, .bool neg, .string dg, .int .i64 ex, .int .u64 u, .int .i64 wd, .string s, .slice A n c] 27)) := (Below.refl _ _).alloc (Nat.le_refl _) _
  have hk1 := Blk.new w #[.int .i64 4, .bool b, .bool neg, .string dg, .int .i64 ex, .int .u64 u, .int .i64 wd, .string s, .slice A n c] 27
  have HO := fun (W : World) (hW : Below w.heap.size w W) => ref_only (.nd ⟨4, b, neg, dg, ex, u, wd, s⟩ l) ⟨0, false, false, ⟨#[]⟩, 0, u, wd, ⟨#[]⟩⟩ (.slice A n c) W B d (hl.below hW hB) (Nat.le_trans hB hW.size)
  obtain ⟨ob, hob⟩ : ∃ ob, onlyB ⟨4, b, neg, dg, ex, u, wd, s⟩ ⟨0, false, false, ⟨#[]⟩, 0, u, wd, ⟨#[]⟩⟩ = ob := ⟨_, rfl⟩
  simp only [Tr.own] at HO
  rw [hob] at HO
  rw [hob]
  unfold nodeV at HO
  simp only [] at HO
  have HO := Lib.hid HO
  have HK1 := Lib.hid hk1
  clear hl hk1 hob hn
  have HWD := fun W => ref_Widen u wd _hok.u.1 _hok.u.2 W
  obtain ⟨cdv, hcdv⟩ : ∃ cdv : Int, (if wideOk u wd = true then (0 : Int) else 2) = cdv := ⟨_, rfl⟩
  simp only [hcdv] at HWD
  have HWD := Lib.hid HWD
  have HCD := Lib.hid hcdv
  clear hcdv

  by_cases h0 : n = 0
  · have zl : ((n : Int) == 0) = true := by rw [beq_iff_eq]; omega
    have zl' : (n : Int) = 0 := by omega
    rw [decide_eq_true h0, Bool.true_and]
    clear h0 hlen
    cases ob with
    | false =>
      rw [Bool.false_and]
      go_enter Tryz.func107, Tryz.ntmps107
      go_wp2_with fail
      refine (HWD.out _).mono ?_
      rintro e w2 ⟨⟨r, rfl⟩, hb⟩
      have hb2 := hb1.trans (hb.mono hb1.size)
      have hk := HK1.out.below hb HK1.out.lt
      have z0 := hk.cell 0
      have z1 := hk.cell 1
      have z2 := hk.cell 2
      have z3 := hk.cell 3
      have z4 := hk.cell 4
      have z5 := hk.cell 5
      have z6 := hk.cell 6
      have z7 := hk.cell 7
      have z8 := hk.cell 8
      clear hb HK1 hk HWD hb1
      go_wp2_with fail
      refine (HO.out _ hb2).mono ?_
      rintro e w3 ⟨rfl, hb⟩
      have hb3 := hb2.trans (hb.mono hb2.size)
      clear hb HO hb2 z0 z1 z2 z3 z4 z5 z6 z7 z8
      go_wp2_with fail
      go_ret
      exact ⟨by first | rfl | (simp [go_sem]; done) | (simp [go_sem]; omega), hb3⟩
    | true =>
      rw [Bool.true_and]
      cases hw : wideOk u wd with
      | false =>
        obtain rfl : cdv = 2 := by have h := HCD.out; rw [hw] at h; exact h.symm
        clear hw HCD
        go_enter Tryz.func107, Tryz.ntmps107
        go_wp2_with fail
        refine (HWD.out _).mono ?_
        rintro e w2 ⟨⟨r, rfl⟩, hb⟩
        have hb2 := hb1.trans (hb.mono hb1.size)
        have hk := HK1.out.below hb HK1.out.lt
        have z0 := hk.cell 0
        have z1 := hk.cell 1
        have z2 := hk.cell 2
        have z3 := hk.cell 3
        have z4 := hk.cell 4
        have z5 := hk.cell 5
        have z6 := hk.cell 6
        have z7 := hk.cell 7
        have z8 := hk.cell 8
        clear hb HK1 hk HWD hb1
        go_wp2_with fail
        refine (HO.out _ hb2).mono ?_
        rintro e w3 ⟨rfl, hb⟩
        have hb3 := hb2.trans (hb.mono hb2.size)
        clear hb HO hb2 z0 z1 z2 z3 z4 z5 z6 z7 z8
        go_wp2_with fail
        go_ret
        exact ⟨by first | rfl | (simp [go_sem]; done) | (simp [go_sem]; omega), hb3⟩
      | true =>
        obtain rfl : cdv = 0 := by have h := HCD.out; rw [hw] at h; exact h.symm
        clear hw HCD
        go_enter Tryz.func107, Tryz.ntmps107
        go_wp2_with fail
        refine (HWD.out _).mono ?_
        rintro e w2 ⟨⟨r, rfl⟩, hb⟩
        have hb2 := hb1.trans (hb.mono hb1.size)
        have hk := HK1.out.below hb HK1.out.lt
        have z0 := hk.cell 0
        have z1 := hk.cell 1
        have z2 := hk.cell 2
        have z3 := hk.cell 3
        have z4 := hk.cell 4
        have z5 := hk.cell 5
        have z6 := hk.cell 6
        have z7 := hk.cell 7
        have z8 := hk.cell 8
        clear hb HK1 hk HWD hb1
        go_wp2_with fail
        refine (HO.out _ hb2).mono ?_
        rintro e w3 ⟨rfl, hb⟩
        have hb3 := hb2.trans (hb.mono hb2.size)
        clear hb HO hb2 z0 z1 z2 z3 z4 z5 z6 z7 z8
        go_wp2_with fail
        go_ret
        exact ⟨by first | rfl | (simp [go_sem]; done) | (simp [go_sem]; omega), hb3⟩
  · have zl : ((n : Int) == 0) = false := by rw [beq_eq_false_iff_ne]; omega
    have zl' : ¬ (n : Int) = 0 := by omega
    rw [decide_eq_false h0, Bool.false_and]
    clear h0 hlen
    go_enter Tryz.func107, Tryz.ntmps107
    go_wp2_with fail
    refine (HWD.out _).mono ?_
    rintro e w2 ⟨⟨r, rfl⟩, hb⟩
    have hb2 := hb1.trans (hb.mono hb1.size)
    have hk := HK1.out.below hb HK1.out.lt
    have z0 := hk.cell 0
    have z1 := hk.cell 1
    have z2 := hk.cell 2
    have z3 := hk.cell 3
    have z4 := hk.cell 4
    have z5 := hk.cell 5
    have z6 := hk.cell 6
    have z7 := hk.cell 7
    have z8 := hk.cell 8
    clear hb HK1 hk HWD hb1
    go_wp2_with fail
    go_ret
    exact ⟨by first | rfl | (simp [go_sem]; done) | (simp [go_sem]; omega), hb2⟩

set_option maxHeartbeats 4000000 in
set_option maxRecDepth 100000 in
theorem own_5 (b neg : Bool) (dg : ByteArray) (ex u wd : Int) (s : ByteArray) (l : List Tr) (A : Option Addr) (n c : Nat) (w : World) (B d : Nat) (hn : l.length = n) (hl : ListAt w B d l (.slice A n c)) (hB : B ≤ w.heap.size) (_hok : OwnOk ⟨5, b, neg, dg, ex, u, wd, s⟩) :
    Calls Tryz.prog 107 #[.agg #[.int .i64 5, .bool b, .bool neg, .string dg, .int .i64 ex, .int .u64 u, .int .i64 wd, .string s, .slice A n c]] w fun e w' => e = .returned (.bool (ownB ⟨5, b, neg, dg, ex, u, wd, s⟩ l)) ∧ Below w.heap.size w w' := by
  have hans : ownB ⟨5, b, neg, dg, ex, u, wd, s⟩ l = (decide (l.length = 0) && (onlyB ⟨5, b, neg, dg, ex, u, wd, s⟩ ⟨0, false, false, ⟨#[]⟩, 0, 0, 0, s⟩ && (decide (s.size ≤ 400) && Lib.validD s.data.toList))) := rfl
  rw [hans, hn]
  clear hans
  have hlen := hl.slice.1
  have hb1 : Below w.heap.size w (w.alloc (.cells #[.int .i64 5, .bool b, .bool neg, .string dg, .int .i64 ex, .int .u64 u, .int .i64 wd, .string s, .slice A n c] 27)) := (Below.refl _ _).alloc (Nat.le_refl _) _
  have hk1 := Blk.new w #[.int .i64 5, .bool b, .bool neg, .string dg, .int .i64 ex, .int .u64 u, .int .i64 wd, .string s, .slice A n c] 27
  have HO := fun (W : World) (hW : Below w.heap.size w W) => ref_only (.nd ⟨5, b, neg, dg, ex, u, wd, s⟩ l) ⟨0, false, false, ⟨#[]⟩, 0, 0, 0, s⟩ (.slice A n c) W B d (hl.below hW hB) (Nat.le_trans hB hW.size)
  obtain ⟨ob, hob⟩ : ∃ ob, onlyB ⟨5, b, neg, dg, ex, u, wd, s⟩ ⟨0, false, false, ⟨#[]⟩, 0, 0, 0, s⟩ = ob := ⟨_, rfl⟩
  simp only [Tr.own] at HO
  rw [hob] at HO
  rw [hob]
  unfold nodeV at HO
  simp only [] at HO
  have HO := Lib.hid HO
  have HK1 := Lib.hid hk1
  clear hl hk1 hob hn

  by_cases h0 : n = 0
  · have zl : ((n : Int) == 0) = true := by rw [beq_iff_eq]; omega
    have zl' : (n : Int) = 0 := by omega
    rw [decide_eq_true h0, Bool.true_and]
    clear h0 hlen
    cases ob with
    | false =>
      rw [Bool.false_and]
      go_enter Tryz.func107, Tryz.ntmps107
      go_wp2_with fail
      refine (HO.out _ hb1).mono ?_
      rintro e w2 ⟨rfl, hb⟩
      have hb2 := hb1.trans (hb.mono hb1.size)
      have hk := HK1.out.below hb HK1.out.lt
      clear hk hb HO HK1 hb1
      go_wp2_with fail
      go_ret
      exact ⟨by first | rfl | (simp [go_sem]; done) | (simp [go_sem]; omega), hb2⟩
    | true =>
      rw [Bool.true_and]
      by_cases hs : s.size ≤ 400
      · have q : ((s.size : Int)) ≤ 400 := by omega
        have HU := Lib.hid (ref_utfRight s (by omega))
        rw [decide_eq_true hs, Bool.true_and]
        clear hs
        go_enter Tryz.func107, Tryz.ntmps107
        go_wp2_with fail
        refine (HO.out _ hb1).mono ?_
        rintro e w2 ⟨rfl, hb⟩
        have hb2 := hb1.trans (hb.mono hb1.size)
        have hk := HK1.out.below hb HK1.out.lt
        have z7 := hk.cell 7
        clear hk hb HO HK1 hb1
        go_wp2_with fail
        refine (HU.out _).mono ?_
        rintro e w3 ⟨rfl, rfl⟩
        go_wp2_with fail
        go_ret
        exact ⟨by first | rfl | (simp [go_sem]; done) | (simp [go_sem]; omega), hb2⟩
      · have q : ¬ ((s.size : Int)) ≤ 400 := by omega
        have q2 : (400 : Int) < s.size := by omega
        rw [decide_eq_false hs, Bool.false_and]
        clear hs
        go_enter Tryz.func107, Tryz.ntmps107
        go_wp2_with fail
        refine (HO.out _ hb1).mono ?_
        rintro e w2 ⟨rfl, hb⟩
        have hb2 := hb1.trans (hb.mono hb1.size)
        have hk := HK1.out.below hb HK1.out.lt
        have z7 := hk.cell 7
        clear hk hb HO HK1 hb1
        go_wp2_with fail
        go_ret
        exact ⟨by first | rfl | (simp [go_sem]; done) | (simp [go_sem]; omega), hb2⟩
  · have zl : ((n : Int) == 0) = false := by rw [beq_eq_false_iff_ne]; omega
    have zl' : ¬ (n : Int) = 0 := by omega
    rw [decide_eq_false h0, Bool.false_and]
    clear h0 hlen
    go_enter Tryz.func107, Tryz.ntmps107
    go_wp2_with fail
    go_ret
    exact ⟨by first | rfl | (simp [go_sem]; done) | (simp [go_sem]; omega), hb1⟩

def KeysTo (l : List Tr) (i : Nat) : Prop := ∀ (a b : Nat) (ha : a < l.length) (hb : b < a), a < i → a % 2 = 0 → b % 2 = 0 → sameT l[a] (l[b]'(by omega)) = false
def KeysIn (l : List Tr) (i k : Nat) : Prop := ∀ (b : Nat) (hi : i < l.length) (hb : b < i), b < k → b % 2 = 0 → sameT l[i] (l[b]'(by omega)) = false
theorem keys_yes {l : List Tr} (h : KeysTo l l.length) : keysB l = true := by
  unfold keysB
  exact @decide_eq_true _ (Classical.propDecidable _) (fun i k hi hk h1 h2 => h i k hi hk hi h1 h2)
theorem keys_no {l : List Tr} {i k : Nat} (hi : i < l.length) (hk : k < i) (h1 : i % 2 = 0) (h2 : k % 2 = 0) (h : sameT l[i] (l[k]'(by omega)) = true) : keysB l = false := by
  unfold keysB
  refine @decide_eq_false _ (Classical.propDecidable _) (fun hh => ?_)
  rw [hh i k hi hk h1 h2] at h
  cases h
theorem keysTo_next {l : List Tr} {i k : Nat} (h : KeysTo l i) (hi : i % 2 = 0) (hk : KeysIn l i k) (hik : i ≤ k) : KeysTo l (i + 2) := by
  intro a b ha hb hai h1 h2
  by_cases e : a < i
  · exact h a b ha hb e h1 h2
  · obtain rfl : a = i := by omega
    exact hk b ha hb (by omega) h2
theorem keysIn_next {l : List Tr} {i k : Nat} (h : KeysIn l i k) (hk : k < i) (hi : i < l.length) (h2 : k % 2 = 0) (hs : sameT l[i] (l[k]'(by omega)) = false) : KeysIn l i (k + 2) := by
  intro b hi' hb hbk hb2
  by_cases e : b < k
  · exact h b hi' hb e hb2
  · obtain rfl : b = k := by omega
    exact hs

set_option maxHeartbeats 4000000 in
set_option maxRecDepth 100000 in
theorem own_8 (b neg : Bool) (dg : ByteArray) (ex u wd : Int) (s : ByteArray) (l : List Tr) (A : Option Addr) (n c : Nat) (w : World) (B d : Nat) (hn : l.length = n) (hl : ListAt w B d l (.slice A n c)) (hB : B ≤ w.heap.size) (_hok : OwnOk ⟨8, b, neg, dg, ex, u, wd, s⟩) :
    Calls Tryz.prog 107 #[.agg #[.int .i64 8, .bool b, .bool neg, .string dg, .int .i64 ex, .int .u64 u, .int .i64 wd, .string s, .slice A n c]] w fun e w' => e = .returned (.bool (ownB ⟨8, b, neg, dg, ex, u, wd, s⟩ l)) ∧ Below w.heap.size w w' := by
  have hans : ownB ⟨8, b, neg, dg, ex, u, wd, s⟩ l = (onlyB ⟨8, b, neg, dg, ex, u, wd, s⟩ ⟨0, false, false, ⟨#[]⟩, 0, 0, 0, ⟨#[]⟩⟩ && (decide (l.length % 2 = 0) && keysB l)) := rfl
  rw [hans, hn]
  clear hans
  have hlen := hl.slice.1
  have hb1 : Below w.heap.size w (w.alloc (.cells #[.int .i64 8, .bool b, .bool neg, .string dg, .int .i64 ex, .int .u64 u, .int .i64 wd, .string s, .slice A n c] 27)) := (Below.refl _ _).alloc (Nat.le_refl _) _
  have hk1 := Blk.new w #[.int .i64 8, .bool b, .bool neg, .string dg, .int .i64 ex, .int .u64 u, .int .i64 wd, .string s, .slice A n c] 27
  have HO := fun (W : World) (hW : Below w.heap.size w W) => ref_only (.nd ⟨8, b, neg, dg, ex, u, wd, s⟩ l) ⟨0, false, false, ⟨#[]⟩, 0, 0, 0, ⟨#[]⟩⟩ (.slice A n c) W B d (hl.below hW hB) (Nat.le_trans hB hW.size)
  obtain ⟨ob, hob⟩ : ∃ ob, onlyB ⟨8, b, neg, dg, ex, u, wd, s⟩ ⟨0, false, false, ⟨#[]⟩, 0, 0, 0, ⟨#[]⟩⟩ = ob := ⟨_, rfl⟩
  simp only [Tr.own] at HO
  rw [hob] at HO
  rw [hob]
  unfold nodeV at HO
  simp only [] at HO
  have HO := Lib.hid HO
  have HK1 := Lib.hid hk1
  have HL := Lib.hid hl
  have HN := Lib.hid hn
  clear hl hk1 hob hn

  cases ob with
  | false =>
    rw [Bool.false_and]
    clear HL HN hlen
    go_enter Tryz.func107, Tryz.ntmps107
    go_wp2_with fail
    refine (HO.out _ hb1).mono ?_
    rintro e w2 ⟨rfl, hb⟩
    have hb2 := hb1.trans (hb.mono hb1.size)
    have hk := HK1.out.below hb HK1.out.lt
    have z8 := hk.cell 8
    clear hk hb HO HK1 hb1
    go_wp2_with fail
    go_ret
    exact ⟨by first | rfl | (simp [go_sem]; done) | (simp [go_sem]; omega), hb2⟩
  | true =>
    rw [Bool.true_and]
    have ht : (n : Int).tmod 2 = ((n % 2 : Nat) : Int) := rfl
    by_cases h2 : n % 2 = 0
    · have q : (((n % 2 : Nat) : Int) == 1) = false := by rw [beq_eq_false_iff_ne]; omega
      have q' : ¬ ((n % 2 : Nat) : Int) = 1 := by omega
      rw [decide_eq_true h2, Bool.true_and]
      obtain ⟨ans, hans⟩ : ∃ ans, keysB l = ans := ⟨_, rfl⟩
      rw [hans]
      have HYS := Lib.hid (fun (h : KeysTo l l.length) => hans.symm.trans (keys_yes h))
      have HNO := Lib.hid (fun i k (hi : i < l.length) (hk : k < i) h1 h2 (h : sameT l[i] (l[k]'(by omega)) = true) => hans.symm.trans (keys_no hi hk h1 h2 h))
      clear hans
      go_enter Tryz.func107, Tryz.ntmps107
      go_wp2_with fail
      refine (HO.out _ hb1).mono ?_
      rintro e w2 ⟨rfl, hb⟩
      have hb2 := hb1.trans (hb.mono hb1.size)
      have hk := HK1.out.below hb HK1.out.lt
      have hz2 : w.heap.size < w2.heap.size := hk.lt
      have z8 := hk.cell 8
      clear hk hb HO HK1 hb1
      go_wp2_with fail
      go_loopw [6] (fun i wr => ∃ p : Nat, p ≤ n + 1 ∧ p % 2 = 0 ∧ i = .int .i64 p ∧ Below w.heap.size w wr ∧ wr.cell? ⟨w.heap.size, 8, none⟩ = some (.slice A n c) ∧ w.heap.size < wr.heap.size ∧ Hid (KeysTo l p)) (fun i _ => n + 1 - (intOf i).toNat)
      case atStart => exact ⟨0, by omega, rfl, rfl, hb2, z8, hz2, Lib.hid (fun a b ha hb h => absurd h (by omega))⟩
      case round =>
        obtain ⟨p, hp, hp2, rfl, hbw, hf1, hz, hkt⟩ := hrel
        clear z8 hz2 hb2
        by_cases hlt : p < n
        · have y1 : (p : Int) < n := by omega
          go_wp2_with fail
          go_loopw [7] (fun i wr => ∃ q : Nat, q ≤ p ∧ q % 2 = 0 ∧ i = .int .i64 q ∧ Below w.heap.size w wr ∧ wr.cell? ⟨w.heap.size, 8, none⟩ = some (.slice A n c) ∧ w.heap.size < wr.heap.size ∧ Hid (KeysIn l p q)) (fun i _ => p - (intOf i).toNat)
          case atStart => exact ⟨0, by omega, rfl, rfl, hbw, hf1, hz, Lib.hid (fun b hi hb h => absurd h (by omega))⟩
          case round =>
            rename_i w7
            obtain ⟨q, hq, hq2, rfl, hbw', hf1', hz', hki⟩ := hrel
            clear hbw hf1 hz
            by_cases hlq : q < p
            · have y2 : (q : Int) < p := by omega
              have hpl : p < l.length := by have := HN.out; omega
              have hql : q < l.length := by omega
              obtain ⟨d', ad, y, hdd, rfl, hab, hok, hna, hkk⟩ := (HL.out.below hbw' hB).at_ hpl
              obtain ⟨d2', ad', y', hdd2, e2, hab', hok', hna', hkk'⟩ := (HL.out.below hbw' hB).at_ hql
              obtain rfl := Option.some.inj e2
              have HC := fun (w' : World) (hw : Below wr.heap.size wr w') => ref_SameT d' l[p] l[q] y y' w' B d2' (hkk.below hw (Nat.le_trans hB hbw'.size)) (hkk'.below hw (Nat.le_trans hB hbw'.size)) (Nat.le_trans (Nat.le_trans hB hbw'.size) hw.size)
              have hno := HNO.out p q hpl hlq hp2 hq2
              have hnx := fun h => keysIn_next hki.out hlq hpl hq2 h
              obtain ⟨sm, hsm⟩ : ∃ sm, sameT l[p] l[q] = sm := ⟨_, rfl⟩
              rw [hsm] at hno
              simp only [hsm] at HC hnx
              obtain ⟨⟨kind1, b1, neg1, dg1, ex1, u1, wd1, s1⟩, ho1⟩ : ∃ o, l[p].own = o := ⟨_, rfl⟩
              obtain ⟨⟨kind2, b2, neg2, dg2, ex2, u2, wd2, s2⟩, ho2⟩ : ∃ o, l[q].own = o := ⟨_, rfl⟩
              rw [ho1] at hna
              rw [ho2] at hna'
              rw [ho1, ho2] at HC
              unfold nodeV at HC
              obtain ⟨k0, k1, k2, k3, k4, k5, k6, k7, k8⟩ := hna
              obtain ⟨m0, m1, m2, m3, m4, m5, m6, m7, m8⟩ := hna'
              simp only [] at k0 k1 k2 k3 k4 k5 k6 k7 k8 m0 m1 m2 m3 m4 m5 m6 m7 m8 HC
              have y3 : (q : Int) < n := by omega
              have y0 : (0 : Int) ≤ p := by omega
              have y00 : (0 : Int) ≤ q := by omega
              have HC := Lib.hid HC
              have hdb : Below wr.heap.size wr wr.drew := (Below.refl _ _).drew
              clear ho1 ho2 hkk hkk' hok hok' hdd hdd2 hki hsm
              cases sm with
              | true =>
                have ha := hno rfl
                subst ha
                go_wp2_with fail
                go_still_tail 10, (by kernel_rfl)
                change wpList _ _ _ _ _ wr.drew
                go_wp2_with fail
                refine (HC.out _ hdb).mono ?_
                rintro e w3 ⟨rfl, hb2⟩
                have hb3 := (hbw'.trans (hdb.mono hbw'.size)).trans (hb2.mono (Nat.le_trans hbw'.size hdb.size))
                clear hb2 k0 k1 k2 k3 k4 k5 k6 k7 k8 m0 m1 m2 m3 m4 m5 m6 m7 m8 hbw' hdb HC
                go_wp2_with fail
                go_ret
                exact ⟨rfl, hb3⟩
              | false =>
                have HX := Lib.hid (hnx rfl)
                clear hno hnx
                go_wp2_with fail
                go_still_tail 10, (by kernel_rfl)
                change wpList _ _ _ _ _ wr.drew
                go_wp2_with fail
                refine (HC.out _ hdb).mono ?_
                rintro e w3 ⟨rfl, hb2⟩
                have hb3 := (hbw'.trans (hdb.mono hbw'.size)).trans (hb2.mono (Nat.le_trans hbw'.size hdb.size))
                have hz1 : wr.drew.heap.size = wr.heap.size := rfl
                have hf2 : w3.cell? ⟨w.heap.size, 8, none⟩ = some (.slice (some ad) n c) := (hb2.cell (p := ⟨w.heap.size, 8, none⟩) (by show w.heap.size < _; omega)).trans hf1'
                have hz2 := hb2.size
                clear hb2 k0 k1 k2 k3 k4 k5 k6 k7 k8 m0 m1 m2 m3 m4 m5 m6 m7 m8 hbw' hdb HC hf1'
                go_wp2_with fail
                go_roundw
                case rel => exact ⟨q + 2, by omega, by omega, by go_num, hb3, hf2, by omega, HX⟩
                case measure => simp [intOf]; omega
            · obtain rfl : q = p := by omega
              have y2 : ¬ (q : Int) < q := by omega
              have HX := Lib.hid (keysTo_next hkt.out hp2 hki.out (Nat.le_refl _))
              have hnn := HN.out
              have hqn : q + 2 ≤ 9223372036854775807 := by omega
              have hqn2 : q + 2 ≤ n := by omega
              clear hnn
              go_wp2_with fail
              go_roundw
              case rel => exact ⟨q + 2, by omega, by omega, by go_num, hbw', hf1', hz', HX⟩
              case measure => simp [intOf]; omega
        · have y1 : ¬ (p : Int) < n := by omega
          have ha := HYS.out (fun a b ha hb _ h1 h2 => hkt.out a b ha hb (by have := HN.out; omega) h1 h2)
          subst ha
          go_wp2_with fail
          go_ret
          exact ⟨rfl, hbw⟩
    · have q : (((n % 2 : Nat) : Int) == 1) = true := by rw [beq_iff_eq]; omega
      have q' : ((n % 2 : Nat) : Int) = 1 := by omega
      rw [decide_eq_false h2, Bool.false_and]
      clear HL HN hlen
      go_enter Tryz.func107, Tryz.ntmps107
      go_wp2_with fail
      refine (HO.out _ hb1).mono ?_
      rintro e w2 ⟨rfl, hb⟩
      have hb2 := hb1.trans (hb.mono hb1.size)
      have hk := HK1.out.below hb HK1.out.lt
      have z8 := hk.cell 8
      clear hk hb HO HK1 hb1
      go_wp2_with fail
      go_ret
      exact ⟨by first | rfl | (simp [go_sem]; done) | (simp [go_sem]; omega), hb2⟩

set_option maxHeartbeats 4000000 in
set_option maxRecDepth 100000 in
theorem own_other (kind : Int) (h1 : ¬ kind = 1) (h2 : ¬ kind = 2) (h3 : ¬ kind = 3) (h4 : ¬ kind = 4) (h5 : ¬ kind = 5) (h6 : ¬ kind = 6) (h7 : ¬ kind = 7) (h8 : ¬ kind = 8) (h9 : ¬ kind = 9) (h10 : ¬ kind = 10) (h11 : ¬ kind = 11) (b neg : Bool) (dg : ByteArray) (ex u wd : Int) (s : ByteArray) (l : List Tr) (A : Option Addr) (n c : Nat) (w : World) (B d : Nat) (_hn : l.length = n) (_hl : ListAt w B d l (.slice A n c)) (_hB : B ≤ w.heap.size) (_hok : OwnOk ⟨kind, b, neg, dg, ex, u, wd, s⟩) :
    Calls Tryz.prog 107 #[.agg #[.int .i64 kind, .bool b, .bool neg, .string dg, .int .i64 ex, .int .u64 u, .int .i64 wd, .string s, .slice A n c]] w fun e w' => e = .returned (.bool (ownB ⟨kind, b, neg, dg, ex, u, wd, s⟩ l)) ∧ Below w.heap.size w w' := by
  have hans : ownB ⟨kind, b, neg, dg, ex, u, wd, s⟩ l = false := by
    unfold ownB
    simp only [if_neg h1, if_neg h2, if_neg h3, if_neg h4, if_neg h5, if_neg h6, if_neg h7, if_neg h8, if_neg h9, if_neg h10, if_neg h11]
  rw [hans]
  clear hans
  have hb1 : Below w.heap.size w (w.alloc (.cells #[.int .i64 kind, .bool b, .bool neg, .string dg, .int .i64 ex, .int .u64 u, .int .i64 wd, .string s, .slice A n c] 27)) := (Below.refl _ _).alloc (Nat.le_refl _) _
  have q1 : (kind == 1) = false := by rw [beq_eq_false_iff_ne]; exact h1
  have q2 : (kind == 2) = false := by rw [beq_eq_false_iff_ne]; exact h2
  have q3 : (kind == 3) = false := by rw [beq_eq_false_iff_ne]; exact h3
  have q4 : (kind == 4) = false := by rw [beq_eq_false_iff_ne]; exact h4
  have q5 : (kind == 5) = false := by rw [beq_eq_false_iff_ne]; exact h5
  have q6 : (kind == 6) = false := by rw [beq_eq_false_iff_ne]; exact h6
  have q7 : (kind == 7) = false := by rw [beq_eq_false_iff_ne]; exact h7
  have q8 : (kind == 8) = false := by rw [beq_eq_false_iff_ne]; exact h8
  have q9 : (kind == 9) = false := by rw [beq_eq_false_iff_ne]; exact h9
  have q10 : (kind == 10) = false := by rw [beq_eq_false_iff_ne]; exact h10
  have q11 : (kind == 11) = false := by rw [beq_eq_false_iff_ne]; exact h11
  go_enter Tryz.func107, Tryz.ntmps107
  go_wp2_with fail
  go_ret
  exact ⟨by first | rfl | (simp [go_sem]; done) | (simp [go_sem]; omega), hb1⟩

set_option maxHeartbeats 1000000 in
theorem ref_own (t : Tr) (x : Value) (w : World) (B d : Nat) (hl : ListAt w B d t.kids x) (hB : B ≤ w.heap.size) (hok : OwnOk t.own) :
    Calls Tryz.prog 107 #[nodeV t.own x] w fun e w' => e = .returned (.bool (ownB t.own t.kids)) ∧ Below w.heap.size w w' := by
  obtain ⟨_, A, c, rfl⟩ := hl.slice
  obtain ⟨l, hkl⟩ : ∃ l, t.kids = l := ⟨_, rfl⟩
  rw [hkl] at hl ⊢
  obtain ⟨⟨kind, b, neg, dg, ex, u, wd, s⟩, ho⟩ : ∃ o, t.own = o := ⟨_, rfl⟩
  rw [ho] at hok ⊢
  unfold nodeV
  simp only []
  by_cases h1 : kind = 1
  · subst h1
    exact own_1 b neg dg ex u wd s l A _ c w B d rfl hl hB hok
  by_cases h2 : kind = 2
  · subst h2
    exact own_2 b neg dg ex u wd s l A _ c w B d rfl hl hB hok
  by_cases h3 : kind = 3
  · subst h3
    exact own_3 b neg dg ex u wd s l A _ c w B d rfl hl hB hok
  by_cases h4 : kind = 4
  · subst h4
    exact own_4 b neg dg ex u wd s l A _ c w B d rfl hl hB hok
  by_cases h5 : kind = 5
  · subst h5
    exact own_5 b neg dg ex u wd s l A _ c w B d rfl hl hB hok
  by_cases h6 : kind = 6
  · subst h6
    exact own_6 b neg dg ex u wd s l A _ c w B d rfl hl hB hok
  by_cases h7 : kind = 7
  · subst h7
    exact own_7 b neg dg ex u wd s l A _ c w B d rfl hl hB hok
  by_cases h8 : kind = 8
  · subst h8
    exact own_8 b neg dg ex u wd s l A _ c w B d rfl hl hB hok
  by_cases h9 : kind = 9
  · subst h9
    exact own_9 b neg dg ex u wd s l A _ c w B d rfl hl hB hok
  by_cases h10 : kind = 10
  · subst h10
    exact own_10 b neg dg ex u wd s l A _ c w B d rfl hl hB hok
  by_cases h11 : kind = 11
  · subst h11
    exact own_11 b neg dg ex u wd s l A _ c w B d rfl hl hB hok
  exact own_other kind h1 h2 h3 h4 h5 h6 h7 h8 h9 h10 h11 b neg dg ex u wd s l A _ c w B d rfl hl hB hok

set_option maxHeartbeats 4000000 in
set_option maxRecDepth 100000 in
theorem ref_all (d : Nat) : ∀ (t : Tr) (x : Value) (w : World) (B : Nat), ListAt w B d t.kids x → B ≤ w.heap.size → OwnOk t.own →
    Calls Tryz.prog 67 #[nodeV t.own x] w fun e w' => e = .returned (.bool (allB t)) ∧ Below w.heap.size w w' := by
  induction d using Nat.strongRecOn with
  | _ d ih =>
  intro t x w B hl hB hok
  obtain ⟨hlen, A, c, rfl⟩ := hl.slice
  have HOWN := fun (W : World) (hW : Below w.heap.size w W) => ref_own t (.slice A t.kids.length c) W B d (hl.below hW hB) (Nat.le_trans hB hW.size) hok
  rw [allB_eq]
  obtain ⟨l, hkl⟩ : ∃ l, t.kids = l := ⟨_, rfl⟩
  rw [hkl] at hl hlen HOWN ⊢
  obtain ⟨n, hn⟩ : ∃ n, l.length = n := ⟨_, rfl⟩
  rw [hn] at hl hlen HOWN ⊢
  obtain ⟨bo, hbo⟩ : ∃ bo, ownB t.own l = bo := ⟨_, rfl⟩
  rw [hbo] at HOWN ⊢
  obtain ⟨⟨kind, b, neg, dg, ex, u, wd, s⟩, ho⟩ : ∃ o, t.own = o := ⟨_, rfl⟩
  rw [ho] at HOWN ⊢
  unfold nodeV at HOWN ⊢
  simp only [] at HOWN
  have HOWN := Lib.hid HOWN
  have HL := Lib.hid hl
  have IH := Lib.hid ih
  obtain ⟨ans, hans⟩ : ∃ ans, allL l = ans := ⟨_, rfl⟩
  rw [hans]
  have HANS := Lib.hid (show allL (l.drop 0) = ans from hans)
  have hbx := (Below.refl w.heap.size w).alloc (Nat.le_refl _) (.cells #[.int .i64 kind, .bool b, .bool neg, .string dg, .int .i64 ex, .int .u64 u, .int .i64 wd, .string s, .slice A n c] 27)
  have HK := Lib.hid (Blk.new w #[.int .i64 kind, .bool b, .bool neg, .string dg, .int .i64 ex, .int .u64 u, .int .i64 wd, .string s, .slice A n c] 27)
  clear hl ih ho hkl hok hbo hans
  simp only []
  cases bo with
  | false =>
    rw [Bool.false_and]
    go_enter Tryz.func67, Tryz.ntmps67
    go_wp2_with fail
    refine (HOWN.out _ hbx).mono ?_
    rintro e w2 ⟨rfl, hb⟩
    have hb2 := hbx.trans (hb.mono hbx.size)
    clear hb hbx HOWN HK
    go_wp2_with fail
    go_ret
    exact ⟨rfl, hb2⟩
  | true =>
    rw [Bool.true_and]
    go_enter Tryz.func67, Tryz.ntmps67
    go_wp2_with fail
    refine (HOWN.out _ hbx).mono ?_
    rintro e w2 ⟨rfl, hb⟩
    have hb2 := hbx.trans (hb.mono hbx.size)
    have hk2 := HK.out.below hb HK.out.lt
    clear hb hbx HOWN HK
    go_wp2_with fail
    go_loopw [3] (fun i wr => ∃ k : Nat, k ≤ n ∧ i = .int .i64 k ∧ Below w.heap.size w wr ∧ Blk wr w.heap.size #[.int .i64 kind, .bool b, .bool neg, .string dg, .int .i64 ex, .int .u64 u, .int .i64 wd, .string s, .slice A n c] 27 ∧ Hid (allL (l.drop k) = ans)) (fun i _ => n - (intOf i).toNat)
    case atStart => exact ⟨0, by omega, rfl, hb2, hk2, HANS⟩
    case round =>
      obtain ⟨k, hk, rfl, hbw, hbk, hac⟩ := hrel
      clear HANS hb2 hk2
      have hfl : wr.cell? ⟨w.heap.size, 8, none⟩ = some (.slice A n c) := hbk.cell 8
      by_cases hlt : k < n
      · have hkl : k < l.length := by omega
        obtain ⟨d', ad, x', hdd, rfl, hab, hok, hna, hkk⟩ := (HL.out.below hbw hB).at_ hkl
        have hdr := hac.out
        rw [allL_drop l k hkl] at hdr
        have HC := IH.out d' (by omega) l[k] x' wr B hkk (Nat.le_trans hB hbw.size) hok
        obtain ⟨⟨kind', b', neg', dg', ex', u', wd', s'⟩, ho'⟩ : ∃ o, l[k].own = o := ⟨_, rfl⟩
        rw [ho'] at HC hna
        unfold nodeV at HC
        obtain ⟨k0, k1, k2, k3, k4, k5, k6, k7, k8⟩ := hna
        simp only [] at k0 k1 k2 k3 k4 k5 k6 k7 k8 HC
        have y1 : (k : Int) < n := by omega
        have y0 : (0 : Int) ≤ k := by omega
        cases hs : allB l[k] with
        | false =>
          rw [hs] at hdr HC
          have hdr : false = ans := hdr
          subst hdr
          have HC := Lib.hid HC
          clear hs ho' hkk hok hdd hac
          go_wp2_with fail
          refine HC.out.mono ?_
          rintro e w3 ⟨rfl, hb⟩
          have hb3 := hbw.trans (hb.mono hbw.size)
          go_wp2_with fail
          go_ret
          exact ⟨rfl, hb3⟩
        | true =>
          rw [hs, Bool.true_and] at hdr
          rw [hs] at HC
          have HD := Lib.hid hdr
          have HC := Lib.hid HC
          clear hs ho' hkk hok hdd hac hdr
          go_wp2_with fail
          refine HC.out.mono ?_
          rintro e w3 ⟨rfl, hb⟩
          have hb3 := hbw.trans (hb.mono hbw.size)
          have hbk2 := hbk.below hb hbk.lt
          clear hb HC hbk k0 k1 k2 k3 k4 k5 k6 k7 k8 hfl
          go_wp2_with fail
          go_roundw
          case rel => exact ⟨k + 1, by omega, by go_num, hb3, hbk2, HD⟩
          case measure => simp [intOf]; omega
      · obtain rfl : k = n := by omega
        have y1 : ¬ (k : Int) < k := by omega
        have hdr := hac.out
        rw [List.drop_eq_nil_of_le (by omega), allL] at hdr
        subst hdr
        clear hac
        go_wp2_with fail
        go_ret
        exact ⟨rfl, hbw⟩

set_option maxHeartbeats 4000000 in
set_option maxRecDepth 100000 in
theorem ref_RightT (t : Tr) (x : Value) (w : World) (B d : Nat) (hl : ListAt w B d t.kids x) (hB : B ≤ w.heap.size) (hok : OwnOk t.own) (hc : t.count ≤ 1000000000) :
    Calls Tryz.prog 48 #[nodeV t.own x] w fun e w' => e = .returned (.bool (rightT t)) ∧ Below w.heap.size w w' := by
  obtain ⟨_, A, c, rfl⟩ := hl.slice
  obtain ⟨n, hn⟩ : ∃ n, t.kids.length = n := ⟨_, rfl⟩
  rw [hn] at hl ⊢
  have HC := fun (W : World) (hW : Below w.heap.size w W) => ref_Count d t (.slice A n c) W B (hl.below hW hB) (Nat.le_trans hB hW.size) (by omega)
  have HD := fun (W : World) (hW : Below w.heap.size w W) => ref_Depth d t (.slice A n c) W B (hl.below hW hB) (Nat.le_trans hB hW.size) (by omega)
  have HA := fun (W : World) (hW : Below w.heap.size w W) => ref_all d t (.slice A n c) W B (hl.below hW hB) (Nat.le_trans hB hW.size) hok
  unfold rightT
  have hdc := depth_count t
  obtain ⟨tc, htc⟩ : ∃ tc, t.count = tc := ⟨_, rfl⟩
  obtain ⟨td, htd⟩ : ∃ td, t.depth = td := ⟨_, rfl⟩
  obtain ⟨ta, hta⟩ : ∃ ta, allB t = ta := ⟨_, rfl⟩
  simp only [htc] at HC
  simp only [htd] at HD
  simp only [hta] at HA
  rw [htc, htd, hta]
  rw [htc, htd] at hdc
  rw [htc] at hc
  obtain ⟨o, ho⟩ : ∃ o, t.own = o := ⟨_, rfl⟩
  rw [ho] at HC HD HA ⊢
  unfold nodeV at HC HD HA ⊢
  have HC := Lib.hid HC
  have HD := Lib.hid HD
  have HA := Lib.hid HA
  have hb1 : Below w.heap.size w (w.alloc (.cells (cellsV o (.slice A n c)) 27)) := (Below.refl _ _).alloc (Nat.le_refl _) _
  have HK := Lib.hid (Blk.new w (cellsV o (.slice A n c)) 27)
  clear hl hok ho htc htd hta hn
  unfold cellsV at *
  by_cases h1 : tc ≤ 300
  · have y1 : (tc : Int) ≤ 300 := by omega
    rw [decide_eq_true h1, Bool.true_and]
    by_cases h2 : td ≤ 16
    · have y2 : (td : Int) ≤ 16 := by omega
      rw [decide_eq_true h2, Bool.true_and]
      go_enter Tryz.func48, Tryz.ntmps48
      go_wp2_with fail
      refine (HC.out _ hb1).mono ?_
      rintro e w2 ⟨rfl, hb⟩
      have hb2 := hb1.trans (hb.mono hb1.size)
      have hk := HK.out.below hb HK.out.lt
      have z0 := hk.cell 0
      have z1 := hk.cell 1
      have z2 := hk.cell 2
      have z3 := hk.cell 3
      have z4 := hk.cell 4
      have z5 := hk.cell 5
      have z6 := hk.cell 6
      have z7 := hk.cell 7
      have z8 := hk.cell 8
      clear hb HC HK hb1
      go_wp2_with fail
      refine (HD.out _ hb2).mono ?_
      rintro e w3 ⟨rfl, hb⟩
      have hb3 := hb2.trans (hb.mono hb2.size)
      have hk3 := hk.below hb hk.lt
      clear hb HD hb2 z0 z1 z2 z3 z4 z5 z6 z7 z8 hk
      have z0 := hk3.cell 0
      have z1 := hk3.cell 1
      have z2 := hk3.cell 2
      have z3 := hk3.cell 3
      have z4 := hk3.cell 4
      have z5 := hk3.cell 5
      have z6 := hk3.cell 6
      have z7 := hk3.cell 7
      have z8 := hk3.cell 8
      clear hk3
      go_wp2_with fail
      refine (HA.out _ hb3).mono ?_
      rintro e w4 ⟨rfl, hb⟩
      have hb4 := hb3.trans (hb.mono hb3.size)
      clear hb HA hb3 z0 z1 z2 z3 z4 z5 z6 z7 z8
      go_wp2_with fail
      go_ret
      exact ⟨rfl, hb4⟩
    · have y2 : ¬ (td : Int) ≤ 16 := by omega
      have y3 : (16 : Int) < td := by omega
      rw [decide_eq_false h2, Bool.false_and]
      go_enter Tryz.func48, Tryz.ntmps48
      go_wp2_with fail
      refine (HC.out _ hb1).mono ?_
      rintro e w2 ⟨rfl, hb⟩
      have hb2 := hb1.trans (hb.mono hb1.size)
      have hk := HK.out.below hb HK.out.lt
      have z0 := hk.cell 0
      have z1 := hk.cell 1
      have z2 := hk.cell 2
      have z3 := hk.cell 3
      have z4 := hk.cell 4
      have z5 := hk.cell 5
      have z6 := hk.cell 6
      have z7 := hk.cell 7
      have z8 := hk.cell 8
      clear hb HC HK hb1 hk
      go_wp2_with fail
      refine (HD.out _ hb2).mono ?_
      rintro e w3 ⟨rfl, hb⟩
      have hb3 := hb2.trans (hb.mono hb2.size)
      clear hb HD hb2 z0 z1 z2 z3 z4 z5 z6 z7 z8
      go_wp2_with fail
      go_ret
      exact ⟨by first | rfl | (simp [go_sem]; done) | (simp [go_sem]; omega), hb3⟩
  · have y1 : ¬ (tc : Int) ≤ 300 := by omega
    have y3 : (300 : Int) < tc := by omega
    rw [decide_eq_false h1, Bool.false_and]
    go_enter Tryz.func48, Tryz.ntmps48
    go_wp2_with fail
    refine (HC.out _ hb1).mono ?_
    rintro e w2 ⟨rfl, hb⟩
    have hb2 := hb1.trans (hb.mono hb1.size)
    clear hb HC HK hb1
    go_wp2_with fail
    go_ret
    exact ⟨by first | rfl | (simp [go_sem]; done) | (simp [go_sem]; omega), hb2⟩
end Go.Proofs.YtfckekaegjjmkaaGreatDoor
