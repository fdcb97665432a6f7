/- The texts HeadL, HeadM, HeadD, HeadP, put together. -/
import Derived.Test.YtffaefdnlgfdbaaGreatDoorPk34
import Derived.Lib.Hide
import Derived.Outline
/- The walk of head.least. -/
namespace Go.Proofs.YtffaefdnlgfdbaaGreatDoor
open Go.RowKit Go.Shelf
attribute [local go_sem] Oper.semAt_some wide_fn wide_depth

def leastOf (n : Int) : Int × Int := if n < 24 then (n, 0) else if n < 256 then (24, 1) else if n < 65536 then (25, 2) else if n < 4294967296 then (26, 4) else (27, 8)

set_option maxRecDepth 100000 in
set_option maxHeartbeats 400000 in
theorem head_least (n : Int) (h0n : 0 ≤ n) (hn64 : n < 18446744073709551616) (w : World) :
    Calls Tryz.prog 139 #[.int .u64 n] w fun e w' => e = .returned (.agg #[.int .i64 (leastOf n).1, .int .i64 (leastOf n).2]) ∧ Below w.heap.size w w' := by
  refine calls_of_marks Tryz.func139 rfl ?_
  simp only [Tryz.ntmps139, List.size_toArray, List.length_cons, List.length_nil, Nat.reduceAdd, Nat.reduceSub, Array.replicate_succ, Array.replicate_zero, List.push_toArray, List.append_toArray, List.nil_append, List.cons_append]
  by_cases h24 : n < 24
  · go_wp2
    go_step3
    go_wp2
    rw [Exit.noGoto_ret]
    exact leave0 (v := .agg #[.int .i64 n, .int .i64 0]) (by simp [results, Tryz.results139, go_sem]) rfl ⟨by simp [leastOf, h24], ((Below.refl _ _).alloc (Nat.le_refl _) _).alloc (by simp) _⟩
  · go_wp2
    go_step3
    go_wp2
    go_step3
    go_wp2_with (go_at_call 156; refine (head_fitting _ _).mono ?_; rintro e w' ⟨rfl, rfl⟩)
    have bA := Blk.new ((w.alloc (Obj.cells #[Value.int IntKind.i64 0, Value.int IntKind.i64 0] 164)).alloc (Obj.cells #[Value.int IntKind.i64 (wrap64 n), Value.int IntKind.i64 0] 164)) #[.int .u64 n] 24
    have bR := ((Blk.new w #[Value.int IntKind.i64 0, Value.int IntKind.i64 0] 164).alloc (Obj.cells #[Value.int IntKind.i64 (wrap64 n), Value.int IntKind.i64 0] 164)).alloc (Obj.cells #[Value.int .u64 n] 24)
    have bO := (Blk.new (w.alloc (Obj.cells #[Value.int IntKind.i64 0, Value.int IntKind.i64 0] 164)) #[Value.int IntKind.i64 (wrap64 n), Value.int IntKind.i64 0] 164).alloc (Obj.cells #[Value.int .u64 n] 24)
    have hB0 : Below w.heap.size w (((w.alloc (Obj.cells #[Value.int IntKind.i64 0, Value.int IntKind.i64 0] 164)).alloc (Obj.cells #[Value.int IntKind.i64 (wrap64 n), Value.int IntKind.i64 0] 164)).alloc (Obj.cells #[Value.int IntKind.u64 n] 24)) := (((Below.refl _ w).alloc (Nat.le_refl _) _).alloc (by simp) _).alloc (by simp; omega) _
    have hsz : (((w.alloc (Obj.cells #[Value.int IntKind.i64 0, Value.int IntKind.i64 0] 164)).alloc (Obj.cells #[Value.int IntKind.i64 (wrap64 n), Value.int IntKind.i64 0] 164)).alloc (Obj.cells #[Value.int IntKind.u64 n] 24)).heap.size = w.heap.size + 3 := by simp
    simp only [World.size_alloc] at bA bO bR
    obtain ⟨W0, hW0⟩ : ∃ W0, ((w.alloc (Obj.cells #[Value.int IntKind.i64 0, Value.int IntKind.i64 0] 164)).alloc (Obj.cells #[Value.int IntKind.i64 (wrap64 n), Value.int IntKind.i64 0] 164)).alloc (Obj.cells #[Value.int IntKind.u64 n] 24) = W0 := ⟨_, rfl⟩
    rw [hW0] at bA bO bR hB0 hsz ⊢
    clear hW0
    refine wp_rangeFunc (gf := 164) (lb := #[.pointer (some ⟨w.heap.size + 1 + 1, 0, none⟩)]) rfl (enters_of Tryz.func164 (by kernel_rfl) rfl)
      (head_fitting_stops 8 (w.heap.size + 1 + 1) (w.heap.size + 3) n h0n hn64 W0 (by omega) (by omega) ((bA.cell 0).trans rfl)) (by omega) (Below.refl _ _) (fun _ => rfl)
      (fun pre W => (pre = [] ∧ Blk W w.heap.size #[.int .i64 0, .int .i64 0] 164 ∧ Blk W (w.heap.size + 1) #[.int .i64 (wrap64 n), .int .i64 0] 164) ∧ Below w.heap.size W0 W)
      (fun c pre W => (c = .exit 0 ∧ ∃ x : Int × Int, pre = [x] ∧ Blk W w.heap.size #[.int .i64 0, .int .i64 0] 164 ∧ Blk W (w.heap.size + 1) #[.int .i64 x.1, .int .i64 x.2] 164) ∧ Below w.heap.size W0 W)
      ?hI ?hIx ⟨⟨rfl, bR, bO⟩, Below.refl _ _⟩
      (fun T x a' W => ∃ Bx, w.heap.size + 1 < Bx ∧ Blk W Bx #[.int .i64 x.1, .int .i64 x.2] 164 ∧ a' = { tmps := (T.setIfInBounds 13 (.agg #[.int .i64 x.1, .int .i64 x.2])).setIfInBounds 4 (.pointer (some ⟨Bx, 0, none⟩)), defers := [] })
      ?hAx ?assign ?body ?done ?stop
    case hI =>
      refine OwnFrom.and (Own.from ?_ _) (ownFrom_below (by omega) (by omega))
      rintro s X Y row ⟨h1, h2, h3⟩ hg hr
      exact ⟨h1, blk_own _ _ (fun _ : Unit => _) () X Y row h2 hg hr, blk_own _ _ (fun _ : Unit => _) () X Y row h3 hg hr⟩
    case hIx =>
      intro c
      refine OwnFrom.and (Own.from ?_ _) (ownFrom_below (by omega) (by omega))
      rintro s X Y row ⟨h1, x, hx, h2, h3⟩ hg hr
      exact ⟨h1, x, hx, blk_own _ _ (fun _ : Unit => _) () X Y row h2 hg hr, blk_own _ _ (fun _ : Unit => _) () X Y row h3 hg hr⟩
    case hAx =>
      rintro x a' _ X Y row ⟨Bx, h1, h2, h3⟩ hg hr
      exact ⟨Bx, h1, blk_own _ _ (fun _ : Unit => _) () X Y row h2 hg (fun r e => (hr r e).2), h3⟩
    case assign =>
      rintro l pre x W K ⟨⟨hp, h1, h2⟩, hB⟩ hK
      have HK := Lib.hid hK
      clear hK
      have hz := hB.size
      gi_wp2
      exact HK.out _ _ ((KeepsOthers.alloc _ _).from _) ((Below.refl _ _).alloc (by omega) _) ⟨⟨hp, h1.alloc _, h2.alloc _⟩, hB.alloc (by omega) _⟩ ⟨W.heap.size, h2.lt, Blk.new _ _ _, rfl⟩
    case body =>
      rintro l pre x a' W hl ⟨r, hr⟩ ⟨⟨rfl, h1, h2⟩, hB⟩ ⟨Bx, hBx, bX, rfl⟩ hlt
      have hx0 := bX.cell 0
      have hx1 := bX.cell 1
      have ho0 := h2.cell 0
      have ho1 := h2.cell 1
      have hf := h2.frozen
      simp only [List.setIfInBounds_toArray, List.set_cons_zero, List.set_cons_succ]
      gi_wp2
      exact ⟨((KeepsOthers.setCell _ _ _).trans (KeepsOthers.setCell _ _ _)).from _, ⟨rfl, x, rfl, (h1.other (by omega) _ _).other (by omega) _ _, (h2.set 0 _).set 1 _⟩, (hB.setCell (by simp) _).setCell (by simp) _⟩
    case done =>
      rintro D ys W hD rfl ⟨⟨hp, _⟩, _⟩ hK
      exact absurd hp (by rw [fitsTo_4]; simp)
    case stop =>
      rintro D c pre W hD hp ⟨⟨rfl, x, rfl, h1, h2⟩, hB⟩ hK
      have ho0 := h2.cell 0
      have ho1 := h2.cell 1
      have hr0 := h1.cell 0
      have hr1 := h1.cell 1
      have hf := h1.frozen
      have hx : x = leastOf n := by
        unfold leastOf
        rw [if_neg (by omega)]
        by_cases h1 : n < 256
        · rw [if_pos h1]
          simp [fitsTo, sizeList, fitsB, List.filter, h1] at hp; exact hp
        · rw [if_neg h1]
          by_cases h2 : n < 65536
          · rw [if_pos h2]
            simp [fitsTo, sizeList, fitsB, List.filter, h1, h2] at hp; exact hp
          · rw [if_neg h2]
            by_cases h3 : n < 4294967296
            · rw [if_pos h3]
              simp [fitsTo, sizeList, fitsB, List.filter, h1, h2, h3] at hp; exact hp
            · rw [if_neg h3]
              simp [fitsTo, sizeList, fitsB, List.filter, h1, h2, h3] at hp; exact hp
      have HX := Lib.hid hx
      clear hx
      go_wp2
      rw [Exit.noGoto_ret]
      have bR' := (h1.set 0 (Value.int IntKind.i64 x.fst)).set 1 (Value.int IntKind.i64 x.snd)
      have hK' : ((W.setCell { block := w.heap.size, off := 0 } (Value.int IntKind.i64 x.fst)).setCell { block := w.heap.size, off := 1 } (Value.int IntKind.i64 x.snd)).heap[D]? = some (.deferred (some [])) :=
        ((Below.heap_setCell _ _ _ D (by simp; omega)).trans (Below.heap_setCell _ _ _ D (by simp; omega))).trans hK
      have bR2 := bR'.shut hK' rfl (.deferred none)
      have hq0 := bR2.cell 0
      have hq1 := bR2.cell 1
      refine leave1 (v := .agg #[.int .i64 x.1, .int .i64 x.2]) hK' (by simp [results, Tryz.results139, go_sem, hq0, hq1]) rfl ⟨by rw [HX.out], ?_⟩
      have hz := hB.size
      exact below_shut (hB0.trans ((hB.setCell (by simp) _).setCell (by simp) _)) (by omega) (by simp [World.setCell]; omega) _
end Go.Proofs.YtffaefdnlgfdbaaGreatDoor
/- The walk of head.Make. -/
namespace Go.Proofs.YtffaefdnlgfdbaaGreatDoor
open Go.RowKit Go.Shelf

theorem leastOf_cases (n : Int) (h0 : 0 ≤ n) : 0 ≤ (leastOf n).1 ∧ (leastOf n).1 ≤ 27 ∧ 0 ≤ (leastOf n).2 ∧ (leastOf n).2 ≤ 8 := by
  unfold leastOf
  split
  · exact ⟨h0, by omega, by omega, by omega⟩
  · split <;> (try split) <;> (try split) <;> simp

theorem Tryz.info8 : (Tryz.prog.info? 5).map (fun i => (i.zero, i.size, i.bytes)) = some (some (.int .u8 0), 1, 1) := by kernel_rfl

theorem head_bytes (base n : Nat) (v : Value) (l : List UInt8) (w : World) (h : w.ownsRow base 5 1 v n (byteVals l)) :
    Calls Tryz.prog 140 #[v] w fun e w' => e = .returned (.string ⟨l.toArray⟩) ∧ w = w' := by
  have hcv := run_string_own (P := Tryz.prog) (src := 54) (dst := 9) Tryz.underlying54 Tryz.underlying5 Tryz.underlying9 h
  go_enter Tryz.func140, Tryz.ntmps140
  go_wp2
  go_ret
  exact ⟨rfl, rfl⟩

/-- The first byte of a head, the bytes behind it: k of them, of n, the greatest ones first. -/
def firstByte (maj info : Nat) : UInt8 := UInt8.ofNat (32 * maj + info)
def beByte (n k i : Nat) : UInt8 := UInt8.ofNat (n / 2 ^ (8 * (k - 1 - i)))
theorem beByte_eq (n k i : Nat) : ((n : Int) / 2 ^ (8 * (k - 1 - i)) % 256) = ((beByte n k i).toNat : Int) := by
  unfold beByte
  rw [UInt8.toNat_ofNat', Int.natCast_emod, Int.natCast_ediv, Int.natCast_pow]
  rfl
def beBytes (n k : Nat) : List UInt8 := (List.range k).map (beByte n k)
def leastN (n : Nat) : Nat × Nat := ((leastOf n).1.toNat, (leastOf n).2.toNat)
def makeL (maj n : Nat) : List UInt8 := firstByte maj (leastN n).1 :: beBytes n (leastN n).2

theorem bits_first (maj info : Nat) (h : maj ≤ 7) (hi : info ≤ 31) : bits BinOp.or IntKind.i64 ((maj : Int) * 32) (info : Int) % 256 = ((firstByte maj info).toNat : Int) := by
  have : ∀ m : Fin 8, ∀ i : Fin 32, bits BinOp.or IntKind.i64 (((m.val : Nat) : Int) * 32) ((i.val : Nat) : Int) % 256 = ((firstByte m.val i.val).toNat : Int) := by decide +kernel
  exact this ⟨maj, by omega⟩ ⟨info, by omega⟩

set_option maxRecDepth 100000 in
set_option maxHeartbeats 400000 in
theorem head_Make (maj n : Nat) (hmaj : maj ≤ 7) (hn : n < 18446744073709551616) (w : World) :
    Calls Tryz.prog 126 #[.int .i64 maj, .int .u64 n] w fun e w' => e = .returned (.tuple #[.string ⟨(makeL maj n).toArray⟩, .int .i64 0]) ∧ Below w.heap.size w w' := by
  have hlc := leastOf_cases n (by omega)
  obtain ⟨info, hinfo⟩ : ∃ info : Nat, (leastOf n).1 = info := ⟨(leastOf n).1.toNat, by omega⟩
  obtain ⟨k, hk⟩ : ∃ k : Nat, (leastOf n).2 = k := ⟨(leastOf n).2.toNat, by omega⟩
  have hl := head_least n (by omega) (by omega)
  have hmk : makeL maj n = firstByte maj info :: beBytes n k := by simp [makeL, leastN, hinfo, hk]
  rw [hmk]
  rw [hinfo, hk] at hlc hl
  have hf := bits_first maj info hmaj (by omega)
  have HL := Lib.hid hl
  have HF := Lib.hid hf
  clear hl hf hinfo hk hmk
  have hkb : k ≤ 8 := by omega
  have hib : info ≤ 27 := by omega
  clear hlc
  obtain ⟨i0, hi, hz0, hz1, hz2⟩ := info_parts Tryz.info8
  go_enter Tryz.func126, Tryz.ntmps126
  go_wp2_with (go_at_call 139; refine (HL.out _).mono ?_; rintro e w1 ⟨rfl, hb1⟩)
  have hown0 : ((w1.alloc (Obj.cells #[Value.int IntKind.i64 ↑info, Value.int IntKind.i64 ↑k] 164)).alloc (Obj.cells #[Value.int IntKind.u8 (bits BinOp.or IntKind.i64 ((maj : Int) * 32) ↑info % 256)] 5)).ownsRow w.heap.size 5 1 (.slice (some ⟨w1.heap.size + 1, 0, none⟩) 1 1) 1 (byteVals [firstByte maj info]) := by
    rw [HF.out]
    have := World.ownsRow_lit (base := w.heap.size) (e := 5) (size := 1) (w1.alloc (Obj.cells #[Value.int IntKind.i64 ↑info, Value.int IntKind.i64 ↑k] 164)) #[Value.int IntKind.u8 ↑(firstByte maj info).toNat] 1 (by have := hb1.size; simp; omega) (by decide) rfl
    simpa [byteVals] using this
  go_loopw [7, 8] (fun v i wr => ∃ j : Nat, j ≤ k ∧ i = .int .i64 ((k : Int) - 1 - j) ∧ wr.ownsRow w.heap.size 5 1 v (1 + j) (byteVals (firstByte maj info :: (beBytes n k).take j)) ∧ Below w.heap.size w wr) (fun _ i _ => (intOf i + 1).toNat)
  case atStart => exact ⟨0, by omega, by simp, by simpa using hown0, (hb1.alloc hb1.size _).alloc (by have := hb1.size; simp; omega) _⟩
  case round =>
    obtain ⟨j, hj, rfl, hown, hbw⟩ := hrel
    by_cases hlt : j < k
    · have HB := Lib.hid (beByte_eq n k j)
      have hbz := hbw.size
      have HT := Lib.hid (show byteVals (firstByte maj info :: (beBytes n k).take j) ++ [Value.int .u8 ((beByte n k j).toNat : Int)] = byteVals (firstByte maj info :: (beBytes n k).take (j + 1)) by
        rw [List.take_succ_eq_append_getElem (by simp [beBytes]; omega)]; simp [byteVals, beBytes])
      go_wp2_with (at_builtin; refine wpList_append_own _ rfl _ _ 54 rfl w.heap.size 5 i0 (.int .u8 0) 1 1 Tryz.underlying54 hi hz0 hz1 hz2 rfl (by decide) _ _ _ rfl (hown.alloc _) ⟨wr.heap.size, 0, none⟩ 1 1 [.int .u8 ((n : Int) / 2 ^ (8 * (k - 1 - j)) % 256)] rfl rfl (cell_one_new _ _ _) (by simp [Value.oneCell']) (by unfold maxLen; omega) (by omega) (by simp; omega) ?_; intro v' w2 hown2 hgrow _)
      have hbw2 : Below w.heap.size w w2 := (hbw.alloc (by omega) _).grown hgrow (by simp; omega) (fun q e => (hown.lt q e).1)
      rw [HB.out, HT.out] at hown2
      go_roundw
      case rel => exact ⟨j + 1, by omega, by go_num, by rw [show 1 + (j + 1) = 1 + j + 1 by omega]; exact hown2, hbw2⟩
      case measure => simp [intOf]; omega
    · obtain rfl : j = k := by omega
      rw [List.take_of_length_le (by simp [beBytes])] at hown
      go_wp2_with (go_at_call 140; refine (head_bytes _ _ _ _ _ hown).mono ?_; rintro e w2 ⟨rfl, rfl⟩)
      go_ret2
      exact ⟨rfl, hbw⟩

theorem head_Make_no (maj n : Int) (hmaj : maj < 0 ∨ 7 < maj) (w : World) :
    Calls Tryz.prog 126 #[.int .i64 maj, .int .u64 n] w fun e w' => e = .returned (.tuple #[.string ⟨#[]⟩, .int .i64 2]) ∧ w = w' := by
  rcases hmaj with h | h
  · go_enter Tryz.func126, Tryz.ntmps126
    go_wp2
    go_ret2
    exact ⟨rfl, rfl⟩
  · have h0 : ¬ maj < 0 := by omega
    go_enter Tryz.func126, Tryz.ntmps126
    go_wp2
    go_ret2
    exact ⟨rfl, rfl⟩
end Go.Proofs.YtffaefdnlgfdbaaGreatDoor
/- Heads, plainly: what is read of bytes. -/
namespace Go.Proofs.YtffaefdnlgfdbaaGreatDoor

def beVal (l : List UInt8) : Nat := l.foldl (fun a b => a * 256 + b.toNat) 0
structure ReadR where
  maj : Nat
  info : Nat
  arg : Nat
  rest : List UInt8
  err : Nat
def readL (l : List UInt8) : ReadR :=
  match l with
  | [] => ⟨0, 0, 0, [], 100⟩
  | b :: r =>
    if b.toNat % 32 < 24 then ⟨b.toNat / 32, b.toNat % 32, b.toNat % 32, r, 0⟩
    else if b.toNat % 32 = 31 then ⟨b.toNat / 32, 31, 0, r, 0⟩
    else if 27 < b.toNat % 32 then ⟨0, 0, 0, l, 101⟩
    else if r.length < 2 ^ (b.toNat % 32 - 24) then ⟨0, 0, 0, l, 100⟩
    else ⟨b.toNat / 32, b.toNat % 32, beVal (r.take (2 ^ (b.toNat % 32 - 24))), r.drop (2 ^ (b.toNat % 32 - 24)), 0⟩

theorem beVal_snoc (l : List UInt8) (b : UInt8) : beVal (l ++ [b]) = beVal l * 256 + b.toNat := by simp [beVal]
end Go.Proofs.YtffaefdnlgfdbaaGreatDoor
/- Heads, plainly: what makeL makes, readL reads. -/
namespace Go.Proofs.YtffaefdnlgfdbaaGreatDoor

theorem leastN_small (n : Nat) (h : n < 24) : leastN n = (n, 0) := by
  unfold leastN leastOf; rw [if_pos (by omega)]; simp
theorem leastN_1 (n : Nat) (h : ¬ n < 24) (h1 : n < 256) : leastN n = (24, 1) := by
  unfold leastN leastOf; rw [if_neg (by omega), if_pos (by omega)]; rfl
theorem leastN_2 (n : Nat) (h1 : ¬ n < 256) (h2 : n < 65536) : leastN n = (25, 2) := by
  unfold leastN leastOf; rw [if_neg (by omega), if_neg (by omega), if_pos (by omega)]; rfl
theorem leastN_4 (n : Nat) (h1 : ¬ n < 65536) (h2 : n < 4294967296) : leastN n = (26, 4) := by
  unfold leastN leastOf; rw [if_neg (by omega), if_neg (by omega), if_neg (by omega), if_pos (by omega)]; rfl
theorem leastN_8 (n : Nat) (h1 : ¬ n < 4294967296) : leastN n = (27, 8) := by
  unfold leastN leastOf; rw [if_neg (by omega), if_neg (by omega), if_neg (by omega), if_neg (by omega)]; rfl

/-- What is known of a least size. -/
def LeastIs (n info k : Nat) : Prop := (n < 24 ∧ info = n ∧ k = 0) ∨ (24 ≤ n ∧ 24 ≤ info ∧ info ≤ 27 ∧ k = 2 ^ (info - 24) ∧ n < 2 ^ (8 * k) ∧ (info = 24 ∨ 2 ^ (8 * 2 ^ (info - 25)) ≤ n))
theorem leastN_is (n : Nat) (hn : n < 18446744073709551616) : LeastIs n (leastN n).1 (leastN n).2 := by
  by_cases h : n < 24
  · rw [leastN_small n h]; exact .inl ⟨h, rfl, rfl⟩
  · by_cases h1 : n < 256
    · rw [leastN_1 n h h1]; exact .inr ⟨by omega, by decide, by decide, rfl, h1, .inl rfl⟩
    · by_cases h2 : n < 65536
      · rw [leastN_2 n h1 h2]; exact .inr ⟨by omega, by decide, by decide, rfl, h2, .inr (by show 256 ≤ n; omega)⟩
      · by_cases h3 : n < 4294967296
        · rw [leastN_4 n h2 h3]; exact .inr ⟨by omega, by decide, by decide, rfl, h3, .inr (by show 65536 ≤ n; omega)⟩
        · rw [leastN_8 n h3]; exact .inr ⟨by omega, by decide, by decide, rfl, hn, .inr (by show 4294967296 ≤ n; omega)⟩

theorem beBytes_length (n k : Nat) : (beBytes n k).length = k := by simp [beBytes]
theorem makeL_length (maj n : Nat) : (makeL maj n).length = 1 + (leastN n).2 := by simp [makeL, beBytes_length]; omega

theorem firstByte_toNat (maj info : Nat) (h : maj ≤ 7) (hi : info ≤ 31) : (firstByte maj info).toNat = 32 * maj + info := by
  unfold firstByte
  rw [UInt8.toNat_ofNat']
  omega

theorem beBytes_succ (n k : Nat) : beBytes n (k + 1) = beBytes (n / 256) k ++ [UInt8.ofNat n] := by
  unfold beBytes
  rw [List.range_succ, List.map_append]
  congr 1
  · apply List.map_congr_left
    intro i hi
    have : i < k := List.mem_range.1 hi
    unfold beByte
    rw [show k + 1 - 1 - i = (k - 1 - i) + 1 by omega, Nat.mul_add, Nat.pow_add, Nat.div_div_eq_div_mul, Nat.mul_comm (2 ^ (8 * (k - 1 - i)))]
  · simp [beByte]

theorem beVal_beBytes (k : Nat) : ∀ n, n < 2 ^ (8 * k) → beVal (beBytes n k) = n := by
  induction k with
  | zero => intro n h; simp at h; subst h; rfl
  | succ k ih =>
    intro n h
    rw [beBytes_succ, beVal_snoc, ih (n / 256) (by rw [Nat.mul_add, Nat.pow_add] at h; exact Nat.div_lt_of_lt_mul (by rw [Nat.mul_comm]; exact h))]
    rw [UInt8.toNat_ofNat']
    omega

theorem beVal_lt (l : List UInt8) : beVal l < 2 ^ (8 * l.length) := by
  suffices h : ∀ (l : List UInt8), beVal l.reverse < 2 ^ (8 * l.length) by
    have := h l.reverse
    simpa using this
  intro l
  induction l with
  | nil => decide
  | cons b l ih =>
    rw [List.reverse_cons, beVal_snoc, List.length_cons, Nat.mul_add, Nat.pow_add]
    have := b.toNat_lt
    omega

theorem beBytes_beVal (l : List UInt8) : beBytes (beVal l) l.length = l := by
  suffices h : ∀ (l : List UInt8), beBytes (beVal l.reverse) l.length = l.reverse by
    have := h l.reverse
    simpa using this
  intro l
  induction l with
  | nil => rfl
  | cons b l ih =>
    have hb := b.toNat_lt
    rw [List.reverse_cons, beVal_snoc, List.length_cons, beBytes_succ, show (beVal l.reverse * 256 + b.toNat) / 256 = beVal l.reverse by omega, ih]
    congr 2
    apply UInt8.toNat_inj.1
    rw [UInt8.toNat_ofNat']
    omega

theorem readL_first (maj info : Nat) (r : List UInt8) (h : maj ≤ 7) (hi : info ≤ 31) : readL (firstByte maj info :: r) =
    if info < 24 then ⟨maj, info, info, r, 0⟩
    else if info = 31 then ⟨maj, 31, 0, r, 0⟩
    else if 27 < info then ⟨0, 0, 0, firstByte maj info :: r, 101⟩
    else if r.length < 2 ^ (info - 24) then ⟨0, 0, 0, firstByte maj info :: r, 100⟩
    else ⟨maj, info, beVal (r.take (2 ^ (info - 24))), r.drop (2 ^ (info - 24)), 0⟩ := by
  have e := firstByte_toNat maj info h hi
  have e1 : (firstByte maj info).toNat / 32 = maj := by omega
  have e2 : (firstByte maj info).toNat % 32 = info := by omega
  unfold readL
  simp only [e1, e2]

/-- What is made is read again, whatever stands behind. -/
theorem readL_makeL (maj n : Nat) (t : List UInt8) (h : maj ≤ 7) (hn : n < 18446744073709551616) : readL (makeL maj n ++ t) = ⟨maj, (leastN n).1, n, t, 0⟩ := by
  unfold makeL
  have hl := leastN_is n hn
  generalize (leastN n).1 = info at *
  generalize (leastN n).2 = k at *
  rw [List.cons_append, readL_first maj info _ h (by rcases hl with h | h <;> omega)]
  rcases hl with ⟨h1, rfl, rfl⟩ | ⟨h1, h2, h3, hk, h4, _⟩
  · rw [if_pos h1]; rfl
  · rw [if_neg (by omega), if_neg (by omega), if_neg (by omega), ← hk]
    rw [if_neg (by simp [beBytes_length])]
    rw [List.take_left' (beBytes_length n k), List.drop_left' (beBytes_length n k), beVal_beBytes k n h4]

/-- Fewer bytes ask for more. -/
theorem readL_less (maj n at_ : Nat) (h : maj ≤ 7) (hn : n < 18446744073709551616) (ha : at_ < (makeL maj n).length) : readL ((makeL maj n).take at_) = ⟨0, 0, 0, (makeL maj n).take at_, 100⟩ := by
  rw [makeL_length] at ha
  unfold makeL
  have hl := leastN_is n hn
  generalize (leastN n).1 = info at *
  generalize (leastN n).2 = k at *
  cases at_ with
  | zero => rfl
  | succ j =>
    rw [List.take_succ_cons, readL_first maj info _ h (by rcases hl with h | h <;> omega)]
    rcases hl with ⟨h1, rfl, rfl⟩ | ⟨h1, h2, h3, hk, h4, _⟩
    · omega
    · rw [if_neg (by omega), if_neg (by omega), if_neg (by omega), ← hk]
      rw [if_pos (by rw [List.length_take, beBytes_length]; omega)]
end Go.Proofs.YtffaefdnlgfdbaaGreatDoor
