/- The texts GateG, UtfM, UtfN, UtfRt, UtfO, UtfT, put together. -/
import Derived.Test.YtfckekaegjjmkaaGreatDoorPc15
import Derived.Test.YtfckekaegjjmkaaGreatDoorPc11
import Derived.Lib.ParseIntBCases
import Derived.Lib.AtoiErrMem
import Derived.Test.YtfckekaegjjmkaaGreatDoorPc09
import Derived.Outline
import Derived.Deep.RegionHeld3
import Derived.Test.YtfckekaegjjmkaaGreatDoorPc01
import Derived.Test.YtfckekaegjjmkaaGreatDoorPc06
import Derived.Shelf.Unicode.ValidAny
import Derived.Lib.ValidLaws
namespace Go.Proofs.YtfckekaegjjmkaaGreatDoor
open Go.RowKit Go.Shelf

/-- The gate's two sentinels lie where they were laid, Go's two tables, and strconv's ErrRange. -/
structure GW (w : World) (aT aF : Addr) : Prop where
  hT : w.cell? ⟨0, 0, none⟩ = some (.iface 289 (.pointer (some aT)))
  hF : w.cell? ⟨1, 0, none⟩ = some (.iface 289 (.pointer (some aF)))
  ne : aT ≠ aF
  bT : ∃ c t, w.heap[aT.block]? = some (.cells c t (0, 0))
  bF : ∃ c t, w.heap[aF.block]? = some (.cells c t (0, 0))
  tabs : Lib.Utf8Tabs 4 5 w
  rng : ∃ tp p, w.var? Tryz.prog "strconv.ErrRange" = some #[.iface tp p]
theorem GW.below {w w' : World} {aT aF : Addr} (h : GW w aT aF) (hb : Below w.heap.size w w') : GW w' aT aF where
  hT := cell_below hb h.hT
  hF := cell_below hb h.hF
  ne := h.ne
  bT := let ⟨c, t, e⟩ := h.bT; ⟨c, t, block_below hb e⟩
  bF := let ⟨c, t, e⟩ := h.bF; ⟨c, t, block_below hb e⟩
  tabs := Utf8Tabs_below h.tabs hb
  rng := let ⟨tp, p, e⟩ := h.rng; ⟨tp, p, var_below e hb⟩

/-- The number of a natural, if it has 64 bits. -/
def natTo (s : ByteArray) : Option Nat := if natOk s = true ∧ dval 0 s.data.toList < 18446744073709551616 then some (dval 0 s.data.toList) else none
def natToV : Option Nat → Value
  | some n => .tuple #[.int .u64 (n : Nat), .bool true]
  | none => .tuple #[.int .u64 0, .bool false]
theorem natOk_parts {s : ByteArray} (h : natOk s = true) : 1 ≤ s.size ∧ s.size ≤ 400 ∧ (∀ c ∈ s.data.toList, isDig c = true) := by
  unfold natOk at h
  rw [Bool.and_eq_true, Bool.and_eq_true, Bool.and_eq_true, decide_eq_true_iff, decide_eq_true_iff] at h
  exact ⟨h.1, h.2.1, fun c hc => List.all_eq_true.1 h.2.2.2 c hc⟩

set_option maxHeartbeats 2000000 in
set_option maxRecDepth 100000 in
theorem nat_To {aT aF : Addr} (s : ByteArray) (hs : s.size ≤ 1000000000000) (w : World) (h : GW w aT aF) :
    Calls Tryz.prog 140 #[.string s] w fun e w' => e = .returned (natToV (natTo s)) ∧ Below w.heap.size w w' := by
  obtain ⟨ans, hans⟩ : ∃ ans, natTo s = ans := ⟨_, rfl⟩
  rw [hans]
  unfold natTo at hans
  have HN := Lib.hid (nat_Right s (by omega) w)
  cases hn : natOk s with
  | false =>
    rw [hn] at HN hans
    rw [if_neg (fun q => absurd q.1 (by decide))] at hans
    subst hans
    clear hn h
    go_enter Tryz.func140, Tryz.ntmps140
    go_wp2_with fail
    refine HN.out.mono ?_
    rintro e w1 ⟨rfl, hb⟩
    go_wp2_with fail
    go_ret2
    exact ⟨rfl, hb⟩
  | true =>
    obtain ⟨h1, h4, hd⟩ := natOk_parts hn
    have hne : s.data.toList ≠ [] := fun e => by
      have : s.data.toList.length = s.size := by simp
      rw [e] at this
      simp at this
      omega
    have hp : Lib.parseUintB 64 s.data.toList = if dval 0 s.data.toList < 18446744073709551616 then .ok (dval 0 s.data.toList) else .range := by
      rw [Lib.parseUintB_64]
      unfold Lib.parseMag
      rw [if_neg hne, parse_digits _ 0 (by decide) hd]
    rw [hn] at HN hans
    by_cases hlt : dval 0 s.data.toList < 18446744073709551616
    · rw [if_pos ⟨rfl, hlt⟩] at hans
      rw [if_pos hlt] at hp
      subst hans
      have HP := Lib.hid (fun w => Tryz.strconv_ParseUint_10_at64_ok s (by omega) _ hp w)
      obtain ⟨v, hv⟩ : ∃ v, dval 0 s.data.toList = v := ⟨_, rfl⟩
      rw [hv] at HP ⊢
      clear hn h hp hlt hv hd hne
      go_enter Tryz.func140, Tryz.ntmps140
      go_wp2_with fail
      refine HN.out.mono ?_
      rintro e w1 ⟨rfl, hb⟩
      go_wp2_with fail
      refine (HP.out _).mono ?_
      rintro e w2 ⟨rfl, hw2⟩
      have hb2 : Below w.heap.size w w2 := by
        rcases hw2 with rfl | rfl
        · exact hb
        · exact hb.trans ((Lib.bytesWorld_below _ _ _).mono hb.size)
      clear hw2
      go_wp2_with fail
      go_ret2
      exact ⟨rfl, hb2⟩
    · rw [if_neg (fun q => hlt q.2)] at hans
      rw [if_neg hlt] at hp
      subst hans
      obtain ⟨tp, p, hr⟩ := h.rng
      have HP := Lib.hid (fun w (hw : w.var? Tryz.prog "strconv.ErrRange" = some #[.iface tp p]) => Tryz.strconv_ParseUint_10_at64_range_var s (by omega) hp tp p w hw)
      have HR := Lib.hid hr
      clear hn h hp hlt hd hne hr
      go_enter Tryz.func140, Tryz.ntmps140
      go_wp2_with fail
      refine HN.out.mono ?_
      rintro e w1 ⟨rfl, hb⟩
      have HR1 := Lib.hid (var_below HR.out hb)
      go_wp2_with fail
      refine (HP.out _ HR1.out).mono ?_
      rintro e w2 ⟨N, rfl, _, _, hb2⟩
      have hb3 := hb.trans (hb2.mono hb.size)
      go_wp2_with fail
      go_ret2
      exact ⟨rfl, hb3⟩
end Go.Proofs.YtfckekaegjjmkaaGreatDoor
namespace Go.Proofs.YtfckekaegjjmkaaGreatDoor
open Go.RowKit Go.Shelf
attribute [local go_sem] Oper.semAt_some wide_fn wide_depth


end Go.Proofs.YtfckekaegjjmkaaGreatDoor
namespace Go.Proofs.YtfckekaegjjmkaaGreatDoor
open Go.RowKit Go.Shelf

end Go.Proofs.YtfckekaegjjmkaaGreatDoor
namespace Go.Proofs.YtfckekaegjjmkaaGreatDoor
open Go.RowKit Go.Shelf

set_option maxRecDepth 100000 in
theorem utf_RightT (s : ByteArray) (hs : s.size ≤ 9223372036854775807) (w : World) (h : Lib.Utf8Tabs 4 5 w) :
    Calls Tryz.prog 128 #[.string s] w fun e w' => e = .returned (.bool (Lib.validD s.data.toList)) ∧ Below w.heap.size w w' := by
  have HV := Lib.hid (show Calls Tryz.prog 164 #[.string s] w fun e w' => e = .returned (.bool (Lib.validD s.data.toList)) ∧ Below w.heap.size w w' from Any.utf8_ValidString Tryz.lays196 s w hs h)
  clear h
  go_enter Tryz.func128, Tryz.ntmps128
  go_wp2_with fail
  refine HV.out.mono ?_
  rintro e w1 ⟨rfl, hb⟩
  go_wp2_with fail
  go_ret
  exact ⟨rfl, hb⟩
end Go.Proofs.YtfckekaegjjmkaaGreatDoor
namespace Go.Proofs.YtfckekaegjjmkaaGreatDoor
open Go.RowKit Go.Shelf

/-- A character, quoted. -/
def quoteRune (c : Nat) : List UInt8 := if signOk c then [92, UInt8.ofNat (signC c).toNat] else if c < 32 then [92, 117] ++ hex4 c else Lib.encodeRune c
def quoteGo : Nat → List UInt8 → List UInt8
  | 0, _ => []
  | f + 1, l => if l = [] then [] else quoteRune (Lib.decodeL l).1 ++ quoteGo f (l.drop (Lib.decodeL l).2)
def quoteL (l : List UInt8) : List UInt8 := [34] ++ quoteGo l.length l ++ [34]

theorem quoteGo_nil (f : Nat) : quoteGo f [] = [] := by
  cases f with
  | zero => rfl
  | succ f => rfl
theorem quoteGo_step (f : Nat) {l : List UInt8} (h : l ≠ []) : quoteGo (f + 1) l = quoteRune (Lib.decodeL l).1 ++ quoteGo f (l.drop (Lib.decodeL l).2) := by
  show (if l = [] then _ else _) = _
  rw [if_neg h]
theorem quoteRune_len (c : Nat) : (quoteRune c).length ≤ 6 := by
  unfold quoteRune
  split
  · simp
  · split
    · simp [hex4]
    · have := encodeRune_len c
      omega

theorem strCells_list (s : ByteArray) : Lib.strCells s = Lib.byteCells s.data.toList := rfl
theorem cat_list (a b : ByteArray) : (a ++ b).data.toList = a.data.toList ++ b.data.toList := by simp
theorem shut_quote {acc l Q q : List UInt8} (h : acc ++ (l ++ Q) ++ [34] = q) : acc ++ l ++ Q ++ [34] = q := by
  rw [← h, List.append_assoc acc l Q]


set_option maxHeartbeats 4000000 in
set_option maxRecDepth 100000 in
theorem utf_QuoteT_yes (s : ByteArray) (w : World) (h : Lib.Utf8Tabs 4 5 w) (hs : s.size ≤ 1000000000) (hv : Lib.validD s.data.toList = true) :
    Calls Tryz.prog 145 #[.string s] w fun e w' => e = .returned (.tuple #[.string ⟨(quoteL s.data.toList).toArray⟩, .int .i64 0]) ∧ Below w.heap.size w w' := by
  have HR := Lib.hid (utf_RightT s (by omega) w h)
  rw [hv] at HR
  clear h hv
  go_enter Tryz.func145, Tryz.ntmps145
  go_wp2_with fail
  go_step3
  go_wp2_with fail
  refine HR.out.mono ?_
  rintro e w1 ⟨rfl, hb1⟩
  have hz1 := hb1.size
  have hI1 : IsB w.heap.size w1.heap.size [] (w1.alloc (.cells #[.pointer none, .slice none 0 0] 81)) :=
    .inl ⟨hz1, .slice none 0 0, Blk.new _ _ _, World.ownsRowF_nil _ _ _ _, by simp [Value.ownBlock]⟩
  have HW := Lib.hid (b_WriteByte w.heap.size w1.heap.size [] 34 _ hI1 (by simp) (by simp; omega))
  have hbA := hb1.alloc hz1 (.cells #[.pointer none, .slice none 0 0] 81)
  clear HR hI1
  go_wp2_with fail
  refine HW.out.mono ?_
  rintro e w2 ⟨rfl, hA2, hb2, _⟩
  have hB2 := hbA.trans hb2
  have hz2 : w1.heap.size + 1 ≤ w2.heap.size := by
    have := hb2.size
    simpa using this
  have hI2 : IsB w.heap.size w1.heap.size (Lib.byteCells [34]) w2 := hA2.is
  clear hb1 hbA hb2 HW hA2
  generalize w1.heap.size = b at hz1 hz2 hI2 ⊢
  go_wp2_with fail
  go_step3
  go_wp2_with fail
  go_loopw [] (fun wr => ∃ (pos fuel : Nat) (acc : List UInt8), IsB w.heap.size b (Lib.byteCells acc) wr ∧ wr.heap[w2.heap.size]? = some (.stringIter s pos) ∧ Below w.heap.size w wr ∧ Hid (acc ++ quoteGo fuel (s.data.toList.drop pos) ++ [34] = quoteL s.data.toList) ∧ s.size ≤ pos + fuel ∧ pos ≤ s.size ∧ acc.length ≤ 6 * pos + 1) (fun wr => s.size - wr.iterPos w2.heap.size)
  case atStart =>
    refine ⟨0, s.size, [34], Lib.IsBuilderF.alloc hI2 _, ?_, hB2.alloc (by omega) _, Lib.hid ?_, by omega, by omega, by simp⟩
    · exact World.iter_heap w2 s 0
    · unfold quoteL
      rw [List.drop_zero, show s.data.toList.length = s.size by simp]
  case round =>
    obtain ⟨pos, fuel, acc, hI, hit, hbw, hacc, hfu, hps, hal⟩ := hrel
    have hsz : w2.heap.size < wr.heap.size := (Array.getElem?_eq_some_iff.1 hit).1
    by_cases hp : pos < s.size
    · have hnx : ∀ ty, (Instr.next (.pointer (some ⟨w2.heap.size, 0, none⟩)) true ty).run Tryz.prog wr = _ := fun ty => Lib.run_next_any_at wr w2.heap.size s pos ty hit hp
      have hdl := Lib.decodeL_drop s pos
      rw [← hdl] at hnx
      have hne : s.data.toList.drop pos ≠ [] := by
        intro e
        have := congrArg List.length e
        simp at this
        omega
      have hwd := Lib.decodeL_width (s.data.toList.drop pos)
      have hwl := Lib.decodeL_le _ hne
      have hch := charOk_le (decodeL_char (s.data.toList.drop pos))
      rw [List.length_drop, show s.data.toList.length = s.size by simp] at hwl
      obtain ⟨f, rfl⟩ : ∃ f, fuel = f + 1 := ⟨fuel - 1, by omega⟩
      have hac := hacc.out
      rw [quoteGo_step f hne, List.drop_drop] at hac
      have HND := Lib.hid hne
      clear hacc hdl hne
      obtain ⟨⟨c, k⟩, hck⟩ : ∃ ck, Lib.decodeL (s.data.toList.drop pos) = ck := ⟨_, rfl⟩
      rw [hck] at hnx hwd hwl hch hac
      simp only [] at hnx hwd hwl hch hac
      have HA := Lib.hid hac
      have HCK := Lib.hid hck
      clear hck hac
      have hI2 := hI.iterAt hit (pos + k)
      have hit2 := Lib.iterAt_heap wr w2.heap.size s pos (pos + k) hit
      have hbw2 := Lib.below_iterAt hbw (k := w2.heap.size) (by omega) s (pos + k)
      have hsz2 : b < (wr.iterAt w2.heap.size s (pos + k)).heap.size := by rw [Lib.iterAt_size]; omega
      generalize wr.iterAt w2.heap.size s (pos + k) = W at hnx hI2 hit2 hbw2 hsz2
      clear hI hbw hsz
      have HSG := Lib.hid (utf_sign (c : Int) W)
      go_wp2_with fail
      refine HSG.out.mono ?_
      rintro e W1 ⟨rfl, hs1⟩
      have hI3 : IsB w.heap.size b (Lib.byteCells acc) W1 := isB_grown hI2 (below_none hs1) (fun r e => by cases e)
      have hit3 := block_below hs1 hit2
      have hz3 := hs1.size
      have hbw3 := hbw2.trans (hs1.mono hbw2.size)
      have hsz3 : b < W1.heap.size := by omega
      clear hnx hI2 hit2 hbw2 HSG hs1 hsz2 hz3
      cases hso : signOk c with
      | true =>
        have hq : quoteRune c = [92, UInt8.ofNat (signC c).toNat] := by
          unfold quoteRune
          rw [if_pos hso]
        rw [hq] at HA
        have kcv := run_conv1 (P := Tryz.prog) Tryz.underlying72 Tryz.underlying5 Tryz.underlying9 W1 (signC c)
        clear hq hso
        generalize signC (c : Int) = sc at HA kcv ⊢
        have hI4 : IsB w.heap.size b (Lib.byteCells acc) (W1.alloc (.cells #[.int .u8 sc] 5)) := Lib.IsBuilderF.alloc hI3 _
        have hit4 : (W1.alloc (.cells #[.int .u8 sc] 5)).heap[w2.heap.size]? = some (.stringIter s (pos + k)) := block_below ((Below.refl _ W1).alloc (Nat.le_refl _) _) hit3
        have hbw4 := hbw3.alloc (by omega) (.cells #[.int .u8 sc] 5)
        obtain ⟨str, hstr⟩ : ∃ str : ByteArray, (⟨#[92]⟩ ++ ⟨#[UInt8.ofNat sc.toNat]⟩ : ByteArray) = str := ⟨_, rfl⟩
        have hsl : str.data.toList = [92, UInt8.ofNat sc.toNat] := by rw [← hstr]; rfl
        have hss : str.size = 2 := by
          have := congrArg List.length hsl
          simpa using this
        rw [← hsl] at HA
        have hl6 : str.data.toList.length ≤ 6 := by rw [hsl]; simp
        have HSTR := Lib.hid hstr
        have hlen : (Lib.byteCells acc).length + str.size ≤ 140737488355328 := by rw [Lib.byteCells_length]; omega
        have HR := Lib.hid (b_WriteString w.heap.size b _ str _ hI4 hlen (by simp; omega))
        clear hstr hsl hss hlen
        go_wp2_with fail
        rw [HSTR.out]
        refine HR.out.mono ?_
        rintro e W2 ⟨rfl, hA, hb, hk⟩
        rw [strCells_list, ← Lib.byteCells_append] at hA
        have hit5 := hk.iter hit4 (by omega)
        have hbw5 := hbw4.trans hb
        clear hb hk HR kcv
        go_wp2_with fail
        go_roundw
        case rel => exact ⟨pos + k, f, acc ++ str.data.toList, hA.is, hit5, hbw5, Lib.hid (shut_quote HA.out), by omega, by omega, by rw [List.length_append]; omega⟩
        case measure =>
          simp only [World.iterPos, hit5, hit]
          omega
      | false =>
        by_cases h32 : c < 32
        · have z32 : (c : Int) < 32 := by omega
          have hq : quoteRune c = [92, 117] ++ hex4 c := by
            unfold quoteRune
            rw [if_neg (by rw [hso]; decide), if_pos h32]
          rw [hq] at HA
          have HD := Lib.hid (utf_digits c (by omega) W1)
          clear hq hso
          go_wp2_with fail
          refine HD.out.mono ?_
          rintro e W2 ⟨rfl, hs2⟩
          have hI4 : IsB w.heap.size b (Lib.byteCells acc) W2 := isB_grown hI3 (below_none hs2) (fun r e => by cases e)
          have hit4 := block_below hs2 hit3
          have hz4 := hs2.size
          have hbw4 := hbw3.trans (hs2.mono hbw3.size)
          obtain ⟨str, hstr⟩ : ∃ str : ByteArray, (⟨#[92, 117]⟩ ++ ⟨(hex4 c).toArray⟩ : ByteArray) = str := ⟨_, rfl⟩
          have hsl : str.data.toList = [92, 117] ++ hex4 c := by rw [← hstr, cat_list]
          have hss : str.size = 6 := by
            have := congrArg List.length hsl
            simpa [hex4] using this
          rw [← hsl] at HA
          have hl6 : str.data.toList.length ≤ 6 := by rw [hsl]; simp [hex4]
          have HSTR := Lib.hid hstr
          have hlen : (Lib.byteCells acc).length + str.size ≤ 140737488355328 := by rw [Lib.byteCells_length]; omega
          have HR := Lib.hid (b_WriteString w.heap.size b _ str W2 hI4 hlen (by omega))
          clear hstr hsl hss hlen hs2 HD
          go_wp2_with fail
          rw [HSTR.out]
          refine HR.out.mono ?_
          rintro e W3 ⟨rfl, hA, hb, hk⟩
          rw [strCells_list, ← Lib.byteCells_append] at hA
          have hit5 := hk.iter hit4 (by omega)
          have hbw5 := hbw4.trans hb
          clear hb hk HR
          go_wp2_with fail
          go_roundw
          case rel => exact ⟨pos + k, f, acc ++ str.data.toList, hA.is, hit5, hbw5, Lib.hid (shut_quote HA.out), by omega, by omega, by rw [List.length_append]; omega⟩
          case measure =>
            simp only [World.iterPos, hit5, hit]
            omega
        · have z32 : (32 : Int) ≤ c := by omega
          have hq : quoteRune c = Lib.encodeRune c := by
            unfold quoteRune
            rw [if_neg (by rw [hso]; decide), if_neg h32]
          rw [hq] at HA
          clear hq hso
          have z0 : (-2147483648 : Int) ≤ c := by omega
          have z1 : (c : Int) ≤ 2147483647 := by omega
          have hlen : (Lib.byteCells acc).length + 4 ≤ 140737488355328 := by rw [Lib.byteCells_length]; omega
          have HR := Lib.hid (b_WriteRune w.heap.size b _ c z0 z1 W1 hI3 hlen (by omega))
          go_wp2_with fail
          refine HR.out.mono ?_
          rintro e W2 ⟨rfl, hA, hb, hk⟩
          rw [← Lib.byteCells_encodeRune, ← Lib.byteCells_append] at hA
          have hit5 := hk.iter hit3 (by omega)
          have hbw5 := hbw3.trans hb
          have hl4 := encodeRune_len c
          clear hb hk HR
          go_wp2_with fail
          go_roundw
          case rel => exact ⟨pos + k, f, acc ++ Lib.encodeRune c, hA.is, hit5, hbw5, Lib.hid (shut_quote HA.out), by omega, by omega, by rw [List.length_append]; omega⟩
          case measure =>
            simp only [World.iterPos, hit5, hit]
            omega
    · have hnx : ∀ ty, (Instr.next (.pointer (some ⟨w2.heap.size, 0, none⟩)) true ty).run Tryz.prog wr = _ := fun ty => Lib.run_next_end_at wr w2.heap.size s pos ty hit hp
      have hac := hacc.out
      rw [List.drop_eq_nil_of_le (by simp; omega), quoteGo_nil, List.append_nil] at hac
      have HA := Lib.hid hac
      have HWB := Lib.hid (b_WriteByte w.heap.size b _ 34 wr hI (by rw [Lib.byteCells_length]; omega) (by omega))
      clear hacc hac
      go_wp2_with fail
      refine HWB.out.mono ?_
      rintro e W2 ⟨rfl, hA, hb, _⟩
      have hA' : IsB w.heap.size b (Lib.byteCells (acc ++ [34])) W2 := by
        rw [Lib.byteCells_append]
        exact hA.is
      rw [HA.out] at hA'
      have hbw5 := hbw.trans hb
      have HST := Lib.hid (Tryz.Builder_String_any_k w.heap.size b _ W2 hA' hbw5.size)
      clear hb HWB hnx hA HA
      go_wp2_with fail
      refine HST.out.mono ?_
      rintro e W3 ⟨rfl, _, hb3, _⟩
      have hbw6 := hbw5.trans hb3
      go_wp2_with fail
      rw [Exit.noGoto_ret]
      go_ret2
      exact ⟨rfl, hbw6⟩
end Go.Proofs.YtfckekaegjjmkaaGreatDoor
namespace Go.Proofs.YtfckekaegjjmkaaGreatDoor
open Go.Lib





end Go.Proofs.YtfckekaegjjmkaaGreatDoor
