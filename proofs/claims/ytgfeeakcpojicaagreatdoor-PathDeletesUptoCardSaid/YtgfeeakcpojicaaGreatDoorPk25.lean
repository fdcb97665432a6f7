/- The texts PathB, PathC, put together. -/
import Derived.Test.YtgfeeakcpojicaaGreatDoorPk20
/- path: the world with strconv's variables; Itoa; Code. -/
namespace Go.Proofs.YtgfeeakcpojicaaGreatDoor
open Go.RowKit Go.Shelf

theorem var_below {w w' : World} {n : String} {cs : Array Value} (h : w.var? Tryz.prog n = some cs) (hb : Below w.heap.size w w') : w'.var? Tryz.prog n = some cs := by
  unfold World.var? at h ⊢
  cases hg : Tryz.prog.globalNamed n with
  | none => rw [hg] at h; cases h
  | some g =>
    rw [hg] at h
    simp only [Option.bind_some] at h ⊢
    cases hh : w.heap[g]? with
    | none => rw [hh] at h; cases h
    | some o => rw [block_below hb hh]; rw [hh] at h; exact h

/-- The world that path asks for. -/
structure PW (w : World) (aT aQ : Addr) : Prop where
  uw : UW w aT aQ
  tab : Lib.TabIs Tryz.prog w "internal/strconv.uint64pow10" .u64 Lib.pow10Tab
  rng : ∃ tp p, w.var? Tryz.prog "strconv.ErrRange" = some #[.iface tp p]
theorem PW.below {w w' : World} {aT aQ : Addr} (h : PW w aT aQ) (hb : Below w.heap.size w w') : PW w' aT aQ where
  uw := h.uw.below hb
  tab := var_below h.tab hb
  rng := let ⟨tp, p, e⟩ := h.rng; ⟨tp, p, var_below e hb⟩

theorem below_more (w : World) (os : Array Obj) : Below w.heap.size w { w with heap := w.heap ++ os } :=
  ⟨rfl, rfl, rfl, by simp, fun k hk => by
    show (w.heap ++ os)[k]? = w.heap[k]?
    rw [Array.getElem?_append_left hk]⟩
theorem itoa_call {aT aQ : Addr} (n : Int) (h0 : -9223372036854775808 ≤ n) (h1 : n < 9223372036854775808) (w : World) (h : PW w aT aQ) :
    Calls Tryz.prog 24 #[.int .i64 n] w fun e w' => e = .returned (.string ⟨(Lib.itoa n).toArray⟩) ∧ Below w.heap.size w w' := by
  refine (Tryz.strconv_Itoa n h0 (by omega) w h.tab).mono ?_
  rintro e w' ⟨he, k, os, rfl⟩
  exact ⟨he, (below_drewN (Below.refl _ _) k).trans (below_more (w.drewN k) os)⟩

theorem nDigits_le : ∀ (k u : Nat), u < 10 ^ (k + 1) → Lib.nDigits u ≤ k + 1
  | 0, u, h => by
    rw [Lib.nDigits_small (by simpa using h)]
    omega
  | k + 1, u, h => by
    by_cases h10 : u < 10
    · rw [Lib.nDigits_small h10]
      omega
    · rw [Lib.nDigits_big h10]
      have := nDigits_le k (u / 10) (by rw [Nat.pow_succ] at h; omega)
      omega
theorem itoa_len (n : Int) (h0 : -9223372036854775808 ≤ n) (h1 : n < 9223372036854775808) : (Lib.itoa n).length ≤ 20 := by
  unfold Lib.itoa
  split
  · rw [List.length_cons, Lib.decDigits_length]
    have := nDigits_le 18 n.natAbs (by omega)
    omega
  · rw [Lib.decDigits_length]
    have := nDigits_le 18 n.toNat (by omega)
    omega

def stepCode (s : Stp) : List UInt8 := 47 :: (if s.1 < 0 then quoteL s.2.data.toList else Lib.itoa s.1)
def codeS : List Stp → List UInt8
  | [] => []
  | s :: p => stepCode s ++ codeS p
theorem codeS_append : ∀ p q : List Stp, codeS (p ++ q) = codeS p ++ codeS q
  | [], _ => rfl
  | s :: p, q => by
    show stepCode s ++ codeS (p ++ q) = stepCode s ++ codeS p ++ codeS q
    rw [codeS_append p q, List.append_assoc]

set_option maxRecDepth 100000 in
theorem path_Code_no {aT aQ : Addr} (A : Option Addr) (n c : Nat) (p : List Stp) (B : Nat) (w : World) (h : UW w aT aQ) (hn : n ≤ 9223372036854775807) (hp : StepsAt w B A n p) (hB : B ≤ w.heap.size) (hr : rightS p = false) :
    Calls Tryz.prog 7 #[.slice A n c] w fun e w' => e = .returned (.tuple #[.string ⟨#[]⟩, .int .i64 70]) ∧ Below w.heap.size w w' := by
  have HR := path_Right A n c p B w h hn hp hB
  rw [hr] at HR
  have HR := Lib.hid HR
  clear h hp hr
  go_enter Tryz.func7, Tryz.ntmps7
  go_wp2_with fail
  refine HR.out.mono ?_
  rintro e w1 ⟨rfl, hb⟩
  go_wp2_with fail
  go_ret2
  exact ⟨rfl, hb⟩


set_option maxHeartbeats 4000000 in
set_option maxRecDepth 100000 in
theorem path_Code_yes {aT aQ : Addr} (A : Option Addr) (n c : Nat) (p : List Stp) (B : Nat) (w : World) (h : PW w aT aQ) (hp : StepsAt w B A n p) (hB : B ≤ w.heap.size) (hr : rightS p = true)
    (hi : ∀ s ∈ p, s.1 < 9223372036854775808) :
    Calls Tryz.prog 7 #[.slice A n c] w fun e w' => e = .returned (.tuple #[.string ⟨(codeS p).toArray⟩, .int .i64 0]) ∧ Below w.heap.size w w' := by
  have hlen := hp.len
  have hn16 : n ≤ 16 := by
    unfold rightS at hr
    rw [Bool.and_eq_true, decide_eq_true_iff] at hr
    omega
  have hall : ∀ s ∈ p, stepRight s = true := by
    unfold rightS at hr
    rw [Bool.and_eq_true] at hr
    exact List.all_eq_true.1 hr.2
  have HR := path_Right A n c p B w h.uw (by omega) hp hB
  rw [hr] at HR
  have HR := Lib.hid HR
  have HU := Lib.hid (fun (w' : World) (hw : Below w.heap.size w w') => h.below hw)
  have HP := Lib.hid hp
  have HA := Lib.hid hall
  have HI := Lib.hid hi
  clear h hp hr hall hi
  go_enter Tryz.func7, Tryz.ntmps7
  go_wp2_with fail
  refine HR.out.mono ?_
  rintro e w1 ⟨rfl, hb1⟩
  have hz1 := hb1.size
  have hI1 : IsB w.heap.size w1.heap.size [] (w1.alloc (.cells #[.pointer none, .slice none 0 0] 59)) :=
    .inl ⟨hz1, .slice none 0 0, Blk.new _ _ _, World.ownsRowF_nil _ _ _ _, by simp [Value.ownBlock]⟩
  have hbA := hb1.alloc hz1 (.cells #[.pointer none, .slice none 0 0] 59)
  clear HR
  go_wp2_with fail
  go_loopw [13] (fun i wr => ∃ k : Nat, k ≤ n ∧ i = .int .i64 k ∧ IsB w.heap.size w1.heap.size (Lib.byteCells (codeS (p.take k))) wr ∧ Below w.heap.size w wr ∧ (codeS (p.take k)).length ≤ 2500 * k) (fun i _ => n - (intOf i).toNat)
  case atStart => exact ⟨0, by omega, rfl, hI1, hbA, by simp [codeS]⟩
  case round =>
    obtain ⟨k, hk, rfl, hI, hbw, hcl⟩ := hrel
    have hzw := hbw.size
    by_cases hlt : k < n
    · have hkp : k < p.length := by omega
      obtain ⟨ad, rfl, hab, hc0, hc1, hks⟩ := (HP.out.below hbw hB).at_ hkp
      have hsr := HA.out _ (List.getElem_mem hkp)
      have hsi := HI.out _ (List.getElem_mem hkp)
      have hcode : codeS (p.take (k + 1)) = codeS (p.take k) ++ stepCode p[k] := by
        rw [List.take_succ_eq_append_getElem hkp, codeS_append]
        simp [codeS]
      obtain ⟨⟨i, key⟩, hs⟩ : ∃ s, p[k] = s := ⟨_, rfl⟩
      rw [hs] at hc0 hc1 hks hsr hsi hcode
      simp only [] at hc0 hc1 hsi
      have hltz : (k : Int) < n := by omega
      have HC := Lib.hid hcode
      have hbS := hbw.alloc hzw (.cells #[.int .i64 i, .string key] 53)
      have hIS : IsB w.heap.size w1.heap.size (Lib.byteCells (codeS (p.take k))) (wr.alloc (.cells #[.int .i64 i, .string key] 53)) := Lib.IsBuilderF.alloc hI _
      have hBS : Blk (wr.alloc (.cells #[.int .i64 i, .string key] 53)) wr.heap.size #[.int .i64 i, .string key] 53 := Blk.new _ _ _
      have hzS : (wr.alloc (.cells #[.int .i64 i, .string key] 53)).heap.size = wr.heap.size + 1 := by simp
      have hi0 : -9223372036854775808 ≤ i := by
        have := hsr
        unfold stepRight at this
        simp at this
        omega
      have hit := itoa_call i hi0 hsi _ (HU.out _ hbS)
      obtain ⟨num, hnum⟩ : ∃ num : ByteArray, (⟨(Lib.itoa i).toArray⟩ : ByteArray) = num := ⟨_, rfl⟩
      rw [hnum] at hit
      have hnl : num.data.toList = Lib.itoa i := by rw [← hnum]
      have hnz : num.size ≤ 20 := by
        have h1 := itoa_len i hi0 hsi
        have h2 : num.data.toList.length = num.size := by simp
        rw [hnl] at h2
        omega
      have HIT := Lib.hid hit
      have HNL := Lib.hid hnl
      clear hs hlen hcode hit hnum hnl
      go_wp2_with fail
      clear hI hbw hc0 hc1
      generalize wr.alloc (.cells #[.int .i64 i, .string key] 53) = wa at hbS hIS hBS hzS HIT ⊢
      generalize wr.heap.size = bs at hBS hzS hzw ⊢
      refine HIT.out.mono ?_
      rintro e wb ⟨rfl, hbb⟩
      have hB2 := hBS.below hbb hBS.lt
      have hc0 := hB2.cell 0
      have hc1 := hB2.cell 1
      have hb2 := hbS.trans (hbb.mono hbS.size)
      have hI2 : IsB w.heap.size w1.heap.size (Lib.byteCells (codeS (p.take k))) wb := isB_grown hIS (below_none hbb) (fun r e => by cases e)
      have hz2 := hbb.size
      have hz3 := hb2.size
      clear hBS hIS hbS hbb HIT
      by_cases hneg : i < 0
      · have hkey : Lib.validD key.data.toList = true ∧ key.size ≤ 400 := by
          unfold stepRight at hsr
          have h0 : decide (0 ≤ i) = false := by rw [decide_eq_false_iff_not]; omega
          rw [h0, Bool.and_false, Bool.false_or, Bool.and_eq_true, Bool.and_eq_true, decide_eq_true_iff, decide_eq_true_iff] at hsr
          exact ⟨hsr.2, hsr.1.2⟩
        have hq := utf_Quote_yes key wb (HU.out _ hb2).uw (by omega) hkey.1
        obtain ⟨qs, hqs⟩ : ∃ qs : ByteArray, (⟨(quoteL key.data.toList).toArray⟩ : ByteArray) = qs := ⟨_, rfl⟩
        rw [hqs] at hq
        have hql : qs.data.toList = quoteL key.data.toList := by rw [← hqs]
        have hqz : qs.size ≤ 2402 := by
          have h1 := quoteL_len key.data.toList
          have h2 : qs.data.toList.length = qs.size := by simp
          have h3 : key.data.toList.length = key.size := by simp
          rw [hql] at h2
          omega
        have hit : stepCode (i, key) = 47 :: quoteL key.data.toList := by
          unfold stepCode
          rw [if_pos hneg]
        rw [hit] at HC
        obtain ⟨str, hstr⟩ : ∃ str : ByteArray, (⟨#[47]⟩ ++ qs : ByteArray) = str := ⟨_, rfl⟩
        have hsl : str.data.toList = 47 :: quoteL key.data.toList := by
          rw [← hstr, cat_list, hql]
          rfl
        have hss : str.size ≤ 2403 := by
          rw [← hstr, show (⟨#[47]⟩ ++ qs : ByteArray).size = 1 + qs.size from by rw [ByteArray.size_append]; rfl]
          omega
        rw [← hsl] at HC
        have HQ := Lib.hid hq
        have HSTR := Lib.hid hstr
        clear hit hstr hsl hq hqs hql hkey hsr HNL
        go_wp2_with fail
        refine HQ.out.mono ?_
        rintro e wc ⟨rfl, hbc⟩
        have hI3 : IsB w.heap.size w1.heap.size (Lib.byteCells (codeS (p.take k))) wc := isB_grown hI2 (below_none hbc) (fun r e => by cases e)
        have hb3 := hb2.trans (hbc.mono hz3)
        have HW := Lib.hid (b_WriteString w.heap.size w1.heap.size _ str wc hI3 (by rw [Lib.byteCells_length]; omega) hb3.size)
        clear hbc hI2 hc0 hc1 hB2 HQ
        go_wp2_with fail
        rw [HSTR.out]
        refine HW.out.mono ?_
        rintro e wd ⟨rfl, hA4, hb4, _⟩
        rw [strCells_list, ← Lib.byteCells_append, ← HC.out] at hA4
        have hb5 := hb3.trans hb4
        have hcl' : (codeS (p.take (k + 1))).length ≤ 2500 * (k + 1) := by
          rw [HC.out, List.length_append, show str.data.toList.length = str.size by simp]
          omega
        clear hb4 HW hcl
        go_wp2_with fail
        go_roundw
        case rel => exact ⟨k + 1, by omega, by go_num, hA4.is, hb5, hcl'⟩
        case measure => simp [intOf]; omega
      · have hit : stepCode (i, key) = 47 :: Lib.itoa i := by
          unfold stepCode
          rw [if_neg hneg]
        rw [hit] at HC
        obtain ⟨str, hstr⟩ : ∃ str : ByteArray, (⟨#[47]⟩ ++ num : ByteArray) = str := ⟨_, rfl⟩
        have hsl : str.data.toList = 47 :: Lib.itoa i := by
          rw [← hstr, cat_list, HNL.out]
          rfl
        have hss : str.size ≤ 30 := by
          rw [← hstr, show (⟨#[47]⟩ ++ num : ByteArray).size = 1 + num.size from by rw [ByteArray.size_append]; rfl]
          omega
        rw [← hsl] at HC
        have hnn : 0 ≤ i := by omega
        have HSTR := Lib.hid hstr
        have HW := Lib.hid (b_WriteString w.heap.size w1.heap.size _ str wb hI2 (by rw [Lib.byteCells_length]; omega) hz3)
        clear hit hstr hsl hsr HNL
        go_wp2_with fail
        rw [HSTR.out]
        refine HW.out.mono ?_
        rintro e wd ⟨rfl, hA4, hb4, _⟩
        rw [strCells_list, ← Lib.byteCells_append, ← HC.out] at hA4
        have hb5 := hb2.trans hb4
        have hcl' : (codeS (p.take (k + 1))).length ≤ 2500 * (k + 1) := by
          rw [HC.out, List.length_append, show str.data.toList.length = str.size by simp]
          omega
        clear hb4 HW hcl hI2 hc0 hc1 hB2
        go_wp2_with fail
        go_roundw
        case rel => exact ⟨k + 1, by omega, by go_num, hA4.is, hb5, hcl'⟩
        case measure => simp [intOf]; omega
    · obtain rfl : k = n := by omega
      have hfull : p.take k = p := by rw [← hlen, List.take_length]
      rw [hfull] at hI
      have hz : ¬ (k : Int) < k := by omega
      have HST := Lib.hid (Tryz.Builder_String_any_k w.heap.size w1.heap.size _ wr hI hzw)
      clear hfull hlen hI hcl
      go_wp2_with fail
      refine HST.out.mono ?_
      rintro e wd ⟨rfl, _, hb4, _⟩
      have hb5 := hbw.trans hb4
      clear HST hb4
      go_wp2_with fail
      go_ret2
      exact ⟨rfl, hb5⟩
end Go.Proofs.YtgfeeakcpojicaaGreatDoor
/- path: digits. -/
namespace Go.Proofs.YtgfeeakcpojicaaGreatDoor
open Go.RowKit Go.Shelf

def isDig (b : UInt8) : Bool := decide (48 ≤ b.toNat) && decide (b.toNat ≤ 57)
def digN (l : List UInt8) : Nat := (l.takeWhile isDig).length
theorem digN_cons_yes {b : UInt8} {l : List UInt8} (h : isDig b = true) : digN (b :: l) = digN l + 1 := by
  unfold digN
  rw [List.takeWhile_cons_of_pos h]
  rfl
theorem digN_cons_no {b : UInt8} {l : List UInt8} (h : isDig b = false) : digN (b :: l) = 0 := by
  unfold digN
  rw [List.takeWhile_cons_of_neg (by rw [h]; decide)]
  rfl
theorem decodeL_high {b : UInt8} (t : List UInt8) (h : 128 ≤ b.toNat) : 128 ≤ (Lib.decodeL (b :: t)).1 := by
  rw [Lib.decodeL_N]
  have hb : ((b :: t).getD 0 0).toNat = b.toNat := rfl
  rw [hb]
  generalize (b :: t).length = n
  generalize (UInt8.toNat ((b :: t).getD 1 0)) = b1
  generalize (UInt8.toNat ((b :: t).getD 2 0)) = b2
  generalize (UInt8.toNat ((b :: t).getD 3 0)) = b3
  unfold Lib.decodeN
  rw [if_neg (by omega)]
  repeat' split
  all_goals (simp only; omega)
theorem rune_digit (b : UInt8) (t : List UInt8) (h : isDig b = true) : Lib.decodeL (b :: t) = (b.toNat, 1) ∧ 48 ≤ b.toNat ∧ b.toNat ≤ 57 := by
  unfold isDig at h
  rw [Bool.and_eq_true, decide_eq_true_iff, decide_eq_true_iff] at h
  exact ⟨Lib.decodeL_ascii b t (by omega), h⟩
theorem rune_other (b : UInt8) (t : List UInt8) (h : isDig b = false) : (Lib.decodeL (b :: t)).1 < 48 ∨ 57 < (Lib.decodeL (b :: t)).1 := by
  unfold isDig at h
  rw [Bool.and_eq_false_iff, decide_eq_false_iff_not, decide_eq_false_iff_not] at h
  by_cases hb : b.toNat < 128
  · rw [Lib.decodeL_ascii b t hb]
    simp only
    omega
  · have := decodeL_high t (by omega : 128 ≤ b.toNat)
    omega

set_option maxHeartbeats 2000000 in
set_option maxRecDepth 100000 in
theorem path_digits (s : ByteArray) (hs : s.size ≤ 1000000000) (w : World) :
    Calls Tryz.prog 56 #[.string s] w fun e w' => e = .returned (.int .i64 (digN s.data.toList : Nat)) ∧ Below w.heap.size w w' := by
  go_enter Tryz.func56, Tryz.ntmps56
  go_wp2_with fail
  go_loopw [3] (fun v wr => ∃ k : Nat, k ≤ s.size ∧ v = .int .i64 k ∧ wr.heap[w.heap.size]? = some (.stringIter s k) ∧ Below w.heap.size w wr ∧ Hid (digN s.data.toList = k + digN (s.data.toList.drop k))) (fun _ wr => s.size - wr.iterPos w.heap.size)
  case atStart => exact ⟨0, by omega, rfl, World.iter_heap w s 0, (Below.refl _ w).alloc (Nat.le_refl _) _, Lib.hid (by rw [List.drop_zero, Nat.zero_add])⟩
  case round =>
    obtain ⟨k, hk, rfl, hit, hbw, hd⟩ := hrel
    have hsz : w.heap.size < wr.heap.size := (Array.getElem?_eq_some_iff.1 hit).1
    have hlen : s.data.toList.length = s.size := by simp
    by_cases hp : k < s.size
    · have hnx : ∀ ty, (Instr.next (.pointer (some ⟨w.heap.size, 0, none⟩)) true ty).run Tryz.prog wr = _ := fun ty => Lib.run_next_any_at wr w.heap.size s k ty hit hp
      have hdl := Lib.decodeL_drop s k
      rw [← hdl] at hnx
      have hdr := List.drop_eq_getElem_cons (l := s.data.toList) (i := k) (by rw [hlen]; exact hp)
      obtain ⟨b, hb⟩ : ∃ b, s.data.toList[k]'(by rw [hlen]; exact hp) = b := ⟨_, rfl⟩
      rw [hb] at hdr
      rw [hdr] at hnx hd
      have hit2 := Lib.iterAt_heap wr w.heap.size s k (k + (Lib.decodeL (b :: s.data.toList.drop (k + 1))).2) hit
      have hbw2 := Lib.below_iterAt hbw (k := w.heap.size) (Nat.le_refl _) s (k + (Lib.decodeL (b :: s.data.toList.drop (k + 1))).2)
      cases hg : isDig b with
      | true =>
        obtain ⟨h1, h2, h3⟩ := rune_digit b (s.data.toList.drop (k + 1)) hg
        have hd2 := hd.out
        rw [digN_cons_yes hg] at hd2
        have hd3 : digN s.data.toList = (k + 1) + digN (s.data.toList.drop (k + 1)) := by omega
        have HD := Lib.hid hd3
        rw [h1] at hnx hit2 hbw2
        simp only [] at hnx hit2 hbw2
        obtain ⟨c, hc⟩ : ∃ c, b.toNat = c := ⟨_, rfl⟩
        rw [hc] at hnx h2 h3
        have z1 : (48 : Int) ≤ c := by omega
        have z2 : (c : Int) ≤ 57 := by omega
        have z3 : (k : Int) < s.size := by omega
        clear hdl hdr hb hg h1 hd hd2 hd3 hc h2 h3 hlen
        generalize wr.iterAt w.heap.size s (k + 1) = W at hnx hit2 hbw2
        go_wp2_with fail
        go_roundw
        case rel => exact ⟨k + 1, by omega, by go_num, hit2, hbw2, HD⟩
        case measure =>
          simp only [World.iterPos, hit2, hit]
          omega
      | false =>
        have hr := rune_other b (s.data.toList.drop (k + 1)) hg
        have hd2 := hd.out
        rw [digN_cons_no hg, Nat.add_zero] at hd2
        have HD := Lib.hid hd2
        obtain ⟨⟨c, wd⟩, hck⟩ : ∃ ck, Lib.decodeL (b :: s.data.toList.drop (k + 1)) = ck := ⟨_, rfl⟩
        rw [hck] at hnx hit2 hbw2 hr
        simp only [] at hnx hit2 hbw2 hr
        clear hdl hdr hb hg hd hd2 hck hlen hit
        generalize wr.iterAt w.heap.size s (k + wd) = W at hnx hit2 hbw2
        rcases hr with hr | hr
        · have z1 : (c : Int) < 48 := by omega
          clear hr
          go_wp2_with fail
          go_ret
          exact ⟨by rw [HD.out]; rfl, hbw2⟩
        · have z1 : (48 : Int) ≤ c := by omega
          have z2 : (57 : Int) < c := by omega
          clear hr
          go_wp2_with fail
          go_ret
          exact ⟨by rw [HD.out]; rfl, hbw2⟩
    · have hnx : ∀ ty, (Instr.next (.pointer (some ⟨w.heap.size, 0, none⟩)) true ty).run Tryz.prog wr = _ := fun ty => Lib.run_next_end_at wr w.heap.size s k ty hit hp
      have hd2 := hd.out
      rw [List.drop_eq_nil_of_le (by rw [hlen]; omega)] at hd2
      have HD := Lib.hid (show digN s.data.toList = k from hd2)
      clear hd hd2 hlen
      go_wp2_with fail
      go_ret
      exact ⟨by rw [HD.out]; rfl, hbw⟩
end Go.Proofs.YtgfeeakcpojicaaGreatDoor
