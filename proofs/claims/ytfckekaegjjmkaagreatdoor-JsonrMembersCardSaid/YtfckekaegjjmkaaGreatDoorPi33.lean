/- The texts GateG, GateH, put together. -/
import Derived.Test.YtfckekaegjjmkaaGreatDoorPi15
import Derived.Test.YtfckekaegjjmkaaGreatDoorPi07
import Derived.Lib.ParseIntBCases
import Derived.Lib.AtoiErrMem
namespace Go.Proofs.YtfckekaegjjmkaaGreatDoor
open Go.RowKit Go.Shelf

/-- The gate's two sentinels lie where they were laid, Go's two tables, and strconv's ErrRange. -/
structure GW (w : World) (aT aF : Addr) : Prop where
  hT : w.cell? ⟨0, 0, none⟩ = some (.iface 289 (.pointer (some aT)))
  hF : w.cell? ⟨1, 0, none⟩ = some (.iface 289 (.pointer (some aF)))
  ne : aT ≠ aF
  bT : ∃ c t, w.heap[aT.block]? = some (.cells c t (0, 0))
  bF : ∃ c t, w.heap[aF.block]? = some (.cells c t (0, 0))
  tabs : Lib.Utf8Tabs 4 5 w
  rng : ∃ tp p, w.var? Tryz.prog "strconv.ErrRange" = some #[.iface tp p]
theorem GW.below {w w' : World} {aT aF : Addr} (h : GW w aT aF) (hb : Below w.heap.size w w') : GW w' aT aF where
  hT := cell_below hb h.hT
  hF := cell_below hb h.hF
  ne := h.ne
  bT := let ⟨c, t, e⟩ := h.bT; ⟨c, t, block_below hb e⟩
  bF := let ⟨c, t, e⟩ := h.bF; ⟨c, t, block_below hb e⟩
  tabs := Utf8Tabs_below h.tabs hb
  rng := let ⟨tp, p, e⟩ := h.rng; ⟨tp, p, var_below e hb⟩

/-- The number of a natural, if it has 64 bits. -/
def natTo (s : ByteArray) : Option Nat := if natOk s = true ∧ dval 0 s.data.toList < 18446744073709551616 then some (dval 0 s.data.toList) else none
def natToV : Option Nat → Value
  | some n => .tuple #[.int .u64 (n : Nat), .bool true]
  | none => .tuple #[.int .u64 0, .bool false]
theorem natOk_parts {s : ByteArray} (h : natOk s = true) : 1 ≤ s.size ∧ s.size ≤ 400 ∧ (∀ c ∈ s.data.toList, isDig c = true) := by
  unfold natOk at h
  rw [Bool.and_eq_true, Bool.and_eq_true, Bool.and_eq_true, decide_eq_true_iff, decide_eq_true_iff] at h
  exact ⟨h.1, h.2.1, fun c hc => List.all_eq_true.1 h.2.2.2 c hc⟩

set_option maxHeartbeats 2000000 in
set_option maxRecDepth 100000 in
theorem nat_To {aT aF : Addr} (s : ByteArray) (hs : s.size ≤ 1000000000000) (w : World) (h : GW w aT aF) :
    Calls Tryz.prog 140 #[.string s] w fun e w' => e = .returned (natToV (natTo s)) ∧ Below w.heap.size w w' := by
  obtain ⟨ans, hans⟩ : ∃ ans, natTo s = ans := ⟨_, rfl⟩
  rw [hans]
  unfold natTo at hans
  have HN := Lib.hid (nat_Right s (by omega) w)
  cases hn : natOk s with
  | false =>
    rw [hn] at HN hans
    rw [if_neg (fun q => absurd q.1 (by decide))] at hans
    subst hans
    clear hn h
    go_enter Tryz.func140, Tryz.ntmps140
    go_wp2_with fail
    refine HN.out.mono ?_
    rintro e w1 ⟨rfl, hb⟩
    go_wp2_with fail
    go_ret2
    exact ⟨rfl, hb⟩
  | true =>
    obtain ⟨h1, h4, hd⟩ := natOk_parts hn
    have hne : s.data.toList ≠ [] := fun e => by
      have : s.data.toList.length = s.size := by simp
      rw [e] at this
      simp at this
      omega
    have hp : Lib.parseUintB 64 s.data.toList = if dval 0 s.data.toList < 18446744073709551616 then .ok (dval 0 s.data.toList) else .range := by
      rw [Lib.parseUintB_64]
      unfold Lib.parseMag
      rw [if_neg hne, parse_digits _ 0 (by decide) hd]
    rw [hn] at HN hans
    by_cases hlt : dval 0 s.data.toList < 18446744073709551616
    · rw [if_pos ⟨rfl, hlt⟩] at hans
      rw [if_pos hlt] at hp
      subst hans
      have HP := Lib.hid (fun w => Tryz.strconv_ParseUint_10_at64_ok s (by omega) _ hp w)
      obtain ⟨v, hv⟩ : ∃ v, dval 0 s.data.toList = v := ⟨_, rfl⟩
      rw [hv] at HP ⊢
      clear hn h hp hlt hv hd hne
      go_enter Tryz.func140, Tryz.ntmps140
      go_wp2_with fail
      refine HN.out.mono ?_
      rintro e w1 ⟨rfl, hb⟩
      go_wp2_with fail
      refine (HP.out _).mono ?_
      rintro e w2 ⟨rfl, hw2⟩
      have hb2 : Below w.heap.size w w2 := by
        rcases hw2 with rfl | rfl
        · exact hb
        · exact hb.trans ((Lib.bytesWorld_below _ _ _).mono hb.size)
      clear hw2
      go_wp2_with fail
      go_ret2
      exact ⟨rfl, hb2⟩
    · rw [if_neg (fun q => hlt q.2)] at hans
      rw [if_neg hlt] at hp
      subst hans
      obtain ⟨tp, p, hr⟩ := h.rng
      have HP := Lib.hid (fun w (hw : w.var? Tryz.prog "strconv.ErrRange" = some #[.iface tp p]) => Tryz.strconv_ParseUint_10_at64_range_var s (by omega) hp tp p w hw)
      have HR := Lib.hid hr
      clear hn h hp hlt hd hne hr
      go_enter Tryz.func140, Tryz.ntmps140
      go_wp2_with fail
      refine HN.out.mono ?_
      rintro e w1 ⟨rfl, hb⟩
      have HR1 := Lib.hid (var_below HR.out hb)
      go_wp2_with fail
      refine (HP.out _ HR1.out).mono ?_
      rintro e w2 ⟨N, rfl, _, _, hb2⟩
      have hb3 := hb.trans (hb2.mono hb.size)
      go_wp2_with fail
      go_ret2
      exact ⟨rfl, hb3⟩
end Go.Proofs.YtfckekaegjjmkaaGreatDoor
namespace Go.Proofs.YtfckekaegjjmkaaGreatDoor
open Go.RowKit Go.Shelf

def toIntV : Option (Bool × Nat) → Value
  | some (n, k) => .tuple #[.bool n, .int .u64 (k : Nat), .bool true]
  | none => .tuple #[.bool false, .int .u64 0, .bool false]
theorem repeat_zeros : ∀ c : Nat, Lib.repeatL [48] c = List.replicate c 48
  | 0 => rfl
  | c + 1 => by
    show 48 :: Lib.repeatL [48] c = _
    rw [repeat_zeros c]
    rfl
theorem dval_zeros (l : List UInt8) : ∀ c : Nat, dval 0 (l ++ List.replicate c 48) = dval 0 l * 10 ^ c
  | 0 => by simp
  | c + 1 => by
    rw [List.replicate_succ', ← List.append_assoc, dval_append, dval_zeros l c]
    have : (48 : UInt8).toNat = 48 := rfl
    rw [this, Nat.pow_succ, ← Nat.mul_assoc]
    omega
/-- A whole decimal's digits, with its zeros, are a natural; its number. -/
theorem whole_nat {neg : Bool} {dg s : ByteArray} {ex : Int} (h : decOk neg dg ex = true) (h0 : 0 ≤ ex) (h1 : ex ≤ 20) (hs : s.data.toList = dg.data.toList ++ List.replicate ex.toNat 48) :
    natOk s = true ∧ dval 0 s.data.toList = wholeN dg ex := by
  have hv : dval 0 s.data.toList = wholeN dg ex := by
    rw [hs, dval_zeros]
    rfl
  refine ⟨?_, hv⟩
  have hp := dec_parts h
  unfold decOk at h
  rw [Bool.and_eq_true, Bool.and_eq_true, decide_eq_true_iff] at h
  obtain ⟨hn, h100, _⟩ := h
  obtain ⟨n1, n2, n3⟩ := natOk_parts hn
  have hsz : s.size = dg.size + ex.toNat := by
    have e1 : s.data.toList.length = s.size := by simp
    have e2 : dg.data.toList.length = dg.size := by simp
    rw [hs, List.length_append, e2, List.length_replicate] at e1
    exact e1.symm
  rcases hp with ⟨a1, a2, _⟩ | ⟨a1, a2, a3, _⟩
  · have : s.data.toList = dg.data.toList := by
      rw [hs, a2]
      simp
    rw [str_ext this]
    exact hn
  · unfold natOk
    rw [decide_eq_true (by omega : 1 ≤ s.size), decide_eq_true (by omega : s.size ≤ 400), Bool.true_and, Bool.true_and, Bool.and_eq_true]
    constructor
    · have : s.data.toList.head? = dg.data.toList.head? := by
        rw [hs]
        exact head_append a1
      rw [this, decide_eq_false a3, Bool.and_false]
      rfl
    · rw [List.all_eq_true]
      intro c hc
      rw [hs] at hc
      rcases List.mem_append.1 hc with q | q
      · exact a2 c q
      · rw [(List.mem_replicate.1 q).2]
        decide
theorem append_list (a b : ByteArray) : (a ++ b).data.toList = a.data.toList ++ b.data.toList := by
  rw [ByteArray.data_append, Array.toList_append]

set_option maxHeartbeats 4000000 in
set_option maxRecDepth 100000 in
theorem dec_ToInt {aT aF : Addr} (neg : Bool) (dg : ByteArray) (ex : Int) (hs : dg.size ≤ 9223372036854775807) (w : World) (h : GW w aT aF) :
    Calls Tryz.prog 97 #[.agg #[.bool neg, .string dg, .int .i64 ex]] w fun e w' => e = .returned (toIntV (toIntD neg dg ex)) ∧ Below w.heap.size w w' := by
  obtain ⟨ans, hans⟩ : ∃ ans, toIntD neg dg ex = ans := ⟨_, rfl⟩
  rw [hans]
  unfold toIntD at hans
  have HR := Lib.hid (dec_Right neg dg ex hs)
  have hbx : Below w.heap.size w (w.alloc (.cells #[.bool neg, .string dg, .int .i64 ex] 23)) := (Below.refl _ _).alloc (Nat.le_refl _) _
  have hkx := Blk.new w #[.bool neg, .string dg, .int .i64 ex] 23
  have c0 := hkx.cell 0
  have c1 := hkx.cell 1
  have c2 := hkx.cell 2
  cases hd : decOk neg dg ex with
  | false =>
    rw [hd] at HR hans
    rw [if_neg (fun q => absurd q.1 (by decide))] at hans
    subst hans
    clear hd h
    go_enter Tryz.func97, Tryz.ntmps97
    go_wp2_with fail
    refine (HR.out _).mono ?_
    rintro e w1 ⟨rfl, hb⟩
    have hb2 := hbx.trans (hb.mono hbx.size)
    clear hb hbx
    go_wp2_with fail
    refine bodyPost_ret (v := .tuple #[.bool false, .int .u64 0, .bool false]) (by simp [results, Tryz.results97, go_sem]) rfl ⟨rfl, hb2⟩
  | true =>
    by_cases hx : 0 ≤ ex ∧ ex ≤ 20
    · obtain ⟨x0, x1⟩ := hx
      have hd' := hd
      rw [hd] at HR hans
      have h100 : dg.size ≤ 100 := by
        unfold decOk at hd'
        rw [Bool.and_eq_true, Bool.and_eq_true, decide_eq_true_iff] at hd'
        exact hd'.2.1
      obtain ⟨r, hr⟩ : ∃ r : ByteArray, (⟨(Lib.repeatL [48] ex.toNat).toArray⟩ : ByteArray) = r := ⟨_, rfl⟩
      have hrl : r.data.toList = List.replicate ex.toNat 48 := by rw [← hr, ← repeat_zeros]
      have y4 : dg.size + r.size ≤ 1000000 := by
        have e1 : r.data.toList.length = r.size := by simp
        rw [hrl, List.length_replicate] at e1
        omega
      have y5 : ¬ 9223372036854775807 < dg.size + r.size := by omega
      obtain ⟨s, hse⟩ : ∃ s, dg ++ r = s := ⟨_, rfl⟩
      have hsl : s.data.toList = dg.data.toList ++ List.replicate ex.toNat 48 := by rw [← hse, append_list, hrl]
      obtain ⟨g1, g2⟩ := whole_nat hd' x0 x1 hsl
      have hsz : s.size ≤ 400 := (natOk_parts g1).2.1
      have hnt : natTo s = if wholeN dg ex < 18446744073709551616 then some (wholeN dg ex) else none := by
        unfold natTo
        rw [g1, g2]
        by_cases q : wholeN dg ex < 18446744073709551616
        · rw [if_pos ⟨rfl, q⟩, if_pos q]
        · rw [if_neg (fun z => q z.2), if_neg q]
      have hcx : ((ex.toNat : Nat) : Int) = ex := by omega
      have HP : Hid (∀ w, Calls Tryz.prog 141 #[.string ⟨#[48]⟩, .int .i64 ex] w fun e w' => e = .returned (.string r) ∧ Below w.heap.size w w') := Lib.hid (fun w => by
        have := Tryz.strings_Repeat ⟨#[48]⟩ ex.toNat w (by omega) (by show 1 * ex.toNat ≤ _; omega)
        rw [hcx] at this
        rw [← hr]
        exact this)
      have HT := Lib.hid (fun w (h : GW w aT aF) => nat_To s (by omega) w h)
      rw [hnt] at HT
      obtain ⟨wn, hwn⟩ : ∃ wn, wholeN dg ex = wn := ⟨_, rfl⟩
      rw [hwn] at HT hans
      obtain ⟨vn, vb, hv1, hv2⟩ : ∃ (vn : Int) (vb : Bool), natToV (if wn < 18446744073709551616 then some wn else none) = .tuple #[.int .u64 vn, .bool vb] ∧ toIntV ans = .tuple #[.bool (vb && neg), .int .u64 vn, .bool vb] := by
        rw [← hans]
        by_cases q : wn < 18446744073709551616
        · rw [if_pos q, if_pos ⟨rfl, x0, x1, q⟩]
          exact ⟨wn, true, rfl, rfl⟩
        · rw [if_neg q, if_neg (fun z => q z.2.2.2)]
          exact ⟨0, false, rfl, rfl⟩
      rw [hv1] at HT
      rw [hv2]
      have HG := Lib.hid (h.below hbx)
      have HSE := Lib.hid hse
      clear hd hd' hans h hsl hrl hr g1 g2 hnt hcx hwn hse hsz h100 hv1 hv2
      go_enter Tryz.func97, Tryz.ntmps97
      go_wp2_with fail
      refine (HR.out _).mono ?_
      rintro e w1 ⟨rfl, hb⟩
      have hb2 := hbx.trans (hb.mono hbx.size)
      have hk2 := hkx.below hb hkx.lt
      have HG2 := Lib.hid (HG.out.below hb)
      have d0 := hk2.cell 0
      have d1 := hk2.cell 1
      have d2 := hk2.cell 2
      clear hb hbx hkx c0 c1 c2 HG HR
      go_wp2_with fail
      go_region_held3 (fun w' => w'.cell? ⟨w.heap.size, 0, none⟩ = some (.bool neg) ∧ w'.cell? ⟨w.heap.size, 1, none⟩ = some (.string dg) ∧ w'.cell? ⟨w.heap.size, 2, none⟩ = some (.int .i64 ex)) (go_keep)
        (first | (go_at_call 141; refine (HP.out _).mono ?_; rintro e w4 ⟨rfl, hb4⟩; have hk4 := (Blk.drew hk2).below hb4 (Blk.drew hk2).lt; have c40 := hk4.cell 0; have c41 := hk4.cell 1; have c42 := hk4.cell 2) | (go_at_call 140; rw [HSE.out]; refine (HT.out _ ((HG2.out.below (below_drewN (Below.refl _ w1) 1)).below hb4)).mono ?_; rintro e w5 ⟨rfl, hb5⟩; have hk5 := hk4.below hb5 hk4.lt; have c50 := hk5.cell 0; have c51 := hk5.cell 1; have c52 := hk5.cell 2))
      have hb6 : Below w.heap.size w w5 := (below_drewN hb2 1).trans ((hb4.trans (hb5.mono hb4.size)).mono hb2.size)
      clear hb2 hb4 hb5 hk2 hk4 c40 c41 c42 d0 d1 d2 HT HP HG2
      cases vb with
      | true =>
        go_wp2_with fail
        refine bodyPost_ret (v := .tuple #[.bool neg, .int .u64 vn, .bool true]) (by simp [results, Tryz.results97, go_sem]) rfl ⟨rfl, hb6⟩
      | false =>
        go_wp2_with fail
        refine bodyPost_ret (v := .tuple #[.bool false, .int .u64 vn, .bool false]) (by simp [results, Tryz.results97, go_sem]) rfl ⟨rfl, hb6⟩
    · rw [hd] at HR hans
      rw [if_neg (fun q => hx ⟨q.2.1, q.2.2.1⟩)] at hans
      subst hans
      clear hd h
      by_cases x0 : 0 ≤ ex
      · have x1 : 20 < ex := by omega
        clear hx
        go_enter Tryz.func97, Tryz.ntmps97
        go_wp2_with fail
        refine (HR.out _).mono ?_
        rintro e w1 ⟨rfl, hb⟩
        have hb2 := hbx.trans (hb.mono hbx.size)
        have hk2 := hkx.below hb hkx.lt
        have d0 := hk2.cell 0
        have d1 := hk2.cell 1
        have d2 := hk2.cell 2
        clear hb hbx hkx c0 c1 c2
        go_wp2_with fail
        refine bodyPost_ret (v := .tuple #[.bool false, .int .u64 0, .bool false]) (by simp [results, Tryz.results97, go_sem]) rfl ⟨rfl, hb2⟩
      · have x1 : ex < 0 := by omega
        clear hx x0
        go_enter Tryz.func97, Tryz.ntmps97
        go_wp2_with fail
        refine (HR.out _).mono ?_
        rintro e w1 ⟨rfl, hb⟩
        have hb2 := hbx.trans (hb.mono hbx.size)
        have hk2 := hkx.below hb hkx.lt
        have d0 := hk2.cell 0
        have d1 := hk2.cell 1
        have d2 := hk2.cell 2
        clear hb hbx hkx c0 c1 c2
        go_wp2_with fail
        refine bodyPost_ret (v := .tuple #[.bool false, .int .u64 0, .bool false]) (by simp [results, Tryz.results97, go_sem]) rfl ⟨rfl, hb2⟩
end Go.Proofs.YtfckekaegjjmkaaGreatDoor
