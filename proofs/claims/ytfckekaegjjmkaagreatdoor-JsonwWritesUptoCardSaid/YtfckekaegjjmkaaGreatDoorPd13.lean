/- The texts GateH, RtA, put together. -/
import Derived.Test.YtfckekaegjjmkaaGreatDoorPd12
import Derived.Test.YtfckekaegjjmkaaGreatDoorPd05
import Derived.Test.YtfckekaegjjmkaaGreatDoorPd10
namespace Go.Proofs.YtfckekaegjjmkaaGreatDoor
open Go.RowKit Go.Shelf

def toIntV : Option (Bool × Nat) → Value
  | some (n, k) => .tuple #[.bool n, .int .u64 (k : Nat), .bool true]
  | none => .tuple #[.bool false, .int .u64 0, .bool false]
theorem repeat_zeros : ∀ c : Nat, Lib.repeatL [48] c = List.replicate c 48
  | 0 => rfl
  | c + 1 => by
    show 48 :: Lib.repeatL [48] c = _
    rw [repeat_zeros c]
    rfl
theorem dval_zeros (l : List UInt8) : ∀ c : Nat, dval 0 (l ++ List.replicate c 48) = dval 0 l * 10 ^ c
  | 0 => by simp
  | c + 1 => by
    rw [List.replicate_succ', ← List.append_assoc, dval_append, dval_zeros l c]
    have : (48 : UInt8).toNat = 48 := rfl
    rw [this, Nat.pow_succ, ← Nat.mul_assoc]
    omega
/-- A whole decimal's digits, with its zeros, are a natural; its number. -/
theorem whole_nat {neg : Bool} {dg s : ByteArray} {ex : Int} (h : decOk neg dg ex = true) (h0 : 0 ≤ ex) (h1 : ex ≤ 20) (hs : s.data.toList = dg.data.toList ++ List.replicate ex.toNat 48) :
    natOk s = true ∧ dval 0 s.data.toList = wholeN dg ex := by
  have hv : dval 0 s.data.toList = wholeN dg ex := by
    rw [hs, dval_zeros]
    rfl
  refine ⟨?_, hv⟩
  have hp := dec_parts h
  unfold decOk at h
  rw [Bool.and_eq_true, Bool.and_eq_true, decide_eq_true_iff] at h
  obtain ⟨hn, h100, _⟩ := h
  obtain ⟨n1, n2, n3⟩ := natOk_parts hn
  have hsz : s.size = dg.size + ex.toNat := by
    have e1 : s.data.toList.length = s.size := by simp
    have e2 : dg.data.toList.length = dg.size := by simp
    rw [hs, List.length_append, e2, List.length_replicate] at e1
    exact e1.symm
  rcases hp with ⟨a1, a2, _⟩ | ⟨a1, a2, a3, _⟩
  · have : s.data.toList = dg.data.toList := by
      rw [hs, a2]
      simp
    rw [str_ext this]
    exact hn
  · unfold natOk
    rw [decide_eq_true (by omega : 1 ≤ s.size), decide_eq_true (by omega : s.size ≤ 400), Bool.true_and, Bool.true_and, Bool.and_eq_true]
    constructor
    · have : s.data.toList.head? = dg.data.toList.head? := by
        rw [hs]
        exact head_append a1
      rw [this, decide_eq_false a3, Bool.and_false]
      rfl
    · rw [List.all_eq_true]
      intro c hc
      rw [hs] at hc
      rcases List.mem_append.1 hc with q | q
      · exact a2 c q
      · rw [(List.mem_replicate.1 q).2]
        decide
theorem append_list (a b : ByteArray) : (a ++ b).data.toList = a.data.toList ++ b.data.toList := by
  rw [ByteArray.data_append, Array.toList_append]

set_option maxHeartbeats 4000000 in
set_option maxRecDepth 100000 in
theorem dec_ToInt {aT aF : Addr} (neg : Bool) (dg : ByteArray) (ex : Int) (hs : dg.size ≤ 9223372036854775807) (w : World) (h : GW w aT aF) :
    Calls Tryz.prog 97 #[.agg #[.bool neg, .string dg, .int .i64 ex]] w fun e w' => e = .returned (toIntV (toIntD neg dg ex)) ∧ Below w.heap.size w w' := by
  obtain ⟨ans, hans⟩ : ∃ ans, toIntD neg dg ex = ans := ⟨_, rfl⟩
  rw [hans]
  unfold toIntD at hans
  have HR := Lib.hid (dec_Right neg dg ex hs)
  have hbx : Below w.heap.size w (w.alloc (.cells #[.bool neg, .string dg, .int .i64 ex] 23)) := (Below.refl _ _).alloc (Nat.le_refl _) _
  have hkx := Blk.new w #[.bool neg, .string dg, .int .i64 ex] 23
  have c0 := hkx.cell 0
  have c1 := hkx.cell 1
  have c2 := hkx.cell 2
  cases hd : decOk neg dg ex with
  | false =>
    rw [hd] at HR hans
    rw [if_neg (fun q => absurd q.1 (by decide))] at hans
    subst hans
    clear hd h
    go_enter Tryz.func97, Tryz.ntmps97
    go_wp2_with fail
    refine (HR.out _).mono ?_
    rintro e w1 ⟨rfl, hb⟩
    have hb2 := hbx.trans (hb.mono hbx.size)
    clear hb hbx
    go_wp2_with fail
    refine bodyPost_ret (v := .tuple #[.bool false, .int .u64 0, .bool false]) (by simp [results, Tryz.results97, go_sem]) rfl ⟨rfl, hb2⟩
  | true =>
    by_cases hx : 0 ≤ ex ∧ ex ≤ 20
    · obtain ⟨x0, x1⟩ := hx
      have hd' := hd
      rw [hd] at HR hans
      have h100 : dg.size ≤ 100 := by
        unfold decOk at hd'
        rw [Bool.and_eq_true, Bool.and_eq_true, decide_eq_true_iff] at hd'
        exact hd'.2.1
      obtain ⟨r, hr⟩ : ∃ r : ByteArray, (⟨(Lib.repeatL [48] ex.toNat).toArray⟩ : ByteArray) = r := ⟨_, rfl⟩
      have hrl : r.data.toList = List.replicate ex.toNat 48 := by rw [← hr, ← repeat_zeros]
      have y4 : dg.size + r.size ≤ 1000000 := by
        have e1 : r.data.toList.length = r.size := by simp
        rw [hrl, List.length_replicate] at e1
        omega
      have y5 : ¬ 9223372036854775807 < dg.size + r.size := by omega
      obtain ⟨s, hse⟩ : ∃ s, dg ++ r = s := ⟨_, rfl⟩
      have hsl : s.data.toList = dg.data.toList ++ List.replicate ex.toNat 48 := by rw [← hse, append_list, hrl]
      obtain ⟨g1, g2⟩ := whole_nat hd' x0 x1 hsl
      have hsz : s.size ≤ 400 := (natOk_parts g1).2.1
      have hnt : natTo s = if wholeN dg ex < 18446744073709551616 then some (wholeN dg ex) else none := by
        unfold natTo
        rw [g1, g2]
        by_cases q : wholeN dg ex < 18446744073709551616
        · rw [if_pos ⟨rfl, q⟩, if_pos q]
        · rw [if_neg (fun z => q z.2), if_neg q]
      have hcx : ((ex.toNat : Nat) : Int) = ex := by omega
      have HP : Hid (∀ w, Calls Tryz.prog 141 #[.string ⟨#[48]⟩, .int .i64 ex] w fun e w' => e = .returned (.string r) ∧ Below w.heap.size w w') := Lib.hid (fun w => by
        have := Tryz.strings_Repeat ⟨#[48]⟩ ex.toNat w (by omega) (by show 1 * ex.toNat ≤ _; omega)
        rw [hcx] at this
        rw [← hr]
        exact this)
      have HT := Lib.hid (fun w (h : GW w aT aF) => nat_To s (by omega) w h)
      rw [hnt] at HT
      obtain ⟨wn, hwn⟩ : ∃ wn, wholeN dg ex = wn := ⟨_, rfl⟩
      rw [hwn] at HT hans
      obtain ⟨vn, vb, hv1, hv2⟩ : ∃ (vn : Int) (vb : Bool), natToV (if wn < 18446744073709551616 then some wn else none) = .tuple #[.int .u64 vn, .bool vb] ∧ toIntV ans = .tuple #[.bool (vb && neg), .int .u64 vn, .bool vb] := by
        rw [← hans]
        by_cases q : wn < 18446744073709551616
        · rw [if_pos q, if_pos ⟨rfl, x0, x1, q⟩]
          exact ⟨wn, true, rfl, rfl⟩
        · rw [if_neg q, if_neg (fun z => q z.2.2.2)]
          exact ⟨0, false, rfl, rfl⟩
      rw [hv1] at HT
      rw [hv2]
      have HG := Lib.hid (h.below hbx)
      have HSE := Lib.hid hse
      clear hd hd' hans h hsl hrl hr g1 g2 hnt hcx hwn hse hsz h100 hv1 hv2
      go_enter Tryz.func97, Tryz.ntmps97
      go_wp2_with fail
      refine (HR.out _).mono ?_
      rintro e w1 ⟨rfl, hb⟩
      have hb2 := hbx.trans (hb.mono hbx.size)
      have hk2 := hkx.below hb hkx.lt
      have HG2 := Lib.hid (HG.out.below hb)
      have d0 := hk2.cell 0
      have d1 := hk2.cell 1
      have d2 := hk2.cell 2
      clear hb hbx hkx c0 c1 c2 HG HR
      go_wp2_with fail
      go_region_held3 (fun w' => w'.cell? ⟨w.heap.size, 0, none⟩ = some (.bool neg) ∧ w'.cell? ⟨w.heap.size, 1, none⟩ = some (.string dg) ∧ w'.cell? ⟨w.heap.size, 2, none⟩ = some (.int .i64 ex)) (go_keep)
        (first | (go_at_call 141; refine (HP.out _).mono ?_; rintro e w4 ⟨rfl, hb4⟩; have hk4 := (Blk.drew hk2).below hb4 (Blk.drew hk2).lt; have c40 := hk4.cell 0; have c41 := hk4.cell 1; have c42 := hk4.cell 2) | (go_at_call 140; rw [HSE.out]; refine (HT.out _ ((HG2.out.below (below_drewN (Below.refl _ w1) 1)).below hb4)).mono ?_; rintro e w5 ⟨rfl, hb5⟩; have hk5 := hk4.below hb5 hk4.lt; have c50 := hk5.cell 0; have c51 := hk5.cell 1; have c52 := hk5.cell 2))
      have hb6 : Below w.heap.size w w5 := (below_drewN hb2 1).trans ((hb4.trans (hb5.mono hb4.size)).mono hb2.size)
      clear hb2 hb4 hb5 hk2 hk4 c40 c41 c42 d0 d1 d2 HT HP HG2
      cases vb with
      | true =>
        go_wp2_with fail
        refine bodyPost_ret (v := .tuple #[.bool neg, .int .u64 vn, .bool true]) (by simp [results, Tryz.results97, go_sem]) rfl ⟨rfl, hb6⟩
      | false =>
        go_wp2_with fail
        refine bodyPost_ret (v := .tuple #[.bool false, .int .u64 vn, .bool false]) (by simp [results, Tryz.results97, go_sem]) rfl ⟨rfl, hb6⟩
    · rw [hd] at HR hans
      rw [if_neg (fun q => hx ⟨q.2.1, q.2.2.1⟩)] at hans
      subst hans
      clear hd h
      by_cases x0 : 0 ≤ ex
      · have x1 : 20 < ex := by omega
        clear hx
        go_enter Tryz.func97, Tryz.ntmps97
        go_wp2_with fail
        refine (HR.out _).mono ?_
        rintro e w1 ⟨rfl, hb⟩
        have hb2 := hbx.trans (hb.mono hbx.size)
        have hk2 := hkx.below hb hkx.lt
        have d0 := hk2.cell 0
        have d1 := hk2.cell 1
        have d2 := hk2.cell 2
        clear hb hbx hkx c0 c1 c2
        go_wp2_with fail
        refine bodyPost_ret (v := .tuple #[.bool false, .int .u64 0, .bool false]) (by simp [results, Tryz.results97, go_sem]) rfl ⟨rfl, hb2⟩
      · have x1 : ex < 0 := by omega
        clear hx x0
        go_enter Tryz.func97, Tryz.ntmps97
        go_wp2_with fail
        refine (HR.out _).mono ?_
        rintro e w1 ⟨rfl, hb⟩
        have hb2 := hbx.trans (hb.mono hbx.size)
        have hk2 := hkx.below hb hkx.lt
        have d0 := hk2.cell 0
        have d1 := hk2.cell 1
        have d2 := hk2.cell 2
        clear hb hbx hkx c0 c1 c2
        go_wp2_with fail
        refine bodyPost_ret (v := .tuple #[.bool false, .int .u64 0, .bool false]) (by simp [results, Tryz.results97, go_sem]) rfl ⟨rfl, hb2⟩
end Go.Proofs.YtfckekaegjjmkaaGreatDoor
namespace Go.Proofs.YtfckekaegjjmkaaGreatDoor
open Go.RowKit Go.Shelf

set_option maxHeartbeats 2000000 in
set_option maxRecDepth 100000 in
theorem ref_Depth (d : Nat) : ∀ (t : Tr) (x : Value) (w : World) (B : Nat), ListAt w B d t.kids x → B ≤ w.heap.size → t.count ≤ 1000000000000 →
    Calls Tryz.prog 19 #[nodeV t.own x] w fun e w' => e = .returned (.int .i64 (t.depth : Nat)) ∧ Below w.heap.size w w' := by
  induction d using Nat.strongRecOn with
  | _ d ih =>
  intro t x w B hl hB hc
  obtain ⟨hlen, A, c, rfl⟩ := hl.slice
  have hdc := depth_count t
  rw [Tr.depth_eq] at hdc ⊢
  have hkc : ∀ l, t.kids = l → ∀ k (h : k < l.length), l[k].count ≤ 1000000000000 := by
    rintro _ rfl k h
    have := Tr.count_eq t
    have h1 := countL_take t.kids k h
    have h2 := countL_mono t.kids (k + 1)
    omega
  obtain ⟨l, hkl⟩ : ∃ l, t.kids = l := ⟨_, rfl⟩
  have hkc := hkc l hkl
  rw [hkl] at hl hlen hdc ⊢
  obtain ⟨n, hn⟩ : ∃ n, l.length = n := ⟨_, rfl⟩
  rw [hn] at hl hlen ⊢
  obtain ⟨⟨kind, b, neg, dg, ex, u, wd, s⟩, ho⟩ : ∃ o, t.own = o := ⟨_, rfl⟩
  rw [ho]
  unfold nodeV
  have HL := Lib.hid hl
  have IH := Lib.hid ih
  have HKC := Lib.hid hkc
  have hbx := (Below.refl w.heap.size w).alloc (Nat.le_refl _) (.cells #[.int .i64 kind, .bool b, .bool neg, .string dg, .int .i64 ex, .int .u64 u, .int .i64 wd, .string s, .slice A n c] 27)
  have hBx : Blk (w.alloc (.cells #[.int .i64 kind, .bool b, .bool neg, .string dg, .int .i64 ex, .int .u64 u, .int .i64 wd, .string s, .slice A n c] 27)) w.heap.size #[.int .i64 kind, .bool b, .bool neg, .string dg, .int .i64 ex, .int .u64 u, .int .i64 wd, .string s, .slice A n c] 27 := Blk.new _ _ _
  have hd2 : depthL l + 1 ≤ 1000000000000 := by omega
  clear hl ih ho hkl hkc hdc hc
  simp only []
  go_enter Tryz.func19, Tryz.ntmps19
  go_wp2_with fail
  go_loopw [3, 4] (fun m i wr => ∃ k : Nat, k ≤ n ∧ i = .int .i64 k ∧ m = .int .i64 ((depthL (l.take k) : Nat) : Int) ∧ Below w.heap.size w wr ∧ Blk wr w.heap.size #[.int .i64 kind, .bool b, .bool neg, .string dg, .int .i64 ex, .int .u64 u, .int .i64 wd, .string s, .slice A n c] 27) (fun _ i _ => n - (intOf i).toNat)
  case atStart => exact ⟨0, by omega, rfl, rfl, hbx, hBx⟩
  case round =>
    obtain ⟨k, hk, rfl, rfl, hbw, hbk⟩ := hrel
    have hfl : wr.cell? ⟨w.heap.size, 8, none⟩ = some (.slice A n c) := hbk.cell 8
    by_cases hlt : k < n
    · have hkl : k < l.length := by omega
      obtain ⟨d', ad, x', hdd, rfl, hab, hok, hna, hkk⟩ := (HL.out.below hbw hB).at_ hkl
      have htk := depthL_take l k hkl
      have HC := IH.out d' (by omega) l[k] x' wr B hkk (Nat.le_trans hB hbw.size) (HKC.out k hkl)
      obtain ⟨m0, hm0⟩ : ∃ m0, depthL (l.take k) = m0 := ⟨_, rfl⟩
      obtain ⟨m1, hm1⟩ : ∃ m1, l[k].depth = m1 := ⟨_, rfl⟩
      rw [hm0, hm1] at htk
      rw [hm1] at HC
      obtain ⟨⟨kind', b', neg', dg', ex', u', wd', s'⟩, ho'⟩ : ∃ o, l[k].own = o := ⟨_, rfl⟩
      rw [ho'] at HC hna
      unfold nodeV at HC
      obtain ⟨k0, k1, k2, k3, k4, k5, k6, k7, k8⟩ := hna
      simp only [] at k0 k1 k2 k3 k4 k5 k6 k7 k8 HC
      have HC := Lib.hid HC
      have HT := Lib.hid htk
      rw [hm0]
      have y1 : (k : Int) < n := by omega
      have y2 : max (m0 : Int) (m1 : Int) = ((max m0 m1 : Nat) : Int) := by omega
      clear htk hm0 hm1 ho' hkk hok hdd
      go_wp2_with fail
      refine HC.out.mono ?_
      rintro e w2 ⟨rfl, hb2⟩
      have hb3 := hbw.trans (hb2.mono hbw.size)
      have hbk2 := hbk.below hb2 hbk.lt
      clear hb2 HC hbk k0 k1 k2 k3 k4 k5 k6 k7 k8 hfl
      go_wp2_with fail
      go_roundw
      case rel => exact ⟨k + 1, by omega, by go_num, by first | (rw [HT.out]; done) | (rw [HT.out]; exact congrArg (Value.int .i64) (by omega)), hb3, hbk2⟩
      case measure => simp [intOf]; omega
    · obtain rfl : k = n := by omega
      have y1 : ¬ (k : Int) < k := by omega
      have hf : l.take k = l := by rw [← hn, List.take_length]
      rw [hf]
      clear hn hf
      go_wp2_with fail
      go_ret
      exact ⟨by go_num, hbw⟩

set_option maxHeartbeats 2000000 in
set_option maxRecDepth 100000 in
theorem ref_only (t : Tr) (xo : Own) (v : Value) (w : World) (B d : Nat) (hl : ListAt w B d t.kids v) (hB : B ≤ w.heap.size) :
    Calls Tryz.prog 147 #[nodeV t.own v, nodeV xo (.slice none 0 0)] w fun e w' => e = .returned (.bool (onlyB t.own xo)) ∧ Below w.heap.size w w' := by
  obtain ⟨hlen, A, c, rfl⟩ := hl.slice
  obtain ⟨n, hn⟩ : ∃ n, t.kids.length = n := ⟨_, rfl⟩
  rw [hn] at hl ⊢
  obtain ⟨o, ho⟩ : ∃ o, t.own = o := ⟨_, rfl⟩
  have HS := fun W (hl' : ListAt W B d t.kids (.slice A n c)) (hB' : B ≤ W.heap.size) => ref_SameT d t (.nd { xo with kind := t.own.kind } t.kids) (.slice A n c) (.slice A n c) W B d hl' hl' hB'
  simp only [sameT_own] at HS
  rw [ho] at HS ⊢
  obtain ⟨hb4, _, _⟩ := box2 w (cellsV o (.slice A n c)) (cellsV { xo with kind := o.kind } (.slice A n c)) 27 27
  have HS := HS _ (hl.below hb4 hB) (Nat.le_trans hB hb4.size)
  have HS : Calls Tryz.prog 17 #[nodeV o (.slice A n c), nodeV { xo with kind := o.kind } (.slice A n c)] _ _ := HS
  have HB4 := Lib.hid hb4
  unfold nodeV at HS ⊢
  unfold cellsV at *
  simp only [] at HS
  have HS := Lib.hid HS
  clear hb4
  go_enter Tryz.func147, Tryz.ntmps147
  go_wp2_with fail
  refine HS.out.mono ?_
  rintro e w2 ⟨rfl, hb⟩
  have hb5 := HB4.out.trans (hb.mono HB4.out.size)
  clear hb HS HB4
  go_wp2_with fail
  go_ret
  exact ⟨rfl, hb5⟩
end Go.Proofs.YtfckekaegjjmkaaGreatDoor
