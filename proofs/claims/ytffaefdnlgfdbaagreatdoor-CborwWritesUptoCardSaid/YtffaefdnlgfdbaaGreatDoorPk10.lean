/- The texts RefN, RtA, put together. -/
import Derived.Test.YtffaefdnlgfdbaaGreatDoorPk08
import Derived.BigRegion
import Derived.RegionTactic
import Derived.Deep.QuietTactic
import Derived.Test.YtffaefdnlgfdbaaGreatDoorPk05
/- The reference's naturals (targumref01): Right, compare, To over digits. -/
namespace Go.Proofs.YtffaefdnlgfdbaaGreatDoor
open Go.RowKit Go.Shelf

theorem dig_at {s : ByteArray} (hd : ∀ c ∈ s.data.toList, isDig c = true) {k : Nat} (hk : k < s.size) : 48 ≤ s[k].toNat ∧ s[k].toNat ≤ 57 := by
  refine isDig_iff (hd _ ?_)
  rw [ByteArray.getElem_eq_getElem_data, Array.mem_toList_iff]
  exact Array.getElem_mem _
theorem head_at (s : ByteArray) (h : 0 < s.size) : s.data.toList.head? = some s[0] := by
  rw [List.head?_eq_getElem?, List.getElem?_eq_getElem (by simpa using h)]
  simp [ByteArray.getElem_eq_getElem_data]

/-- Right of a row of digits. -/
def natR (l : List UInt8) : Bool := decide (l.length ≤ 400) && (decide (l.length ≤ 1) || l.head? != some 48)

set_option maxHeartbeats 2000000 in
set_option maxRecDepth 100000 in
theorem ref_natRight (s : ByteArray) (hs : s.size ≤ 1000000) (h1 : 1 ≤ s.size) (hd : ∀ c ∈ s.data.toList, isDig c = true) (w : World) :
    Calls Tryz.prog 84 #[.string s] w fun e w' => e = .returned (.bool (natR s.data.toList)) ∧ w' = w := by
  have hl : s.data.toList.length = s.size := by simp
  have hh := head_at s h1
  obtain ⟨ans, hans⟩ : ∃ ans, natR s.data.toList = ans := ⟨_, rfl⟩
  have HANS := Lib.hid hans
  unfold natR at hans
  rw [hl, hh] at hans
  rw [HANS.out]
  have HD := Lib.hid (fun (k : Nat) (hk : k < s.size) => dig_at hd hk)
  have hsz : ¬ (s.size : Int) < 1 := by omega
  clear hd hl hh HANS
  by_cases h400 : 400 < s.size
  · have ha : ans = false := by
      rw [← hans, decide_eq_false (by omega)]
      rfl
    have z1 : (400 : Int) < s.size := by omega
    subst ha
    clear hans HD
    go_enter Tryz.func84, Tryz.ntmps84
    go_wp2_with fail
    go_ret
    exact ⟨rfl, rfl⟩
  rw [decide_eq_true (by omega : s.size ≤ 400), Bool.true_and] at hans
  have z1 : ¬ (400 : Int) < s.size := by omega
  obtain ⟨c0, hc0⟩ : ∃ c0, s[0].toNat = c0 := ⟨_, rfl⟩
  by_cases hz : 1 < s.size ∧ c0 = 48
  · obtain ⟨hz1, rfl⟩ := hz
    have ha : ans = false := by
      rw [← hans, decide_eq_false (by omega), show s[0] = 48 from UInt8.toNat_inj.1 hc0]
      rfl
    have z2 : (1 : Int) < s.size := by omega
    subst ha
    clear hans HD h400
    go_enter Tryz.func84, Tryz.ntmps84
    go_wp2_with fail
    go_ret
    exact ⟨rfl, rfl⟩
  · have ha : ans = true := by
      rw [← hans, Bool.or_eq_true, decide_eq_true_iff]
      by_cases hz1 : 1 < s.size
      · right
        rw [bne_iff_ne]
        intro e
        have := congrArg UInt8.toNat (Option.some.inj e)
        rw [hc0] at this
        exact hz ⟨hz1, this⟩
      · left; omega
    subst ha
    clear hans
    by_cases hz1 : 1 < s.size
    · have z2 : (1 : Int) < s.size := by omega
      have z3 : (c0 : Int) ≠ 48 := by omega
      have z4 : ((c0 : Int) == 48) = false := by rw [beq_eq_false_iff_ne]; exact z3
      clear hz
      go_enter Tryz.func84, Tryz.ntmps84
      go_wp2_with fail
      clear z4 z3 hc0 z2
      go_loopw [3] (fun i wr => ∃ k : Nat, k ≤ s.size ∧ i = .int .i64 k ∧ wr = w) (fun i _ => s.size - (intOf i).toNat)
      case atStart => exact ⟨0, by omega, rfl, rfl⟩
      case round =>
        obtain ⟨k, hk, rfl, rfl⟩ := hrel
        by_cases hlt : k < s.size
        · have hdk := HD.out k hlt
          obtain ⟨c, hc⟩ : ∃ c, s[k].toNat = c := ⟨_, rfl⟩
          rw [hc] at hdk
          have y1 : (k : Int) < s.size := by omega
          have y2 : (48 : Int) ≤ c := by omega
          have y3 : (c : Int) ≤ 57 := by omega
          clear hdk
          go_wp2_with fail
          go_roundw
          case rel => exact ⟨k + 1, by omega, by go_num, trivial⟩
          case measure => simp [intOf]; omega
        · obtain rfl : k = s.size := by omega
          have y1 : ¬ ((s.size : Nat) : Int) < s.size := by omega
          go_wp2_with fail
          go_ret
          exact ⟨rfl, rfl⟩
    · have z2 : ¬ (1 : Int) < s.size := by omega
      clear hz hc0
      go_enter Tryz.func84, Tryz.ntmps84
      go_wp2_with fail
      clear z2
      go_loopw [3] (fun i wr => ∃ k : Nat, k ≤ s.size ∧ i = .int .i64 k ∧ wr = w) (fun i _ => s.size - (intOf i).toNat)
      case atStart => exact ⟨0, by omega, rfl, rfl⟩
      case round =>
        obtain ⟨k, hk, rfl, rfl⟩ := hrel
        by_cases hlt : k < s.size
        · have hdk := HD.out k hlt
          obtain ⟨c, hc⟩ : ∃ c, s[k].toNat = c := ⟨_, rfl⟩
          rw [hc] at hdk
          have y1 : (k : Int) < s.size := by omega
          have y2 : (48 : Int) ≤ c := by omega
          have y3 : (c : Int) ≤ 57 := by omega
          clear hdk
          go_wp2_with fail
          go_roundw
          case rel => exact ⟨k + 1, by omega, by go_num, trivial⟩
          case measure => simp [intOf]; omega
        · obtain rfl : k = s.size := by omega
          have y1 : ¬ ((s.size : Nat) : Int) < s.size := by omega
          go_wp2_with fail
          go_ret
          exact ⟨rfl, rfl⟩

theorem drop_at (s : ByteArray) (k : Nat) (h : k < s.size) : s.data.toList.drop k = s[k] :: s.data.toList.drop (k + 1) := by
  rw [List.drop_eq_getElem_cons (by simpa using h)]
  congr 1
theorem cmpL_cons (x y : UInt8) (a b : List UInt8) : cmpL (x :: a) (y :: b) = if x.toNat < y.toNat then -1 else if y.toNat < x.toNat then 1 else cmpL a b := rfl

set_option maxHeartbeats 2000000 in
set_option maxRecDepth 100000 in
theorem ref_compare (a b : ByteArray) (ha : a.size ≤ 1000000) (_hb : b.size ≤ 1000000) (w : World) :
    Calls Tryz.prog 85 #[.string a, .string b] w fun e w' => e = .returned (.int .i64 (cmpN a.data.toList b.data.toList)) ∧ Below w.heap.size w w' := by
  have hla : a.data.toList.length = a.size := by simp
  have hlb : b.data.toList.length = b.size := by simp
  obtain ⟨ans, hans⟩ : ∃ ans, cmpN a.data.toList b.data.toList = ans := ⟨_, rfl⟩
  have HANS := Lib.hid hans
  rw [HANS.out]
  unfold cmpN at hans
  rw [hla, hlb] at hans
  clear HANS hla hlb
  by_cases h1 : a.size < b.size
  · rw [if_pos h1] at hans
    subst hans
    have z1 : ((a.size : Int) == b.size) = false := by rw [beq_eq_false_iff_ne]; omega
    have z2 : (a.size : Int) < b.size := by omega
    go_enter Tryz.func85, Tryz.ntmps85
    go_wp2_with fail
    go_ret
    exact ⟨rfl, Below.refl _ _⟩
  rw [if_neg h1] at hans
  by_cases h2 : b.size < a.size
  · rw [if_pos h2] at hans
    subst hans
    have z1 : ((a.size : Int) == b.size) = false := by rw [beq_eq_false_iff_ne]; omega
    have z2 : ¬ (a.size : Int) < b.size := by omega
    go_enter Tryz.func85, Tryz.ntmps85
    go_wp2_with fail
    go_ret
    exact ⟨rfl, Below.refl _ _⟩
  rw [if_neg h2] at hans
  have hab : a.size = b.size := by omega
  have HANS := Lib.hid hans
  have z1 : ((a.size : Int) == b.size) = true := by rw [beq_iff_eq]; omega
  clear hans h1 h2
  go_enter Tryz.func85, Tryz.ntmps85
  go_wp2_with fail
  clear z1
  go_loopw [5] (fun i wr => ∃ k : Nat, k ≤ a.size ∧ i = .int .i64 k ∧ Below w.heap.size w wr ∧ Hid (cmpL (a.data.toList.drop k) (b.data.toList.drop k) = ans)) (fun i _ => a.size - (intOf i).toNat)
  case atStart => exact ⟨0, by omega, rfl, Below.refl _ _, HANS⟩
  case round =>
    obtain ⟨k, hk, rfl, hbw, hc⟩ := hrel
    by_cases hlt : k < a.size
    · have hltb : k < b.size := by omega
      have hcc := hc.out
      rw [drop_at a k hlt, drop_at b k hltb, cmpL_cons] at hcc
      obtain ⟨x, hx⟩ : ∃ x, a[k].toNat = x := ⟨_, rfl⟩
      obtain ⟨y, hy⟩ : ∃ y, b[k].toNat = y := ⟨_, rfl⟩
      rw [hx, hy] at hcc
      have y1 : (k : Int) < a.size := by omega
      have y1b : (k : Int) < b.size := by omega
      clear hc HANS
      by_cases c1 : x < y
      · rw [if_pos c1] at hcc
        subst hcc
        have y2 : (x : Int) < y := by omega
        clear c1
        go_wp2_with fail
        go_quiet (fail)
        go_wp2_with fail
        go_ret
        exact ⟨rfl, below_drewN hbw _⟩
      rw [if_neg c1] at hcc
      have y2 : ¬ (x : Int) < y := by omega
      by_cases c2 : y < x
      · rw [if_pos c2] at hcc
        subst hcc
        have y3 : (y : Int) < x := by omega
        clear c1 c2
        go_wp2_with fail
        go_quiet (fail)
        go_wp2_with fail
        go_quiet (fail)
        go_wp2_with fail
        go_ret
        exact ⟨rfl, below_drewN (below_drewN hbw _) _⟩
      rw [if_neg c2] at hcc
      have y3 : ¬ (y : Int) < x := by omega
      have HC := Lib.hid hcc
      clear c1 c2 hcc
      go_wp2_with fail
      go_quiet (fail)
      go_wp2_with fail
      go_quiet (fail)
      go_wp2_with fail
      go_roundw
      case rel => exact ⟨k + 1, by omega, by go_num, below_drewN hbw _, HC⟩
      case measure => simp [intOf]; omega
    · obtain rfl : k = a.size := by omega
      have y1 : ¬ ((a.size : Nat) : Int) < a.size := by omega
      have hcc := hc.out
      rw [List.drop_eq_nil_of_le (by simp)] at hcc
      have hcc : (0 : Int) = ans := hcc
      subst hcc
      clear HANS hc
      go_wp2_with fail
      go_ret
      exact ⟨rfl, hbw⟩

set_option maxHeartbeats 2000000 in
set_option maxRecDepth 100000 in
/-- A natural's digits: its number, unless it has a 0 ahead or is 2 to the 64 or greater. -/
theorem ref_To (s : ByteArray) (hs : s.size ≤ 1000000) (h1 : 1 ≤ s.size) (hd : ∀ c ∈ s.data.toList, isDig c = true) (w : World) :
    Calls Tryz.prog 45 #[.string s] w fun e w' => e = .returned (if natR s.data.toList = true ∧ dval 0 s.data.toList ≤ 18446744073709551615 then .tuple #[.int .u64 (dval 0 s.data.toList : Nat), .bool true] else .tuple #[.int .u64 0, .bool false]) ∧ Below w.heap.size w w' := by
  have HR := Lib.hid (ref_natRight s hs h1 hd)
  have hcz : (⟨#[49, 56, 52, 52, 54, 55, 52, 52, 48, 55, 51, 55, 48, 57, 53, 53, 49, 54, 49, 53]⟩ : ByteArray).size ≤ 1000000 := by decide
  have hcm := ref_compare s ⟨#[49, 56, 52, 52, 54, 55, 52, 52, 48, 55, 51, 55, 48, 57, 53, 53, 49, 54, 49, 53]⟩ hs hcz
  have hmx : (⟨#[49, 56, 52, 52, 54, 55, 52, 52, 48, 55, 51, 55, 48, 57, 53, 53, 49, 54, 49, 53]⟩ : ByteArray).data.toList = maxDigits := rfl
  rw [hmx] at hcm
  have HC := Lib.hid hcm
  clear hcm hmx hcz
  cases hr : natR s.data.toList with
  | false =>
    rw [hr] at HR
    rw [if_neg (fun h => by cases h.1)]
    clear hd HC
    go_enter Tryz.func45, Tryz.ntmps45
    go_wp2_with fail
    refine (HR.out _).mono ?_
    rintro e w1 ⟨rfl, rfl⟩
    go_wp2_with fail
    go_ret2
    exact ⟨rfl, Below.refl _ _⟩
  | true =>
    rw [hr] at HR
    have hz : s.data.toList.length ≤ 1 ∨ s.data.toList.head? ≠ some 48 := by
      unfold natR at hr
      rw [Bool.and_eq_true, Bool.or_eq_true, decide_eq_true_iff, decide_eq_true_iff, bne_iff_ne] at hr
      exact hr.2
    have hmax := cmpN_max s.data.toList hd hz
    obtain ⟨cv, hcv⟩ : ∃ cv, cmpN s.data.toList maxDigits = cv := ⟨_, rfl⟩
    rw [hcv] at HC hmax
    by_cases hbig : 18446744073709551615 < dval 0 s.data.toList
    · rw [if_neg (fun h => by omega)]
      have z1 : (0 : Int) < cv := hmax.2 hbig
      clear hd hmax hbig hcv hz
      go_enter Tryz.func45, Tryz.ntmps45
      go_wp2_with fail
      refine (HR.out _).mono ?_
      rintro e w1 ⟨rfl, rfl⟩
      go_wp2_with fail
      refine (HC.out _).mono ?_
      rintro e w2 ⟨rfl, hb2⟩
      go_wp2_with fail
      go_ret2
      exact ⟨rfl, hb2⟩
    · rw [if_pos ⟨rfl, by omega⟩]
      have z1 : ¬ (0 : Int) < cv := fun h => hbig (hmax.1 h)
      have HB := Lib.hid (Nat.le_of_not_lt hbig)
      obtain ⟨v, hv⟩ : ∃ v, dval 0 s.data.toList = v := ⟨_, rfl⟩
      rw [hv] at HB ⊢
      have HV := Lib.hid (show dval 0 (s.data.toList.drop 0) = v from hv)
      have HD := Lib.hid (fun (k : Nat) (hk : k < s.size) => dig_at hd hk)
      clear hd hmax hbig hcv hz hv
      go_enter Tryz.func45, Tryz.ntmps45
      go_wp2_with fail
      refine (HR.out _).mono ?_
      rintro e w1 ⟨rfl, rfl⟩
      go_wp2_with fail
      refine (HC.out _).mono ?_
      rintro e w2 ⟨rfl, hb2⟩
      go_wp2_with fail
      clear z1
      go_loopw [4, 5] (fun n i wr => ∃ k m : Nat, k ≤ s.size ∧ i = .int .i64 k ∧ n = .int .u64 m ∧ Below w1.heap.size w1 wr ∧ Hid (dval m (s.data.toList.drop k) = v)) (fun _ i _ => s.size - (intOf i).toNat)
      case atStart => exact ⟨0, 0, by omega, rfl, rfl, hb2, HV⟩
      case round =>
        obtain ⟨k, m, hk, rfl, rfl, hbw, hc⟩ := hrel
        by_cases hlt : k < s.size
        · have hcc := hc.out
          have hdk := HD.out k hlt
          rw [drop_at s k hlt] at hcc
          obtain ⟨x, hx⟩ : ∃ x, s[k].toNat = x := ⟨_, rfl⟩
          have hcc : dval (m * 10 + (s[k].toNat - 48)) (s.data.toList.drop (k + 1)) = v := hcc
          rw [hx] at hcc hdk
          have hge := dval_ge (s.data.toList.drop (k + 1)) (m * 10 + (x - 48))
          have hvb := HB.out
          have y1 : (k : Int) < s.size := by omega
          have y2 : (48 : Int) ≤ x := by omega
          have y3 : (x : Int) ≤ 57 := by omega
          have y4 : (10 : Int) * m ≤ 18446744073709551615 := by omega
          have y5 : (10 : Int) * m + (x - 48) ≤ 18446744073709551615 := by omega
          have hmz : (10 : Int) * m + (x - 48) = ((m * 10 + (x - 48) : Nat) : Int) := by omega
          have HM := Lib.hid hmz
          have HCC := Lib.hid hcc
          clear hc hcc hge hvb hdk HV HD HC hmz
          go_wp2_with fail
          go_roundw
          case rel => exact ⟨k + 1, m * 10 + (x - 48), by omega, by go_num, by rw [HM.out], hbw, HCC⟩
          case measure => simp [intOf]; omega
        · obtain rfl : k = s.size := by omega
          have y1 : ¬ ((s.size : Nat) : Int) < s.size := by omega
          have hcc := hc.out
          rw [List.drop_eq_nil_of_le (by simp)] at hcc
          have hcc : m = v := hcc
          subst hcc
          clear HV HC HD HB hc
          go_wp2_with fail
          go_ret2
          exact ⟨rfl, hbw⟩
end Go.Proofs.YtffaefdnlgfdbaaGreatDoor
/- The reference's trees (targumref06): Depth, only. -/
namespace Go.Proofs.YtffaefdnlgfdbaaGreatDoor
open Go.RowKit Go.Shelf

set_option maxHeartbeats 2000000 in
set_option maxRecDepth 100000 in
theorem ref_Depth (d : Nat) : ∀ (t : Tr) (x : Value) (w : World) (B : Nat), ListAt w B d t.kids x → B ≤ w.heap.size → t.count ≤ 1000000000000 →
    Calls Tryz.prog 13 #[nodeV t.own x] w fun e w' => e = .returned (.int .i64 (t.depth : Nat)) ∧ Below w.heap.size w w' := by
  induction d using Nat.strongRecOn with
  | _ d ih =>
  intro t x w B hl hB hc
  obtain ⟨hlen, A, c, rfl⟩ := hl.slice
  have hdc := depth_count t
  rw [Tr.depth_eq] at hdc ⊢
  have hkc : ∀ l, t.kids = l → ∀ k (h : k < l.length), l[k].count ≤ 1000000000000 := by
    rintro _ rfl k h
    have := Tr.count_eq t
    have h1 := countL_take t.kids k h
    have h2 := countL_mono t.kids (k + 1)
    omega
  obtain ⟨l, hkl⟩ : ∃ l, t.kids = l := ⟨_, rfl⟩
  have hkc := hkc l hkl
  rw [hkl] at hl hlen hdc ⊢
  obtain ⟨n, hn⟩ : ∃ n, l.length = n := ⟨_, rfl⟩
  rw [hn] at hl hlen ⊢
  obtain ⟨⟨kind, b, neg, dg, ex, u, wd, s⟩, ho⟩ : ∃ o, t.own = o := ⟨_, rfl⟩
  rw [ho]
  unfold nodeV
  have HL := Lib.hid hl
  have IH := Lib.hid ih
  have HKC := Lib.hid hkc
  have hbx := (Below.refl w.heap.size w).alloc (Nat.le_refl _) (.cells #[.int .i64 kind, .bool b, .bool neg, .string dg, .int .i64 ex, .int .u64 u, .int .i64 wd, .string s, .slice A n c] 27)
  have hBx : Blk (w.alloc (.cells #[.int .i64 kind, .bool b, .bool neg, .string dg, .int .i64 ex, .int .u64 u, .int .i64 wd, .string s, .slice A n c] 27)) w.heap.size #[.int .i64 kind, .bool b, .bool neg, .string dg, .int .i64 ex, .int .u64 u, .int .i64 wd, .string s, .slice A n c] 27 := Blk.new _ _ _
  have hd2 : depthL l + 1 ≤ 1000000000000 := by omega
  clear hl ih ho hkl hkc hdc hc
  simp only []
  go_enter Tryz.func13, Tryz.ntmps13
  go_wp2_with fail
  go_loopw [3, 4] (fun m i wr => ∃ k : Nat, k ≤ n ∧ i = .int .i64 k ∧ m = .int .i64 ((depthL (l.take k) : Nat) : Int) ∧ Below w.heap.size w wr ∧ Blk wr w.heap.size #[.int .i64 kind, .bool b, .bool neg, .string dg, .int .i64 ex, .int .u64 u, .int .i64 wd, .string s, .slice A n c] 27) (fun _ i _ => n - (intOf i).toNat)
  case atStart => exact ⟨0, by omega, rfl, rfl, hbx, hBx⟩
  case round =>
    obtain ⟨k, hk, rfl, rfl, hbw, hbk⟩ := hrel
    have hfl : wr.cell? ⟨w.heap.size, 8, none⟩ = some (.slice A n c) := hbk.cell 8
    by_cases hlt : k < n
    · have hkl : k < l.length := by omega
      obtain ⟨d', ad, x', hdd, rfl, hab, hok, hna, hkk⟩ := (HL.out.below hbw hB).at_ hkl
      have htk := depthL_take l k hkl
      have HC := IH.out d' (by omega) l[k] x' wr B hkk (Nat.le_trans hB hbw.size) (HKC.out k hkl)
      obtain ⟨m0, hm0⟩ : ∃ m0, depthL (l.take k) = m0 := ⟨_, rfl⟩
      obtain ⟨m1, hm1⟩ : ∃ m1, l[k].depth = m1 := ⟨_, rfl⟩
      rw [hm0, hm1] at htk
      rw [hm1] at HC
      obtain ⟨⟨kind', b', neg', dg', ex', u', wd', s'⟩, ho'⟩ : ∃ o, l[k].own = o := ⟨_, rfl⟩
      rw [ho'] at HC hna
      unfold nodeV at HC
      obtain ⟨k0, k1, k2, k3, k4, k5, k6, k7, k8⟩ := hna
      simp only [] at k0 k1 k2 k3 k4 k5 k6 k7 k8 HC
      have HC := Lib.hid HC
      have HT := Lib.hid htk
      rw [hm0]
      have y1 : (k : Int) < n := by omega
      have y2 : max (m0 : Int) (m1 : Int) = ((max m0 m1 : Nat) : Int) := by omega
      clear htk hm0 hm1 ho' hkk hok hdd
      go_wp2_with fail
      refine HC.out.mono ?_
      rintro e w2 ⟨rfl, hb2⟩
      have hb3 := hbw.trans (hb2.mono hbw.size)
      have hbk2 := hbk.below hb2 hbk.lt
      clear hb2 HC hbk k0 k1 k2 k3 k4 k5 k6 k7 k8 hfl
      go_wp2_with fail
      go_roundw
      case rel => exact ⟨k + 1, by omega, by go_num, by first | (rw [HT.out]; done) | (rw [HT.out]; exact congrArg (Value.int .i64) (by omega)), hb3, hbk2⟩
      case measure => simp [intOf]; omega
    · obtain rfl : k = n := by omega
      have y1 : ¬ (k : Int) < k := by omega
      have hf : l.take k = l := by rw [← hn, List.take_length]
      rw [hf]
      clear hn hf
      go_wp2_with fail
      go_ret
      exact ⟨by go_num, hbw⟩

set_option maxHeartbeats 2000000 in
set_option maxRecDepth 100000 in
theorem ref_only (t : Tr) (xo : Own) (v : Value) (w : World) (B d : Nat) (hl : ListAt w B d t.kids v) (hB : B ≤ w.heap.size) :
    Calls Tryz.prog 108 #[nodeV t.own v, nodeV xo (.slice none 0 0)] w fun e w' => e = .returned (.bool (onlyB t.own xo)) ∧ Below w.heap.size w w' := by
  obtain ⟨hlen, A, c, rfl⟩ := hl.slice
  obtain ⟨n, hn⟩ : ∃ n, t.kids.length = n := ⟨_, rfl⟩
  rw [hn] at hl ⊢
  obtain ⟨o, ho⟩ : ∃ o, t.own = o := ⟨_, rfl⟩
  have HS := fun W (hl' : ListAt W B d t.kids (.slice A n c)) (hB' : B ≤ W.heap.size) => ref_SameT d t (.nd { xo with kind := t.own.kind } t.kids) (.slice A n c) (.slice A n c) W B d hl' hl' hB'
  simp only [sameT_own] at HS
  rw [ho] at HS ⊢
  obtain ⟨hb4, _, _⟩ := box2 w (cellsV o (.slice A n c)) (cellsV { xo with kind := o.kind } (.slice A n c)) 27 27
  have HS := HS _ (hl.below hb4 hB) (Nat.le_trans hB hb4.size)
  have HS : Calls Tryz.prog 10 #[nodeV o (.slice A n c), nodeV { xo with kind := o.kind } (.slice A n c)] _ _ := HS
  have HB4 := Lib.hid hb4
  unfold nodeV at HS ⊢
  unfold cellsV at *
  simp only [] at HS
  have HS := Lib.hid HS
  clear hb4
  go_enter Tryz.func108, Tryz.ntmps108
  go_wp2_with fail
  refine HS.out.mono ?_
  rintro e w2 ⟨rfl, hb⟩
  have hb5 := HB4.out.trans (hb.mono HB4.out.size)
  clear hb HS HB4
  go_wp2_with fail
  go_ret
  exact ⟨rfl, hb5⟩
end Go.Proofs.YtffaefdnlgfdbaaGreatDoor
