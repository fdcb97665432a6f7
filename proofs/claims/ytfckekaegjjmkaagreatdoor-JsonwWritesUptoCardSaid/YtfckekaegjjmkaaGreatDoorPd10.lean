/- The texts RefN, RefOc, Dgs, RefO, Spec, put together. -/
import Derived.Test.YtfckekaegjjmkaaGreatDoorPd09
import Derived.BigRegion
import Derived.RegionTactic
import Derived.Deep.QuietTactic
import Derived.StillTailTactics
import Derived.Lib.ItoaNum
import Derived.Test.YtfckekaegjjmkaaGreatDoorPd05
import Derived.Test.YtfckekaegjjmkaaGreatDoorPd03
import Derived.Lib.ValidU
namespace Go.Proofs.YtfckekaegjjmkaaGreatDoor
open Go.RowKit Go.Shelf

theorem dig_at {s : ByteArray} (hd : ∀ c ∈ s.data.toList, isDig c = true) {k : Nat} (hk : k < s.size) : 48 ≤ s[k].toNat ∧ s[k].toNat ≤ 57 := by
  refine isDig_iff (hd _ ?_)
  rw [ByteArray.getElem_eq_getElem_data, Array.mem_toList_iff]
  exact Array.getElem_mem _
theorem head_at (s : ByteArray) (h : 0 < s.size) : s.data.toList.head? = some s[0] := by
  rw [List.head?_eq_getElem?, List.getElem?_eq_getElem (by simpa using h)]
  simp [ByteArray.getElem_eq_getElem_data]

/-- Right of a row of digits. -/
def natR (l : List UInt8) : Bool := decide (l.length ≤ 400) && (decide (l.length ≤ 1) || l.head? != some 48)

set_option maxHeartbeats 2000000 in
set_option maxRecDepth 100000 in
theorem ref_natRight (s : ByteArray) (hs : s.size ≤ 1000000) (h1 : 1 ≤ s.size) (hd : ∀ c ∈ s.data.toList, isDig c = true) (w : World) :
    Calls Tryz.prog 100 #[.string s] w fun e w' => e = .returned (.bool (natR s.data.toList)) ∧ w' = w := by
  have hl : s.data.toList.length = s.size := by simp
  have hh := head_at s h1
  obtain ⟨ans, hans⟩ : ∃ ans, natR s.data.toList = ans := ⟨_, rfl⟩
  have HANS := Lib.hid hans
  unfold natR at hans
  rw [hl, hh] at hans
  rw [HANS.out]
  have HD := Lib.hid (fun (k : Nat) (hk : k < s.size) => dig_at hd hk)
  have hsz : ¬ (s.size : Int) < 1 := by omega
  clear hd hl hh HANS
  by_cases h400 : 400 < s.size
  · have ha : ans = false := by
      rw [← hans, decide_eq_false (by omega)]
      rfl
    have z1 : (400 : Int) < s.size := by omega
    subst ha
    clear hans HD
    go_enter Tryz.func100, Tryz.ntmps100
    go_wp2_with fail
    go_ret
    exact ⟨rfl, rfl⟩
  rw [decide_eq_true (by omega : s.size ≤ 400), Bool.true_and] at hans
  have z1 : ¬ (400 : Int) < s.size := by omega
  obtain ⟨c0, hc0⟩ : ∃ c0, s[0].toNat = c0 := ⟨_, rfl⟩
  by_cases hz : 1 < s.size ∧ c0 = 48
  · obtain ⟨hz1, rfl⟩ := hz
    have ha : ans = false := by
      rw [← hans, decide_eq_false (by omega), show s[0] = 48 from UInt8.toNat_inj.1 hc0]
      rfl
    have z2 : (1 : Int) < s.size := by omega
    subst ha
    clear hans HD h400
    go_enter Tryz.func100, Tryz.ntmps100
    go_wp2_with fail
    go_ret
    exact ⟨rfl, rfl⟩
  · have ha : ans = true := by
      rw [← hans, Bool.or_eq_true, decide_eq_true_iff]
      by_cases hz1 : 1 < s.size
      · right
        rw [bne_iff_ne]
        intro e
        have := congrArg UInt8.toNat (Option.some.inj e)
        rw [hc0] at this
        exact hz ⟨hz1, this⟩
      · left; omega
    subst ha
    clear hans
    by_cases hz1 : 1 < s.size
    · have z2 : (1 : Int) < s.size := by omega
      have z3 : (c0 : Int) ≠ 48 := by omega
      have z4 : ((c0 : Int) == 48) = false := by rw [beq_eq_false_iff_ne]; exact z3
      clear hz
      go_enter Tryz.func100, Tryz.ntmps100
      go_wp2_with fail
      clear z4 z3 hc0 z2
      go_loopw [3] (fun i wr => ∃ k : Nat, k ≤ s.size ∧ i = .int .i64 k ∧ wr = w) (fun i _ => s.size - (intOf i).toNat)
      case atStart => exact ⟨0, by omega, rfl, rfl⟩
      case round =>
        obtain ⟨k, hk, rfl, rfl⟩ := hrel
        by_cases hlt : k < s.size
        · have hdk := HD.out k hlt
          obtain ⟨c, hc⟩ : ∃ c, s[k].toNat = c := ⟨_, rfl⟩
          rw [hc] at hdk
          have y1 : (k : Int) < s.size := by omega
          have y2 : (48 : Int) ≤ c := by omega
          have y3 : (c : Int) ≤ 57 := by omega
          clear hdk
          go_wp2_with fail
          go_roundw
          case rel => exact ⟨k + 1, by omega, by go_num, trivial⟩
          case measure => simp [intOf]; omega
        · obtain rfl : k = s.size := by omega
          have y1 : ¬ ((s.size : Nat) : Int) < s.size := by omega
          go_wp2_with fail
          go_ret
          exact ⟨rfl, rfl⟩
    · have z2 : ¬ (1 : Int) < s.size := by omega
      clear hz hc0
      go_enter Tryz.func100, Tryz.ntmps100
      go_wp2_with fail
      clear z2
      go_loopw [3] (fun i wr => ∃ k : Nat, k ≤ s.size ∧ i = .int .i64 k ∧ wr = w) (fun i _ => s.size - (intOf i).toNat)
      case atStart => exact ⟨0, by omega, rfl, rfl⟩
      case round =>
        obtain ⟨k, hk, rfl, rfl⟩ := hrel
        by_cases hlt : k < s.size
        · have hdk := HD.out k hlt
          obtain ⟨c, hc⟩ : ∃ c, s[k].toNat = c := ⟨_, rfl⟩
          rw [hc] at hdk
          have y1 : (k : Int) < s.size := by omega
          have y2 : (48 : Int) ≤ c := by omega
          have y3 : (c : Int) ≤ 57 := by omega
          clear hdk
          go_wp2_with fail
          go_roundw
          case rel => exact ⟨k + 1, by omega, by go_num, trivial⟩
          case measure => simp [intOf]; omega
        · obtain rfl : k = s.size := by omega
          have y1 : ¬ ((s.size : Nat) : Int) < s.size := by omega
          go_wp2_with fail
          go_ret
          exact ⟨rfl, rfl⟩

theorem drop_at (s : ByteArray) (k : Nat) (h : k < s.size) : s.data.toList.drop k = s[k] :: s.data.toList.drop (k + 1) := by
  rw [List.drop_eq_getElem_cons (by simpa using h)]
  congr 1
theorem cmpL_cons (x y : UInt8) (a b : List UInt8) : cmpL (x :: a) (y :: b) = if x.toNat < y.toNat then -1 else if y.toNat < x.toNat then 1 else cmpL a b := rfl

set_option maxHeartbeats 2000000 in
set_option maxRecDepth 100000 in
theorem ref_compare (a b : ByteArray) (ha : a.size ≤ 1000000) (_hb : b.size ≤ 1000000) (w : World) :
    Calls Tryz.prog 148 #[.string a, .string b] w fun e w' => e = .returned (.int .i64 (cmpN a.data.toList b.data.toList)) ∧ Below w.heap.size w w' := by
  have hla : a.data.toList.length = a.size := by simp
  have hlb : b.data.toList.length = b.size := by simp
  obtain ⟨ans, hans⟩ : ∃ ans, cmpN a.data.toList b.data.toList = ans := ⟨_, rfl⟩
  have HANS := Lib.hid hans
  rw [HANS.out]
  unfold cmpN at hans
  rw [hla, hlb] at hans
  clear HANS hla hlb
  by_cases h1 : a.size < b.size
  · rw [if_pos h1] at hans
    subst hans
    have z1 : ((a.size : Int) == b.size) = false := by rw [beq_eq_false_iff_ne]; omega
    have z2 : (a.size : Int) < b.size := by omega
    go_enter Tryz.func148, Tryz.ntmps148
    go_wp2_with fail
    go_ret
    exact ⟨rfl, Below.refl _ _⟩
  rw [if_neg h1] at hans
  by_cases h2 : b.size < a.size
  · rw [if_pos h2] at hans
    subst hans
    have z1 : ((a.size : Int) == b.size) = false := by rw [beq_eq_false_iff_ne]; omega
    have z2 : ¬ (a.size : Int) < b.size := by omega
    go_enter Tryz.func148, Tryz.ntmps148
    go_wp2_with fail
    go_ret
    exact ⟨rfl, Below.refl _ _⟩
  rw [if_neg h2] at hans
  have hab : a.size = b.size := by omega
  have HANS := Lib.hid hans
  have z1 : ((a.size : Int) == b.size) = true := by rw [beq_iff_eq]; omega
  clear hans h1 h2
  go_enter Tryz.func148, Tryz.ntmps148
  go_wp2_with fail
  clear z1
  go_loopw [5] (fun i wr => ∃ k : Nat, k ≤ a.size ∧ i = .int .i64 k ∧ Below w.heap.size w wr ∧ Hid (cmpL (a.data.toList.drop k) (b.data.toList.drop k) = ans)) (fun i _ => a.size - (intOf i).toNat)
  case atStart => exact ⟨0, by omega, rfl, Below.refl _ _, HANS⟩
  case round =>
    obtain ⟨k, hk, rfl, hbw, hc⟩ := hrel
    by_cases hlt : k < a.size
    · have hltb : k < b.size := by omega
      have hcc := hc.out
      rw [drop_at a k hlt, drop_at b k hltb, cmpL_cons] at hcc
      obtain ⟨x, hx⟩ : ∃ x, a[k].toNat = x := ⟨_, rfl⟩
      obtain ⟨y, hy⟩ : ∃ y, b[k].toNat = y := ⟨_, rfl⟩
      rw [hx, hy] at hcc
      have y1 : (k : Int) < a.size := by omega
      have y1b : (k : Int) < b.size := by omega
      clear hc HANS
      by_cases c1 : x < y
      · rw [if_pos c1] at hcc
        subst hcc
        have y2 : (x : Int) < y := by omega
        clear c1
        go_wp2_with fail
        go_quiet (fail)
        go_wp2_with fail
        go_ret
        exact ⟨rfl, below_drewN hbw _⟩
      rw [if_neg c1] at hcc
      have y2 : ¬ (x : Int) < y := by omega
      by_cases c2 : y < x
      · rw [if_pos c2] at hcc
        subst hcc
        have y3 : (y : Int) < x := by omega
        clear c1 c2
        go_wp2_with fail
        go_quiet (fail)
        go_wp2_with fail
        go_quiet (fail)
        go_wp2_with fail
        go_ret
        exact ⟨rfl, below_drewN (below_drewN hbw _) _⟩
      rw [if_neg c2] at hcc
      have y3 : ¬ (y : Int) < x := by omega
      have HC := Lib.hid hcc
      clear c1 c2 hcc
      go_wp2_with fail
      go_quiet (fail)
      go_wp2_with fail
      go_quiet (fail)
      go_wp2_with fail
      go_roundw
      case rel => exact ⟨k + 1, by omega, by go_num, below_drewN hbw _, HC⟩
      case measure => simp [intOf]; omega
    · obtain rfl : k = a.size := by omega
      have y1 : ¬ ((a.size : Nat) : Int) < a.size := by omega
      have hcc := hc.out
      rw [List.drop_eq_nil_of_le (by simp)] at hcc
      have hcc : (0 : Int) = ans := hcc
      subst hcc
      clear HANS hc
      go_wp2_with fail
      go_ret
      exact ⟨rfl, hbw⟩

set_option maxHeartbeats 2000000 in
set_option maxRecDepth 100000 in
/-- A natural's digits: its number, unless it has a 0 ahead or is 2 to the 64 or greater. -/
theorem ref_To (s : ByteArray) (hs : s.size ≤ 1000000) (h1 : 1 ≤ s.size) (hd : ∀ c ∈ s.data.toList, isDig c = true) (w : World) :
    Calls Tryz.prog 111 #[.string s] w fun e w' => e = .returned (if natR s.data.toList = true ∧ dval 0 s.data.toList ≤ 18446744073709551615 then .tuple #[.int .u64 (dval 0 s.data.toList : Nat), .bool true] else .tuple #[.int .u64 0, .bool false]) ∧ Below w.heap.size w w' := by
  have HR := Lib.hid (ref_natRight s hs h1 hd)
  have hcz : (⟨#[49, 56, 52, 52, 54, 55, 52, 52, 48, 55, 51, 55, 48, 57, 53, 53, 49, 54, 49, 53]⟩ : ByteArray).size ≤ 1000000 := by decide
  have hcm := ref_compare s ⟨#[49, 56, 52, 52, 54, 55, 52, 52, 48, 55, 51, 55, 48, 57, 53, 53, 49, 54, 49, 53]⟩ hs hcz
  have hmx : (⟨#[49, 56, 52, 52, 54, 55, 52, 52, 48, 55, 51, 55, 48, 57, 53, 53, 49, 54, 49, 53]⟩ : ByteArray).data.toList = maxDigits := rfl
  rw [hmx] at hcm
  have HC := Lib.hid hcm
  clear hcm hmx hcz
  cases hr : natR s.data.toList with
  | false =>
    rw [hr] at HR
    rw [if_neg (fun h => by cases h.1)]
    clear hd HC
    go_enter Tryz.func111, Tryz.ntmps111
    go_wp2_with fail
    refine (HR.out _).mono ?_
    rintro e w1 ⟨rfl, rfl⟩
    go_wp2_with fail
    go_ret2
    exact ⟨rfl, Below.refl _ _⟩
  | true =>
    rw [hr] at HR
    have hz : s.data.toList.length ≤ 1 ∨ s.data.toList.head? ≠ some 48 := by
      unfold natR at hr
      rw [Bool.and_eq_true, Bool.or_eq_true, decide_eq_true_iff, decide_eq_true_iff, bne_iff_ne] at hr
      exact hr.2
    have hmax := cmpN_max s.data.toList hd hz
    obtain ⟨cv, hcv⟩ : ∃ cv, cmpN s.data.toList maxDigits = cv := ⟨_, rfl⟩
    rw [hcv] at HC hmax
    by_cases hbig : 18446744073709551615 < dval 0 s.data.toList
    · rw [if_neg (fun h => by omega)]
      have z1 : (0 : Int) < cv := hmax.2 hbig
      clear hd hmax hbig hcv hz
      go_enter Tryz.func111, Tryz.ntmps111
      go_wp2_with fail
      refine (HR.out _).mono ?_
      rintro e w1 ⟨rfl, rfl⟩
      go_wp2_with fail
      refine (HC.out _).mono ?_
      rintro e w2 ⟨rfl, hb2⟩
      go_wp2_with fail
      go_ret2
      exact ⟨rfl, hb2⟩
    · rw [if_pos ⟨rfl, by omega⟩]
      have z1 : ¬ (0 : Int) < cv := fun h => hbig (hmax.1 h)
      have HB := Lib.hid (Nat.le_of_not_lt hbig)
      obtain ⟨v, hv⟩ : ∃ v, dval 0 s.data.toList = v := ⟨_, rfl⟩
      rw [hv] at HB ⊢
      have HV := Lib.hid (show dval 0 (s.data.toList.drop 0) = v from hv)
      have HD := Lib.hid (fun (k : Nat) (hk : k < s.size) => dig_at hd hk)
      clear hd hmax hbig hcv hz hv
      go_enter Tryz.func111, Tryz.ntmps111
      go_wp2_with fail
      refine (HR.out _).mono ?_
      rintro e w1 ⟨rfl, rfl⟩
      go_wp2_with fail
      refine (HC.out _).mono ?_
      rintro e w2 ⟨rfl, hb2⟩
      go_wp2_with fail
      clear z1
      go_loopw [4, 5] (fun n i wr => ∃ k m : Nat, k ≤ s.size ∧ i = .int .i64 k ∧ n = .int .u64 m ∧ Below w1.heap.size w1 wr ∧ Hid (dval m (s.data.toList.drop k) = v)) (fun _ i _ => s.size - (intOf i).toNat)
      case atStart => exact ⟨0, 0, by omega, rfl, rfl, hb2, HV⟩
      case round =>
        obtain ⟨k, m, hk, rfl, rfl, hbw, hc⟩ := hrel
        by_cases hlt : k < s.size
        · have hcc := hc.out
          have hdk := HD.out k hlt
          rw [drop_at s k hlt] at hcc
          obtain ⟨x, hx⟩ : ∃ x, s[k].toNat = x := ⟨_, rfl⟩
          have hcc : dval (m * 10 + (s[k].toNat - 48)) (s.data.toList.drop (k + 1)) = v := hcc
          rw [hx] at hcc hdk
          have hge := dval_ge (s.data.toList.drop (k + 1)) (m * 10 + (x - 48))
          have hvb := HB.out
          have y1 : (k : Int) < s.size := by omega
          have y2 : (48 : Int) ≤ x := by omega
          have y3 : (x : Int) ≤ 57 := by omega
          have y4 : (10 : Int) * m ≤ 18446744073709551615 := by omega
          have y5 : (10 : Int) * m + (x - 48) ≤ 18446744073709551615 := by omega
          have hmz : (10 : Int) * m + (x - 48) = ((m * 10 + (x - 48) : Nat) : Int) := by omega
          have HM := Lib.hid hmz
          have HCC := Lib.hid hcc
          clear hc hcc hge hvb hdk HV HD HC hmz
          go_wp2_with fail
          go_roundw
          case rel => exact ⟨k + 1, m * 10 + (x - 48), by omega, by go_num, by rw [HM.out], hbw, HCC⟩
          case measure => simp [intOf]; omega
        · obtain rfl : k = s.size := by omega
          have y1 : ¬ ((s.size : Nat) : Int) < s.size := by omega
          have hcc := hc.out
          rw [List.drop_eq_nil_of_le (by simp)] at hcc
          have hcc : m = v := hcc
          subst hcc
          clear HV HC HD HB hc
          go_wp2_with fail
          go_ret2
          exact ⟨rfl, hbw⟩
end Go.Proofs.YtfckekaegjjmkaaGreatDoor
namespace Go.Proofs.YtfckekaegjjmkaaGreatDoor
open Go.RowKit Go.Shelf

/-- A row of bytes known whole, as a string. -/
theorem run_convB {P : Program} {src dst e : TypeId} (hs : P.underlying src = some (.slice e)) (he : P.underlying e = some (.int .u8)) (hd : P.underlying dst = some .string) (l : List UInt8) (W : World) (b n : Nat) (hn : n = l.length) (h : Blk W b (byteVals l).toArray e) :
    (convert src dst (.slice (some ⟨b, 0, none⟩) n n)).run P W = .ok (.string ⟨l.toArray⟩) W := by
  subst hn
  refine run_convert_bytes_back _ src dst e ⟨b, 0, none⟩ l.length l hs he hd (fun j hj => ?_)
  have ea : (⟨b, 0, none⟩ : Addr).add j = ⟨b, j, none⟩ := by
    unfold Addr.add
    split
    · rename_i h0
      rw [h0]
    · simp
  rw [ea, h.cell j]
  simp [byteVals, hj]
theorem run_convD {P : Program} {src dst e : TypeId} (hs : P.underlying src = some (.slice e)) (he : P.underlying e = some (.int .u8)) (hd : P.underlying dst = some .string) (W : World) (d : Nat) (h : d < 10) :
    (convert src dst (.slice (some ⟨W.heap.size, 0, none⟩) 1 1)).run P (W.alloc (.cells #[.int .u8 (48 + (d : Int))] e)) = .ok (.string ⟨#[UInt8.ofNat (48 + d)]⟩) (W.alloc (.cells #[.int .u8 (48 + (d : Int))] e)) := by
  have hv : (byteVals [UInt8.ofNat (48 + d)]).toArray = #[.int .u8 (48 + (d : Int))] := by
    have : ((UInt8.ofNat (48 + d)).toNat : Int) = 48 + (d : Int) := by
      rw [UInt8.toNat_ofNat']
      omega
    simp [byteVals]
    omega
  refine run_convB hs he hd [UInt8.ofNat (48 + d)] _ _ 1 rfl ?_
  rw [hv]
  exact Blk.new W _ _
end Go.Proofs.YtfckekaegjjmkaaGreatDoor
namespace Go.Proofs.YtfckekaegjjmkaaGreatDoor
open Go.RowKit Go.Shelf

theorem nDigits_le : ∀ (k u : Nat), u < 10 ^ (k + 1) → Lib.nDigits u ≤ k + 1
  | 0, u, h => by
    rw [Lib.nDigits_small (by simpa using h)]
    omega
  | k + 1, u, h => by
    by_cases h10 : u < 10
    · rw [Lib.nDigits_small h10]
      omega
    · rw [Lib.nDigits_big h10]
      have := nDigits_le k (u / 10) (by rw [Nat.pow_succ] at h; omega)
      omega
end Go.Proofs.YtfckekaegjjmkaaGreatDoor
namespace Go.Proofs.YtfckekaegjjmkaaGreatDoor
open Go.RowKit Go.Shelf

set_option maxHeartbeats 2000000 in
set_option maxRecDepth 100000 in
theorem ref_Of : ∀ (f n : Nat), n < f → n ≤ 18446744073709551615 → ∀ w : World,
    Calls Tryz.prog 33 #[.int .u64 (n : Int)] w fun e w' => e = .returned (.string ⟨(Lib.decDigits n).toArray⟩) ∧ Below w.heap.size w w' := by
  intro f
  induction f with
  | zero =>
    intro n hf
    exact absurd hf (by omega)
  | succ f ih =>
    intro n hf hn w
    obtain ⟨d, hd⟩ : ∃ d, n % 10 = d := ⟨_, rfl⟩
    have hdz : (n : Int) % 10 = (d : Int) := by omega
    have hd10 : d < 10 := by omega
    have kcv := run_convD (P := Tryz.prog) Tryz.underlying72 Tryz.underlying5 Tryz.underlying9 w d hd10
    obtain ⟨ch, hch⟩ : ∃ ch, UInt8.ofNat (48 + d) = ch := ⟨_, rfl⟩
    rw [hch] at kcv
    have q1 : 0 ≤ 48 + (d : Int) ∧ 48 + (d : Int) < 256 := by omega
    by_cases h1 : n < 10
    · rw [Lib.decDigits_one h1, show 48 + n = 48 + d by omega, hch]
      have z1 : (n : Int) < 10 := by omega
      clear ih hd10 hch
      go_enter Tryz.func33, Tryz.ntmps33
      go_wp2_with fail
      go_ret
      exact ⟨rfl, (Below.refl _ w).alloc (Nat.le_refl _) _⟩
    · rw [Lib.decDigits, dif_neg h1, hd, hch]
      have z1 : ¬ (n : Int) < 10 := by omega
      obtain ⟨q, hq⟩ : ∃ q, n / 10 = q := ⟨_, rfl⟩
      have hqz : (n : Int) / 10 = (q : Int) := by omega
      rw [hq]
      have HI := Lib.hid (ih q (by omega) (by omega))
      obtain ⟨qs, hqs⟩ : ∃ qs : ByteArray, (⟨(Lib.decDigits q).toArray⟩ : ByteArray) = qs := ⟨_, rfl⟩
      rw [hqs] at HI
      have hcat : (⟨(Lib.decDigits q ++ [ch]).toArray⟩ : ByteArray) = qs ++ ⟨#[ch]⟩ := by
        apply str_ext
        rw [← hqs]
        simp
      rw [hcat]
      have hqz2 : qs.size + 1 ≤ 100 := by
        have h1 : qs.data.toList.length = qs.size := by simp
        have h2 := nDigits_le 19 q (by omega)
        rw [← hqs, Lib.decDigits_length, ← Lib.decDigits_length] at h1
        rw [Lib.decDigits_length] at h1
        have h3 : qs.size = Lib.nDigits q := by rw [h1, ← hqs]
        omega
      have hb1 := (Below.refl w.heap.size w).alloc (Nat.le_refl _) (.cells #[.int .u8 (48 + (d : Int))] 5)
      clear ih hd10 hqs hcat hch
      go_enter Tryz.func33, Tryz.ntmps33
      go_wp2_with fail
      refine (HI.out _).mono ?_
      rintro e w2 ⟨rfl, hb2⟩
      go_wp2_with fail
      go_ret
      exact ⟨rfl, hb1.trans (hb2.mono hb1.size)⟩
end Go.Proofs.YtfckekaegjjmkaaGreatDoor
namespace Go.Proofs.YtfckekaegjjmkaaGreatDoor
open Go.RowKit Go.Shelf

mutual
def Tr.depth : Tr → Nat
  | .nd _ l => depthL l + 1
def depthL : List Tr → Nat
  | [] => 0
  | t :: l => max t.depth (depthL l)
end
theorem Tr.depth_eq (t : Tr) : t.depth = depthL t.kids + 1 := by
  cases t
  rw [Tr.depth]
  rfl
theorem depthL_append : ∀ a b : List Tr, depthL (a ++ b) = max (depthL a) (depthL b)
  | [], b => by simp [depthL]
  | t :: a, b => by
    show max t.depth (depthL (a ++ b)) = max (max t.depth (depthL a)) (depthL b)
    rw [depthL_append a b]
    omega
theorem depthL_take (l : List Tr) (k : Nat) (hk : k < l.length) : depthL (l.take (k + 1)) = max (depthL (l.take k)) l[k].depth := by
  rw [List.take_succ_eq_append_getElem hk, depthL_append]
  simp [depthL]
mutual
theorem depth_count : ∀ t : Tr, t.depth ≤ t.count
  | .nd _ l => by
    rw [Tr.depth, Tr.count]
    have := depthL_count l
    omega
theorem depthL_count : ∀ l : List Tr, depthL l ≤ countL l
  | [] => by simp [depthL]
  | t :: l => by
    rw [depthL, countL]
    have := depth_count t
    have := depthL_count l
    omega
end

theorem sameT_own (t : Tr) (o : Own) : sameT t (.nd o t.kids) = decide (t.own = o) := by
  rw [sameT_eq]
  show (decide (t.own = o) && decide (t.kids.length = t.kids.length) && sameL t.kids t.kids) = _
  rw [sameL_refl, decide_eq_true rfl, Bool.and_true, Bool.and_true]
/-- Has a node nothing but what x has (and its kind and its list)? -/
def onlyB (o x : Own) : Bool := decide (o = { x with kind := o.kind })

def natOk (s : ByteArray) : Bool := decide (1 ≤ s.size) && (decide (s.size ≤ 400) && (!(decide (1 < s.size) && decide (s.data.toList.head? = some 48)) && s.data.toList.all isDig))
theorem all_dig {s : ByteArray} : s.data.toList.all isDig = true ↔ ∀ j (h : j < s.size), isDig s[j] = true := by
  rw [List.all_eq_true]
  constructor
  · intro h j hj
    refine h _ ?_
    rw [ByteArray.getElem_eq_getElem_data, Array.mem_toList_iff]
    exact Array.getElem_mem _
  · intro h c hc
    obtain ⟨j, hj, rfl⟩ := List.getElem_of_mem hc
    have hj' : j < s.size := by simpa using hj
    have := h j hj'
    rw [ByteArray.getElem_eq_getElem_data] at this
    simpa using this
theorem head_at0 (s : ByteArray) (h : 0 < s.size) : s.data.toList.head? = some s[0] := by
  rw [List.head?_eq_getElem?, List.getElem?_eq_getElem (by simpa using h)]
  simp [ByteArray.getElem_eq_getElem_data]

def decOk (neg : Bool) (dg : ByteArray) (ex : Int) : Bool :=
  natOk dg && (decide (dg.size ≤ 100) && (if dg.toList = [48] then decide (ex = 0) && !neg else decide (-100 ≤ ex) && (decide (ex ≤ 100) && !decide (dg.data.toList.getLast? = some 48))))

def wideB (w : Int) : Bool := decide (w = 16) || (decide (w = 32) || decide (w = 64))

def wideOk (u : Int) (wd : Int) : Bool := if wd = 64 then true else if wd = 16 then decide (u < 65536) else if wd = 32 then decide (u < 4294967296) else false

/-- No two keys are the same. -/
def KeysApart (l : List Tr) : Prop := ∀ (i k : Nat) (hi : i < l.length) (hk : k < i), i % 2 = 0 → k % 2 = 0 → sameT l[i] (l[k]'(by omega)) = false
noncomputable def keysB (l : List Tr) : Bool := @decide (KeysApart l) (Classical.propDecidable _)
noncomputable def ownB (o : Own) (l : List Tr) : Bool :=
  if o.kind = 1 then decide (l.length = 0) && onlyB o zeroO
  else if o.kind = 2 then decide (l.length = 0) && onlyB o { zeroO with b := o.b }
  else if o.kind = 3 then decide (l.length = 0) && (onlyB o { zeroO with neg := o.neg, dg := o.dg, ex := o.ex } && decOk o.neg o.dg o.ex)
  else if o.kind = 4 then decide (l.length = 0) && (onlyB o { zeroO with u := o.u, wd := o.wd } && wideOk o.u o.wd)
  else if o.kind = 5 then decide (l.length = 0) && (onlyB o { zeroO with s := o.s } && (decide (o.s.size ≤ 400) && Lib.validD o.s.data.toList))
  else if o.kind = 6 then decide (l.length = 0) && (onlyB o { zeroO with s := o.s } && decide (o.s.size ≤ 400))
  else if o.kind = 7 then onlyB o zeroO
  else if o.kind = 8 then onlyB o zeroO && (decide (l.length % 2 = 0) && keysB l)
  else if o.kind = 9 then decide (l.length = 1) && onlyB o { zeroO with u := o.u }
  else if o.kind = 10 then decide (l.length = 0) && (onlyB o { zeroO with u := o.u } && (decide (o.u ≤ 19) || (decide (o.u = 23) || (decide (32 ≤ o.u) && decide (o.u ≤ 255)))))
  else if o.kind = 11 then decide (l.length = 0) && (onlyB o { zeroO with u := o.u, s := o.s } && (decide (o.u ≤ 255) && decide (o.s.size ≤ 400)))
  else false

mutual
noncomputable def allB : Tr → Bool
  | .nd o l => ownB o l && allL l
noncomputable def allL : List Tr → Bool
  | [] => true
  | t :: l => allB t && allL l
end
theorem allB_eq (t : Tr) : allB t = (ownB t.own t.kids && allL t.kids) := by
  cases t
  rw [allB]
  rfl
theorem allL_drop (l : List Tr) (k : Nat) (h : k < l.length) : allL (l.drop k) = (allB l[k] && allL (l.drop (k + 1))) := by
  rw [List.drop_eq_getElem_cons h, allL]

/-- The reference's Right. -/
noncomputable def rightT (t : Tr) : Bool := decide (t.count ≤ 300) && (decide (t.depth ≤ 16) && allB t)
end Go.Proofs.YtfckekaegjjmkaaGreatDoor
