/- The texts PathF, PathG, RefB, put together. -/
import Derived.Test.YtgfeeakcpojicaaGreatDoorPk27
import Derived.Deep.QuietTactic
import Derived.BigQuiet
import Derived.Deep.AppendLies
import Derived.Deep.RegionLaw
import Derived.Deep.DeepMust
/- path laws: Few, Same, cut, shown. -/
namespace Go.Proofs.YtgfeeakcpojicaaGreatDoor
open Go.RowKit Go.Shelf

def fewStep (s : Stp) : Stp := (s.1, s.2.extract 0 (min (s.2.size : Int) 410).toNat)
def fewS (p : List Stp) : List Stp := (p.take 20).map fewStep
theorem fewStep_size (s : Stp) : (fewStep s).2.size ≤ 410 := by
  show (s.2.extract 0 _).size ≤ 410
  rw [ByteArray.size_extract]
  omega
theorem few_take (p : List Stp) (k : Nat) (hk : k < p.length) (_ : k < 20) : (p.take (k + 1)).map fewStep = (p.take k).map fewStep ++ [fewStep p[k]] := by
  rw [List.take_succ_eq_append_getElem hk, List.map_append]
  rfl

set_option maxHeartbeats 4000000 in
set_option maxRecDepth 100000 in
theorem law_Few (A : Option Addr) (n c : Nat) (p : List Stp) (B : Nat) (w : World) (hn : n ≤ 9223372036854775807) (hp : StepsAt w B A n p) (hB : B ≤ w.heap.size) :
    Calls Tryz.prog 8 #[.slice A n c] w fun e w' => (∃ A' c', e = .returned (.slice A' (fewS p).length c') ∧ StepsAt w' w'.heap.size A' (fewS p).length (fewS p)) ∧ Below w.heap.size w w' := by
  obtain ⟨i0, hi, hz0, hz1, hz2⟩ := info_parts infoStep
  have HI := Lib.hid hi
  have HZ0 := Lib.hid hz0
  have HZ1 := Lib.hid hz1
  have HZ2 := Lib.hid hz2
  have hlen := hp.len
  have HP := Lib.hid hp
  clear hi hz0 hz1 hz2 hp
  go_enter Tryz.func8, Tryz.ntmps8
  go_wp2_with fail
  go_loopw [3, 4] (fun v i wr => ∃ k : Nat, k ≤ n ∧ k ≤ 20 ∧ i = .int .i64 k ∧ wr.ownsRow w.heap.size 53 2 v k (stepCells ((p.take k).map fewStep)) ∧ Below w.heap.size w wr) (fun _ i _ => n - (intOf i).toNat)
  case atStart => exact ⟨0, by omega, by omega, rfl, World.ownsRow_nil _ _ _ _, Below.refl _ _⟩
  case round =>
    obtain ⟨k, hk, hk20, rfl, hown, hbw⟩ := hrel
    obtain ⟨A', c', rfl⟩ := own_slice hown
    have hzw := hbw.size
    by_cases hlt : k < n ∧ k < 20
    · obtain ⟨hl1, hl2⟩ := hlt
      have hkp : k < p.length := by omega
      obtain ⟨ad, rfl, hab, hc0, hc1, hks⟩ := (HP.out.below hbw hB).at_ hkp
      have hft := few_take p k hkp hl2
      obtain ⟨⟨i, key⟩, hs⟩ : ∃ s, p[k] = s := ⟨_, rfl⟩
      rw [hs] at hc0 hc1 hks hft
      simp only [] at hc0 hc1 hks
      have z1 : (k : Int) < n := by omega
      have z2 : (k : Int) < 20 := by omega
      have z3 : (0 : Int) ≤ min (key.size : Int) 410 := by omega
      have z4 : min (key.size : Int) 410 ≤ key.size := by omega
      have HFT := Lib.hid hft
      obtain ⟨kc, hkc⟩ : ∃ kc, key.extract 0 (min (key.size : Int) 410).toNat = kc := ⟨_, rfl⟩
      have HKC := Lib.hid hkc
      clear hs hft hlen hkc
      have hownD : (wr.alloc (.cells #[.int .i64 i, .string (key.extract 0 (min (key.size : Int) 410).toNat)] 53)).drew.ownsRow w.heap.size 53 2 (.slice A' k c') k (stepCells ((p.take k).map fewStep)) := hown.alloc _
      have c1 : ∀ j u, ([.int .i64 i, .string (key.extract 0 (min (key.size : Int) 410).toNat)] : List Value)[j]? = some u → (wr.alloc (.cells #[.int .i64 i, .string (key.extract 0 (min (key.size : Int) 410).toNat)] 53)).drew.cell? ((⟨wr.heap.size, 0, none⟩ : Addr).add j) = some u := by
        intro j u hj
        have hbk : Blk (wr.alloc (.cells #[.int .i64 i, .string (key.extract 0 (min (key.size : Int) 410).toNat)] 53)).drew wr.heap.size #[.int .i64 i, .string (key.extract 0 (min (key.size : Int) 410).toNat)] 53 := (Blk.new wr _ _).drew
        match j, hj with
        | 0, hj => exact (hbk.cell 0).trans hj
        | 1, hj => exact (hbk.cell 1).trans hj
        | j + 2, hj => simp at hj
      have c2 : ∀ u ∈ ([.int .i64 i, .string (key.extract 0 (min (key.size : Int) 410).toNat)] : List Value), u.oneCell' = true := by
        intro u hu
        simp at hu
        rcases hu with rfl | rfl <;> rfl
      have c5 : w.heap.size ≤ (wr.alloc (.cells #[.int .i64 i, .string (key.extract 0 (min (key.size : Int) 410).toNat)] 53)).drew.heap.size := by
        show w.heap.size ≤ (wr.alloc _).heap.size
        simp
        omega
      have C1 := Lib.hid c1
      have C2 := Lib.hid c2
      have C5 := Lib.hid c5
      have C3 := Lib.hid (show k + 1 ≤ maxLen by unfold maxLen; omega)
      have C4 := Lib.hid (show (k + 1) * 24 ≤ 140737488355328 by omega)
      have HO := Lib.hid hownD
      clear c1 c2 c5 hownD
      go_wp2_with fail
      go_region_law (refine step_append_lies _ rfl (.tmp 15) (.tmp 35) 22 rfl w.heap.size 53 i0 (.agg #[.int .i64 0, .string ⟨#[]⟩]) 2 24 Tryz.underlying22 HI.out HZ0.out HZ1.out HZ2.out rfl (by decide) (.slice A' k c') k _ (by simp [Act.eval, Act.put]) HO.out ⟨wr.heap.size, 0, none⟩ 1 1 [.int .i64 i, .string (key.extract 0 (min (key.size : Int) 410).toNat)] (by simp [Act.eval, Act.put]) rfl C1.out C2.out (by decide) C3.out C4.out C5.out _ rfl ?_; intro g cap w2 hown' hgrow hgg hgl)
      all_goals
        have hb3 : Below w.heap.size w w2 := (hbw.alloc hzw (.cells #[.int .i64 i, .string (key.extract 0 (min (key.size : Int) 410).toNat)] 53)).drew.grown hgrow C5.out (fun k hk => (hown.lt k hk).1)
        have hown2 : w2.ownsRow w.heap.size 53 2 (.slice (some ⟨g, 0, none⟩) (k + 1) cap) (k + 1) (stepCells ((p.take (k + 1)).map fewStep)) := by
          rw [HFT.out, stepCells_append]
          have h := hown'
          exact h
        clear hown hown' hgrow hbw hgg hgl
        go_wp2_with fail
        go_roundw
        case rel => exact ⟨k + 1, by omega, by omega, by go_num, hown2, hb3⟩
        case measure => simp [intOf]; omega
    · have hfew : (p.take k).map fewStep = fewS p := by
        unfold fewS
        congr 1
        by_cases h1 : k < n
        · obtain rfl : k = 20 := by omega
          rfl
        · obtain rfl : k = n := by omega
          rw [← hlen, List.take_length, List.take_of_length_le (by omega)]
      have hkl : (fewS p).length = k := by
        unfold fewS
        rw [List.length_map, List.length_take]
        omega
      rw [hfew] at hown
      have hsa : StepsAt wr wr.heap.size A' (fewS p).length (fewS p) := by
        rw [hkl]
        refine ⟨hkl, Lies.own hown, fun x hx => ?_⟩
        obtain ⟨y, _, rfl⟩ := List.mem_map.1 hx
        have := fewStep_size y
        omega
      have HSA := Lib.hid hsa
      have HKL := Lib.hid hkl
      clear hfew hkl hown hsa hlen
      by_cases h1 : k < n
      · obtain rfl : k = 20 := by omega
        have z1 : (20 : Int) < n := by omega
        simp only [Int.cast_ofNat_Int]
        go_wp2_with fail
        go_ret
        exact ⟨⟨A', c', by rw [HKL.out]; rfl, HSA.out⟩, hbw⟩
      · have z1 : (n : Int) ≤ k := by omega
        go_wp2_with fail
        go_ret
        exact ⟨⟨A', c', by rw [HKL.out]; rfl, HSA.out⟩, hbw⟩

set_option maxHeartbeats 2000000 in
set_option maxRecDepth 100000 in
theorem ref_Same (A A' : Option Addr) (n c c' : Nat) (p : List Stp) (B : Nat) (w : World) (hn : n ≤ 9223372036854775807) (hp : StepsAt w B A n p) (hp' : StepsAt w B A' n p) (hB : B ≤ w.heap.size) :
    Calls Tryz.prog 13 #[.slice A n c, .slice A' n c'] w fun e w' => e = .returned (.bool true) ∧ Below w.heap.size w w' := by
  have hlen := hp.len
  have HP := Lib.hid hp
  have HP' := Lib.hid hp'
  clear hp hp'
  go_enter Tryz.func13, Tryz.ntmps13
  go_wp2_with fail
  go_loopw [5] (fun i wr => ∃ k : Nat, k ≤ n ∧ i = .int .i64 k ∧ Below w.heap.size w wr) (fun i _ => n - (intOf i).toNat)
  case atStart => exact ⟨0, by omega, rfl, Below.refl _ _⟩
  case round =>
    obtain ⟨k, hk, rfl, hbw⟩ := hrel
    by_cases hlt : k < n
    · have hkp : k < p.length := by omega
      obtain ⟨ad, rfl, hab, hc0, hc1, hks⟩ := (HP.out.below hbw hB).at_ hkp
      obtain ⟨ad', rfl, hab', hc0', hc1', _⟩ := (HP'.out.below hbw hB).at_ hkp
      obtain ⟨⟨i, key⟩, hs⟩ : ∃ s, p[k] = s := ⟨_, rfl⟩
      rw [hs] at hc0 hc1 hc0' hc1'
      simp only [] at hc0 hc1 hc0' hc1'
      have z1 : (k : Int) < n := by omega
      have z0 : (0 : Int) ≤ k := by omega
      clear hs hlen hks
      go_wp2_with fail
      go_quiet (fail)
      go_wp2_with fail
      go_roundw
      case rel => exact ⟨k + 1, by omega, by go_num, below_drewN hbw _⟩
      case measure => simp [intOf]; omega
    · obtain rfl : k = n := by omega
      have z1 : ¬ (k : Int) < k := by omega
      clear hlen
      go_wp2_with fail
      go_ret
      exact ⟨rfl, hbw⟩
end Go.Proofs.YtgfeeakcpojicaaGreatDoor
/- path: the plain law: a code is decoded again. -/
namespace Go.Proofs.YtgfeeakcpojicaaGreatDoor
open Go.RowKit Go.Shelf

theorem dval_append : ∀ (l : List UInt8) (acc : Nat) (c : UInt8), dval acc (l ++ [c]) = dval acc l * 10 + (c.toNat - 48)
  | [], _, _ => rfl
  | b :: l, acc, c => dval_append l (acc * 10 + (b.toNat - 48)) c
theorem digit_byte (d : Nat) (h : d < 10) : (UInt8.ofNat (48 + d)).toNat = 48 + d := by
  rw [UInt8.toNat_ofNat']
  omega
theorem dec_facts (u : Nat) : dval 0 (Lib.decDigits u) = u ∧ (∀ c ∈ Lib.decDigits u, isDig c = true) ∧ Lib.decDigits u ≠ [] := by
  induction u using Nat.strongRecOn with
  | _ u ih =>
    by_cases h : u < 10
    · rw [Lib.decDigits_one h]
      refine ⟨?_, ?_, by simp⟩
      · show 0 * 10 + ((UInt8.ofNat (48 + u)).toNat - 48) = u
        rw [digit_byte u h]
        omega
      · intro c hc
        rw [List.mem_singleton.1 hc]
        unfold isDig
        rw [digit_byte u h, Bool.and_eq_true, decide_eq_true_iff, decide_eq_true_iff]
        omega
    · obtain ⟨h1, h2, h3⟩ := ih (u / 10) (by omega)
      rw [Lib.decDigits, dif_neg h]
      refine ⟨?_, ?_, by simp⟩
      · rw [dval_append, h1, digit_byte _ (by omega)]
        omega
      · intro c hc
        rcases List.mem_append.1 hc with q | q
        · exact h2 c q
        · rw [List.mem_singleton.1 q]
          unfold isDig
          rw [digit_byte _ (by omega), Bool.and_eq_true, decide_eq_true_iff, decide_eq_true_iff]
          omega
theorem digN_all : ∀ (l t : List UInt8), (∀ c ∈ l, isDig c = true) → digN t = 0 → digN (l ++ t) = l.length
  | [], t, _, ht => ht
  | c :: l, t, h, ht => by
    show digN (c :: (l ++ t)) = _
    rw [digN_cons_yes (h c List.mem_cons_self), digN_all l t (fun x hx => h x (List.mem_cons_of_mem _ hx)) ht, List.length_cons]

theorem step_key (k t : List UInt8) (hv : Lib.validD k = true) : stepL (47 :: (quoteL k ++ t)) = some ((-1, k), t) := by
  rw [stepL_47]
  unfold stepR
  have h0 : digN (quoteL k ++ t) = 0 := by
    have : quoteL k ++ t = 34 :: (quoteGo k.length k ++ [34] ++ t) := by simp [quoteL]
    rw [this]
    exact digN_cons_no (by decide)
  rw [h0, if_neg (by omega), unquote_quote hv t]
  rfl
theorem step_place (u : Nat) (hu : u < 9223372036854775808) (t : List UInt8) (ht : digN t = 0) : stepL (47 :: (Lib.decDigits u ++ t)) = some (((u : Int), []), t) := by
  obtain ⟨h1, h2, h3⟩ := dec_facts u
  rw [stepL_47]
  unfold stepR
  rw [digN_all _ t h2 ht, if_pos (List.length_pos_iff.2 h3), List.take_left, h1, if_pos hu, List.drop_left]

theorem code_head (p : List Stp) : digN (codeS p) = 0 := by
  cases p with
  | nil => rfl
  | cons s p =>
    show digN (47 :: (_ ++ codeS p)) = 0
    exact digN_cons_no (by decide)
theorem stepRight_cases {s : Stp} (h : stepRight s = true) : (s.2.size = 0 ∧ 0 ≤ s.1) ∨ (s.1 = -1 ∧ s.2.size ≤ 400 ∧ Lib.validD s.2.data.toList = true) := by
  unfold stepRight at h
  rw [Bool.or_eq_true, Bool.and_eq_true, Bool.and_eq_true, Bool.and_eq_true] at h
  simp only [decide_eq_true_iff] at h
  rcases h with h | h
  · exact .inl h
  · exact .inr ⟨h.1.1, h.1.2, h.2⟩
theorem step_code (s : Stp) (h : stepRight s = true) (hi : s.1 < 9223372036854775808) (t : List UInt8) (ht : digN t = 0) : ∃ x, stepL (stepCode s ++ t) = some (x, t) ∧ toStp x = s := by
  obtain ⟨i, k⟩ := s
  rcases stepRight_cases h with ⟨h1, h2⟩ | ⟨h1, h2, h3⟩
  · have hi' : 0 ≤ i := h2
    have e0 := str_empty h1
    refine ⟨((i.toNat : Int), []), ?_, ?_⟩
    · have hc : stepCode (i, k) = 47 :: Lib.decDigits i.toNat := by
        unfold stepCode Lib.itoa
        rw [if_neg (by omega), if_neg (by omega)]
      rw [hc]
      have hlt : i.toNat < 9223372036854775808 := by
        have : i < 9223372036854775808 := hi
        omega
      exact step_place i.toNat hlt t ht
    · show ((i.toNat : Int), (⟨#[]⟩ : ByteArray)) = (i, k)
      rw [Int.toNat_of_nonneg hi', show k = ⟨#[]⟩ from e0]
  · have h1' : i = -1 := h1
    subst h1'
    refine ⟨(-1, k.data.toList), ?_, ?_⟩
    · have hc : stepCode (-1, k) = 47 :: quoteL k.data.toList := by
        unfold stepCode
        rw [if_pos (show ((-1 : Int), k).1 < 0 from by show (-1 : Int) < 0; decide)]
      rw [hc]
      exact step_key _ t h3
    · show ((-1 : Int), (⟨k.data.toList.toArray⟩ : ByteArray)) = (-1, k)
      rw [str_back']
theorem stepCode_ne (s : Stp) (t : List UInt8) : stepCode s ++ t ≠ [] := by
  unfold stepCode
  simp
theorem parse_code : ∀ (q : List Stp) (f : Nat) (acc : List Stp), (∀ s ∈ q, stepRight s = true) → (∀ s ∈ q, s.1 < 9223372036854775808) → acc.length + q.length ≤ 16 → q.length ≤ f → parseA (f + 1) (codeS q) acc = some (acc ++ q)
  | [], f, acc, _, _, _, _ => by
    rw [List.append_nil]
    rfl
  | s :: q, f, acc, h, hi, hl, hf => by
    rw [List.length_cons] at hl hf
    obtain ⟨f, rfl⟩ : ∃ g, f = g + 1 := ⟨f - 1, by omega⟩
    obtain ⟨x, hx, hxs⟩ := step_code s (h s List.mem_cons_self) (hi s List.mem_cons_self) (codeS q) (code_head q)
    show parseA (f + 1 + 1) (stepCode s ++ codeS q) acc = _
    rw [parseA_some (f + 1) acc (stepCode_ne s _) hx, if_neg (by omega), hxs, parse_code q f (acc ++ [s]) (fun y hy => h y (List.mem_cons_of_mem _ hy)) (fun y hy => hi y (List.mem_cons_of_mem _ hy)) (by rw [List.length_append, List.length_singleton]; omega) (by omega), List.append_assoc]
    rfl
theorem codeS_len : ∀ p : List Stp, p.length ≤ (codeS p).length
  | [] => by simp [codeS]
  | s :: p => by
    have := codeS_len p
    show _ ≤ (stepCode s ++ codeS p).length
    rw [List.length_append, List.length_cons]
    have : 1 ≤ (stepCode s).length := by unfold stepCode; simp
    omega
/-- A right path's code is that path's. -/
theorem decode_code {p : List Stp} (h : rightS p = true) (hi : ∀ s ∈ p, s.1 < 9223372036854775808) : decodeS (codeS p) = some p := by
  have h' := h
  unfold rightS at h'
  rw [Bool.and_eq_true, decide_eq_true_iff] at h'
  have hp : parseA ((codeS p).length + 1) (codeS p) [] = some p := parse_code p _ [] (List.all_eq_true.1 h'.2) hi (by simpa using h'.1) (codeS_len p)
  rw [decodeS_some hp, if_pos ⟨h, rfl⟩]
theorem decode_some {l : List UInt8} {p : List Stp} (h : decodeS l = some p) : rightS p = true ∧ codeS p = l := by
  unfold decodeS at h
  split at h
  · cases h
  · split at h
    · rename_i hc
      cases h
      exact hc
    · cases h
theorem stepCode_max (s : Stp) (h : stepRight s = true) (hi : s.1 < 9223372036854775808) : (stepCode s).length ≤ 2500 := by
  obtain ⟨i, k⟩ := s
  rcases stepRight_cases h with ⟨h1, h2⟩ | ⟨h1, h2, h3⟩
  · have hi' : 0 ≤ i := h2
    unfold stepCode
    rw [if_neg (by omega), List.length_cons]
    have := itoa_len i (by omega) hi
    show (Lib.itoa i).length + 1 ≤ _
    omega
  · have h1' : i = -1 := h1
    unfold stepCode
    rw [if_pos (by omega), List.length_cons]
    have := quoteL_len k.data.toList
    have e : k.data.toList.length = k.size := by simp
    have h2' : k.size ≤ 400 := h2
    show (quoteL k.data.toList).length + 1 ≤ _
    omega
theorem codeS_max : ∀ p : List Stp, (∀ s ∈ p, stepRight s = true) → (∀ s ∈ p, s.1 < 9223372036854775808) → (codeS p).length ≤ 2500 * p.length
  | [], _, _ => by simp [codeS]
  | s :: p, h, hi => by
    have h1 := codeS_max p (fun y hy => h y (List.mem_cons_of_mem _ hy)) (fun y hy => hi y (List.mem_cons_of_mem _ hy))
    have h2 := stepCode_max s (h s List.mem_cons_self) (hi s List.mem_cons_self)
    show (stepCode s ++ codeS p).length ≤ _
    rw [List.length_append, List.length_cons]
    omega
end Go.Proofs.YtgfeeakcpojicaaGreatDoor
/- Naturals as digits, in plain arithmetic: which of two is the greater one (targumref01.compare), and when one stays below 2 to the 64 (targumref01.To). No function of the program. -/
namespace Go.Proofs.YtgfeeakcpojicaaGreatDoor

/-- The order of two rows of bytes of one length: by the first place where they differ. -/
def cmpL : List UInt8 → List UInt8 → Int
  | x :: a, y :: b => if x.toNat < y.toNat then -1 else if y.toNat < x.toNat then 1 else cmpL a b
  | _, _ => 0
/-- targumref01.compare. -/
def cmpN (a b : List UInt8) : Int := if a.length < b.length then -1 else if b.length < a.length then 1 else cmpL a b

theorem isDig_iff {c : UInt8} (h : isDig c = true) : 48 ≤ c.toNat ∧ c.toNat ≤ 57 := by
  simpa [isDig] using h
theorem dval_lt : ∀ (l : List UInt8) (acc : Nat), (∀ c ∈ l, isDig c = true) → dval acc l < (acc + 1) * 10 ^ l.length
  | [], acc, _ => by
    rw [List.length_nil, Nat.pow_zero, Nat.mul_one]
    exact Nat.lt_succ_self acc
  | c :: l, acc, h => by
    have hc := isDig_iff (h c List.mem_cons_self)
    have := dval_lt l (acc * 10 + (c.toNat - 48)) (fun x hx => h x (List.mem_cons_of_mem _ hx))
    show dval (acc * 10 + (c.toNat - 48)) l < _
    rw [List.length_cons, Nat.pow_succ, Nat.mul_comm (10 ^ _) 10, ← Nat.mul_assoc]
    exact Nat.lt_of_lt_of_le this (Nat.mul_le_mul_right _ (by omega))
theorem dval_le : ∀ (l : List UInt8) (acc : Nat), acc * 10 ^ l.length ≤ dval acc l
  | [], acc => by
    rw [List.length_nil, Nat.pow_zero, Nat.mul_one]
    exact Nat.le_refl acc
  | c :: l, acc => by
    have := dval_le l (acc * 10 + (c.toNat - 48))
    show _ ≤ dval (acc * 10 + (c.toNat - 48)) l
    rw [List.length_cons, Nat.pow_succ, Nat.mul_comm (10 ^ _) 10, ← Nat.mul_assoc]
    exact Nat.le_trans (Nat.mul_le_mul_right _ (by omega)) this
theorem cmpL_gt : ∀ (a b : List UInt8) (acc : Nat), a.length = b.length → (∀ c ∈ a, isDig c = true) → (∀ c ∈ b, isDig c = true) → (0 < cmpL a b ↔ dval acc b < dval acc a)
  | [], [], acc, _, _, _ => by simp [cmpL]
  | x :: a, y :: b, acc, hl, ha, hb => by
    have hx := isDig_iff (ha x List.mem_cons_self)
    have hy := isDig_iff (hb y List.mem_cons_self)
    have ha' : ∀ c ∈ a, isDig c = true := fun c hc => ha c (List.mem_cons_of_mem _ hc)
    have hb' : ∀ c ∈ b, isDig c = true := fun c hc => hb c (List.mem_cons_of_mem _ hc)
    have hl' : a.length = b.length := by simpa using hl
    show 0 < (if x.toNat < y.toNat then (-1 : Int) else if y.toNat < x.toNat then 1 else cmpL a b) ↔ dval (acc * 10 + (y.toNat - 48)) b < dval (acc * 10 + (x.toNat - 48)) a
    by_cases h1 : x.toNat < y.toNat
    · rw [if_pos h1]
      have h2 := dval_lt a (acc * 10 + (x.toNat - 48)) ha'
      have h3 := dval_le b (acc * 10 + (y.toNat - 48))
      have h4 : (acc * 10 + (x.toNat - 48) + 1) * 10 ^ a.length ≤ (acc * 10 + (y.toNat - 48)) * 10 ^ b.length := by
        rw [hl']
        exact Nat.mul_le_mul_right _ (by omega)
      constructor
      · intro h; omega
      · intro h; omega
    rw [if_neg h1]
    by_cases h2 : y.toNat < x.toNat
    · rw [if_pos h2]
      have h3 := dval_lt b (acc * 10 + (y.toNat - 48)) hb'
      have h4 := dval_le a (acc * 10 + (x.toNat - 48))
      have h5 : (acc * 10 + (y.toNat - 48) + 1) * 10 ^ b.length ≤ (acc * 10 + (x.toNat - 48)) * 10 ^ a.length := by
        rw [hl']
        exact Nat.mul_le_mul_right _ (by omega)
      constructor
      · intro _; omega
      · intro _; omega
    rw [if_neg h2, show x.toNat = y.toNat by omega]
    exact cmpL_gt a b _ hl' ha' hb'

/-- 2 to the 64, less 1, in digits. -/
def maxDigits : List UInt8 := [49, 56, 52, 52, 54, 55, 52, 52, 48, 55, 51, 55, 48, 57, 53, 53, 49, 54, 49, 53]
theorem maxDigits_val : dval 0 maxDigits = 18446744073709551615 := by decide +kernel
theorem maxDigits_dig : ∀ c ∈ maxDigits, isDig c = true := by decide +kernel

/-- A natural in digits, without a 0 ahead, is greater than 2 to the 64, less 1, just if 'compare' tells so. -/
theorem cmpN_max (a : List UInt8) (ha : ∀ c ∈ a, isDig c = true) (hz : a.length ≤ 1 ∨ a.head? ≠ some 48) : 0 < cmpN a maxDigits ↔ 18446744073709551615 < dval 0 a := by
  unfold cmpN
  have hm : maxDigits.length = 20 := rfl
  have hlt := dval_lt a 0 ha
  by_cases h1 : a.length < 20
  · rw [hm, if_pos h1]
    have : 10 ^ a.length ≤ 10 ^ 19 := Nat.pow_le_pow_right (by omega) (by omega)
    constructor
    · intro h; omega
    · intro h; omega
  rw [hm, if_neg h1]
  by_cases h2 : 20 < a.length
  · rw [if_pos h2]
    refine ⟨fun _ => ?_, fun _ => by omega⟩
    cases a with
    | nil => simp at h2
    | cons c l =>
      have hc := isDig_iff (ha c List.mem_cons_self)
      have hne : c.toNat ≠ 48 := by
        intro e
        rcases hz with hz | hz
        · omega
        · exact hz (by rw [List.head?_cons, show c = 48 from UInt8.toNat_inj.1 e])
      have h3 := dval_le l (0 * 10 + (c.toNat - 48))
      have h4 : 10 ^ 20 ≤ 10 ^ l.length := Nat.pow_le_pow_right (by omega) (by simp at h2; omega)
      have h5 : 1 * 10 ^ l.length ≤ (0 * 10 + (c.toNat - 48)) * 10 ^ l.length := Nat.mul_le_mul_right _ (by omega)
      show _ < dval (0 * 10 + (c.toNat - 48)) l
      omega
  · rw [if_neg h2, ← maxDigits_val]
    exact cmpL_gt a maxDigits 0 (by omega) ha maxDigits_dig
end Go.Proofs.YtgfeeakcpojicaaGreatDoor
