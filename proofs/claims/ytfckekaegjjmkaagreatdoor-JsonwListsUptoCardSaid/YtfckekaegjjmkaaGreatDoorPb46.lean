/- The texts JwLP, RtA, put together. -/
import Derived.Test.YtfckekaegjjmkaaGreatDoorPb45
import Derived.Test.YtfckekaegjjmkaaGreatDoorPb04
import Derived.Test.YtfckekaegjjmkaaGreatDoorPb12
namespace Go.Proofs.YtfckekaegjjmkaaGreatDoor
open Go.RowKit Go.Shelf

/-- The array that the law makes. -/
abbrev outJ (g : List Tr) : Tr := .nd { zeroO with kind := 7 } g
/-- What the law puts together: what is written of each, with commas between. -/
noncomputable def sepJ : Bool → List Tr → List UInt8
  | _, [] => []
  | b, t :: l => (if b = true then [] else [44]) ++ ((wroteJ false t (checkT 1 flJ t)).data.toList ++ sepJ false l)
theorem sep_snoc (t : Tr) : ∀ (l : List Tr) (b : Bool), sepJ b (l ++ [t]) = sepJ b l ++ ((if b = true ∧ l = [] then [] else [44]) ++ (wroteJ false t (checkT 1 flJ t)).data.toList)
  | [], b => by
    rw [List.nil_append, sepJ, sepJ, sepJ]
    cases b <;> simp
  | s :: l, b => by
    rw [List.cons_append, sepJ, sepJ, sep_snoc t l false]
    simp
theorem sep_rows : ∀ (l : List Tr) (b : Bool), (∀ t ∈ l, checkT 1 flJ t = 0) → sepJ b l = jsA quoteL false 1 b l
  | [], b, _ => by rw [sepJ, jsA]
  | t :: l, b, h => by
    have e : (wroteJ false t (checkT 1 flJ t)).data.toList = jsT quoteL false 1 t := by
      rw [h t (by simp), wroteJ, if_pos rfl]
      exact plain_T quoteL t 0 1
    rw [sepJ, jsA, sep_rows l false (fun s hs => h s (by simp [hs])), e]
    rfl
theorem wrote_len (t : Tr) : (wroteJ false t (checkT 1 flJ t)).size ≤ 900000 := by
  unfold wroteJ
  split
  · rename_i h
    have hk := checkJ_ok h
    have := jsT_bound false t 0 (okJ_of t hk.2.2.1 hk.2.2.2) hk.2.2.1 (by omega)
    show (jsT quoteL false 0 t).toArray.size ≤ _
    rw [List.size_toArray]
    omega
  · exact Nat.zero_le _
theorem allL_ofJ : ∀ {l : List Tr}, (∀ t ∈ l, allB t = true) → allL l = true
  | [], _ => by rw [allL]
  | t :: l, h => by
    rw [allL, h t (by simp), allL_ofJ (fun s hs => h s (by simp [hs]))]
    rfl
theorem fitL_ofJ {f : Int} {fl : Own → Bool} : ∀ {l : List Tr}, (∀ t ∈ l, fitT f fl t = true) → fitL f fl l = true
  | [], _ => by rw [fitL]
  | t :: l, h => by
    rw [fitL, h t (by simp), fitL_ofJ (fun s hs => h s (by simp [hs]))]
    rfl
/-- Are all of them right? -/
def OkAll (b : Bool) (g : List Tr) : Prop := b = true ↔ ∀ t ∈ g, checkT 1 flJ t = 0
/-- All of them are right: the array is, if it is not too great. -/
theorem out_yes {g : List Tr} (hg : ∀ t ∈ g, checkT 1 flJ t = 0) : checkT 1 flJ (outJ g) = if (outJ g).count ≤ 300 ∧ (outJ g).depth ≤ 16 then 0 else 60 := by
  have ha : allB (outJ g) = true := by
    rw [allB, allL_ofJ (fun t ht => (checkJ_ok (hg t ht)).2.2.1)]
    have : ownB { zeroO with kind := 7 } g = true := by simp [ownB, onlyB]
    rw [this]
    rfl
  have hf : fitT 1 flJ (outJ g) = true := by
    rw [fitT, fitL_ofJ (fun t ht => (checkJ_ok (hg t ht)).2.2.2)]
    have : fitO 1 flJ { zeroO with kind := 7 } g = true := by simp [fitO]
    rw [this]
    rfl
  unfold checkT rightT
  rw [ha, hf]
  by_cases h1 : (outJ g).count ≤ 300
  · by_cases h2 : (outJ g).depth ≤ 16
    · simp [h1, h2]
    · simp [h1, h2]
  · simp [h1]
/-- One of them is not: the array is not. -/
theorem out_no {g : List Tr} (h : checkT 1 flJ (outJ g) = 0) : ∀ t ∈ g, checkT 1 flJ t = 0 := fun t ht => by
  obtain ⟨h1, h2, h3, h4⟩ := checkJ_ok h
  rw [allB, Bool.and_eq_true] at h3
  rw [fitT, Bool.and_eq_true] at h4
  have hd := depth_node (outJ g)
  have hd : (outJ g).depth = 1 + depthL g := hd
  have hc : (outJ g).count = 1 + countL g := Tr.count_eq _
  have g1 := countL_mem ht
  have g2 := depthL_mem ht
  unfold checkT rightT
  rw [if_pos, if_pos (fitL_memJ h4.2 ht)]
  rw [Bool.and_eq_true, Bool.and_eq_true, decide_eq_true_iff, decide_eq_true_iff]
  exact ⟨by omega, by omega, allL_memJ h3.2 ht⟩
theorem out_doc {g : List Tr} (hg : ∀ t ∈ g, checkT 1 flJ t = 0) : jsT quoteL false 0 (outJ g) = 91 :: (sepJ true g ++ [93]) := by
  rw [sep_rows g true hg, jsT, if_neg (by decide), if_neg (by decide), if_neg (by decide), if_neg (by decide), if_pos rfl]
  split
  · rename_i h
    rw [List.length_eq_zero_iff.1 h, jsA]
  · show 91 :: ((jsA quoteL false 1 true g ++ []) ++ [93]) = _
    rw [List.append_nil]
end Go.Proofs.YtfckekaegjjmkaaGreatDoor
namespace Go.Proofs.YtfckekaegjjmkaaGreatDoor
open Go.RowKit Go.Shelf

set_option maxHeartbeats 2000000 in
set_option maxRecDepth 100000 in
theorem ref_Depth (d : Nat) : ∀ (t : Tr) (x : Value) (w : World) (B : Nat), ListAt w B d t.kids x → B ≤ w.heap.size → t.count ≤ 1000000000000 →
    Calls Tryz.prog 19 #[nodeV t.own x] w fun e w' => e = .returned (.int .i64 (t.depth : Nat)) ∧ Below w.heap.size w w' := by
  induction d using Nat.strongRecOn with
  | _ d ih =>
  intro t x w B hl hB hc
  obtain ⟨hlen, A, c, rfl⟩ := hl.slice
  have hdc := depth_count t
  rw [Tr.depth_eq] at hdc ⊢
  have hkc : ∀ l, t.kids = l → ∀ k (h : k < l.length), l[k].count ≤ 1000000000000 := by
    rintro _ rfl k h
    have := Tr.count_eq t
    have h1 := countL_take t.kids k h
    have h2 := countL_mono t.kids (k + 1)
    omega
  obtain ⟨l, hkl⟩ : ∃ l, t.kids = l := ⟨_, rfl⟩
  have hkc := hkc l hkl
  rw [hkl] at hl hlen hdc ⊢
  obtain ⟨n, hn⟩ : ∃ n, l.length = n := ⟨_, rfl⟩
  rw [hn] at hl hlen ⊢
  obtain ⟨⟨kind, b, neg, dg, ex, u, wd, s⟩, ho⟩ : ∃ o, t.own = o := ⟨_, rfl⟩
  rw [ho]
  unfold nodeV
  have HL := Lib.hid hl
  have IH := Lib.hid ih
  have HKC := Lib.hid hkc
  have hbx := (Below.refl w.heap.size w).alloc (Nat.le_refl _) (.cells #[.int .i64 kind, .bool b, .bool neg, .string dg, .int .i64 ex, .int .u64 u, .int .i64 wd, .string s, .slice A n c] 27)
  have hBx : Blk (w.alloc (.cells #[.int .i64 kind, .bool b, .bool neg, .string dg, .int .i64 ex, .int .u64 u, .int .i64 wd, .string s, .slice A n c] 27)) w.heap.size #[.int .i64 kind, .bool b, .bool neg, .string dg, .int .i64 ex, .int .u64 u, .int .i64 wd, .string s, .slice A n c] 27 := Blk.new _ _ _
  have hd2 : depthL l + 1 ≤ 1000000000000 := by omega
  clear hl ih ho hkl hkc hdc hc
  simp only []
  go_enter Tryz.func19, Tryz.ntmps19
  go_wp2_with fail
  go_loopw [3, 4] (fun m i wr => ∃ k : Nat, k ≤ n ∧ i = .int .i64 k ∧ m = .int .i64 ((depthL (l.take k) : Nat) : Int) ∧ Below w.heap.size w wr ∧ Blk wr w.heap.size #[.int .i64 kind, .bool b, .bool neg, .string dg, .int .i64 ex, .int .u64 u, .int .i64 wd, .string s, .slice A n c] 27) (fun _ i _ => n - (intOf i).toNat)
  case atStart => exact ⟨0, by omega, rfl, rfl, hbx, hBx⟩
  case round =>
    obtain ⟨k, hk, rfl, rfl, hbw, hbk⟩ := hrel
    have hfl : wr.cell? ⟨w.heap.size, 8, none⟩ = some (.slice A n c) := hbk.cell 8
    by_cases hlt : k < n
    · have hkl : k < l.length := by omega
      obtain ⟨d', ad, x', hdd, rfl, hab, hok, hna, hkk⟩ := (HL.out.below hbw hB).at_ hkl
      have htk := depthL_take l k hkl
      have HC := IH.out d' (by omega) l[k] x' wr B hkk (Nat.le_trans hB hbw.size) (HKC.out k hkl)
      obtain ⟨m0, hm0⟩ : ∃ m0, depthL (l.take k) = m0 := ⟨_, rfl⟩
      obtain ⟨m1, hm1⟩ : ∃ m1, l[k].depth = m1 := ⟨_, rfl⟩
      rw [hm0, hm1] at htk
      rw [hm1] at HC
      obtain ⟨⟨kind', b', neg', dg', ex', u', wd', s'⟩, ho'⟩ : ∃ o, l[k].own = o := ⟨_, rfl⟩
      rw [ho'] at HC hna
      unfold nodeV at HC
      obtain ⟨k0, k1, k2, k3, k4, k5, k6, k7, k8⟩ := hna
      simp only [] at k0 k1 k2 k3 k4 k5 k6 k7 k8 HC
      have HC := Lib.hid HC
      have HT := Lib.hid htk
      rw [hm0]
      have y1 : (k : Int) < n := by omega
      have y2 : max (m0 : Int) (m1 : Int) = ((max m0 m1 : Nat) : Int) := by omega
      clear htk hm0 hm1 ho' hkk hok hdd
      go_wp2_with fail
      refine HC.out.mono ?_
      rintro e w2 ⟨rfl, hb2⟩
      have hb3 := hbw.trans (hb2.mono hbw.size)
      have hbk2 := hbk.below hb2 hbk.lt
      clear hb2 HC hbk k0 k1 k2 k3 k4 k5 k6 k7 k8 hfl
      go_wp2_with fail
      go_roundw
      case rel => exact ⟨k + 1, by omega, by go_num, by first | (rw [HT.out]; done) | (rw [HT.out]; exact congrArg (Value.int .i64) (by omega)), hb3, hbk2⟩
      case measure => simp [intOf]; omega
    · obtain rfl : k = n := by omega
      have y1 : ¬ (k : Int) < k := by omega
      have hf : l.take k = l := by rw [← hn, List.take_length]
      rw [hf]
      clear hn hf
      go_wp2_with fail
      go_ret
      exact ⟨by go_num, hbw⟩

end Go.Proofs.YtfckekaegjjmkaaGreatDoor
