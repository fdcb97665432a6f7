/- The texts RefU, put together. -/
import Derived.Test.YtfckekaegjjmkaaGreatDoorPi47
import Derived.Test.YtfckekaegjjmkaaGreatDoorPi21
import Derived.Deep.AppendLies
import Derived.Deep.RegionLaw
import Derived.Deep.DeepMust
namespace Go.Proofs.YtfckekaegjjmkaaGreatDoor
open Go.RowKit Go.Shelf

theorem own_sliceR {W : World} {base size n : Nat} {e : TypeId} {v : Value} {xs : List Value} (h : W.ownsRow base e size v n xs) : ∃ A c, v = .slice A n c := by
  rcases h.2 with ⟨hv, hn⟩ | ⟨g, cap, cur, hv, _⟩
  · exact ⟨none, 0, by rw [hv, hn]⟩
  · exact ⟨_, _, hv⟩
/-- A byte, quoted. -/
def qb (c : UInt8) : List UInt8 := if signOk (c.toNat : Int) then [92, UInt8.ofNat (signC (c.toNat : Int)).toNat] else if c.toNat < 32 then [92, 117, 48, 48, hx (c.toNat / 16), hx c.toNat] else [c]
theorem signC_high {c : Nat} (h : 93 ≤ c) : signOk (c : Int) = false := by
  unfold signOk signC
  rw [if_neg (by omega), if_neg (by omega), if_neg (by omega), if_neg (by omega), if_neg (by omega), if_neg (by omega), if_neg (by omega)]
  rfl
theorem qb_high {c : UInt8} (h : 128 ≤ c.toNat) : qb c = [c] := by
  unfold qb
  rw [signC_high (by omega), if_neg (by simp), if_neg (by omega)]
theorem qb_low (c : UInt8) (h : c.toNat < 128) : qb c = quoteRune c.toNat := by
  unfold qb quoteRune
  split
  · rfl
  · split
    · rename_i h32
      unfold hex4
      have e0 : hx (c.toNat / 4096) = 48 := by rw [show c.toNat / 4096 = 0 by omega]; rfl
      have e1 : hx (c.toNat / 256) = 48 := by rw [show c.toNat / 256 = 0 by omega]; rfl
      rw [e0, e1]
      rfl
    · unfold Lib.encodeRune
      rw [Lib.encodeRuneZ_one (by omega) (by omega)]
      show [c] = [((c.toNat : Int).toNat.toUInt8)]
      congr 1
      rw [Int.toNat_natCast]
      apply UInt8.toNat_inj.1
      show c.toNat = (UInt8.ofNat c.toNat).toNat
      rw [UInt8.toNat_ofNat']
      omega
theorem encode_high {c : Nat} (h : 128 ≤ c) : ∀ b ∈ Lib.encodeRune (c : Int), 128 ≤ b.toNat := by
  have hz : ∀ b ∈ Lib.encodeRuneZ (c : Int), 128 ≤ b := by
    unfold Lib.encodeRuneZ
    split
    · omega
    · split
      · intro b hb
        simp at hb
        rcases hb with rfl | rfl <;> omega
      · split
        · intro b hb
          simp at hb
          rcases hb with rfl | rfl | rfl <;> omega
        · split
          · intro b hb
            simp at hb
            rcases hb with rfl | rfl | rfl | rfl <;> omega
          · intro b hb
            simp at hb
            rcases hb with rfl | rfl | rfl <;> omega
  intro b hb
  obtain ⟨x, hx, rfl⟩ := List.mem_map.1 hb
  have h1 := hz x hx
  have h2 := Lib.encodeRuneZ_byte (c : Int) x hx
  rw [enc_toNat h2.1 h2.2]
  omega
theorem qb_all_high : ∀ l : List UInt8, (∀ b ∈ l, 128 ≤ b.toNat) → l.flatMap qb = l
  | [], _ => rfl
  | b :: l, h => by
    rw [List.flatMap_cons, qb_high (h b List.mem_cons_self), qb_all_high l (fun x hx => h x (List.mem_cons_of_mem _ hx))]
    rfl
theorem qb_char (c : Nat) : (Lib.encodeRune (c : Int)).flatMap qb = quoteRune c := by
  by_cases h1 : c < 128
  · have he : Lib.encodeRune (c : Int) = [UInt8.ofNat c] := by
      unfold Lib.encodeRune
      rw [Lib.encodeRuneZ_one (by omega) (by omega)]
      rfl
    have hn : (UInt8.ofNat c).toNat = c := by rw [UInt8.toNat_ofNat']; omega
    rw [he, List.flatMap_cons, qb_low _ (by omega), hn]
    simp
  · rw [qb_all_high _ (encode_high (by omega))]
    unfold quoteRune
    rw [signC_high (by omega), if_neg (by simp), if_neg (by omega)]
theorem qb_text : ∀ cs : List Nat, (textOf cs).flatMap qb = quotes cs
  | [] => rfl
  | c :: cs => by
    show (Lib.encodeRune (c : Int) ++ textOf cs).flatMap qb = quoteRune c ++ quotes cs
    rw [List.flatMap_append, qb_char c, qb_text cs]
/-- The two ways to quote a text tell the same. -/
theorem quote_bytes {l : List UInt8} (hv : Lib.validD l = true) : quoteL l = [34] ++ l.flatMap qb ++ [34] := by
  obtain ⟨cs, hc, rfl⟩ := (valid_iff l).1 hv
  unfold quoteL
  rw [quoteGo_text cs _ hc (Nat.le_refl _), qb_text cs]
theorem qb_len (c : UInt8) : (qb c).length ≤ 6 := by
  unfold qb
  split
  · simp
  · split <;> simp

theorem cells_new (W : World) (cs : List Value) (t : TypeId) : ∀ j u, cs[j]? = some u → (W.alloc (.cells cs.toArray t)).cell? ((⟨W.heap.size, 0, none⟩ : Addr).add j) = some u := by
  intro j u hj
  have ea : (⟨W.heap.size, 0, none⟩ : Addr).add j = ⟨W.heap.size, j, none⟩ := by
    unfold Addr.add
    split
    · rename_i h0
      rw [h0]
    · simp
  rw [ea, (Blk.new W cs.toArray t).cell j]
  simpa using hj
theorem hex_hi (m : Nat) (h : ((m : Int) / 16).toNat < 16) : ((⟨#[48, 49, 50, 51, 52, 53, 54, 55, 56, 57, 97, 98, 99, 100, 101, 102]⟩ : ByteArray)[((m : Int) / 16).toNat]'h).toNat = (hx (m / 16)).toNat := by
  unfold hx hexAll
  simp only [show ((m : Int) / 16).toNat = m / 16 % 16 by omega]
  rfl
theorem hex_lo (m : Nat) (h : ((m : Int) % 16).toNat < 16) : ((⟨#[48, 49, 50, 51, 52, 53, 54, 55, 56, 57, 97, 98, 99, 100, 101, 102]⟩ : ByteArray)[((m : Int) % 16).toNat]'h).toNat = (hx m).toNat := by
  unfold hx hexAll
  simp only [show ((m : Int) % 16).toNat = m % 16 by omega]
  rfl
theorem info8r : (Tryz.prog.info? 5).map (fun i => (i.zero, i.size, i.bytes)) = some (some (.int .u8 0), 1, 1) := by kernel_rfl
theorem bytes_one (l : List UInt8) : ∀ u ∈ byteVals l, u.oneCell' = true := by
  intro u hu
  obtain ⟨x, _, rfl⟩ := List.mem_map.1 hu
  rfl

set_option maxRecDepth 100000 in
theorem ref_Quote_no (s : ByteArray) (w : World) (hs : s.size ≤ 1000000000) (hv : Lib.validD s.data.toList = false) :
    Calls Tryz.prog 32 #[.string s] w fun e w' => e = .returned (.tuple #[.string ⟨#[]⟩, .int .i64 20]) ∧ Below w.heap.size w w' := by
  have HR := ref_utfRight s hs w
  rw [hv] at HR
  have HR := Lib.hid HR
  clear hv
  go_enter Tryz.func32, Tryz.ntmps32
  go_wp2_with fail
  refine HR.out.mono ?_
  rintro e w1 ⟨rfl, rfl⟩
  go_wp2_with fail
  go_ret2
  exact ⟨rfl, Below.refl _ _⟩

set_option maxHeartbeats 8000000 in
set_option maxRecDepth 100000 in
theorem ref_Quote_yes (s : ByteArray) (w : World) (hs : s.size ≤ 1000000) (hv : Lib.validD s.data.toList = true) :
    Calls Tryz.prog 32 #[.string s] w fun e w' => e = .returned (.tuple #[.string ⟨(quoteL s.data.toList).toArray⟩, .int .i64 0]) ∧ Below w.heap.size w w' := by
  have HR := ref_utfRight s (by omega) w
  rw [hv] at HR
  have HR := Lib.hid HR
  rw [quote_bytes hv]
  obtain ⟨qs, hqs⟩ : ∃ qs : ByteArray, (⟨([34] ++ s.data.toList.flatMap qb ++ [34]).toArray⟩ : ByteArray) = qs := ⟨_, rfl⟩
  rw [hqs]
  have HQS := Lib.hid hqs
  clear hqs
  obtain ⟨i0, hi, hz0, hz1, hz2⟩ := info_parts info8r
  have HI := Lib.hid hi
  have HZ0 := Lib.hid hz0
  have HZ1 := Lib.hid hz1
  have HZ2 := Lib.hid hz2
  have hlen : s.data.toList.length = s.size := by simp
  clear hv hi hz0 hz1 hz2
  have hown0 : (w.alloc (.cells #[.int .u8 34] 5)).ownsRow w.heap.size 5 1 (.slice (some ⟨w.heap.size, 0, none⟩) 1 1) 1 (byteVals [34]) := by
    have := World.ownsRow_lit (base := w.heap.size) (e := 5) (size := 1) w #[Value.int IntKind.u8 34] 1 (Nat.le_refl _) (by decide) rfl
    simpa [byteVals] using this
  have hb0 := (Below.refl w.heap.size w).alloc (Nat.le_refl _) (.cells #[.int .u8 34] 5)
  go_enter Tryz.func32, Tryz.ntmps32
  go_wp2_with fail
  refine HR.out.mono ?_
  rintro e w1 ⟨rfl, rfl⟩
  go_wp2_with fail
  clear HR
  go_loopw [5, 6] (fun v i wr => ∃ (k : Nat) (acc : List UInt8), k ≤ s.size ∧ i = .int .i64 k ∧ wr.ownsRow w1.heap.size 5 1 v acc.length (byteVals acc) ∧ Below w1.heap.size w1 wr ∧ acc.length ≤ 6 * k + 1 ∧ Hid (acc ++ (s.data.toList.drop k).flatMap qb = [34] ++ s.data.toList.flatMap qb)) (fun _ i _ => s.size - (intOf i).toNat)
  case atStart => exact ⟨0, [34], by omega, rfl, hown0, hb0, by simp, Lib.hid (by rw [List.drop_zero])⟩
  case round =>
    obtain ⟨k, acc, hk, rfl, hown, hbw, hal, hac⟩ := hrel
    obtain ⟨A', c', rfl⟩ := own_sliceR hown
    have hzw := hbw.size
    by_cases hlt : k < s.size
    · have hcc := hac.out
      rw [drop_at s k hlt, List.flatMap_cons, ← List.append_assoc] at hcc
      have hql := qb_len s[k]
      have hkz : (k : Int) < s.size := by omega
      obtain ⟨b, hb⟩ : ∃ b, s[k] = b := ⟨_, rfl⟩
      rw [hb] at hcc hql
      have hbt : s[k].toNat = b.toNat := by rw [hb]
      have hown2 : ∀ cs : List Value, (wr.alloc (.cells cs.toArray 5)).ownsRow w1.heap.size 5 1 (.slice A' acc.length c') acc.length (byteVals acc) := fun cs => hown.alloc _
      have HOWN := Lib.hid hown2
      have HC := Lib.hid hcc
      have HL := Lib.hid (show (acc ++ qb b).length ≤ 6 * (k + 1) + 1 by rw [List.length_append]; omega)
      have c5 : w1.heap.size ≤ wr.heap.size + 1 := by omega
      have c3 : acc.length + 6 ≤ maxLen := by unfold maxLen; omega
      have c4 : acc.length + 6 ≤ 140737488355328 := by omega
      have HLT := Lib.hid (fun q e => (hown.lt q e).1)
      clear hac hcc hql hown hown2 hown0
      by_cases hsg : b = 34 ∨ b = 92 ∨ b = 8 ∨ b = 12 ∨ b = 10 ∨ b = 13 ∨ b = 9
      · rcases hsg with rfl | rfl | rfl | rfl | rfl | rfl | rfl
        · rw [show qb 34 = [92, 34] from rfl] at HC HL
          have hbt : s[k].toNat = 34 := hbt
          clear hb
          go_wp2_with (at_builtin; refine wpList_append_own _ rfl _ _ 72 rfl w1.heap.size 5 i0 (.int .u8 0) 1 1 Tryz.underlying72 HI.out HZ0.out HZ1.out HZ2.out rfl (by decide) _ _ _ rfl (HOWN.out [.int .u8 92, .int .u8 34]) ⟨wr.heap.size, 0, none⟩ 2 2 [.int .u8 92, .int .u8 34] rfl rfl (cells_new _ [.int .u8 92, .int .u8 34] _) (by simp [Value.oneCell']) (by omega) (by omega) (by simp; omega) ?_; intro v' w2 hown2 hgrow _)
          have hbw2 : Below w1.heap.size w1 w2 := (hbw.alloc hzw _).grown hgrow (by simp; omega) (fun q e => HLT.out q e)
          have hown3 : w2.ownsRow w1.heap.size 5 1 v' (acc ++ [92, 34]).length (byteVals (acc ++ [92, 34])) := by
            rw [← byteVals_append, List.length_append]
            exact hown2
          clear hgrow hown2
          go_wp2_with fail
          go_roundw
          case rel => exact ⟨k + 1, acc ++ [92, 34], by omega, by go_num, hown3, hbw2, HL.out, HC⟩
          case measure => simp [intOf]; omega
        · rw [show qb 92 = [92, 92] from rfl] at HC HL
          have hbt : s[k].toNat = 92 := hbt
          clear hb
          go_wp2_with (at_builtin; refine wpList_append_own _ rfl _ _ 72 rfl w1.heap.size 5 i0 (.int .u8 0) 1 1 Tryz.underlying72 HI.out HZ0.out HZ1.out HZ2.out rfl (by decide) _ _ _ rfl (HOWN.out [.int .u8 92, .int .u8 92]) ⟨wr.heap.size, 0, none⟩ 2 2 [.int .u8 92, .int .u8 92] rfl rfl (cells_new _ [.int .u8 92, .int .u8 92] _) (by simp [Value.oneCell']) (by omega) (by omega) (by simp; omega) ?_; intro v' w2 hown2 hgrow _)
          have hbw2 : Below w1.heap.size w1 w2 := (hbw.alloc hzw _).grown hgrow (by simp; omega) (fun q e => HLT.out q e)
          have hown3 : w2.ownsRow w1.heap.size 5 1 v' (acc ++ [92, 92]).length (byteVals (acc ++ [92, 92])) := by
            rw [← byteVals_append, List.length_append]
            exact hown2
          clear hgrow hown2
          go_wp2_with fail
          go_roundw
          case rel => exact ⟨k + 1, acc ++ [92, 92], by omega, by go_num, hown3, hbw2, HL.out, HC⟩
          case measure => simp [intOf]; omega
        · rw [show qb 8 = [92, 98] from rfl] at HC HL
          have hbt : s[k].toNat = 8 := hbt
          clear hb
          go_wp2_with (at_builtin; refine wpList_append_own _ rfl _ _ 72 rfl w1.heap.size 5 i0 (.int .u8 0) 1 1 Tryz.underlying72 HI.out HZ0.out HZ1.out HZ2.out rfl (by decide) _ _ _ rfl (HOWN.out [.int .u8 92, .int .u8 98]) ⟨wr.heap.size, 0, none⟩ 2 2 [.int .u8 92, .int .u8 98] rfl rfl (cells_new _ [.int .u8 92, .int .u8 98] _) (by simp [Value.oneCell']) (by omega) (by omega) (by simp; omega) ?_; intro v' w2 hown2 hgrow _)
          have hbw2 : Below w1.heap.size w1 w2 := (hbw.alloc hzw _).grown hgrow (by simp; omega) (fun q e => HLT.out q e)
          have hown3 : w2.ownsRow w1.heap.size 5 1 v' (acc ++ [92, 98]).length (byteVals (acc ++ [92, 98])) := by
            rw [← byteVals_append, List.length_append]
            exact hown2
          clear hgrow hown2
          go_wp2_with fail
          go_roundw
          case rel => exact ⟨k + 1, acc ++ [92, 98], by omega, by go_num, hown3, hbw2, HL.out, HC⟩
          case measure => simp [intOf]; omega
        · rw [show qb 12 = [92, 102] from rfl] at HC HL
          have hbt : s[k].toNat = 12 := hbt
          clear hb
          go_wp2_with (at_builtin; refine wpList_append_own _ rfl _ _ 72 rfl w1.heap.size 5 i0 (.int .u8 0) 1 1 Tryz.underlying72 HI.out HZ0.out HZ1.out HZ2.out rfl (by decide) _ _ _ rfl (HOWN.out [.int .u8 92, .int .u8 102]) ⟨wr.heap.size, 0, none⟩ 2 2 [.int .u8 92, .int .u8 102] rfl rfl (cells_new _ [.int .u8 92, .int .u8 102] _) (by simp [Value.oneCell']) (by omega) (by omega) (by simp; omega) ?_; intro v' w2 hown2 hgrow _)
          have hbw2 : Below w1.heap.size w1 w2 := (hbw.alloc hzw _).grown hgrow (by simp; omega) (fun q e => HLT.out q e)
          have hown3 : w2.ownsRow w1.heap.size 5 1 v' (acc ++ [92, 102]).length (byteVals (acc ++ [92, 102])) := by
            rw [← byteVals_append, List.length_append]
            exact hown2
          clear hgrow hown2
          go_wp2_with fail
          go_roundw
          case rel => exact ⟨k + 1, acc ++ [92, 102], by omega, by go_num, hown3, hbw2, HL.out, HC⟩
          case measure => simp [intOf]; omega
        · rw [show qb 10 = [92, 110] from rfl] at HC HL
          have hbt : s[k].toNat = 10 := hbt
          clear hb
          go_wp2_with (at_builtin; refine wpList_append_own _ rfl _ _ 72 rfl w1.heap.size 5 i0 (.int .u8 0) 1 1 Tryz.underlying72 HI.out HZ0.out HZ1.out HZ2.out rfl (by decide) _ _ _ rfl (HOWN.out [.int .u8 92, .int .u8 110]) ⟨wr.heap.size, 0, none⟩ 2 2 [.int .u8 92, .int .u8 110] rfl rfl (cells_new _ [.int .u8 92, .int .u8 110] _) (by simp [Value.oneCell']) (by omega) (by omega) (by simp; omega) ?_; intro v' w2 hown2 hgrow _)
          have hbw2 : Below w1.heap.size w1 w2 := (hbw.alloc hzw _).grown hgrow (by simp; omega) (fun q e => HLT.out q e)
          have hown3 : w2.ownsRow w1.heap.size 5 1 v' (acc ++ [92, 110]).length (byteVals (acc ++ [92, 110])) := by
            rw [← byteVals_append, List.length_append]
            exact hown2
          clear hgrow hown2
          go_wp2_with fail
          go_roundw
          case rel => exact ⟨k + 1, acc ++ [92, 110], by omega, by go_num, hown3, hbw2, HL.out, HC⟩
          case measure => simp [intOf]; omega
        · rw [show qb 13 = [92, 114] from rfl] at HC HL
          have hbt : s[k].toNat = 13 := hbt
          clear hb
          go_wp2_with (at_builtin; refine wpList_append_own _ rfl _ _ 72 rfl w1.heap.size 5 i0 (.int .u8 0) 1 1 Tryz.underlying72 HI.out HZ0.out HZ1.out HZ2.out rfl (by decide) _ _ _ rfl (HOWN.out [.int .u8 92, .int .u8 114]) ⟨wr.heap.size, 0, none⟩ 2 2 [.int .u8 92, .int .u8 114] rfl rfl (cells_new _ [.int .u8 92, .int .u8 114] _) (by simp [Value.oneCell']) (by omega) (by omega) (by simp; omega) ?_; intro v' w2 hown2 hgrow _)
          have hbw2 : Below w1.heap.size w1 w2 := (hbw.alloc hzw _).grown hgrow (by simp; omega) (fun q e => HLT.out q e)
          have hown3 : w2.ownsRow w1.heap.size 5 1 v' (acc ++ [92, 114]).length (byteVals (acc ++ [92, 114])) := by
            rw [← byteVals_append, List.length_append]
            exact hown2
          clear hgrow hown2
          go_wp2_with fail
          go_roundw
          case rel => exact ⟨k + 1, acc ++ [92, 114], by omega, by go_num, hown3, hbw2, HL.out, HC⟩
          case measure => simp [intOf]; omega
        · rw [show qb 9 = [92, 116] from rfl] at HC HL
          have hbt : s[k].toNat = 9 := hbt
          clear hb
          go_wp2_with (at_builtin; refine wpList_append_own _ rfl _ _ 72 rfl w1.heap.size 5 i0 (.int .u8 0) 1 1 Tryz.underlying72 HI.out HZ0.out HZ1.out HZ2.out rfl (by decide) _ _ _ rfl (HOWN.out [.int .u8 92, .int .u8 116]) ⟨wr.heap.size, 0, none⟩ 2 2 [.int .u8 92, .int .u8 116] rfl rfl (cells_new _ [.int .u8 92, .int .u8 116] _) (by simp [Value.oneCell']) (by omega) (by omega) (by simp; omega) ?_; intro v' w2 hown2 hgrow _)
          have hbw2 : Below w1.heap.size w1 w2 := (hbw.alloc hzw _).grown hgrow (by simp; omega) (fun q e => HLT.out q e)
          have hown3 : w2.ownsRow w1.heap.size 5 1 v' (acc ++ [92, 116]).length (byteVals (acc ++ [92, 116])) := by
            rw [← byteVals_append, List.length_append]
            exact hown2
          clear hgrow hown2
          go_wp2_with fail
          go_roundw
          case rel => exact ⟨k + 1, acc ++ [92, 116], by omega, by go_num, hown3, hbw2, HL.out, HC⟩
          case measure => simp [intOf]; omega
      · have hns : b.toNat ≠ 34 ∧ b.toNat ≠ 92 ∧ b.toNat ≠ 8 ∧ b.toNat ≠ 12 ∧ b.toNat ≠ 10 ∧ b.toNat ≠ 13 ∧ b.toNat ≠ 9 := by
          refine ⟨fun e => hsg (by simp [show b = 34 from UInt8.toNat_inj.1 e]), fun e => hsg (by simp [show b = 92 from UInt8.toNat_inj.1 e]), fun e => hsg (by simp [show b = 8 from UInt8.toNat_inj.1 e]), fun e => hsg (by simp [show b = 12 from UInt8.toNat_inj.1 e]), fun e => hsg (by simp [show b = 10 from UInt8.toNat_inj.1 e]), fun e => hsg (by simp [show b = 13 from UInt8.toNat_inj.1 e]), fun e => hsg (by simp [show b = 9 from UInt8.toNat_inj.1 e])⟩
        have hsn : signOk (b.toNat : Int) = false := by
          unfold signOk signC
          rw [if_neg (by omega), if_neg (by omega), if_neg (by omega), if_neg (by omega), if_neg (by omega), if_neg (by omega), if_neg (by omega)]
          rfl
        obtain ⟨m, hm⟩ : ∃ m, b.toNat = m := ⟨_, rfl⟩
        have hm256 : m < 256 := by rw [← hm]; exact b.toNat_lt
        rw [hm] at hns hbt hsn
        obtain ⟨n1, n2, n3, n4, n5, n6, n7⟩ := hns
        have e1 : ((m : Int) == 34) = false := by rw [beq_eq_false_iff_ne]; omega
        have e2 : ((m : Int) == 92) = false := by rw [beq_eq_false_iff_ne]; omega
        have e3 : ((m : Int) == 8) = false := by rw [beq_eq_false_iff_ne]; omega
        have e4 : ((m : Int) == 12) = false := by rw [beq_eq_false_iff_ne]; omega
        have e5 : ((m : Int) == 10) = false := by rw [beq_eq_false_iff_ne]; omega
        have e6 : ((m : Int) == 13) = false := by rw [beq_eq_false_iff_ne]; omega
        have e7 : ((m : Int) == 9) = false := by rw [beq_eq_false_iff_ne]; omega
        by_cases h32 : m < 32
        · have hq : qb b = [92, 117, 48, 48, hx (m / 16), hx m] := by
            unfold qb
            rw [hm, hsn, if_neg (by simp), if_pos h32]
          rw [hq] at HC HL
          obtain ⟨x1, hx1⟩ : ∃ x1, hx (m / 16) = x1 := ⟨_, rfl⟩
          obtain ⟨x2, hx2⟩ : ∃ x2, hx m = x2 := ⟨_, rfl⟩
          rw [hx1, hx2] at HC HL
          have z1 : (m : Int) < 32 := by omega
          have z2 : (0 : Int) ≤ (m : Int) / 16 ∧ (m : Int) / 16 < 16 := by omega
          have z3 : (0 : Int) ≤ (m : Int) % 16 ∧ (m : Int) % 16 < 16 := by omega
          have v1 : IntKind.u8.wrap ((m : Int) / 16) = (m : Int) / 16 := IntWalk.u8_in _ (by omega)
          have v2 : IntKind.u8.wrap ((m : Int) % 16) = (m : Int) % 16 := IntWalk.u8_in _ (by omega)
          have v3 : (m : Int).tmod 16 = (m : Int) % 16 := Int.tmod_eq_emod_of_nonneg (by omega)
          have z4 : (m : Int) / 16 < 16 := by omega
          have z5 : (m : Int) % 16 < 16 := by omega
          have p1 : ((m : Int) / 16).toNat < 16 := by omega
          have p2 : ((m : Int) % 16).toNat < 16 := by omega
          have g1 := hex_hi m p1
          have g2 := hex_lo m p2
          rw [hx1] at g1
          rw [hx2] at g2
          have C1 := Lib.hid (show ∀ j u, ([.int .u8 92, .int .u8 117, .int .u8 48, .int .u8 48, .int .u8 (x1.toNat : Int), .int .u8 (x2.toNat : Int)] : List Value)[j]? = some u → (wr.alloc (.cells #[.int .u8 92, .int .u8 117, .int .u8 48, .int .u8 48, .int .u8 (x1.toNat : Int), .int .u8 (x2.toNat : Int)] 5)).drew.cell? ((⟨wr.heap.size, 0, none⟩ : Addr).add j) = some u from fun j u hj => cells_new wr [.int .u8 92, .int .u8 117, .int .u8 48, .int .u8 48, .int .u8 (x1.toNat : Int), .int .u8 (x2.toNat : Int)] 5 j u hj)
          have C2 := Lib.hid (show ∀ u ∈ ([.int .u8 92, .int .u8 117, .int .u8 48, .int .u8 48, .int .u8 (x1.toNat : Int), .int .u8 (x2.toNat : Int)] : List Value), u.oneCell' = true from bytes_one [92, 117, 48, 48, x1, x2])
          have HO := Lib.hid (show (wr.alloc (.cells #[.int .u8 92, .int .u8 117, .int .u8 48, .int .u8 48, .int .u8 (x1.toNat : Int), .int .u8 (x2.toNat : Int)] 5)).drew.ownsRow w1.heap.size 5 1 (.slice A' acc.length c') acc.length (byteVals acc) from HOWN.out [.int .u8 92, .int .u8 117, .int .u8 48, .int .u8 48, .int .u8 (x1.toNat : Int), .int .u8 (x2.toNat : Int)])
          have C3 := Lib.hid (show acc.length + 6 ≤ maxLen from c3)
          have C4 := Lib.hid (show (acc.length + 6) * 1 ≤ 140737488355328 by omega)
          have C5 := Lib.hid (show w1.heap.size ≤ (wr.alloc (.cells #[.int .u8 92, .int .u8 117, .int .u8 48, .int .u8 48, .int .u8 (x1.toNat : Int), .int .u8 (x2.toNat : Int)] 5)).drew.heap.size by
            show _ ≤ (wr.alloc _).heap.size
            simp
            omega)
          clear hsg hb hm n1 n2 n3 n4 n5 n6 n7 h32 hq hsn hx1 hx2 HOWN
          go_wp2_with fail
          go_region_law (refine step_append_lies _ rfl (.tmp 24) (.tmp 33) 72 rfl w1.heap.size 5 i0 (.int .u8 0) 1 1 Tryz.underlying72 HI.out HZ0.out HZ1.out HZ2.out rfl (by decide) (.slice A' acc.length c') acc.length _ (by simp [Act.eval]) HO.out ⟨wr.heap.size, 0, none⟩ 6 6 [.int .u8 92, .int .u8 117, .int .u8 48, .int .u8 48, .int .u8 (x1.toNat : Int), .int .u8 (x2.toNat : Int)] (by simp [Act.eval]) rfl C1.out C2.out (by decide) C3.out C4.out C5.out _ rfl ?_; intro g cap w2 hown2 hgrow hgg hgl)
          all_goals
            have hbw2 : Below w1.heap.size w1 w2 := (hbw.alloc hzw _).drew.grown hgrow C5.out (fun q e => HLT.out q e)
            have hown3 : w2.ownsRow w1.heap.size 5 1 (.slice (some ⟨g, 0, none⟩) (acc.length + 6) cap) (acc ++ [92, 117, 48, 48, x1, x2]).length (byteVals (acc ++ [92, 117, 48, 48, x1, x2])) := by
              rw [← byteVals_append, List.length_append]
              exact hown2
            clear hgrow hown2 hgg hgl
            go_wp2_with fail
            go_roundw
            case rel => exact ⟨k + 1, acc ++ [92, 117, 48, 48, x1, x2], by omega, by go_num, hown3, hbw2, HL.out, HC⟩
            case measure => simp [intOf]; omega
        · have hq : qb b = [b] := by
            unfold qb
            rw [hm, hsn, if_neg (by simp), if_neg h32]
          rw [hq] at HC HL
          have z1 : ¬ (m : Int) < 32 := by omega
          have hbv : byteVals [b] = [.int .u8 (m : Int)] := by
            rw [← hm]
            rfl
          have HBV := Lib.hid hbv
          clear hsg hb hm n1 n2 n3 n4 n5 n6 n7 h32 hq hsn hbv
          go_wp2_with (at_builtin; refine wpList_append_own _ rfl _ _ 72 rfl w1.heap.size 5 i0 (.int .u8 0) 1 1 Tryz.underlying72 HI.out HZ0.out HZ1.out HZ2.out rfl (by decide) _ _ _ rfl (HOWN.out [.int .u8 (m : Int)]) ⟨wr.heap.size, 0, none⟩ 1 1 [.int .u8 (m : Int)] rfl rfl (cells_new _ [.int .u8 (m : Int)] _) (by simp [Value.oneCell']) (by omega) (by omega) (by simp; omega) ?_; intro v' w2 hown2 hgrow _)
          have hbw2 : Below w1.heap.size w1 w2 := (hbw.alloc hzw _).grown hgrow (by simp; omega) (fun q e => HLT.out q e)
          rw [← HBV.out, byteVals_append] at hown2
          clear hgrow
          go_wp2_with fail
          go_roundw
          case rel => exact ⟨k + 1, acc ++ [b], by omega, by go_num, by rw [List.length_append]; exact hown2, hbw2, HL.out, HC⟩
          case measure => simp [intOf]; omega
    · obtain rfl : k = s.size := by omega
      have hz : ¬ ((s.size : Nat) : Int) < s.size := by omega
      have hcc := hac.out
      rw [List.drop_eq_nil_of_le (by omega), List.flatMap_nil, List.append_nil] at hcc
      have HC := Lib.hid hcc
      have hown2 : (wr.alloc (.cells #[.int .u8 34] 5)).ownsRow w1.heap.size 5 1 (.slice A' acc.length c') acc.length (byteVals acc) := hown.alloc _
      have HOWN := Lib.hid hown2
      have HLT := Lib.hid (fun q e => (hown.lt q e).1)
      have c3 : acc.length + 6 ≤ maxLen := by unfold maxLen; omega
      have c4 : acc.length + 6 ≤ 140737488355328 := by omega
      clear hac hcc hown hown2 hown0
      go_wp2_with (at_builtin; refine wpList_append_own _ rfl _ _ 72 rfl w1.heap.size 5 i0 (.int .u8 0) 1 1 Tryz.underlying72 HI.out HZ0.out HZ1.out HZ2.out rfl (by decide) _ _ _ rfl HOWN.out ⟨wr.heap.size, 0, none⟩ 1 1 [.int .u8 34] rfl rfl (cells_new _ [.int .u8 34] _) (by simp [Value.oneCell']) (by omega) (by omega) (by simp; omega) ?_; intro v' w2 hown2 hgrow _)
      have hbw2 : Below w1.heap.size w1 w2 := (hbw.alloc hzw _).grown hgrow (by simp; omega) (fun q e => HLT.out q e)
      have hown3 : w2.ownsRow w1.heap.size 5 1 v' (acc.length + 1) (byteVals (acc ++ [34])) := by
        rw [← byteVals_append]
        exact hown2
      have hcv := run_string_own (P := Tryz.prog) (src := 72) (dst := 9) Tryz.underlying72 Tryz.underlying5 Tryz.underlying9 hown3
      rw [HC.out, HQS.out] at hcv
      clear hown2 hown3 hgrow
      go_wp2_with fail
      rw [hcv]
      go_wp2_with fail
      go_ret2
      exact ⟨rfl, hbw2⟩
end Go.Proofs.YtfckekaegjjmkaaGreatDoor
