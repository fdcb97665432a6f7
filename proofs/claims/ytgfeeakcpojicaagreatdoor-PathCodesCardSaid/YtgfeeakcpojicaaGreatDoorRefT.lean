/- The reference's texts (targumref02): a character's bytes, and Unquote, walked. -/
import Derived.Test.YtgfeeakcpojicaaGreatDoorRefS
namespace Go.Proofs.YtgfeeakcpojicaaGreatDoor
open Go.RowKit Go.Shelf

/-- A character's bytes, laid as a row, as a string. -/
theorem conv_rune {P : Program} {src dst e : TypeId} (hs : P.underlying src = some (.slice e)) (he : P.underlying e = some (.int .u8)) (hd : P.underlying dst = some .string) (c : Int) (W : World) (zs : List Int) (hz : Lib.encodeRuneZ c = zs) (n : Nat) (hn : n = zs.length) :
    (convert src dst (.slice (some ⟨W.heap.size, 0, none⟩) n n)).run P (W.alloc (.cells (zs.map (Value.int .u8)).toArray e)) = .ok (.string ⟨(Lib.encodeRune c).toArray⟩) (W.alloc (.cells (zs.map (Value.int .u8)).toArray e)) := by
  have hb := Lib.byteCells_encodeRune c
  have hl : (byteVals (Lib.encodeRune c)).toArray = (zs.map (Value.int .u8)).toArray := by
    have : byteVals (Lib.encodeRune c) = Lib.runeCells c := hb
    rw [this]
    unfold Lib.runeCells
    rw [hz]
  refine run_convB hs he hd (Lib.encodeRune c) _ _ n ?_ ?_
  · rw [hn, ← hz]
    simp [Lib.encodeRune]
  · rw [hl]
    exact Blk.new W _ _

set_option maxHeartbeats 2000000 in
set_option maxRecDepth 100000 in
theorem ref_Bytes (c : Int) (h0 : 0 ≤ c) (hc : charOk c.toNat) (w : World) :
    Calls Tryz.prog 63 #[.int .i64 c] w fun e w' => e = .returned (.string ⟨(Lib.encodeRune c).toArray⟩) ∧ Below w.heap.size w w' := by
  have hle : c ≤ 1114111 := by
    have := charOk_le hc
    omega
  unfold charOk at hc
  by_cases h1 : c ≤ 127
  · have kcv := conv_rune (P := Tryz.prog) Tryz.underlying57 Tryz.underlying5 Tryz.underlying9 c w _ (Lib.encodeRuneZ_one h0 h1) 1 rfl
    simp only [List.map_cons, List.map_nil] at kcv
    have z1 : c < 128 := by omega
    clear hc h1
    go_enter Tryz.func63, Tryz.ntmps63
    go_wp2_with fail
    go_ret
    exact ⟨rfl, (Below.refl _ w).alloc (Nat.le_refl _) _⟩
  · by_cases h2 : c ≤ 2047
    · have kcv := conv_rune (P := Tryz.prog) Tryz.underlying57 Tryz.underlying5 Tryz.underlying9 c w _ (Lib.encodeRuneZ_two (by omega) h2) 2 rfl
      simp only [List.map_cons, List.map_nil] at kcv
      have z1 : 128 ≤ c := by omega
      have z2 : c < 2048 := by omega
      have q1 : 0 ≤ 192 + c / 64 ∧ 192 + c / 64 < 256 := by omega
      have q2 : 0 ≤ 128 + c % 64 ∧ 128 + c % 64 < 256 := by omega
      clear hc h1 h2
      go_enter Tryz.func63, Tryz.ntmps63
      go_wp2_with fail
      go_ret
      exact ⟨rfl, (Below.refl _ w).alloc (Nat.le_refl _) _⟩
    · by_cases h3 : c ≤ 65535
      · have kcv := conv_rune (P := Tryz.prog) Tryz.underlying57 Tryz.underlying5 Tryz.underlying9 c w _ (Lib.encodeRuneZ_three (by omega)) 3 rfl
        simp only [List.map_cons, List.map_nil] at kcv
        have z1 : 2048 ≤ c := by omega
        have z2 : c < 65536 := by omega
        have q1 : 0 ≤ 224 + c / 4096 ∧ 224 + c / 4096 < 256 := by omega
        have q2 : 0 ≤ 128 + c / 64 % 64 ∧ 128 + c / 64 % 64 < 256 := by omega
        have q3 : 0 ≤ 128 + c % 64 ∧ 128 + c % 64 < 256 := by omega
        clear hc h1 h2 h3
        go_enter Tryz.func63, Tryz.ntmps63
        go_wp2_with fail
        go_ret
        exact ⟨rfl, (Below.refl _ w).alloc (Nat.le_refl _) _⟩
      · have kcv := conv_rune (P := Tryz.prog) Tryz.underlying57 Tryz.underlying5 Tryz.underlying9 c w _ (Lib.encodeRuneZ_four (by omega) hle) 4 rfl
        simp only [List.map_cons, List.map_nil] at kcv
        have z1 : 65536 ≤ c := by omega
        have q1 : 0 ≤ 240 + c / 262144 ∧ 240 + c / 262144 < 256 := by omega
        have q2 : 0 ≤ 128 + c / 4096 % 64 ∧ 128 + c / 4096 % 64 < 256 := by omega
        have q3 : 0 ≤ 128 + c / 64 % 64 ∧ 128 + c / 64 % 64 < 256 := by omega
        have q4 : 0 ≤ 128 + c % 64 ∧ 128 + c % 64 < 256 := by omega
        clear hc h1 h2 h3
        go_enter Tryz.func63, Tryz.ntmps63
        go_wp2_with fail
        go_ret
        exact ⟨rfl, (Below.refl _ w).alloc (Nat.le_refl _) _⟩

/-! ### the plain part -/
def catQ (acc : List UInt8) : Except Bool (List UInt8 × List UInt8) → Except Bool (List UInt8 × List UInt8)
  | .error b => .error b
  | .ok (t, r) => .ok (acc ++ t, r)
theorem catQ_nil (q : Except Bool (List UInt8 × List UInt8)) : catQ [] q = q := by
  cases q with
  | error b => rfl
  | ok p => rfl
theorem catQ_catQ (a b : List UInt8) (q : Except Bool (List UInt8 × List UInt8)) : catQ a (catQ b q) = catQ (a ++ b) q := by
  cases q with
  | error b => rfl
  | ok p =>
    show Except.ok (a ++ (b ++ p.1), p.2) = .ok (a ++ b ++ p.1, p.2)
    rw [List.append_assoc]
theorem unqL_go {f : Nat} {l r : List UInt8} {x : Nat} (h : nextL l = .ok (some x, r)) : unqL (f + 1) l = catQ (Lib.encodeRune x) (unqL f r) := by
  cases hq : unqL f r with
  | error b => exact unqL_parte h hq
  | ok p =>
    obtain ⟨t, r'⟩ := p
    exact unqL_part h hq
theorem unqL_empty (f : Nat) : unqL f [] = .error false := by
  cases f with
  | zero => rfl
  | succ f => exact unqL_error (by unfold nextL; exact if_pos rfl)
theorem decode_lt {b : UInt8} {t : List UInt8} (h : (Lib.decodeL (b :: t)).1 < 128) : b.toNat = (Lib.decodeL (b :: t)).1 ∧ (Lib.decodeL (b :: t)).2 = 1 := by
  by_cases hb : b.toNat < 128
  · rw [Lib.decodeL_ascii b t hb]
    exact ⟨rfl, rfl⟩
  · have := decodeL_high t (by omega : 128 ≤ b.toNat)
    omega
theorem numL_drop {l r : List UInt8} {x : Nat} (h : numL l = some (x, r)) : ∃ k, r = l.drop k := by
  unfold numL at h
  split at h
  · cases h
  · split at h
    · cases h
      exact ⟨4, rfl⟩
    · unfold lowL at h
      split at h
      · split at h
        · cases h
        · split at h
          · cases h
            exact ⟨4 + 6, List.drop_drop⟩
          · cases h
      · cases h
theorem escL_drop {l r : List UInt8} {x : Nat} (h : escL l = some (x, r)) : r = l.drop (l.length - r.length) := by
  have hk : ∃ k, r = l.drop k := by
    cases l with
    | nil => cases h
    | cons c t =>
      cases hx : signX c.toNat with
      | some y =>
        rw [escL_some t hx] at h
        cases h
        exact ⟨1, rfl⟩
      | none =>
        rw [escL_none t hx] at h
        split at h
        · obtain ⟨k, hk⟩ := numL_drop h
          exact ⟨k + 1, hk⟩
        · cases h
  have hl := (escL_facts h).1
  obtain ⟨k, rfl⟩ := hk
  rw [List.length_drop] at hl ⊢
  by_cases hk : k ≤ l.length
  · congr 1
    omega
  · rw [List.drop_eq_nil_of_le (by omega), List.drop_eq_nil_of_le (by omega)]

set_option maxHeartbeats 4000000 in
set_option maxRecDepth 100000 in
theorem ref_Unquote (s : ByteArray) (hs : s.size ≤ 100000000) (w : World) :
    Calls Tryz.prog 34 #[.string s] w (UnqPost s w) := by
  have hslen : s.data.toList.length = s.size := by simp
  have hbad : ∀ b : Bool, unquoteL s.data.toList = .error b → ∀ e w', e = .returned (.tuple #[.string ⟨#[]⟩, .string s, .int .i64 (if b then 20 else 21)]) → Below w.heap.size w w' → UnqPost s w e w' := fun b hb e w' he hw => by
    refine ⟨hw, ?_⟩
    rw [hb]
    exact he
  have hgood : ∀ t r, unquoteL s.data.toList = .ok (t, r) → ∀ e w', e = .returned (.tuple #[.string ⟨t.toArray⟩, .string ⟨r.toArray⟩, .int .i64 0]) → Below w.heap.size w w' → UnqPost s w e w' := fun t r hb e w' he hw => by
    refine ⟨hw, ?_⟩
    rw [hb]
    exact he
  by_cases h0 : s.size = 0
  · have e0 := str_empty h0
    subst e0
    have hu : unquoteL (⟨#[]⟩ : ByteArray).data.toList = .error false := by
      unfold unquoteL
      exact if_pos rfl
    have HF := Lib.hid (hbad false hu)
    clear hu hbad hgood hslen h0 hs
    go_enter Tryz.func34, Tryz.ntmps34
    go_wp2_with fail
    refine bodyPost_ret (v := .tuple #[.string ⟨#[]⟩, .string ⟨#[]⟩, .int .i64 21]) (by simp [results, Tryz.results34, go_sem]) rfl ?_
    exact HF.out _ _ rfl (Below.refl _ _)
  have hpos : 0 < s.size := by omega
  have hne := str_nonempty h0
  have hl := str_cons hpos
  have hl0 : s.data.toList ≠ [] := by rw [hl]; simp
  have hu : unquoteL s.data.toList = if Lib.decodeL s.data.toList = (65533, 1) then .error true else if (Lib.decodeL s.data.toList).1 ≠ 34 then .error false else unqL s.data.toList.length (s.data.toList.drop (Lib.decodeL s.data.toList).2) := by
    unfold unquoteL
    rw [if_neg hl0]
  have HF := fun w => ref_First s hpos w
  have z0 : (0 : Int) < s.size := by omega
  have z1 : (1 : Int) ≤ s.size := by omega
  by_cases hb : Lib.decodeL s.data.toList = (65533, 1)
  · rw [if_pos hb] at hu
    rw [firD_bad hb] at HF
    have HF := Lib.hid (show ∀ w, Calls Tryz.prog 61 #[.string s] w fun e w' => e = .returned (.tuple #[.int .i64 0, .int .i64 0]) ∧ w' = w from HF)
    have HB := Lib.hid (hbad true hu)
    clear hu hbad hgood hb hl hl0 hslen
    go_enter Tryz.func34, Tryz.ntmps34
    go_wp2_with fail
    refine (HF.out w).mono ?_
    rintro e w1 ⟨rfl, rfl⟩
    go_wp2_with fail
    refine bodyPost_ret (v := .tuple #[.string ⟨#[]⟩, .string s, .int .i64 20]) (by simp [results, Tryz.results34, go_sem]) rfl ?_
    exact HB.out _ _ rfl (Below.refl _ _)
  rw [if_neg hb] at hu
  rw [firD_ok hb] at HF
  have hw := Lib.decodeL_width s.data.toList
  obtain ⟨b0, hb0⟩ : ∃ b0, s[0].toNat = b0 := ⟨_, rfl⟩
  by_cases hq : b0 = 34
  · subst hq
    have hd : Lib.decodeL s.data.toList = (34, 1) := by
      rw [hl, Lib.decodeL_ascii _ _ (by omega), hb0]
    rw [hd] at hu HF
    rw [if_neg (by simp)] at hu
    have hex1 := extract_list s 1
    obtain ⟨r0, hr0⟩ : ∃ r0, s.extract 1 s.size = r0 := ⟨_, rfl⟩
    have hz0 : r0.size = s.size - 1 := by
      rw [← hr0, ByteArray.size_extract]
      omega
    rw [hr0] at hex1
    have hu : unquoteL s.data.toList = unqL s.size r0.data.toList := by
      rw [hu, hex1, hslen]
    have HF := Lib.hid (show ∀ w, Calls Tryz.prog 61 #[.string s] w fun e w' => e = .returned (.tuple #[.int .i64 34, .int .i64 1]) ∧ w' = w from HF)
    have HR0 := Lib.hid hr0
    have HU := Lib.hid hu
    have HBAD := Lib.hid hbad
    have HGOOD := Lib.hid hgood
    have HSL := Lib.hid hslen
    clear hu hbad hgood hb hl hl0 hslen hd hex1 hr0 hw
    go_enter Tryz.func34, Tryz.ntmps34
    go_wp2_with fail
    refine (HF.out w).mono ?_
    rintro e w1 ⟨rfl, rfl⟩
    go_wp2_with fail
    rw [HR0.out]
    clear HF hb0 HR0 hne
    go_loopw [7, 8] (fun x o wr => ∃ (r out : ByteArray) (f : Nat), x = .string r ∧ o = .string out ∧ r.size ≤ f ∧ r.size ≤ s.size ∧ out.size + 4 * r.size ≤ 4 * s.size ∧ Below w1.heap.size w1 wr ∧ Hid (catQ out.data.toList (unqL f r.data.toList) = unquoteL s.data.toList)) (fun x _ _ => match x with | .string r => r.size | _ => 0)
    case atStart => exact ⟨r0, ⟨#[]⟩, s.size, rfl, rfl, by omega, by omega, by have : (⟨#[]⟩ : ByteArray).size = 0 := rfl; omega, Below.refl _ _, Lib.hid (by rw [HU.out]; exact catQ_nil _)⟩
    case round =>
      obtain ⟨r, out, f, rfl, rfl, hrf, hrs, hos, hbw, hun⟩ := hrel
      by_cases hr0 : r.size = 0
      · have e0 := str_empty hr0
        subst e0
        have hu2 : unquoteL s.data.toList = .error false := by
          rw [← hun.out]
          show catQ _ (unqL f []) = _
          rw [unqL_empty]
          rfl
        have HE := Lib.hid (HBAD.out false hu2)
        clear hu2 hun HBAD HGOOD HU hr0 hrf hrs hos
        go_wp2_with fail
        refine bodyPost_ret (v := .tuple #[.string ⟨#[]⟩, .string s, .int .i64 21]) (by simp [results, Tryz.results34, go_sem]) rfl ?_
        exact HE.out _ _ rfl hbw
      have hrpos : 0 < r.size := by omega
      have hrne := str_nonempty hr0
      have hrl := str_cons hrpos
      have hrl0 : r.data.toList ≠ [] := by rw [hrl]; simp
      have hrlen : r.data.toList.length = r.size := by simp
      have HF := ref_First r hrpos wr
      obtain ⟨f, rfl⟩ : ∃ g, f = g + 1 := ⟨f - 1, by omega⟩
      have y1 : (1 : Int) ≤ r.size := by omega
      by_cases hb : Lib.decodeL r.data.toList = (65533, 1)
      · rw [firD_bad hb] at HF
        have hnx : nextL r.data.toList = .error true := by rw [nextL_ne hrl0, if_pos hb]
        have hu2 : unquoteL s.data.toList = .error true := by
          rw [← hun.out, unqL_error hnx]
          rfl
        have HE := Lib.hid (HBAD.out true hu2)
        have HF := Lib.hid (show Calls Tryz.prog 61 #[.string r] wr fun e w' => e = .returned (.tuple #[.int .i64 0, .int .i64 0]) ∧ w' = wr from HF)
        clear hnx hu2 hun HBAD HGOOD HU hr0 hrf hrs hos hrl hrl0 hrlen hb
        go_wp2_with fail
        refine HF.out.mono ?_
        rintro e w2 ⟨rfl, rfl⟩
        go_wp2_with fail
        refine bodyPost_ret (v := .tuple #[.string ⟨#[]⟩, .string s, .int .i64 20]) (by simp [results, Tryz.results34, go_sem]) rfl ?_
        exact HE.out _ _ rfl hbw
      rw [firD_ok hb] at HF
      have hnx : nextL r.data.toList = _ := (nextL_ne hrl0).trans (if_neg hb)
      have hwd := Lib.decodeL_width r.data.toList
      have hwl := Lib.decodeL_le r.data.toList hrl0
      have hch := decodeL_char r.data.toList
      have hlow : (Lib.decodeL r.data.toList).1 < 128 → (Lib.decodeL r.data.toList).2 = 1 := fun h => by
        rw [hrl] at h ⊢
        exact (decode_lt h).2
      obtain ⟨⟨c, n⟩, hcn⟩ : ∃ cn, Lib.decodeL r.data.toList = cn := ⟨_, rfl⟩
      rw [hcn] at HF hnx hwd hwl hch hlow
      simp only [] at hnx hwd hwl hch hlow
      have HF := Lib.hid (show Calls Tryz.prog 61 #[.string r] wr fun e w' => e = .returned (.tuple #[.int .i64 (c : Int), .int .i64 (n : Int)]) ∧ w' = wr from HF)
      have hcle := charOk_le hch
      have x1 : ((n : Int) == 0) = false := by rw [beq_eq_false_iff_ne]; omega
      by_cases hc34 : c = 34
      · subst hc34
        obtain rfl := hlow (by omega)
        rw [if_pos rfl] at hnx
        have hu2 : unquoteL s.data.toList = .ok (out.data.toList, r.data.toList.drop 1) := by
          rw [← hun.out, unqL_end hnx]
          show Except.ok (out.data.toList ++ [], _) = _
          rw [List.append_nil]
        have hex := extract_list r 1
        have HE := HGOOD.out _ _ hu2
        rw [← hex] at HE
        have hoo : (⟨out.data.toList.toArray⟩ : ByteArray) = out := str_back' out
        have hrr : (⟨(r.extract 1 r.size).data.toList.toArray⟩ : ByteArray) = r.extract 1 r.size := str_back' _
        rw [hoo, hrr] at HE
        have HE := Lib.hid HE
        clear hnx hu2 hun HBAD HGOOD HU hr0 hrf hrs hos hrl hrl0 hrlen hb hlow hcn hex hoo hrr hwd hwl hch hcle x1
        simp only [Int.cast_ofNat_Int] at HF
        go_wp2_with fail
        refine HF.out.mono ?_
        rintro e w2 ⟨rfl, rfl⟩
        go_wp2_with fail
        go_quiet (fail)
        go_wp2_with fail
        refine bodyPost_ret (v := .tuple #[.string out, .string (r.extract 1 r.size), .int .i64 0]) (by simp [results, Tryz.results34, go_sem]) rfl ?_
        exact HE.out _ _ rfl (below_drewN hbw _)
      rw [if_neg hc34] at hnx
      have x2 : ((c : Int) == 34) = false := by rw [beq_eq_false_iff_ne]; omega
      by_cases hc32 : c < 32
      · rw [if_pos hc32] at hnx
        have hu2 : unquoteL s.data.toList = .error false := by
          rw [← hun.out, unqL_error hnx]
          rfl
        have HE := Lib.hid (HBAD.out false hu2)
        have x3 : (c : Int) < 32 := by omega
        clear hnx hu2 hun HBAD HGOOD HU hr0 hrf hrs hos hrl hrl0 hrlen hb hlow hcn hwd hwl hch hcle
        go_wp2_with fail
        refine HF.out.mono ?_
        rintro e w2 ⟨rfl, rfl⟩
        go_wp2_with fail
        refine bodyPost_ret (v := .tuple #[.string ⟨#[]⟩, .string s, .int .i64 21]) (by simp [results, Tryz.results34, go_sem]) rfl ?_
        exact HE.out _ _ rfl hbw
      rw [if_neg hc32] at hnx
      have x3 : ¬ (c : Int) < 32 := by omega
      by_cases hc92 : c = 92
      · subst hc92
        obtain rfl := hlow (by omega)
        rw [if_pos rfl] at hnx
        have hex := extract_list r 1
        obtain ⟨r1, hr1⟩ : ∃ r1, r.extract 1 r.size = r1 := ⟨_, rfl⟩
        have hz1 : r1.size = r.size - 1 := by
          rw [← hr1, ByteArray.size_extract]
          omega
        rw [hr1] at hex
        rw [← hex] at hnx
        have HX := ref_escaped r1 (by omega) wr
        have HR1 := Lib.hid hr1
        have hr1l : r1.data.toList.length = r1.size := by simp
        simp only [Int.cast_ofNat_Int] at HF
        cases hes : escL r1.data.toList with
        | none =>
          rw [hes] at hnx HX
          have hu2 : unquoteL s.data.toList = .error false := by
            rw [← hun.out, unqL_error hnx]
            rfl
          have HE := Lib.hid (HBAD.out false hu2)
          have HX := Lib.hid (show Calls Tryz.prog 62 #[.string r1] wr fun e w' => e = .returned (.tuple #[.int .i64 0, .int .i64 0]) ∧ w' = wr from HX)
          clear hnx hu2 hun HBAD HGOOD HU hr0 hrf hrs hos hrl hrl0 hrlen hb hlow hcn hwd hwl hch hcle hes hex hr1 hr1l hz1 x1 x2 x3 hc34 hc32
          go_wp2_with fail
          refine HF.out.mono ?_
          rintro e w2 ⟨rfl, rfl⟩
          go_wp2_with fail
          rw [HR1.out]
          refine HX.out.mono ?_
          rintro e w3 ⟨rfl, rfl⟩
          go_wp2_with fail
          refine bodyPost_ret (v := .tuple #[.string ⟨#[]⟩, .string s, .int .i64 21]) (by simp [results, Tryz.results34, go_sem]) rfl ?_
          exact HE.out _ _ rfl hbw
        | some q =>
          obtain ⟨x, r2⟩ := q
          rw [hes] at hnx HX
          have hnx : nextL r.data.toList = .ok (some x, r2) := hnx
          have hef := escL_facts hes
          have hed := escL_drop hes
          have hxle := charOk_le hef.2
          obtain ⟨m, hm⟩ : ∃ m, r1.size - r2.length = m := ⟨_, rfl⟩
          have HX := Lib.hid (show Calls Tryz.prog 62 #[.string r1] wr fun e w' => e = .returned (.tuple #[.int .i64 (x : Int), .int .i64 (m : Int)]) ∧ w' = wr from by rw [← hm]; exact HX)
          have HB := Lib.hid (ref_Bytes (x : Int) (by omega) (by simpa using hef.2))
          have hbl := encodeRune_len (x : Int)
          obtain ⟨cb, hcb⟩ : ∃ cb : ByteArray, (⟨(Lib.encodeRune (x : Int)).toArray⟩ : ByteArray) = cb := ⟨_, rfl⟩
          rw [hcb] at HB
          have hcl : cb.data.toList = Lib.encodeRune (x : Int) := by rw [← hcb]
          have hcz : cb.size ≤ 4 := by
            have : cb.data.toList.length = cb.size := by simp
            rw [hcl] at this
            omega
          have hlast := extract_list r (m + 1)
          obtain ⟨r3, hr3⟩ : ∃ r3, r.extract (m + 1) r.size = r3 := ⟨_, rfl⟩
          have hr2l : r2.length = r1.size - m := by omega
          have hz3 : r3.size = r.size - (m + 1) := by
            rw [← hr3, ByteArray.size_extract]
            omega
          rw [hr3] at hlast
          have hr23 : r2 = r3.data.toList := by
            rw [hlast, hed, hex, List.drop_drop]
            congr 1
            rw [List.length_drop, hrlen]
            omega
          have hun2 : catQ (out ++ cb).data.toList (unqL f r3.data.toList) = unquoteL s.data.toList := by
            rw [← hun.out, unqL_go hnx, catQ_catQ, cat_list, hcl, hr23]
          have HUN := Lib.hid hun2
          have HR3 := Lib.hid hr3
          have q1 : ((m : Int) == 0) = false := by rw [beq_eq_false_iff_ne]; omega
          have q2 : (0 : Int) ≤ (m : Int) + 1 := by omega
          have q3 : (m : Int) + 1 ≤ r.size := by omega
          have q4 : ((m : Int) + 1).toNat = m + 1 := by omega
          have q5 : out.size + cb.size ≤ 1000000000 := by omega
          have q6 : (out ++ cb).size = out.size + cb.size := by rw [ByteArray.size_append]
          clear hnx hun hun2 HBAD HGOOD HU hr0 hrl hrl0 hrlen hb hlow hcn hwl hch hcle hes hex hr1 hr1l x1 x2 x3 hc34 hc32 hef hed hm hcb hcl hbl hlast hr3 hr23
          go_wp2_with fail
          refine HF.out.mono ?_
          rintro e w2 ⟨rfl, rfl⟩
          go_wp2_with fail
          rw [HR1.out]
          refine HX.out.mono ?_
          rintro e w3 ⟨rfl, rfl⟩
          go_wp2_with fail
          refine (HB.out _).mono ?_
          rintro e w4 ⟨rfl, hb4⟩
          have hb5 := hbw.trans (hb4.mono hbw.size)
          go_wp2_with fail
          rw [HR3.out]
          go_roundw
          case rel => exact ⟨r3, out ++ cb, f, rfl, rfl, by omega, by omega, by omega, hb5, HUN⟩
          case measure => simp only []; omega
      rw [if_neg hc92] at hnx
      have x4 : ((c : Int) == 92) = false := by rw [beq_eq_false_iff_ne]; omega
      have HB := Lib.hid (ref_Bytes (c : Int) (by omega) (by simpa using hch))
      have hbl := encodeRune_len (c : Int)
      obtain ⟨cb, hcb⟩ : ∃ cb : ByteArray, (⟨(Lib.encodeRune (c : Int)).toArray⟩ : ByteArray) = cb := ⟨_, rfl⟩
      rw [hcb] at HB
      have hcl : cb.data.toList = Lib.encodeRune (c : Int) := by rw [← hcb]
      have hcz : cb.size ≤ 4 := by
        have : cb.data.toList.length = cb.size := by simp
        rw [hcl] at this
        omega
      have hlast := extract_list r n
      obtain ⟨r3, hr3⟩ : ∃ r3, r.extract n r.size = r3 := ⟨_, rfl⟩
      have hz3 : r3.size = r.size - n := by
        rw [← hr3, ByteArray.size_extract]
        omega
      rw [hr3] at hlast
      rw [← hlast] at hnx
      have hun2 : catQ (out ++ cb).data.toList (unqL f r3.data.toList) = unquoteL s.data.toList := by
        rw [← hun.out, unqL_go hnx, catQ_catQ, cat_list, hcl]
      have HUN := Lib.hid hun2
      have HR3 := Lib.hid hr3
      have q3 : (n : Int) ≤ r.size := by omega
      have q5 : out.size + cb.size ≤ 1000000000 := by omega
      have q6 : (out ++ cb).size = out.size + cb.size := by rw [ByteArray.size_append]
      clear hnx hun hun2 HBAD HGOOD HU hr0 hrl hrl0 hrlen hb hlow hcn hwl hch hcle hc34 hc32 hc92 hcb hcl hbl hlast hr3
      go_wp2_with fail
      refine HF.out.mono ?_
      rintro e w2 ⟨rfl, rfl⟩
      go_wp2_with fail
      refine (HB.out _).mono ?_
      rintro e w4 ⟨rfl, hb4⟩
      have hb5 := hbw.trans (hb4.mono hbw.size)
      go_wp2_with fail
      rw [HR3.out]
      go_roundw
      case rel => exact ⟨r3, out ++ cb, f, rfl, rfl, by omega, by omega, by omega, hb5, HUN⟩
      case measure => simp only []; omega
  · have hq2 : (Lib.decodeL s.data.toList).1 ≠ 34 := by
      intro e
      apply hq
      rw [hl] at e
      have := (decode_lt (by rw [e]; omega)).1
      rw [← hb0, this, e]
    rw [if_pos hq2] at hu
    obtain ⟨⟨c, n⟩, hcn⟩ : ∃ cn, Lib.decodeL s.data.toList = cn := ⟨_, rfl⟩
    rw [hcn] at HF hw
    simp only [] at hw
    have HF := Lib.hid (show ∀ w, Calls Tryz.prog 61 #[.string s] w fun e w' => e = .returned (.tuple #[.int .i64 (c : Int), .int .i64 (n : Int)]) ∧ w' = w from HF)
    have HB := Lib.hid (hbad false hu)
    have x1 : ((n : Int) == 0) = false := by rw [beq_eq_false_iff_ne]; omega
    have x2 : ¬ (b0 : Int) = 34 := by omega
    have x3 : ((b0 : Int) != 34) = true := by rw [bne_iff_ne]; omega
    clear hu hbad hgood hb hl hl0 hslen hq hq2 hcn
    go_enter Tryz.func34, Tryz.ntmps34
    go_wp2_with fail
    refine (HF.out w).mono ?_
    rintro e w1 ⟨rfl, rfl⟩
    go_wp2_with fail
    refine bodyPost_ret (v := .tuple #[.string ⟨#[]⟩, .string s, .int .i64 21]) (by simp [results, Tryz.results34, go_sem]) rfl ?_
    exact HB.out _ _ rfl (Below.refl _ _)
end Go.Proofs.YtgfeeakcpojicaaGreatDoor
