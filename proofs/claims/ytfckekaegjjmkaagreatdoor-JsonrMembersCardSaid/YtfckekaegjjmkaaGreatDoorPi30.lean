/- The texts JrL, JrM, put together. -/
import Derived.Test.YtfckekaegjjmkaaGreatDoorPi29
namespace Go.Proofs.YtfckekaegjjmkaaGreatDoor
open Go.RowKit Go.Shelf
attribute [local go_sem] Oper.semAt_some

theorem parse_ok {l r : List UInt8} {n : Bool} {d : ByteArray} {e : Int} (h : parseD l = some ((n, d, e), r)) : decOk n d e = true := by
  unfold parseD at h
  split at h
  · cases h
  · split at h
    · cases h
    · split at h
      · cases h
      · rename_i hm
        injection h with h
        injection h with h1 h2
        subst h1
        exact makeD_ok hm

set_option maxHeartbeats 4000000 in
set_option maxRecDepth 100000 in
theorem jr_value_num (p d D : Nat) (s : ByteArray) (w : World) (hA : AtW w) (hR : RdJ w p s d) (hz : 0 < s.size) (hs : s.size ≤ 100000000) (hk : ¬ begB (s[0].toNat : Int)) :
    Calls Tryz.prog 53 #[.pointer (some ⟨p, 0, none⟩)] w (ReadJ p d D w s (numJ s.data.toList)) := by
  have hne := str_isS (show s.size ≠ 0 by omega)
  have z0 : (0 : Int) < s.size := by omega
  have hsl : s.data.toList.length = s.size := by simp
  obtain ⟨c, hc⟩ : ∃ c : Nat, s[0].toNat = c := ⟨_, rfl⟩
  have hc256 : c < 256 := by rw [← hc]; exact s[0].toNat_lt
  rw [hc] at hk
  have HL := Lib.hid (fun w b hm => starts_miss p w b hm c hc256 hk)
  have HS := Lib.hid (fun w => jr_starts p w)
  have HP := Lib.hid (fun W (hb : Below w.heap.size w W) => dec_Parse s hs W (hA.below hb (Nat.le_refl _)))
  have hk1 := Blk.new w zeroC 27
  have hr1 := hR.alloc (.cells zeroC 27)
  have hb1 : Below w.heap.size w (w.alloc (.cells zeroC 27)) := (Below.refl _ w).alloc (Nat.le_refl _) _
  have hplt := hR.lt
  have q0 := hr1.cell 0
  have HK := Lib.hid hk1
  have HR := Lib.hid hr1
  have HB := Lib.hid hb1
  clear hk1 hr1 hb1 hR hk hA
  unfold numJ
  cases hp : parseD s.data.toList with
  | none =>
    rw [hp] at HP
    have HP : Hid (∀ W, Below w.heap.size w W → Calls Tryz.prog 76 #[.string s] W fun x w' => Below W.heap.size W w' ∧ x = .returned (.tuple #[.agg #[.bool false, .string ⟨#[]⟩, .int .i64 0], .string s, .int .i64 40])) := HP
    show Calls _ _ _ _ (ReadJ p d D w s (.bad 80))
    clear hp hsl
    go_enter Tryz.func53, Tryz.ntmps53
    go_wp2_with fail
    go_region_held3 (fun w' => w'.cell? ⟨p, 0, none⟩ = some (.string s)) (go_keep)
          (first | (go_at_call 75; refine (HS.out _).mono ?_; rintro e w6 ⟨rfl, hw6⟩; have hs6 : (w.alloc (.cells zeroC 27)).drew.heap.size = w.heap.size + 1 := by { show (w.alloc _).heap.size = _; simp }; have hm6 : w6.heap[w.heap.size + 1]? = some (.map (startsJ p) 6) := by { rw [hw6, ← hs6]; exact heap_alloc_new _ _ }; have hb6 : Below w.heap.size w w6 := by { rw [hw6]; exact (HB.out.drew).alloc (by show w.heap.size ≤ (w.alloc _).heap.size; simp) _ }; have hk6 : Blk w6 w.heap.size zeroC 27 := by { rw [hw6]; exact (Blk.drew HK.out).alloc _ }; have hr6 : RdJ w6 p s d := by { rw [hw6]; exact (Blk.drew HR.out).alloc _ }; have hl6 := HL.out w6 _ hm6; simp only [hs6]; clear hw6 q0; have q0 := hr6.cell 0))
    all_goals
      have HPP := Lib.hid (HP.out w6 hb6)
      clear HP HK HR HB hm6 hl6 HL HS
      go_wp2_with fail
      refine HPP.out.mono ?_
      rintro x w7 ⟨hb7, rfl⟩
      have hk7 := (hk6.below hb7 hk6.lt).alloc (.cells #[.bool false, .string ⟨#[]⟩, .int .i64 0] 23)
      have hr7 := (hr6.below hb7 hr6.lt).alloc (.cells #[.bool false, .string ⟨#[]⟩, .int .i64 0] 23)
      have hg7 : w.grownBy (w7.alloc (.cells #[.bool false, .string ⟨#[]⟩, .int .i64 0] 23)) (some p) := below_grown ((hb6.trans (hb7.mono hb6.size)).alloc (by have := hb6.size; have := hb7.size; omega) _) _
      clear hb6 hk6 hr6 q0
      go_wp2_with fail
      refine (jr_bad _).mono ?_
      rintro e w8 ⟨rfl, rfl⟩
      go_wp2_with (refine wpList_store_row rfl 27 (.tmp 2) (.tmp 46) rfl (w.heap.size) zeroC rfl rfl 27 _ hk7 (by kernel_rfl) rfl (by simp [Value.oneCell']) ?_)
      refine bodyPost_ret (results_cell (T := 27) rfl rfl rfl (blk_row hk7 zeroC) Tryz.underlying27 rfl (by kernel_rfl)) rfl ?_
      exact ⟨grown_at hg7 (grown_row _ _ _) (by omega), ⟨rfl, .inr rfl⟩, s, d, blk_row_other hr7 (by omega) _, Nat.le_refl _⟩
  | some q =>
    obtain ⟨⟨dn, dd, de⟩, r⟩ := q
    have hok := own_n (parse_ok hp)
    have hrl : r.length ≤ s.size := by
      obtain ⟨own, _, h2, _⟩ := parse_own hp
      rw [h2, List.length_append] at hsl
      omega
    rw [hp] at HP
    have HP : Hid (∀ W, Below w.heap.size w W → Calls Tryz.prog 76 #[.string s] W fun x w' => Below W.heap.size W w' ∧ x = .returned (.tuple #[.agg #[.bool dn, .string dd, .int .i64 de], .string (bsD r), .int .i64 0])) := HP
    have HOK := Lib.hid hok
    have HRL := Lib.hid hrl
    show Calls _ _ _ _ (ReadJ p d D w s (.good (decT dn dd de) r))
    obtain ⟨rb, hrb⟩ : ∃ x, bsD r = x := ⟨_, rfl⟩
    rw [hrb] at HP
    have HRB := Lib.hid hrb
    clear hp hsl hok hrl hrb
    go_enter Tryz.func53, Tryz.ntmps53
    go_wp2_with fail
    go_region_held3 (fun w' => w'.cell? ⟨p, 0, none⟩ = some (.string s)) (go_keep)
          (first | (go_at_call 75; refine (HS.out _).mono ?_; rintro e w6 ⟨rfl, hw6⟩; have hs6 : (w.alloc (.cells zeroC 27)).drew.heap.size = w.heap.size + 1 := by { show (w.alloc _).heap.size = _; simp }; have hm6 : w6.heap[w.heap.size + 1]? = some (.map (startsJ p) 6) := by { rw [hw6, ← hs6]; exact heap_alloc_new _ _ }; have hb6 : Below w.heap.size w w6 := by { rw [hw6]; exact (HB.out.drew).alloc (by show w.heap.size ≤ (w.alloc _).heap.size; simp) _ }; have hk6 : Blk w6 w.heap.size zeroC 27 := by { rw [hw6]; exact (Blk.drew HK.out).alloc _ }; have hr6 : RdJ w6 p s d := by { rw [hw6]; exact (Blk.drew HR.out).alloc _ }; have hl6 := HL.out w6 _ hm6; simp only [hs6]; clear hw6 q0; have q0 := hr6.cell 0))
    all_goals
      have HPP := Lib.hid (HP.out w6 hb6)
      clear HP HK HR HB hm6 hl6 HL HS
      go_wp2_with fail
      refine HPP.out.mono ?_
      rintro x w7 ⟨hb7, rfl⟩
      have hd7 := Blk.new w7 #[.bool dn, .string dd, .int .i64 de] 23
      have hk7 := (hk6.below hb7 hk6.lt).alloc (.cells #[.bool dn, .string dd, .int .i64 de] 23)
      have hr7 := (hr6.below hb7 hr6.lt).alloc (.cells #[.bool dn, .string dd, .int .i64 de] 23)
      have hg7 : w.grownBy (w7.alloc (.cells #[.bool dn, .string dd, .int .i64 de] 23)) (some p) := below_grown ((hb6.trans (hb7.mono hb6.size)).alloc (by have := hb6.size; have := hb7.size; omega) _) _
      have hp7 : p ≠ w7.heap.size := by have := hb6.size; have := hb7.size; omega
      have f7 := hr7.frozen 0
      have q7 := hr7.cell 0
      have hr8 := hr7.set 0 (.string rb)
      have hk8 := hk7.other (b' := p) (by omega) 0 (.string rb)
      have hd8 := hd7.other (b' := p) (by omega) 0 (.string rb)
      have hg8 := grown_trans hg7 (grown_set _ p 0 (.string rb))
      have c0 := hd8.cell 0
      have c1 := hd8.cell 1
      have c2 := hd8.cell 2
      clear hb6 hk6 hr6 q0
      go_wp2_with (refine wpList_store_row rfl 27 (.tmp 2) (.tmp 54) rfl (w.heap.size) #[.int .i64 3, .bool false, .bool dn, .string dd, .int .i64 de, .int .u64 0, .int .i64 0, .string ⟨#[]⟩, .slice none 0 0] rfl rfl 27 _ hk8 (by kernel_rfl) rfl (by simp [Value.oneCell']) ?_)
      refine bodyPost_ret (results_cell (T := 27) rfl rfl rfl (blk_row hk8 _) Tryz.underlying27 rfl (by kernel_rfl)) rfl ?_
      exact ⟨grown_at hg8 (grown_row _ _ _) (by omega), ⟨none, 0, 0, rfl, LAt.nil _ _ _ _ _⟩, HOK.out, by rw [HRB.out]; exact blk_row_other hr8 (by omega) _, HRL.out⟩
end Go.Proofs.YtfckekaegjjmkaaGreatDoor
namespace Go.Proofs.YtfckekaegjjmkaaGreatDoor
open Go.RowKit Go.Shelf

theorem str_nil {s : ByteArray} (h : s.data.toList = []) : s = ⟨#[]⟩ := by
  rw [← bsD_of s, h]
  rfl
theorem head_byte {s : ByteArray} {c : UInt8} {r : List UInt8} (h : s.data.toList = c :: r) : ∃ hz : 0 < s.size, s[0]'hz = c := by
  have hsl : s.data.toList.length = s.size := by simp
  rw [h, List.length_cons] at hsl
  have z1 : 0 < s.size := by omega
  refine ⟨z1, ?_⟩
  have := drop_at s 0 z1
  rw [List.drop_zero, h] at this
  exact (List.cons.inj this).1.symm
set_option maxHeartbeats 1000000 in
theorem jr_value {w0 : World} {uT uQ : Addr} (hU : UW w0 uT uQ) (hA : AtW w0) (F : Nat) : ∀ d, d ≤ 16 → ValC w0 F d
  | 0, _ => by
    intro p s w hb0 hp hr hs hF
    show Calls _ _ _ _ (ReadJ p 16 0 w s (bodyJ uqJ none F s.data.toList))
    have hr : RdJ w p s 16 := hr
    cases hl : s.data.toList with
    | nil =>
      obtain rfl := str_nil hl
      exact jr_value_nil p 16 0 w hr
    | cons c r =>
      obtain ⟨hz, hc0⟩ := head_byte hl
      by_cases h91 : c = 91
      · subst h91
        rw [show bodyJ uqJ none F (91 :: r) = (.bad 60) from rfl]
        have hs0 : ((s[0]'hz).toNat : Int) = 91 := by rw [hc0]; rfl
        refine jr_value_beg p 16 0 s _ w hr hz hs (by rw [hs0]; unfold begB; decide) (fun W hbW hrW => ?_)
        rw [show rjF ((s[0]'hz).toNat : Int) = 113 by rw [hs0]; rfl]
        refine jr_array p 16 0 s _ W hrW (fun W2 hb2 hr2 => ?_)
        exact jr_list_deep p 0 7 91 93 false s W2 hr2
      by_cases h123 : c = 123
      · subst h123
        rw [show bodyJ uqJ none F (123 :: r) = (.bad 60) from rfl]
        have hs0 : ((s[0]'hz).toNat : Int) = 123 := by rw [hc0]; rfl
        refine jr_value_beg p 16 0 s _ w hr hz hs (by rw [hs0]; unfold begB; decide) (fun W hbW hrW => ?_)
        rw [show rjF ((s[0]'hz).toNat : Int) = 114 by rw [hs0]; rfl]
        refine jr_members p 16 0 s _ W hrW (fun W2 hb2 hr2 => ?_)
        exact jr_list_deep p 0 8 123 125 true s W2 hr2
      by_cases h34 : c = 34
      · subst h34
        rw [show bodyJ uqJ none F (34 :: r) = textJ uqJ (34 :: r) from rfl]
        have hs0 : ((s[0]'hz).toNat : Int) = 34 := by rw [hc0]; rfl
        refine jr_value_beg p 16 0 s _ w hr hz hs (by rw [hs0]; unfold begB; decide) (fun W hbW hrW => ?_)
        rw [show rjF ((s[0]'hz).toNat : Int) = 115 by rw [hs0]; rfl, ← hl]
        exact jr_text hU p 16 0 s W (hb0.trans (hbW.mono hb0.size)) hrW (by omega)
      by_cases h110 : c = 110
      · subst h110
        rw [show bodyJ uqJ none F (110 :: r) = wordJ [110, 117, 108, 108] nilT (110 :: r) from rfl]
        have hs0 : ((s[0]'hz).toNat : Int) = 110 := by rw [hc0]; rfl
        refine jr_value_beg p 16 0 s _ w hr hz hs (by rw [hs0]; unfold begB; decide) (fun W hbW hrW => ?_)
        rw [show rjF ((s[0]'hz).toNat : Int) = 116 by rw [hs0]; rfl, ← hl]
        exact jr_null p 16 0 s W hrW
      by_cases h116 : c = 116
      · subst h116
        rw [show bodyJ uqJ none F (116 :: r) = wordJ [116, 114, 117, 101] (boolT true) (116 :: r) from rfl]
        have hs0 : ((s[0]'hz).toNat : Int) = 116 := by rw [hc0]; rfl
        refine jr_value_beg p 16 0 s _ w hr hz hs (by rw [hs0]; unfold begB; decide) (fun W hbW hrW => ?_)
        rw [show rjF ((s[0]'hz).toNat : Int) = 117 by rw [hs0]; rfl, ← hl]
        exact jr_true p 16 0 s W hrW
      by_cases h102 : c = 102
      · subst h102
        rw [show bodyJ uqJ none F (102 :: r) = wordJ [102, 97, 108, 115, 101] (boolT false) (102 :: r) from rfl]
        have hs0 : ((s[0]'hz).toNat : Int) = 102 := by rw [hc0]; rfl
        refine jr_value_beg p 16 0 s _ w hr hz hs (by rw [hs0]; unfold begB; decide) (fun W hbW hrW => ?_)
        rw [show rjF ((s[0]'hz).toNat : Int) = 118 by rw [hs0]; rfl, ← hl]
        exact jr_false p 16 0 s W hrW
      have hb : bodyJ uqJ none F (c :: r) = numJ (c :: r) := by
        unfold bodyJ
        simp only [if_neg h91, if_neg h123, if_neg h34, if_neg h110, if_neg h116, if_neg h102]
      rw [hb, ← hl]
      refine jr_value_num p 16 0 s w (hA.below hb0 (Nat.le_refl _)) hr hz hs (fun h => ?_)
      have e : ∀ k : UInt8, ((s[0]'hz).toNat : Int) = (k.toNat : Int) → c = k := fun k hk => by
        rw [hc0] at hk
        exact UInt8.toNat_inj.1 (by omega)
      rcases h with h | h | h | h | h | h
      · exact h91 (e 91 h)
      · exact h123 (e 123 h)
      · exact h34 (e 34 h)
      · exact h110 (e 110 h)
      · exact h116 (e 116 h)
      · exact h102 (e 102 h)
  | d + 1, hd => by
    have ih := fun h => jr_value hU hA F d h
    intro p s w hb0 hp hr hs hF
    show Calls _ _ _ _ (ReadJ p (16 - (d + 1)) (d + 1) w s (bodyJ uqJ (some (valueJ uqJ F d)) F s.data.toList))
    cases hl : s.data.toList with
    | nil =>
      obtain rfl := str_nil hl
      exact jr_value_nil p (16 - (d + 1)) (d + 1) w hr
    | cons c r =>
      obtain ⟨hz, hc0⟩ := head_byte hl
      by_cases h91 : c = 91
      · subst h91
        rw [show bodyJ uqJ (some (valueJ uqJ F d)) F (91 :: r) = (bindP (listJ uqJ (valueJ uqJ F d) false 93 F) (fun L => pureP (listT 7 L)) r) from rfl]
        have hs0 : ((s[0]'hz).toNat : Int) = 91 := by rw [hc0]; rfl
        refine jr_value_beg p (16 - (d + 1)) (d + 1) s _ w hr hz hs (by rw [hs0]; unfold begB; decide) (fun W hbW hrW => ?_)
        rw [show rjF ((s[0]'hz).toNat : Int) = 113 by rw [hs0]; rfl]
        refine jr_array p (16 - (d + 1)) (d + 1) s _ W hrW (fun W2 hb2 hr2 => ?_)
        exact jr_list hU F d p 7 (by decide) 91 93 (by decide) false (by omega) (ih (by omega)) s r hl W2 (hb0.trans (((hbW.trans (hb2.mono hbW.size))).mono hb0.size)) hp hr2 hs hF
      by_cases h123 : c = 123
      · subst h123
        rw [show bodyJ uqJ (some (valueJ uqJ F d)) F (123 :: r) = (bindP (listJ uqJ (valueJ uqJ F d) true 125 F) (fun L => pureP (listT 8 L)) r) from rfl]
        have hs0 : ((s[0]'hz).toNat : Int) = 123 := by rw [hc0]; rfl
        refine jr_value_beg p (16 - (d + 1)) (d + 1) s _ w hr hz hs (by rw [hs0]; unfold begB; decide) (fun W hbW hrW => ?_)
        rw [show rjF ((s[0]'hz).toNat : Int) = 114 by rw [hs0]; rfl]
        refine jr_members p (16 - (d + 1)) (d + 1) s _ W hrW (fun W2 hb2 hr2 => ?_)
        exact jr_list hU F d p 8 (by decide) 123 125 (by decide) true (by omega) (ih (by omega)) s r hl W2 (hb0.trans (((hbW.trans (hb2.mono hbW.size))).mono hb0.size)) hp hr2 hs hF
      by_cases h34 : c = 34
      · subst h34
        rw [show bodyJ uqJ (some (valueJ uqJ F d)) F (34 :: r) = textJ uqJ (34 :: r) from rfl]
        have hs0 : ((s[0]'hz).toNat : Int) = 34 := by rw [hc0]; rfl
        refine jr_value_beg p (16 - (d + 1)) (d + 1) s _ w hr hz hs (by rw [hs0]; unfold begB; decide) (fun W hbW hrW => ?_)
        rw [show rjF ((s[0]'hz).toNat : Int) = 115 by rw [hs0]; rfl, ← hl]
        exact jr_text hU p (16 - (d + 1)) (d + 1) s W (hb0.trans (hbW.mono hb0.size)) hrW (by omega)
      by_cases h110 : c = 110
      · subst h110
        rw [show bodyJ uqJ (some (valueJ uqJ F d)) F (110 :: r) = wordJ [110, 117, 108, 108] nilT (110 :: r) from rfl]
        have hs0 : ((s[0]'hz).toNat : Int) = 110 := by rw [hc0]; rfl
        refine jr_value_beg p (16 - (d + 1)) (d + 1) s _ w hr hz hs (by rw [hs0]; unfold begB; decide) (fun W hbW hrW => ?_)
        rw [show rjF ((s[0]'hz).toNat : Int) = 116 by rw [hs0]; rfl, ← hl]
        exact jr_null p (16 - (d + 1)) (d + 1) s W hrW
      by_cases h116 : c = 116
      · subst h116
        rw [show bodyJ uqJ (some (valueJ uqJ F d)) F (116 :: r) = wordJ [116, 114, 117, 101] (boolT true) (116 :: r) from rfl]
        have hs0 : ((s[0]'hz).toNat : Int) = 116 := by rw [hc0]; rfl
        refine jr_value_beg p (16 - (d + 1)) (d + 1) s _ w hr hz hs (by rw [hs0]; unfold begB; decide) (fun W hbW hrW => ?_)
        rw [show rjF ((s[0]'hz).toNat : Int) = 117 by rw [hs0]; rfl, ← hl]
        exact jr_true p (16 - (d + 1)) (d + 1) s W hrW
      by_cases h102 : c = 102
      · subst h102
        rw [show bodyJ uqJ (some (valueJ uqJ F d)) F (102 :: r) = wordJ [102, 97, 108, 115, 101] (boolT false) (102 :: r) from rfl]
        have hs0 : ((s[0]'hz).toNat : Int) = 102 := by rw [hc0]; rfl
        refine jr_value_beg p (16 - (d + 1)) (d + 1) s _ w hr hz hs (by rw [hs0]; unfold begB; decide) (fun W hbW hrW => ?_)
        rw [show rjF ((s[0]'hz).toNat : Int) = 118 by rw [hs0]; rfl, ← hl]
        exact jr_false p (16 - (d + 1)) (d + 1) s W hrW
      have hb : bodyJ uqJ (some (valueJ uqJ F d)) F (c :: r) = numJ (c :: r) := by
        unfold bodyJ
        simp only [if_neg h91, if_neg h123, if_neg h34, if_neg h110, if_neg h116, if_neg h102]
      rw [hb, ← hl]
      refine jr_value_num p (16 - (d + 1)) (d + 1) s w (hA.below hb0 (Nat.le_refl _)) hr hz hs (fun h => ?_)
      have e : ∀ k : UInt8, ((s[0]'hz).toNat : Int) = (k.toNat : Int) → c = k := fun k hk => by
        rw [hc0] at hk
        exact UInt8.toNat_inj.1 (by omega)
      rcases h with h | h | h | h | h | h
      · exact h91 (e 91 h)
      · exact h123 (e 123 h)
      · exact h34 (e 34 h)
      · exact h110 (e 110 h)
      · exact h116 (e 116 h)
      · exact h102 (e 102 h)
end Go.Proofs.YtfckekaegjjmkaaGreatDoor
