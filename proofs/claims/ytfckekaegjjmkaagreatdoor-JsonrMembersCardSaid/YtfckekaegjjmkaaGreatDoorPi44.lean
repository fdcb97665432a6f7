/- The texts JrS, JsO, JrU, JrMP, RtA, RtB, RefOc, Dgs, RefO, put together. -/
import Derived.Test.YtfckekaegjjmkaaGreatDoorPi43
import Derived.Test.YtfckekaegjjmkaaGreatDoorPi10
import Derived.Test.YtfckekaegjjmkaaGreatDoorPi02
import Derived.Test.YtfckekaegjjmkaaGreatDoorPi07
import Derived.Test.YtfckekaegjjmkaaGreatDoorPi11
import Derived.StillTailTactics
import Derived.Lib.ItoaNum
namespace Go.Proofs.YtfckekaegjjmkaaGreatDoor
open Go.RowKit Go.Shelf
attribute [local go_sem] Oper.semAt_some


end Go.Proofs.YtfckekaegjjmkaaGreatDoor
namespace Go.Proofs.YtfckekaegjjmkaaGreatDoor
open Go.RowKit Go.Shelf

end Go.Proofs.YtfckekaegjjmkaaGreatDoor
namespace Go.Proofs.YtfckekaegjjmkaaGreatDoor
open Go.RowKit Go.Shelf
attribute [local go_sem] Oper.semAt_some



theorem good_read {l : List UInt8} {t : Tr} (hl : l.length ≤ 4000) (h : docJ uqJ (l.length + 1) l = .good t []) : readJ uqJ l = (0, t) := by
  unfold readJ
  rw [if_neg (by omega), h]
theorem bad_read {l : List UInt8} {e : Int} (hl : l.length ≤ 4000) (h : docJ uqJ (l.length + 1) l = .bad e) : readJ uqJ l = (e, .nd zeroO []) := by
  unfold readJ
  rw [if_neg (by omega), h]
end Go.Proofs.YtfckekaegjjmkaaGreatDoor
namespace Go.Proofs.YtfckekaegjjmkaaGreatDoor
open Go.RowKit Go.Shelf

theorem pairs_snoc (k : List UInt8) : ∀ (ks : List (List UInt8)) (i : Nat), pairsL (ks ++ [k]) i = pairsL ks i ++ [strT 5 k, numD (i + ks.length)]
  | [], i => rfl
  | x :: ks, i => by
    rw [List.cons_append, pairsL, pairs_snoc k ks (i + 1), pairsL, List.length_cons, show i + 1 + ks.length = i + (ks.length + 1) by omega]
    rfl
noncomputable abbrev memP (ks : List (List UInt8)) : List UInt8 := jsM quoteL false 1 true (pairsL ks 0)
theorem memP_snoc (ks : List (List UInt8)) (k : List UInt8) (h : ks.length < 20) : memP (ks ++ [k]) = memP ks ++ ((if ks = [] then [] else [44]) ++ (quoteL k ++ (58 :: Lib.decDigits ks.length))) := by
  unfold memP
  rw [pairs_snoc, Nat.zero_add, rowsM_snoc quoteL false 1 (strT 5 k) (numD ks.length) ks.length _ _ (pairs_len ks 0)]
  have e1 : (true = true ∧ pairsL ks 0 = []) ↔ ks = [] := by
    constructor
    · rintro ⟨_, h⟩
      have := pairs_len ks 0
      rw [h] at this
      exact List.length_eq_zero_iff.1 (by simp at this; omega)
    · rintro rfl
      exact ⟨rfl, rfl⟩
  have e2 : lineL false 1 = [] := rfl
  have e3 : gapL false = [] := rfl
  have e4 : jsT quoteL false 1 (strT 5 k) = quoteL k := by
    unfold strT
    rw [jsT]
    rfl
  have e5 : jsT quoteL false 1 (numD ks.length) = Lib.decDigits ks.length := by
    rw [← fmt_small ks.length h]
    unfold numD decT
    rw [jsT]
    rfl
  rw [e2, e3, e4, e5]
  by_cases h : ks = []
  · rw [if_pos (e1.2 h), if_pos h]; rfl
  · rw [if_neg (fun x => h (e1.1 x)), if_neg h]; rfl
theorem memP_doc (ks : List (List UInt8)) : jsT quoteL false 0 (listT 8 (pairsL ks 0)) = 123 :: (memP ks ++ [125]) := by
  unfold listT
  rw [jsT, if_neg (by decide), if_neg (by decide), if_neg (by decide), if_neg (by decide), if_neg (by decide), if_pos rfl]
  split
  · rename_i h
    have : ks = [] := List.length_eq_zero_iff.1 (by rw [pairs_len] at h; omega)
    subst this
    rfl
  · show 123 :: ((jsM quoteL false 1 true (pairsL ks 0) ++ []) ++ [125]) = _
    rw [List.append_nil]
/-- What was gathered: keys, the text, whether two are the same. -/
structure MemG (ks : List ByteArray) (s : ByteArray) (tw : Bool) : Prop where
  txt : s.data.toList = 123 :: memP (ks.map (·.data.toList))
  ok : ∀ k ∈ ks, k.size ≤ 20 ∧ Lib.validD k.data.toList = true
  tw : tw = true ↔ ¬ ks.Nodup
theorem MemG.start : MemG [] ⟨#[123]⟩ false := ⟨rfl, fun k hk => absurd hk (by simp), by simp⟩
theorem dig_small (n : Nat) (h : n < 20) : (Lib.decDigits n).length ≤ 2 := by
  have : ∀ i : Nat, i < 20 → (Lib.decDigits i).length ≤ 2 := by decide +kernel
  exact this n h
theorem nodup_snoc (ks : List ByteArray) (k : ByteArray) : (ks ++ [k]).Nodup ↔ ks.Nodup ∧ k ∉ ks := by
  unfold List.Nodup
  rw [List.pairwise_append]
  constructor
  · rintro ⟨h1, _, h3⟩
    exact ⟨h1, fun hk => h3 k hk k (by simp) rfl⟩
  · rintro ⟨h1, h2⟩
    exact ⟨h1, by simp, fun a ha b hb e => h2 (by rw [List.mem_singleton.1 hb] at e; rw [← e]; exact ha)⟩
theorem MemG.step {ks : List ByteArray} {s : ByteArray} {tw tw' : Bool} (h : MemG ks s tw) {k : ByteArray} {s' : ByteArray} (hn : ks.length < 20) (hk : k.size ≤ 20) (hv : Lib.validD k.data.toList = true) (ht : tw' = true ↔ tw = true ∨ k ∈ ks)
    (hs : s'.data.toList = s.data.toList ++ ((if ks = [] then [] else [44]) ++ (quoteL k.data.toList ++ (58 :: Lib.decDigits ks.length)))) : MemG (ks ++ [k]) s' tw' := by
  refine ⟨?_, fun x hx => ?_, ?_⟩
  · rw [hs, h.txt, List.map_append, List.map_cons, List.map_nil, memP_snoc _ _ (by rw [List.length_map]; exact hn), List.length_map]
    have e : (ks.map (·.data.toList) = []) ↔ ks = [] := List.map_eq_nil_iff
    by_cases q : ks = []
    · rw [if_pos q, if_pos (e.2 q)]; rfl
    · rw [if_neg q, if_neg (fun x => q (e.1 x))]; rfl
  · rcases List.mem_append.1 hx with hx | hx
    · exact h.ok x hx
    · rw [List.mem_singleton.1 hx]
      exact ⟨hk, hv⟩
  · rw [ht, h.tw, nodup_snoc]
    by_cases q : k ∈ ks <;> simp [q]
theorem MemG.same {ks : List ByteArray} {s : ByteArray} {tw tw' : Bool} (h : MemG ks s tw) (e : tw' = tw) : MemG ks s tw' := e ▸ h
theorem listB_inj {a b : ByteArray} (h : a.data.toList = b.data.toList) : a = b := by
  apply ByteArray.ext
  exact Array.toList_inj.1 h
/-- What is read of it. -/
theorem MemG.read {ks : List ByteArray} {s : ByteArray} {tw : Bool} (h : MemG ks s tw) (hn : ks.length ≤ 20) (hs : s.size ≤ 3900) :
    readJ uqJ (s ++ ⟨#[125]⟩).data.toList = if tw = true then (60, .nd zeroO []) else (0, listT 8 (pairsL (ks.map (·.data.toList)) 0)) := by
  have hok : ∀ k ∈ ks.map (·.data.toList), k.length ≤ 400 ∧ Lib.validD k = true := fun k hk => by
    obtain ⟨x, hx, rfl⟩ := List.mem_map.1 hk
    obtain ⟨h1, h2⟩ := h.ok x hx
    exact ⟨by simpa using Nat.le_trans h1 (by decide), h2⟩
  have hd : (s ++ ⟨#[125]⟩).data.toList = jsT quoteL false 0 (listT 8 (pairsL (ks.map (·.data.toList)) 0)) := by
    rw [memP_doc, ByteArray.data_append, Array.toList_append, h.txt]
    rfl
  have hl : (s ++ ⟨#[125]⟩).data.toList.length ≤ 4000 := by
    have e : (s ++ ⟨#[125]⟩).data.toList.length = (s ++ ⟨#[125]⟩).size := Array.length_toList
    rw [e, ByteArray.size_append]
    have e2 : (⟨#[125]⟩ : ByteArray).size = 1 := rfl
    omega
  obtain ⟨_, _, _, h4⟩ := members_ok (ks.map (·.data.toList)) (by rw [List.length_map]; omega) hok
  have hm := members_read (U := uqJ) (Q := quoteL) quoteL_beg (fun l m hv => uqJ_quote l m hv) uqJ_own2 (ks.map (·.data.toList)) (by rw [List.length_map]; omega) hok ((s ++ ⟨#[125]⟩).data.toList.length + 1) (by rw [← hd]; omega)
  rw [← hd] at hm
  have hnd : ks.Nodup ↔ rightT (listT 8 (pairsL (ks.map (·.data.toList)) 0)) = true := by
    rw [h4]
    unfold List.Nodup
    rw [List.pairwise_iff_getElem]
    constructor
    · intro q a b ha hb e
      rw [List.length_map] at ha
      rw [List.getElem_map, List.getElem_map] at e
      exact q b a (by omega) ha hb (listB_inj e.symm)
    · intro q i j hi hj hij e
      refine q j i (by rw [List.length_map]; exact hj) hij ?_
      rw [List.getElem_map, List.getElem_map, e]
  by_cases ht : tw = true
  · rw [if_pos ht]
    rw [if_neg (fun q => (h.tw.1 ht) (hnd.2 q))] at hm
    exact bad_read hl hm
  · rw [if_neg ht]
    rw [if_pos (hnd.1 (Decidable.byContradiction fun q => ht (h.tw.2 q)))] at hm
    exact good_read hl hm
end Go.Proofs.YtfckekaegjjmkaaGreatDoor
namespace Go.Proofs.YtfckekaegjjmkaaGreatDoor
open Go.RowKit Go.Shelf


end Go.Proofs.YtfckekaegjjmkaaGreatDoor
namespace Go.Proofs.YtfckekaegjjmkaaGreatDoor
open Go.RowKit Go.Shelf

set_option maxHeartbeats 2000000 in
set_option maxRecDepth 100000 in
theorem ref_natOk (s : ByteArray) (hs : s.size ≤ 9223372036854775807) (w : World) :
    Calls Tryz.prog 100 #[.string s] w fun e w' => e = .returned (.bool (natOk s)) ∧ w' = w := by
  obtain ⟨ans, hans⟩ : ∃ ans, natOk s = ans := ⟨_, rfl⟩
  rw [hans]
  unfold natOk at hans
  by_cases h1 : 1 ≤ s.size
  · rw [decide_eq_true h1, Bool.true_and] at hans
    have z0 : ¬ (s.size : Int) < 1 := by omega
    by_cases h4 : s.size ≤ 400
    · rw [decide_eq_true h4, Bool.true_and] at hans
      have z1 : ¬ (400 : Int) < s.size := by omega
      rw [head_at0 s h1] at hans
      obtain ⟨c0, hc0⟩ : ∃ c0, s[0].toNat = c0 := ⟨_, rfl⟩
      have hd48 : decide (some s[0] = some (48 : UInt8)) = decide (c0 = 48) := by
        rw [← hc0]
        by_cases e : s[0].toNat = 48
        · rw [decide_eq_true e, decide_eq_true (congrArg some (UInt8.toNat_inj.1 e))]
        · rw [decide_eq_false e, decide_eq_false (fun h => e (by rw [Option.some.inj h]; rfl))]
      rw [hd48] at hans
      clear hd48
      by_cases h2 : 1 < s.size
      · have z2 : (1 : Int) < s.size := by omega
        rw [decide_eq_true h2, Bool.true_and] at hans
        by_cases h3 : c0 = 48
        · subst h3
          rw [decide_eq_true rfl] at hans
          have ha : ans = false := by rw [← hans]; rfl
          subst ha
          clear hans h4 h2
          go_enter Tryz.func100, Tryz.ntmps100
          go_wp2_with fail
          go_ret
          exact ⟨rfl, rfl⟩
        · rw [decide_eq_false h3, Bool.not_false, Bool.true_and] at hans
          have z3 : ¬ (c0 : Int) = 48 := by omega
          have z4 : ((c0 : Int) == 48) = false := by rw [beq_eq_false_iff_ne]; exact z3
          have HYS := Lib.hid (fun (h : ∀ j (h : j < s.size), isDig s[j] = true) => hans.symm.trans (all_dig.2 h))
          have HNO := Lib.hid (fun k (h : k < s.size) (hk : isDig s[k] = false) => show ans = false by
            rw [← hans, ← Bool.not_eq_true]
            exact fun e => by rw [all_dig.1 e k h] at hk; cases hk)
          clear hans h3 h2 h4
          go_enter Tryz.func100, Tryz.ntmps100
          go_wp2_with fail
          clear z4 z3 hc0 z2
          go_loopw [3] (fun i wr => ∃ k : Nat, k ≤ s.size ∧ i = .int .i64 k ∧ (∀ j (h : j < s.size), j < k → isDig s[j] = true) ∧ wr = w) (fun i _ => s.size - (intOf i).toNat)
          case atStart => exact ⟨0, by omega, rfl, fun j _ h => absurd h (by omega), rfl⟩
          case round =>
            obtain ⟨k, hk, rfl, hall, rfl⟩ := hrel
            by_cases hlt : k < s.size
            · have hdk : isDig s[k] = (decide (48 ≤ s[k].toNat) && decide (s[k].toNat ≤ 57)) := rfl
              have HAL := Lib.hid hall
              have HDK := Lib.hid (fun (h : isDig s[k] = false) => HNO.out k hlt h)
              have HYE := Lib.hid (fun (h : isDig s[k] = true) => (fun j (hj : j < s.size) (hjk : j < k + 1) => (by
                by_cases e : j = k
                · subst e; exact h
                · exact hall j hj (by omega) : isDig s[j] = true)))
              rw [hdk] at HDK HYE
              obtain ⟨c, hc⟩ : ∃ c, s[k].toNat = c := ⟨_, rfl⟩
              rw [hc] at HDK HYE
              have y1 : (k : Int) < s.size := by omega
              clear hdk hall
              by_cases h48 : 48 ≤ c
              · have y2 : ¬ (c : Int) < 48 := by omega
                by_cases h57 : c ≤ 57
                · have y3 : ¬ (57 : Int) < c := by omega
                  have HYE := Lib.hid (HYE.out (by rw [decide_eq_true h48, decide_eq_true h57]; rfl))
                  clear HDK h48 h57
                  go_wp2_with fail
                  go_roundw
                  case rel => exact ⟨k + 1, by omega, by go_num, HYE.out, trivial⟩
                  case measure => simp [intOf]; omega
                · have y3 : (57 : Int) < c := by omega
                  have ha := HDK.out (by rw [decide_eq_false h57, Bool.and_false])
                  subst ha
                  clear HDK HYE h48 h57
                  go_wp2_with fail
                  go_ret
                  exact ⟨rfl, rfl⟩
              · have y2 : (c : Int) < 48 := by omega
                have ha := HDK.out (by rw [decide_eq_false h48, Bool.false_and])
                subst ha
                clear HDK HYE h48
                go_wp2_with fail
                go_ret
                exact ⟨rfl, rfl⟩
            · obtain rfl : k = s.size := by omega
              have y1 : ¬ ((s.size : Nat) : Int) < s.size := by omega
              have ha := HYS.out (fun j h => hall j h h)
              subst ha
              go_wp2_with fail
              go_ret
              exact ⟨rfl, rfl⟩
      · have z2 : ¬ (1 : Int) < s.size := by omega
        rw [decide_eq_false h2, Bool.false_and, Bool.not_false, Bool.true_and] at hans
        have HYS := Lib.hid (fun (h : ∀ j (h : j < s.size), isDig s[j] = true) => hans.symm.trans (all_dig.2 h))
        have HNO := Lib.hid (fun k (h : k < s.size) (hk : isDig s[k] = false) => show ans = false by
          rw [← hans, ← Bool.not_eq_true]
          exact fun e => by rw [all_dig.1 e k h] at hk; cases hk)
        clear hans h2 h4
        go_enter Tryz.func100, Tryz.ntmps100
        go_wp2_with fail
        clear hc0 z2
        go_loopw [3] (fun i wr => ∃ k : Nat, k ≤ s.size ∧ i = .int .i64 k ∧ (∀ j (h : j < s.size), j < k → isDig s[j] = true) ∧ wr = w) (fun i _ => s.size - (intOf i).toNat)
        case atStart => exact ⟨0, by omega, rfl, fun j _ h => absurd h (by omega), rfl⟩
        case round =>
          obtain ⟨k, hk, rfl, hall, rfl⟩ := hrel
          by_cases hlt : k < s.size
          · have hdk : isDig s[k] = (decide (48 ≤ s[k].toNat) && decide (s[k].toNat ≤ 57)) := rfl
            have HAL := Lib.hid hall
            have HDK := Lib.hid (fun (h : isDig s[k] = false) => HNO.out k hlt h)
            have HYE := Lib.hid (fun (h : isDig s[k] = true) => (fun j (hj : j < s.size) (hjk : j < k + 1) => (by
              by_cases e : j = k
              · subst e; exact h
              · exact hall j hj (by omega) : isDig s[j] = true)))
            rw [hdk] at HDK HYE
            obtain ⟨c, hc⟩ : ∃ c, s[k].toNat = c := ⟨_, rfl⟩
            rw [hc] at HDK HYE
            have y1 : (k : Int) < s.size := by omega
            clear hdk hall
            by_cases h48 : 48 ≤ c
            · have y2 : ¬ (c : Int) < 48 := by omega
              by_cases h57 : c ≤ 57
              · have y3 : ¬ (57 : Int) < c := by omega
                have HYE := Lib.hid (HYE.out (by rw [decide_eq_true h48, decide_eq_true h57]; rfl))
                clear HDK h48 h57
                go_wp2_with fail
                go_roundw
                case rel => exact ⟨k + 1, by omega, by go_num, HYE.out, trivial⟩
                case measure => simp [intOf]; omega
              · have y3 : (57 : Int) < c := by omega
                have ha := HDK.out (by rw [decide_eq_false h57, Bool.and_false])
                subst ha
                clear HDK HYE h48 h57
                go_wp2_with fail
                go_ret
                exact ⟨rfl, rfl⟩
            · have y2 : (c : Int) < 48 := by omega
              have ha := HDK.out (by rw [decide_eq_false h48, Bool.false_and])
              subst ha
              clear HDK HYE h48
              go_wp2_with fail
              go_ret
              exact ⟨rfl, rfl⟩
          · obtain rfl : k = s.size := by omega
            have y1 : ¬ ((s.size : Nat) : Int) < s.size := by omega
            have ha := HYS.out (fun j h => hall j h h)
            subst ha
            go_wp2_with fail
            go_ret
            exact ⟨rfl, rfl⟩
    · rw [decide_eq_false h4, Bool.false_and] at hans
      have z1 : (400 : Int) < s.size := by omega
      subst hans
      clear h1 h4
      go_enter Tryz.func100, Tryz.ntmps100
      go_wp2_with fail
      go_ret
      exact ⟨rfl, rfl⟩
  · rw [decide_eq_false h1, Bool.false_and] at hans
    have z0 : (s.size : Int) < 1 := by omega
    subst hans
    clear h1
    go_enter Tryz.func100, Tryz.ntmps100
    go_wp2_with fail
    go_ret
    exact ⟨rfl, rfl⟩

set_option maxHeartbeats 2000000 in
set_option maxRecDepth 100000 in
theorem ref_decOk (neg : Bool) (dg : ByteArray) (ex : Int) (hs : dg.size ≤ 9223372036854775807) (w : World) :
    Calls Tryz.prog 65 #[.agg #[.bool neg, .string dg, .int .i64 ex]] w fun e w' => e = .returned (.bool (decOk neg dg ex)) ∧ Below w.heap.size w w' := by
  have HN := Lib.hid (ref_natOk dg hs)
  obtain ⟨ans, hans⟩ : ∃ ans, decOk neg dg ex = ans := ⟨_, rfl⟩
  have hbx : Below w.heap.size w (w.alloc (.cells #[.bool neg, .string dg, .int .i64 ex] 23)) := (Below.refl _ _).alloc (Nat.le_refl _) _
  rw [hans]
  unfold decOk at hans
  have h1l : natOk dg = true → 1 ≤ dg.size := fun h => by
    unfold natOk at h
    rw [Bool.and_eq_true, decide_eq_true_iff] at h
    exact h.1
  cases hn : natOk dg with
  | false =>
    rw [hn] at HN hans
    subst hans
    clear hn h1l
    go_enter Tryz.func65, Tryz.ntmps65
    go_wp2_with fail
    refine (HN.out _).mono ?_
    rintro e w2 ⟨rfl, rfl⟩
    go_wp2_with fail
    all_goals go_ret
    all_goals exact ⟨rfl, hbx⟩
  | true =>
    rw [hn] at HN hans
    have h1 := h1l hn
    rw [Bool.true_and] at hans
    clear hn h1l
    by_cases h100 : dg.size ≤ 100
    · have z1 : ¬ (100 : Int) < dg.size := by omega
      rw [decide_eq_true h100, Bool.true_and] at hans
      by_cases h0 : dg.toList = [48]
      · have z2 : (dg.toList == [48]) = true := by rw [beq_iff_eq]; exact h0
        rw [if_pos h0] at hans
        by_cases he : ex = 0
        · rw [decide_eq_true he, Bool.true_and] at hans
          subst he
          subst hans
          clear h0
          go_enter Tryz.func65, Tryz.ntmps65
          go_wp2_with fail
          refine (HN.out _).mono ?_
          rintro e w2 ⟨rfl, rfl⟩
          go_wp2_with fail
          go_ret
          exact ⟨rfl, hbx⟩
        · rw [decide_eq_false he, Bool.false_and] at hans
          subst hans
          clear h0
          go_enter Tryz.func65, Tryz.ntmps65
          go_wp2_with fail
          refine (HN.out _).mono ?_
          rintro e w2 ⟨rfl, rfl⟩
          go_wp2_with fail
          go_ret
          exact ⟨rfl, hbx⟩
      · have z2 : (dg.toList == [48]) = false := by rw [beq_eq_false_iff_ne]; exact h0
        rw [if_neg h0] at hans
        clear h0
        by_cases he : -100 ≤ ex
        · rw [decide_eq_true he, Bool.true_and] at hans
          by_cases he2 : ex ≤ 100
          · rw [decide_eq_true he2, Bool.true_and] at hans
            have z3 : (1 : Int) ≤ dg.size ∧ (dg.size : Int) - 1 < dg.size := by omega
            have hlast : dg.data.toList.getLast? = some (dg[dg.size - 1]'(by omega)) := by
              rw [List.getLast?_eq_getElem?, List.getElem?_eq_getElem (by simp; omega)]
              simp [ByteArray.getElem_eq_getElem_data]
            rw [hlast] at hans
            obtain ⟨cl, hcl⟩ : ∃ cl, (dg[dg.size - 1]'(by omega)).toNat = cl := ⟨_, rfl⟩
            go_enter Tryz.func65, Tryz.ntmps65
            go_wp2_with fail
            refine (HN.out _).mono ?_
            rintro e w2 ⟨rfl, rfl⟩
            go_wp2_with fail
            go_ret
            refine ⟨?_, hbx⟩
            simp [go_sem]
            rw [← hans]
            by_cases h48 : cl = 48
            · have e : dg[dg.size - 1]'(by omega) = 48 := UInt8.toNat_inj.1 (hcl.trans h48)
              rw [decide_eq_true (congrArg some e), h48]
              rfl
            · rw [decide_eq_false (fun h => h48 (by rw [← hcl, Option.some.inj h]; rfl)), Bool.not_false, bne_iff_ne]
              omega
          · rw [decide_eq_false he2, Bool.false_and] at hans
            subst hans
            have z3 : (100 : Int) < ex := by omega
            go_enter Tryz.func65, Tryz.ntmps65
            go_wp2_with fail
            refine (HN.out _).mono ?_
            rintro e w2 ⟨rfl, rfl⟩
            go_wp2_with fail
            go_ret
            exact ⟨rfl, hbx⟩
        · rw [decide_eq_false he, Bool.false_and] at hans
          subst hans
          have z3 : ex < -100 := by omega
          go_enter Tryz.func65, Tryz.ntmps65
          go_wp2_with fail
          refine (HN.out _).mono ?_
          rintro e w2 ⟨rfl, rfl⟩
          go_wp2_with fail
          go_ret
          exact ⟨rfl, hbx⟩
    · have z1 : (100 : Int) < dg.size := by omega
      rw [decide_eq_false h100, Bool.false_and] at hans
      subst hans
      go_enter Tryz.func65, Tryz.ntmps65
      go_wp2_with fail
      refine (HN.out _).mono ?_
      rintro e w2 ⟨rfl, rfl⟩
      go_wp2_with fail
      all_goals go_ret
      all_goals exact ⟨rfl, hbx⟩

end Go.Proofs.YtfckekaegjjmkaaGreatDoor
namespace Go.Proofs.YtfckekaegjjmkaaGreatDoor
open Go.RowKit Go.Shelf

/-- A row of bytes known whole, as a string. -/
theorem run_convB {P : Program} {src dst e : TypeId} (hs : P.underlying src = some (.slice e)) (he : P.underlying e = some (.int .u8)) (hd : P.underlying dst = some .string) (l : List UInt8) (W : World) (b n : Nat) (hn : n = l.length) (h : Blk W b (byteVals l).toArray e) :
    (convert src dst (.slice (some ⟨b, 0, none⟩) n n)).run P W = .ok (.string ⟨l.toArray⟩) W := by
  subst hn
  refine run_convert_bytes_back _ src dst e ⟨b, 0, none⟩ l.length l hs he hd (fun j hj => ?_)
  have ea : (⟨b, 0, none⟩ : Addr).add j = ⟨b, j, none⟩ := by
    unfold Addr.add
    split
    · rename_i h0
      rw [h0]
    · simp
  rw [ea, h.cell j]
  simp [byteVals, hj]
theorem run_convD {P : Program} {src dst e : TypeId} (hs : P.underlying src = some (.slice e)) (he : P.underlying e = some (.int .u8)) (hd : P.underlying dst = some .string) (W : World) (d : Nat) (h : d < 10) :
    (convert src dst (.slice (some ⟨W.heap.size, 0, none⟩) 1 1)).run P (W.alloc (.cells #[.int .u8 (48 + (d : Int))] e)) = .ok (.string ⟨#[UInt8.ofNat (48 + d)]⟩) (W.alloc (.cells #[.int .u8 (48 + (d : Int))] e)) := by
  have hv : (byteVals [UInt8.ofNat (48 + d)]).toArray = #[.int .u8 (48 + (d : Int))] := by
    have : ((UInt8.ofNat (48 + d)).toNat : Int) = 48 + (d : Int) := by
      rw [UInt8.toNat_ofNat']
      omega
    simp [byteVals]
    omega
  refine run_convB hs he hd [UInt8.ofNat (48 + d)] _ _ 1 rfl ?_
  rw [hv]
  exact Blk.new W _ _
end Go.Proofs.YtfckekaegjjmkaaGreatDoor
namespace Go.Proofs.YtfckekaegjjmkaaGreatDoor
open Go.RowKit Go.Shelf

theorem nDigits_le : ∀ (k u : Nat), u < 10 ^ (k + 1) → Lib.nDigits u ≤ k + 1
  | 0, u, h => by
    rw [Lib.nDigits_small (by simpa using h)]
    omega
  | k + 1, u, h => by
    by_cases h10 : u < 10
    · rw [Lib.nDigits_small h10]
      omega
    · rw [Lib.nDigits_big h10]
      have := nDigits_le k (u / 10) (by rw [Nat.pow_succ] at h; omega)
      omega
end Go.Proofs.YtfckekaegjjmkaaGreatDoor
namespace Go.Proofs.YtfckekaegjjmkaaGreatDoor
open Go.RowKit Go.Shelf

set_option maxHeartbeats 2000000 in
set_option maxRecDepth 100000 in
theorem ref_Of : ∀ (f n : Nat), n < f → n ≤ 18446744073709551615 → ∀ w : World,
    Calls Tryz.prog 33 #[.int .u64 (n : Int)] w fun e w' => e = .returned (.string ⟨(Lib.decDigits n).toArray⟩) ∧ Below w.heap.size w w' := by
  intro f
  induction f with
  | zero =>
    intro n hf
    exact absurd hf (by omega)
  | succ f ih =>
    intro n hf hn w
    obtain ⟨d, hd⟩ : ∃ d, n % 10 = d := ⟨_, rfl⟩
    have hdz : (n : Int) % 10 = (d : Int) := by omega
    have hd10 : d < 10 := by omega
    have kcv := run_convD (P := Tryz.prog) Tryz.underlying72 Tryz.underlying5 Tryz.underlying9 w d hd10
    obtain ⟨ch, hch⟩ : ∃ ch, UInt8.ofNat (48 + d) = ch := ⟨_, rfl⟩
    rw [hch] at kcv
    have q1 : 0 ≤ 48 + (d : Int) ∧ 48 + (d : Int) < 256 := by omega
    by_cases h1 : n < 10
    · rw [Lib.decDigits_one h1, show 48 + n = 48 + d by omega, hch]
      have z1 : (n : Int) < 10 := by omega
      clear ih hd10 hch
      go_enter Tryz.func33, Tryz.ntmps33
      go_wp2_with fail
      go_ret
      exact ⟨rfl, (Below.refl _ w).alloc (Nat.le_refl _) _⟩
    · rw [Lib.decDigits, dif_neg h1, hd, hch]
      have z1 : ¬ (n : Int) < 10 := by omega
      obtain ⟨q, hq⟩ : ∃ q, n / 10 = q := ⟨_, rfl⟩
      have hqz : (n : Int) / 10 = (q : Int) := by omega
      rw [hq]
      have HI := Lib.hid (ih q (by omega) (by omega))
      obtain ⟨qs, hqs⟩ : ∃ qs : ByteArray, (⟨(Lib.decDigits q).toArray⟩ : ByteArray) = qs := ⟨_, rfl⟩
      rw [hqs] at HI
      have hcat : (⟨(Lib.decDigits q ++ [ch]).toArray⟩ : ByteArray) = qs ++ ⟨#[ch]⟩ := by
        apply str_ext
        rw [← hqs]
        simp
      rw [hcat]
      have hqz2 : qs.size + 1 ≤ 100 := by
        have h1 : qs.data.toList.length = qs.size := by simp
        have h2 := nDigits_le 19 q (by omega)
        rw [← hqs, Lib.decDigits_length, ← Lib.decDigits_length] at h1
        rw [Lib.decDigits_length] at h1
        have h3 : qs.size = Lib.nDigits q := by rw [h1, ← hqs]
        omega
      have hb1 := (Below.refl w.heap.size w).alloc (Nat.le_refl _) (.cells #[.int .u8 (48 + (d : Int))] 5)
      clear ih hd10 hqs hcat hch
      go_enter Tryz.func33, Tryz.ntmps33
      go_wp2_with fail
      refine (HI.out _).mono ?_
      rintro e w2 ⟨rfl, hb2⟩
      go_wp2_with fail
      go_ret
      exact ⟨rfl, hb1.trans (hb2.mono hb1.size)⟩
end Go.Proofs.YtfckekaegjjmkaaGreatDoor
