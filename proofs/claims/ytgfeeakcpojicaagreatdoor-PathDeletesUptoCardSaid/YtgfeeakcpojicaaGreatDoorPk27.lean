/- The texts PathE, put together. -/
import Derived.Test.YtgfeeakcpojicaaGreatDoorPk26
/- path: Decode. -/
namespace Go.Proofs.YtgfeeakcpojicaaGreatDoor
open Go.RowKit Go.Shelf

theorem keyR_facts {q : Except Bool (List UInt8 × List UInt8)} {i : Int} {k r : List UInt8} (h : keyR q = some ((i, k), r)) : i = -1 ∧ q = .ok (k, r) := by
  cases q with
  | error b => cases h
  | ok p =>
    obtain ⟨k', r'⟩ := p
    have h' : some (((-1 : Int), k'), r') = some ((i, k), r) := h
    cases h'
    exact ⟨rfl, rfl⟩
theorem stepL_facts {l k r : List UInt8} {i : Int} (h : stepL l = some ((i, k), r)) : r.length < l.length ∧ -1 ≤ i ∧ i < 9223372036854775808 ∧ k.length ≤ 4 * l.length := by
  cases l with
  | nil => cases h
  | cons c t =>
    have h1 : (if c.toNat = 47 then stepR t else none) = some ((i, k), r) := h
    by_cases hc : c.toNat = 47
    · rw [if_pos hc] at h1
      unfold stepR at h1
      by_cases h0 : 0 < digN t
      · rw [if_pos h0] at h1
        split at h1
        · rename_i hv
          cases h1
          refine ⟨by rw [List.length_drop, List.length_cons]; omega, by omega, by omega, by simp⟩
        · cases h1
      · rw [if_neg h0] at h1
        obtain ⟨rfl, hq⟩ := keyR_facts h1
        have h2 := (unquoteL_text hq).2
        have h3 := unquoteL_len hq
        rw [List.length_cons]
        refine ⟨by omega, by omega, by omega, by omega⟩
    · rw [if_neg hc] at h1
      cases h1

def toStp (x : Int × List UInt8) : Stp := (x.1, ⟨x.2.toArray⟩)
def parseA : Nat → List UInt8 → List Stp → Option (List Stp)
  | 0, _, _ => none
  | f + 1, l, acc => if l = [] then some acc else match stepL l with
    | none => none
    | some (x, r) => if acc.length = 16 then none else parseA f r (acc ++ [toStp x])
theorem parseA_nil (f : Nat) (acc : List Stp) : parseA (f + 1) [] acc = some acc := rfl
theorem parseA_none (f : Nat) {l : List UInt8} (acc : List Stp) (hl : l ≠ []) (h : stepL l = none) : parseA (f + 1) l acc = none := by
  show (if l = [] then some acc else match stepL l with | none => none | some (x, r) => if acc.length = 16 then none else parseA f r (acc ++ [toStp x])) = none
  rw [if_neg hl, h]
theorem parseA_some (f : Nat) {l r : List UInt8} {x : Int × List UInt8} (acc : List Stp) (hl : l ≠ []) (h : stepL l = some (x, r)) : parseA (f + 1) l acc = if acc.length = 16 then none else parseA f r (acc ++ [toStp x]) := by
  show (if l = [] then some acc else match stepL l with | none => none | some (x, r) => if acc.length = 16 then none else parseA f r (acc ++ [toStp x])) = _
  rw [if_neg hl, h]
/-- A code's path. -/
def decodeS (l : List UInt8) : Option (List Stp) := match parseA (l.length + 1) l [] with
  | none => none
  | some p => if rightS p = true ∧ codeS p = l then some p else none

theorem decodeS_none {l : List UInt8} (h : parseA (l.length + 1) l [] = none) : decodeS l = none := by
  unfold decodeS
  rw [h]
theorem decodeS_some {l : List UInt8} {p : List Stp} (h : parseA (l.length + 1) l [] = some p) : decodeS l = if rightS p = true ∧ codeS p = l then some p else none := by
  unfold decodeS
  rw [h]

def DecPost (s : ByteArray) (w : World) (e : Ending) (w' : World) : Prop :=
  Below w.heap.size w w' ∧ match decodeS s.data.toList with
    | some p => ∃ A n c, e = .returned (.tuple #[.slice A n c, .int .i64 0]) ∧ StepsAt w' w'.heap.size A n p ∧ (∀ x ∈ p, -1 ≤ x.1 ∧ x.1 < 9223372036854775808)
    | none => e = .returned (.tuple #[.slice none 0 0, .int .i64 70])

theorem infoStep : (Tryz.prog.info? 53).map (fun i => (i.zero, i.size, i.bytes)) = some (some (.agg #[.int .i64 0, .string ⟨#[]⟩]), 2, 24) := by kernel_rfl

theorem own_slice {W : World} {base size n : Nat} {e : TypeId} {v : Value} {xs : List Value} (h : W.ownsRow base e size v n xs) : ∃ A c, v = .slice A n c := by
  rcases h.2 with ⟨hv, hn⟩ | ⟨g, cap, cur, hv, _⟩
  · exact ⟨none, 0, by rw [hv, hn]⟩
  · exact ⟨_, _, hv⟩

set_option maxHeartbeats 4000000 in
set_option maxRecDepth 100000 in
theorem path_Decode {aT aQ : Addr} (s : ByteArray) (w : World) (h : PW w aT aQ) (hs : s.size ≤ 100000000) :
    Calls Tryz.prog 10 #[.string s] w (DecPost s w) := by
  obtain ⟨i0, hi, hz0, hz1, hz2⟩ := info_parts infoStep
  have HU := Lib.hid (fun (w' : World) (hw : Below w.heap.size w w') => h.below hw)
  have hslen : s.data.toList.length = s.size := by simp
  have HI := Lib.hid hi
  have HZ0 := Lib.hid hz0
  have HZ1 := Lib.hid hz1
  have HZ2 := Lib.hid hz2
  clear h hi hz0 hz1 hz2
  go_enter Tryz.func10, Tryz.ntmps10
  go_wp2_with fail
  go_loopw [4, 5] (fun v x wr => ∃ (p : List Stp) (r : ByteArray) (f : Nat), x = .string r ∧ wr.ownsRow w.heap.size 53 2 v p.length (stepCells p) ∧ p.length ≤ 16 ∧ Below w.heap.size w wr ∧ Hid (parseA (f + 1) r.data.toList p = parseA (s.size + 1) s.data.toList []) ∧ r.size ≤ f ∧ r.size ≤ s.size ∧ Hid (∀ x ∈ p, (-1 ≤ x.1 ∧ x.1 < 9223372036854775808) ∧ x.2.size ≤ 400000000)) (fun _ x _ => match x with | .string r => r.size | _ => 0)
  case atStart => exact ⟨[], s, s.size, rfl, World.ownsRow_nil _ _ _ _, by simp, Below.refl _ _, Lib.hid rfl, Nat.le_refl _, Nat.le_refl _, Lib.hid (by simp)⟩
  case round =>
    obtain ⟨p, r, f, rfl, hown, hp16, hbw, hpar, hrf, hrs, hall⟩ := hrel
    obtain ⟨A, c, rfl⟩ := own_slice hown
    have hrl : r.data.toList.length = r.size := by simp
    by_cases hr0 : r.size = 0
    · have e0 := str_empty hr0
      subst e0
      have hps : parseA (s.size + 1) s.data.toList [] = some p := by
        rw [← hpar.out]
        exact parseA_nil f p
      rw [← hslen] at hps
      have hdec := decodeS_some hps
      have hall' := hall.out
      have hSA : StepsAt wr wr.heap.size A p.length p := ⟨rfl, Lies.own hown, fun x hx => by have := (hall' x hx).2; omega⟩
      have HALL := Lib.hid (fun x hx => (hall' x hx).1)
      have HDEC := Lib.hid hdec
      have hPW := HU.out _ hbw
      have hlp : p.length ≤ 9223372036854775807 := by omega
      clear hr0 hrl hrf hrs hpar hps hdec hall' hall hown hslen
      cases hrt : rightS p with
      | false =>
        have HC := Lib.hid (path_Code_no A p.length c p wr.heap.size wr hPW.uw hlp hSA (Nat.le_refl _) hrt)
        have hfin : decodeS s.data.toList = none := by
          rw [HDEC.out, if_neg (by rw [hrt]; simp)]
        have HF := Lib.hid hfin
        clear hfin hrt hPW hSA
        go_wp2_with fail
        refine HC.out.mono ?_
        rintro e w1 ⟨rfl, hb1⟩
        have hb2 := hbw.trans (hb1.mono hbw.size)
        clear hb1 HC
        go_wp2_with fail
        go_ret2
        exact ⟨hb2, by rw [HF.out]; rfl⟩
      | true =>
        have HC := path_Code_yes A p.length c p wr.heap.size wr hPW hSA (Nat.le_refl _) hrt (fun x hx => (HALL.out x hx).2)
        obtain ⟨cs, hcs⟩ : ∃ cs : ByteArray, (⟨(codeS p).toArray⟩ : ByteArray) = cs := ⟨_, rfl⟩
        rw [hcs] at HC
        have HC := Lib.hid HC
        by_cases heq : cs = s
        · have hfin : decodeS s.data.toList = some p := by
            rw [HDEC.out, if_pos ⟨hrt, by rw [← heq, ← hcs]⟩]
          have HF := Lib.hid hfin
          have HSA := Lib.hid hSA
          subst heq
          clear hfin hrt hPW hSA hcs
          go_wp2_with fail
          refine HC.out.mono ?_
          rintro e w1 ⟨rfl, hb1⟩
          have hb2 := hbw.trans (hb1.mono hbw.size)
          have hsa := HSA.out.below hb1 (Nat.le_refl _)
          have HSB := Lib.hid (hsa.more hb1.size)
          clear hb1 HC hsa HSA
          go_wp2_with fail
          go_ret2
          refine ⟨hb2, ?_⟩
          rw [HF.out]
          exact ⟨_, _, _, rfl, HSB.out, HALL.out⟩
        · have hfin : decodeS s.data.toList = none := by
            rw [HDEC.out, if_neg]
            rintro ⟨_, h2⟩
            apply heq
            rw [← hcs]
            apply str_ext
            exact h2
          have hcb : (cs.toList == s.toList) = false := by
            rw [beq_eq_false_iff_ne, ByteArray.toList_eq, ByteArray.toList_eq]
            exact fun e => heq (str_ext e)
          have HF := Lib.hid hfin
          clear hfin hrt hPW hSA hcs heq
          go_wp2_with fail
          refine HC.out.mono ?_
          rintro e w1 ⟨rfl, hb1⟩
          have hb2 := hbw.trans (hb1.mono hbw.size)
          clear hb1 HC
          go_wp2_with fail
          go_ret2
          exact ⟨hb2, by rw [HF.out]; rfl⟩
    · have hne := str_nonempty hr0
      have hnl := list_ne hr0
      have HST := Lib.hid (path_step r wr (HU.out _ hbw) (by omega))
      go_wp2_with fail
      refine HST.out.mono ?_
      rintro e w1 ⟨hb1, hm⟩
      have hb2 := hbw.trans (hb1.mono hbw.size)
      cases hst : stepL r.data.toList with
      | none =>
        rw [hst] at hm
        obtain ⟨i, k, r', rfl⟩ := hm
        have hfin : decodeS s.data.toList = none := by
          refine decodeS_none ?_
          rw [hslen, ← hpar.out]
          exact parseA_none f p hnl hst
        have HF := Lib.hid hfin
        clear HST hb1 hst hpar hall hfin hown hnl hne hr0 hslen hrl
        go_wp2_with fail
        go_ret2
        exact ⟨hb2.alloc hb2.size _, by rw [HF.out]; rfl⟩
      | some q =>
        obtain ⟨⟨i, k⟩, r'⟩ := q
        rw [hst] at hm
        obtain ⟨ks, hks⟩ : ∃ ks : ByteArray, (⟨k.toArray⟩ : ByteArray) = ks := ⟨_, rfl⟩
        obtain ⟨rs, hrss⟩ : ∃ rs : ByteArray, (⟨r'.toArray⟩ : ByteArray) = rs := ⟨_, rfl⟩
        have hm' : e = .returned (.tuple #[.agg #[.int .i64 i, .string ⟨k.toArray⟩], .string ⟨r'.toArray⟩, .bool true]) := hm
        rw [hks, hrss] at hm'
        subst hm'
        obtain ⟨f1, f2, f3, f4⟩ := stepL_facts hst
        have hrl' : rs.data.toList = r' := by rw [← hrss]
        have hrz : rs.size < r.size := by
          have e1 : rs.data.toList.length = rs.size := by simp
          rw [hrl'] at e1
          omega
        have hkz : ks.size ≤ 400000000 := by
          have e1 : ks.data.toList.length = ks.size := by simp
          have e2 : ks.data.toList = k := by rw [← hks]
          rw [e2] at e1
          omega
        obtain ⟨g, rfl⟩ : ∃ g, f = g + 1 := ⟨f - 1, by omega⟩
        have hps := hpar.out
        rw [parseA_some (g + 1) p hnl hst] at hps
        by_cases h16 : p.length = 16
        · rw [if_pos h16] at hps
          have hfin : decodeS s.data.toList = none := by
            refine decodeS_none ?_
            rw [hslen, ← hps]
          have HF := Lib.hid hfin
          have z16 : ((p.length : Int) == 16) = true := by rw [beq_iff_eq]; omega
          clear HST hb1 hst hpar hall hfin hown hnl hne hr0 hslen hrl hps h16 hks hrss hrl' f1 f4 hrz
          go_wp2_with fail
          go_ret2
          exact ⟨hb2.alloc hb2.size _, by rw [HF.out]; rfl⟩
        · rw [if_neg h16] at hps
          have hps' : parseA (g + 1) rs.data.toList (p ++ [(i, ks)]) = parseA (s.size + 1) s.data.toList [] := by
            rw [hrl', ← hps]
            show _ = parseA (g + 1) r' (p ++ [(i, (⟨k.toArray⟩ : ByteArray))])
            rw [hks]
          have HPS := Lib.hid hps'
          have hall' : ∀ x ∈ p ++ [(i, ks)], (-1 ≤ x.1 ∧ x.1 < 9223372036854775808) ∧ x.2.size ≤ 400000000 := by
            intro x hx
            rcases List.mem_append.1 hx with h1 | h1
            · exact hall.out x h1
            · rw [List.mem_singleton.1 h1]
              exact ⟨⟨f2, f3⟩, hkz⟩
          have HALL := Lib.hid hall'
          have z16 : ((p.length : Int) == 16) = false := by rw [beq_eq_false_iff_ne]; omega
          have hp15 : p.length + 1 ≤ 16 := by omega
          have hown1 : w1.ownsRow w.heap.size 53 2 (.slice A p.length c) p.length (stepCells p) := hown.kept (below_none hb1) (by cases A with | none => exact .inl rfl | some a => exact .inr (by simp [Value.ownBlock]))
          clear HST hb1 hst hpar hall hown hnl hne hr0 hslen hrl hps hps' hall' h16 hks hrss hrl' f1 f2 f3 f4
          have hz2 := hb2.size
          clear hm
          go_wp2_with (at_builtin; refine wpList_append_own _ rfl _ _ 22 rfl w.heap.size 53 i0 (.agg #[.int .i64 0, .string ⟨#[]⟩]) 2 24 Tryz.underlying22 HI.out HZ0.out HZ1.out HZ2.out rfl (by decide) _ _ _ rfl ((hown1.alloc _).alloc _) ⟨w1.heap.size + 1, 0, none⟩ 1 1 [.int .i64 i, .string ks] rfl rfl ?c1 ?c2 ?c3 ?c4 ?c5 ?_)
          case c1 =>
            intro j u hj
            have hbk : Blk ((w1.alloc (.cells #[.int .i64 i, .string ks] 53)).alloc (.cells #[.int .i64 i, .string ks] 53)) (w1.heap.size + 1) #[.int .i64 i, .string ks] 53 := by
              have := Blk.new (w1.alloc (.cells #[.int .i64 i, .string ks] 53)) #[.int .i64 i, .string ks] 53
              rw [World.size_alloc] at this
              exact this
            match j, hj with
            | 0, hj => exact (hbk.cell 0).trans hj
            | 1, hj => exact (hbk.cell 1).trans hj
            | j + 2, hj => simp at hj
          case c2 =>
            intro u hu
            simp at hu
            rcases hu with rfl | rfl <;> rfl
          case c3 => unfold maxLen; omega
          case c4 => omega
          case c5 => simp; omega
          intro v' w2 hown' hgrow _
          have hb3 : Below w.heap.size w w2 := ((hb2.alloc hz2 _).alloc (by simp; omega) _).grown hgrow (by simp; omega) (fun k hk => (hown1.lt k hk).1)
          have hown2 : w2.ownsRow w.heap.size 53 2 v' (p ++ [(i, ks)]).length (stepCells (p ++ [(i, ks)])) := by
            rw [stepCells_append, List.length_append]
            exact hown'
          clear hown1 hown' hgrow hb2 hz2
          go_wp2_with fail
          go_roundw
          case rel => exact ⟨p ++ [(i, ks)], rs, g, rfl, hown2, by rw [List.length_append]; exact hp15, hb3, HPS, by omega, by omega, HALL⟩
          case measure => omega
end Go.Proofs.YtgfeeakcpojicaaGreatDoor
