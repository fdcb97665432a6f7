/- The reference's paths (targumref07): Decode, walked. -/
import Derived.Test.YtgfeeakcpojicaaGreatDoorRefV
namespace Go.Proofs.YtgfeeakcpojicaaGreatDoor
open Go.RowKit Go.Shelf

theorem stepQ_47 (t : List UInt8) : stepQ (47 :: t) = if 1 < digN t ∧ t.head? = some 48 then none else stepR t := by
  unfold stepQ
  rw [List.drop_one, List.tail_cons, stepL_47]
theorem stepQ_no {l : List UInt8} (h : ¬ l.take 1 = [47]) : stepQ l = none := by
  unfold stepQ
  split
  · rfl
  · exact stepL_no h
theorem digN_le (l : List UInt8) : digN l ≤ l.length := (List.takeWhile_prefix isDig).length_le
theorem dval_small {l : List UInt8} (hd : ∀ c ∈ l, isDig c = true) (hz : l.length ≤ 1 ∨ l.head? ≠ some 48) (hv : dval 0 l < 9223372036854775808) : l.length ≤ 400 := by
  by_cases hl : l.length ≤ 400
  · exact hl
  · exfalso
    cases l with
    | nil => simp at hl
    | cons c r =>
      have hc := isDig_iff (hd c List.mem_cons_self)
      have hne : c.toNat ≠ 48 := by
        intro e
        rcases hz with hz | hz
        · omega
        · exact hz (by rw [List.head?_cons, show c = 48 from UInt8.toNat_inj.1 e])
      have h3 := dval_le r (0 * 10 + (c.toNat - 48))
      have h4 : 10 ^ 20 ≤ 10 ^ r.length := Nat.pow_le_pow_right (by omega) (by simp at hl; omega)
      have h5 : 1 * 10 ^ r.length ≤ (0 * 10 + (c.toNat - 48)) * 10 ^ r.length := Nat.mul_le_mul_right _ (by omega)
      have hv' : dval (0 * 10 + (c.toNat - 48)) r < 9223372036854775808 := hv
      omega
theorem natR_iff {l : List UInt8} : natR l = true ↔ l.length ≤ 400 ∧ (l.length ≤ 1 ∨ l.head? ≠ some 48) := by
  unfold natR
  rw [Bool.and_eq_true, Bool.or_eq_true, decide_eq_true_iff, decide_eq_true_iff, bne_iff_ne]
theorem take_head {l : List UInt8} {n : Nat} (h : 0 < n) : (l.take n).head? = l.head? := by
  cases l with
  | nil => simp
  | cons c l =>
    obtain ⟨n, rfl⟩ : ∃ m, n = m + 1 := ⟨n - 1, by omega⟩
    rfl
/-- A step's digits, as the reference reads them. -/
theorem stepQ_digits {t : List UInt8} (h : 0 < digN t) : stepQ (47 :: t) = if (natR (t.take (digN t)) = true ∧ dval 0 (t.take (digN t)) ≤ 18446744073709551615) ∧ dval 0 (t.take (digN t)) ≤ 9223372036854775807 then some (((dval 0 (t.take (digN t)) : Int), []), t.drop (digN t)) else none := by
  have hlen : (t.take (digN t)).length = digN t := by
    rw [List.length_take]
    have := digN_le t
    omega
  have hd := takeWhile_all t
  rw [stepQ_47]
  unfold stepR
  rw [if_pos h]
  have hh := take_head (l := t) h
  by_cases hz : 1 < digN t ∧ t.head? = some 48
  · rw [if_pos hz, if_neg]
    rintro ⟨⟨h1, _⟩, _⟩
    have := (natR_iff.1 h1).2
    rw [hlen, hh] at this
    rcases this with h2 | h2
    · omega
    · exact h2 hz.2
  · rw [if_neg hz]
    have hz' : (t.take (digN t)).length ≤ 1 ∨ (t.take (digN t)).head? ≠ some 48 := by
      rw [hlen, hh]
      by_cases h1 : 1 < digN t
      · right
        exact fun e => hz ⟨h1, e⟩
      · left
        omega
    by_cases hv : dval 0 (t.take (digN t)) < 9223372036854775808
    · rw [if_pos hv, if_pos ⟨⟨natR_iff.2 ⟨dval_small hd hz' hv, hz'⟩, by omega⟩, by omega⟩]
    · rw [if_neg hv, if_neg (fun h => by omega)]
theorem stepQ_key {t : List UInt8} (h : digN t = 0) : stepQ (47 :: t) = keyR (unquoteL t) := by
  rw [stepQ_47, if_neg (by omega)]
  unfold stepR
  rw [if_neg (by omega)]
theorem decodeQ_none {l : List UInt8} (h : parseQ (l.length + 1) l [] = none) : decodeS l = none := by
  rw [← decodeQ_eq]
  unfold decodeQ
  rw [h]
theorem decodeQ_some {l : List UInt8} {p : List Stp} (h : parseQ (l.length + 1) l [] = some p) : decodeS l = if rightS p = true ∧ codeS p = l then some p else none := by
  rw [← decodeQ_eq]
  unfold decodeQ
  rw [h]
theorem built_step0 (i : Int) (w : World) : (Instr.build 53 #[(0, .int .i64 i)]).run Tryz.prog w = .ok (.agg #[.int .i64 i, .string ⟨#[]⟩]) w := run_build w _ _ _ (by kernel_rfl)

set_option maxHeartbeats 8000000 in
set_option maxRecDepth 100000 in
theorem ref_pDecode (s : ByteArray) (w : World) (hs : s.size ≤ 1000000) :
    Calls Tryz.prog 12 #[.string s] w (DecPost s w) := by
  obtain ⟨i0, hi, hz0, hz1, hz2⟩ := info_parts infoStep
  have hslen : s.data.toList.length = s.size := by simp
  have HI := Lib.hid hi
  have HZ0 := Lib.hid hz0
  have HZ1 := Lib.hid hz1
  have HZ2 := Lib.hid hz2
  clear hi hz0 hz1 hz2
  go_enter Tryz.func12, Tryz.ntmps12
  go_wp2_with fail
  go_loopw [4, 5] (fun v x wr => ∃ (p : List Stp) (r : ByteArray) (f : Nat), x = .string r ∧ wr.ownsRow w.heap.size 53 2 v p.length (stepCells p) ∧ p.length ≤ 16 ∧ Below w.heap.size w wr ∧ Hid (parseQ (f + 1) r.data.toList p = parseQ (s.size + 1) s.data.toList []) ∧ r.size ≤ f ∧ r.size ≤ s.size ∧ Hid (∀ x ∈ p, (-1 ≤ x.1 ∧ x.1 < 9223372036854775808) ∧ x.2.size ≤ 4000000)) (fun _ x _ => match x with | .string r => r.size | _ => 0)
  case atStart => exact ⟨[], s, s.size, rfl, World.ownsRow_nil _ _ _ _, by simp, Below.refl _ _, Lib.hid rfl, Nat.le_refl _, Nat.le_refl _, Lib.hid (by simp)⟩
  case round =>
    obtain ⟨p, r, f, rfl, hown, hp16, hbw, hpar, hrf, hrs, hall⟩ := hrel
    obtain ⟨A, c, rfl⟩ := own_slice hown
    have hrl : r.data.toList.length = r.size := by simp
    by_cases hr0 : r.size = 0
    · have e0 := str_empty hr0
      subst e0
      have hps : parseQ (s.size + 1) s.data.toList [] = some p := by
        rw [← hpar.out]
        rfl
      rw [← hslen] at hps
      have hdec := decodeQ_some hps
      have hall' := hall.out
      have hSA : StepsAt wr wr.heap.size A p.length p := ⟨rfl, Lies.own hown, fun x hx => by have := (hall' x hx).2; omega⟩
      have HALL := Lib.hid (fun x hx => (hall' x hx).1)
      have HDEC := Lib.hid hdec
      have hlp : p.length ≤ 9223372036854775807 := by omega
      clear hr0 hrl hrf hrs hpar hps hdec hall' hall hown hslen
      cases hrt : rightS p with
      | false =>
        have HC := Lib.hid (ref_pCode_no A p.length c p wr.heap.size wr hlp hSA hrt)
        have hfin : decodeS s.data.toList = none := by
          rw [HDEC.out, if_neg (by rw [hrt]; simp)]
        have HF := Lib.hid hfin
        clear hfin hrt hSA
        go_wp2_with fail
        refine HC.out.mono ?_
        rintro e w1 ⟨rfl, hb1⟩
        have hb2 := hbw.trans (hb1.mono hbw.size)
        clear hb1 HC
        go_wp2_with fail
        go_ret2
        exact ⟨hb2, by rw [HF.out]; rfl⟩
      | true =>
        have HC := ref_pCode_yes A p.length c p wr.heap.size wr hSA (Nat.le_refl _) hrt (fun x hx => (HALL.out x hx).2)
        obtain ⟨cs, hcs⟩ : ∃ cs : ByteArray, (⟨(codeS p).toArray⟩ : ByteArray) = cs := ⟨_, rfl⟩
        rw [hcs] at HC
        have HC := Lib.hid HC
        by_cases heq : cs = s
        · have hfin : decodeS s.data.toList = some p := by
            rw [HDEC.out, if_pos ⟨hrt, by rw [← heq, ← hcs]⟩]
          have HF := Lib.hid hfin
          have HSA := Lib.hid hSA
          subst heq
          clear hfin hrt hSA hcs
          go_wp2_with fail
          refine HC.out.mono ?_
          rintro e w1 ⟨rfl, hb1⟩
          have hb2 := hbw.trans (hb1.mono hbw.size)
          have hsa := HSA.out.below hb1 (Nat.le_refl _)
          have HSB := Lib.hid (hsa.more hb1.size)
          clear hb1 HC hsa HSA
          go_wp2_with fail
          go_ret2
          refine ⟨hb2, ?_⟩
          rw [HF.out]
          exact ⟨_, _, _, rfl, HSB.out, HALL.out⟩
        · have hfin : decodeS s.data.toList = none := by
            rw [HDEC.out, if_neg]
            rintro ⟨_, h2⟩
            apply heq
            rw [← hcs]
            apply str_ext
            exact h2
          have hcb : (cs.toList == s.toList) = false := by
            rw [beq_eq_false_iff_ne, ByteArray.toList_eq, ByteArray.toList_eq]
            exact fun e => heq (str_ext e)
          have HF := Lib.hid hfin
          clear hfin hrt hSA hcs heq
          go_wp2_with fail
          refine HC.out.mono ?_
          rintro e w1 ⟨rfl, hb1⟩
          have hb2 := hbw.trans (hb1.mono hbw.size)
          clear hb1 HC
          go_wp2_with fail
          go_ret2
          exact ⟨hb2, by rw [HF.out]; rfl⟩
    · have hne := str_nonempty hr0
      have hnl := list_ne hr0
      have hpos : 0 < r.size := by omega
      have hcons := str_cons hpos
      obtain ⟨g, rfl⟩ : ∃ g, f = g + 1 := ⟨f - 1, by omega⟩
      have hno : stepQ r.data.toList = none → decodeS s.data.toList = none := fun h => by
        refine decodeQ_none ?_
        rw [hslen, ← hpar.out]
        exact parseQ_none (g + 1) p hnl h
      have hsome : ∀ x r', stepQ r.data.toList = some (x, r') → parseQ (s.size + 1) s.data.toList [] = if p.length = 16 then none else parseQ (g + 1) r' (p ++ [toStp x]) := fun x r' h => by
        rw [← hpar.out]
        exact parseQ_some (g + 1) p hnl h
      obtain ⟨b0, hb0⟩ : ∃ b0, s.size = b0 := ⟨_, rfl⟩
      clear hb0 b0
      obtain ⟨c0, hc0⟩ : ∃ c0, r[0].toNat = c0 := ⟨_, rfl⟩
      have y0 : (0 : Int) < r.size := by omega
      by_cases h47 : c0 = 47
      · subst h47
        have h47 : r[0] = 47 := UInt8.toNat_inj.1 hc0
        rw [h47] at hcons
        by_cases h2 : r.size < 2
        · have hst : stepQ r.data.toList = none := by
            have : r.data.toList.drop 1 = [] := List.drop_eq_nil_of_le (by omega)
            rw [hcons, this]
            rfl
          have HF := Lib.hid (hno hst)
          have y1 : (r.size : Int) < 2 := by omega
          clear hno hsome hst hcons hnl hpar hall hown hrl hslen h47 h2
          go_wp2_with fail
          go_ret2
          exact ⟨hbw, by rw [HF.out]; rfl⟩
        have y1 : ¬ (r.size : Int) < 2 := by omega
        by_cases h16 : p.length = 16
        · have HF : Hid (decodeS s.data.toList = none) := Lib.hid (by
            cases hst : stepQ r.data.toList with
            | none => exact hno hst
            | some q =>
              obtain ⟨x, r'⟩ := q
              refine decodeQ_none ?_
              rw [hslen, hsome x r' hst, if_pos h16])
          have z16 : ((p.length : Int) == 16) = true := by rw [beq_iff_eq]; omega
          clear hno hsome hcons hnl hpar hall hown hrl hslen h47 h2 h16
          go_wp2_with fail
          go_ret2
          exact ⟨hbw, by rw [HF.out]; rfl⟩
        have z16 : ((p.length : Int) == 16) = false := by rw [beq_eq_false_iff_ne]; omega
        have hp15 : p.length + 1 ≤ 16 := by omega
        have hex := extract_list r 1
        obtain ⟨t, ht⟩ : ∃ t, r.extract 1 r.size = t := ⟨_, rfl⟩
        have htz : t.size = r.size - 1 := by
          rw [← ht, ByteArray.size_extract]
          omega
        rw [ht] at hex
        rw [← hex] at hcons
        have HT := Lib.hid ht
        have HDG := Lib.hid (ref_digits t (by omega) wr)
        have htl : t.data.toList.length = t.size := by simp
        have y2 : (1 : Int) ≤ r.size := by omega
        clear ht hex h47 h2
        by_cases hn : digN t.data.toList = 0
        · rw [hn] at HDG
          have hst := stepQ_key hn
          rw [← hcons] at hst
          have HU := Lib.hid (ref_Unquote t (by omega) wr)
          cases hu : unquoteL t.data.toList with
          | error b =>
            rw [hu] at hst
            have HF := Lib.hid (hno hst)
            have hE : ∀ e w', UnqPost t wr e w' → Below wr.heap.size wr w' ∧ e = .returned (.tuple #[.string ⟨#[]⟩, .string t, .int .i64 (if b then 20 else 21)]) := fun e w' h => by
              obtain ⟨h1, h2⟩ := h
              rw [hu] at h2
              exact ⟨h1, h2⟩
            have HE := Lib.hid hE
            clear hno hsome hst hcons hnl hpar hall hown hrl hslen h16 hn hu hE htl htz
            go_wp2_with fail
            rw [HT.out]
            refine HDG.out.mono ?_
            rintro e w1 ⟨rfl, rfl⟩
            go_wp2_with fail
            refine HU.out.mono ?_
            intro e w2 hq
            obtain ⟨hb2, rfl⟩ := HE.out _ _ hq
            have hb3 := hbw.trans (hb2.mono hbw.size)
            clear hq hb2
            cases b with
            | true =>
              simp only [if_true]
              go_wp2_with fail
              go_ret2
              exact ⟨hb3, by rw [HF.out]; rfl⟩
            | false =>
              simp only [Bool.false_eq_true, if_false]
              go_wp2_with fail
              go_ret2
              exact ⟨hb3, by rw [HF.out]; rfl⟩
          | ok q =>
            obtain ⟨k, r'⟩ := q
            rw [hu] at hst
            have hst : stepQ r.data.toList = some ((-1, k), r') := hst
            obtain ⟨f1, f2, f3, f4⟩ := stepL_facts (stepQ_sub hst)
            obtain ⟨ks, hks⟩ : ∃ ks : ByteArray, (⟨k.toArray⟩ : ByteArray) = ks := ⟨_, rfl⟩
            obtain ⟨rs, hrss⟩ : ∃ rs : ByteArray, (⟨r'.toArray⟩ : ByteArray) = rs := ⟨_, rfl⟩
            have hE : ∀ e w', UnqPost t wr e w' → Below wr.heap.size wr w' ∧ e = .returned (.tuple #[.string ks, .string rs, .int .i64 0]) := fun e w' h => by
              obtain ⟨h1, h2⟩ := h
              rw [hu] at h2
              rw [← hks, ← hrss]
              exact ⟨h1, h2⟩
            have HE := Lib.hid hE
            have hrl' : rs.data.toList = r' := by rw [← hrss]
            have hrz : rs.size < r.size := by
              have e1 : rs.data.toList.length = rs.size := by simp
              rw [hrl'] at e1
              omega
            have hkz : ks.size ≤ 4000000 := by
              have e1 : ks.data.toList.length = ks.size := by simp
              have e2 : ks.data.toList = k := by rw [← hks]
              rw [e2] at e1
              omega
            have hps := hsome _ _ hst
            rw [if_neg h16] at hps
            have hps' : parseQ (g + 1) rs.data.toList (p ++ [(-1, ks)]) = parseQ (s.size + 1) s.data.toList [] := by
              rw [hrl', hps]
              show _ = parseQ (g + 1) r' (p ++ [(-1, (⟨k.toArray⟩ : ByteArray))])
              rw [hks]
            have HPS := Lib.hid hps'
            have hall' : ∀ x ∈ p ++ [((-1 : Int), ks)], (-1 ≤ x.1 ∧ x.1 < 9223372036854775808) ∧ x.2.size ≤ 4000000 := by
              intro x hx
              rcases List.mem_append.1 hx with h1 | h1
              · exact hall.out x h1
              · rw [List.mem_singleton.1 h1]
                exact ⟨⟨f2, f3⟩, hkz⟩
            have HALL := Lib.hid hall'
            clear hno hsome hst hcons hnl hpar hall hrl hslen h16 hn hu hE htl htz hks hrss hrl' hps hps' hall' f1 f2 f3 f4
            go_wp2_with fail
            rw [HT.out]
            refine HDG.out.mono ?_
            rintro e w1 ⟨rfl, rfl⟩
            go_wp2_with fail
            refine HU.out.mono ?_
            intro e w2 hq
            obtain ⟨hb2, rfl⟩ := HE.out _ _ hq
            have hb3 := hbw.trans (hb2.mono hbw.size)
            have hown1 : w2.ownsRow w.heap.size 53 2 (.slice A p.length c) p.length (stepCells p) := hown.kept (below_none hb2) (by cases A with | none => exact .inl rfl | some a => exact .inr (by simp [Value.ownBlock]))
            clear hq hb2 hown HU HE HDG
            have hz2 := hb3.size
            go_wp2_with (at_builtin; refine wpList_append_own _ rfl _ _ 22 rfl w.heap.size 53 i0 (.agg #[.int .i64 0, .string ⟨#[]⟩]) 2 24 Tryz.underlying22 HI.out HZ0.out HZ1.out HZ2.out rfl (by decide) _ _ _ rfl (hown1.alloc _) ⟨w2.heap.size, 0, none⟩ 1 1 [.int .i64 (-1), .string ks] rfl rfl (cells_new _ [.int .i64 (-1), .string ks] _) (by intro u hu; simp at hu; rcases hu with rfl | rfl <;> rfl) (by unfold maxLen; omega) (by omega) (by simp; omega) ?_; intro v' w4 hown' hgrow _)
            have hb5 : Below w.heap.size w w4 := (hb3.alloc hz2 _).grown hgrow (by simp; omega) (fun k hk => (hown1.lt k hk).1)
            have hown2 : w4.ownsRow w.heap.size 53 2 v' (p ++ [((-1 : Int), ks)]).length (stepCells (p ++ [((-1 : Int), ks)])) := by
              rw [stepCells_append, List.length_append]
              exact hown'
            clear hown1 hown' hgrow hb3 hz2
            go_wp2_with fail
            go_roundw
            case rel => exact ⟨p ++ [(-1, ks)], rs, g, rfl, hown2, by rw [List.length_append]; exact hp15, hb5, HPS, by omega, by omega, HALL⟩
            case measure => simp only []; omega
        · have hnp : 0 < digN t.data.toList := by omega
          have hst := stepQ_digits hnp
          rw [← hcons] at hst
          have hnle := digN_le t.data.toList
          have hdall := takeWhile_all t.data.toList
          obtain ⟨n, hnn⟩ : ∃ n, digN t.data.toList = n := ⟨_, rfl⟩
          rw [hnn] at HDG hst hnle hdall hnp
          obtain ⟨ds, hds⟩ : ∃ ds, t.extract 0 n = ds := ⟨_, rfl⟩
          have hdsl : ds.data.toList = t.data.toList.take n := by
            rw [← hds, ByteArray.data_extract, Array.toList_extract]
            simp [List.extract]
          have hdsz : ds.size = n := by
            rw [← hds, ByteArray.size_extract]
            omega
          rw [← hdsl] at hst hdall
          have HTO := ref_To ds (by omega) (by omega) hdall
          have HDS := Lib.hid hds
          have y3 : (0 : Int) < n := by omega
          have y4 : (n : Int) ≤ t.size := by omega
          have hlast := extract_list t n
          obtain ⟨rs, hrss⟩ : ∃ rs, t.extract n t.size = rs := ⟨_, rfl⟩
          rw [hrss] at hlast
          have hrz : rs.size < r.size := by
            rw [← hrss, ByteArray.size_extract]
            omega
          rw [← hlast] at hst
          have HRS := Lib.hid hrss
          obtain ⟨v, hv⟩ : ∃ v, dval 0 ds.data.toList = v := ⟨_, rfl⟩
          rw [hv] at HTO hst
          clear hds hdsl hlast hrss hdall hnle hn hnn hv
          by_cases ho : natR ds.data.toList = true ∧ v ≤ 18446744073709551615
          · rw [if_pos ho] at HTO
            have HTO := Lib.hid HTO
            by_cases hbig : v ≤ 9223372036854775807
            · rw [if_pos ⟨ho, hbig⟩] at hst
              have hps := hsome _ _ hst
              rw [if_neg h16] at hps
              have hps' : parseQ (g + 1) rs.data.toList (p ++ [((v : Int), ⟨#[]⟩)]) = parseQ (s.size + 1) s.data.toList [] := hps.symm
              have HPS := Lib.hid hps'
              have hall' : ∀ x ∈ p ++ [((v : Int), (⟨#[]⟩ : ByteArray))], (-1 ≤ x.1 ∧ x.1 < 9223372036854775808) ∧ x.2.size ≤ 4000000 := by
                intro x hx
                rcases List.mem_append.1 hx with h1 | h1
                · exact hall.out x h1
                · rw [List.mem_singleton.1 h1]
                  exact ⟨⟨by show (-1 : Int) ≤ (v : Int); omega, by show (v : Int) < 9223372036854775808; omega⟩, by show (⟨#[]⟩ : ByteArray).size ≤ 4000000; decide⟩
              have HALL := Lib.hid hall'
              have y5 : ¬ (9223372036854775807 : Int) < (v : Int) := by omega
              have y6 : (0 : Int) ≤ (v : Int) := by omega
              have y7 : (v : Int) < 9223372036854775808 := by omega
              have kb := built_step0 (v : Int)
              clear hno hsome hst hcons hnl hpar hall hrl hslen h16 htl htz hps hps' hall' ho hbig
              go_wp2_with fail
              rw [HT.out]
              refine HDG.out.mono ?_
              rintro e w1 ⟨rfl, rfl⟩
              go_wp2_with fail
              rw [HDS.out]
              refine (HTO.out _).mono ?_
              rintro e w2 ⟨rfl, hb2⟩
              have hb3 := hbw.trans (hb2.mono hbw.size)
              have hown1 : w2.ownsRow w.heap.size 53 2 (.slice A p.length c) p.length (stepCells p) := hown.kept (below_none hb2) (by cases A with | none => exact .inl rfl | some a => exact .inr (by simp [Value.ownBlock]))
              clear hb2 hown HTO HDG
              have hz2 := hb3.size
              generalize (v : Int) = V at *
              go_wp2_with (at_builtin; refine wpList_append_own _ rfl _ _ 22 rfl w.heap.size 53 i0 (.agg #[.int .i64 0, .string ⟨#[]⟩]) 2 24 Tryz.underlying22 HI.out HZ0.out HZ1.out HZ2.out rfl (by decide) _ _ _ rfl (hown1.alloc _) ⟨w2.heap.size, 0, none⟩ 1 1 [.int .i64 V, .string ⟨#[]⟩] rfl rfl (cells_new _ [.int .i64 V, .string ⟨#[]⟩] _) (by intro u hu; simp at hu; rcases hu with rfl | rfl <;> rfl) (by unfold maxLen; omega) (by omega) (by simp; omega) ?_; intro v' w4 hown' hgrow _)
              have hb5 : Below w.heap.size w w4 := (hb3.alloc hz2 _).grown hgrow (by simp; omega) (fun k hk => (hown1.lt k hk).1)
              have hown2 : w4.ownsRow w.heap.size 53 2 v' (p ++ [(V, (⟨#[]⟩ : ByteArray))]).length (stepCells (p ++ [(V, (⟨#[]⟩ : ByteArray))])) := by
                rw [stepCells_append, List.length_append]
                exact hown'
              clear hown1 hown' hgrow hb3 hz2
              go_wp2_with fail
              rw [HRS.out]
              go_roundw
              case rel => exact ⟨p ++ [(V, ⟨#[]⟩)], rs, g, rfl, hown2, by rw [List.length_append]; exact hp15, hb5, HPS, by omega, by omega, HALL⟩
              case measure => simp only []; omega
            · rw [if_neg (fun h => hbig h.2)] at hst
              have HF := Lib.hid (hno hst)
              have y5 : (9223372036854775807 : Int) < (v : Int) := by omega
              clear hno hsome hst hcons hnl hpar hall hown hrl hslen h16 htl htz ho hbig
              generalize (v : Int) = V at *
              go_wp2_with fail
              rw [HT.out]
              refine HDG.out.mono ?_
              rintro e w1 ⟨rfl, rfl⟩
              go_wp2_with fail
              rw [HDS.out]
              refine (HTO.out _).mono ?_
              rintro e w2 ⟨rfl, hb2⟩
              have hb3 := hbw.trans (hb2.mono hbw.size)
              go_wp2_with fail
              go_ret2
              exact ⟨hb3, by rw [HF.out]; rfl⟩
          · rw [if_neg ho] at HTO
            have HTO := Lib.hid HTO
            rw [if_neg (fun h => ho h.1)] at hst
            have HF := Lib.hid (hno hst)
            clear hno hsome hst hcons hnl hpar hall hown hrl hslen h16 htl htz ho
            go_wp2_with fail
            rw [HT.out]
            refine HDG.out.mono ?_
            rintro e w1 ⟨rfl, rfl⟩
            go_wp2_with fail
            rw [HDS.out]
            refine (HTO.out _).mono ?_
            rintro e w2 ⟨rfl, hb2⟩
            have hb3 := hbw.trans (hb2.mono hbw.size)
            go_wp2_with fail
            go_ret2
            exact ⟨hb3, by rw [HF.out]; rfl⟩
      · have hst : stepQ r.data.toList = none := by
          refine stepQ_no ?_
          rw [hcons]
          intro e
          apply h47
          rw [← hc0]
          have : r[0] = 47 := by simpa using e
          rw [this]
          rfl
        have HF := Lib.hid (hno hst)
        have y1 : ¬ (c0 : Int) = 47 := by omega
        have y2 : ((c0 : Int) != 47) = true := by rw [bne_iff_ne]; omega
        clear hno hsome hst hcons hnl hpar hall hown hrl hslen h47
        go_wp2_with fail
        go_ret2
        exact ⟨hbw, by rw [HF.out]; rfl⟩
end Go.Proofs.YtgfeeakcpojicaaGreatDoor
