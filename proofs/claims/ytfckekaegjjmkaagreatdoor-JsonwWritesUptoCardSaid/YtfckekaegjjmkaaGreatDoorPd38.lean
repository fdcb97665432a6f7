/- The texts JsP, JwF, WjL, put together. -/
import Derived.Test.YtfckekaegjjmkaaGreatDoorPd19
import Derived.Test.YtfckekaegjjmkaaGreatDoorPd37
import Derived.Test.YtfckekaegjjmkaaGreatDoorPd17
import Derived.Test.YtfckekaegjjmkaaGreatDoorPd30
namespace Go.Proofs.YtfckekaegjjmkaaGreatDoor
open Go.RowKit Go.Shelf Lib

/-- A quoted text begins with a quote. -/
theorem quoteL_beg (l : List UInt8) : ∃ r, quoteL l = 34 :: r := ⟨_, rfl⟩
end Go.Proofs.YtfckekaegjjmkaaGreatDoor
namespace Go.Proofs.YtfckekaegjjmkaaGreatDoor
open Go.RowKit Go.Shelf

theorem fitL_memJ {f : Int} {fl : Own → Bool} : ∀ {l : List Tr} {t : Tr}, fitL f fl l = true → t ∈ l → fitT f fl t = true
  | [], _, _, h => absurd h (by simp)
  | s :: l, t, h, hm => by
    rw [fitL, Bool.and_eq_true] at h
    rcases List.mem_cons.1 hm with rfl | hm
    · exact h.1
    · exact fitL_memJ h.2 hm
theorem okJL_of : ∀ {l : List Tr}, (∀ t ∈ l, okJ t) → okJL l
  | [], _ => by
    rw [okJL]
    trivial
  | t :: l, h => by
    rw [okJL]
    exact ⟨h t (by simp), okJL_of (fun s hs => h s (by simp [hs]))⟩
/-- A right tree that fits. -/
theorem okJ_of (t : Tr) : allB t = true → fitT 1 flJ t = true → okJ t :=
  Tr.rec (motive_1 := fun t => allB t = true → fitT 1 flJ t = true → okJ t) (motive_2 := fun l => ∀ t ∈ l, allB t = true → fitT 1 flJ t = true → okJ t)
    (fun o l ih ha hf => by
      rw [allB, Bool.and_eq_true] at ha
      rw [fitT, Bool.and_eq_true] at hf
      rw [okJ]
      exact ⟨shapeJ_of ha.1 hf.1, okJL_of (fun s hs => ih s hs (allL_memJ ha.2 hs) (fitL_memJ hf.2 hs))⟩)
    (fun _ h => absurd h (by simp))
    (fun _ _ h1 h2 s hs => (List.mem_cons.1 hs).elim (fun e => by rw [e]; exact h1) (h2 s)) t
theorem checkJ_ok {f : Int} {fl : Own → Bool} {t : Tr} (h : checkT f fl t = 0) : t.count ≤ 300 ∧ t.depth ≤ 16 ∧ allB t = true ∧ fitT f fl t = true := by
  unfold checkT at h
  split at h
  · rename_i hr
    split at h
    · rename_i hf
      unfold rightT at hr
      simp only [Bool.and_eq_true, decide_eq_true_iff] at hr
      exact ⟨hr.1, hr.2.1, hr.2.2, hf⟩
    · cases h
  · cases h
theorem lineL_len (p : Bool) (k : Nat) : (lineL p k).length ≤ 1 + 2 * k := by
  unfold lineL
  split
  · rw [List.length_cons, List.length_replicate]
    omega
  · exact Nat.zero_le _
theorem gapL_len (p : Bool) : (gapL p).length ≤ 1 := by cases p <;> decide
mutual
/-- A document's length. -/
theorem jsT_bound (p : Bool) : ∀ (t : Tr) (k : Nat), okJ t → allB t = true → k + t.depth ≤ 100 → (jsT quoteL p k t).length + 300 ≤ 3000 * t.count
  | .nd o l, k, hok, ha, hk => by
    rw [okJ] at hok
    rw [allB, Bool.and_eq_true] at ha
    have hd := depth_node (.nd o l)
    have hd : (Tr.nd o l).depth = 1 + depthL l := hd
    have hA := jsA_bound p l (k + 1) true hok.2 ha.2 (by omega)
    have hM := jsM_bound p l (k + 1) true hok.2 ha.2 (by omega)
    have hl := lineL_len p k
    rw [Tr.count]
    rcases hok.1 with ⟨h, _⟩ | ⟨h, _⟩ | ⟨h, hdk, _⟩ | ⟨h, _, _⟩ | ⟨h⟩ | ⟨h, _, _⟩
    all_goals (have hkk := congrArg Own.kind h; simp only [] at hkk)
    · rw [jsT, if_pos hkk]
      show 4 + 300 ≤ _
      omega
    · rw [jsT, if_neg (by omega), if_pos hkk]
      split
      · show 4 + 300 ≤ _
        omega
      · show 5 + 300 ≤ _
        omega
    · have hf := fmtD_len hdk
      rw [jsT, if_neg (by omega), if_neg (by omega), if_pos hkk]
      omega
    · have hs := ownB_text ha.1 hkk
      have hq := quoteL_len o.s.data.toList
      have e : o.s.data.toList.length = o.s.size := by simp
      rw [jsT, if_neg (by omega), if_neg (by omega), if_neg (by omega), if_pos hkk]
      omega
    · rw [jsT, if_neg (by omega), if_neg (by omega), if_neg (by omega), if_neg (by omega), if_pos hkk, List.length_cons, List.length_append]
      show _ + 1 + 1 + 300 ≤ _
      split
      · show 0 + 1 + 1 + 300 ≤ _
        omega
      · rw [List.length_append]
        omega
    · rw [jsT, if_neg (by omega), if_neg (by omega), if_neg (by omega), if_neg (by omega), if_neg (by omega), if_pos hkk, List.length_cons, List.length_append]
      show _ + 1 + 1 + 300 ≤ _
      split
      · show 0 + 1 + 1 + 300 ≤ _
        omega
      · rw [List.length_append]
        omega
theorem jsA_bound (p : Bool) : ∀ (l : List Tr) (k : Nat) (b : Bool), okJL l → allL l = true → k + depthL l ≤ 100 → (jsA quoteL p k b l).length ≤ 3000 * countL l
  | [], k, b, _, _, _ => by
    rw [jsA]
    exact Nat.zero_le _
  | t :: l, k, b, hok, ha, hk => by
    rw [okJL] at hok
    rw [allL, Bool.and_eq_true] at ha
    rw [depthL] at hk
    have h1 := jsT_bound p t k hok.1 ha.1 (by omega)
    have h2 := jsA_bound p l k false hok.2 ha.2 (by omega)
    have hl := lineL_len p k
    have hb : (if b = true then ([] : List UInt8) else [44]).length ≤ 1 := by split <;> decide
    rw [jsA, countL]
    simp only [List.length_append]
    omega
theorem jsM_bound (p : Bool) : ∀ (l : List Tr) (k : Nat) (b : Bool), okJL l → allL l = true → k + depthL l ≤ 100 → (jsM quoteL p k b l).length ≤ 3000 * countL l
  | [], k, b, _, _, _ => by
    rw [jsM]
    exact Nat.zero_le _
  | [_], k, b, _, _, _ => by
    rw [jsM]
    exact Nat.zero_le _
  | a :: t :: l, k, b, hok, ha, hk => by
    rw [okJL, okJL] at hok
    rw [allL, allL, Bool.and_eq_true, Bool.and_eq_true] at ha
    rw [depthL, depthL] at hk
    have h0 := jsT_bound p a k hok.1 ha.1 (by omega)
    have h1 := jsT_bound p t k hok.2.1 ha.2.1 (by omega)
    have h2 := jsM_bound p l k false hok.2.2 ha.2.2 (by omega)
    have hl := lineL_len p k
    have hg := gapL_len p
    have hb : (if b = true then ([] : List UInt8) else [44]).length ≤ 1 := by split <;> decide
    rw [jsM, countL, countL]
    simp only [List.length_append, List.length_cons]
    omega
end
/-- What is written of a tree. -/
def wroteJ (pr : Bool) (t : Tr) (e : Int) : ByteArray := if e = 0 then ⟨(jsT quoteL pr 0 t).toArray⟩ else ⟨#[]⟩
theorem jsT_ne (pr : Bool) (k : Nat) {t : Tr} (h : okJ t) : jsT quoteL pr k t ≠ [] := fun e => by
  obtain ⟨c, r, h1, _⟩ := jsT_beg (Q := quoteL) quoteL_beg pr k t h
  rw [e] at h1
  cases h1
theorem built_writer (pr : Bool) (w : World) : (Instr.build 83 #[(1, .bool pr)]).run Tryz.prog w = .ok (.agg #[.pointer none, .slice none 0 0, .bool pr, .int .i64 0]) w := run_build w _ _ _ (by kernel_rfl)

set_option maxHeartbeats 4000000 in
set_option maxRecDepth 100000 in
theorem j_written (pr : Bool) (t : Tr) (x : Value) (w : World) (B d : Nat) (aT aF : Addr) (hl : ListAt w B d t.kids x) (ho : OwnOk t.own) (hB : B ≤ w.heap.size) (hc : t.count ≤ 1000000000) (h : SW w aT aF) :
    Calls Tryz.prog 36 #[nodeV t.own x, .bool pr] w fun e w' => e = .returned (.tuple #[.string (wroteJ pr t (checkT 1 flJ t)), .int .i64 (checkT 1 flJ t)]) ∧ Below w.heap.size w w' := by
  have hb1 : Below w.heap.size w (w.alloc (.cells (cellsV t.own x) 27)) := (Below.refl _ _).alloc (Nat.le_refl _) _
  have hk1 := Blk.new w (cellsV t.own x) 27
  have HC := Lib.hid (tree_Check 1 flJ (fits_at_J aT aF) t x _ B d (hl.below hb1 hB) ho (Nat.le_trans hB hb1.size) hc (h.g.below hb1))
  have HCC := Lib.hid (check_cases 1 flJ t)
  obtain ⟨_, A, c, rfl⟩ := hl.slice
  obtain ⟨n, hn⟩ : ∃ n, t.kids.length = n := ⟨_, rfl⟩
  rw [hn] at hl hk1 hb1 HC ⊢
  have HW := Lib.hid (fun (W : World) (hW : Below w.heap.size w W) (h0 : checkT 1 flJ t = 0) => j_write t (lists_J t.kids).1 (lists_J t.kids).2 B w.heap.size W.heap.size d pr 0 [] A n c w (W.alloc (.cells #[.pointer none, .slice none 0 0, .bool pr, .int .i64 0] 83)) aT aF hl hB (Nat.le_refl _) (hW.alloc hW.size _)
    (.inl ⟨hW.size, .slice none 0 0, Blk.new _ _ _, World.ownsRowF_nil _ _ _ _, by simp [Value.ownBlock]⟩) h (okJ_of t (checkJ_ok h0).2.2.1 (checkJ_ok h0).2.2.2) (checkJ_ok h0).2.2.1 (by
      have hk := checkJ_ok h0
      have := jsT_bound pr t 0 (okJ_of t hk.2.2.1 hk.2.2.2) hk.2.2.1 (by omega)
      show 0 + _ ≤ _
      omega) hn hc (by have := checkJ_ok h0; omega))
  have HS := Lib.hid (fun (W W2 : World) (h2 : JP w.heap.size W.heap.size pr ((0 : Nat) : Int) ([] ++ jsT quoteL pr 0 t) W2 W2) (h0 : checkT 1 flJ t = 0) => jb_String w.heap.size W.heap.size pr ((0 : Nat) : Int) (jsT quoteL pr 0 t) W2 h2.is (jsT_ne pr 0 (okJ_of t (checkJ_ok h0).2.2.1 (checkJ_ok h0).2.2.2)))
  unfold wroteJ
  obtain ⟨ct, hct⟩ : ∃ ct, jsT quoteL pr 0 t = ct := ⟨_, rfl⟩
  obtain ⟨ck, hck⟩ : ∃ ck, checkT 1 flJ t = ck := ⟨_, rfl⟩
  rw [hck] at HC HCC ⊢
  simp only [hct, hck] at HW HS
  rw [hct]
  have HBW := Lib.hid (fun w => built_writer pr w)
  have hbw := built_writer pr
  clear hl ho hB hc h hct hck hn HBW
  obtain ⟨⟨kind, b, neg, dg, ex, u, wd, s⟩, ho'⟩ : ∃ o, t.own = o := ⟨_, rfl⟩
  simp only [ho'] at HC HW hk1 hb1
  rw [ho']
  unfold nodeV at HC HW ⊢
  unfold cellsV at HC hk1 hb1
  simp only [] at HC HW hk1 hb1 ⊢
  have z0 := hk1.cell 0
  have z1 := hk1.cell 1
  have z2 := hk1.cell 2
  have z3 := hk1.cell 3
  have z4 := hk1.cell 4
  have z5 := hk1.cell 5
  have z6 := hk1.cell 6
  have z7 := hk1.cell 7
  have z8 := hk1.cell 8
  clear ho'
  go_enter Tryz.func36, Tryz.ntmps36
  go_wp2_with fail
  refine HC.out.mono ?_
  rintro e w2 ⟨rfl, hb⟩
  have hb2 := hb1.trans (hb.mono hb1.size)
  have hk2 := hk1.below hb hk1.lt
  clear z0 z1 z2 z3 z4 z5 z6 z7 z8 hb hk1 hb1 HC
  by_cases h0 : ck = 0
  · have HW2 := Lib.hid (HW.out w2 hb2 h0)
    have HS2 := Lib.hid (fun W2 h2 => HS.out w2 W2 h2 h0)
    have HB2 := Lib.hid hb2
    have hk3 := hk2.alloc (.cells #[.pointer none, .slice none 0 0, .bool pr, .int .i64 0] 83)
    subst h0
    have z0 := hk3.cell 0
    have z1 := hk3.cell 1
    have z2 := hk3.cell 2
    have z3 := hk3.cell 3
    have z4 := hk3.cell 4
    have z5 := hk3.cell 5
    have z6 := hk3.cell 6
    have z7 := hk3.cell 7
    have z8 := hk3.cell 8
    clear HW HS hb2 hk2 hk3
    go_wp2_with fail
    refine HW2.out.mono ?_
    rintro e w3 ⟨rfl, h3⟩
    have HS3 := Lib.hid (HS2.out w3 ⟨h3.is, Below.refl _ _, Lib.OthersKept.refl _ _ _⟩)
    have HB3 := Lib.hid ((HB2.out.alloc HB2.out.size (.cells #[.pointer none, .slice none 0 0, .bool pr, .int .i64 0] 83)).trans h3.below)
    clear z0 z1 z2 z3 z4 z5 z6 z7 z8 HW2 HB2 HS2 h3
    go_wp2_with fail
    refine HS3.out.mono ?_
    rintro e w4 ⟨rfl, h4⟩
    have hb5 := HB3.out.trans h4
    clear HS3 h4
    go_wp2_with fail
    refine bodyPost_ret (v := .tuple #[.string ⟨ct.toArray⟩, .int .i64 0]) (by simp [results, Tryz.results36, go_sem]) rfl ⟨by simp, hb5⟩
  · have y1 : ¬ ck = 0 := h0
    clear HW HS
    go_wp2_with fail
    refine bodyPost_ret (v := .tuple #[.string ⟨#[]⟩, .int .i64 ck]) (by simp [results, Tryz.results36, go_sem]) rfl ⟨rfl, hb2⟩
end Go.Proofs.YtfckekaegjjmkaaGreatDoor
namespace Go.Proofs.YtfckekaegjjmkaaGreatDoor
open Go.RowKit Go.Shelf

set_option maxHeartbeats 2000000 in
set_option maxRecDepth 100000 in
theorem rj_lines (p : Bool) (n : Nat) (hn : n ≤ 1000) (w : World) :
    Calls Tryz.prog 51 #[.bool p, .int .i64 n] w fun x w' => x = .returned (.string ⟨(lineL p n).toArray⟩) ∧ w' = w := by
  cases p with
  | false =>
    have hr : (⟨(lineL false n).toArray⟩ : ByteArray) = ⟨#[]⟩ := rfl
    rw [hr]
    clear hr
    go_enter Tryz.func51, Tryz.ntmps51
    go_wp2_with fail
    go_ret
    exact ⟨rfl, rfl⟩
  | true =>
  obtain ⟨r, hr⟩ : ∃ r : ByteArray, ⟨(lineL true n).toArray⟩ = r := ⟨_, rfl⟩
  rw [hr]
  have HR := Lib.hid hr
  clear hr
  go_enter Tryz.func51, Tryz.ntmps51
  go_wp2_with fail
  go_loopw [5, 6] (fun s i wr => ∃ (k : Nat) (x : ByteArray), k ≤ n ∧ i = .int .i64 k ∧ s = .string x ∧ x.data.toList = 10 :: List.replicate (2 * k) 32 ∧ wr = w) (fun _ i _ => n - (intOf i).toNat)
  case atStart => exact ⟨0, ⟨#[10]⟩, by omega, rfl, rfl, rfl, rfl⟩
  case round =>
    obtain ⟨k, x, hk, rfl, rfl, hx, rfl⟩ := hrel
    have hsz : x.size = 1 + 2 * k := by
      have e1 : x.data.toList.length = x.size := by simp
      rw [hx, List.length_cons, List.length_replicate] at e1
      omega
    by_cases hlt : k < n
    · have y1 : (k : Int) < n := by omega
      have y2 : ¬ 9223372036854775807 < x.size + 2 := by omega
      have HX := Lib.hid hx
      clear hx hsz
      go_wp2_with fail
      go_roundw
      case rel => exact ⟨k + 1, x ++ ⟨#[32, 32]⟩, by omega, congrArg (Value.int .i64) (Int.natCast_succ k).symm, rfl, by rw [app_list, HX.out, show 2 * (k + 1) = 2 * k + 1 + 1 by omega, List.replicate_succ', List.replicate_succ']; simp, trivial⟩
      case measure => simp [intOf]; omega
    · obtain rfl : k = n := by omega
      have y1 : ¬ (k : Int) < k := by omega
      have hx' : x = r := str_ext (by rw [hx, ← HR.out]; rfl)
      subst hx'
      clear hx hsz HR hlt
      go_wp2_with fail
      go_ret
      exact ⟨rfl, rfl⟩

/-- Is the element with this index a key? -/
def keyR (m : Bool) (i : Nat) : Bool := m && decide (i % 2 = 0)
/-- What the reference lays for an element of a list. -/
noncomputable def rowR (m p : Bool) (k i : Nat) (t : Tr) : List UInt8 :=
  (if i ≠ 0 ∧ (m = false ∨ keyR m i = true) then [44] else []) ++ ((if m = false ∨ keyR m i = true then lineL p k else []) ++ (jsT quoteL p k t ++ (if keyR m i = true then 58 :: gapL p else [])))
noncomputable def outR (m p : Bool) (k : Nat) : Nat → List Tr → List UInt8
  | _, [] => []
  | i, t :: l => rowR m p k i t ++ outR m p k (i + 1) l
theorem outR_snoc (m p : Bool) (k : Nat) (t : Tr) : ∀ (l : List Tr) (i : Nat), outR m p k i (l ++ [t]) = outR m p k i l ++ rowR m p k (i + l.length) t
  | [], i => by
    rw [List.nil_append, outR, outR, outR, List.append_nil, List.nil_append]
    rfl
  | s :: l, i => by
    rw [List.cons_append, outR, outR, outR_snoc m p k t l (i + 1), List.append_assoc, List.length_cons, show i + 1 + l.length = i + (l.length + 1) by omega]
theorem outR_arr (p : Bool) (k : Nat) : ∀ (l : List Tr) (i : Nat), outR false p k i l = jsA quoteL p k (decide (i = 0)) l
  | [], _ => by rw [outR, jsA]
  | t :: l, i => by
    rw [outR, jsA, outR_arr p k l (i + 1)]
    unfold rowR keyR
    by_cases h : i = 0
    · simp [h]
    · simp [h]
theorem outR_map (p : Bool) (k : Nat) : ∀ (n : Nat) (l : List Tr) (i : Nat), l.length = 2 * n → i % 2 = 0 → outR true p k i l = jsM quoteL p k (decide (i = 0)) l
  | 0, l, _, h, _ => by
    have : l = [] := List.length_eq_zero_iff.1 (by omega)
    subst this
    rw [outR, jsM]
  | n + 1, a :: b :: l, i, h, hi => by
    have h1 : (i + 1) % 2 = 1 := by omega
    rw [outR, outR, jsM, outR_map p k n l (i + 1 + 1) (by simp at h; omega) (by omega)]
    unfold rowR keyR
    by_cases h0 : i = 0
    · simp [h0]
    · simp [h0, hi, h1]
  | n + 1, [x], _, h, _ => by simp at h; omega
  | n + 1, [], _, h, _ => by simp at h
theorem outR_take (m p : Bool) (k : Nat) (l : List Tr) (j : Nat) (h : j < l.length) : outR m p k 0 (l.take (j + 1)) = outR m p k 0 (l.take j) ++ rowR m p k j l[j] := by
  rw [List.take_succ_eq_append_getElem h, outR_snoc, List.length_take, Nat.zero_add, show min j l.length = j by omega]
theorem outR_len (m p : Bool) (k : Nat) : ∀ (l : List Tr) (i j : Nat), (outR m p k i (l.take j)).length ≤ (outR m p k i l).length
  | [], i, j => by rw [List.take_nil]; exact Nat.le_refl _
  | t :: l, i, 0 => by rw [List.take_zero, outR]; exact Nat.zero_le _
  | t :: l, i, j + 1 => by
    rw [List.take_succ_cons, outR, outR, List.length_append, List.length_append]
    have := outR_len m p k l (i + 1) j
    omega
end Go.Proofs.YtfckekaegjjmkaaGreatDoor
