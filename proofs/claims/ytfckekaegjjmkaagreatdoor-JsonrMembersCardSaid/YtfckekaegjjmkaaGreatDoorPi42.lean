/- The texts GateY, JrN, JrO, put together. -/
import Derived.Test.YtfckekaegjjmkaaGreatDoorPi39
import Derived.Test.YtfckekaegjjmkaaGreatDoorPi41
import Derived.Test.YtfckekaegjjmkaaGreatDoorPi02
import Derived.Test.YtfckekaegjjmkaaGreatDoorPi31
import Derived.Test.YtfckekaegjjmkaaGreatDoorPi10
namespace Go.Proofs.YtfckekaegjjmkaaGreatDoor
open Go.RowKit Go.Shelf

theorem check_cases (f : Int) (fl : Own → Bool) (t : Tr) : checkT f fl t = 0 ∨ checkT f fl t = 60 ∨ checkT f fl t = 61 := by
  unfold checkT
  split
  · split
    · exact .inl rfl
    · exact .inr (.inr rfl)
  · exact .inr (.inl rfl)

set_option maxHeartbeats 4000000 in
set_option maxRecDepth 100000 in
theorem tree_Check {aT aF : Addr} (f : Int) (fl : Own → Bool) (hfits : FitsC aT aF f fl) (t : Tr) (x : Value) (w : World) (B d : Nat) (hl : ListAt w B d t.kids x) (ho : OwnOk t.own) (hB : B ≤ w.heap.size) (hc : t.count ≤ 1000000000) (h : GW w aT aF) :
    Calls Tryz.prog 28 #[nodeV t.own x, .int .i64 f] w fun e w' => e = .returned (.int .i64 (checkT f fl t)) ∧ Below w.heap.size w w' := by
  have hb1 : Below w.heap.size w (w.alloc (.cells (cellsV t.own x) 27)) := (Below.refl _ _).alloc (Nat.le_refl _) _
  have hk1 := Blk.new w (cellsV t.own x) 27
  have HC := tree_checked f fl hfits t x _ B d (hl.below hb1 hB) ho (Nat.le_trans hB hb1.size) hc (h.below hb1)
  have hcs := check_cases f fl t
  obtain ⟨ck, hck⟩ : ∃ ck, checkT f fl t = ck := ⟨_, rfl⟩
  rw [hck] at HC hcs ⊢
  obtain ⟨_, A, c, rfl⟩ := hl.slice
  obtain ⟨n, hn⟩ : ∃ n, t.kids.length = n := ⟨_, rfl⟩
  obtain ⟨⟨kind, b, neg, dg, ex, u, wd, s⟩, ho'⟩ : ∃ o, t.own = o := ⟨_, rfl⟩
  rw [ho', hn] at HC hk1 hb1 ⊢
  unfold nodeV at HC ⊢
  unfold cellsV at HC hk1 hb1
  simp only [] at HC hk1 hb1 ⊢
  have HC := Lib.hid HC
  have z0 := hk1.cell 0
  have z1 := hk1.cell 1
  have z2 := hk1.cell 2
  have z3 := hk1.cell 3
  have z4 := hk1.cell 4
  have z5 := hk1.cell 5
  have z6 := hk1.cell 6
  have z7 := hk1.cell 7
  have z8 := hk1.cell 8
  have HG := Lib.hid h
  clear hl ho hc hck ho' hn hk1 h hfits
  go_enter Tryz.func28, Tryz.ntmps28
  go_wp2_with fail
  refine HC.out.mono ?_
  rintro e w2 ⟨rfl, hb⟩
  have hb3 := hb1.trans (hb.mono hb1.size)
  have G := HG.out.below hb3
  have hgT := G.hT
  have hgF := G.hF
  obtain ⟨cT, tT, eT⟩ := G.bT
  obtain ⟨cF, tF, eF⟩ := G.bF
  have H1 := Lib.hid (is_nil aT w2)
  have H2 := Lib.hid (is_nil aF w2)
  have H3 := Lib.hid (is_same aT w2)
  have H4 := Lib.hid (is_same aF w2)
  have H5 := Lib.hid (is_other aF aT cF cT tF tT w2 G.ne.symm eF eT)
  clear z0 z1 z2 z3 z4 z5 z6 z7 z8 hb hb1 HC G eT eF
  rcases hcs with rfl | rfl | rfl
  · have he : errR aT aF 0 = .nilIface := rfl
    rw [he]
    clear he
    go_wp2_with fail
    refine H1.out.mono ?_
    rintro e w3 ⟨rfl, rfl⟩
    go_wp2_with fail
    refine H2.out.mono ?_
    rintro e w3 ⟨rfl, rfl⟩
    go_wp2_with fail
    go_ret
    exact ⟨rfl, hb3⟩
  · have he : errR aT aF 60 = errP aT := rfl
    rw [he]
    clear he
    go_wp2_with fail
    refine H3.out.mono ?_
    rintro e w3 ⟨rfl, rfl⟩
    go_wp2_with fail
    go_ret
    exact ⟨rfl, hb3⟩
  · have he : errR aT aF 61 = errP aF := rfl
    rw [he]
    clear he
    go_wp2_with fail
    refine H5.out.mono ?_
    rintro e w3 ⟨rfl, rfl⟩
    go_wp2_with fail
    refine H4.out.mono ?_
    rintro e w3 ⟨rfl, rfl⟩
    go_wp2_with fail
    go_ret
    exact ⟨rfl, hb3⟩

theorem fits_at_C (aT aF : Addr) : FitsC aT aF 2 flC := fun o l A n c w B d hl hB hn hc ho h => fits_C o l A n c w B d hl hB hn hc ho h
end Go.Proofs.YtfckekaegjjmkaaGreatDoor
namespace Go.Proofs.YtfckekaegjjmkaaGreatDoor
open Go.RowKit Go.Shelf

def CountJ (p : Psr Tr) : Prop := ∀ l t r, p l = .good t r → t.count + r.length ≤ l.length
theorem count_leaf {p : Psr Tr} (h1 : ∀ l t r, p l = .good t r → t.kids = []) (h2 : ∀ l t r, p l = .good t r → r.length + 1 ≤ l.length) : CountJ p := fun l t r h => by
  have := h1 l t r h
  have := h2 l t r h
  rw [Tr.count_eq, h1 l t r h]
  show 1 + 0 + _ ≤ _
  omega
theorem text_count : CountJ (textJ uqJ) := count_leaf (fun l t r h => by
    obtain ⟨s, rfl⟩ := textJ_good h
    rfl) (fun l t r h => by
    obtain ⟨own, h1, h2, _⟩ := text_ownJ uqJ_own2 l t r h
    cases own with
    | nil => exact absurd rfl h1
    | cons c own => rw [h2, List.length_append, List.length_cons]; omega)
theorem word_count (v : List UInt8) (hv : v ≠ []) (t0 : Tr) (h0 : t0.kids = []) : CountJ (wordJ v t0) := count_leaf (fun l t r h => by
    unfold wordJ at h
    split at h
    · injection h with h _
      rw [← h]
      exact h0
    · cases h) (fun l t r h => by
    obtain ⟨own, h1, h2, _⟩ := word_own v hv t0 l t r h
    cases own with
    | nil => exact absurd rfl h1
    | cons c own => rw [h2, List.length_append, List.length_cons]; omega)
theorem num_count : CountJ numJ := count_leaf (fun l t r h => by
    unfold numJ at h
    split at h
    · injection h with h _
      rw [← h]
      rfl
    · cases h) (fun l t r h => by
    obtain ⟨own, h1, h2, _⟩ := num_own l t r h
    cases own with
    | nil => exact absurd rfl h1
    | cons c own => rw [h2, List.length_append, List.length_cons]; omega)
theorem spJ_le (l : List UInt8) : (spJ l).length ≤ l.length := spJ_len l
theorem next_count {en : UInt8} {a L : List Tr} {go : Psr (List Tr)} {l r : List UInt8} {n : Nat} (hgo : ∀ l' L' r', go l' = .good L' r' → countL L' + r'.length ≤ countL a + l'.length) (hn : countL a + l.length ≤ n) (h : nextJ en a go l = .good L r) : countL L + r.length ≤ n := by
  unfold nextJ at h
  have hl := spJ_le l
  split at h
  · cases h
  · rename_i c r0 hq
    rw [hq, List.length_cons] at hl
    split at h
    · injection h with h1 h2
      subst h1 h2
      omega
    · split at h
      · have := hgo _ _ _ h
        have h3 := spJ_le r0
        omega
      · cases h
theorem colon_count {k t : Tr} {l r : List UInt8} (h : colonJ k l = .good t r) : t = k ∧ r.length ≤ l.length := by
  unfold colonJ at h
  have hl := spJ_le l
  split at h
  · cases h
  · rename_i c r0 hq
    rw [hq, List.length_cons] at hl
    split at h
    · injection h with h1 h2
      have h3 := spJ_le r0
      rw [h2] at h3
      exact ⟨h1.symm, by omega⟩
    · cases h
theorem nodes_count {v : Psr Tr} (hv : CountJ v) (mem : Bool) (en : UInt8) : ∀ (f : Nat) (acc : List Tr) (l : List UInt8) (L : List Tr) (r : List UInt8), nodesJ uqJ v mem en f acc l = .good L r → countL L + r.length ≤ countL acc + l.length
  | 0, _, _, _, _, h => by cases h
  | f + 1, acc, l, L, r, h => by
    rw [nodesJ] at h
    split at h
    · obtain ⟨k, s, h1, h2⟩ := bindP_good h
      obtain ⟨t, s2, h3, h4⟩ := bindP_good h2
      obtain ⟨k0, s0, h5, h6⟩ := bindP_good (show bindP (textJ uqJ) colonJ l = .good k s from h1)
      have c1 := text_count _ _ _ h5
      obtain ⟨rfl, c2⟩ := colon_count h6
      have c3 := hv _ _ _ h3
      refine next_count (nodes_count hv mem en f (acc ++ [k, t])) ?_ h4
      rw [countL_append]
      simp only [countL]
      omega
    · obtain ⟨t, s2, h3, h4⟩ := bindP_good h
      have c3 := hv _ _ _ h3
      refine next_count (nodes_count hv mem en f (acc ++ [t])) ?_ h4
      rw [countL_append]
      simp only [countL]
      omega
theorem list_count {v : Psr Tr} (hv : CountJ v) (mem : Bool) (en : UInt8) (F : Nat) {l : List UInt8} {L : List Tr} {r : List UInt8} (h : listJ uqJ v mem en F l = .good L r) : countL L + r.length ≤ l.length := by
  unfold listJ at h
  have hl := spJ_le l
  split at h
  · have h9 : countL L + r.length ≤ 0 + 0 := nodes_count hv mem en F [] [] L r h
    omega
  · rename_i c r0 hq
    rw [hq, List.length_cons] at hl
    split at h
    · injection h with h1 h2
      subst h1 h2
      simp [countL]
      omega
    · have h9 := nodes_count hv mem en F [] _ L r h
      rw [show countL ([] : List Tr) = 0 from rfl, List.length_cons] at h9
      omega
theorem body_count {sub : Option (Psr Tr)} (hs : ∀ v, sub = some v → CountJ v) (F : Nat) : CountJ (bodyJ uqJ sub F) := fun l t r h => by
  unfold bodyJ at h
  split at h
  · cases h
  rename_i c r0
  split at h
  · cases sub with
    | none => cases h
    | some v =>
      obtain ⟨L, s, h1, h2⟩ := bindP_good h
      have := list_count (hs v rfl) false 93 F h1
      injection h2 with h2 h3
      subst h2 h3
      rw [Tr.count_eq]
      show 1 + countL L + _ ≤ _
      rw [List.length_cons]
      omega
  split at h
  · cases sub with
    | none => cases h
    | some v =>
      obtain ⟨L, s, h1, h2⟩ := bindP_good h
      have := list_count (hs v rfl) true 125 F h1
      injection h2 with h2 h3
      subst h2 h3
      rw [Tr.count_eq]
      show 1 + countL L + _ ≤ _
      rw [List.length_cons]
      omega
  split at h
  · exact text_count _ _ _ h
  split at h
  · exact word_count _ (by decide) _ rfl _ _ _ h
  split at h
  · exact word_count _ (by decide) _ rfl _ _ _ h
  split at h
  · exact word_count _ (by decide) _ rfl _ _ _ h
  · exact num_count _ _ _ h
theorem value_count (F : Nat) : ∀ d, CountJ (valueJ uqJ F d)
  | 0 => body_count (fun v h => by cases h) F
  | d + 1 => body_count (fun v h => by injection h with h; rw [← h]; exact value_count F d) F

set_option maxRecDepth 100000 in
theorem tree_RightP {aT aF : Addr} (t : Tr) (x : Value) (w : World) (B d : Nat) (hl : ListAt w B d t.kids x) (ho : OwnOk t.own) (hB : B ≤ w.heap.size) (hc : t.count ≤ 1000000000) (h : GW w aT aF) :
    Calls Tryz.prog 55 #[nodeV t.own x] w fun e w' => e = .returned (.bool (rightT t)) ∧ Below w.heap.size w w' := by
  have hb1 : Below w.heap.size w (w.alloc (.cells (cellsV t.own x) 27)) := (Below.refl _ _).alloc (Nat.le_refl _) _
  have hk1 := Blk.new w (cellsV t.own x) 27
  have HC := Lib.hid (tree_Check 2 flC (fits_at_C aT aF) t x _ B d (hl.below hb1 hB) ho (Nat.le_trans hB hb1.size) hc (h.below hb1))
  have hr : rightT t = !(checkT 2 flC t == 60) := by
    unfold checkT
    cases hx : rightT t with
    | false => rw [if_neg (by decide)]; decide
    | true =>
      rw [if_pos rfl]
      split <;> decide
  obtain ⟨ck, hck⟩ : ∃ ck, checkT 2 flC t = ck := ⟨_, rfl⟩
  rw [hr, hck]
  rw [hck] at HC
  obtain ⟨⟨kind, b, neg, dg, ex, u, wd, s⟩, ho'⟩ : ∃ o, t.own = o := ⟨_, rfl⟩
  rw [ho'] at HC hk1 hb1 ⊢
  unfold nodeV at HC ⊢
  unfold cellsV at HC hk1 hb1
  have z0 := hk1.cell 0
  have z1 := hk1.cell 1
  have z2 := hk1.cell 2
  have z3 := hk1.cell 3
  have z4 := hk1.cell 4
  have z5 := hk1.cell 5
  have z6 := hk1.cell 6
  have z7 := hk1.cell 7
  have z8 := hk1.cell 8
  clear hr hck h hc ho hl hB
  by_cases hk : ck = 60
  · subst hk
    rw [show (!((60 : Int) == 60)) = false from rfl]
    go_enter Tryz.func55, Tryz.ntmps55
    go_wp2_with fail
    refine HC.out.mono ?_
    rintro e w2 ⟨rfl, hb2⟩
    go_wp2_with fail
    go_ret
    exact ⟨rfl, hb1.trans (hb2.mono hb1.size)⟩
  · have y1 : (ck != 60) = true := by rw [bne_iff_ne]; exact hk
    rw [show (!(ck == 60)) = true from y1]
    go_enter Tryz.func55, Tryz.ntmps55
    go_wp2_with fail
    refine HC.out.mono ?_
    rintro e w2 ⟨rfl, hb2⟩
    go_wp2_with fail
    go_ret
    exact ⟨rfl, hb1.trans (hb2.mono hb1.size)⟩
end Go.Proofs.YtfckekaegjjmkaaGreatDoor
namespace Go.Proofs.YtfckekaegjjmkaaGreatDoor
open Go.RowKit Go.Shelf
attribute [local go_sem] Oper.semAt_some

/-- errors.errorType lies where it was laid. -/
abbrev ErrTyJ (w : World) : Prop := w.cell? ⟨2, 0, none⟩ = some (.iface 134 (.agg #[.pointer (some ⟨13, 62, none⟩)]))
/-- What the reader asks of the world. -/
structure JRW (w : World) (uT uQ aT aF : Addr) : Prop where
  u : UW w uT uQ
  g : GW w aT aF
  a : AtW w
  ty : ErrTyJ w
theorem JRW.below {w w' : World} {uT uQ aT aF : Addr} (h : JRW w uT uQ aT aF) (hb : Below w.heap.size w w') : JRW w' uT uQ aT aF where
  u := h.u.below hb
  g := h.g.below hb
  a := h.a.below hb (Nat.le_refl _)
  ty := cell_below hb h.ty
theorem str_isB {l : List UInt8} (h : ¬ l = []) : (bsD l).toList.isEmpty = false := str_isE h

set_option maxHeartbeats 8000000 in
set_option maxRecDepth 100000 in
theorem jr_document {w0 : World} {uT uQ aT aF : Addr} (h : JRW w0 uT uQ aT aF) (F p : Nat) (s : ByteArray) (w : World) (hb0 : Below w0.heap.size w0 w) (hp : w0.heap.size ≤ p) (hr : RdJ w p s 0) (hs : s.size ≤ 100000000) (hF : s.size < F) :
    Calls Tryz.prog 39 #[.pointer (some ⟨p, 0, none⟩)] w (ReadJ p 0 16 w s (docJ uqJ F s.data.toList)) := by
  have hk1 := Blk.new w zeroC 27
  have hr1 := hr.alloc (.cells zeroC 27)
  have hb1 : Below w.heap.size w (w.alloc (.cells zeroC 27)) := (Below.refl _ w).alloc (Nat.le_refl _) _
  have hplt := hr.lt
  have hz1 : (w.alloc (.cells zeroC 27)).heap.size = w.heap.size + 1 := by simp
  have hsl : s.data.toList.length = s.size := by simp
  have hl1 := spJ_len s.data.toList
  have HS := Lib.hid (fun s W (h : RdJ W p s 0) (hz : s.size ≤ 1000000000) => jr_space p 0 s W h hz)
  have hV := jr_value h.u h.a F 16 (Nat.le_refl _)
  have HV := Lib.hid (fun W (hg : w.grownBy W (some p)) (hR : RdJ W p (bsD (spJ s.data.toList)) 0) => hV p (bsD (spJ s.data.toList)) W (below_of_grown hb0 hp hplt hg) hp hR (by rw [bsD_size]; omega) (by rw [bsD_size]; omega))
  have HG := Lib.hid (fun W (hg : w.grownBy W (some p)) => h.g.below (below_of_grown hb0 hp hplt hg))
  clear hV h hb0 hr
  unfold docJ
  cases hx : valueJ uqJ F 16 (spJ s.data.toList) with
  | bad e =>
    have HV : Hid (∀ W, w.grownBy W (some p) → RdJ W p (bsD (spJ s.data.toList)) 0 → Calls Tryz.prog 53 #[.pointer (some ⟨p, 0, none⟩)] W fun x w' => W.grownBy w' (some p) ∧ (x = .returned (.tuple #[.agg zeroC, errJ e]) ∧ (e = 60 ∨ e = 80)) ∧ ∃ s' d', RdJ w' p s' d' ∧ s'.size ≤ (bsD (spJ s.data.toList)).size) := Lib.hid (fun W hg hR => by
      have := HV.out W hg hR
      rw [bsD_list, hx] at this
      exact this)
    simp only []
    clear hx HG
    go_enter Tryz.func39, Tryz.ntmps39
    go_wp2_with fail
    refine (HS.out s _ hr1 (by omega)).mono ?_
    rintro x w2 ⟨⟨v2, rfl⟩, hg2, hr2⟩
    have hk2 := blk_gb hk1 hg2 (by omega)
    have hgA := grown_trans (below_grown hb1 (some p)) hg2
    have HVV := HV.out w2 hgA hr2
    go_wp2_with fail
    refine HVV.mono ?_
    rintro x w3 ⟨hg3, ⟨rfl, he⟩, s', d', hr3, hs3⟩
    have hk3 := (blk_gb hk2 hg3 (by omega)).alloc (.cells zeroC 27)
    have hr4 := hr3.alloc (.cells zeroC 27)
    have hgB := grown_of (grown_trans hgA hg3) ((Below.refl _ _).alloc (Nat.le_refl _) (.cells zeroC 27))
    rw [bsD_size] at hs3
    unfold errJ
    go_wp2_with (refine wpList_store_row rfl 27 (.tmp 2) (.tmp 15) rfl (w.heap.size) zeroC rfl rfl 27 _ hk3 (by kernel_rfl) rfl (by simp [Value.oneCell']) ?_)
    refine bodyPost_ret (results_cell (T := 27) rfl rfl rfl (blk_row hk3 zeroC) Tryz.underlying27 rfl (by kernel_rfl)) rfl ?_
    exact ⟨grown_at hgB (grown_row _ _ _) (by omega), ⟨rfl, he⟩, s', d', blk_row_other hr4 (by omega) _, by omega⟩
  | good t r =>
    have hct := value_count F 16 _ _ _ hx
    obtain ⟨⟨kind3, b3, neg3, dg3, ex3, u3, wd3, s3⟩, ho3⟩ : ∃ o, t.own = o := ⟨_, rfl⟩
    have HV : Hid (∀ W, w.grownBy W (some p) → RdJ W p (bsD (spJ s.data.toList)) 0 → Calls Tryz.prog 53 #[.pointer (some ⟨p, 0, none⟩)] W fun x w' => W.grownBy w' (some p) ∧ (∃ A n c, x = .returned (.tuple #[.agg #[.int .i64 kind3, .bool b3, .bool neg3, .string dg3, .int .i64 ex3, .int .u64 u3, .int .i64 wd3, .string s3, .slice A n c], .nilIface]) ∧ LAt w' (fun q => W.heap.size ≤ q ∧ q < w'.heap.size) 16 t.kids (.slice A n c)) ∧ OwnOk t.own ∧ RdJ w' p (bsD r) 0 ∧ r.length ≤ (bsD (spJ s.data.toList)).size) := Lib.hid (fun W hg hR => by
      have := HV.out W hg hR
      rw [bsD_list, hx] at this
      unfold ReadJ at this
      simp only [nodeV, ho3] at this
      rw [ho3]
      exact this)
    have HO3 := Lib.hid ho3
    simp only []
    have hl2 := spJ_len r
    clear hx ho3
    by_cases hsp : spJ r = []
    · rw [if_neg (fun h => h hsp)]
      have HRG := Lib.hid (fun (W : World) (B : Nat) (x : Value) (hl : ListAt W B 16 t.kids x) (ho : OwnOk t.own) (hB : B ≤ W.heap.size) (hg : w.grownBy W (some p)) => tree_RightP t x W B 16 hl ho hB (by omega) (HG.out W hg))
      by_cases hrt : rightT t = true
      · rw [if_pos hrt]
        rw [hrt] at HRG
        go_enter Tryz.func39, Tryz.ntmps39
        go_wp2_with fail
        refine (HS.out s _ hr1 (by omega)).mono ?_
        rintro x w2 ⟨⟨v2, rfl⟩, hg2, hr2⟩
        have hk2 := blk_gb hk1 hg2 (by omega)
        have hgA := grown_trans (below_grown hb1 (some p)) hg2
        have HVV := HV.out w2 hgA hr2
        go_wp2_with fail
        refine HVV.mono ?_
        rintro x w3 ⟨hg3, ⟨A, n, c, rfl, hly⟩, hot, hr3, hs3⟩
        have hk3 := blk_gb hk2 hg3 (by omega)
        have hk4 := hk3.alloc (.cells #[.int .i64 kind3, .bool b3, .bool neg3, .string dg3, .int .i64 ex3, .int .u64 u3, .int .i64 wd3, .string s3, .slice A n c] 27)
        have hx4 := Blk.new w3 #[.int .i64 kind3, .bool b3, .bool neg3, .string dg3, .int .i64 ex3, .int .u64 u3, .int .i64 wd3, .string s3, .slice A n c] 27
        have hr4 := hr3.alloc (.cells #[.int .i64 kind3, .bool b3, .bool neg3, .string dg3, .int .i64 ex3, .int .u64 u3, .int .i64 wd3, .string s3, .slice A n c] 27)
        have hgB := grown_trans hgA hg3
        have hg4 : w.grownBy (w3.alloc (.cells #[.int .i64 kind3, .bool b3, .bool neg3, .string dg3, .int .i64 ex3, .int .u64 u3, .int .i64 wd3, .string s3, .slice A n c] 27)) (some p) := grown_of hgB ((Below.refl _ _).alloc (Nat.le_refl _) _)
        have hz2 := hg2.size
        have hz3 := hg3.size
        have HLY := Lib.hid hly
        clear hly
        go_wp2_with fail
        refine (HS.out (bsD r) _ hr4 (by rw [bsD_size]; omega)).mono ?_
        rintro x w5 ⟨⟨v5, rfl⟩, hg5, hr5⟩
        rw [bsD_list] at hr5
        have hk5 := blk_gb hk4 hg5 (by omega)
        have hx5 := blk_gb hx4 hg5 (by have := hr3.lt; omega)
        have hg6 := grown_trans hg4 hg5
        have hz5 := hg5.size
        have q5 := hr5.cell 0
        rw [hsp] at q5
        have q5' : w5.cell? ⟨p, 0, none⟩ = some (.string ⟨#[]⟩) := q5
        have hl5 : LAt w5 (fun q => w2.heap.size ≤ q ∧ q < w5.heap.size) 16 t.kids (.slice A n c) := (HLY.out.keep (fun q hq => (hg5.block q (by rw [World.size_alloc]; have := hq.2; omega) (fun e => by injection e with e; have := hq.1; have := hr2.lt; omega)).trans (Below.heap_alloc _ _ _ hq.2))).mono (fun q hq => ⟨hq.1, by rw [World.size_alloc] at hz5; have := hq.2; omega⟩)
        have hRC := HRG.out w5 w5.heap.size (.slice A n c) (hl5.mono (fun q hq => hq.2)) hot (Nat.le_refl _) hg6
        have HL5 := Lib.hid hl5
        have HOT := Lib.hid hot
        rw [HO3.out] at hRC
        unfold nodeV at hRC
        simp only [] at hRC
        have HRC := Lib.hid hRC
        clear hl5 hRC q5 hot
        go_wp2_with (refine wpList_load_row rfl 27 (.tmp 4) rfl (w3.heap.size) rfl 27 _ (0, 0) _ hx5 Tryz.underlying27 rfl (by kernel_rfl) ?_)
        refine HRC.out.mono ?_
        rintro x w7 ⟨rfl, hb7⟩
        have hk7 := hk5.below hb7 hk5.lt
        have hx7 := hx5.below hb7 hx5.lt
        have hr7 := hr5.below hb7 hr5.lt
        have hg7 := grown_of hg6 hb7
        go_wp2_with (first | (refine wpList_load_row rfl 27 (.tmp 4) rfl (w3.heap.size) rfl 27 _ (0, 0) _ hx7 Tryz.underlying27 rfl (by kernel_rfl) ?_) | (refine wpList_store_row rfl 27 (.tmp 2) (.tmp 33) rfl (w.heap.size) #[.int .i64 kind3, .bool b3, .bool neg3, .string dg3, .int .i64 ex3, .int .u64 u3, .int .i64 wd3, .string s3, .slice A n c] rfl rfl 27 _ hk7 (by kernel_rfl) rfl (by simp [Value.oneCell']) ?_))
        refine bodyPost_ret (results_cell (T := 27) rfl rfl rfl (blk_row hk7 _) Tryz.underlying27 rfl (by kernel_rfl)) rfl ?_
        refine ⟨grown_at hg7 (grown_row _ _ _) (by omega), ⟨A, n, c, by rw [HO3.out]; rfl, ?_⟩, HOT.out, blk_row_other (by rw [← hsp]; exact hr7) (by omega) _, by simp⟩
        refine (((HL5.out.keep (W' := w7) (fun q hq => hb7.block q hq.2)).keep (W' := w7.setRow w.heap.size #[.int .i64 kind3, .bool b3, .bool neg3, .string dg3, .int .i64 ex3, .int .u64 u3, .int .i64 wd3, .string s3, .slice A n c]) (fun q hq => setRow_other _ _ _ _ (by have := hq.1; omega))).mono (fun q hq => ?_))
        rw [setRow_size]
        exact ⟨by have := hq.1; omega, by have := hq.2; have := hb7.size; omega⟩
      · rw [if_neg hrt]
        rw [Bool.not_eq_true] at hrt
        rw [hrt] at HRG
        go_enter Tryz.func39, Tryz.ntmps39
        go_wp2_with fail
        refine (HS.out s _ hr1 (by omega)).mono ?_
        rintro x w2 ⟨⟨v2, rfl⟩, hg2, hr2⟩
        have hk2 := blk_gb hk1 hg2 (by omega)
        have hgA := grown_trans (below_grown hb1 (some p)) hg2
        have HVV := HV.out w2 hgA hr2
        go_wp2_with fail
        refine HVV.mono ?_
        rintro x w3 ⟨hg3, ⟨A, n, c, rfl, hly⟩, hot, hr3, hs3⟩
        have hk3 := blk_gb hk2 hg3 (by omega)
        have hk4 := hk3.alloc (.cells #[.int .i64 kind3, .bool b3, .bool neg3, .string dg3, .int .i64 ex3, .int .u64 u3, .int .i64 wd3, .string s3, .slice A n c] 27)
        have hx4 := Blk.new w3 #[.int .i64 kind3, .bool b3, .bool neg3, .string dg3, .int .i64 ex3, .int .u64 u3, .int .i64 wd3, .string s3, .slice A n c] 27
        have hr4 := hr3.alloc (.cells #[.int .i64 kind3, .bool b3, .bool neg3, .string dg3, .int .i64 ex3, .int .u64 u3, .int .i64 wd3, .string s3, .slice A n c] 27)
        have hgB := grown_trans hgA hg3
        have hg4 : w.grownBy (w3.alloc (.cells #[.int .i64 kind3, .bool b3, .bool neg3, .string dg3, .int .i64 ex3, .int .u64 u3, .int .i64 wd3, .string s3, .slice A n c] 27)) (some p) := grown_of hgB ((Below.refl _ _).alloc (Nat.le_refl _) _)
        have hz2 := hg2.size
        have hz3 := hg3.size
        have HLY := Lib.hid hly
        clear hly
        go_wp2_with fail
        refine (HS.out (bsD r) _ hr4 (by rw [bsD_size]; omega)).mono ?_
        rintro x w5 ⟨⟨v5, rfl⟩, hg5, hr5⟩
        rw [bsD_list] at hr5
        have hk5 := blk_gb hk4 hg5 (by omega)
        have hx5 := blk_gb hx4 hg5 (by have := hr3.lt; omega)
        have hg6 := grown_trans hg4 hg5
        have hz5 := hg5.size
        have q5 := hr5.cell 0
        rw [hsp] at q5
        have q5' : w5.cell? ⟨p, 0, none⟩ = some (.string ⟨#[]⟩) := q5
        have hl5 : LAt w5 (fun q => w2.heap.size ≤ q ∧ q < w5.heap.size) 16 t.kids (.slice A n c) := (HLY.out.keep (fun q hq => (hg5.block q (by rw [World.size_alloc]; have := hq.2; omega) (fun e => by injection e with e; have := hq.1; have := hr2.lt; omega)).trans (Below.heap_alloc _ _ _ hq.2))).mono (fun q hq => ⟨hq.1, by rw [World.size_alloc] at hz5; have := hq.2; omega⟩)
        have hRC := HRG.out w5 w5.heap.size (.slice A n c) (hl5.mono (fun q hq => hq.2)) hot (Nat.le_refl _) hg6
        have HL5 := Lib.hid hl5
        have HOT := Lib.hid hot
        rw [HO3.out] at hRC
        unfold nodeV at hRC
        simp only [] at hRC
        have HRC := Lib.hid hRC
        clear hl5 hRC q5 hot
        go_wp2_with (refine wpList_load_row rfl 27 (.tmp 4) rfl (w3.heap.size) rfl 27 _ (0, 0) _ hx5 Tryz.underlying27 rfl (by kernel_rfl) ?_)
        refine HRC.out.mono ?_
        rintro x w7 ⟨rfl, hb7⟩
        have hk7 := hk5.below hb7 hk5.lt
        have hx7 := hx5.below hb7 hx5.lt
        have hr7 := hr5.below hb7 hr5.lt
        have hg7 := grown_of hg6 hb7
        go_wp2_with (refine wpList_store_row rfl 27 (.tmp 2) (.tmp 30) rfl (w.heap.size) zeroC rfl rfl 27 _ hk7 (by kernel_rfl) rfl (by simp [Value.oneCell']) ?_)
        refine bodyPost_ret (results_cell (T := 27) rfl rfl rfl (blk_row hk7 zeroC) Tryz.underlying27 rfl (by kernel_rfl)) rfl ?_
        exact ⟨grown_at hg7 (grown_row _ _ _) (by omega), ⟨rfl, .inl rfl⟩, _, 0, blk_row_other hr7 (by omega) _, by rw [bsD_size]; omega⟩
    · rw [if_pos hsp]
      have z := str_isB hsp
      obtain ⟨sb, hsb⟩ : ∃ x, bsD (spJ r) = x := ⟨_, rfl⟩
      have hsz : sb.size ≤ s.size := by rw [← hsb, bsD_size]; omega
      rw [hsb] at z
      have HSZ := Lib.hid hsz
      have HSB := Lib.hid hsb
      clear HG hsp hsb hsz
      go_enter Tryz.func39, Tryz.ntmps39
      go_wp2_with fail
      refine (HS.out s _ hr1 (by omega)).mono ?_
      rintro x w2 ⟨⟨v2, rfl⟩, hg2, hr2⟩
      have hk2 := blk_gb hk1 hg2 (by omega)
      have hgA := grown_trans (below_grown hb1 (some p)) hg2
      have HVV := HV.out w2 hgA hr2
      go_wp2_with fail
      refine HVV.mono ?_
      rintro x w3 ⟨hg3, ⟨A, n, c, rfl, hly⟩, hot, hr3, hs3⟩
      have hk3 := blk_gb hk2 hg3 (by omega)
      have hk4 := hk3.alloc (.cells #[.int .i64 kind3, .bool b3, .bool neg3, .string dg3, .int .i64 ex3, .int .u64 u3, .int .i64 wd3, .string s3, .slice A n c] 27)
      have hx4 := Blk.new w3 #[.int .i64 kind3, .bool b3, .bool neg3, .string dg3, .int .i64 ex3, .int .u64 u3, .int .i64 wd3, .string s3, .slice A n c] 27
      have hr4 := hr3.alloc (.cells #[.int .i64 kind3, .bool b3, .bool neg3, .string dg3, .int .i64 ex3, .int .u64 u3, .int .i64 wd3, .string s3, .slice A n c] 27)
      have hgB := grown_trans hgA hg3
      have hg4 : w.grownBy (w3.alloc (.cells #[.int .i64 kind3, .bool b3, .bool neg3, .string dg3, .int .i64 ex3, .int .u64 u3, .int .i64 wd3, .string s3, .slice A n c] 27)) (some p) := grown_of hgB ((Below.refl _ _).alloc (Nat.le_refl _) _)
      have hz2 := hg2.size
      have hz3 := hg3.size
      have HLY := Lib.hid hly
      clear hly
      go_wp2_with fail
      refine (HS.out (bsD r) _ hr4 (by rw [bsD_size]; omega)).mono ?_
      rintro x w5 ⟨⟨v5, rfl⟩, hg5, hr5⟩
      rw [bsD_list] at hr5
      have hk5 := blk_gb hk4 hg5 (by omega)
      have hx5 := blk_gb hx4 hg5 (by have := hr3.lt; omega)
      have hg6 := grown_trans hg4 hg5
      have hz5 := hg5.size
      have q5 := hr5.cell 0
      rw [HSB.out] at hr5 q5
      go_wp2_with fail
      refine (jr_bad _).mono ?_
      rintro x w8 ⟨rfl, rfl⟩
      go_wp2_with (refine wpList_store_row rfl 27 (.tmp 2) (.tmp 25) rfl (w.heap.size) zeroC rfl rfl 27 _ hk5 (by kernel_rfl) rfl (by simp [Value.oneCell']) ?_)
      refine bodyPost_ret (results_cell (T := 27) rfl rfl rfl (blk_row hk5 zeroC) Tryz.underlying27 rfl (by kernel_rfl)) rfl ?_
      exact ⟨grown_at hg6 (grown_row _ _ _) (by omega), ⟨rfl, .inr rfl⟩, sb, 0, blk_row_other hr5 (by omega) _, HSZ.out⟩
end Go.Proofs.YtfckekaegjjmkaaGreatDoor
