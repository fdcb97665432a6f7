/- The texts JrA, RowC, CrQ, put together. -/
import Derived.Test.YtfckekaegjjmkaaGreatDoorPi16
import Derived.Test.YtfckekaegjjmkaaGreatDoorPi09
import Derived.Test.YtfckekaegjjmkaaGreatDoorPi02
import Derived.Deep.MidRow
import Derived.Test.YtfckekaegjjmkaaGreatDoorPi07
namespace Go.Proofs.YtfckekaegjjmkaaGreatDoor
open Go.RowKit Go.Shelf
attribute [local go_sem] Oper.semAt_some

/-- The reader: what is left, how deep. -/
abbrev RdJ (W : World) (p : Nat) (s : ByteArray) (d : Nat) : Prop := Blk W p #[.string s, .int .i64 d] 60
/-- An error's value. -/
def errJ (e : Int) : Value := .iface 91 (.agg #[.int .i64 e])
theorem jr_bad (w : World) : Calls Tryz.prog 54 #[] w fun x w' => x = .returned (errJ 80) ∧ w' = w := by
  go_enter Tryz.func54, Tryz.ntmps54
  go_wp2_with fail
  go_ret
  exact ⟨rfl, rfl⟩

set_option maxHeartbeats 2000000 in
set_option maxRecDepth 100000 in
theorem jr_isOf (q : Nat) (x : Int) (w : World) (hk : Blk w q #[.int .i32 32, .int .i32 9, .int .i32 10, .int .i32 13] 21) :
    Calls Tryz.prog 112 #[.int .i32 x, .slice (some ⟨q, 0, none⟩) 4 4] w fun e w' => e = .returned (.bool (decide (x = 32 ∨ x = 9 ∨ x = 10 ∨ x = 13))) ∧ w' = w := by
  have z0 := hk.cell 0
  have z1 := hk.cell 1
  have z2 := hk.cell 2
  have z3 := hk.cell 3
  clear hk
  by_cases h0 : x = 32
  · subst h0
    go_enter Tryz.func112, Tryz.ntmps112
    go_wp2_with fail
    refine wp_loop_rounds 1 ?_
    rw [rounds_succ]
    go_wp2_with fail
    go_ret
    exact ⟨rfl, rfl⟩
  by_cases h1 : x = 9
  · subst h1
    go_enter Tryz.func112, Tryz.ntmps112
    go_wp2_with fail
    refine wp_loop_rounds 2 ?_
    rw [rounds_succ]
    go_wp2_with fail
    rw [rounds_succ]
    go_wp2_with fail
    go_ret
    exact ⟨rfl, rfl⟩
  by_cases h2 : x = 10
  · subst h2
    go_enter Tryz.func112, Tryz.ntmps112
    go_wp2_with fail
    refine wp_loop_rounds 3 ?_
    rw [rounds_succ]
    go_wp2_with fail
    rw [rounds_succ]
    go_wp2_with fail
    rw [rounds_succ]
    go_wp2_with fail
    go_ret
    exact ⟨rfl, rfl⟩
  by_cases h3 : x = 13
  · subst h3
    go_enter Tryz.func112, Tryz.ntmps112
    go_wp2_with fail
    refine wp_loop_rounds 4 ?_
    rw [rounds_succ]
    go_wp2_with fail
    rw [rounds_succ]
    go_wp2_with fail
    rw [rounds_succ]
    go_wp2_with fail
    rw [rounds_succ]
    go_wp2_with fail
    go_ret
    exact ⟨rfl, rfl⟩
  have y0 : ((32 : Int) == x) = false := by rw [beq_eq_false_iff_ne]; omega
  have y1 : ((9 : Int) == x) = false := by rw [beq_eq_false_iff_ne]; omega
  have y2 : ((10 : Int) == x) = false := by rw [beq_eq_false_iff_ne]; omega
  have y3 : ((13 : Int) == x) = false := by rw [beq_eq_false_iff_ne]; omega
  rw [decide_eq_false (by omega)]
  clear h0 h1 h2 h3
  go_enter Tryz.func112, Tryz.ntmps112
  go_wp2_with fail
  refine wp_loop_rounds 5 ?_
  rw [rounds_succ]
  go_wp2_with fail
  rw [rounds_succ]
  go_wp2_with fail
  rw [rounds_succ]
  go_wp2_with fail
  rw [rounds_succ]
  go_wp2_with fail
  rw [rounds_succ]
  go_wp2_with fail
  go_ret
  exact ⟨rfl, rfl⟩

theorem spJ_yes {c : UInt8} {l : List UInt8} (h : isSp c = true) : spJ (c :: l) = spJ l := by
  unfold spJ
  rw [List.dropWhile_cons_of_pos h]
theorem spJ_no {c : UInt8} {l : List UInt8} (h : isSp c = false) : spJ (c :: l) = c :: l := by
  unfold spJ
  rw [List.dropWhile_cons_of_neg (by rw [h]; decide)]
theorem rune_sp (b : UInt8) (t : List UInt8) (h : isSp b = true) : Lib.decodeL (b :: t) = (b.toNat, 1) ∧ (b.toNat = 32 ∨ b.toNat = 9 ∨ b.toNat = 10 ∨ b.toNat = 13) := by
  unfold isSp at h
  simp only [Bool.or_eq_true, beq_iff_eq] at h
  have h2 : b.toNat = 32 ∨ b.toNat = 9 ∨ b.toNat = 10 ∨ b.toNat = 13 := by
    rcases h with ((h | h) | h) | h <;> rw [h] <;> decide
  exact ⟨Lib.decodeL_ascii b t (by omega), h2⟩
theorem rune_nosp (b : UInt8) (t : List UInt8) (h : isSp b = false) : ¬ ((Lib.decodeL (b :: t)).1 = 32 ∨ (Lib.decodeL (b :: t)).1 = 9 ∨ (Lib.decodeL (b :: t)).1 = 10 ∨ (Lib.decodeL (b :: t)).1 = 13) := by
  by_cases hb : b.toNat < 128
  · rw [Lib.decodeL_ascii b t hb]
    simp only
    intro hx
    have e : ∀ k : UInt8, b.toNat = k.toNat → b = k := fun k hk => UInt8.toNat_inj.1 hk
    rcases hx with hx | hx | hx | hx
    · rw [e 32 hx] at h; cases h
    · rw [e 9 hx] at h; cases h
    · rw [e 10 hx] at h; cases h
    · rw [e 13 hx] at h; cases h
  · have := decodeL_highR t (by omega : 128 ≤ b.toNat)
    omega

set_option maxHeartbeats 4000000 in
set_option maxRecDepth 100000 in
theorem jr_Space (s : ByteArray) (hs : s.size ≤ 1000000000) (w : World) :
    Calls Tryz.prog 74 #[.string s] w fun e w' => e = .returned (.string (bsD (spJ s.data.toList))) ∧ Below w.heap.size w w' := by
  obtain ⟨res, hres⟩ : ∃ r, bsD (spJ s.data.toList) = r := ⟨_, rfl⟩
  rw [hres]
  have HRES := Lib.hid hres
  have HO := Lib.hid jr_isOf
  clear hres
  go_enter Tryz.func74, Tryz.ntmps74
  go_wp2_with fail
  go_step3
  go_wp2_with fail
  go_step3
  go_wp2_with fail
  go_loopw [3] (fun v wr => v = .int .i64 s.size ∧ ∃ k : Nat, k ≤ s.size ∧ wr.heap[w.heap.size]? = some (.stringIter s k) ∧ Below w.heap.size w wr ∧ Hid (spJ s.data.toList = spJ (s.data.toList.drop k))) (fun _ wr => s.size - wr.iterPos w.heap.size)
  case atStart => exact ⟨rfl, 0, by omega, World.iter_heap w s 0, (Below.refl _ w).alloc (Nat.le_refl _) _, Lib.hid (by rw [List.drop_zero])⟩
  case round =>
    obtain ⟨rfl, k, hk, hit, hbw, hd⟩ := hrel
    have hsz : w.heap.size < wr.heap.size := (Array.getElem?_eq_some_iff.1 hit).1
    have hlen : s.data.toList.length = s.size := by simp
    by_cases hp : k < s.size
    · have hnx : ∀ ty, (Instr.next (.pointer (some ⟨w.heap.size, 0, none⟩)) true ty).run Tryz.prog wr = _ := fun ty => Lib.run_next_any_at wr w.heap.size s k ty hit hp
      have hdl := Lib.decodeL_drop s k
      rw [← hdl] at hnx
      have hdr := List.drop_eq_getElem_cons (l := s.data.toList) (i := k) (by rw [hlen]; exact hp)
      obtain ⟨b, hb⟩ : ∃ b, s.data.toList[k]'(by rw [hlen]; exact hp) = b := ⟨_, rfl⟩
      rw [hb] at hdr
      rw [hdr] at hnx
      have hit2 := Lib.iterAt_heap wr w.heap.size s k (k + (Lib.decodeL (b :: s.data.toList.drop (k + 1))).2) hit
      have hbw2 := Lib.below_iterAt hbw (k := w.heap.size) (Nat.le_refl _) s (k + (Lib.decodeL (b :: s.data.toList.drop (k + 1))).2)
      cases hg : isSp b with
      | true =>
        obtain ⟨h1, h2⟩ := rune_sp b (s.data.toList.drop (k + 1)) hg
        have hd2 := hd.out
        rw [hdr, spJ_yes hg] at hd2
        have HD := Lib.hid hd2
        rw [h1] at hnx hit2 hbw2
        simp only [] at hnx hit2 hbw2
        obtain ⟨c, hc⟩ : ∃ c, b.toNat = c := ⟨_, rfl⟩
        rw [hc] at hnx h2
        have HI : Hid (∀ (q : Nat) (w : World), Blk w q #[.int .i32 32, .int .i32 9, .int .i32 10, .int .i32 13] 21 → Calls Tryz.prog 112 #[.int .i32 (c : Int), .slice (some ⟨q, 0, none⟩) 4 4] w fun e w' => e = .returned (.bool true) ∧ w' = w) := Lib.hid (fun q w h => by
          have := HO.out q (c : Int) w h
          rw [decide_eq_true (by omega)] at this
          exact this)
        have HIT := Lib.hid hit
        clear hdl hdr hb hg h1 hd hd2 hc h2 hlen hit HO
        generalize wr.iterAt w.heap.size s (k + 1) = W at hnx hit2 hbw2
        have hit3 := hit2
        go_wp2_with fail
        refine (HI.out _ _ (Blk.new W _ _)).mono ?_
        rintro e w2 ⟨rfl, rfl⟩
        have hit4 : (W.alloc (.cells #[.int .i32 32, .int .i32 9, .int .i32 10, .int .i32 13] 21)).heap[w.heap.size]? = some (.stringIter s (k + 1)) := (Below.heap_alloc _ _ _ (by exact (Array.getElem?_eq_some_iff.1 hit2).1)).trans hit2
        have hbw3 := hbw2.alloc (by have := (Array.getElem?_eq_some_iff.1 hit2).1; omega) (.cells #[.int .i32 32, .int .i32 9, .int .i32 10, .int .i32 13] 21)
        go_wp2_with fail
        go_roundw
        case rel => exact ⟨rfl, k + 1, by omega, hit4, hbw3, HD⟩
        case measure =>
          simp only [World.iterPos, hit4, HIT.out]
          omega
      | false =>
        have hr := rune_nosp b (s.data.toList.drop (k + 1)) hg
        have hd2 := hd.out
        rw [hdr, spJ_no hg, ← hdr] at hd2
        have hex : s.extract k s.size = res := by
          rw [← HRES.out, hd2]
          unfold bsD
          apply ByteArray.ext
          apply Array.toList_inj.1
          have : (s.extract k s.size).data.toList = (s.data.toList.drop k).take (s.size - k) := by simp [ByteArray.data_extract]
          rw [this, List.take_of_length_le (by rw [List.length_drop]; omega)]
        have HEX := Lib.hid hex
        obtain ⟨⟨c, wd⟩, hck⟩ : ∃ ck, Lib.decodeL (b :: s.data.toList.drop (k + 1)) = ck := ⟨_, rfl⟩
        rw [hck] at hnx hit2 hbw2 hr
        simp only [] at hnx hit2 hbw2 hr
        have HI : Hid (∀ (q : Nat) (w : World), Blk w q #[.int .i32 32, .int .i32 9, .int .i32 10, .int .i32 13] 21 → Calls Tryz.prog 112 #[.int .i32 (c : Int), .slice (some ⟨q, 0, none⟩) 4 4] w fun e w' => e = .returned (.bool false) ∧ w' = w) := Lib.hid (fun q w h => by
          have := HO.out q (c : Int) w h
          rw [decide_eq_false (by omega)] at this
          exact this)
        clear hdl hdr hb hg hd hd2 hck hlen hit HO hex hr HRES
        generalize wr.iterAt w.heap.size s (k + wd) = W at hnx hit2 hbw2
        have z1 : (k : Int) ≤ s.size := by omega
        go_wp2_with fail
        refine (HI.out _ _ (Blk.new W _ _)).mono ?_
        rintro e w2 ⟨rfl, rfl⟩
        have hbw3 := hbw2.alloc (by have := (Array.getElem?_eq_some_iff.1 hit2).1; omega) (.cells #[.int .i32 32, .int .i32 9, .int .i32 10, .int .i32 13] 21)
        go_wp2_with fail
        rw [Exit.noGoto_ret, HEX.out]
        go_ret
        exact ⟨rfl, hbw3⟩
    · have hnx : ∀ ty, (Instr.next (.pointer (some ⟨w.heap.size, 0, none⟩)) true ty).run Tryz.prog wr = _ := fun ty => Lib.run_next_end_at wr w.heap.size s k ty hit hp
      have hd2 := hd.out
      rw [List.drop_eq_nil_of_le (by rw [hlen]; omega)] at hd2
      have hex : s.extract s.size s.size = res := by
        rw [← HRES.out, hd2]
        apply ByteArray.ext
        apply Array.toList_inj.1
        simp [spJ, bsD]
      have HEX := Lib.hid hex
      clear hd hd2 hlen hex HRES HO
      have z1 : (s.size : Int) ≤ s.size := by omega
      go_wp2_with fail
      rw [Exit.noGoto_ret]
      go_ret
      refine ⟨?_, hbw⟩
      have h0 : s.extract s.size s.size = ⟨#[]⟩ := by
        apply ByteArray.ext
        apply Array.toList_inj.1
        simp
      rw [← HEX.out, h0]
      first | rfl | simp

set_option maxHeartbeats 2000000 in
set_option maxRecDepth 100000 in
theorem jr_space (p d : Nat) (s : ByteArray) (w : World) (hR : RdJ w p s d) (hs : s.size ≤ 1000000000) :
    Calls Tryz.prog 52 #[.pointer (some ⟨p, 0, none⟩)] w fun e w' => (∃ v, e = .returned v) ∧ w.grownBy w' (some p) ∧ RdJ w' p (bsD (spJ s.data.toList)) d := by
  have HS := Lib.hid (fun w => jr_Space s hs w)
  obtain ⟨res, hres⟩ : ∃ r, bsD (spJ s.data.toList) = r := ⟨_, rfl⟩
  simp only [hres] at HS ⊢
  have c0 := hR.cell 0
  clear hres
  go_enter Tryz.func52, Tryz.ntmps52
  go_wp2_with fail
  refine (HS.out _).mono ?_
  rintro e w2 ⟨rfl, hb⟩
  have hr2 := hR.below hb hR.lt
  have f0 := hr2.frozen 0
  have q0 := hr2.cell 0
  clear c0
  go_wp2_with fail
  refine bodyPost_end (results_none rfl _ _ _) rfl ?_
  exact ⟨⟨_, rfl⟩, grown_trans (below_grown hb _) (grown_set w2 p 0 _), hr2.set 0 _⟩

/-- A word taken off. -/
def takeJ (v l : List UInt8) : Bool × List UInt8 := if l.take v.length = v then (true, l.drop v.length) else (false, l)
theorem cut_take (v l : List UInt8) : Lib.hasPrefix l v = (takeJ v l).1 ∧ Lib.trimPrefix l v = (takeJ v l).2 := by
  have h : Lib.hasPrefix l v = decide (l.take v.length = v) := by
    unfold Lib.hasPrefix
    rw [Bool.eq_iff_iff, decide_eq_true_iff, List.isPrefixOf_iff_prefix, List.prefix_iff_eq_take]
    exact eq_comm
  unfold takeJ
  by_cases ht : l.take v.length = v
  · rw [if_pos ht, h, decide_eq_true ht]
    refine ⟨rfl, ?_⟩
    unfold Lib.trimPrefix
    rw [h, decide_eq_true ht]
    rfl
  · rw [if_neg ht, h, decide_eq_false ht]
    refine ⟨rfl, ?_⟩
    unfold Lib.trimPrefix
    rw [h, decide_eq_false ht]
    rfl
set_option maxHeartbeats 2000000 in
set_option maxRecDepth 100000 in
theorem jr_take (p d : Nat) (s v : ByteArray) (w : World) (hR : RdJ w p s d) :
    Calls Tryz.prog 182 #[.pointer (some ⟨p, 0, none⟩), .string v] w fun e w' => e = .returned (.bool (takeJ v.data.toList s.data.toList).1) ∧ w.grownBy w' (some p) ∧ RdJ w' p (bsD (takeJ v.data.toList s.data.toList).2) d := by
  have HC := Lib.hid (fun w => Tryz.strings_CutPrefix s v w)
  obtain ⟨h1, h2⟩ := cut_take v.data.toList s.data.toList
  simp only [h1, h2] at HC
  obtain ⟨⟨b, r⟩, hx⟩ : ∃ x, takeJ v.data.toList s.data.toList = x := ⟨_, rfl⟩
  simp only [hx] at HC ⊢
  have HC : Hid (∀ w : World, Calls Tryz.prog 212 #[.string s, .string v] w fun e w' => e = .returned (.tuple #[.string (bsD r), .bool b]) ∧ w' = w) := HC
  obtain ⟨rb, hrb⟩ : ∃ x, bsD r = x := ⟨_, rfl⟩
  simp only [hrb] at HC ⊢
  have c0 := hR.cell 0
  have f0 := hR.frozen 0
  clear h1 h2 hx hrb
  go_enter Tryz.func182, Tryz.ntmps182
  go_wp2_with fail
  refine (HC.out _).mono ?_
  rintro e w2 ⟨rfl, rfl⟩
  go_wp2_with fail
  go_ret
  exact ⟨rfl, grown_set _ p 0 _, hR.set 0 _⟩
end Go.Proofs.YtfckekaegjjmkaaGreatDoor
namespace Go.Proofs.YtfckekaegjjmkaaGreatDoor
open Go.RowKit Go.Shelf

def bs (l : List UInt8) : ByteArray := ⟨l.toArray⟩
theorem grown_drew (w : World) (r : Option Nat) (n : Nat) : w.grownBy (w.drewN n) r := ⟨rfl, rfl, rfl, Nat.le_refl _, fun _ _ _ => rfl⟩

theorem grown_at {A B C : World} {p q : Nat} (h : A.grownBy B (some p)) (k : B.grownBy C (some q)) (hq : A.heap.size ≤ q) : A.grownBy C (some p) :=
  ⟨k.os.trans h.os, k.tape.trans h.tape, k.output.trans h.output, Nat.le_trans h.size k.size, fun i hi hr => (k.block i (Nat.lt_of_lt_of_le hi h.size) (fun e => by injection e with e; omega)).trans (h.block i hi hr)⟩
theorem grown_of {A B C : World} {r : Option Nat} (h : A.grownBy B r) (k : Below B.heap.size B C) : A.grownBy C r := grown_trans h (below_grown k r)

theorem below_of_grown {w0 w w' : World} {p : Nat} (hb : Below w0.heap.size w0 w) (hp : w0.heap.size ≤ p) (hlt : p < w.heap.size) (hg : w.grownBy w' (some p)) : Below w0.heap.size w0 w' := hb.trans (grown_below hg hp hlt)

theorem LAt.keptC {W W' : World} {S : Nat → Prop} {row : Option Nat} (hg : W.grownBy W' row) (hrow : ∀ r, row = some r → ∃ o : Obj, W.heap[r]? = some o ∧ o.isCells = false) : ∀ {d : Nat} {l : List Tr} {v : Value}, LAt W S d l v → LAt W' S d l v
  | 0, _, _, h => h
  | d + 1, l, v, ⟨A, c, hv, hl, h⟩ => ⟨A, c, hv, hl, fun i hi => by
      obtain ⟨a, x, ha, hs, ho, hc, hkk⟩ := h i hi
      exact ⟨a, x, ha, hs, ho, fun j u hu => cell_kept (hc j u hu) hg hrow, hkk.keptC hg hrow⟩⟩
theorem RowT.keptC {W W' : World} {S : Nat → Prop} {row : Option Nat} (hg : W.grownBy W' row) (hrow : ∀ r, row = some r → ∃ o : Obj, W.heap[r]? = some o ∧ o.isCells = false) {d : Nat} : ∀ {l : List Tr} {xs : List Value}, RowT W S d l xs → RowT W' S d l xs
  | [], _, h => h
  | _ :: _, _, ⟨y, r, hx, ho, hl, h⟩ => ⟨y, r, hx, ho, hl.keptC hg hrow, h.keptC hg hrow⟩
theorem row_cells {W : World} {base size n : Nat} {e : TypeId} {v : Value} {xs : List Value} (h : W.ownsRow base e size v n xs) {g : Nat} (hg : v.ownBlock = some g) : ∃ o : Obj, W.heap[g]? = some o ∧ o.isCells = true := by
  rcases h.2 with ⟨rfl, _⟩ | ⟨g', cap, cur, rfl, _, hh, _⟩
  · cases hg
  · have : g' = g := by simpa [Value.ownBlock] using hg
    subst this
    exact ⟨_, hh, rfl⟩
theorem row_keptC {W W' : World} {row : Option Nat} {base size n : Nat} {e : TypeId} {v : Value} {xs : List Value} (h : W.ownsRow base e size v n xs) (hg : W.grownBy W' row) (hr : ∀ r, row = some r → ∃ o : Obj, W.heap[r]? = some o ∧ o.isCells = false) : W'.ownsRow base e size v n xs :=
  h.kept hg (by
    cases hv : v.ownBlock with
    | none => exact .inl rfl
    | some g =>
      refine .inr (fun e => ?_)
      obtain ⟨o, ho, hc⟩ := row_cells h hv
      obtain ⟨o', ho', hc'⟩ := hr g e.symm
      rw [ho] at ho'
      cases ho'
      rw [hc] at hc'
      cases hc')
theorem row_there {w : World} {base n cap g : Nat} {e : TypeId} {xs : List Value} (h : w.ownsRow base e 9 (.slice (some ⟨g, 0, none⟩) (n + 1) cap) (n + 1) xs) : w.there g (n * 9) 9 := by
  rcases h.2 with ⟨h2, _⟩ | ⟨g', cap', cur, hv, hb, hh, hn, hc, hs, ht⟩
  · cases h2
  · injection hv with hv _ hv2
    injection hv with hv
    injection hv with hv
    subst hv hv2
    have hk : Blk w g cur e := hh
    intro j hj
    have hlt : n * 9 + j < cur.size := by rw [hs]; omega
    refine ⟨?_, hk.frozen _⟩
    rw [hk.cell (n * 9 + j), Array.getElem?_eq_getElem hlt]
    rfl
theorem blk_at {W : World} {k : Nat} (h : W.heap.size = k) (cs : Array Value) (t : TypeId) : Blk (W.alloc (.cells cs t)) k cs t := h ▸ Blk.new W cs t
theorem grown_refl (w : World) (r : Option Nat) : w.grownBy w r := ⟨rfl, rfl, rfl, Nat.le_refl _, fun _ _ _ => rfl⟩
theorem grown_C {A B C : World} {p : Nat} {row : Option Nat} (h : A.grownBy B (some p)) (k : B.grownBy C row) {n : Nat} (hn : A.heap.size ≤ n) (hr : ∀ r, row = some r → n ≤ r) : A.grownBy C (some p) :=
  ⟨k.os.trans h.os, k.tape.trans h.tape, k.output.trans h.output, Nat.le_trans h.size k.size, fun i hi hp => (k.block i (Nat.lt_of_lt_of_le hi h.size) (fun e => by have := hr i e.symm; omega)).trans (h.block i hi hp)⟩

theorem blkC {W W' : World} {b : Nat} {cs : Array Value} {t : TypeId} (h : Blk W b cs t) {row : Option Nat} (hg : W.grownBy W' row) (hr : ∀ r, row = some r → ∃ o : Obj, W.heap[r]? = some o ∧ o.isCells = false) : Blk W' b cs t :=
  blk_own (β := Unit) b t (fun _ => cs) () W W' row h hg hr
theorem own_u (k : Int) (u : Nat) (wd : Int) (hk : 0 ≤ k ∧ k ≤ 100) (hu : u < 18446744073709551616) (hw : 0 ≤ wd ∧ wd ≤ 100) : OwnOk { zeroO with kind := k, u := (u : Int), wd := wd } :=
  ⟨by show (0 : Nat) ≤ _; omega, by show (0 : Nat) ≤ _; omega, by show _ ≤ k ∧ k < _; omega, by show _ ≤ (0 : Int) ∧ (0 : Int) < _; omega, by show (0 : Int) ≤ (u : Int) ∧ (u : Int) < _; omega, by show _ ≤ wd ∧ wd < _; omega⟩

theorem own_n {n : Bool} {g : ByteArray} {e : Int} (h : decOk n g e = true) : OwnOk { zeroO with kind := 3, neg := n, dg := g, ex := e } := by
  unfold decOk at h
  rw [Bool.and_eq_true, Bool.and_eq_true, decide_eq_true_iff] at h
  obtain ⟨_, h2, h3⟩ := h
  have he : -100 ≤ e ∧ e ≤ 100 := by
    split at h3
    · rw [Bool.and_eq_true, decide_eq_true_iff] at h3
      omega
    · rw [Bool.and_eq_true, Bool.and_eq_true, decide_eq_true_iff, decide_eq_true_iff] at h3
      exact ⟨h3.1, h3.2.1⟩
  exact ⟨by show g.size ≤ _; omega, by show (0 : Nat) ≤ _; omega, by show _ ≤ (3 : Int) ∧ (3 : Int) < _; omega, by show _ ≤ e ∧ e < _; omega, by show (0 : Int) ≤ (0 : Int) ∧ (0 : Int) < _; omega, by show _ ≤ (0 : Int) ∧ (0 : Int) < _; omega⟩
theorem blk_gb {W W' : World} {p q : Nat} {cs : Array Value} {t : TypeId} (h : Blk W q cs t) (hg : W.grownBy W' (some p)) (hne : q ≠ p) : Blk W' q cs t := (hg.block q h.lt (fun e => hne (by injection e))).trans h
end Go.Proofs.YtfckekaegjjmkaaGreatDoor
namespace Go.Proofs.YtfckekaegjjmkaaGreatDoor
open Go.RowKit Go.Shelf

theorem set_at (l : List Value) (o : Nat) (v : Value) (h : o < l.length) : l.set o v = l.take o ++ v :: l.drop (o + 1) := by
  rw [List.set_eq_take_append_cons_drop, if_pos h]
theorem cells_set (g : Nat) (e : TypeId) : ∀ (vs : List Value) (o : Nat) (w : World) (cur : Array Value), w.heap[g]? = some (.cells cur e (0, 0)) → o + vs.length ≤ cur.size →
    ∃ cur' : Array Value, (w.setCells g o vs).heap[g]? = some (.cells cur' e (0, 0)) ∧ cur'.toList = cur.toList.take o ++ vs ++ cur.toList.drop (o + vs.length)
  | [], o, w, cur, h, _ => ⟨cur, h, by simp⟩
  | v :: r, o, w, cur, h, hl => by
    rw [List.length_cons] at hl
    have hb : Blk w g cur e := h
    have h1 : (w.setCell ⟨g, o, none⟩ v).heap[g]? = some (.cells (cur.setIfInBounds o v) e (0, 0)) := hb.set o v
    obtain ⟨cur', h2, h3⟩ := cells_set g e r (o + 1) _ (cur.setIfInBounds o v) h1 (by simp; omega)
    refine ⟨cur', h2, ?_⟩
    have ho : o < cur.toList.length := by simp; omega
    rw [h3, Array.toList_setIfInBounds, set_at _ _ _ ho, List.length_cons]
    have e1 : (cur.toList.take o ++ v :: cur.toList.drop (o + 1)).take (o + 1) = cur.toList.take o ++ [v] := by
      rw [List.take_append, List.take_of_length_le (by simp; omega)]
      simp
      rw [show o + 1 - min o cur.size = 1 by omega]
      rfl
    have e2 : (cur.toList.take o ++ v :: cur.toList.drop (o + 1)).drop (o + 1 + r.length) = cur.toList.drop (o + (r.length + 1)) := by
      rw [List.drop_append, List.drop_eq_nil_of_le (by simp; omega), List.nil_append]
      rw [show o + 1 + r.length - (cur.toList.take o).length = r.length + 1 by simp; omega, List.drop_succ_cons, List.drop_drop]
      congr 1
      omega
    rw [e1, e2]
    simp
/-- The last element of an owned row, written anew. -/
theorem row_setLast {w : World} {base n cap g : Nat} {e : TypeId} {xs zs ys : List Value} (h : w.ownsRow base e 9 (.slice (some ⟨g, 0, none⟩) (n + 1) cap) (n + 1) (xs ++ zs)) (hx : xs.length = n * 9) (hy : ys.length = 9) :
    (w.setCells g (n * 9) ys).ownsRow base e 9 (.slice (some ⟨g, 0, none⟩) (n + 1) cap) (n + 1) (xs ++ ys) := by
  obtain ⟨h1, h2⟩ := h
  rcases h2 with ⟨h2, _⟩ | ⟨g', cap', cur, hv, hb, hh, hn, hc, hs, ht⟩
  · cases h2
  · injection hv with hv _ hv2
    injection hv with hv
    injection hv with hv
    subst hv hv2
    obtain ⟨cur', k1, k2⟩ := cells_set g e ys (n * 9) w cur hh (by rw [hy, hs]; omega)
    have hsz : cur.toList.length = cap * 9 := by simpa using hs
    refine ⟨by rw [List.length_append, hx, hy]; omega, .inr ⟨g, cap, cur', rfl, hb, k1, hn, hc, ?_, ?_⟩⟩
    · have := congrArg List.length k2
      rw [List.length_append, List.length_append, List.length_take, List.length_drop, hy] at this
      have h3 : cur'.toList.length = cur'.size := by simp
      omega
    · have hp : cur.toList.take (n * 9) = xs := by
        have := congrArg (List.take (n * 9)) ht
        rw [List.take_take, Nat.min_eq_left (by omega), List.take_append_of_le_length (by omega), ← hx, List.take_length, hx] at this
        exact this
      rw [k2, hp, List.take_append_of_le_length (by rw [List.length_append, hx, hy]; omega), List.take_of_length_le (by rw [List.length_append, hx, hy]; omega)]
end Go.Proofs.YtfckekaegjjmkaaGreatDoor
