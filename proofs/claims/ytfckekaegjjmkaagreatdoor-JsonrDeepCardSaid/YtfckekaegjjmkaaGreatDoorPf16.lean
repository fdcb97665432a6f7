/- The texts Fit, Psr, JsB, JrA, put together. -/
import Derived.Test.YtfckekaegjjmkaaGreatDoorPf09
import Derived.Test.YtfckekaegjjmkaaGreatDoorPf01
import Derived.Test.YtfckekaegjjmkaaGreatDoorPf15
namespace Go.Proofs.YtfckekaegjjmkaaGreatDoor
open Go.RowKit Go.Shelf

/-- May a node be a key of a form? -/
def keyO (f : Int) (o : Own) : Bool :=
  if o.kind = 5 then true else if f = 1 then false else if o.kind = 3 then (toIntD o.neg o.dg o.ex).isSome else decide (o.kind = 6) || (decide (o.kind = 2) || decide (o.kind = 1))
/-- Are all keys of a list such? -/
def keysFit (f : Int) : List Tr → Bool
  | [] => true
  | [k] => keyO f k.own
  | k :: _ :: r => keyO f k.own && keysFit f r
def whole63 (r : Option (Bool × Nat)) : Bool := match r with
  | some (neg, k) => !neg || decide (k ≤ 9223372036854775808)
  | none => false
/-- Does a node fit a form? (fl: does a float?) -/
def fitO (f : Int) (fl : Own → Bool) (o : Own) (l : List Tr) : Bool :=
  if o.kind = 4 then fl o
  else if o.kind = 3 then decide (f = 1) || (((decide (f = 2) || decide (f = 3)) && (toIntD o.neg o.dg o.ex).isSome) || (decide (f = 4) && whole63 (toIntD o.neg o.dg o.ex)))
  else if o.kind = 6 then decide (f = 2) || (decide (f = 3) || decide (f = 4))
  else if o.kind = 9 ∨ o.kind = 10 then decide (f = 2) || decide (f = 3)
  else if o.kind = 11 then decide (f = 4)
  else if o.kind = 8 then (decide (f = 1) || (decide (f = 2) || (decide (f = 3) || decide (f = 4)))) && keysFit f l
  else decide (f = 1) || (decide (f = 2) || (decide (f = 3) || decide (f = 4)))
mutual
/-- Do all nodes? -/
def fitT (f : Int) (fl : Own → Bool) : Tr → Bool
  | .nd o l => fitO f fl o l && fitL f fl l
def fitL (f : Int) (fl : Own → Bool) : List Tr → Bool
  | [] => true
  | t :: l => fitT f fl t && fitL f fl l
end
/-- What is wrong with a tree: 60, no tree; 61, not of the form; 0, nothing. -/
noncomputable def checkT (f : Int) (fl : Own → Bool) (t : Tr) : Int := if rightT t = true then (if fitT f fl t = true then 0 else 61) else 60
/-- Floats fit CBOR. -/
def flC (_ : Own) : Bool := true
end Go.Proofs.YtfckekaegjjmkaaGreatDoor
namespace Go.Proofs.YtfckekaegjjmkaaGreatDoor
open Go.RowKit Go.Shelf

/-- What a parser tells: a value and what is left, or what is wrong. -/
inductive PR (α : Type) where
  | good (a : α) (r : List UInt8)
  | bad (e : Int)
abbrev Psr (α : Type) := List UInt8 → PR α
def bindP {α β : Type} (p : Psr α) (f : α → Psr β) : Psr β := fun l => match p l with
  | .good a r => f a r
  | .bad e => .bad e
def pureP {α : Type} (a : α) : Psr α := fun l => .good a l

theorem bindP_good {α β : Type} {p : Psr α} {f : α → Psr β} {l r : List UInt8} {b : β} (h : bindP p f l = .good b r) : ∃ a s, p l = .good a s ∧ f a s = .good b r := by
  unfold bindP at h
  split at h
  · rename_i a s e
    exact ⟨a, s, e, h⟩
  · cases h
theorem bindP_of {α β : Type} {p : Psr α} {f : α → Psr β} {l s : List UInt8} {a : α} (h : p l = .good a s) : bindP p f l = f a s := by
  unfold bindP
  rw [h]
theorem bindP_bad {α β : Type} {p : Psr α} {f : α → Psr β} {l : List UInt8} {e : Int} (h : p l = .bad e) : bindP p f l = .bad e := by
  unfold bindP
  rw [h]
def strT (kind : Int) (l : List UInt8) : Tr := .nd { zeroO with kind := kind, s := ⟨l.toArray⟩ } []
def boolT (b : Bool) : Tr := .nd { zeroO with kind := 2, b := b } []
def nilT : Tr := .nd { zeroO with kind := 1 } []
def listT (kind : Int) (l : List Tr) : Tr := .nd { zeroO with kind := kind } l
end Go.Proofs.YtfckekaegjjmkaaGreatDoor
namespace Go.Proofs.YtfckekaegjjmkaaGreatDoor
open Go.RowKit Go.Shelf

section
variable (U : List UInt8 → Option (List UInt8 × List UInt8)) (Q : List UInt8 → List UInt8)

def isSp (c : UInt8) : Bool := c == 32 || c == 9 || c == 10 || c == 13
def spJ (l : List UInt8) : List UInt8 := l.dropWhile isSp
def wordJ (w : List UInt8) (t : Tr) : Psr Tr := fun l => if l.take w.length = w then .good t (l.drop w.length) else .bad 80
def textJ : Psr Tr := fun l => match U l with
  | some (s, r) => .good (strT 5 s) r
  | none => .bad 80
def colonJ (t : Tr) : Psr Tr := fun l => match spJ l with
  | [] => .bad 80
  | c :: r => if c = 58 then .good t (spJ r) else .bad 80
def memberJ : Psr Tr := bindP (textJ U) colonJ
def decT (neg : Bool) (dg : ByteArray) (ex : Int) : Tr := .nd { zeroO with kind := 3, neg := neg, dg := dg, ex := ex } []
def numJ : Psr Tr := fun l => match parseD l with
  | some (d, r) => .good (decT d.1 d.2.1 d.2.2) r
  | none => .bad 80
/-- What may stand behind a value of a list. -/
def nextJ (en : UInt8) (a : List Tr) (go : Psr (List Tr)) : Psr (List Tr) := fun l => match spJ l with
  | [] => .bad 80
  | c :: r => if c = en then .good a r else if c = 44 then go (spJ r) else .bad 80
def nodesJ (v : Psr Tr) (mem : Bool) (en : UInt8) : Nat → List Tr → Psr (List Tr)
  | 0, _ => fun _ => .bad 80
  | f + 1, acc => if mem = true then bindP (memberJ U) fun k => bindP v fun t => nextJ en (acc ++ [k, t]) (nodesJ v mem en f (acc ++ [k, t]))
    else bindP v fun t => nextJ en (acc ++ [t]) (nodesJ v mem en f (acc ++ [t]))
def listJ (v : Psr Tr) (mem : Bool) (en : UInt8) (F : Nat) : Psr (List Tr) := fun l => match spJ l with
  | [] => nodesJ U v mem en F [] []
  | c :: r => if c = en then .good [] r else nodesJ U v mem en F [] (c :: r)
def bodyJ (sub : Option (Psr Tr)) (F : Nat) : Psr Tr := fun l => match l with
  | [] => .bad 80
  | c :: r =>
    if c = 91 then (match sub with
      | none => .bad 60
      | some v => bindP (listJ U v false 93 F) (fun L => pureP (listT 7 L)) r)
    else if c = 123 then (match sub with
      | none => .bad 60
      | some v => bindP (listJ U v true 125 F) (fun L => pureP (listT 8 L)) r)
    else if c = 34 then textJ U (c :: r)
    else if c = 110 then wordJ [110, 117, 108, 108] nilT (c :: r)
    else if c = 116 then wordJ [116, 114, 117, 101] (boolT true) (c :: r)
    else if c = 102 then wordJ [102, 97, 108, 115, 101] (boolT false) (c :: r)
    else numJ (c :: r)
/-- A value, lists of it so deep at most. -/
def valueJ (F : Nat) : Nat → Psr Tr
  | 0 => bodyJ U none F
  | d + 1 => bodyJ U (some (valueJ F d)) F


theorem sp_cons {c : UInt8} (h : isSp c = false) (r : List UInt8) : spJ (c :: r) = c :: r := by
  unfold spJ
  rw [List.dropWhile_cons, h]
  rfl
theorem stops_cons {c : UInt8} (h : isDig c = false ∧ c ≠ 46 ∧ c ≠ 101 ∧ c ≠ 69) (r : List UInt8) : Stops (c :: r) := fun a b e => by
  injection e with e _
  rw [← e]
  exact h
variable {U Q}
end
end Go.Proofs.YtfckekaegjjmkaaGreatDoor
namespace Go.Proofs.YtfckekaegjjmkaaGreatDoor
open Go.RowKit Go.Shelf
attribute [local go_sem] Oper.semAt_some

/-- The reader: what is left, how deep. -/
abbrev RdJ (W : World) (p : Nat) (s : ByteArray) (d : Nat) : Prop := Blk W p #[.string s, .int .i64 d] 60
/-- An error's value. -/
def errJ (e : Int) : Value := .iface 91 (.agg #[.int .i64 e])
theorem jr_bad (w : World) : Calls Tryz.prog 54 #[] w fun x w' => x = .returned (errJ 80) ∧ w' = w := by
  go_enter Tryz.func54, Tryz.ntmps54
  go_wp2_with fail
  go_ret
  exact ⟨rfl, rfl⟩

set_option maxHeartbeats 2000000 in
set_option maxRecDepth 100000 in
theorem jr_isOf (q : Nat) (x : Int) (w : World) (hk : Blk w q #[.int .i32 32, .int .i32 9, .int .i32 10, .int .i32 13] 21) :
    Calls Tryz.prog 112 #[.int .i32 x, .slice (some ⟨q, 0, none⟩) 4 4] w fun e w' => e = .returned (.bool (decide (x = 32 ∨ x = 9 ∨ x = 10 ∨ x = 13))) ∧ w' = w := by
  have z0 := hk.cell 0
  have z1 := hk.cell 1
  have z2 := hk.cell 2
  have z3 := hk.cell 3
  clear hk
  by_cases h0 : x = 32
  · subst h0
    go_enter Tryz.func112, Tryz.ntmps112
    go_wp2_with fail
    refine wp_loop_rounds 1 ?_
    rw [rounds_succ]
    go_wp2_with fail
    go_ret
    exact ⟨rfl, rfl⟩
  by_cases h1 : x = 9
  · subst h1
    go_enter Tryz.func112, Tryz.ntmps112
    go_wp2_with fail
    refine wp_loop_rounds 2 ?_
    rw [rounds_succ]
    go_wp2_with fail
    rw [rounds_succ]
    go_wp2_with fail
    go_ret
    exact ⟨rfl, rfl⟩
  by_cases h2 : x = 10
  · subst h2
    go_enter Tryz.func112, Tryz.ntmps112
    go_wp2_with fail
    refine wp_loop_rounds 3 ?_
    rw [rounds_succ]
    go_wp2_with fail
    rw [rounds_succ]
    go_wp2_with fail
    rw [rounds_succ]
    go_wp2_with fail
    go_ret
    exact ⟨rfl, rfl⟩
  by_cases h3 : x = 13
  · subst h3
    go_enter Tryz.func112, Tryz.ntmps112
    go_wp2_with fail
    refine wp_loop_rounds 4 ?_
    rw [rounds_succ]
    go_wp2_with fail
    rw [rounds_succ]
    go_wp2_with fail
    rw [rounds_succ]
    go_wp2_with fail
    rw [rounds_succ]
    go_wp2_with fail
    go_ret
    exact ⟨rfl, rfl⟩
  have y0 : ((32 : Int) == x) = false := by rw [beq_eq_false_iff_ne]; omega
  have y1 : ((9 : Int) == x) = false := by rw [beq_eq_false_iff_ne]; omega
  have y2 : ((10 : Int) == x) = false := by rw [beq_eq_false_iff_ne]; omega
  have y3 : ((13 : Int) == x) = false := by rw [beq_eq_false_iff_ne]; omega
  rw [decide_eq_false (by omega)]
  clear h0 h1 h2 h3
  go_enter Tryz.func112, Tryz.ntmps112
  go_wp2_with fail
  refine wp_loop_rounds 5 ?_
  rw [rounds_succ]
  go_wp2_with fail
  rw [rounds_succ]
  go_wp2_with fail
  rw [rounds_succ]
  go_wp2_with fail
  rw [rounds_succ]
  go_wp2_with fail
  rw [rounds_succ]
  go_wp2_with fail
  go_ret
  exact ⟨rfl, rfl⟩

theorem spJ_yes {c : UInt8} {l : List UInt8} (h : isSp c = true) : spJ (c :: l) = spJ l := by
  unfold spJ
  rw [List.dropWhile_cons_of_pos h]
theorem spJ_no {c : UInt8} {l : List UInt8} (h : isSp c = false) : spJ (c :: l) = c :: l := by
  unfold spJ
  rw [List.dropWhile_cons_of_neg (by rw [h]; decide)]
theorem rune_sp (b : UInt8) (t : List UInt8) (h : isSp b = true) : Lib.decodeL (b :: t) = (b.toNat, 1) ∧ (b.toNat = 32 ∨ b.toNat = 9 ∨ b.toNat = 10 ∨ b.toNat = 13) := by
  unfold isSp at h
  simp only [Bool.or_eq_true, beq_iff_eq] at h
  have h2 : b.toNat = 32 ∨ b.toNat = 9 ∨ b.toNat = 10 ∨ b.toNat = 13 := by
    rcases h with ((h | h) | h) | h <;> rw [h] <;> decide
  exact ⟨Lib.decodeL_ascii b t (by omega), h2⟩
theorem rune_nosp (b : UInt8) (t : List UInt8) (h : isSp b = false) : ¬ ((Lib.decodeL (b :: t)).1 = 32 ∨ (Lib.decodeL (b :: t)).1 = 9 ∨ (Lib.decodeL (b :: t)).1 = 10 ∨ (Lib.decodeL (b :: t)).1 = 13) := by
  by_cases hb : b.toNat < 128
  · rw [Lib.decodeL_ascii b t hb]
    simp only
    intro hx
    have e : ∀ k : UInt8, b.toNat = k.toNat → b = k := fun k hk => UInt8.toNat_inj.1 hk
    rcases hx with hx | hx | hx | hx
    · rw [e 32 hx] at h; cases h
    · rw [e 9 hx] at h; cases h
    · rw [e 10 hx] at h; cases h
    · rw [e 13 hx] at h; cases h
  · have := decodeL_highR t (by omega : 128 ≤ b.toNat)
    omega

set_option maxHeartbeats 4000000 in
set_option maxRecDepth 100000 in
theorem jr_Space (s : ByteArray) (hs : s.size ≤ 1000000000) (w : World) :
    Calls Tryz.prog 74 #[.string s] w fun e w' => e = .returned (.string (bsD (spJ s.data.toList))) ∧ Below w.heap.size w w' := by
  obtain ⟨res, hres⟩ : ∃ r, bsD (spJ s.data.toList) = r := ⟨_, rfl⟩
  rw [hres]
  have HRES := Lib.hid hres
  have HO := Lib.hid jr_isOf
  clear hres
  go_enter Tryz.func74, Tryz.ntmps74
  go_wp2_with fail
  go_step3
  go_wp2_with fail
  go_step3
  go_wp2_with fail
  go_loopw [3] (fun v wr => v = .int .i64 s.size ∧ ∃ k : Nat, k ≤ s.size ∧ wr.heap[w.heap.size]? = some (.stringIter s k) ∧ Below w.heap.size w wr ∧ Hid (spJ s.data.toList = spJ (s.data.toList.drop k))) (fun _ wr => s.size - wr.iterPos w.heap.size)
  case atStart => exact ⟨rfl, 0, by omega, World.iter_heap w s 0, (Below.refl _ w).alloc (Nat.le_refl _) _, Lib.hid (by rw [List.drop_zero])⟩
  case round =>
    obtain ⟨rfl, k, hk, hit, hbw, hd⟩ := hrel
    have hsz : w.heap.size < wr.heap.size := (Array.getElem?_eq_some_iff.1 hit).1
    have hlen : s.data.toList.length = s.size := by simp
    by_cases hp : k < s.size
    · have hnx : ∀ ty, (Instr.next (.pointer (some ⟨w.heap.size, 0, none⟩)) true ty).run Tryz.prog wr = _ := fun ty => Lib.run_next_any_at wr w.heap.size s k ty hit hp
      have hdl := Lib.decodeL_drop s k
      rw [← hdl] at hnx
      have hdr := List.drop_eq_getElem_cons (l := s.data.toList) (i := k) (by rw [hlen]; exact hp)
      obtain ⟨b, hb⟩ : ∃ b, s.data.toList[k]'(by rw [hlen]; exact hp) = b := ⟨_, rfl⟩
      rw [hb] at hdr
      rw [hdr] at hnx
      have hit2 := Lib.iterAt_heap wr w.heap.size s k (k + (Lib.decodeL (b :: s.data.toList.drop (k + 1))).2) hit
      have hbw2 := Lib.below_iterAt hbw (k := w.heap.size) (Nat.le_refl _) s (k + (Lib.decodeL (b :: s.data.toList.drop (k + 1))).2)
      cases hg : isSp b with
      | true =>
        obtain ⟨h1, h2⟩ := rune_sp b (s.data.toList.drop (k + 1)) hg
        have hd2 := hd.out
        rw [hdr, spJ_yes hg] at hd2
        have HD := Lib.hid hd2
        rw [h1] at hnx hit2 hbw2
        simp only [] at hnx hit2 hbw2
        obtain ⟨c, hc⟩ : ∃ c, b.toNat = c := ⟨_, rfl⟩
        rw [hc] at hnx h2
        have HI : Hid (∀ (q : Nat) (w : World), Blk w q #[.int .i32 32, .int .i32 9, .int .i32 10, .int .i32 13] 21 → Calls Tryz.prog 112 #[.int .i32 (c : Int), .slice (some ⟨q, 0, none⟩) 4 4] w fun e w' => e = .returned (.bool true) ∧ w' = w) := Lib.hid (fun q w h => by
          have := HO.out q (c : Int) w h
          rw [decide_eq_true (by omega)] at this
          exact this)
        have HIT := Lib.hid hit
        clear hdl hdr hb hg h1 hd hd2 hc h2 hlen hit HO
        generalize wr.iterAt w.heap.size s (k + 1) = W at hnx hit2 hbw2
        have hit3 := hit2
        go_wp2_with fail
        refine (HI.out _ _ (Blk.new W _ _)).mono ?_
        rintro e w2 ⟨rfl, rfl⟩
        have hit4 : (W.alloc (.cells #[.int .i32 32, .int .i32 9, .int .i32 10, .int .i32 13] 21)).heap[w.heap.size]? = some (.stringIter s (k + 1)) := (Below.heap_alloc _ _ _ (by exact (Array.getElem?_eq_some_iff.1 hit2).1)).trans hit2
        have hbw3 := hbw2.alloc (by have := (Array.getElem?_eq_some_iff.1 hit2).1; omega) (.cells #[.int .i32 32, .int .i32 9, .int .i32 10, .int .i32 13] 21)
        go_wp2_with fail
        go_roundw
        case rel => exact ⟨rfl, k + 1, by omega, hit4, hbw3, HD⟩
        case measure =>
          simp only [World.iterPos, hit4, HIT.out]
          omega
      | false =>
        have hr := rune_nosp b (s.data.toList.drop (k + 1)) hg
        have hd2 := hd.out
        rw [hdr, spJ_no hg, ← hdr] at hd2
        have hex : s.extract k s.size = res := by
          rw [← HRES.out, hd2]
          unfold bsD
          apply ByteArray.ext
          apply Array.toList_inj.1
          have : (s.extract k s.size).data.toList = (s.data.toList.drop k).take (s.size - k) := by simp [ByteArray.data_extract]
          rw [this, List.take_of_length_le (by rw [List.length_drop]; omega)]
        have HEX := Lib.hid hex
        obtain ⟨⟨c, wd⟩, hck⟩ : ∃ ck, Lib.decodeL (b :: s.data.toList.drop (k + 1)) = ck := ⟨_, rfl⟩
        rw [hck] at hnx hit2 hbw2 hr
        simp only [] at hnx hit2 hbw2 hr
        have HI : Hid (∀ (q : Nat) (w : World), Blk w q #[.int .i32 32, .int .i32 9, .int .i32 10, .int .i32 13] 21 → Calls Tryz.prog 112 #[.int .i32 (c : Int), .slice (some ⟨q, 0, none⟩) 4 4] w fun e w' => e = .returned (.bool false) ∧ w' = w) := Lib.hid (fun q w h => by
          have := HO.out q (c : Int) w h
          rw [decide_eq_false (by omega)] at this
          exact this)
        clear hdl hdr hb hg hd hd2 hck hlen hit HO hex hr HRES
        generalize wr.iterAt w.heap.size s (k + wd) = W at hnx hit2 hbw2
        have z1 : (k : Int) ≤ s.size := by omega
        go_wp2_with fail
        refine (HI.out _ _ (Blk.new W _ _)).mono ?_
        rintro e w2 ⟨rfl, rfl⟩
        have hbw3 := hbw2.alloc (by have := (Array.getElem?_eq_some_iff.1 hit2).1; omega) (.cells #[.int .i32 32, .int .i32 9, .int .i32 10, .int .i32 13] 21)
        go_wp2_with fail
        rw [Exit.noGoto_ret, HEX.out]
        go_ret
        exact ⟨rfl, hbw3⟩
    · have hnx : ∀ ty, (Instr.next (.pointer (some ⟨w.heap.size, 0, none⟩)) true ty).run Tryz.prog wr = _ := fun ty => Lib.run_next_end_at wr w.heap.size s k ty hit hp
      have hd2 := hd.out
      rw [List.drop_eq_nil_of_le (by rw [hlen]; omega)] at hd2
      have hex : s.extract s.size s.size = res := by
        rw [← HRES.out, hd2]
        apply ByteArray.ext
        apply Array.toList_inj.1
        simp [spJ, bsD]
      have HEX := Lib.hid hex
      clear hd hd2 hlen hex HRES HO
      have z1 : (s.size : Int) ≤ s.size := by omega
      go_wp2_with fail
      rw [Exit.noGoto_ret]
      go_ret
      refine ⟨?_, hbw⟩
      have h0 : s.extract s.size s.size = ⟨#[]⟩ := by
        apply ByteArray.ext
        apply Array.toList_inj.1
        simp
      rw [← HEX.out, h0]
      first | rfl | simp

set_option maxHeartbeats 2000000 in
set_option maxRecDepth 100000 in
theorem jr_space (p d : Nat) (s : ByteArray) (w : World) (hR : RdJ w p s d) (hs : s.size ≤ 1000000000) :
    Calls Tryz.prog 52 #[.pointer (some ⟨p, 0, none⟩)] w fun e w' => (∃ v, e = .returned v) ∧ w.grownBy w' (some p) ∧ RdJ w' p (bsD (spJ s.data.toList)) d := by
  have HS := Lib.hid (fun w => jr_Space s hs w)
  obtain ⟨res, hres⟩ : ∃ r, bsD (spJ s.data.toList) = r := ⟨_, rfl⟩
  simp only [hres] at HS ⊢
  have c0 := hR.cell 0
  clear hres
  go_enter Tryz.func52, Tryz.ntmps52
  go_wp2_with fail
  refine (HS.out _).mono ?_
  rintro e w2 ⟨rfl, hb⟩
  have hr2 := hR.below hb hR.lt
  have f0 := hr2.frozen 0
  have q0 := hr2.cell 0
  clear c0
  go_wp2_with fail
  refine bodyPost_end (results_none rfl _ _ _) rfl ?_
  exact ⟨⟨_, rfl⟩, grown_trans (below_grown hb _) (grown_set w2 p 0 _), hr2.set 0 _⟩

/-- A word taken off. -/
def takeJ (v l : List UInt8) : Bool × List UInt8 := if l.take v.length = v then (true, l.drop v.length) else (false, l)
theorem cut_take (v l : List UInt8) : Lib.hasPrefix l v = (takeJ v l).1 ∧ Lib.trimPrefix l v = (takeJ v l).2 := by
  have h : Lib.hasPrefix l v = decide (l.take v.length = v) := by
    unfold Lib.hasPrefix
    rw [Bool.eq_iff_iff, decide_eq_true_iff, List.isPrefixOf_iff_prefix, List.prefix_iff_eq_take]
    exact eq_comm
  unfold takeJ
  by_cases ht : l.take v.length = v
  · rw [if_pos ht, h, decide_eq_true ht]
    refine ⟨rfl, ?_⟩
    unfold Lib.trimPrefix
    rw [h, decide_eq_true ht]
    rfl
  · rw [if_neg ht, h, decide_eq_false ht]
    refine ⟨rfl, ?_⟩
    unfold Lib.trimPrefix
    rw [h, decide_eq_false ht]
    rfl
set_option maxHeartbeats 2000000 in
set_option maxRecDepth 100000 in
theorem jr_take (p d : Nat) (s v : ByteArray) (w : World) (hR : RdJ w p s d) :
    Calls Tryz.prog 182 #[.pointer (some ⟨p, 0, none⟩), .string v] w fun e w' => e = .returned (.bool (takeJ v.data.toList s.data.toList).1) ∧ w.grownBy w' (some p) ∧ RdJ w' p (bsD (takeJ v.data.toList s.data.toList).2) d := by
  have HC := Lib.hid (fun w => Tryz.strings_CutPrefix s v w)
  obtain ⟨h1, h2⟩ := cut_take v.data.toList s.data.toList
  simp only [h1, h2] at HC
  obtain ⟨⟨b, r⟩, hx⟩ : ∃ x, takeJ v.data.toList s.data.toList = x := ⟨_, rfl⟩
  simp only [hx] at HC ⊢
  have HC : Hid (∀ w : World, Calls Tryz.prog 212 #[.string s, .string v] w fun e w' => e = .returned (.tuple #[.string (bsD r), .bool b]) ∧ w' = w) := HC
  obtain ⟨rb, hrb⟩ : ∃ x, bsD r = x := ⟨_, rfl⟩
  simp only [hrb] at HC ⊢
  have c0 := hR.cell 0
  have f0 := hR.frozen 0
  clear h1 h2 hx hrb
  go_enter Tryz.func182, Tryz.ntmps182
  go_wp2_with fail
  refine (HC.out _).mono ?_
  rintro e w2 ⟨rfl, rfl⟩
  go_wp2_with fail
  go_ret
  exact ⟨rfl, grown_set _ p 0 _, hR.set 0 _⟩
end Go.Proofs.YtfckekaegjjmkaaGreatDoor
