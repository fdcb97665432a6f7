/- The texts CrD, CrE, put together. -/
import Derived.Test.YtflkmhgbinlfiaaGreatDoorPm06
namespace Go.Proofs.YtflkmhgbinlfiaaGreatDoor
open Go.RowKit Go.Shelf

theorem head_item (x : Nat × Nat × Nat) (h : HdOk x) (t : List UInt8) : headP (itemL x ++ t) = .good x t := by
  unfold headP
  rw [readL_item x h t]
  rfl
theorem bytes_all (l m : List UInt8) : bytesP l.length (l ++ m) = .good l m := by
  unfold bytesP
  rw [if_neg (by rw [List.length_append]; omega), List.take_left' rfl, List.drop_left' rfl]
theorem str_back (s : ByteArray) : (⟨s.data.toList.toArray⟩ : ByteArray) = s := by
  apply ByteArray.ext
  simp
mutual
theorem write_back (F : Nat) : ∀ (t : Tr) (d : Nat) (m : List UInt8), okC t → t.depth ≤ d → itemP F d (cbT t ++ m) = .good t m
  | .nd o l, 0, m, _, hd => by
    rw [Tr.depth] at hd
    omega
  | .nd o l, d + 1, m, hok, hd => by
    rw [okC] at hok
    rw [Tr.depth] at hd
    have hf := hd_facts hok.1
    have hu := hok.1.ok.u
    have hli := write_backL F l d [] m hok.2 (by omega)
    rw [List.nil_append] at hli
    rw [cbT, List.append_assoc]
    show bindP headP _ _ = _
    rw [bindP_of (head_item _ hf.1 _)]
    rcases hok.1.shape with ⟨h, hl⟩ | ⟨h, hl⟩ | ⟨neg, n, h, hn, hl⟩ | ⟨h, hw, hl⟩ | ⟨h, hs, _, hl⟩ | ⟨h, hs, hl⟩ | ⟨h⟩ | ⟨h, he, _, _⟩ | ⟨h, h1⟩ | ⟨h, hu', hl⟩
    · have hk := congrArg Own.kind h
      simp only [] at hk
      have hl0 := len0 hl
      subst hl0
      rw [hdO_1 _ hk]
      show PR.good nilT (txO o ++ cbL [] ++ m) = _
      unfold txO
      rw [if_neg (by omega), cbL, h]
      rfl
    · have hk := congrArg Own.kind h
      simp only [] at hk
      have hl0 := len0 hl
      subst hl0
      have hx : txO o = [] := by
        unfold txO
        rw [if_neg (by omega)]
      rw [hdO_2 _ hk, hx, cbL]
      cases hb : o.b with
      | true =>
        show PR.good (boolT true) m = _
        rw [h, hb]
        rfl
      | false =>
        show PR.good (boolT false) m = _
        rw [h, hb]
        rfl
    · have hk := congrArg Own.kind h
      simp only [] at hk
      have hl0 := len0 hl
      subst hl0
      have ho := toInt_ofN hn
      have hp := (toInt_lt hn).2
      have hx : txO o = [] := by
        unfold txO
        rw [if_neg (by omega)]
      have hlt := (toInt_lt hn).1
      have hlf : ∀ k, k ≤ n → (leastN k).1 ≠ 31 := fun k hk => by
        have := (least_ok 3 k (by decide) (by omega)).info
        simp only [] at this
        omega
      rw [hdO_3 _ hk, hn, hx, cbL]
      have hnt : numT neg n = .nd o [] := by
        unfold numT
        rw [ho, h]
      cases neg with
      | true =>
        show bodyP F (itemP F d) (1, (leastN (n - 1)).1, n - 1) m = _
        unfold bodyP
        rw [if_neg (fun q => hlf (n - 1) (by omega) q.2), if_neg (by simp), if_pos rfl]
        show PR.good (numT true (n - 1 + 1)) m = _
        rw [show n - 1 + 1 = n by have := hp rfl; omega, hnt]
      | false =>
        show bodyP F (itemP F d) (0, (leastN n).1, n) m = _
        unfold bodyP
        rw [if_neg (fun q => hlf n (by omega) q.2), if_pos rfl]
        show PR.good (numT false n) m = _
        rw [hnt]
    · have hk := congrArg Own.kind h
      simp only [] at hk
      have hl0 := len0 hl
      subst hl0
      rw [hdO_4 _ hk]
      unfold txO
      rw [if_neg (by omega), cbL]
      have hu2 : ((o.u.toNat : Nat) : Int) = o.u := by omega
      rcases hw with ⟨hw, _⟩ | ⟨hw, _⟩ | hw
      · rw [show infoW o.wd = 25 by unfold infoW; rw [if_pos hw]]
        show PR.good (floatT o.u.toNat 16) m = _
        unfold floatT
        rw [hu2]
        rw [h, hw]
        rfl
      · rw [show infoW o.wd = 26 by unfold infoW; rw [if_neg (by omega), if_pos hw]]
        show PR.good (floatT o.u.toNat 32) m = _
        unfold floatT
        rw [hu2]
        rw [h, hw]
        rfl
      · rw [show infoW o.wd = 27 by unfold infoW; rw [if_neg (by omega), if_neg (by omega)]]
        show PR.good (floatT o.u.toNat 64) m = _
        unfold floatT
        rw [hu2]
        rw [h, hw]
        rfl
    · have hk := congrArg Own.kind h
      simp only [] at hk
      have hl0 := len0 hl
      subst hl0
      rw [hdO_5 _ hk]
      have hli : (leastN o.s.size).1 ≠ 31 := by
        have := (least_ok 3 o.s.size (by decide) (by have := hok.1.ok.s; omega)).info
        simp only [] at this
        omega
      have e1 : txO o = o.s.data.toList := by
        unfold txO
        rw [if_pos (.inl hk)]
      have e2 : bodyP F (itemP F d) (3, (leastN o.s.size).1, o.s.size) (o.s.data.toList ++ m) = bindP (bytesP o.s.size) (fun s => pureP (strT 5 s)) (o.s.data.toList ++ m) := by
        unfold bodyP textP
        rw [if_neg (by simp), if_neg (by simp), if_neg (by simp), if_neg (by simp), if_pos rfl, if_neg hli]
      have e3 := bytes_all o.s.data.toList m
      rw [show o.s.data.toList.length = o.s.size by simp] at e3
      rw [e1, cbL, List.append_nil, e2, bindP_of e3]
      show PR.good (strT 5 o.s.data.toList) m = _
      unfold strT
      rw [str_back]
      rw [← h]
    · have hk := congrArg Own.kind h
      simp only [] at hk
      have hl0 := len0 hl
      subst hl0
      rw [hdO_6 _ hk]
      have hli : (leastN o.s.size).1 ≠ 31 := by
        have := (least_ok 3 o.s.size (by decide) (by have := hok.1.ok.s; omega)).info
        simp only [] at this
        omega
      have e1 : txO o = o.s.data.toList := by
        unfold txO
        rw [if_pos (.inr hk)]
      have e2 : bodyP F (itemP F d) (2, (leastN o.s.size).1, o.s.size) (o.s.data.toList ++ m) = bindP (bytesP o.s.size) (fun s => pureP (strT 6 s)) (o.s.data.toList ++ m) := by
        unfold bodyP textP
        rw [if_neg (by simp), if_neg (by simp), if_neg (by simp), if_pos rfl, if_neg hli]
      have e3 := bytes_all o.s.data.toList m
      rw [show o.s.data.toList.length = o.s.size by simp] at e3
      rw [e1, cbL, List.append_nil, e2, bindP_of e3]
      show PR.good (strT 6 o.s.data.toList) m = _
      unfold strT
      rw [str_back]
      rw [← h]
    · have hk := congrArg Own.kind h
      simp only [] at hk
      rw [hdO_7 _ hk]
      unfold txO
      rw [if_neg (by omega), List.nil_append]
      have hlf : (leastN l.length).1 ≠ 31 := by
        have := (least_ok 4 l.length (by decide) hok.1.len).info
        simp only [] at this
        omega
      have e2 : bodyP F (itemP F d) (4, (leastN l.length).1, l.length) (cbL l ++ m) = bindP (timesP (itemP F d) (1 * l.length) []) (fun l => pureP (listT 7 l)) (cbL l ++ m) := by
        unfold bodyP listP
        rw [if_neg (by simp), if_neg (by simp), if_neg (by simp), if_neg (by simp), if_neg (by simp), if_pos rfl, if_neg hlf]
      rw [e2, Nat.one_mul, bindP_of hli]
      show PR.good (listT 7 l) m = _
      unfold listT
      rw [← h]
    · have hk := congrArg Own.kind h
      simp only [] at hk
      rw [hdO_8 _ hk]
      unfold txO
      rw [if_neg (by omega), List.nil_append]
      have hlf : (leastN (l.length / 2)).1 ≠ 31 := by
        have := (least_ok 5 (l.length / 2) (by decide) (by have := hok.1.len; omega)).info
        simp only [] at this
        omega
      have e2 : bodyP F (itemP F d) (5, (leastN (l.length / 2)).1, l.length / 2) (cbL l ++ m) = bindP (timesP (itemP F d) (2 * (l.length / 2)) []) (fun l => pureP (listT 8 l)) (cbL l ++ m) := by
        unfold bodyP listP
        rw [if_neg (by simp), if_neg (by simp), if_neg (by simp), if_neg (by simp), if_neg (by simp), if_neg (by simp), if_pos rfl, if_neg hlf]
      rw [e2, show 2 * (l.length / 2) = l.length by omega, bindP_of hli]
      show PR.good (listT 8 l) m = _
      unfold listT
      rw [← h]
    · have hk := congrArg Own.kind h
      simp only [] at hk
      rw [hdO_9 _ hk]
      unfold txO
      rw [if_neg (by omega), List.nil_append]
      have hlf : (leastN o.u.toNat).1 ≠ 31 := by
        have := (least_ok 6 o.u.toNat (by decide) (by omega)).info
        simp only [] at this
        omega
      obtain ⟨x, hx⟩ : ∃ x, l = [x] := by
        cases l with
        | nil => simp at h1
        | cons x r => exact ⟨x, by have : r = [] := List.eq_nil_of_length_eq_zero (by simpa using h1); rw [this]⟩
      subst hx
      have e2 : bodyP F (itemP F d) (6, (leastN o.u.toNat).1, o.u.toNat) (cbL [x] ++ m) = bindP (itemP F d) (fun t => pureP (tagT o.u.toNat t)) (cbL [x] ++ m) := by
        unfold bodyP
        rw [if_neg (fun q => hlf q.2), if_neg (by simp), if_neg (by simp), if_neg (by simp), if_neg (by simp), if_neg (by simp), if_neg (by simp), if_pos rfl]
      have h3 : timesP (itemP F d) 1 [] (cbL [x] ++ m) = .good [x] m := hli
      obtain ⟨y, r1, g1, g2⟩ := bindP_good (show bindP (itemP F d) (fun t => timesP (itemP F d) 0 ([] ++ [t])) (cbL [x] ++ m) = .good [x] m from h3)
      have g2 : PR.good [y] r1 = .good [x] m := g2
      injection g2 with q1 q2
      injection q1 with q1 _
      subst q1 q2
      rw [e2, bindP_of g1]
      show PR.good (tagT o.u.toNat y) r1 = _
      unfold tagT
      rw [show ((o.u.toNat : Nat) : Int) = o.u by omega, ← h]
    · have hk := congrArg Own.kind h
      simp only [] at hk
      have hl0 := len0 hl
      subst hl0
      rw [hdO_10 _ hk]
      unfold txO
      rw [if_neg (by omega), cbL]
      have hst : simpleT o.u.toNat = .nd o [] := by
        unfold simpleT
        rw [show ((o.u.toNat : Nat) : Int) = o.u by omega, ← h]
      obtain ⟨n, hn⟩ : ∃ n, o.u.toNat = n := ⟨_, rfl⟩
      rw [hn] at hst ⊢
      have hn2 : n ≤ 19 ∨ n = 23 ∨ (32 ≤ n ∧ n ≤ 255) := by omega
      show otherP (7, (leastN n).1, n) m = _
      rcases Nat.lt_or_ge n 24 with hlt | hge
      · rw [least_small hlt]
        unfold otherP
        rw [if_neg (by simp only []; omega), if_neg (by simp only []; omega), if_neg (by simp only []; omega), if_neg (by simp only []; omega), if_neg (by simp only []; omega), if_neg (by simp only []; omega), if_neg (by simp only []; omega), ← hst]
        rfl
      · rw [least_one (n := n) (by omega) (by omega)]
        unfold otherP
        rw [if_neg (by simp), if_neg (by simp), if_pos rfl, if_neg (by simp only []; omega), ← hst]
        rfl
theorem write_backL (F : Nat) : ∀ (l : List Tr) (d : Nat) (acc : List Tr) (m : List UInt8), okCL l → depthL l ≤ d → timesP (itemP F d) l.length acc (cbL l ++ m) = .good (acc ++ l) m
  | [], d, acc, m, _, _ => by
    rw [List.append_nil]
    rfl
  | t :: l, d, acc, m, hok, hd => by
    rw [okCL] at hok
    rw [depthL] at hd
    have h1 := write_back F t d (cbL l ++ m) hok.1 (by omega)
    have h2 := write_backL F l d (acc ++ [t]) m hok.2 (by omega)
    rw [List.append_assoc] at h2
    rw [cbL, List.append_assoc]
    show bindP (itemP F d) _ _ = _
    rw [bindP_of h1]
    exact h2
end
end Go.Proofs.YtflkmhgbinlfiaaGreatDoor
namespace Go.Proofs.YtflkmhgbinlfiaaGreatDoor
open Go.RowKit Go.Shelf

mutual
/-- How many arrays of 256 and more there are. -/
def bigT : Tr → Nat
  | .nd o l => (if o.kind = 7 ∧ 256 ≤ l.length then 1 else 0) + bigL l
def bigL : List Tr → Nat
  | [] => 0
  | t :: l => bigT t + bigL l
end
mutual
theorem big_count : ∀ t : Tr, 1 + 256 * bigT t ≤ t.count
  | .nd o l => by
    have h := big_countL l
    rw [bigT, Tr.count]
    split <;> omega
theorem big_countL : ∀ l : List Tr, l.length + 256 * bigL l ≤ countL l
  | [] => by simp [bigL, countL]
  | t :: l => by
    have h1 := big_count t
    have h2 := big_countL l
    rw [bigL, countL, List.length_cons]
    omega
end
theorem bigL_append : ∀ a b : List Tr, bigL (a ++ b) = bigL a + bigL b
  | [], b => by simp [bigL]
  | t :: a, b => by
    show bigT t + bigL (a ++ b) = bigT t + bigL a + bigL b
    rw [bigL_append a b]
    omega
theorem itemL_len (x : Nat × Nat × Nat) : (itemL x).length = 1 + extraN x.2.1 := by
  unfold itemL
  rw [List.length_cons, beBytes_length]
  omega
theorem extra_le {n : Nat} (h : n < 65536) : extraN (leastN n).1 ≤ 2 := by
  unfold extraN
  by_cases h1 : n < 24
  · rw [least_small h1, if_pos h1]
    omega
  · by_cases h2 : n < 256
    · rw [least_one h1 h2]
      decide
    · rw [leastN_2 n h2 h]
      decide
theorem extra_one {n : Nat} (h : n < 256) : extraN (leastN n).1 ≤ 1 := by
  unfold extraN
  by_cases h1 : n < 24
  · rw [least_small h1, if_pos h1]
    omega
  · rw [least_one h1 h]
    decide
theorem extra_zero {n : Nat} (h : n < 24) : extraN (leastN n).1 = 0 := by
  unfold extraN
  rw [least_small h, if_pos h]
/-- The shortest head is no longer than the one that was read. -/
theorem extra_least {info n : Nat} (h1 : info ≤ 27) (h2 : info < 24 → n = info) (h3 : 24 ≤ info → n < 2 ^ (8 * 2 ^ (info - 24))) : extraN (leastN n).1 ≤ extraN info := by
  by_cases hs : info < 24
  · rw [h2 hs, extra_zero hs]
    omega
  · have h4 := h3 (by omega)
    have e : extraN info = 2 ^ (info - 24) := by
      unfold extraN
      rw [if_neg hs]
    rw [e]
    rcases (by omega : info = 24 ∨ info = 25 ∨ info = 26 ∨ info = 27) with h | h | h | h
    · subst h
      exact extra_one (by simpa using h4)
    · subst h
      exact extra_le (by simpa using h4)
    · subst h
      have h5 : n < 4294967296 := by simpa using h4
      by_cases h6 : n < 65536
      · exact Nat.le_trans (extra_le h6) (by decide)
      · unfold extraN
        rw [leastN_4 n h6 h5]
        decide
    · subst h
      by_cases h6 : n < 65536
      · exact Nat.le_trans (extra_le h6) (by decide)
      · by_cases h7 : n < 4294967296
        · unfold extraN
          rw [leastN_4 n h6 h7]
          decide
        · unfold extraN
          rw [leastN_8 n h7]
          decide
theorem head_facts {l r : List UInt8} {h : Nat × Nat × Nat} (hp : headP l = .good h r) :
    (h.2.1 = 31 ∧ h.2.2 = 0 ∧ 1 + r.length = l.length) ∨ (h.2.1 ≤ 27 ∧ (h.2.1 < 24 → h.2.2 = h.2.1) ∧ (24 ≤ h.2.1 → h.2.2 < 2 ^ (8 * 2 ^ (h.2.1 - 24))) ∧ 1 + extraN h.2.1 + r.length = l.length) := by
  cases l with
  | nil => cases hp
  | cons b s =>
    unfold headP at hp
    rw [readL_cons] at hp
    by_cases h1 : b.toNat % 32 < 24
    · simp only [if_pos h1, if_true] at hp
      injection hp with e1 e2
      subst e1 e2
      refine .inr ⟨by simp only []; omega, fun _ => rfl, fun h => by simp only [] at h; omega, ?_⟩
      unfold extraN
      simp only [if_pos h1]
      rw [List.length_cons]
      omega
    · by_cases h2 : b.toNat % 32 = 31
      · simp only [if_neg h1, if_pos h2, if_true] at hp
        injection hp with e1 e2
        subst e1 e2
        exact .inl ⟨rfl, rfl, by rw [List.length_cons]; omega⟩
      · by_cases h3 : 27 < b.toNat % 32
        · simp only [if_neg h1, if_neg h2, if_pos h3] at hp
          cases hp
        · simp only [if_neg h1, if_neg h2, if_neg h3] at hp
          obtain ⟨x, hx⟩ : ∃ x, 2 ^ (b.toNat % 32 - 24) = x := ⟨_, rfl⟩
          rw [hx] at hp
          by_cases h4 : s.length < x
          · simp only [if_pos h4] at hp
            cases hp
          · simp only [if_neg h4, if_true] at hp
            injection hp with e1 e2
            subst e1 e2
            refine .inr ⟨by simp only []; omega, fun h => absurd h h1, fun _ => ?_, ?_⟩
            · simp only [hx]
              have := beVal_lt (s.take x)
              rw [List.length_take, Nat.min_eq_left (by omega)] at this
              exact this
            · unfold extraN
              simp only [if_neg h1, hx]
              rw [List.length_cons, List.length_drop]
              omega
theorem head_len {l r : List UInt8} {h : Nat × Nat × Nat} (hp : headP l = .good h r) (hi : h.2.1 ≠ 31) : 1 + extraN (leastN h.2.2).1 + r.length ≤ l.length := by
  rcases head_facts hp with ⟨h1, _⟩ | ⟨h1, h2, h3, h4⟩
  · exact absurd h1 hi
  · have := extra_least h1 h2 h3
    omega
theorem bytes_facts {n : Nat} {l s r : List UInt8} (hp : bytesP n l = .good s r) : s.length = n ∧ s.length + r.length = l.length := by
  unfold bytesP at hp
  split at hp
  · cases hp
  · injection hp with e1 e2
    subst e1 e2
    rw [List.length_take, List.length_drop]
    omega
theorem chunk_len {maj : Nat} {l s r : List UInt8} (hp : chunkP maj l = .good s r) : s.length + r.length + 1 ≤ l.length := by
  obtain ⟨h, r1, h1, h2⟩ := bindP_good hp
  have h3 := goodP_head _ _ _ h1
  split at h2
  · cases h2
  · have h4 := bytes_facts h2
    rcases head_facts h1 with ⟨_, _, h5⟩ | ⟨_, _, _, h5⟩ <;> omega
theorem chunks_len (maj : Nat) : ∀ (f : Nat) (acc l s r : List UInt8), chunksP maj f acc l = .good s r → ∃ new, s = acc ++ new ∧ new.length + r.length + 1 ≤ l.length ∧ (new ≠ [] → new.length + r.length + 2 ≤ l.length)
  | 0, _, _, _, _, h => by cases h
  | f + 1, acc, l, s, r, h => by
    cases l with
    | nil =>
      have h : bindP (chunkP maj) (fun c => chunksP maj f (acc ++ c)) [] = .good s r := h
      rw [bindP_bad (wantP_chunk maj)] at h
      cases h
    | cons c t =>
      by_cases hc : c = 255
      · subst hc
        have h : PR.good acc t = .good s r := h
        injection h with e1 e2
        subst e1 e2
        exact ⟨[], by simp, by simp, fun h => absurd rfl h⟩
      · have h' : bindP (chunkP maj) (fun c => chunksP maj f (acc ++ c)) (c :: t) = .good s r := by
          have : endP acc (bindP (chunkP maj) fun c => chunksP maj f (acc ++ c)) (c :: t) = .good s r := h
          unfold endP at this
          simpa [hc] using this
        obtain ⟨x, r1, h1, h2⟩ := bindP_good h'
        obtain ⟨new, e, h3, _⟩ := chunks_len maj f _ _ _ _ h2
        have h4 := chunk_len h1
        refine ⟨x ++ new, by rw [e, List.append_assoc], ?_, fun _ => ?_⟩
        · rw [List.length_append]
          omega
        · rw [List.length_append]
          omega
/-- What p reads is written in no more bytes. -/
def LenP (p : Psr Tr) : Prop := ∀ l t r, p l = .good t r → okC t → t.count ≤ 300 → (cbT t).length + r.length ≤ l.length + bigT t
theorem okCL_append : ∀ {a b : List Tr}, okCL (a ++ b) → okCL a ∧ okCL b
  | [], _, h => ⟨by rw [okCL]; trivial, h⟩
  | t :: a, b, h => by
    have h : okCL (t :: (a ++ b)) := h
    rw [okCL] at h
    obtain ⟨h1, h2⟩ := okCL_append h.2
    exact ⟨by rw [okCL]; exact ⟨h.1, h1⟩, h2⟩
theorem times_len {p : Psr Tr} (hp : LenP p) : ∀ (n : Nat) (acc : List Tr) (l : List UInt8) (L : List Tr) (r : List UInt8), timesP p n acc l = .good L r → ∃ new, L = acc ++ new ∧ new.length = n ∧ (okCL new → countL new ≤ 300 → (cbL new).length + r.length ≤ l.length + bigL new)
  | 0, acc, l, L, r, h => by
    have h : PR.good acc l = .good L r := h
    injection h with e1 e2
    subst e1 e2
    exact ⟨[], by simp, rfl, fun _ _ => by simp [cbL, bigL]⟩
  | n + 1, acc, l, L, r, h => by
    obtain ⟨t, s, h1, h2⟩ := bindP_good h
    obtain ⟨new, e, hn, h3⟩ := times_len hp n _ _ _ _ h2
    refine ⟨t :: new, by rw [e, List.append_assoc]; rfl, by rw [List.length_cons, hn], fun hok hc => ?_⟩
    rw [okCL] at hok
    rw [countL] at hc
    have h4 := hp _ _ _ h1 hok.1 (by omega)
    have h5 := h3 hok.2 (by omega)
    rw [cbL, bigL, List.length_append]
    omega
theorem open_len {p : Psr Tr} (hp : LenP p) (hw : WantP p) (size : Nat) : ∀ (f : Nat) (acc : List Tr) (l : List UInt8) (L : List Tr) (r : List UInt8), openP p (size + 1) f acc l = .good L r → ∃ new, L = acc ++ new ∧ (okCL new → countL new ≤ 300 → (cbL new).length + r.length + 1 ≤ l.length + bigL new)
  | 0, _, _, _, _, h => by cases h
  | f + 1, acc, l, L, r, h => by
    cases l with
    | nil =>
      have h : bindP (timesP p (size + 1) acc) _ [] = .good L r := h
      rw [bindP_bad (wantP_times hw _ _)] at h
      cases h
    | cons c t =>
      by_cases hc : c = 255
      · subst hc
        have h : PR.good acc t = .good L r := h
        injection h with e1 e2
        subst e1 e2
        exact ⟨[], by simp, fun _ _ => by simp [cbL, bigL]⟩
      · have h' : bindP (timesP p (size + 1) acc) (fun l => openP p (size + 1) f l) (c :: t) = .good L r := by
          have : endP acc (bindP (timesP p (size + 1) acc) fun l => openP p (size + 1) f l) (c :: t) = .good L r := h
          unfold endP at this
          simpa [hc] using this
        obtain ⟨L1, r1, h1, h2⟩ := bindP_good h'
        obtain ⟨n1, e1, _, g1⟩ := times_len hp _ _ _ _ _ h1
        obtain ⟨n2, e2, g2⟩ := open_len hp hw size f _ _ _ _ h2
        refine ⟨n1 ++ n2, by rw [e2, e1, List.append_assoc], fun hok hcn => ?_⟩
        obtain ⟨k1, k2⟩ := okCL_append hok
        rw [countL_append] at hcn
        have g3 := g1 k1 (by omega)
        have g4 := g2 k2 (by omega)
        rw [cbL_append, bigL_append, List.length_append]
        omega
theorem len_le_count : ∀ l : List Tr, l.length ≤ countL l
  | [] => Nat.zero_le _
  | t :: l => by
    have := len_le_count l
    rw [countL, List.length_cons, Tr.count_eq]
    omega
theorem read_len (F : Nat) : ∀ d, LenP (itemP F d)
  | 0 => fun l t r h _ _ => by
    unfold itemP at h
    split at h <;> cases h
  | d + 1 => fun l t r h hok hcn => by
    obtain ⟨hd, s, h1, h2⟩ := bindP_good h
    have hpu : ∀ {x : Tr} {m : List UInt8}, pureP x m = .good t r → x = t ∧ m = r := fun {x m} hx => by
      have hx : PR.good x m = .good t r := hx
      injection hx with e1 e2
      exact ⟨e1, e2⟩
    have hleaf : t.kids = [] → (cbT t).length = 1 + extraN (hdO t.own 0).2.1 + (txO t.own).length := fun hk => by
      rw [cbT_eq, hk, cbL, List.append_nil, List.length_append, itemL_len]
      rfl
    unfold bodyP at h2
    by_cases c0 : (hd.1 < 2 ∨ hd.1 = 6) ∧ hd.2.1 = 31
    · rw [if_pos c0] at h2
      cases h2
    rw [if_neg c0] at h2
    have hnum : ∀ neg n, numT neg n = t → toIntD (ofN neg n).1 (ofN neg n).2.1 (ofN neg n).2.2 ≠ none := fun neg n e hnn => by
      subst e
      unfold numT at hok
      rw [okC] at hok
      rcases hok.1.shape with ⟨q, _⟩ | ⟨q, _⟩ | ⟨_, _, _, hn, _⟩ | ⟨q, _⟩ | ⟨q, _⟩ | ⟨q, _⟩ | ⟨q⟩ | ⟨q, _⟩ | ⟨q, _⟩ | ⟨q, _⟩
      case num => 
        simp only [] at hn
        rw [hnn] at hn
        cases hn
      all_goals
        have := congrArg Own.kind q
        simp only [] at this
        omega
    by_cases c1 : hd.1 = 0
    · rw [if_pos c1] at h2
      obtain ⟨e1, e2⟩ := hpu h2
      have h3 := head_len h1 (fun q => c0 ⟨.inl (by omega), q⟩)
      have hlt : hd.2.2 < 18446744073709551616 := by
        rcases head_facts h1 with ⟨_, q, _⟩ | ⟨q1, q2, q3, _⟩
        · omega
        · by_cases q : hd.2.1 < 24
          · have := q2 q
            omega
          · have := q3 (by omega)
            rcases (by omega : hd.2.1 = 24 ∨ hd.2.1 = 25 ∨ hd.2.1 = 26 ∨ hd.2.1 = 27) with z | z | z | z <;> rw [z] at this <;> simp at this <;> omega
      have h4 := ofN_toInt false hd.2.2 hlt (fun q => by cases q)
      subst e1 e2
      rw [hleaf rfl]
      show 1 + extraN (hdO { zeroO with kind := 3, neg := (ofN false hd.2.2).1, dg := (ofN false hd.2.2).2.1, ex := (ofN false hd.2.2).2.2 } 0).2.1 + 0 + s.length ≤ _
      rw [hdO_3 _ rfl]
      simp only [h4]
      omega
    rw [if_neg c1] at h2
    by_cases c2 : hd.1 = 1
    · rw [if_pos c2] at h2
      obtain ⟨e1, e2⟩ := hpu h2
      have h3 := head_len h1 (fun q => c0 ⟨.inl (by omega), q⟩)
      have hlt : hd.2.2 < 18446744073709551616 := by
        rcases head_facts h1 with ⟨_, q, _⟩ | ⟨q1, q2, q3, _⟩
        · omega
        · by_cases q : hd.2.1 < 24
          · have := q2 q
            omega
          · have := q3 (by omega)
            rcases (by omega : hd.2.1 = 24 ∨ hd.2.1 = 25 ∨ hd.2.1 = 26 ∨ hd.2.1 = 27) with z | z | z | z <;> rw [z] at this <;> simp at this <;> omega
      have hlt2 : hd.2.2 + 1 < 18446744073709551616 := by
        rcases Nat.lt_or_ge (hd.2.2 + 1) 18446744073709551616 with q | q
        · exact q
        · have e : hd.2.2 + 1 = 18446744073709551616 := by omega
          exact absurd (by rw [e]; exact ofN_big true) (hnum true (hd.2.2 + 1) e1)
      have h4 := ofN_toInt true (hd.2.2 + 1) hlt2 (fun _ => by omega)
      subst e1 e2
      rw [hleaf rfl]
      show 1 + extraN (hdO { zeroO with kind := 3, neg := (ofN true (hd.2.2 + 1)).1, dg := (ofN true (hd.2.2 + 1)).2.1, ex := (ofN true (hd.2.2 + 1)).2.2 } 0).2.1 + 0 + s.length ≤ _
      rw [hdO_3 _ rfl]
      simp only [h4]
      rw [show hd.2.2 + 1 - 1 = hd.2.2 by omega]
      omega
    rw [if_neg c2] at h2
    have htext : ∀ k : Int, k = 5 ∨ k = 6 → bindP (textP F hd) (fun s => pureP (strT k s)) s = .good t r → (cbT t).length + r.length ≤ l.length + bigT t := fun k hk hx => by
      obtain ⟨x, r1, g1, g2⟩ := bindP_good hx
      obtain ⟨e1, e2⟩ := hpu g2
      subst e1 e2
      have hxl : x.length ≤ 400 := by
        unfold strT at hok
        rw [okC] at hok
        rcases hok.1.shape with ⟨q, _⟩ | ⟨q, _⟩ | ⟨_, _, q, _⟩ | ⟨q, _⟩ | ⟨q, hs, _⟩ | ⟨q, hs, _⟩ | ⟨q⟩ | ⟨q, _⟩ | ⟨q, _⟩ | ⟨q, _⟩
        case text => exact hs
        case bytes => exact hs
        all_goals
          have := congrArg Own.kind q
          simp only [] at this
          omega
      have hsz : (⟨x.toArray⟩ : ByteArray).size = x.length := rfl
      have htx : (txO (strT k x).own).length = x.length := by
        unfold txO
        rw [if_pos (show (strT k x).own.kind = 5 ∨ (strT k x).own.kind = 6 from hk)]
        rfl
      have hdk : (hdO (strT k x).own 0).2.1 = (leastN x.length).1 := by
        rcases hk with hk | hk
        · subst hk
          rw [hdO_5 _ rfl]
          rfl
        · subst hk
          rw [hdO_6 _ rfl]
          rfl
      rw [hleaf rfl, htx, hdk]
      unfold textP at g1
      by_cases h31 : hd.2.1 = 31
      · rw [if_pos h31] at g1
        obtain ⟨new, e, k1, k2⟩ := chunks_len _ _ _ _ _ _ g1
        rw [List.nil_append] at e
        subst e
        have h5 : 1 + s.length = l.length := by
          rcases head_facts h1 with ⟨_, _, q⟩ | ⟨q, _⟩
          · exact q
          · omega
        by_cases q : x.length < 256
        · have := extra_one q
          omega
        · have h6 := extra_le (n := x.length) (by omega)
          have h7 := k2 (fun e => by rw [e] at q; simp at q)
          omega
      · rw [if_neg h31] at g1
        have g3 := bytes_facts g1
        have h3 := head_len h1 h31
        rw [g3.1]
        omega
    by_cases c3 : hd.1 = 2
    · rw [if_pos c3] at h2
      exact htext 6 (.inr rfl) h2
    rw [if_neg c3] at h2
    by_cases c4 : hd.1 = 3
    · rw [if_pos c4] at h2
      exact htext 5 (.inl rfl) h2
    rw [if_neg c4] at h2
    by_cases c5 : hd.1 = 4
    · rw [if_pos c5] at h2
      obtain ⟨L, r1, g1, g2⟩ := bindP_good h2
      obtain ⟨e1, e2⟩ := hpu g2
      subst e1 e2
      unfold listT at hok hcn ⊢
      rw [okC] at hok
      rw [Tr.count] at hcn
      have hLc := len_le_count L
      rw [cbT, hdO_7 _ rfl, List.length_append, List.length_append, itemL_len, bigT]
      have htx : (txO { zeroO with kind := 7 }).length = 0 := rfl
      rw [htx]
      unfold listP at g1
      by_cases h31 : hd.2.1 = 31
      · rw [if_pos h31] at g1
        obtain ⟨new, e, k1⟩ := open_len (read_len F d) (wantP_item F d) 0 _ _ _ _ _ g1
        rw [List.nil_append] at e
        subst e
        have k2 := k1 hok.2 (by omega)
        have h5 : 1 + s.length = l.length := by
          rcases head_facts h1 with ⟨_, _, q⟩ | ⟨q, _⟩
          · exact q
          · omega
        by_cases q : L.length < 256
        · have := extra_one q
          simp only []
          rw [if_neg (by omega)]
          omega
        · have h6 := extra_le (n := L.length) (by omega)
          simp only []
          rw [if_pos ⟨trivial, by omega⟩]
          omega
      · rw [if_neg h31] at g1
        obtain ⟨new, e, hn, k1⟩ := times_len (read_len F d) _ _ _ _ _ g1
        rw [List.nil_append] at e
        subst e
        have k2 := k1 hok.2 (by omega)
        have h3 := head_len h1 h31
        rw [Nat.one_mul] at hn
        rw [← hn] at h3
        simp only []
        split <;> omega
    rw [if_neg c5] at h2
    by_cases c6 : hd.1 = 5
    · rw [if_pos c6] at h2
      obtain ⟨L, r1, g1, g2⟩ := bindP_good h2
      obtain ⟨e1, e2⟩ := hpu g2
      subst e1 e2
      unfold listT at hok hcn ⊢
      rw [okC] at hok
      rw [Tr.count] at hcn
      have hLc := len_le_count L
      rw [cbT, hdO_8 _ rfl, List.length_append, List.length_append, itemL_len, bigT]
      have htx : (txO { zeroO with kind := 8 }).length = 0 := rfl
      rw [htx, if_neg (by simp)]
      unfold listP at g1
      by_cases h31 : hd.2.1 = 31
      · rw [if_pos h31] at g1
        obtain ⟨new, e, k1⟩ := open_len (read_len F d) (wantP_item F d) 1 _ _ _ _ _ g1
        rw [List.nil_append] at e
        subst e
        have k2 := k1 hok.2 (by omega)
        have h5 : 1 + s.length = l.length := by
          rcases head_facts h1 with ⟨_, _, q⟩ | ⟨q, _⟩
          · exact q
          · omega
        have := extra_one (n := L.length / 2) (by omega)
        simp only []
        omega
      · rw [if_neg h31] at g1
        obtain ⟨new, e, hn, k1⟩ := times_len (read_len F d) _ _ _ _ _ g1
        rw [List.nil_append] at e
        subst e
        have k2 := k1 hok.2 (by omega)
        have h3 := head_len h1 h31
        have h4 : L.length / 2 = hd.2.2 := by omega
        rw [h4]
        simp only []
        omega
    rw [if_neg c6] at h2
    by_cases c7 : hd.1 = 6
    · rw [if_pos c7] at h2
      obtain ⟨x, r1, g1, g2⟩ := bindP_good h2
      obtain ⟨e1, e2⟩ := hpu g2
      subst e1 e2
      unfold tagT at hok hcn ⊢
      rw [okC, okCL] at hok
      rw [Tr.count, countL, countL] at hcn
      have k2 := read_len F d _ _ _ g1 hok.2.1 (by omega)
      have h3 := head_len h1 (fun q => c0 ⟨.inr c7, q⟩)
      rw [cbT, hdO_9 _ rfl, List.length_append, List.length_append, itemL_len, bigT, cbL, cbL, List.append_nil, bigL, bigL]
      have htx : (txO { zeroO with kind := 9, u := (hd.2.2 : Int) }).length = 0 := rfl
      rw [htx, if_neg (by simp)]
      simp only [Int.toNat_natCast]
      omega
    rw [if_neg c7] at h2
    have hfl : ∀ (x : Tr), pureP x s = .good t r → x.kids = [] → txO x.own = [] → (hd.2.1 ≠ 31 → extraN (hdO x.own 0).2.1 ≤ extraN hd.2.1) → hd.2.1 ≠ 31 → (cbT t).length + r.length ≤ l.length + bigT t := fun x hx hk ht he h31 => by
      obtain ⟨e1, e2⟩ := hpu hx
      subst e1 e2
      rw [hleaf hk, ht]
      have h4 := he h31
      rcases head_facts h1 with ⟨q, _⟩ | ⟨_, _, _, q⟩
      · exact absurd q h31
      · simp only [List.length_nil]
        omega
    have hsm : ∀ n : Nat, pureP (simpleT n) s = .good t r → hd.2.1 ≠ 31 → n = hd.2.2 → (cbT t).length + r.length ≤ l.length + bigT t := fun n hx h31 e => by
      refine hfl (simpleT n) hx rfl rfl (fun _ => ?_) h31
      have e2 : (hdO (simpleT n).own 0).2.1 = (leastN n).1 := by
        rw [hdO_10 _ rfl]
        show (leastN ((n : Nat) : Int).toNat).1 = _
        rw [Int.toNat_natCast]
      rw [e2, e]
      rcases head_facts h1 with ⟨q, _⟩ | ⟨q1, q2, q3, _⟩
      · exact absurd q h31
      · exact extra_least q1 q2 q3
    unfold otherP at h2
    by_cases b1 : hd.2.1 = 20 ∨ hd.2.1 = 21
    · rw [if_pos b1] at h2
      refine hfl _ h2 rfl rfl (fun _ => ?_) (by omega)
      rw [show (hdO (boolT (decide (hd.2.1 = 21))).own 0).2.1 = if decide (hd.2.1 = 21) = true then 21 else 20 from by
        rw [hdO_2 _ rfl]
        show (if decide (hd.2.1 = 21) = true then ((7, 21, 21) : Nat × Nat × Nat) else (7, 20, 20)).2.1 = _
        split <;> rfl]
      have : extraN (if decide (hd.2.1 = 21) = true then 21 else 20) = 0 := by split <;> rfl
      rw [this]
      exact Nat.zero_le _
    rw [if_neg b1] at h2
    by_cases b2 : hd.2.1 = 22
    · rw [if_pos b2] at h2
      exact hfl _ h2 rfl rfl (fun _ => by rw [show extraN (hdO nilT.own 0).2.1 = 0 from rfl]; exact Nat.zero_le _) (by omega)
    rw [if_neg b2] at h2
    by_cases b3 : hd.2.1 = 24
    · rw [if_pos b3] at h2
      split at h2
      · cases h2
      · exact hsm _ h2 (by omega) rfl
    rw [if_neg b3] at h2
    by_cases b4 : hd.2.1 = 25
    · rw [if_pos b4] at h2
      exact hfl _ h2 rfl rfl (fun _ => by rw [b4]; exact Nat.le_refl 2) (by omega)
    rw [if_neg b4] at h2
    by_cases b5 : hd.2.1 = 26
    · rw [if_pos b5] at h2
      exact hfl _ h2 rfl rfl (fun _ => by rw [b5]; exact Nat.le_refl 4) (by omega)
    rw [if_neg b5] at h2
    by_cases b6 : hd.2.1 = 27
    · rw [if_pos b6] at h2
      exact hfl _ h2 rfl rfl (fun _ => by rw [b6]; exact Nat.le_refl 8) (by omega)
    rw [if_neg b6] at h2
    by_cases b7 : hd.2.1 = 31
    · rw [if_pos b7] at h2
      cases h2
    rw [if_neg b7] at h2
    exact hsm _ h2 b7 rfl
end Go.Proofs.YtflkmhgbinlfiaaGreatDoor
