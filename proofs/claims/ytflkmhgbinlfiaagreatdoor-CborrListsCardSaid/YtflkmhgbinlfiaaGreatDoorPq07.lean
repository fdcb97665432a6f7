/- The texts CbP, CrD, CrE, CrF, put together. -/
import Derived.Test.YtflkmhgbinlfiaaGreatDoorPq06
import Derived.Test.YtflkmhgbinlfiaaGreatDoorPq04
namespace Go.Proofs.YtflkmhgbinlfiaaGreatDoor
open Go.RowKit Go.Shelf

/-- How many bytes stand behind the first one of a head. -/
def extraN (info : Nat) : Nat := if info < 24 then 0 else 2 ^ (info - 24)
/-- A head of major, info, argument. -/
def itemL (x : Nat × Nat × Nat) : List UInt8 := firstByte x.1 x.2.1 :: beBytes x.2.2 (extraN x.2.1)
structure HdOk (x : Nat × Nat × Nat) : Prop where
  maj : x.1 ≤ 7
  info : x.2.1 ≤ 27
  small : x.2.1 < 24 → x.2.2 = x.2.1
  big : 24 ≤ x.2.1 → x.2.2 < 2 ^ (8 * 2 ^ (x.2.1 - 24))
theorem readL_item (x : Nat × Nat × Nat) (h : HdOk x) (t : List UInt8) : readL (itemL x ++ t) = ⟨x.1, x.2.1, x.2.2, t, 0⟩ := by
  obtain ⟨maj, info, n⟩ := x
  obtain ⟨h1, h2, h3, h4⟩ := h
  simp only [] at h1 h2 h3 h4
  unfold itemL extraN
  simp only []
  rw [List.cons_append, readL_first maj info _ h1 (by omega)]
  by_cases hs : info < 24
  · rw [if_pos hs, if_pos hs, h3 hs]
    rfl
  · rw [if_neg hs, if_neg hs, if_neg (by omega), if_neg (by omega)]
    rw [if_neg (by simp [beBytes_length])]
    rw [List.take_left' (beBytes_length _ _), List.drop_left' (beBytes_length _ _), beVal_beBytes _ n (h4 (by omega))]
theorem makeL_item (maj n : Nat) (hn : n < 18446744073709551616) : makeL maj n = itemL (maj, (leastN n).1, n) := by
  unfold makeL itemL extraN
  rcases leastN_is n hn with ⟨h1, h2, h3⟩ | ⟨h1, h2, h3, h4, _⟩
  · simp only [h2, h3, h1, if_true]
  · simp only []
    rw [if_neg (by omega), h4]
theorem least_ok (maj n : Nat) (hm : maj ≤ 7) (hn : n < 18446744073709551616) : HdOk (maj, (leastN n).1, n) := by
  rcases leastN_is n hn with ⟨h1, h2, h3⟩ | ⟨h1, h2, h3, h4, h5, _⟩
  · exact ⟨hm, by simp only []; omega, fun _ => h2.symm, fun h => by simp only [] at h; omega⟩
  · refine ⟨hm, h3, fun h => by simp only [] at h; omega, fun _ => ?_⟩
    simp only []
    rw [← h4]
    exact h5


/-- A node that is right, and fits CBOR. -/
structure NodeC (o : Own) (l : List Tr) : Prop where
  own : ownB o l = true
  fit : fitO 2 flC o l = true
  ok : OwnOk o
  len : l.length < 18446744073709551616
/-- Its shape: nothing but what its kind has. -/
inductive ShapeC (o : Own) (l : List Tr) : Prop
  | null (h : o = { zeroO with kind := 1 }) (hl : l.length = 0)
  | bool (h : o = { zeroO with kind := 2, b := o.b }) (hl : l.length = 0)
  | num (neg : Bool) (n : Nat) (h : o = { zeroO with kind := 3, neg := o.neg, dg := o.dg, ex := o.ex }) (hn : toIntD o.neg o.dg o.ex = some (neg, n)) (hl : l.length = 0)
  | float (h : o = { zeroO with kind := 4, u := o.u, wd := o.wd }) (hw : (o.wd = 16 ∧ o.u < 65536) ∨ (o.wd = 32 ∧ o.u < 4294967296) ∨ o.wd = 64) (hl : l.length = 0)
  | text (h : o = { zeroO with kind := 5, s := o.s }) (hs : o.s.size ≤ 400) (hv : Lib.validD o.s.data.toList = true) (hl : l.length = 0)
  | bytes (h : o = { zeroO with kind := 6, s := o.s }) (hs : o.s.size ≤ 400) (hl : l.length = 0)
  | array (h : o = { zeroO with kind := 7 })
  | map (h : o = { zeroO with kind := 8 }) (hl : l.length % 2 = 0) (hk : keysB l = true) (hf : keysFit 2 l = true)
  | tag (h : o = { zeroO with kind := 9, u := o.u }) (hl : l.length = 1)
  | simple (h : o = { zeroO with kind := 10, u := o.u }) (hu : o.u ≤ 19 ∨ o.u = 23 ∨ (32 ≤ o.u ∧ o.u ≤ 255)) (hl : l.length = 0)
theorem only_eq {o x : Own} {k : Int} (h : onlyB o x = true) (hk : o.kind = k) : o = { x with kind := k } := by
  unfold onlyB at h
  rw [decide_eq_true_iff] at h
  rw [← hk]
  exact h
theorem NodeC.shape {o : Own} {l : List Tr} (h : NodeC o l) : ShapeC o l := by
  obtain ⟨ho, hf, _, _⟩ := h
  unfold ownB at ho
  unfold fitO at hf
  by_cases h1 : o.kind = 1
  · rw [if_pos h1] at ho
    simp only [Bool.and_eq_true, decide_eq_true_iff] at ho
    exact .null (only_eq ho.2 h1) ho.1
  rw [if_neg h1] at ho
  by_cases h2 : o.kind = 2
  · rw [if_pos h2] at ho
    simp only [Bool.and_eq_true, decide_eq_true_iff] at ho
    exact .bool (only_eq ho.2 h2) ho.1
  rw [if_neg h2] at ho
  by_cases h3 : o.kind = 3
  · rw [if_pos h3] at ho
    simp only [Bool.and_eq_true, decide_eq_true_iff] at ho
    rw [if_neg (by omega), if_pos h3] at hf
    simp only [Bool.or_eq_true, Bool.and_eq_true, decide_eq_true_iff] at hf
    have hs : (toIntD o.neg o.dg o.ex).isSome = true := by
      rcases hf with hf | hf | hf
      · omega
      · exact hf.2
      · omega
    obtain ⟨⟨neg, n⟩, hn⟩ := Option.isSome_iff_exists.1 hs
    exact .num neg n (only_eq ho.2.1 h3) hn ho.1
  rw [if_neg h3] at ho
  by_cases h4 : o.kind = 4
  · rw [if_pos h4] at ho
    simp only [Bool.and_eq_true, decide_eq_true_iff] at ho
    refine .float (only_eq ho.2.1 h4) ?_ ho.1
    have hw := ho.2.2
    unfold wideOk at hw
    split at hw
    · rename_i e
      exact .inr (.inr e)
    · split at hw
      · rename_i e
        exact .inl ⟨e, by simpa using hw⟩
      · split at hw
        · rename_i e
          exact .inr (.inl ⟨e, by simpa using hw⟩)
        · cases hw
  rw [if_neg h4] at ho hf
  rw [if_neg h3] at hf
  by_cases h5 : o.kind = 5
  · rw [if_pos h5] at ho
    simp only [Bool.and_eq_true, decide_eq_true_iff] at ho
    exact .text (only_eq ho.2.1 h5) ho.2.2.1 ho.2.2.2 ho.1
  rw [if_neg h5] at ho
  by_cases h6 : o.kind = 6
  · rw [if_pos h6] at ho
    simp only [Bool.and_eq_true, decide_eq_true_iff] at ho
    exact .bytes (only_eq ho.2.1 h6) ho.2.2 ho.1
  rw [if_neg h6] at ho hf
  by_cases h7 : o.kind = 7
  · rw [if_pos h7] at ho
    exact .array (only_eq ho h7)
  rw [if_neg h7] at ho
  by_cases h8 : o.kind = 8
  · rw [if_pos h8] at ho
    simp only [Bool.and_eq_true, decide_eq_true_iff] at ho
    rw [if_neg (by omega), if_neg (by omega), if_pos h8, Bool.and_eq_true] at hf
    exact .map (only_eq ho.1 h8) ho.2.1 ho.2.2 hf.2
  rw [if_neg h8] at ho
  by_cases h9 : o.kind = 9
  · rw [if_pos h9] at ho
    simp only [Bool.and_eq_true, decide_eq_true_iff] at ho
    exact .tag (only_eq ho.2 h9) ho.1
  rw [if_neg h9] at ho
  by_cases h10 : o.kind = 10
  · rw [if_pos h10] at ho
    simp only [Bool.and_eq_true, Bool.or_eq_true, decide_eq_true_iff] at ho
    exact .simple (only_eq ho.2.1 h10) ho.2.2 ho.1
  rw [if_neg h10] at ho
  by_cases h11 : o.kind = 11
  · rw [if_neg (by omega), if_pos h11] at hf
    simp at hf
  · rw [if_neg h11] at ho
    cases ho


end Go.Proofs.YtflkmhgbinlfiaaGreatDoor
namespace Go.Proofs.YtflkmhgbinlfiaaGreatDoor
open Go.RowKit Go.Shelf

theorem head_item (x : Nat × Nat × Nat) (h : HdOk x) (t : List UInt8) : headP (itemL x ++ t) = .good x t := by
  unfold headP
  rw [readL_item x h t]
  rfl
theorem bytes_all (l m : List UInt8) : bytesP l.length (l ++ m) = .good l m := by
  unfold bytesP
  rw [if_neg (by rw [List.length_append]; omega), List.take_left' rfl, List.drop_left' rfl]
end Go.Proofs.YtflkmhgbinlfiaaGreatDoor
namespace Go.Proofs.YtflkmhgbinlfiaaGreatDoor
open Go.RowKit Go.Shelf

theorem head_facts {l r : List UInt8} {h : Nat × Nat × Nat} (hp : headP l = .good h r) :
    (h.2.1 = 31 ∧ h.2.2 = 0 ∧ 1 + r.length = l.length) ∨ (h.2.1 ≤ 27 ∧ (h.2.1 < 24 → h.2.2 = h.2.1) ∧ (24 ≤ h.2.1 → h.2.2 < 2 ^ (8 * 2 ^ (h.2.1 - 24))) ∧ 1 + extraN h.2.1 + r.length = l.length) := by
  cases l with
  | nil => cases hp
  | cons b s =>
    unfold headP at hp
    rw [readL_cons] at hp
    by_cases h1 : b.toNat % 32 < 24
    · simp only [if_pos h1, if_true] at hp
      injection hp with e1 e2
      subst e1 e2
      refine .inr ⟨by simp only []; omega, fun _ => rfl, fun h => by simp only [] at h; omega, ?_⟩
      unfold extraN
      simp only [if_pos h1]
      rw [List.length_cons]
      omega
    · by_cases h2 : b.toNat % 32 = 31
      · simp only [if_neg h1, if_pos h2, if_true] at hp
        injection hp with e1 e2
        subst e1 e2
        exact .inl ⟨rfl, rfl, by rw [List.length_cons]; omega⟩
      · by_cases h3 : 27 < b.toNat % 32
        · simp only [if_neg h1, if_neg h2, if_pos h3] at hp
          cases hp
        · simp only [if_neg h1, if_neg h2, if_neg h3] at hp
          obtain ⟨x, hx⟩ : ∃ x, 2 ^ (b.toNat % 32 - 24) = x := ⟨_, rfl⟩
          rw [hx] at hp
          by_cases h4 : s.length < x
          · simp only [if_pos h4] at hp
            cases hp
          · simp only [if_neg h4, if_true] at hp
            injection hp with e1 e2
            subst e1 e2
            refine .inr ⟨by simp only []; omega, fun h => absurd h h1, fun _ => ?_, ?_⟩
            · simp only [hx]
              have := beVal_lt (s.take x)
              rw [List.length_take, Nat.min_eq_left (by omega)] at this
              exact this
            · unfold extraN
              simp only [if_neg h1, hx]
              rw [List.length_cons, List.length_drop]
              omega
theorem bytes_facts {n : Nat} {l s r : List UInt8} (hp : bytesP n l = .good s r) : s.length = n ∧ s.length + r.length = l.length := by
  unfold bytesP at hp
  split at hp
  · cases hp
  · injection hp with e1 e2
    subst e1 e2
    rw [List.length_take, List.length_drop]
    omega
theorem chunk_len {maj : Nat} {l s r : List UInt8} (hp : chunkP maj l = .good s r) : s.length + r.length + 1 ≤ l.length := by
  obtain ⟨h, r1, h1, h2⟩ := bindP_good hp
  have h3 := goodP_head _ _ _ h1
  split at h2
  · cases h2
  · have h4 := bytes_facts h2
    rcases head_facts h1 with ⟨_, _, h5⟩ | ⟨_, _, _, h5⟩ <;> omega
end Go.Proofs.YtflkmhgbinlfiaaGreatDoor
namespace Go.Proofs.YtflkmhgbinlfiaaGreatDoor
open Go.RowKit Go.Shelf

theorem head_make (maj n : Nat) (hm : maj ≤ 7) (hn : n < 18446744073709551616) (t : List UInt8) : headP (makeL maj n ++ t) = .good (maj, (leastN n).1, n) t := by
  rw [makeL_item maj n hn]
  exact head_item _ (least_ok maj n hm hn) t
theorem least_ne (n : Nat) (hn : n < 18446744073709551616) : (leastN n).1 ≠ 31 := by
  have := (least_ok 0 n (by decide) hn).info
  simp only [] at this
  omega
theorem make_first (maj n : Nat) (hm : maj ≤ 6) (hn : n < 18446744073709551616) : ∃ c r, makeL maj n = c :: r ∧ c ≠ 255 := by
  refine ⟨firstByte maj (leastN n).1, beBytes n (leastN n).2, rfl, fun e => ?_⟩
  have h1 := congrArg UInt8.toNat e
  have h2 := (least_ok 0 n (by decide) hn).info
  simp only [] at h2
  rw [firstByte_toNat maj _ (by omega) (by omega)] at h1
  have : (255 : UInt8).toNat = 255 := rfl
  omega
/-- Pieces in chunks. -/
def inChunks (maj : Nat) (ps : List (List UInt8)) : List UInt8 := (ps.map fun c => makeL maj c.length ++ c).flatten
theorem chunks_read (maj : Nat) (hm : maj ≤ 6) : ∀ (ps : List (List UInt8)) (f : Nat) (acc m : List UInt8), ps.length < f → (∀ c ∈ ps, c.length < 18446744073709551616) → chunksP maj f acc (inChunks maj ps ++ 255 :: m) = .good (acc ++ ps.flatten) m
  | [], f, acc, m, hf, _ => by
    obtain ⟨f, rfl⟩ : ∃ g, f = g + 1 := ⟨f - 1, by simp at hf; omega⟩
    show PR.good acc m = _
    simp
  | c :: ps, f, acc, m, hf, hl => by
    obtain ⟨f, rfl⟩ : ∃ g, f = g + 1 := ⟨f - 1, by simp at hf; omega⟩
    have hc := hl c (by simp)
    have ih := chunks_read maj hm ps f (acc ++ c) m (by simpa using hf) (fun x hx => hl x (by simp [hx]))
    obtain ⟨b, r, e1, e2⟩ := make_first maj c.length hm hc
    have hs : inChunks maj (c :: ps) ++ 255 :: m = makeL maj c.length ++ (c ++ (inChunks maj ps ++ 255 :: m)) := by
      unfold inChunks
      rw [List.map_cons, List.flatten_cons, List.append_assoc, List.append_assoc]
    have hq : chunksP maj (f + 1) acc (inChunks maj (c :: ps) ++ 255 :: m) = bindP (chunkP maj) (fun c => chunksP maj f (acc ++ c)) (makeL maj c.length ++ (c ++ (inChunks maj ps ++ 255 :: m))) := by
      rw [hs, e1]
      show endP acc _ (b :: (r ++ _)) = _
      unfold endP
      simp [e2]
    have h1 : chunkP maj (makeL maj c.length ++ (c ++ (inChunks maj ps ++ 255 :: m))) = .good c (inChunks maj ps ++ 255 :: m) := by
      show bindP headP _ _ = _
      rw [bindP_of (head_make maj _ (by omega) hc _)]
      show (if maj ≠ maj ∨ (leastN c.length).1 = 31 then badP 110 else bytesP c.length) _ = _
      rw [if_neg (fun h => h.elim (fun h => h rfl) (least_ne _ hc))]
      exact bytes_all _ _
    rw [hq, bindP_of h1, ih, List.append_assoc]
    rfl
/-- The kind of a text's major. -/
def kindM (maj : Nat) : Int := if maj = 3 then 5 else 6
theorem text_body {F : Nat} {p : Psr Tr} {maj info arg : Nat} (hm : maj = 2 ∨ maj = 3) : bodyP F p (maj, info, arg) = bindP (textP F (maj, info, arg)) fun s => pureP (strT (kindM maj) s) := by
  unfold bodyP
  rcases hm with rfl | rfl
  · rw [if_neg (by simp), if_neg (by simp), if_neg (by simp), if_pos rfl]
    rfl
  · rw [if_neg (by simp), if_neg (by simp), if_neg (by simp), if_neg (by simp), if_pos rfl]
    rfl
theorem chunked_item (F d maj : Nat) (hm : maj = 2 ∨ maj = 3) (ps : List (List UInt8)) (m : List UInt8) (hf : ps.length < F) (hl : ∀ c ∈ ps, c.length < 18446744073709551616) :
    itemP F (d + 1) (firstByte maj 31 :: (inChunks maj ps ++ 255 :: m)) = .good (strT (kindM maj) ps.flatten) m := by
  have h1 : headP (firstByte maj 31 :: (inChunks maj ps ++ 255 :: m)) = .good (maj, 31, 0) (inChunks maj ps ++ 255 :: m) := by
    unfold headP
    rw [readL_first maj 31 _ (by omega) (by omega)]
    rfl
  show bindP headP _ _ = _
  rw [bindP_of h1, text_body hm]
  have h2 := chunks_read maj (by omega) ps F [] m hf hl
  rw [List.nil_append] at h2
  have h3 : textP F (maj, 31, 0) (inChunks maj ps ++ 255 :: m) = .good ps.flatten m := by
    unfold textP
    rw [if_pos rfl]
    exact h2
  rw [bindP_of h3]
  rfl
theorem array_item (F d n : Nat) (hn : n < 18446744073709551616) (s : List UInt8) :
    itemP F (d + 1) (makeL 4 n ++ s) = bindP (timesP (itemP F d) n []) (fun l => pureP (listT 7 l)) s := by
  show bindP headP _ _ = _
  rw [bindP_of (head_make 4 _ (by omega) hn _)]
  unfold bodyP listP
  rw [if_neg (by simp), if_neg (by simp), if_neg (by simp), if_neg (by simp), if_neg (by simp), if_pos rfl, if_neg (least_ne _ hn), Nat.one_mul]
theorem open_item (F d : Nat) (s : List UInt8) :
    itemP F (d + 1) (159 :: s) = bindP (openP (itemP F d) 1 F []) (fun l => pureP (listT 7 l)) s := by
  have h1 : headP (159 :: s) = .good (4, 31, 0) s := by
    unfold headP
    rw [readL_cons]
    rfl
  show bindP headP _ _ = _
  rw [bindP_of h1]
  unfold bodyP listP
  rw [if_neg (by simp), if_neg (by simp), if_neg (by simp), if_neg (by simp), if_neg (by simp), if_pos rfl, if_pos rfl]
/-- What is read of a document: an error, or a tree. -/
noncomputable def readC (F : Nat) (l : List UInt8) : Int × Tr :=
  if 4000 < l.length then (81, .nd zeroO [])
  else match itemP F 16 l with
    | .bad e => (e, .nd zeroO [])
    | .good t r => if r ≠ [] then (110, .nd zeroO []) else if checkT 2 flC t = 0 then (0, t) else (checkT 2 flC t, .nd zeroO [])
/-- An item's errors. -/
theorem headE_ne (e : Nat) (h : e ≠ 0) : headE e ≠ 0 := by
  unfold headE
  split <;> omega
/-- No error is 0. -/
def ErrP {α : Type} (p : Psr α) : Prop := ∀ l e, p l = .bad e → e ≠ 0
theorem errP_pure {α : Type} (a : α) : ErrP (pureP a) := fun l e h => by
  unfold pureP at h
  cases h
theorem errP_bad {α : Type} {e : Int} (h : e ≠ 0) : ErrP (badP (α := α) e) := fun l e' h' => by
  unfold badP at h'
  injection h' with h'
  rw [← h']
  exact h
theorem errP_bind {α β : Type} {p : Psr α} {f : α → Psr β} (hp : ErrP p) (hf : ∀ a, ErrP (f a)) : ErrP (bindP p f) := fun l e h => by
  unfold bindP at h
  split at h
  · exact hf _ _ _ h
  · rename_i e' he
    injection h with h
    rw [← h]
    exact hp _ _ he
theorem errP_ite {α : Type} {c : Prop} [Decidable c] {p q : Psr α} (hp : ErrP p) (hq : ErrP q) : ErrP (if c then p else q) := by
  split
  · exact hp
  · exact hq
theorem errP_end {α : Type} {a : α} {p : Psr α} (hp : ErrP p) : ErrP (endP a p) := fun l e h => by
  unfold endP at h
  split at h
  · exact hp _ _ h
  · split at h
    · cases h
    · exact hp _ _ h
theorem errP_head : ErrP headP := fun l e h => by
  unfold headP at h
  split at h
  · cases h
  · rename_i hn
    injection h with h
    rw [← h]
    exact headE_ne _ hn
theorem errP_bytes (n : Nat) : ErrP (bytesP n) := fun l e h => by
  unfold bytesP at h
  split at h
  · injection h with h
    rw [← h]
    decide
  · cases h
theorem errP_chunks (maj : Nat) : ∀ f acc, ErrP (chunksP maj f acc)
  | 0, _ => errP_bad (by decide)
  | f + 1, _ => errP_end (errP_bind (errP_bind errP_head fun _ => errP_ite (errP_bad (by decide)) (errP_bytes _)) fun _ => errP_chunks maj f _)
theorem errP_times {p : Psr Tr} (hp : ErrP p) : ∀ n acc, ErrP (timesP p n acc)
  | 0, _ => errP_pure _
  | n + 1, _ => errP_bind hp fun _ => errP_times hp n _
theorem errP_open {p : Psr Tr} (hp : ErrP p) (size : Nat) : ∀ f acc, ErrP (openP p size f acc)
  | 0, _ => errP_bad (by decide)
  | f + 1, _ => errP_end (errP_bind (errP_times hp _ _) fun _ => errP_open hp size f _)
theorem errP_item (F : Nat) : ∀ d, ErrP (itemP F d)
  | 0 => fun l e h => by
    unfold itemP at h
    split at h <;> (injection h with h; rw [← h]; decide)
  | d + 1 => errP_bind errP_head fun h => by
    have hi := errP_item F d
    have ht : ErrP (textP F h) := errP_ite (errP_chunks _ _ _) (errP_bytes _)
    have hl : ∀ size, ErrP (listP F (itemP F d) size h) := fun size => errP_ite (errP_open hi _ _ _) (errP_times hi _ _)
    exact errP_ite (errP_bad (by decide)) (errP_ite (errP_pure _) (errP_ite (errP_pure _) (errP_ite (errP_bind ht fun _ => errP_pure _) (errP_ite (errP_bind ht fun _ => errP_pure _) (errP_ite (errP_bind (hl _) fun _ => errP_pure _) (errP_ite (errP_bind (hl _) fun _ => errP_pure _) (errP_ite (errP_bind hi fun _ => errP_pure _)
      (errP_ite (errP_pure _) (errP_ite (errP_pure _) (errP_ite (errP_ite (errP_bad (by decide)) (errP_pure _)) (errP_ite (errP_pure _) (errP_ite (errP_pure _) (errP_ite (errP_pure _) (errP_ite (errP_bad (by decide)) (errP_pure _)))))))))))))))
end Go.Proofs.YtflkmhgbinlfiaaGreatDoor
