/- The texts NatP, NatB, Build, put together. -/
import Derived.Test.YtflkmhgbinlfiaaGreatDoorPq06
import Derived.Lib.ParseIntBCases
import Derived.Test.YtflkmhgbinlfiaaGreatDoorPq35
import Derived.Test.YtflkmhgbinlfiaaGreatDoorPq22
import Derived.Test.YtflkmhgbinlfiaaGreatDoorPq01
import Derived.Test.YtflkmhgbinlfiaaGreatDoorChecked
import Derived.Test.YtflkmhgbinlfiaaGreatDoorPq13
namespace Go.Proofs.YtflkmhgbinlfiaaGreatDoor
open Go.RowKit Go.Shelf

def lim (n i : Nat) : Nat := n / 10 ^ (9 * i) % 1000000000
theorem lim_lt (n i : Nat) : lim n i < 1000000000 := Nat.mod_lt _ (by decide)
theorem lim_0 (n : Nat) : lim n 0 = n % 1000000000 := by
  unfold lim
  simp
theorem shr_succ (n i : Nat) : n / 10 ^ (9 * (i + 1)) = n / 10 ^ (9 * i) / 1000000000 := by
  rw [Nat.div_div_eq_div_mul, show 9 * (i + 1) = 9 * i + 9 from by omega, Nat.pow_add]
theorem shr_split (n i : Nat) : n / 10 ^ (9 * i) = n / 10 ^ (9 * (i + 1)) * 1000000000 + lim n i := by
  rw [shr_succ]
  unfold lim
  omega
theorem lim_top {n i : Nat} (h : n / 10 ^ (9 * (i + 1)) = 0) : lim n i = n / 10 ^ (9 * i) := by
  have := shr_split n i
  rw [h] at this
  omega
theorem lim_none {n i k : Nat} (h : n / 10 ^ (9 * k) = 0) (hk : k ≤ i) : lim n i = 0 := by
  unfold lim
  have h1 : n < 10 ^ (9 * k) := (Nat.div_eq_zero_iff_lt (Nat.pow_pos (by decide))).1 h
  have h2 : 10 ^ (9 * k) ≤ 10 ^ (9 * i) := Nat.pow_le_pow_right (by decide) (by omega)
  rw [Nat.div_eq_of_lt (by omega)]

theorem dval_base (b : List UInt8) : ∀ acc : Nat, dval acc b = dval 0 b + acc * 10 ^ b.length := by
  induction b with
  | nil =>
    intro acc
    have e : ∀ x, dval x [] = x := fun _ => rfl
    rw [e, e, List.length_nil, Nat.pow_zero]
    omega
  | cons c b ih =>
    intro acc
    have e : ∀ x, dval x (c :: b) = dval (x * 10 + (c.toNat - 48)) b := fun _ => rfl
    rw [e, e, ih (acc * 10 + (c.toNat - 48)), ih (0 * 10 + (c.toNat - 48)), List.length_cons, Nat.pow_succ, Nat.zero_mul, Nat.zero_add, Nat.add_mul, Nat.mul_assoc, Nat.mul_comm 10 (10 ^ b.length)]
    omega
theorem dval_two : ∀ (a b : List UInt8) (acc : Nat), dval acc (a ++ b) = dval (dval acc a) b
  | [], _, _ => rfl
  | _ :: a, b, _ => dval_two a b _
theorem dval_cat (b a : List UInt8) (acc : Nat) : dval acc (a ++ b) = dval 0 b + dval acc a * 10 ^ b.length := by
  rw [dval_two, dval_base]
/-- The group of nine digits that stands so far from the end. -/
def grp (D : List UInt8) (i : Nat) : List UInt8 := (D.take (D.length - 9 * i)).drop (D.length - 9 * (i + 1))
theorem dig_take {D : List UInt8} (hd : ∀ c ∈ D, isDig c = true) (m : Nat) : ∀ c ∈ D.take m, isDig c = true := fun c hc => hd c (List.mem_of_mem_take hc)
theorem grp_dig {D : List UInt8} (hd : ∀ c ∈ D, isDig c = true) (i : Nat) : ∀ c ∈ grp D i, isDig c = true := fun c hc => hd c (List.mem_of_mem_take (List.mem_of_mem_drop hc))
theorem front_val {D : List UInt8} (hd : ∀ c ∈ D, isDig c = true) (i : Nat) : dval 0 (D.take (D.length - 9 * i)) = dval 0 D / 10 ^ (9 * i) := by
  have h1 := dval_cat (D.drop (D.length - 9 * i)) (D.take (D.length - 9 * i)) 0
  rw [List.take_append_drop] at h1
  have h2 : dval 0 (D.drop (D.length - 9 * i)) < 10 ^ (D.drop (D.length - 9 * i)).length := dval_up (fun c hc => hd c (List.mem_of_mem_drop hc))
  rw [List.length_drop] at h1 h2
  by_cases h : 9 * i ≤ D.length
  · rw [show D.length - (D.length - 9 * i) = 9 * i from by omega] at h1 h2
    rw [h1, Nat.add_mul_div_right _ _ (Nat.pow_pos (by decide)), Nat.div_eq_of_lt h2]
    omega
  · rw [show D.length - 9 * i = 0 from by omega] at h1 ⊢
    have h3 := dval_up hd
    have h4 : 10 ^ D.length ≤ 10 ^ (9 * i) := Nat.pow_le_pow_right (by decide) (by omega)
    rw [Nat.div_eq_of_lt (by omega)]
    rfl
theorem grp_val {D : List UInt8} (hd : ∀ c ∈ D, isDig c = true) (i : Nat) : dval 0 (grp D i) = lim (dval 0 D) i := by
  have hX := front_val hd i
  have hY := front_val hd (i + 1)
  have h1 := dval_cat (grp D i) ((D.take (D.length - 9 * i)).take (D.length - 9 * (i + 1))) 0
  unfold grp at h1 ⊢
  rw [List.take_append_drop, List.take_take, show min (D.length - 9 * (i + 1)) (D.length - 9 * i) = D.length - 9 * (i + 1) from by omega, hX, hY] at h1
  have h2 : dval 0 ((D.take (D.length - 9 * i)).drop (D.length - 9 * (i + 1))) < 10 ^ ((D.take (D.length - 9 * i)).drop (D.length - 9 * (i + 1))).length := dval_up (fun c hc => hd c (List.mem_of_mem_take (List.mem_of_mem_drop hc)))
  rw [List.length_drop, List.length_take] at h1 h2
  have h3 := shr_split (dval 0 D) i
  by_cases h : 9 * (i + 1) ≤ D.length
  · rw [show min (D.length - 9 * i) D.length - (D.length - 9 * (i + 1)) = 9 from by omega] at h1 h2
    rw [show (10 : Nat) ^ 9 = 1000000000 from by decide] at h1
    omega
  · have h4 : dval 0 D / 10 ^ (9 * (i + 1)) = 0 := by
      rw [← hY, show D.length - 9 * (i + 1) = 0 from by omega]
      rfl
    rw [h4] at h1 h3
    omega
theorem grp_len (D : List UInt8) (i : Nat) : (grp D i).length ≤ 9 := by
  unfold grp
  rw [List.length_drop, List.length_take]
  omega
theorem grp_ne {D : List UInt8} {i : Nat} (h : 9 * i < D.length) : grp D i ≠ [] := fun e => by
  have := congrArg List.length e
  unfold grp at this
  rw [List.length_drop, List.length_take, List.length_nil] at this
  omega
/-- How many groups. -/
def grps (D : List UInt8) : Nat := (D.length + 8) / 9
theorem grps_end {D : List UInt8} (hd : ∀ c ∈ D, isDig c = true) : dval 0 D / 10 ^ (9 * grps D) = 0 := by
  rw [← front_val hd, show D.length - 9 * grps D = 0 from by unfold grps; omega]
  rfl
theorem grps_top {D : List UInt8} (hd : ∀ c ∈ D, isDig c = true) (h0 : D ≠ []) (hh : D.head? ≠ some 48) : dval 0 D / 10 ^ (9 * (grps D - 1)) ≠ 0 := by
  have hl : 0 < D.length := by
    rcases Nat.eq_zero_or_pos D.length with e | e
    · exact absurd (List.eq_nil_of_length_eq_zero e) h0
    · exact e
  rw [← front_val hd]
  have hm : 0 < D.length - 9 * (grps D - 1) := by
    unfold grps
    omega
  obtain ⟨m, hm'⟩ : ∃ m, D.length - 9 * (grps D - 1) = m + 1 := ⟨_, (Nat.succ_pred_eq_of_pos hm).symm⟩
  rw [hm']
  cases D with
  | nil => exact absurd rfl h0
  | cons c D =>
    have h1 := dval_head (l := (c :: D).take (m + 1)) (by simp) (dig_take hd _) (by simpa using hh)
    have h2 := Nat.pow_pos (n := ((c :: D).take (m + 1)).length - 1) (show 0 < 10 by decide)
    omega
theorem parseM_32 : ∀ (g : List UInt8) (acc : Nat), (∀ c ∈ g, isDig c = true) → dval acc g ≤ 4294967295 → Lib.parseUintM 4294967295 acc g = .ok (dval acc g)
  | [], acc, _, _ => rfl
  | c :: g, acc, hd, hl => by
    have hc := isDig_iff (hd c (List.mem_cons_self ..))
    have h1 : dval (acc * 10 + (c.toNat - 48)) g ≤ 4294967295 := hl
    have h2 := dval_ge g (acc * 10 + (c.toNat - 48))
    have ih := parseM_32 g (acc * 10 + (c.toNat - 48)) (fun x hx => hd x (List.mem_cons_of_mem _ hx)) h1
    unfold Lib.parseUintM
    rw [if_pos hc, if_neg (by omega), if_neg (by omega)]
    exact ih
theorem parse_32 {g : List UInt8} (h0 : g ≠ []) (hd : ∀ c ∈ g, isDig c = true) (hl : g.length ≤ 9) : Lib.parseUintB 32 g = .ok (dval 0 g) := by
  have h1 := dval_up hd
  have h2 : 10 ^ g.length ≤ 10 ^ 9 := Nat.pow_le_pow_right (by decide) hl
  have h3 : (10 : Nat) ^ 9 = 1000000000 := by decide
  unfold Lib.parseUintB
  rw [if_neg h0]
  exact parseM_32 g 0 hd (by omega)

def one (i : Nat) : Nat := if i = 0 then 1 else 0
def car (n i : Nat) : Nat := if i = 0 then 0 else (n + 1) / 10 ^ (9 * i) - n / 10 ^ (9 * i)
theorem car_le (n i : Nat) : n / 10 ^ (9 * i) ≤ (n + 1) / 10 ^ (9 * i) ∧ (n + 1) / 10 ^ (9 * i) ≤ n / 10 ^ (9 * i) + 1 := by
  have hp : 0 < 10 ^ (9 * i) := Nat.pow_pos (by decide)
  refine ⟨Nat.div_le_div_right (Nat.le_succ n), ?_⟩
  have h1 : (n + 1) / 10 ^ (9 * i) ≤ (n + 10 ^ (9 * i)) / 10 ^ (9 * i) := Nat.div_le_div_right (by omega)
  rw [Nat.add_div_right _ hp] at h1
  exact h1
theorem car_lt (n i : Nat) : car n i ≤ 1 := by
  unfold car
  split
  · omega
  · have := car_le n i
    omega
theorem add_limb (n i : Nat) : (car n i + (lim n i + one i)) % 1000000000 = lim (n + 1) i := by
  by_cases h : i = 0
  · subst h
    unfold car one lim
    simp
    try omega
  · unfold car one
    rw [if_neg h, if_neg h]
    have := car_le n i
    unfold lim
    omega
theorem add_carry (n i : Nat) : (car n i + (lim n i + one i)) / 1000000000 = car n (i + 1) := by
  by_cases h : i = 0
  · subst h
    unfold car one lim
    rw [if_pos rfl, if_pos rfl, if_neg (by decide)]
    simp
    omega
  · unfold car one
    rw [if_neg h, if_neg h, if_neg (by omega), shr_succ, shr_succ]
    have := car_le n i
    unfold lim
    generalize (n + 1) / 10 ^ (9 * i) = x at this ⊢
    generalize n / 10 ^ (9 * i) = y at this ⊢
    omega
/-- Where adding ends: the limbs of the next number, and no more. -/
theorem add_end {n i : Nat} (h0 : 0 < i) (h1 : n / 10 ^ (9 * i) = 0) (h2 : car n i = 0) : (n + 1) / 10 ^ (9 * i) = 0 := by
  unfold car at h2
  rw [if_neg (by omega)] at h2
  generalize (n + 1) / 10 ^ (9 * i) = x at h2 ⊢
  generalize n / 10 ^ (9 * i) = y at h1 h2
  omega

theorem dval_zeros48 : ∀ k : Nat, ∀ l : List UInt8, dval 0 (List.replicate k 48 ++ l) = dval 0 l
  | 0, l => rfl
  | k + 1, l => by
    rw [List.replicate_succ, List.cons_append]
    show dval (0 * 10 + ((48 : UInt8).toNat - 48)) _ = _
    exact dval_zeros48 k l
theorem dec_split (q r : Nat) (hq : 0 < q) (hr : r < 1000000000) : Lib.decDigits (q * 1000000000 + r) = Lib.decDigits q ++ (List.replicate (9 - (Lib.decDigits r).length) 48 ++ Lib.decDigits r) := by
  obtain ⟨a1, a2, a3⟩ := dec_facts (q * 1000000000 + r)
  obtain ⟨b1, b2, b3⟩ := dec_facts q
  obtain ⟨c1, c2, c3⟩ := dec_facts r
  have hl : (Lib.decDigits r).length ≤ 9 := by
    rcases Nat.eq_zero_or_pos r with e | e
    · subst e
      rw [Lib.decDigits_one (by decide)]
      decide
    · have h1 := dval_head c3 c2 (dec_head0 r r (Nat.le_refl _) e)
      rw [c1] at h1
      apply Decidable.byContradiction
      intro hc
      have h2 : 10 ^ 9 ≤ 10 ^ ((Lib.decDigits r).length - 1) := Nat.pow_le_pow_right (by decide) (by omega)
      have h3 : (10 : Nat) ^ 9 = 1000000000 := by decide
      omega
  have hh := dec_head0 q q (Nat.le_refl _) hq
  refine dval_inj' a3 (by simp [b3]) a2 ?_ (dec_head0 _ _ (Nat.le_refl _) (by omega)) ?_ ?_
  · intro c hc
    rcases List.mem_append.1 hc with h | h
    · exact b2 c h
    · rcases List.mem_append.1 h with h | h
      · rw [List.eq_of_mem_replicate h]
        decide
      · exact c2 c h
  · rw [head_append b3]
    exact hh
  · rw [a1, dval_cat, b1, dval_zeros48, c1, List.length_append, List.length_replicate, show 9 - (Lib.decDigits r).length + (Lib.decDigits r).length = 9 from by omega]
    have h3 : (10 : Nat) ^ 9 = 1000000000 := by decide
    omega
/-- A limb's digits, with zeros ahead. -/
def padL (r : Nat) : List UInt8 := List.replicate (9 - (Lib.decDigits r).length) 48 ++ Lib.decDigits r
theorem text_step {n i : Nat} (h : n / 10 ^ (9 * (i + 1)) ≠ 0) : Lib.decDigits (n / 10 ^ (9 * i)) = Lib.decDigits (n / 10 ^ (9 * (i + 1))) ++ padL (lim n i) := by
  rw [shr_split n i, dec_split _ _ (Nat.pos_of_ne_zero h) (lim_lt n i)]
  rfl
end Go.Proofs.YtflkmhgbinlfiaaGreatDoor
namespace Go.Proofs.YtflkmhgbinlfiaaGreatDoor
open Go.RowKit Go.Shelf
attribute [local go_sem] Oper.semAt_some wide_fn wide_depth

def gEnc (D : List UInt8) (i : Nat) : Array Value := #[.string (bs (grp D i))]
/-- What a round's body keeps: all below n, and the iterator's own block. -/
def KpN (n b : Nat) (A B : World) : Prop := Below n A B ∧ (b < A.heap.size → B.heap[b]? = A.heap[b]?)
theorem kpN_trans {n b : Nat} {A B C : World} (h1 : KpN n b A B) (h2 : KpN n b B C) : KpN n b A C :=
  ⟨h1.1.trans h2.1, fun h => (h2.2 (Nat.lt_of_lt_of_le h h1.1.size)).trans (h1.2 h)⟩
theorem kpN_put {n b m : Nat} (W : World) (l : Nat) (o o' : Obj) (hn : n ≤ m) (hb : b < m) (hl : m ≤ l) (ho : W.heap[l]? = some o) : KpN n b W (W.putObj l o') := by
  have hlt := (Array.getElem?_eq_some_iff.1 ho).1
  exact ⟨(Below.refl _ W).grown (grownBy_putObj' W l o') (by omega) (fun k e => by cases e; omega), fun _ => World.putObj_heap_other (by omega)⟩
def sizeB (W : World) (b : Nat) : Nat := match W.cell? ⟨b, 0, none⟩ with
  | some (.string s) => s.size
  | _ => 0
theorem sizeB_of {W : World} {b : Nat} {s : ByteArray} {t : TypeId} (h : Blk W b #[.string s] t) : sizeB W b = s.size := by
  unfold sizeB
  rw [h.cell 0]
  rfl
theorem front_empty {D : List UInt8} {j : Nat} (h : D.length ≤ 9 * j) : bs (D.take (D.length - 9 * j)) = ⟨#[]⟩ := by
  rw [show D.length - 9 * j = 0 from by omega]
  rfl
theorem cut_grp (D : List UInt8) (j : Nat) : (bs (D.take (D.length - 9 * j))).extract (D.length - 9 * (j + 1)) (bs (D.take (D.length - 9 * j))).size = bs (grp D j) := by
  rw [cut_back]
  rfl
theorem cut_rest (D : List UInt8) (j : Nat) : (bs (D.take (D.length - 9 * j))).extract 0 (D.length - 9 * (j + 1)) = bs (D.take (D.length - 9 * (j + 1))) := by
  rw [cut_front, bs_list, List.take_take, show min (D.length - 9 * (j + 1)) (D.length - 9 * j) = D.length - 9 * (j + 1) from by omega]
theorem nat_groups (s : ByteArray) (w : World) :
    Calls Tryz.prog 159 #[.string s] w fun e w' => e = .returned (.func (.func 181) #[] #[.pointer (some ⟨w.heap.size, 0, none⟩)]) ∧ w.alloc (.cells #[.string s] 9) = w' := by
  go_enter Tryz.func159, Tryz.ntmps159
  go_wp2
  go_ret
  exact ⟨rfl, rfl⟩

set_option maxHeartbeats 4000000 in
set_option maxRecDepth 100000 in
theorem groups_seq (n b : Nat) (D : List UInt8) (hl : D.length ≤ 1000000) :
    SeqW Tryz.prog 181 #[.pointer (some ⟨b, 0, none⟩)] (gEnc D) (fun A B => A.grownBy B (some b)) (KpN n b) (fun _ => True) (fun xs _ => xs = List.range xs.length ∧ xs.length ≤ grps D)
      (fun xs _ => xs = List.range (grps D)) (fun _ _ => True) (fun W => Blk W b #[.string (bs D)] 9) := by
  intro l J Jx W hA hJ hJx hY h0
  refine callsIn_of_wp Tryz.func181 rfl trivial ?_ rfl
  simp only [Tryz.ntmps181, List.size_toArray, List.length_cons, List.length_nil, Nat.reduceAdd, Nat.reduceSub, Array.replicate_succ, Array.replicate_zero, List.push_toArray, List.append_toArray, List.nil_append, List.cons_append]
  have HY := Lib.hid hY
  have HJ := Lib.hid hJ
  clear hY hJ hJx
  gi_wp2
  gi_loopw [] (fun wr => ∃ j : Nat, j ≤ grps D ∧ J (List.range j) wr ∧ Blk wr b #[.string (bs (D.take (D.length - 9 * j)))] 9) (fun wr => sizeB wr b)
  case atStart => exact ⟨0, Nat.zero_le _, h0, by rw [Nat.mul_zero, Nat.sub_zero, List.take_length]; exact hA⟩
  case round =>
    obtain ⟨j, hj, hJ1, hk⟩ := hrel
    have z0 := hk.cell 0
    have f0 := hk.frozen 0
    have hsz : (bs (D.take (D.length - 9 * j))).size = D.length - 9 * j := by
      rw [bs_size, List.length_take]
      omega
    have hms := sizeB_of hk
    by_cases he : D.length ≤ 9 * j
    · rw [front_empty he] at z0 hk
      have hend : j = grps D := by
        unfold grps at hj ⊢
        omega
      subst hend
      gi_wp2_with fail
      go_end0
      exact ⟨⟨_, rfl⟩, .inl ⟨_, rfl, hJ1⟩⟩
    · have hj1 : j + 1 ≤ grps D := by
        unfold grps
        omega
      have hc1 := cut_grp D j
      have hc2 := cut_rest D j
      obtain ⟨fn, tmps, assign, body, hy, hR⟩ := HY.out (List.range j) j wr hJ1 ⟨by rw [List.length_append, List.length_range, List.length_singleton, List.range_succ], by rw [List.length_append, List.length_range]; exact hj1⟩
      rw [← List.range_succ] at hR
      unfold gEnc at hy
      obtain ⟨s, hs⟩ : ∃ s, bs (D.take (D.length - 9 * j)) = s := ⟨_, rfl⟩
      obtain ⟨m, hm⟩ : ∃ m, D.length - 9 * (j + 1) = m := ⟨_, rfl⟩
      rw [hs] at z0 hk hsz hc1 hc2 hms
      rw [hm] at hc1 hc2
      have hne := str_noneQ (s := s) (by omega)
      rw [← hc1] at hy
      have hm1 : max (0 : Int) ((s.size : Int) - 9) = (m : Int) := by omega
      have hm2 : m ≤ s.size := by omega
      have hm3 : m < s.size := by omega
      have hm4 : s.size ≤ 1000000 := by omega
      have HC := Lib.hid hc2
      have HM := Lib.hid hms
      have HN := Lib.hid hm
      have HSZ := Lib.hid hsz
      clear hc1 hc2 hJ1 hs hm hsz hms he hl h0
      rcases (by omega : ((s.size : Int) - 9 ≤ 0 ∧ m = 0) ∨ (¬ (s.size : Int) - 9 ≤ 0 ∧ (s.size : Int) - 9 = m)) with ⟨q1, q2⟩ | ⟨q1, q2⟩
      · subst q2
        rw [show s.extract 0 s.size = s from by rw [cut_back, List.drop_zero, bs_of]] at hy
        gi_wp2_with fail
        refine hR.mono ?_
        rintro e W3 (⟨rfl, _, hJ3, hk3⟩ | ⟨rfl, hJx3⟩)
        · have hkW : Blk W3 b #[.string s] 9 := (hk3.2 hk.lt).trans hk
          have z3 := hkW.cell 0
          have f3 := hkW.frozen 0
          have hkN : Blk (W3.setCell ⟨b, 0, none⟩ (.string ByteArray.empty)) b #[.string ByteArray.empty] 9 := hkW.set 0 _
          have hJ4 := HJ.out _ _ _ hJ3 (grown_set W3 b 0 (.string ByteArray.empty))
          clear hJ3 hk3 z0 f0
          gi_wp2_with fail
          go_roundw
          case rel => exact ⟨j + 1, hj1, hJ4, by rw [HN.out]; exact hkN⟩
          case measure =>
            rw [sizeB_of hkN, HM.out]
            exact hm3
        · gi_wp2_with fail
          refine bodyPost_ret (results_none rfl _ _ _) rfl ?_
          exact ⟨⟨_, rfl⟩, .inr ⟨_, trivial, hJx3⟩⟩
      · gi_wp2_with fail
        refine hR.mono ?_
        rintro e W3 (⟨rfl, _, hJ3, hk3⟩ | ⟨rfl, hJx3⟩)
        · have hkW : Blk W3 b #[.string s] 9 := (hk3.2 hk.lt).trans hk
          have z3 := hkW.cell 0
          have f3 := hkW.frozen 0
          have hkN : Blk (W3.setCell ⟨b, 0, none⟩ (.string (s.extract 0 m))) b #[.string (s.extract 0 m)] 9 := hkW.set 0 _
          have hJ4 := HJ.out _ _ _ hJ3 (grown_set W3 b 0 (.string (s.extract 0 m)))
          clear hJ3 hk3 z0 f0
          gi_wp2_with fail
          go_roundw
          case rel => exact ⟨j + 1, hj1, hJ4, by rw [HN.out, ← HC.out]; exact hkN⟩
          case measure =>
            rw [sizeB_of hkN, HM.out, HC.out, bs_size, List.length_take]
            omega
        · gi_wp2_with fail
          refine bodyPost_ret (results_none rfl _ _ _) rfl ?_
          exact ⟨⟨_, rfl⟩, .inr ⟨_, trivial, hJx3⟩⟩

def bEnc (N k : Nat) (j : Nat) : Array Value := #[.int .i64 ((k - 1 - j : Nat) : Int), .int .u32 (lim N (k - 1 - j))]
/-- A row of limbs. -/
def LimbsAt (W : World) (g N k : Nat) : Prop := ∀ i, i < k → W.cell? ⟨g, i, none⟩ = some (.int .u32 (lim N i))
theorem LimbsAt.below {W W' : World} {g N k n : Nat} (h : LimbsAt W g N k) (hb : Below n W W') (hg : g < n) : LimbsAt W' g N k := fun i hi =>
  (hb.cell (p := ⟨g, i, none⟩) hg).trans (h i hi)
theorem backward (A : Option Addr) (m c : Nat) (w : World) :
    Calls Tryz.prog 182 #[.slice A m c] w fun e w' => e = .returned (.func (.func 194) #[] #[.pointer (some ⟨w.heap.size, 0, none⟩)]) ∧ w.alloc (.cells #[.slice A m c] 208) = w' := by
  go_enter Tryz.func182, Tryz.ntmps182
  go_wp2
  go_ret
  exact ⟨rfl, rfl⟩

set_option maxHeartbeats 4000000 in
set_option maxRecDepth 100000 in
theorem backward_seq (n b g k c N : Nat) (hg : g < n) (hk1000 : k ≤ 1000000) :
    SeqW Tryz.prog 194 #[.pointer (some ⟨b, 0, none⟩)] (bEnc N k) (fun A B => A = B) (KpN n b) (fun _ => True) (fun xs _ => xs = List.range xs.length ∧ xs.length ≤ k)
      (fun xs _ => xs = List.range k) (fun _ _ => True) (fun W => Blk W b #[.slice (some ⟨g, 0, none⟩) k c] 208 ∧ LimbsAt W g N k) := by
  intro l J Jx W hA hJ hJx hY h0
  obtain ⟨hA, hLm⟩ := hA
  refine callsIn_of_wp Tryz.func194 rfl trivial ?_ rfl
  simp only [Tryz.ntmps194, List.size_toArray, List.length_cons, List.length_nil, Nat.reduceAdd, Nat.reduceSub, Array.replicate_succ, Array.replicate_zero, List.push_toArray, List.append_toArray, List.nil_append, List.cons_append]
  have HY := Lib.hid hY
  clear hY hJ hJx
  have z0 := hA.cell 0
  have hk2 : (k : Int) ≤ 1000000 := by omega
  gi_wp2_with fail
  gi_loopw [3] (fun v wr => ∃ i : Nat, i ≤ k ∧ v = .int .i64 ((i : Int) - 1) ∧ J (List.range (k - i)) wr ∧ Blk wr b #[.slice (some ⟨g, 0, none⟩) k c] 208 ∧ LimbsAt wr g N k) (fun v _ => (intOf v + 1).toNat)
  case atStart => exact ⟨k, Nat.le_refl _, rfl, by rw [Nat.sub_self]; exact h0, hA, hLm⟩
  case round =>
    obtain ⟨i, hi, rfl, hJ1, hkb, hlm⟩ := hrel
    clear z0 h0 hA hLm
    cases i with
    | zero =>
      rw [Nat.sub_zero] at hJ1
      rw [show (((0 : Nat) : Int) - 1) = -1 from rfl]
      gi_wp2_with fail
      go_end0
      exact ⟨⟨_, rfl⟩, .inl ⟨_, rfl, hJ1⟩⟩
    | succ i =>
      rw [show (((i + 1 : Nat) : Int) - 1) = (i : Int) from by omega]
      have z0 := hkb.cell 0
      have hc := hlm i (by omega)
      have y0 : (i : Int) < k := by omega
      have y1 : (0 : Int) ≤ i := by omega
      have hx : List.range (k - (i + 1)) ++ [k - (i + 1)] = List.range (k - i) := by
        rw [← List.range_succ]
        exact congrArg List.range (by omega)
      obtain ⟨fn, tmps, assign, body, hy, hR⟩ := HY.out (List.range (k - (i + 1))) (k - (i + 1)) wr hJ1 (by rw [hx, List.length_range]; exact ⟨rfl, by omega⟩)
      rw [hx] at hR
      unfold bEnc at hy
      rw [show k - 1 - (k - (i + 1)) = i from by omega] at hy
      clear hx hJ1
      gi_wp2_with fail
      refine hR.mono ?_
      rintro e W3 (⟨rfl, _, hJ3, hk3⟩ | ⟨rfl, hJx3⟩)
      · have hkW : Blk W3 b #[.slice (some ⟨g, 0, none⟩) k c] 208 := (hk3.2 hkb.lt).trans hkb
        have hl3 := hlm.below hk3.1 hg
        clear z0 hc
        gi_wp2_with fail
        go_roundw
        case rel => exact ⟨i, by omega, by first | rfl | (congr 1), hJ3, hkW, hl3⟩
        case measure =>
          simp only [intOf]
          omega
      · gi_wp2_with fail
        refine bodyPost_ret (results_none rfl _ _ _) rfl ?_
        exact ⟨⟨_, rfl⟩, .inr ⟨_, trivial, hJx3⟩⟩
end Go.Proofs.YtflkmhgbinlfiaaGreatDoor
namespace Go.Proofs.YtflkmhgbinlfiaaGreatDoor
open Go.RowKit Go.Shelf

abbrev IsB (B b : Nat) (bs : List Value) (w : World) : Prop := Lib.IsBuilderF 104 5 B b bs w
abbrev AtB (B b : Nat) (bs : List Value) (w : World) : Prop := Lib.BuilderAtF 104 5 B b (.pointer (some ⟨b, 0, none⟩)) bs w
theorem AtB.is {B b : Nat} {bs : List Value} {w : World} (h : AtB B b bs w) : IsB B b bs w := .inr h

theorem sizeBuilder : (Tryz.prog.info? 104).map (·.size) = some 2 := by kernel_rfl
theorem liesBuilder : liesAt Tryz.prog Tryz.prog.depth 104 (2 / Tryz.prog.cellsOf 104) 0 104 1 = true := by kernel_rfl
theorem infoByte : (Tryz.prog.info? 5).map (fun i => (i.zero, i.size, i.bytes)) = some (some (.int .u8 0), 1, 1) := by kernel_rfl

set_option maxRecDepth 100000 in
theorem check_fresh (b : Nat) (w : World) (h0 : w.cell? ⟨b, 0, none⟩ = some (.pointer none)) (hsh : w.shape? b = some (104, 2)) (hfz : w.frozen? ⟨b, 0, none⟩ = false) :
    Calls Tryz.prog 157 #[.pointer (some ⟨b, 0, none⟩)] w fun e w' => e = .returned (.tuple #[]) ∧ w' = w.setCell ⟨b, 0, none⟩ (.pointer (some ⟨b, 0, none⟩)) := by
  obtain ⟨j, hj, hjs⟩ := Option.map_eq_some_iff.1 sizeBuilder
  go_enter Tryz.func157, Tryz.ntmps157
  go_wp2
  rw [Lib.run_to_unsafe w ⟨b, 0, none⟩ Tryz.underlying102 Tryz.underlying132 hj (by rw [hjs]; decide) hsh (Nat.zero_lt_succ 1)]
  simp only [Result.andThen]
  rw [Oper.upon_value]
  go_wp2
  rw [run_callFunc_extern Tryz.func179 (by kernel_rfl) (by kernel_rfl) (by kernel_rfl) (e := Extern.AbiNoEscape.same) (by kernel_rfl)]
  rw [Lib.run_noEscape]
  simp only [Result.andThen]
  rw [Oper.upon_value]
  go_wp2
  rw [Lib.run_from_unsafe w ⟨b, 0, none⟩ Tryz.underlying132 Tryz.underlying102 hj hsh liesBuilder]
  simp only [Result.andThen]
  rw [Oper.upon_value]
  go_wp2
  go_end0
  exact ⟨rfl, rfl⟩

set_option maxRecDepth 100000 in
theorem check_used (b : Nat) (w : World) (h0 : w.cell? ⟨b, 0, none⟩ = some (.pointer (some ⟨b, 0, none⟩))) :
    Calls Tryz.prog 157 #[.pointer (some ⟨b, 0, none⟩)] w fun e w' => e = .returned (.tuple #[]) ∧ w' = w := by
  obtain ⟨j, hj, _⟩ := Option.map_eq_some_iff.1 sizeBuilder
  go_enter Tryz.func157, Tryz.ntmps157
  go_wp2
  rw [Lib.run_neq_ptr_same w _ Tryz.underlying102 hj]
  go_wp2
  go_end0
  exact ⟨rfl, rfl⟩

theorem b_check (B b : Nat) (bs : List Value) (w : World) (h : IsB B b bs w) :
    Calls Tryz.prog 157 #[.pointer (some ⟨b, 0, none⟩)] w fun e w' => e = .returned (.tuple #[]) ∧ (AtB B b bs w' ∧ Below B w w' ∧ Lib.OthersKept 5 (some b) w w') := by
  rcases h with h | h
  · refine (check_fresh b w h.cell0 h.shape h.frozen0).mono ?_
    rintro e w' ⟨rfl, rfl⟩
    exact ⟨rfl, h.used _, (Below.refl B w).setCell (p := ⟨b, 0, none⟩) h.1 _, (Lib.OthersKept.refl _ _ w).setCell ⟨b, 0, none⟩ rfl _⟩
  · refine (check_used b w h.cell0).mono ?_
    rintro e w' ⟨rfl, rfl⟩
    exact ⟨rfl, h, Below.refl B _, Lib.OthersKept.refl _ _ _⟩


set_option maxHeartbeats 2000000 in
set_option maxRecDepth 100000 in
theorem b_WriteString (B b : Nat) (bs : List Value) (s : ByteArray) (w : World) (h : IsB B b bs w) (hlen : bs.length + s.size ≤ 140737488355328) (hBw : B ≤ w.heap.size) :
    Calls Tryz.prog 131 #[.pointer (some ⟨b, 0, none⟩), .string s] w fun e w' => e = .returned (.tuple #[.int .i64 s.size, .nilIface]) ∧ (AtB B b (bs ++ Lib.strCells s) w' ∧ Below B w w' ∧ Lib.OthersKept 5 (some b) w w') := by
  obtain ⟨i0, hi, hz0, hz1, hz2⟩ := info_parts infoByte
  have HC := Lib.hid (b_check B b bs w h)
  go_enter Tryz.func131, Tryz.ntmps131
  go_wp2_with fail
  refine HC.out.mono ?_
  rintro e w1 ⟨rfl, h1, hb1, hk1⟩
  obtain ⟨hB, v, hbk, hown, hne⟩ := h1
  have c0 : w1.cell? ⟨b, 0, none⟩ = some (.pointer (some ⟨b, 0, none⟩)) := by rw [Lib.cell_of_heap hbk]; rfl
  have c1 : w1.cell? ⟨b, 1, none⟩ = some v := by rw [Lib.cell_of_heap hbk]; rfl
  go_wp2_with (at_builtin; refine Lib.wpList_append_own_stringF _ rfl _ _ 45 9 rfl B 5 i0 Tryz.underlying45 Tryz.underlying9 hi hz0 hz1 hz2 _ _ _ rfl hown s rfl ?c3 ?c4 ?c5 ?_)
  case c3 => unfold maxLen; omega
  case c4 => omega
  case c5 => have := hb1.size; omega
  intro v' w2 hown' hgrow _
  have hlt : b < w1.heap.size := by
    rcases Nat.lt_or_ge b w1.heap.size with h' | h'
    · exact h'
    · simp [Array.getElem?_eq_none h'] at hbk
  have hb2 : w2.heap[b]? = some (.cells #[.pointer (some ⟨b, 0, none⟩), v] 104 (0, 0)) := by
    rw [hgrow.block b hlt (fun e => hne e.symm)]
    exact hbk
  have d0 : w2.cell? ⟨b, 0, none⟩ = some (.pointer (some ⟨b, 0, none⟩)) := by rw [Lib.cell_of_heap hb2]; rfl
  have d1 : w2.cell? ⟨b, 1, none⟩ = some v := by rw [Lib.cell_of_heap hb2]; rfl
  have f1 : w2.frozen? ⟨b, 1, none⟩ = false := Lib.frozen_of_heap hb2 1
  obtain ⟨ao, n', cap, rfl⟩ : ∃ ao n' cap, v' = .slice ao n' cap := by
    rcases hown'.2 with ⟨hv, _⟩ | ⟨g, cap, cur, fz, hv, _⟩
    · exact ⟨_, _, _, hv⟩
    · exact ⟨_, _, _, hv⟩
  go_wp2
  go_ret2
  refine ⟨rfl, ?_, ?_, (hk1.grown hgrow (Lib.ownsRowF_kind hown)).setCell ⟨b, 1, none⟩ rfl _⟩
  · exact Lib.BuilderAtF.put (T := 104) (e := 5) hB hb2 (bs' := bs ++ Lib.strCells s) (by simpa [Lib.strCells_length] using hown') (by decide)
  · exact (hb1.grown hgrow (by have := hb1.size; omega) (fun k hk => (hown.lt k hk).1)).setCell (p := ⟨b, 1, none⟩) hB _
end Go.Proofs.YtflkmhgbinlfiaaGreatDoor
