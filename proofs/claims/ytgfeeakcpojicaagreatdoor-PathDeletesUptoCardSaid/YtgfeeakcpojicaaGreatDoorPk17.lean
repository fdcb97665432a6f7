/- The texts Steps, PathH, put together. -/
import Derived.Test.YtgfeeakcpojicaaGreatDoorPk07
import Derived.Test.YtgfeeakcpojicaaGreatDoorPk16
import Derived.Carry
/- path: the steps of a node, as an iterator. -/
namespace Go.Proofs.YtgfeeakcpojicaaGreatDoor
open Go.RowKit Go.Shelf
attribute [local go_sem] Oper.semAt_some wide_fn wide_depth

/-- The step that place i of a list is told by, and where it leads to. -/
def stepAt (kind : Int) (l : List Tr) (i : Nat) : Option (Stp × Nat) :=
  if h : i < l.length then
    if kind = 8 ∧ i % 2 = 0 ∧ i + 1 < l.length ∧ l[i].own.kind = 5 then some ((-1, l[i].own.s), i + 1)
    else if kind = 7 then some (((i : Int), ⟨#[]⟩), i) else none
  else none
def stepsTo (kind : Int) (l : List Tr) : Nat → List (Stp × Nat)
  | 0 => []
  | k + 1 => match stepAt kind l k with
    | none => stepsTo kind l k
    | some x => if hasStp ((stepsTo kind l k).map (·.1)) x.1 = true then stepsTo kind l k else stepsTo kind l k ++ [x]
def stepsOf (t : Tr) : List (Stp × Nat) := stepsTo t.own.kind t.kids t.kids.length
theorem stepsTo_len (kind : Int) (l : List Tr) : ∀ k, (stepsTo kind l k).length ≤ k
  | 0 => by simp [stepsTo]
  | k + 1 => by
    have := stepsTo_len kind l k
    unfold stepsTo
    split
    · omega
    · split
      · omega
      · rw [List.length_append, List.length_singleton]
        omega
theorem stepsTo_pre (kind : Int) (l : List Tr) : ∀ k j, stepsTo kind l k <+: stepsTo kind l (k + j)
  | k, 0 => List.prefix_refl _
  | k, j + 1 => by
    refine (stepsTo_pre kind l k j).trans ?_
    show stepsTo kind l (k + j) <+: stepsTo kind l (k + j + 1)
    conv => rhs; unfold stepsTo
    split
    · exact List.prefix_refl _
    · split
      · exact List.prefix_refl _
      · exact List.prefix_append _ _
theorem stepsTo_none {kind : Int} {l : List Tr} {k : Nat} (h : stepAt kind l k = none) : stepsTo kind l (k + 1) = stepsTo kind l k := by
  rw [stepsTo, h]
theorem stepsTo_old {kind : Int} {l : List Tr} {k : Nat} {x : Stp × Nat} (h : stepAt kind l k = some x) (hs : hasStp ((stepsTo kind l k).map (·.1)) x.1 = true) : stepsTo kind l (k + 1) = stepsTo kind l k := by
  rw [stepsTo, h]
  exact if_pos hs
theorem stepsTo_new {kind : Int} {l : List Tr} {k : Nat} {x : Stp × Nat} (h : stepAt kind l k = some x) (hs : hasStp ((stepsTo kind l k).map (·.1)) x.1 = false) : stepsTo kind l (k + 1) = stepsTo kind l k ++ [x] := by
  rw [stepsTo, h]
  exact if_neg (by rw [hs]; decide)

theorem path_steps (v : Value) (o : Own) (w : World) :
    Calls Tryz.prog 64 #[nodeV o v] w fun e w' => e = .returned (.func (.func 81) #[] #[.pointer (some ⟨w.heap.size, 0, none⟩)]) ∧ w.alloc (.cells (cellsV o v) 38) = w' := by
  unfold nodeV cellsV
  go_enter Tryz.func64, Tryz.ntmps64
  go_wp2
  go_ret
  exact ⟨rfl, rfl⟩

set_option maxHeartbeats 4000000 in
set_option maxRecDepth 100000 in
theorem steps_seq (bn B d : Nat) (K : Nat → Prop) (t : Tr) (x : Value) (w0 : World) (hKb : K bn) (hKB : ∀ q, q < B → K q) (hK0 : ∀ q, K q → q < w0.heap.size) (hb : Blk w0 bn (cellsV t.own x) 38) (hl : ListAt w0 B d t.kids x) :
    SeqV Tryz.prog 81 #[.pointer (some ⟨bn, 0, none⟩)] (fun s : Stp × Nat => #[stepV s.1, .int .i64 s.2]) (KpB K) (fun xs => xs <+: stepsOf t) (fun xs => xs = stepsOf t) (fun pre => pre <+: stepsOf t) w0 := by
  intro l0 J Jx W hW hJ hJx hY h0
  unfold stepsOf at hY ⊢
  obtain ⟨hlen, A, c, rfl⟩ := hl.slice
  obtain ⟨l, hkl⟩ : ∃ l, t.kids = l := ⟨_, rfl⟩
  rw [hkl] at hl hlen hY hb ⊢
  obtain ⟨n, hn⟩ : ∃ n, l.length = n := ⟨_, rfl⟩
  rw [hn] at hl hlen hY hb ⊢
  obtain ⟨⟨kind, b, neg, dg, ex, u, wd, s⟩, ho⟩ : ∃ o, t.own = o := ⟨_, rfl⟩
  rw [ho] at hb hY ⊢
  unfold cellsV at hb
  simp only [] at hb hY ⊢
  have hlW : ListAt W B d l (.slice A n c) := hl.keep (fun q hq => hW.block q (hK0 q (hKB q hq)))
  have hbW := hb.below hW hb.lt
  have hzW := hW.size
  have HN := Lib.hid hn
  have HL := Lib.hid hlW
  have HY := Lib.hid hY
  have HJ := Lib.hid hJ
  have hmm := @run_makeMap Tryz.prog
  clear hY hJ hJx hl hb hlW hkl ho hn hW
  refine callsIn_of_wp Tryz.func81 rfl trivial ?_ rfl
  simp only [Tryz.ntmps81, List.size_toArray, List.length_cons, List.length_nil, Nat.reduceAdd, Nat.reduceSub, Array.replicate_succ, Array.replicate_zero, List.push_toArray, List.append_toArray, List.nil_append, List.cons_append]
  have k8 := hbW.cell 8
  have hlt0 := hbW.lt
  have hKW : ∀ q, K q → q < W.heap.size := fun q hq => Nat.lt_of_lt_of_le (hK0 q hq) hzW
  have hba : KeptK K W (W.alloc (.map #[] 0)) := KeptK.grown (fun _ _ => rfl) hKW (World.grownBy_alloc W _ none) (fun g e => by cases e)
  have HJ0 := Lib.hid (HJ.out [] W _ none h0 (World.grownBy_alloc W (.map #[] 0) none) (fun r e => by cases e))
  have HS0 := Lib.hid (Seen.made W)
  gi_wp2_with fail
  gi_loopw [12] (fun i wr => ∃ k : Nat, k ≤ n ∧ i = .int .i64 k ∧ J (stepsTo kind l k) wr ∧ KeptK K W wr ∧ Seen wr W.heap.size ((stepsTo kind l k).map (·.1))) (fun i _ => n - (intOf i).toNat)
  case atStart => exact ⟨0, by omega, rfl, HJ0.out, hba, HS0.out⟩
  case round =>
    obtain ⟨k, hk, rfl, hj, hbw, hsn⟩ := hrel
    clear HJ0 HS0 hba k8 hmm
    have hbr : Blk wr bn _ _ := (hbw bn hKb).trans hbW
    have k0 := hbr.cell 0
    have k8 := hbr.cell 8
    have hltr := hbr.lt
    by_cases hlt : k < n
    · have hkl : k < l.length := by rw [HN.out]; exact hlt
      obtain ⟨d', ad, y, hdd, rfl, hab, hok, hna, hkk⟩ := (HL.out.keep (fun q hq => hbw q (hKB q hq))).at_ hkl
      obtain ⟨_, A2, c2, rfl⟩ := hkk.slice
      obtain ⟨n2, hn2⟩ : ∃ n2, l[k].kids.length = n2 := ⟨_, rfl⟩
      rw [hn2] at hna
      have hsa : stepAt kind l k = if kind = 8 ∧ k % 2 = 0 ∧ k + 1 < n ∧ l[k].own.kind = 5 then some ((-1, l[k].own.s), k + 1) else if kind = 7 then some (((k : Int), ⟨#[]⟩), k) else none := by
        unfold stepAt
        rw [dif_pos hkl, HN.out]
      obtain ⟨⟨kind2, b2, neg2, dg2, ex2, u2, wd2, s2⟩, ho2⟩ : ∃ o, l[k].own = o := ⟨_, rfl⟩
      rw [ho2] at hna hsa
      simp only [] at hsa
      obtain ⟨q0, q1, q2, q3, q4, q5, q6, q7, q8⟩ := hna
      simp only [] at q0 q1 q2 q3 q4 q5 q6 q7 q8
      have y1 : (k : Int) < n := by omega
      have hlen2 := stepsTo_len kind l k
      obtain ⟨acc, hacc⟩ : ∃ acc, stepsTo kind l k = acc := ⟨_, rfl⟩
      have HSA := Lib.hid hsa
      rw [hacc] at hj hsn hlen2
      have HSN := Lib.hid hsn
      have HJK := Lib.hid hj
      have hmz : W.heap.size < wr.heap.size := hsn.lt
      clear hkk hok hdd ho2 hn2 hsn hj hsa
      have G2 := fun o o' : Obj => grown_transT (World.grownBy_alloc wr o none) (World.grownBy_alloc (wr.alloc o) o' none)
      have J2 := Lib.hid (fun o o' : Obj => HJ.out acc wr _ none HJK.out (G2 o o') (fun r e => by cases e))
      have S2 := Lib.hid (fun o o' : Obj => HSN.out.keep ((G2 o o').block _ hmz (by simp)))
      have B2 := Lib.hid (fun o o' : Obj => KeptK.grown hbw hKW (G2 o o') (fun g e => by cases e))
      have NB := Lib.hid (fun (o : Obj) (cs : Array Value) => show Blk ((wr.alloc o).alloc (.cells cs 53)) (wr.heap.size + 1) cs 53 from by have := Blk.new (wr.alloc o) cs 53; rwa [World.size_alloc] at this)
      have tm : (k : Int).tmod 2 = ((k % 2 : Nat) : Int) := rfl
      clear G2 hbw
      by_cases e8 : kind = 8
      · subst e8
        by_cases em : k % 2 = 0
        · rw [em] at tm
          by_cases ek : k + 1 < n
          · have y2 : (k : Int) + 1 < n := by omega
            by_cases e5 : kind2 = 5
            · subst e5
              have hx : stepAt 8 l k = some (((-1 : Int), s2), k + 1) := by rw [HSA.out, if_pos ⟨rfl, em, ek, rfl⟩]
              cases hs : hasStp (acc.map (·.1)) (((-1 : Int), s2), k + 1).1 with
              | true =>
                have HO := Lib.hid (stepsTo_old hx (by rw [hacc]; exact hs))
                clear hx
                gi_wp2_with (refine wpListIn_look _ rfl _ _ rfl W.heap.size _ (((-1 : Int), s2), k + 1).1 rfl (S2.out _ _) rfl true hs ?_)
                go_roundw
                case rel => exact ⟨k + 1, by omega, by go_num, by rw [HO.out, hacc]; exact J2.out _ _, B2.out _ _, by rw [HO.out, hacc]; exact S2.out _ _⟩
                case measure => simp [intOf]; omega
              | false =>
                have HO := Lib.hid (stepsTo_new hx (by rw [hacc]; exact hs))
                have HPR := Lib.hid (stepsTo_pre 8 l (k + 1) (n - (k + 1)))
                have HYX := Lib.hid (show ∀ w3 : World, J acc w3 → YieldAt Fence.wide 7 Tryz.prog l0 #[.agg #[.int .i64 (-1), .string s2], .int .i64 ((k : Int) + 1)] w3 fun e W' => (e = .returned (.bool true) ∧ J (acc ++ [(((-1 : Int), s2), k + 1)]) W' ∧ KpB K w3 W') ∨ (e = .returned (.bool false) ∧ Jx (acc ++ [(((-1 : Int), s2), k + 1)]) W') from fun w3 hj3 => HY.out acc (((-1 : Int), s2), k + 1) w3 hj3 (by have hp := HPR.out; rw [HO.out, hacc, show k + 1 + (n - (k + 1)) = n by omega] at hp; exact hp))
                clear hx
                gi_wp2_with (first | (refine wpListIn_look _ rfl _ _ rfl W.heap.size _ (((-1 : Int), s2), k + 1).1 rfl (S2.out _ _) rfl false hs ?_) | (refine wpListIn_seen _ rfl _ _ _ rfl W.heap.size _ (((-1 : Int), s2), k + 1).1 rfl (S2.out _ _) rfl rfl hs ?_; intro w3 hs3 hg3; have hbk3 := (NB.out _ #[.int .i64 (-1), .string s2]).kept hg3 (fun e => by injection e with e; omega); have e0 := hbk3.cell 0; have e1 := hbk3.cell 1; have hj3 := HJ.out acc _ w3 (some W.heap.size) (J2.out _ _) hg3 (fun r e => by cases e; exact ⟨Nat.le_refl _, (S2.out _ _).walk⟩); have hb3 := KeptK.grown (B2.out _ _) hKW hg3 (fun g e hk => by cases e; exact absurd (hKW _ hk) (Nat.lt_irrefl _)); obtain ⟨fn, tmps, assign, body, hy, hR⟩ := HYX.out w3 hj3))
                refine hR.mono ?_
                rintro e w4 (⟨rfl, hj4, hk4⟩ | ⟨rfl, hx4⟩)
                · have hb4 : KeptK K W w4 := fun q hq => (hk4.1 q hq).trans (hb3 q hq)
                  have hs4 := hs3.walks hk4.2
                  clear hR hy hk4 hs3 hj3 hb3 hbk3 e0 e1 hg3
                  gi_wp2_with fail
                  go_roundw
                  case rel => exact ⟨k + 1, by omega, by go_num, by rw [HO.out, hacc]; exact hj4, hb4, by rw [HO.out, hacc, List.map_append]; exact hs4⟩
                  case measure => simp [intOf]; omega
                · clear hR hy hs3 hj3 hb3 hbk3 e0 e1 hg3
                  gi_wp2_with fail
                  refine bodyPost_ret (results_none rfl _ _ _) rfl ?_
                  have hp := HPR.out
                  rw [HO.out, hacc, show k + 1 + (n - (k + 1)) = n by omega] at hp
                  exact ⟨⟨_, rfl⟩, .inr ⟨_, hp, hx4⟩⟩
            · have y3 : (kind2 == 5) = false := by rw [beq_eq_false_iff_ne]; exact e5
              have HO := Lib.hid (stepsTo_none (by rw [HSA.out, if_neg (fun h => e5 h.2.2.2), if_neg (by decide)]))
              gi_wp2_with fail
              go_roundw
              case rel => exact ⟨k + 1, by omega, by go_num, by rw [HO.out, hacc]; exact J2.out _ _, B2.out _ _, by rw [HO.out, hacc]; exact S2.out _ _⟩
              case measure => simp [intOf]; omega
          · have y2 : ¬ (k : Int) + 1 < n := by omega
            have HO := Lib.hid (stepsTo_none (by rw [HSA.out, if_neg (fun h => ek h.2.2.1), if_neg (by decide)]))
            gi_wp2_with fail
            go_roundw
            case rel => exact ⟨k + 1, by omega, by go_num, by rw [HO.out, hacc]; exact J2.out _ _, B2.out _ _, by rw [HO.out, hacc]; exact S2.out _ _⟩
            case measure => simp [intOf]; omega
        · have em' : k % 2 = 1 := by omega
          rw [em'] at tm
          have HO := Lib.hid (stepsTo_none (by rw [HSA.out, if_neg (fun h => em h.2.1), if_neg (by decide)]))
          gi_wp2_with fail
          go_roundw
          case rel => exact ⟨k + 1, by omega, by go_num, by rw [HO.out, hacc]; exact J2.out _ _, B2.out _ _, by rw [HO.out, hacc]; exact S2.out _ _⟩
          case measure => simp [intOf]; omega
      · have y8 : (kind == 8) = false := by rw [beq_eq_false_iff_ne]; exact e8
        clear tm
        by_cases e7 : kind = 7
        · subst e7
          have hx : stepAt 7 l k = some (((k : Int), (⟨#[]⟩ : ByteArray)), k) := by rw [HSA.out, if_neg (fun h => e8 h.1), if_pos rfl]
          cases hs : hasStp (acc.map (·.1)) (((k : Int), (⟨#[]⟩ : ByteArray)), k).1 with
          | true =>
            have HO := Lib.hid (stepsTo_old hx (by rw [hacc]; exact hs))
            clear hx
            gi_wp2_with (refine wpListIn_look _ rfl _ _ rfl W.heap.size _ (((k : Int), (⟨#[]⟩ : ByteArray)), k).1 rfl (S2.out _ _) rfl true hs ?_)
            go_roundw
            case rel => exact ⟨k + 1, by omega, by go_num, by rw [HO.out, hacc]; exact J2.out _ _, B2.out _ _, by rw [HO.out, hacc]; exact S2.out _ _⟩
            case measure => simp [intOf]; omega
          | false =>
            have HO := Lib.hid (stepsTo_new hx (by rw [hacc]; exact hs))
            have HPR := Lib.hid (stepsTo_pre 7 l (k + 1) (n - (k + 1)))
            have HYX := Lib.hid (show ∀ w3 : World, J acc w3 → YieldAt Fence.wide 7 Tryz.prog l0 #[.agg #[.int .i64 k, .string ⟨#[]⟩], .int .i64 k] w3 fun e W' => (e = .returned (.bool true) ∧ J (acc ++ [(((k : Int), (⟨#[]⟩ : ByteArray)), k)]) W' ∧ KpB K w3 W') ∨ (e = .returned (.bool false) ∧ Jx (acc ++ [(((k : Int), (⟨#[]⟩ : ByteArray)), k)]) W') from fun w3 hj3 => HY.out acc (((k : Int), (⟨#[]⟩ : ByteArray)), k) w3 hj3 (by have hp := HPR.out; rw [HO.out, hacc, show k + 1 + (n - (k + 1)) = n by omega] at hp; exact hp))
            clear hx
            gi_wp2_with (first | (refine wpListIn_look _ rfl _ _ rfl W.heap.size _ (((k : Int), (⟨#[]⟩ : ByteArray)), k).1 rfl (S2.out _ _) rfl false hs ?_) | (refine wpListIn_seen _ rfl _ _ _ rfl W.heap.size _ (((k : Int), (⟨#[]⟩ : ByteArray)), k).1 rfl (S2.out _ _) rfl rfl hs ?_; intro w3 hs3 hg3; have hbk3 := (NB.out _ #[.int .i64 k, .string ⟨#[]⟩]).kept hg3 (fun e => by injection e with e; omega); have e0 := hbk3.cell 0; have e1 := hbk3.cell 1; have hj3 := HJ.out acc _ w3 (some W.heap.size) (J2.out _ _) hg3 (fun r e => by cases e; exact ⟨Nat.le_refl _, (S2.out _ _).walk⟩); have hb3 := KeptK.grown (B2.out _ _) hKW hg3 (fun g e hk => by cases e; exact absurd (hKW _ hk) (Nat.lt_irrefl _)); obtain ⟨fn, tmps, assign, body, hy, hR⟩ := HYX.out w3 hj3))
            refine hR.mono ?_
            rintro e w4 (⟨rfl, hj4, hk4⟩ | ⟨rfl, hx4⟩)
            · have hb4 : KeptK K W w4 := fun q hq => (hk4.1 q hq).trans (hb3 q hq)
              have hs4 := hs3.walks hk4.2
              clear hR hy hk4 hs3 hj3 hb3 hbk3 e0 e1 hg3
              gi_wp2_with fail
              go_roundw
              case rel => exact ⟨k + 1, by omega, by go_num, by rw [HO.out, hacc]; exact hj4, hb4, by rw [HO.out, hacc, List.map_append]; exact hs4⟩
              case measure => simp [intOf]; omega
            · clear hR hy hs3 hj3 hb3 hbk3 e0 e1 hg3
              gi_wp2_with fail
              refine bodyPost_ret (results_none rfl _ _ _) rfl ?_
              have hp := HPR.out
              rw [HO.out, hacc, show k + 1 + (n - (k + 1)) = n by omega] at hp
              exact ⟨⟨_, rfl⟩, .inr ⟨_, hp, hx4⟩⟩
        · have y7 : (kind != 7) = true := by rw [bne_iff_ne]; exact e7
          have HO := Lib.hid (stepsTo_none (by rw [HSA.out, if_neg (fun h => e8 h.1), if_neg e7]))
          gi_wp2_with fail
          go_roundw
          case rel => exact ⟨k + 1, by omega, by go_num, by rw [HO.out, hacc]; exact J2.out _ _, B2.out _ _, by rw [HO.out, hacc]; exact S2.out _ _⟩
          case measure => simp [intOf]; omega
    · obtain rfl : k = n := by omega
      have y1 : ¬ (k : Int) < k := by omega
      gi_wp2_with fail
      go_end0
      exact ⟨⟨_, rfl⟩, .inl hj⟩
end Go.Proofs.YtgfeeakcpojicaaGreatDoor
/- path: at. -/
namespace Go.Proofs.YtgfeeakcpojicaaGreatDoor
open Go.RowKit Go.Shelf
attribute [local go_sem] Oper.semAt_some wide_fn wide_depth

/-- Where a step leads to. -/
def atO (t : Tr) (s : Stp) : Option Nat := ((stepsOf t).find? fun y => decide (y.1 = s)).map (·.2)
def atI (t : Tr) (s : Stp) : Int := match atO t s with
  | some i => (i : Int)
  | none => -1

def NotIn (pre : List (Stp × Nat)) (s : Stp) : Prop := ∀ y ∈ pre, y.1 ≠ s
def FoundAt (pre : List (Stp × Nat)) (s : Stp) (j : Nat) : Prop := ∃ p0 y, pre = p0 ++ [y] ∧ NotIn p0 s ∧ y.1 = s ∧ y.2 = j
theorem NotIn.snoc {pre : List (Stp × Nat)} {s : Stp} {x : Stp × Nat} (h : NotIn pre s) (hx : x.1 ≠ s) : NotIn (pre ++ [x]) s := fun y hy => by
  rcases List.mem_append.1 hy with hy | hy
  · exact h y hy
  · rw [List.mem_singleton.1 hy]
    exact hx
theorem at_none {t : Tr} {s : Stp} (h : NotIn (stepsOf t) s) : atI t s = -1 := by
  have : atO t s = none := by
    unfold atO
    rw [Option.map_eq_none_iff, List.find?_eq_none]
    exact fun y hy => by simpa using h y hy
  unfold atI
  rw [this]
theorem at_some {t : Tr} {s : Stp} {pre : List (Stp × Nat)} {j : Nat} (h : FoundAt pre s j) (hp : pre <+: stepsOf t) : atI t s = (j : Int) := by
  obtain ⟨p0, y, rfl, hn, hy, rfl⟩ := h
  obtain ⟨r, hr⟩ := hp
  have : atO t s = some y.2 := by
    unfold atO
    have e0 : p0.find? (fun z => decide (z.1 = s)) = none := List.find?_eq_none.2 (fun z hz => by simpa using hn z hz)
    rw [← hr, List.append_assoc, List.find?_append, e0]
    simp [hy]
  unfold atI
  rw [this]

set_option maxHeartbeats 4000000 in
set_option maxRecDepth 100000 in
theorem path_at (t : Tr) (x : Value) (s : Stp) (w : World) (B d : Nat) (hl : ListAt w B d t.kids x) (hB : B ≤ w.heap.size) :
    Calls Tryz.prog 40 #[nodeV t.own x, stepV s] w fun e w' => e = .returned (.int .i64 (atI t s)) ∧ Below w.heap.size w w' := by
  obtain ⟨o, ho⟩ : ∃ o, t.own = o := ⟨_, rfl⟩
  have HPS := Lib.hid (fun w => path_steps x o w)
  obtain ⟨kind, b, neg, dg, ex, u, wd, str⟩ := o
  obtain ⟨i, key⟩ := s
  have HB := fun (o1 o2 o3 o4 : Obj) => ((((Below.refl w.heap.size w).alloc (Nat.le_refl _) o1).alloc (by simp) o2).alloc (by simp; omega) o3).alloc (by simp; omega) o4
  unfold nodeV at HPS ⊢
  unfold cellsV at HPS
  simp only [] at HPS ⊢
  refine calls_of_marks Tryz.func40 rfl ?_
  simp only [Tryz.ntmps40, List.size_toArray, List.length_cons, List.length_nil, Nat.reduceAdd, Nat.reduceSub, Array.replicate_succ, Array.replicate_zero, List.push_toArray, List.append_toArray, List.nil_append, List.cons_append]
  go_wp2_with fail
  go_step3
  go_wp2_with fail
  go_step3
  go_wp2_with fail
  refine (HPS.out _).mono ?_
  rintro e w1 ⟨rfl, hw1⟩
  have hbw := HB (.cells #[.int .i64 kind, .bool b, .bool neg, .string dg, .int .i64 ex, .int .u64 u, .int .i64 wd, .string str, x] 38) (.cells #[.int .i64 i, .string key] 53) (.cells #[.int .i64 (-1)] 3) (.cells #[.int .i64 kind, .bool b, .bool neg, .string dg, .int .i64 ex, .int .u64 u, .int .i64 wd, .string str, x] 38)
  have bN := Blk.new (((w.alloc (.cells #[.int .i64 kind, .bool b, .bool neg, .string dg, .int .i64 ex, .int .u64 u, .int .i64 wd, .string str, x] 38)).alloc (.cells #[.int .i64 i, .string key] 53)).alloc (.cells #[.int .i64 (-1)] 3)) #[.int .i64 kind, .bool b, .bool neg, .string dg, .int .i64 ex, .int .u64 u, .int .i64 wd, .string str, x] 38
  have bF := (Blk.new ((w.alloc (.cells #[.int .i64 kind, .bool b, .bool neg, .string dg, .int .i64 ex, .int .u64 u, .int .i64 wd, .string str, x] 38)).alloc (.cells #[.int .i64 i, .string key] 53)) #[.int .i64 (-1)] 3).alloc (.cells #[.int .i64 kind, .bool b, .bool neg, .string dg, .int .i64 ex, .int .u64 u, .int .i64 wd, .string str, x] 38)
  have bS := ((Blk.new (w.alloc (.cells #[.int .i64 kind, .bool b, .bool neg, .string dg, .int .i64 ex, .int .u64 u, .int .i64 wd, .string str, x] 38)) #[.int .i64 i, .string key] 53).alloc (.cells #[.int .i64 (-1)] 3)).alloc (.cells #[.int .i64 kind, .bool b, .bool neg, .string dg, .int .i64 ex, .int .u64 u, .int .i64 wd, .string str, x] 38)
  rw [hw1] at hbw bN bF bS
  have hsz : w1.heap.size = w.heap.size + 4 := by rw [← hw1]; simp
  simp only [World.size_alloc] at bN bF bS
  have hl1 := hl.below hbw hB
  have hseq := steps_seq (w.heap.size + 1 + 1 + 1) (w.heap.size + 4) d (fun q => q < w.heap.size + 4) t x w1 (by omega) (fun _ h => h) (fun q hq => by omega) (by unfold cellsV; rw [ho]; exact bN) (hl1.more (by omega))
  have HSEQ := Lib.hid hseq
  clear HPS HB hl hl1 hseq hw1 bN ho
  go_wp2_with fail
  refine wp_rangeFuncV (gf := 81) (lb := #[.pointer (some ⟨w.heap.size + 1 + 1 + 1, 0, none⟩)]) rfl (enters_of Tryz.func81 (by kernel_rfl) rfl)
    HSEQ.out (fun q hq => by omega) (Below.refl _ _) (fun _ => rfl)
    (fun pre W => (NotIn pre (i, key) ∧ Blk W (w.heap.size + 1) #[.int .i64 i, .string key] 53 ∧ Blk W (w.heap.size + 1 + 1) #[.int .i64 (-1)] 3) ∧ Below w.heap.size w1 W)
    (fun c pre W => (c = .exit 0 ∧ ∃ j : Nat, FoundAt pre (i, key) j ∧ Blk W (w.heap.size + 1 + 1) #[.int .i64 j] 3) ∧ Below w.heap.size w1 W)
    ?hI ?hIx ⟨⟨(fun y hy => nomatch hy), bS, bF⟩, Below.refl _ _⟩
    (fun T x a' W => ∃ Bx, w.heap.size + 4 ≤ Bx ∧ Blk W Bx #[.int .i64 x.1.1, .string x.1.2] 53 ∧ a' = { tmps := (((T.setIfInBounds 10 (stepV x.1)).setIfInBounds 11 (.int .i64 x.2)).setIfInBounds 6 (.pointer (some ⟨Bx, 0, none⟩))).setIfInBounds 7 (.int .i64 x.2), defers := [] })
    ?hAx ?assign ?body ?done ?stop
  case hI =>
    refine OwnFrom.and (Own.from ?_ _) (ownFrom_below (by omega) (by omega))
    rintro s X Y row ⟨h1, h2, h3⟩ hg hr
    exact ⟨h1, blk_own _ _ (fun _ : Unit => _) () X Y row h2 hg hr, blk_own _ _ (fun _ : Unit => _) () X Y row h3 hg hr⟩
  case hIx =>
    intro c
    refine OwnFrom.and (Own.from ?_ _) (ownFrom_below (by omega) (by omega))
    rintro s X Y row ⟨h1, j, h2, h4⟩ hg hr
    exact ⟨h1, j, h2, blk_own _ _ (fun _ : Unit => _) () X Y row h4 hg hr⟩
  case hAx =>
    rintro x a' _ X Y row ⟨Bx, h1, h2, h3⟩ hg hr
    exact ⟨Bx, h1, blk_own _ _ (fun _ : Unit => _) () X Y row h2 hg (fun r e => (hr r e).2), h3⟩
  case assign =>
    rintro l pre x W K ⟨⟨hp, h1, h2⟩, hB'⟩ _ hK
    have HK := Lib.hid hK
    clear hK
    have hz := hB'.size
    gi_wp2
    have hbe : Below W.heap.size W (W.alloc (.cells #[.int .i64 x.1.1, .string x.1.2] 53)) := (Below.refl _ _).alloc (Nat.le_refl _) _
    exact HK.out _ _ (keeps_below hbe) (KpB.below hbe (fun q hq => by omega)) ⟨⟨hp, h1.alloc _, h2.alloc _⟩, hB'.alloc (by omega) _⟩ ⟨W.heap.size, by omega, Blk.new _ _ _, rfl⟩
  case body =>
    rintro l pre x a' W hl ⟨r, hr⟩ ⟨⟨hp, h1, h2⟩, hB'⟩ ⟨Bx, hBx, bX, rfl⟩ _
    have hx0 := bX.cell 0
    have hx1 := bX.cell 1
    have hs0 := h1.cell 0
    have hs1 := h1.cell 1
    have hf := h2.frozen
    have hf0 := h2.cell 0
    simp only [List.setIfInBounds_toArray, List.set_cons_zero, List.set_cons_succ]
    obtain ⟨⟨xi, xk⟩, xa⟩ := x
    simp only [] at hx0 hx1 bX ⊢
    by_cases h1' : xi = i
    · by_cases h2' : xk = key
      · have hfd : FoundAt (pre ++ [((xi, xk), xa)]) (i, key) xa := ⟨pre, _, rfl, hp, by rw [h1', h2'], rfl⟩
        have HFD := Lib.hid hfd
        have HP := Lib.hid hp
        clear hfd hp
        subst h1' h2'
        gi_wp2_with fail
        exact ⟨(KeepsOthers.setCell _ _ _).from _, ⟨rfl, xa, HFD.out, h2.set 0 _⟩, hB'.setCell (by show w.heap.size ≤ w.heap.size + 1 + 1; omega) _⟩
      · have hnn := hp.snoc (x := ((xi, xk), xa)) (fun e => h2' (by injection e))
        have HNN := Lib.hid hnn
        have hb := toList_beq xk key
        rw [decide_eq_false h2'] at hb
        clear hp hnn h2'
        subst h1'
        gi_wp2_with fail
        exact ⟨KeepsFrom.refl _ _, KpB.refl _ _, ⟨HNN.out, h1, h2⟩, hB'⟩
    · have hnn := hp.snoc (x := ((xi, xk), xa)) (fun e => h1' (by injection e))
      have HNN := Lib.hid hnn
      have hb : (xi == i) = false := by rw [beq_eq_false_iff_ne]; exact h1'
      clear hp hnn h1'
      gi_wp2_with fail
      exact ⟨KeepsFrom.refl _ _, KpB.refl _ _, ⟨HNN.out, h1, h2⟩, hB'⟩
  case done =>
    rintro D ys W hD rfl ⟨⟨hp, _, h2⟩, hB'⟩ hK
    have hf0 := h2.cell 0
    have hz := hB'.size
    have HP := Lib.hid (at_none hp)
    clear hp
    go_wp2_with fail
    rw [Exit.noGoto_ret]
    exact leave1 (v := .int .i64 (-1)) hK (by simp [results, Tryz.results40, go_sem]) rfl ⟨by rw [HP.out], below_shut (hbw.trans hB') (by omega) (by omega) _⟩
  case stop =>
    rintro D c pre W hD hp ⟨⟨rfl, j, hj, h2⟩, hB'⟩ hK
    have hf0 := h2.cell 0
    have hz := hB'.size
    have HP := Lib.hid (at_some hj hp)
    clear hp hj
    go_wp2_with fail
    rw [Exit.noGoto_ret]
    exact leave1 (v := .int .i64 j) hK (by simp [results, Tryz.results40, go_sem]) rfl ⟨by rw [HP.out], below_shut (hbw.trans hB') (by omega) (by omega) _⟩
end Go.Proofs.YtgfeeakcpojicaaGreatDoor
