/- The texts UtfIs, GateY, CbA, CbC, CbD, CbB, CbE, CbF, CbG, CbH, CrL, put together. -/
import Derived.Test.YtflkmhgbinlfiaaGreatDoorChecked
import Derived.WalkKit
import Derived.LaidEql
import Derived.Stop.Asserts
import Derived.RowKitTokens
import Derived.Test.YtflkmhgbinlfiaaGreatDoorPq24
import Derived.Test.YtflkmhgbinlfiaaGreatDoorPq26
import Derived.Test.YtflkmhgbinlfiaaGreatDoorPq14
import Derived.Test.YtflkmhgbinlfiaaGreatDoorPq07
import Derived.Test.YtflkmhgbinlfiaaGreatDoorPq23
import Derived.Deep.RegionHeld3
import Derived.BigQuiet
import Derived.Deep.QuietTactic
import Derived.Test.YtflkmhgbinlfiaaGreatDoorPq12
namespace Go.Proofs.YtflkmhgbinlfiaaGreatDoor
open Go.RowKit Go.Stop Go.Extern

theorem isTypeOf (v : Value) (w : World) : (callFunc 35 #[.iface 277 v]).run Tryz.prog w = .ok (.value (.iface 119 (.agg #[.pointer (some ⟨Tryz.prog.globals.size, 277, none⟩)]))) w := by
  rw [@run_callFunc_extern Tryz.prog 35 _ Extern.ReflectliteType.typeOf Tryz.func35 (by kernel_rfl) (by kernel_rfl) (by kernel_rfl) (by kernel_rfl)]
  kernel_rfl
theorem isComparable (w : World) : (callFunc 233 #[.agg #[.pointer (some ⟨Tryz.prog.globals.size, 277, none⟩)]]).run Tryz.prog w = .ok (.value (.bool true)) w := by
  rw [@run_callFunc_extern Tryz.prog 233 _ (Extern.ReflectliteType.method fun t => do Extern.Rtype.noPackHeld "Comparable" t; pure (.bool (← typeInfo t).comparable)) Tryz.func233 (by kernel_rfl) (by kernel_rfl) (by kernel_rfl) (by kernel_rfl)]
  kernel_rfl
theorem isMethodComparable (n : Nat) (v : Value) (w : World) : (Go.method (n + 1) 119 v "Comparable").run Tryz.prog w = .ok (233, v) w := by kernel_rfl
theorem isComp : (Tryz.prog.info? 277).map (·.comparable) = some true := by kernel_rfl
theorem isSize : (Tryz.prog.info? 279).map (·.size) = some 1 := by kernel_rfl
theorem noIsE (v : Value) (xT : TypeId) (w : World) : (Instr.typeAssert (.iface 277 v) xT 121 true).run Tryz.prog w = .ok (.tuple #[.nilIface, .bool false]) w := run_typeAssert_lacksB Tryz.underlying121 (by kernel_rfl) (by kernel_rfl) v xT w
theorem noUnwrapE (v : Value) (xT : TypeId) (w : World) : (Instr.typeAssert (.iface 277 v) xT 124 true).run Tryz.prog w = .ok (.tuple #[.nilIface, .bool false]) w := run_typeAssert_lacksB Tryz.underlying124 (by kernel_rfl) (by kernel_rfl) v xT w
theorem noUnwrapsE (v : Value) (xT : TypeId) (w : World) : (Instr.typeAssert (.iface 277 v) xT 126 true).run Tryz.prog w = .ok (.tuple #[.nilIface, .bool false]) w := run_typeAssert_lacksB Tryz.underlying126 (by kernel_rfl) (by kernel_rfl) v xT w

set_option maxRecDepth 100000 in
/-- errors.Is(x, x), x a pointer to an errors.errorString. -/
theorem is_same (a : Addr) (w : World) :
    Calls Tryz.prog 23 #[.iface 277 (.pointer (some a)), .iface 277 (.pointer (some a))] w fun e w' => e = .returned (.bool true) ∧ w' = w := by
  obtain ⟨i, hi, hcmp⟩ := Option.map_eq_some_iff.1 isComp
  obtain ⟨j, hj, hjs⟩ := Option.map_eq_some_iff.1 isSize
  have tT := isTypeOf
  have cT := isComparable
  have mR := isMethodComparable
  obtain ⟨G, hG⟩ : ∃ G, Tryz.prog.globals.size = G := ⟨_, rfl⟩
  rw [hG] at tT cT
  clear hG
  have heq := run_eql_iface_ptr_same (P := Tryz.prog) w a Tryz.underlying53 Tryz.underlying277 hi hcmp hj
  go_enter Tryz.func23, Tryz.ntmps23
  go_wp2
  refine wp_loop_rounds 1 ?_
  rw [rounds_succ]
  go_wp2
  go_ret
  exact ⟨rfl, rfl⟩

/-- errors.Is(nil, x). -/
theorem is_nil (b : Addr) (w : World) :
    Calls Tryz.prog 23 #[.nilIface, .iface 277 (.pointer (some b))] w fun e w' => e = .returned (.bool false) ∧ w' = w := by
  have hn := run_eql_iface_nil_left (P := Tryz.prog) w 277 (.pointer (some b)) Tryz.underlying53
  go_enter Tryz.func23, Tryz.ntmps23
  go_wp2
  go_ret
  exact ⟨rfl, rfl⟩

set_option maxRecDepth 100000 in
/-- errors.Is(x, y), two sentinels. -/
theorem is_other (a b : Addr) (ca cb : Array Value) (ta tb : TypeId) (w : World) (hne : a ≠ b) (ha : w.heap[a.block]? = some (.cells ca ta (0, 0))) (hb : w.heap[b.block]? = some (.cells cb tb (0, 0))) :
    Calls Tryz.prog 23 #[.iface 277 (.pointer (some a)), .iface 277 (.pointer (some b))] w fun e w' => e = .returned (.bool false) ∧ w' = w := by
  obtain ⟨i, hi, hcmp⟩ := Option.map_eq_some_iff.1 isComp
  obtain ⟨j, hj, hjs⟩ := Option.map_eq_some_iff.1 isSize
  have tT := isTypeOf
  have cT := isComparable
  have mR := isMethodComparable
  obtain ⟨G, hG⟩ : ∃ G, Tryz.prog.globals.size = G := ⟨_, rfl⟩
  rw [hG] at tT cT
  clear hG
  have nE := noIsE
  have uE := noUnwrapE
  have vE := noUnwrapsE
  have heq := run_eql_iface_ptr_other (P := Tryz.prog) w Tryz.underlying53 Tryz.underlying277 hi hcmp hj (by rw [hjs]; decide) hne ha hb
  go_enter Tryz.func23, Tryz.ntmps23
  go_wp2
  refine wp_loop_rounds 1 ?_
  rw [rounds_succ]
  go_wp2
  go_ret
  exact ⟨rfl, rfl⟩
end Go.Proofs.YtflkmhgbinlfiaaGreatDoor
namespace Go.Proofs.YtflkmhgbinlfiaaGreatDoor
open Go.RowKit Go.Shelf

theorem check_cases (f : Int) (fl : Own → Bool) (t : Tr) : checkT f fl t = 0 ∨ checkT f fl t = 60 ∨ checkT f fl t = 61 := by
  unfold checkT
  split
  · split
    · exact .inl rfl
    · exact .inr (.inr rfl)
  · exact .inr (.inl rfl)

set_option maxHeartbeats 4000000 in
set_option maxRecDepth 100000 in
theorem tree_Check {aT aF : Addr} (f : Int) (fl : Own → Bool) (hfits : FitsC aT aF f fl) (t : Tr) (x : Value) (w : World) (B d : Nat) (hl : ListAt w B d t.kids x) (ho : OwnOk t.own) (hB : B ≤ w.heap.size) (hc : t.count ≤ 1000000000) (h : GW w aT aF) :
    Calls Tryz.prog 13 #[nodeV t.own x, .int .i64 f] w fun e w' => e = .returned (.int .i64 (checkT f fl t)) ∧ Below w.heap.size w w' := by
  have hb1 : Below w.heap.size w (w.alloc (.cells (cellsV t.own x) 28)) := (Below.refl _ _).alloc (Nat.le_refl _) _
  have hk1 := Blk.new w (cellsV t.own x) 28
  have HC := tree_checked f fl hfits t x _ B d (hl.below hb1 hB) ho (Nat.le_trans hB hb1.size) hc (h.below hb1)
  have hcs := check_cases f fl t
  obtain ⟨ck, hck⟩ : ∃ ck, checkT f fl t = ck := ⟨_, rfl⟩
  rw [hck] at HC hcs ⊢
  obtain ⟨_, A, c, rfl⟩ := hl.slice
  obtain ⟨n, hn⟩ : ∃ n, t.kids.length = n := ⟨_, rfl⟩
  obtain ⟨⟨kind, b, neg, dg, ex, u, wd, s⟩, ho'⟩ : ∃ o, t.own = o := ⟨_, rfl⟩
  rw [ho', hn] at HC hk1 hb1 ⊢
  unfold nodeV at HC ⊢
  unfold cellsV at HC hk1 hb1
  simp only [] at HC hk1 hb1 ⊢
  have HC := Lib.hid HC
  have z0 := hk1.cell 0
  have z1 := hk1.cell 1
  have z2 := hk1.cell 2
  have z3 := hk1.cell 3
  have z4 := hk1.cell 4
  have z5 := hk1.cell 5
  have z6 := hk1.cell 6
  have z7 := hk1.cell 7
  have z8 := hk1.cell 8
  have HG := Lib.hid h
  clear hl ho hc hck ho' hn hk1 h hfits
  go_enter Tryz.func13, Tryz.ntmps13
  go_wp2_with fail
  refine HC.out.mono ?_
  rintro e w2 ⟨rfl, hb⟩
  have hb3 := hb1.trans (hb.mono hb1.size)
  have G := HG.out.below hb3
  have hgT := G.hT
  have hgF := G.hF
  obtain ⟨cT, tT, eT⟩ := G.bT
  obtain ⟨cF, tF, eF⟩ := G.bF
  have H1 := Lib.hid (is_nil aT w2)
  have H2 := Lib.hid (is_nil aF w2)
  have H3 := Lib.hid (is_same aT w2)
  have H4 := Lib.hid (is_same aF w2)
  have H5 := Lib.hid (is_other aF aT cF cT tF tT w2 G.ne.symm eF eT)
  clear z0 z1 z2 z3 z4 z5 z6 z7 z8 hb hb1 HC G eT eF
  rcases hcs with rfl | rfl | rfl
  · have he : errR aT aF 0 = .nilIface := rfl
    rw [he]
    clear he
    go_wp2_with fail
    refine H1.out.mono ?_
    rintro e w3 ⟨rfl, rfl⟩
    go_wp2_with fail
    refine H2.out.mono ?_
    rintro e w3 ⟨rfl, rfl⟩
    go_wp2_with fail
    go_ret
    exact ⟨rfl, hb3⟩
  · have he : errR aT aF 60 = errP aT := rfl
    rw [he]
    clear he
    go_wp2_with fail
    refine H3.out.mono ?_
    rintro e w3 ⟨rfl, rfl⟩
    go_wp2_with fail
    go_ret
    exact ⟨rfl, hb3⟩
  · have he : errR aT aF 61 = errP aF := rfl
    rw [he]
    clear he
    go_wp2_with fail
    refine H5.out.mono ?_
    rintro e w3 ⟨rfl, rfl⟩
    go_wp2_with fail
    refine H4.out.mono ?_
    rintro e w3 ⟨rfl, rfl⟩
    go_wp2_with fail
    go_ret
    exact ⟨rfl, hb3⟩

theorem fits_at_C (aT aF : Addr) : FitsC aT aF 2 flC := fun o l A n c w B d hl hB hn hc ho h => fits_C o l A n c w B d hl hB hn hc ho h
end Go.Proofs.YtflkmhgbinlfiaaGreatDoor
namespace Go.Proofs.YtflkmhgbinlfiaaGreatDoor
open Go.RowKit Go.Shelf

/-- A builder abides what turns another block. -/
theorem isW_grown {B b : Nat} {bs : List Value} {W W' : World} (h : IsW B b bs W) {row : Option Nat} (hg : W.grownBy W' row) (hr : ∀ r, row = some r → r < B ∨ ∃ o : Obj, W.heap[r]? = some o ∧ o.isCells = false) : IsW B b bs W' := by
  have key : ∀ p, Lib.BuilderAtF 106 5 B b p bs W → Lib.BuilderAtF 106 5 B b p bs W' := by
    rintro p ⟨hB, v, hb, hown, hne⟩
    refine ⟨hB, v, (hg.block b (Array.getElem?_eq_some_iff.1 hb).1 ?_).trans hb, hown.kept hg ?_, hne⟩
    · intro e
      rcases hr b e.symm with h1 | ⟨o, ho, hc⟩
      · omega
      · rw [hb] at ho
        cases ho
        cases hc
    · by_cases hv : v.ownBlock = none
      · exact .inl hv
      · right
        intro e
        obtain ⟨g, hvg⟩ : ∃ g, v.ownBlock = some g := by
          cases hq : v.ownBlock with
          | none => exact absurd hq hv
          | some g => exact ⟨g, rfl⟩
        rcases hr g (by rw [← e, hvg]) with h1 | ⟨o, ho, hc⟩
        · have := (hown.lt g hvg).1
          omega
        · rcases hown.2 with ⟨rfl, _⟩ | ⟨g', cap, cur, fz, rfl, _, hgc, _⟩
          · simp [Value.ownBlock] at hvg
          · simp [Value.ownBlock] at hvg
            subst hvg
            rw [hgc] at ho
            cases ho
            cases hc
  rcases h with h | h
  · exact .inl (key _ h)
  · exact .inr (key _ h)
/-- A block that is neither the builder nor a row of bytes. -/
theorem othersW_blk {b : Nat} {W W' : World} (h : Lib.OthersKept 5 (some b) W W') {k : Nat} {cs : Array Value} {t : TypeId} (hk : Blk W k cs t) (hkb : k ≠ b) (ht : t ≠ 5) : Blk W' k cs t :=
  h k _ hk (fun e => hkb (by cases e; rfl)) (fun c fz e => by cases e; exact ht rfl)

theorem others_below {p : Nat} {W W' : World} (h : Below W.heap.size W W') : Lib.OthersKept 5 (some p) W W' := fun k _ hk _ _ => (h.block k (Array.getElem?_eq_some_iff.1 hk).1).trans hk
/-- What a writer's call leaves: the builder with its bytes; all else as it was, but rows of bytes. -/
structure WP (B p : Nat) (l : List UInt8) (W W' : World) : Prop where
  is : IsW B p (Lib.byteCells l) W'
  below : Below B W W'
  others : Lib.OthersKept 5 (some p) W W'
theorem WP.trans {B p : Nat} {l l' : List UInt8} {W W1 W2 : World} (h : WP B p l W W1) (k : WP B p l' W1 W2) : WP B p l' W W2 := ⟨k.is, h.below.trans k.below, h.others.trans k.others⟩
theorem isW_below {B p : Nat} {bs : List Value} {W W' : World} (h : IsW B p bs W) (hb : Below W.heap.size W W') : IsW B p bs W' := isW_grown h (below_none hb) (fun r e => by cases e)
theorem WP.step {B p : Nat} {l : List UInt8} {W W' : World} (h : IsW B p (Lib.byteCells l) W) (hb : Below W.heap.size W W') (hB : B ≤ W.heap.size) : WP B p l W W' := ⟨isW_below h hb, hb.mono hB, others_below hb⟩
theorem WP.blk {B p : Nat} {l : List UInt8} {W W' : World} (h : WP B p l W W') {k : Nat} {cs : Array Value} {t : TypeId} (hk : Blk W k cs t) (hkp : k ≠ p) (ht : t ≠ 5) : Blk W' k cs t := othersW_blk h.others hk hkp ht


end Go.Proofs.YtflkmhgbinlfiaaGreatDoor
namespace Go.Proofs.YtflkmhgbinlfiaaGreatDoor
open Go.RowKit Go.Shelf




end Go.Proofs.YtflkmhgbinlfiaaGreatDoor
namespace Go.Proofs.YtflkmhgbinlfiaaGreatDoor
open Go.RowKit Go.Shelf






/-- What a round keeps: what lies below n, and all cells but the builder's and rows of bytes. -/
def KpW (p n : Nat) (A B : World) : Prop := A.heap.size ≤ B.heap.size ∧ (∀ q, q < n → B.heap[q]? = A.heap[q]?) ∧ ∀ (q : Nat) (cs : Array Value) (t : TypeId) (fr : Nat × Nat), A.heap[q]? = some (.cells cs t fr) → t ≠ 5 → q ≠ p → B.heap[q]? = some (.cells cs t fr)
theorem KpW.trans {p n : Nat} {A B C : World} (h : KpW p n A B) (k : KpW p n B C) : KpW p n A C :=
  ⟨Nat.le_trans h.1 k.1, fun q hq => (k.2.1 q hq).trans (h.2.1 q hq), fun q cs t fr ho ht hp => k.2.2 q cs t fr (h.2.2 q cs t fr ho ht hp) ht hp⟩
theorem KpW.refl (p n : Nat) (A : World) : KpW p n A A := ⟨Nat.le_refl _, fun _ _ => rfl, fun _ _ _ _ h _ _ => h⟩
theorem KpW.below {p n : Nat} {A B : World} (h : Below A.heap.size A B) (hn : n ≤ A.heap.size) : KpW p n A B :=
  ⟨h.size, fun q hq => h.block q (by omega), fun q cs t fr ho _ _ => (h.block q (Array.getElem?_eq_some_iff.1 ho).1).trans ho⟩
theorem KpW.putObj {p n : Nat} (W : World) (l : Nat) (o o' : Obj) (hl : n ≤ l) (h : W.heap[l]? = some o) (ho : o.isCells = false) : KpW p n W (W.putObj l o') := by
  refine ⟨?_, fun q hq => World.putObj_heap_other (by omega), fun q cs t fr hp _ _ => ?_⟩
  · exact (grownBy_putObj' W l o').size
  · refine (World.putObj_heap_other ?_).trans hp
    rintro rfl
    rw [h] at hp
    cases hp
    cases ho
theorem KpW.of {p B : Nat} {l : List UInt8} {W W' : World} (h : WP B p l W W') (hz : W.heap.size ≤ W'.heap.size) : KpW p B W W' :=
  ⟨hz, fun q hq => h.below.block q hq, fun q cs t fr ho ht hp => h.others q _ ho (fun e => hp (by cases e; rfl)) (fun c fz e => by cases e; exact ht rfl)⟩

section
attribute [local go_sem] Oper.semAt_some wide_fn wide_depth
end
end Go.Proofs.YtflkmhgbinlfiaaGreatDoor
namespace Go.Proofs.YtflkmhgbinlfiaaGreatDoor
open Go.RowKit Go.Shelf






end Go.Proofs.YtflkmhgbinlfiaaGreatDoor
namespace Go.Proofs.YtflkmhgbinlfiaaGreatDoor
open Go.RowKit Go.Shelf



end Go.Proofs.YtflkmhgbinlfiaaGreatDoor
namespace Go.Proofs.YtflkmhgbinlfiaaGreatDoor
open Go.RowKit Go.Shelf



end Go.Proofs.YtflkmhgbinlfiaaGreatDoor
namespace Go.Proofs.YtflkmhgbinlfiaaGreatDoor
open Go.RowKit Go.Shelf


section
attribute [local go_sem] Oper.semAt_some wide_fn wide_depth
end
end Go.Proofs.YtflkmhgbinlfiaaGreatDoor
namespace Go.Proofs.YtflkmhgbinlfiaaGreatDoor
open Go.RowKit Go.Shelf




end Go.Proofs.YtflkmhgbinlfiaaGreatDoor
namespace Go.Proofs.YtflkmhgbinlfiaaGreatDoor
open Go.RowKit Go.Shelf

/-- The contract of item, so deep at most, in worlds that have grown from w0. -/
def ItemC (w0 : World) (F d : Nat) : Prop := ∀ (p : Nat) (s : ByteArray) (w : World), Below w0.heap.size w0 w → w0.heap.size ≤ p → RdB w p s (16 - d) → s.size ≤ 1000000000 → s.size < F →
  Calls Tryz.prog 24 #[.pointer (some ⟨p, 0, none⟩)] w (ReadN p (16 - d) d w s (itemP F d s.data.toList))
theorem LAt_one {W : World} {S : Nat → Prop} {d k : Nat} {t : Tr} {x : Value} (hl : LAt W S d t.kids x) (ho : OwnOk t.own) (hk : Blk W k (cellsV t.own x) 28) (hS : S k) : LAt W S (d + 1) [t] (.slice (some ⟨k, 0, none⟩) 1 1) := by
  refine ⟨_, _, rfl, ⟨by simp, by simp⟩, fun i hi => ?_⟩
  have : i = 0 := by simpa using hi
  subst this
  refine ⟨_, x, rfl, hS, ho, fun j u hu => ?_, hl⟩
  have ha : ∀ m, (⟨k, 0, none⟩ : Addr).add m = ⟨k, m, none⟩ := fun m => by
    unfold Addr.add
    split
    · rename_i e
      rw [e]
    · simp
  rw [ha, hk.cell, Nat.zero_mul, Nat.zero_add, ← hu]
  unfold cellsV nodeCells
  simp
theorem below_of_grown {w0 w w' : World} {p : Nat} (hb : Below w0.heap.size w0 w) (hp : w0.heap.size ≤ p) (hlt : p < w.heap.size) (hg : w.grownBy w' (some p)) : Below w0.heap.size w0 w' := hb.trans (grown_below hg hp hlt)

set_option maxHeartbeats 4000000 in
set_option maxRecDepth 100000 in
theorem cr_tag {w0 : World} (F d p : Nat) (h : Nat × Nat × Nat) (hI : ItemC w0 F d) (s : ByteArray) (w : World) (hb0 : Below w0.heap.size w0 w) (hp : w0.heap.size ≤ p) (hr : RdB w p s (16 - d)) (hs : s.size ≤ 1000000000) (hF : s.size < F) (hu : h.2.2 < 18446744073709551616) :
    Calls Tryz.prog 71 #[.pointer (some ⟨p, 0, none⟩), startV h] w (ReadN p (16 - d) (d + 1) w s (bindP (itemP F d) (fun t => pureP (tagT h.2.2 t)) s.data.toList)) := by
  obtain ⟨hm, hi, ha⟩ := h
  simp only [] at hu
  obtain ⟨dp, hdp⟩ : ∃ dp, 16 - d = dp := ⟨_, rfl⟩
  have HIT := Lib.hid (fun W (hb : Below w0.heap.size w0 W) (hR : RdB W p s (16 - d)) => hI p s W hb hp hR hs hF)
  rw [hdp] at HIT hr ⊢
  have hb1 := (Below.refl w.heap.size w).alloc (Nat.le_refl _) (.cells #[.int .i64 hm, .int .i64 hi, .int .u64 ha] 88)
  have hb2 := hb1.alloc hb1.size (.cells #[.int .i64 0, .bool false, .bool false, .string ⟨#[]⟩, .int .i64 0, .int .u64 0, .int .i64 0, .string ⟨#[]⟩, .slice none 0 0] 28)
  have hk1 := (Blk.new w #[.int .i64 hm, .int .i64 hi, .int .u64 ha] 88).alloc (.cells #[.int .i64 0, .bool false, .bool false, .string ⟨#[]⟩, .int .i64 0, .int .u64 0, .int .i64 0, .string ⟨#[]⟩, .slice none 0 0] 28)
  have hk2 := Blk.new (w.alloc (.cells #[.int .i64 hm, .int .i64 hi, .int .u64 ha] 88)) #[.int .i64 0, .bool false, .bool false, .string ⟨#[]⟩, .int .i64 0, .int .u64 0, .int .i64 0, .string ⟨#[]⟩, .slice none 0 0] 28
  have hr2 := (hr.alloc (.cells #[.int .i64 hm, .int .i64 hi, .int .u64 ha] 88)).alloc (.cells #[.int .i64 0, .bool false, .bool false, .string ⟨#[]⟩, .int .i64 0, .int .u64 0, .int .i64 0, .string ⟨#[]⟩, .slice none 0 0] 28)
  rw [World.size_alloc] at hk2
  have hplt := hr.lt
  have hbb := (hb0.alloc hb0.size (.cells #[.int .i64 hm, .int .i64 hi, .int .u64 ha] 88)).alloc (by have := hb0.size; simp; omega) (.cells #[.int .i64 0, .bool false, .bool false, .string ⟨#[]⟩, .int .i64 0, .int .u64 0, .int .i64 0, .string ⟨#[]⟩, .slice none 0 0] 28)
  obtain ⟨res, hres⟩ : ∃ res, itemP F d s.data.toList = res := ⟨_, rfl⟩
  have hbp := bind_pure (itemP F d) (tagT ha) s.data.toList
  rw [hres] at hbp HIT
  show Calls _ _ _ _ (ReadN p dp (d + 1) w s (bindP (itemP F d) (fun t => pureP (tagT ha t)) s.data.toList))
  rw [hbp]
  have y3 : (ha : Int) < 18446744073709551616 := by omega
  clear hres hbp hb1 hI hdp
  cases res with
  | bad e =>
    have HIT : Hid (∀ W : World, Below w0.heap.size w0 W → RdB W p s dp → Calls Tryz.prog 24 #[.pointer (some ⟨p, 0, none⟩)] W fun x w' => W.grownBy w' (some p) ∧ (∃ o A n c, x = .returned (.tuple #[nodeV o (.slice A n c), errW e])) ∧ e ≠ 0 ∧ ∃ s', RdB w' p s' dp ∧ s'.size ≤ s.size) := HIT
    show Calls _ _ _ _ (ReadN p dp (d + 1) w s (.bad e))
    go_enter Tryz.func71, Tryz.ntmps71
    go_wp2_with fail
    refine (HIT.out _ hbb hr2).mono ?_
    rintro e1 w3 ⟨hg3, ⟨⟨kind3, b3, neg3, dg3, ex3, u3, wd3, s3⟩, A, n, c, rfl⟩, he, s', hr3, hs3⟩
    unfold nodeV
    simp only []
    have hk3 := (RdB.grown hk2 hg3 (by omega)).alloc (.cells #[.int .i64 kind3, .bool b3, .bool neg3, .string dg3, .int .i64 ex3, .int .u64 u3, .int .i64 wd3, .string s3, .slice A n c] 28)
    have hk13 := (RdB.grown hk1 hg3 (by omega)).alloc (.cells #[.int .i64 kind3, .bool b3, .bool neg3, .string dg3, .int .i64 ex3, .int .u64 u3, .int .i64 wd3, .string s3, .slice A n c] 28)
    have hx3 := Blk.new w3 #[.int .i64 kind3, .bool b3, .bool neg3, .string dg3, .int .i64 ex3, .int .u64 u3, .int .i64 wd3, .string s3, .slice A n c] 28
    have hk4 := hk3.alloc (.cells #[.int .i64 kind3, .bool b3, .bool neg3, .string dg3, .int .i64 ex3, .int .u64 u3, .int .i64 wd3, .string s3, .slice A n c] 28)
    have hr4 := (hr3.alloc (.cells #[.int .i64 kind3, .bool b3, .bool neg3, .string dg3, .int .i64 ex3, .int .u64 u3, .int .i64 wd3, .string s3, .slice A n c] 28)).alloc (.cells #[.int .i64 kind3, .bool b3, .bool neg3, .string dg3, .int .i64 ex3, .int .u64 u3, .int .i64 wd3, .string s3, .slice A n c] 28)
    have z2 := hk13.cell 2
    have q0 := hx3.cell 0
    have q1 := hx3.cell 1
    have q2 := hx3.cell 2
    have q3 := hx3.cell 3
    have q4 := hx3.cell 4
    have q5 := hx3.cell 5
    have q6 := hx3.cell 6
    have q7 := hx3.cell 7
    have q8 := hx3.cell 8
    go_wp2_with (refine wpList_store_row rfl 28 (.tmp 4) (.tmp 17) rfl (w.heap.size + 1) #[.int .i64 9, .bool false, .bool false, .string ⟨#[]⟩, .int .i64 0, .int .u64 ha, .int .i64 0, .string ⟨#[]⟩, .slice (some ⟨w3.heap.size + 1, 0, none⟩) 1 1] rfl rfl 28 _ hk4 (by kernel_rfl) rfl (by simp [Value.oneCell']) ?_)
    have hgA : w.grownBy ((w3.alloc (.cells #[.int .i64 kind3, .bool b3, .bool neg3, .string dg3, .int .i64 ex3, .int .u64 u3, .int .i64 wd3, .string s3, .slice A n c] 28)).alloc (.cells #[.int .i64 kind3, .bool b3, .bool neg3, .string dg3, .int .i64 ex3, .int .u64 u3, .int .i64 wd3, .string s3, .slice A n c] 28)) (some p) := grown_of (grown_trans (below_grown hb2 (some p)) hg3) (((Below.refl w3.heap.size w3).alloc (Nat.le_refl _) _).alloc (by simp) _)
    have hg := grown_at hgA (grown_row _ (w.heap.size + 1) #[.int .i64 9, .bool false, .bool false, .string ⟨#[]⟩, .int .i64 0, .int .u64 ha, .int .i64 0, .string ⟨#[]⟩, .slice (some ⟨w3.heap.size + 1, 0, none⟩) 1 1]) (Nat.le_succ w.heap.size)
    refine bodyPost_ret (results_cell (T := 28) rfl rfl rfl (blk_row hk4 #[.int .i64 9, .bool false, .bool false, .string ⟨#[]⟩, .int .i64 0, .int .u64 ha, .int .i64 0, .string ⟨#[]⟩, .slice (some ⟨w3.heap.size + 1, 0, none⟩) 1 1]) Tryz.underlying28 rfl (by kernel_rfl)) rfl ?_
    exact ⟨hg, ⟨{ zeroO with kind := 9, u := ha }, _, _, _, rfl⟩, he, s', blk_row_other hr4 (by omega) _, hs3⟩
  | good t r =>
    have HIT : Hid (∀ W : World, Below w0.heap.size w0 W → RdB W p s dp → Calls Tryz.prog 24 #[.pointer (some ⟨p, 0, none⟩)] W fun x w' => W.grownBy w' (some p) ∧ (∃ A n c, x = .returned (.tuple #[nodeV t.own (.slice A n c), .nilIface]) ∧ LAt w' (fun q => W.heap.size ≤ q ∧ q < w'.heap.size) d t.kids (.slice A n c)) ∧ OwnOk t.own ∧ RdB w' p (bs r) dp ∧ (bs r).size ≤ s.size) := HIT
    show Calls _ _ _ _ (ReadN p dp (d + 1) w s (.good (tagT ha t) r))
    go_enter Tryz.func71, Tryz.ntmps71
    go_wp2_with fail
    refine (HIT.out _ hbb hr2).mono ?_
    rintro e1 w3 ⟨hg3, ⟨A, n, c, rfl, hly⟩, hot, hr3, hs3⟩
    obtain ⟨⟨kind3, b3, neg3, dg3, ex3, u3, wd3, s3⟩, ho3⟩ : ∃ o, t.own = o := ⟨_, rfl⟩
    have HO3 := Lib.hid ho3
    rw [ho3]
    unfold nodeV
    simp only []
    have hk3 := (RdB.grown hk2 hg3 (by omega)).alloc (.cells #[.int .i64 kind3, .bool b3, .bool neg3, .string dg3, .int .i64 ex3, .int .u64 u3, .int .i64 wd3, .string s3, .slice A n c] 28)
    have hk13 := (RdB.grown hk1 hg3 (by omega)).alloc (.cells #[.int .i64 kind3, .bool b3, .bool neg3, .string dg3, .int .i64 ex3, .int .u64 u3, .int .i64 wd3, .string s3, .slice A n c] 28)
    have hx3 := Blk.new w3 #[.int .i64 kind3, .bool b3, .bool neg3, .string dg3, .int .i64 ex3, .int .u64 u3, .int .i64 wd3, .string s3, .slice A n c] 28
    have hx4 := Blk.new (w3.alloc (.cells #[.int .i64 kind3, .bool b3, .bool neg3, .string dg3, .int .i64 ex3, .int .u64 u3, .int .i64 wd3, .string s3, .slice A n c] 28)) #[.int .i64 kind3, .bool b3, .bool neg3, .string dg3, .int .i64 ex3, .int .u64 u3, .int .i64 wd3, .string s3, .slice A n c] 28
    rw [World.size_alloc] at hx4
    have hk4 := hk3.alloc (.cells #[.int .i64 kind3, .bool b3, .bool neg3, .string dg3, .int .i64 ex3, .int .u64 u3, .int .i64 wd3, .string s3, .slice A n c] 28)
    have hr4 := (hr3.alloc (.cells #[.int .i64 kind3, .bool b3, .bool neg3, .string dg3, .int .i64 ex3, .int .u64 u3, .int .i64 wd3, .string s3, .slice A n c] 28)).alloc (.cells #[.int .i64 kind3, .bool b3, .bool neg3, .string dg3, .int .i64 ex3, .int .u64 u3, .int .i64 wd3, .string s3, .slice A n c] 28)
    have z2 := hk13.cell 2
    have HLY := Lib.hid hly
    clear hly ho3
    have q0 := hx3.cell 0
    have q1 := hx3.cell 1
    have q2 := hx3.cell 2
    have q3 := hx3.cell 3
    have q4 := hx3.cell 4
    have q5 := hx3.cell 5
    have q6 := hx3.cell 6
    have q7 := hx3.cell 7
    have q8 := hx3.cell 8
    go_wp2_with (refine wpList_store_row rfl 28 (.tmp 4) (.tmp 17) rfl (w.heap.size + 1) #[.int .i64 9, .bool false, .bool false, .string ⟨#[]⟩, .int .i64 0, .int .u64 ha, .int .i64 0, .string ⟨#[]⟩, .slice (some ⟨w3.heap.size + 1, 0, none⟩) 1 1] rfl rfl 28 _ hk4 (by kernel_rfl) rfl (by simp [Value.oneCell']) ?_)
    have hz3 : w.heap.size + 1 + 1 ≤ w3.heap.size := by
      have := hg3.size
      simpa using this
    have hgA : w.grownBy ((w3.alloc (.cells #[.int .i64 kind3, .bool b3, .bool neg3, .string dg3, .int .i64 ex3, .int .u64 u3, .int .i64 wd3, .string s3, .slice A n c] 28)).alloc (.cells #[.int .i64 kind3, .bool b3, .bool neg3, .string dg3, .int .i64 ex3, .int .u64 u3, .int .i64 wd3, .string s3, .slice A n c] 28)) (some p) := grown_of (grown_trans (below_grown hb2 (some p)) hg3) (((Below.refl w3.heap.size w3).alloc (Nat.le_refl _) _).alloc (by simp) _)
    have hg := grown_at hgA (grown_row _ (w.heap.size + 1) #[.int .i64 9, .bool false, .bool false, .string ⟨#[]⟩, .int .i64 0, .int .u64 ha, .int .i64 0, .string ⟨#[]⟩, .slice (some ⟨w3.heap.size + 1, 0, none⟩) 1 1]) (Nat.le_succ w.heap.size)
    refine bodyPost_ret (results_cell (T := 28) rfl rfl rfl (blk_row hk4 #[.int .i64 9, .bool false, .bool false, .string ⟨#[]⟩, .int .i64 0, .int .u64 ha, .int .i64 0, .string ⟨#[]⟩, .slice (some ⟨w3.heap.size + 1, 0, none⟩) 1 1]) Tryz.underlying28 rfl (by kernel_rfl)) rfl ?_
    refine ⟨hg, ⟨_, _, _, rfl, ?_⟩, own_u 9 ha 0 (by decide) hu (by decide), blk_row_other hr4 (by omega) _, hs3⟩
    have hbA : Below w3.heap.size w3 ((w3.alloc (.cells #[.int .i64 kind3, .bool b3, .bool neg3, .string dg3, .int .i64 ex3, .int .u64 u3, .int .i64 wd3, .string s3, .slice A n c] 28)).alloc (.cells #[.int .i64 kind3, .bool b3, .bool neg3, .string dg3, .int .i64 ex3, .int .u64 u3, .int .i64 wd3, .string s3, .slice A n c] 28)) := ((Below.refl w3.heap.size w3).alloc (Nat.le_refl _) _).alloc (by simp) _
    have hl2 := (HLY.out.keep (fun q hq => hbA.block q hq.2)).keep (W' := ((w3.alloc (.cells #[.int .i64 kind3, .bool b3, .bool neg3, .string dg3, .int .i64 ex3, .int .u64 u3, .int .i64 wd3, .string s3, .slice A n c] 28)).alloc (.cells #[.int .i64 kind3, .bool b3, .bool neg3, .string dg3, .int .i64 ex3, .int .u64 u3, .int .i64 wd3, .string s3, .slice A n c] 28)).setRow (w.heap.size + 1) #[.int .i64 9, .bool false, .bool false, .string ⟨#[]⟩, .int .i64 0, .int .u64 ha, .int .i64 0, .string ⟨#[]⟩, .slice (some ⟨w3.heap.size + 1, 0, none⟩) 1 1]) (fun q hq => setRow_other _ _ _ _ (by have := hq.1; simp only [World.size_alloc] at this; omega))
    refine LAt_one (t := t) (hl2.mono (fun q hq => ?_)) hot ?_ ?_
    · have h1 := hq.1
      have h2 := hq.2
      simp only [World.size_alloc] at h1
      refine ⟨by omega, ?_⟩
      rw [setRow_size]
      simp only [World.size_alloc]
      omega
    · rw [HO3.out]
      exact blk_row_other hx4 (by omega) _
    · refine ⟨by omega, ?_⟩
      rw [setRow_size]
      simp only [World.size_alloc]
      omega
end Go.Proofs.YtflkmhgbinlfiaaGreatDoor
