/- The texts DelA, RtA, put together. -/
import Derived.Test.YtgfeeakcpojicaaGreatDoorPk24
import Derived.Test.YtgfeeakcpojicaaGreatDoorPk29
import Derived.Test.YtgfeeakcpojicaaGreatDoorPk30
import Derived.StillTailTactics
import Derived.BigQuiet
import Derived.Deep.QuietTactic
import Derived.Test.YtgfeeakcpojicaaGreatDoorPk05
import Derived.Test.YtgfeeakcpojicaaGreatDoorPk12
/- path: what Delete does at the last step. -/
namespace Go.Proofs.YtgfeeakcpojicaaGreatDoor
open Go.RowKit Go.Shelf

def delFrom (u : Tr) (i : Nat) : Nat := if u.own.kind = 8 then i - 1 else i
/-- A node without its place i (of a map: without the key ahead of it, too). -/
def delAt (u : Tr) (i : Nat) : Tr := .nd u.own (u.kids.take (delFrom u i) ++ u.kids.drop (i + 1))
def delT (s : Stp) (u : Tr) : Tr := match atO u s with
  | some i => delAt u i
  | none => u

theorem wrap_nat (f : Nat) (h : f ≤ 9223372036854775807) : wrap64 (f : Int) = f := by
  rw [← IntWalk.i64_left]
  exact IntWalk.i64_in _ (by omega)
theorem wrap_succ (i : Nat) (h : i < 9223372036854775807) : wrap64 ((i : Int) + 1) = ((i + 1 : Nat) : Int) := wrap_nat (i + 1) h
theorem wrap_pred (i f : Nat) (h : i ≤ 9223372036854775807) (hf : i = f + 1) : wrap64 ((i : Int) - 1) = (f : Int) := by
  have e : (i : Int) - 1 = f := by omega
  rw [e]
  exact wrap_nat f (by omega)

set_option maxHeartbeats 4000000 in
set_option maxRecDepth 100000 in
theorem delete_1 (u : Tr) (x : Value) (s : Stp) (i : Nat) (his : atO u s = some i) (W : World) (B d : Nat) (S : Nat → Prop) (hS : ∀ q, S q → q < B) (hl : LAt W S d u.kids x) (hok : OwnOk u.own) (hm6 : u.kids.length ≤ 1000000) (hB : B ≤ W.heap.size) (pb ib : Nat) (A : Option Addr) (n c k : Nat) (p : List Stp) (hp : StepsAt W B A n p)
    (hpb : Blk W pb #[.slice A n c] 22) (hib : Blk W ib #[.int .i64 k] 3) (hk : k < p.length) (hs : p[k] = s) :
    Calls Tryz.prog 43 #[nodeV u.own x, .pointer (some ⟨pb, 0, none⟩), .pointer (some ⟨ib, 0, none⟩)] W (NodePostS S (delT s u) W) := by
  have hil := atO_lt his
  have hlen := hp.len
  obtain ⟨hlen2, A2, c2, rfl⟩ := hl.slice
  obtain ⟨_, a2, _, _, rfl, _⟩ := hl.at_ hil
  obtain ⟨m, hm⟩ : ∃ m, u.kids.length = m := ⟨_, rfl⟩
  rw [hm] at hl hil hlen2 hm6 ⊢
  have hcap := hl.cap
  rw [hm] at hcap
  obtain ⟨hb2, hk1, hk2⟩ := box2 W (cellsV u.own (.slice (some a2) m c2)) zeroCs 38 38
  have hdb : Below W.heap.size W (((W.alloc (.cells (cellsV u.own (.slice (some a2) m c2)) 38)).alloc (.cells zeroCs 38)).drew) := hb2.drew
  have HAT := Lib.hid (path_at u (.slice (some a2) m c2) s _ B d ((hl.mono hS).below hdb hB) (Nat.le_trans hB hdb.size))
  rw [atI_some his] at HAT
  obtain ⟨ad, rfl, hab, hc0, hc1, _⟩ := (hp.below hb2 hB).at_ hk
  rw [hs] at hc0 hc1
  have hd : delT s u = delAt u i := by
    unfold delT
    rw [his]
  obtain ⟨o, ho⟩ : ∃ o, u.own = o := ⟨_, rfl⟩
  obtain ⟨f, hf⟩ : ∃ f, delFrom u i = f := ⟨_, rfl⟩
  have hfi : f ≤ i := by rw [← hf]; unfold delFrom; split <;> omega
  obtain ⟨i1, hi1e⟩ : ∃ i1, i + 1 = i1 := ⟨_, rfl⟩
  have hgo := fun (W2 : World) (hW : Below W.heap.size W W2) => del_appends W2.drew S d u.kids a2 m c2 f i1 (hl.belowS hS hW.drew hB) (fun q hq => Nat.lt_of_lt_of_le (hS q hq) (Nat.le_trans hB hW.drew.size)) hm (by omega) (by omega) hcap hm6
  unfold delAt at hd
  rw [hf, hi1e, ho] at hd
  have hodd := fun h8 => atO_odd his h8
  have hff : f = if o.kind = 8 then i - 1 else i := by rw [← hf, ← ho]; rfl
  rw [ho] at hodd hok
  obtain ⟨si, sk⟩ := s
  simp only [] at hc0 hc1
  have hpb2 := (hpb.below hb2 hpb.lt).cell 0
  have hib2 := (hib.below hb2 hib.lt).cell 0
  have y1 : (k : Int) < n := by omega
  have y0 : (0 : Int) ≤ k := by omega
  unfold nodeV stepV at HAT
  rw [ho] at HAT hk1 ⊢
  have HK1 := Lib.hid hk1
  have HK2 := Lib.hid hk2
  have HD := Lib.hid hd
  have HOK := Lib.hid hok
  have HGO0 := Lib.hid hgo
  have HFF := Lib.hid hff
  have HODD := Lib.hid hodd
  have HFI := Lib.hid hfi
  have HI1 := Lib.hid hi1e
  have HCAP := Lib.hid hcap
  have HL2 := Lib.hid hlen2
  clear hd hok hgo hff hodd hfi hi1e hcap hlen2 hm6 hf
  unfold nodeV
  unfold cellsV zeroCs at *
  simp only [] at HAT
  go_enter Tryz.func43, Tryz.ntmps43
  go_wp2_with fail
  obtain ⟨W1, hW1⟩ : ∃ W1, ((W.alloc (.cells #[.int .i64 o.kind, .bool o.b, .bool o.neg, .string o.dg, .int .i64 o.ex, .int .u64 o.u, .int .i64 o.wd, .string o.s, .slice (some a2) m c2] 38)).alloc (.cells #[.int .i64 0, .bool false, .bool false, .string ⟨#[]⟩, .int .i64 0, .int .u64 0, .int .i64 0, .string ⟨#[]⟩, .slice none 0 0] 38)) = W1 := ⟨_, rfl⟩
  rw [ho] at hdb hb2 hk2 hc0 hc1 hpb2 hib2 HK2
  rw [hW1] at HAT HK1 HK2 hb2 hk1 hk2 hdb hc0 hc1 hpb2 hib2 ⊢
  clear hW1
  have x0 := HK1.out.cell 0
  have x1 := HK1.out.cell 1
  have x2 := HK1.out.cell 2
  have x3 := HK1.out.cell 3
  have x4 := HK1.out.cell 4
  have x5 := HK1.out.cell 5
  have x6 := HK1.out.cell 6
  have x7 := HK1.out.cell 7
  have x8 := HK1.out.cell 8
  go_still_tail 5, (by kernel_rfl)
  change wpList _ _ _ _ _ W1.drew
  go_wp2_with fail
  refine HAT.out.mono ?_
  clear x0 x8
  rintro e W2 ⟨rfl, hb⟩
  have hb3 := hdb.trans (hb.mono hdb.size)
  have hbw := ((Below.refl W1.heap.size W1).drew).trans hb
  have hk3 := HK1.out.below hbw HK1.out.lt
  have hk5 := HK2.out.below hbw HK2.out.lt
  have x0 := hk3.cell 0
  have x8 := hk3.cell 8
  have HGO := Lib.hid (HGO0.out W2 hb3)
  have hff := HFF.out
  have hodd := HODD.out
  have hfi := HFI.out
  have hi1e := HI1.out
  have hcap := HCAP.out
  have hlen2 := HL2.out
  have HK3 := Lib.hid hk3
  have HK5 := Lib.hid hk5
  have HB3 := Lib.hid hb3
  have hfm : f ≤ m := by omega
  have y2 : (0 : Int) ≤ i := by omega
  have y3 : (i : Int) < m := by omega
  have y4 : (0 : Int) ≤ f := by omega
  have y5 : (f : Int) ≤ m := by omega
  have hi63 : i < 9223372036854775807 := by omega
  have y8 : (m : Int) ≤ c2 := by omega
  have y9 : (f : Int) ≤ c2 := by omega
  have y10 : (i1 : Int) ≤ m := by omega
  have y11 : (0 : Int) ≤ i1 := by omega
  have y12 : (i1 : Int) ≤ c2 := by omega
  clear hb hbw HAT x1 x2 x3 x4 x5 x6 x7 hpb2 hib2 hc0 hc1 HK1 HK2 hk1 hk2 hk3 hk5 hb3 hdb hb2 HGO0 HFF HODD HFI HI1 HCAP HL2 W1 hpb hib hp hl hm hlen
  by_cases h8 : o.kind = 8
  · have hi1 : 1 ≤ i := by
      have := hodd h8
      omega
    have hif : i = f + 1 := by
      rw [if_pos h8] at hff
      omega
    have y7 : wrap64 ((i : Int) - 1) = (f : Int) := wrap_pred i f (Nat.le_of_lt hi63) hif
    have y6 : wrap64 ((i : Int) + 1) = (i1 : Int) := by rw [← hi1e]; exact wrap_succ i hi63
    have y6' : IntKind.i64.wrap ((i : Int) + 1) = (i1 : Int) := (IntWalk.i64_left _).trans y6
    have q8 : (o.kind == 8) = true := by rw [beq_iff_eq]; exact h8
    clear hif hi1 hff hodd h8
    clear hi63 hlen2 hfi hfm hcap hi1e
    go_wp2_with fail
    go_still_tail 10, (by kernel_rfl)
    change wpList _ _ _ _ _ W2.drew
    clear q8
    obtain ⟨A4, n4, c4, W3, hrun, hl3, hb0⟩ := HGO.out
    have hb : Below W2.heap.size W2 W3 := ((Below.refl W2.heap.size W2).drew).trans hb0
    have hk4 := HK3.out.below hb HK3.out.lt
    have hk5 := HK5.out.below hb HK5.out.lt
    have hb4 := HB3.out.trans (hb.mono HB3.out.size)
    have f8 := hk4.frozen 8
    have k8 := hk4.cell 8
    have hz := hb.size
    have hz : W2.heap.size ≤ W3.heap.size := hz
    have hw3 := HK3.out.lt
    have hw5 := HK5.out.lt
    have hw2 := HB3.out.size
    have hs1 : Blk (W3.setCell ⟨W.heap.size, 8, none⟩ (.slice A4 n4 c4)) W.heap.size #[.int .i64 o.kind, .bool o.b, .bool o.neg, .string o.dg, .int .i64 o.ex, .int .u64 o.u, .int .i64 o.wd, .string o.s, .slice A4 n4 c4] 38 := hk4.set 8 _
    have hs2 : Blk (W3.setCell ⟨W.heap.size, 8, none⟩ (.slice A4 n4 c4)) (W.heap.size + 1) #[.int .i64 0, .bool false, .bool false, .string ⟨#[]⟩, .int .i64 0, .int .u64 0, .int .i64 0, .string ⟨#[]⟩, .slice none 0 0] 38 := hk5.other (by omega) _ _
    have hb5 : Below W.heap.size W (W3.setCell ⟨W.heap.size, 8, none⟩ (.slice A4 n4 c4)) := hb4.setCell (Nat.le_refl _) _
    have hs3 := blk_row hs2 #[.int .i64 o.kind, .bool o.b, .bool o.neg, .string o.dg, .int .i64 o.ex, .int .u64 o.u, .int .i64 o.wd, .string o.s, .slice A4 n4 c4]
    have hb6 := hb5.grown (grown_row (W3.setCell ⟨W.heap.size, 8, none⟩ (.slice A4 n4 c4)) (W.heap.size + 1) #[.int .i64 o.kind, .bool o.b, .bool o.neg, .string o.dg, .int .i64 o.ex, .int .u64 o.u, .int .i64 o.wd, .string o.s, .slice A4 n4 c4]) hb5.size (fun q e => by cases e; omega)
    have hz5 := setCell_size W3 ⟨W.heap.size, 8, none⟩ (.slice A4 n4 c4)
    have hl4 : LAt ((W3.setCell ⟨W.heap.size, 8, none⟩ (.slice A4 n4 c4)).setRow (W.heap.size + 1) #[.int .i64 o.kind, .bool o.b, .bool o.neg, .string o.dg, .int .i64 o.ex, .int .u64 o.u, .int .i64 o.wd, .string o.s, .slice A4 n4 c4]) (fun q => (S q ∨ W.heap.size ≤ q) ∧ q < ((W3.setCell ⟨W.heap.size, 8, none⟩ (.slice A4 n4 c4)).setRow (W.heap.size + 1) #[.int .i64 o.kind, .bool o.b, .bool o.neg, .string o.dg, .int .i64 o.ex, .int .u64 o.u, .int .i64 o.wd, .string o.s, .slice A4 n4 c4]).heap.size) d (u.kids.take f ++ u.kids.drop i1) (.slice A4 n4 c4) := by
      refine (((hl3.keep (W' := W3.setCell ⟨W.heap.size, 8, none⟩ (.slice A4 n4 c4)) (fun q hq => Below.heap_setCell W3 ⟨W.heap.size, 8, none⟩ (.slice A4 n4 c4) q ?_)).keep (fun q hq => setRow_other _ _ _ _ ?_))).mono (fun q hq => ⟨?_, ?_⟩)
      · show q ≠ W.heap.size
        rcases hq.1 with h | h
        · have h := hS q h
          omega
        · have h : W2.heap.size ≤ q := h
          omega
      · show q ≠ W.heap.size + 1
        rcases hq.1 with h | h
        · have h := hS q h
          omega
        · have h : W2.heap.size ≤ q := h
          omega
      · rcases hq.1 with h | h
        · exact .inl h
        · have h : W2.heap.size ≤ q := h
          exact .inr (by omega)
      · rw [setRow_size, hz5]
        exact hq.2
    have HS1 := Lib.hid hs1
    have HS2 := Lib.hid hs2
    have HS3 := Lib.hid hs3
    have HB6 := Lib.hid hb6
    have HL4 := Lib.hid hl4
    have HRUN := Lib.hid hrun
    clear hb4 hb5 hb6 hs1 hs2 hs3 hl3 hl4 hk4 hk5 hb hb0 hz hw3 hw5 hw2 hz5 hrun HGO HK3 HK5 HB3
    go_wp2_with (first | (at_builtin; refine wpList_append_run _ rfl _ _ 36 rfl _ _ (.slice A4 n4 c4) W3 rfl rfl HRUN.out ?_) | (refine wpList_load_row rfl 38 (.tmp 3) rfl W.heap.size rfl 38 _ (0, 0) _ HS1.out Tryz.underlying38 rfl (by kernel_rfl) ?_) | (refine wpList_store_row rfl 38 (.tmp 4) (.tmp 31) rfl (W.heap.size + 1) #[.int .i64 o.kind, .bool o.b, .bool o.neg, .string o.dg, .int .i64 o.ex, .int .u64 o.u, .int .i64 o.wd, .string o.s, .slice A4 n4 c4] rfl rfl 38 _ HS2.out (by kernel_rfl) rfl (by simp [Value.oneCell']) ?_))
    all_goals refine bodyPost_ret (v := .agg #[.int .i64 o.kind, .bool o.b, .bool o.neg, .string o.dg, .int .i64 o.ex, .int .u64 o.u, .int .i64 o.wd, .string o.s, .slice A4 n4 c4]) (results_cell_row rfl _ _ (W.heap.size + 1) 38 _ (0, 0) _ rfl HS3.out Tryz.underlying38 rfl (by kernel_rfl)) rfl ?_
    all_goals rw [HD.out]
    all_goals exact ⟨⟨_, d, rfl, HL4.out, HOK.out⟩, HB6.out⟩
  · rw [if_neg h8] at hff
    subst hff
    have y6 : wrap64 ((f : Int) + 1) = (i1 : Int) := by rw [← hi1e]; exact wrap_succ f hi63
    have y6' : IntKind.i64.wrap ((f : Int) + 1) = (i1 : Int) := (IntWalk.i64_left _).trans y6
    have q8 : (o.kind == 8) = false := by rw [beq_eq_false_iff_ne]; exact h8
    clear hodd h8
    clear hi63 hlen2 hfi hfm hcap hi1e
    go_wp2_with fail
    go_still_tail 10, (by kernel_rfl)
    change wpList _ _ _ _ _ W2.drew
    clear q8
    obtain ⟨A4, n4, c4, W3, hrun, hl3, hb0⟩ := HGO.out
    have hb : Below W2.heap.size W2 W3 := ((Below.refl W2.heap.size W2).drew).trans hb0
    have hk4 := HK3.out.below hb HK3.out.lt
    have hk5 := HK5.out.below hb HK5.out.lt
    have hb4 := HB3.out.trans (hb.mono HB3.out.size)
    have f8 := hk4.frozen 8
    have k8 := hk4.cell 8
    have hz := hb.size
    have hz : W2.heap.size ≤ W3.heap.size := hz
    have hw3 := HK3.out.lt
    have hw5 := HK5.out.lt
    have hw2 := HB3.out.size
    have hs1 : Blk (W3.setCell ⟨W.heap.size, 8, none⟩ (.slice A4 n4 c4)) W.heap.size #[.int .i64 o.kind, .bool o.b, .bool o.neg, .string o.dg, .int .i64 o.ex, .int .u64 o.u, .int .i64 o.wd, .string o.s, .slice A4 n4 c4] 38 := hk4.set 8 _
    have hs2 : Blk (W3.setCell ⟨W.heap.size, 8, none⟩ (.slice A4 n4 c4)) (W.heap.size + 1) #[.int .i64 0, .bool false, .bool false, .string ⟨#[]⟩, .int .i64 0, .int .u64 0, .int .i64 0, .string ⟨#[]⟩, .slice none 0 0] 38 := hk5.other (by omega) _ _
    have hb5 : Below W.heap.size W (W3.setCell ⟨W.heap.size, 8, none⟩ (.slice A4 n4 c4)) := hb4.setCell (Nat.le_refl _) _
    have hs3 := blk_row hs2 #[.int .i64 o.kind, .bool o.b, .bool o.neg, .string o.dg, .int .i64 o.ex, .int .u64 o.u, .int .i64 o.wd, .string o.s, .slice A4 n4 c4]
    have hb6 := hb5.grown (grown_row (W3.setCell ⟨W.heap.size, 8, none⟩ (.slice A4 n4 c4)) (W.heap.size + 1) #[.int .i64 o.kind, .bool o.b, .bool o.neg, .string o.dg, .int .i64 o.ex, .int .u64 o.u, .int .i64 o.wd, .string o.s, .slice A4 n4 c4]) hb5.size (fun q e => by cases e; omega)
    have hz5 := setCell_size W3 ⟨W.heap.size, 8, none⟩ (.slice A4 n4 c4)
    have hl4 : LAt ((W3.setCell ⟨W.heap.size, 8, none⟩ (.slice A4 n4 c4)).setRow (W.heap.size + 1) #[.int .i64 o.kind, .bool o.b, .bool o.neg, .string o.dg, .int .i64 o.ex, .int .u64 o.u, .int .i64 o.wd, .string o.s, .slice A4 n4 c4]) (fun q => (S q ∨ W.heap.size ≤ q) ∧ q < ((W3.setCell ⟨W.heap.size, 8, none⟩ (.slice A4 n4 c4)).setRow (W.heap.size + 1) #[.int .i64 o.kind, .bool o.b, .bool o.neg, .string o.dg, .int .i64 o.ex, .int .u64 o.u, .int .i64 o.wd, .string o.s, .slice A4 n4 c4]).heap.size) d (u.kids.take f ++ u.kids.drop i1) (.slice A4 n4 c4) := by
      refine (((hl3.keep (W' := W3.setCell ⟨W.heap.size, 8, none⟩ (.slice A4 n4 c4)) (fun q hq => Below.heap_setCell W3 ⟨W.heap.size, 8, none⟩ (.slice A4 n4 c4) q ?_)).keep (fun q hq => setRow_other _ _ _ _ ?_))).mono (fun q hq => ⟨?_, ?_⟩)
      · show q ≠ W.heap.size
        rcases hq.1 with h | h
        · have h := hS q h
          omega
        · have h : W2.heap.size ≤ q := h
          omega
      · show q ≠ W.heap.size + 1
        rcases hq.1 with h | h
        · have h := hS q h
          omega
        · have h : W2.heap.size ≤ q := h
          omega
      · rcases hq.1 with h | h
        · exact .inl h
        · have h : W2.heap.size ≤ q := h
          exact .inr (by omega)
      · rw [setRow_size, hz5]
        exact hq.2
    have HS1 := Lib.hid hs1
    have HS2 := Lib.hid hs2
    have HS3 := Lib.hid hs3
    have HB6 := Lib.hid hb6
    have HL4 := Lib.hid hl4
    have HRUN := Lib.hid hrun
    clear hb4 hb5 hb6 hs1 hs2 hs3 hl3 hl4 hk4 hk5 hb hb0 hz hw3 hw5 hw2 hz5 hrun HGO HK3 HK5 HB3
    go_wp2_with (first | (at_builtin; refine wpList_append_run _ rfl _ _ 36 rfl _ _ (.slice A4 n4 c4) W3 rfl rfl HRUN.out ?_) | (refine wpList_load_row rfl 38 (.tmp 3) rfl W.heap.size rfl 38 _ (0, 0) _ HS1.out Tryz.underlying38 rfl (by kernel_rfl) ?_) | (refine wpList_store_row rfl 38 (.tmp 4) (.tmp 31) rfl (W.heap.size + 1) #[.int .i64 o.kind, .bool o.b, .bool o.neg, .string o.dg, .int .i64 o.ex, .int .u64 o.u, .int .i64 o.wd, .string o.s, .slice A4 n4 c4] rfl rfl 38 _ HS2.out (by kernel_rfl) rfl (by simp [Value.oneCell']) ?_))
    all_goals refine bodyPost_ret (v := .agg #[.int .i64 o.kind, .bool o.b, .bool o.neg, .string o.dg, .int .i64 o.ex, .int .u64 o.u, .int .i64 o.wd, .string o.s, .slice A4 n4 c4]) (results_cell_row rfl _ _ (W.heap.size + 1) 38 _ (0, 0) _ rfl HS3.out Tryz.underlying38 rfl (by kernel_rfl)) rfl ?_
    all_goals rw [HD.out]
    all_goals exact ⟨⟨_, d, rfl, HL4.out, HOK.out⟩, HB6.out⟩
end Go.Proofs.YtgfeeakcpojicaaGreatDoor
/- The reference's trees (targumref06): Depth, only. -/
namespace Go.Proofs.YtgfeeakcpojicaaGreatDoor
open Go.RowKit Go.Shelf

mutual
def Tr.depth : Tr → Nat
  | .nd _ l => depthL l + 1
def depthL : List Tr → Nat
  | [] => 0
  | t :: l => max t.depth (depthL l)
end
theorem Tr.depth_eq (t : Tr) : t.depth = depthL t.kids + 1 := by
  cases t
  rw [Tr.depth]
  rfl
theorem depthL_append : ∀ a b : List Tr, depthL (a ++ b) = max (depthL a) (depthL b)
  | [], b => by simp [depthL]
  | t :: a, b => by
    show max t.depth (depthL (a ++ b)) = max (max t.depth (depthL a)) (depthL b)
    rw [depthL_append a b]
    omega
theorem depthL_take (l : List Tr) (k : Nat) (hk : k < l.length) : depthL (l.take (k + 1)) = max (depthL (l.take k)) l[k].depth := by
  rw [List.take_succ_eq_append_getElem hk, depthL_append]
  simp [depthL]
mutual
theorem depth_count : ∀ t : Tr, t.depth ≤ t.count
  | .nd _ l => by
    rw [Tr.depth, Tr.count]
    have := depthL_count l
    omega
theorem depthL_count : ∀ l : List Tr, depthL l ≤ countL l
  | [] => by simp [depthL]
  | t :: l => by
    rw [depthL, countL]
    have := depth_count t
    have := depthL_count l
    omega
end

set_option maxHeartbeats 2000000 in
set_option maxRecDepth 100000 in
theorem ref_Depth (d : Nat) : ∀ (t : Tr) (x : Value) (w : World) (B : Nat), ListAt w B d t.kids x → B ≤ w.heap.size → t.count ≤ 1000000000000 →
    Calls Tryz.prog 41 #[nodeV t.own x] w fun e w' => e = .returned (.int .i64 (t.depth : Nat)) ∧ Below w.heap.size w w' := by
  induction d using Nat.strongRecOn with
  | _ d ih =>
  intro t x w B hl hB hc
  obtain ⟨hlen, A, c, rfl⟩ := hl.slice
  have hdc := depth_count t
  rw [Tr.depth_eq] at hdc ⊢
  have hkc : ∀ l, t.kids = l → ∀ k (h : k < l.length), l[k].count ≤ 1000000000000 := by
    rintro _ rfl k h
    have := Tr.count_eq t
    have h1 := countL_take t.kids k h
    have h2 := countL_mono t.kids (k + 1)
    omega
  obtain ⟨l, hkl⟩ : ∃ l, t.kids = l := ⟨_, rfl⟩
  have hkc := hkc l hkl
  rw [hkl] at hl hlen hdc ⊢
  obtain ⟨n, hn⟩ : ∃ n, l.length = n := ⟨_, rfl⟩
  rw [hn] at hl hlen ⊢
  obtain ⟨⟨kind, b, neg, dg, ex, u, wd, s⟩, ho⟩ : ∃ o, t.own = o := ⟨_, rfl⟩
  rw [ho]
  unfold nodeV
  have HL := Lib.hid hl
  have IH := Lib.hid ih
  have HKC := Lib.hid hkc
  have hbx := (Below.refl w.heap.size w).alloc (Nat.le_refl _) (.cells #[.int .i64 kind, .bool b, .bool neg, .string dg, .int .i64 ex, .int .u64 u, .int .i64 wd, .string s, .slice A n c] 38)
  have hBx : Blk (w.alloc (.cells #[.int .i64 kind, .bool b, .bool neg, .string dg, .int .i64 ex, .int .u64 u, .int .i64 wd, .string s, .slice A n c] 38)) w.heap.size #[.int .i64 kind, .bool b, .bool neg, .string dg, .int .i64 ex, .int .u64 u, .int .i64 wd, .string s, .slice A n c] 38 := Blk.new _ _ _
  have hd2 : depthL l + 1 ≤ 1000000000000 := by omega
  clear hl ih ho hkl hkc hdc hc
  simp only []
  go_enter Tryz.func41, Tryz.ntmps41
  go_wp2_with fail
  go_loopw [3, 4] (fun m i wr => ∃ k : Nat, k ≤ n ∧ i = .int .i64 k ∧ m = .int .i64 ((depthL (l.take k) : Nat) : Int) ∧ Below w.heap.size w wr ∧ Blk wr w.heap.size #[.int .i64 kind, .bool b, .bool neg, .string dg, .int .i64 ex, .int .u64 u, .int .i64 wd, .string s, .slice A n c] 38) (fun _ i _ => n - (intOf i).toNat)
  case atStart => exact ⟨0, by omega, rfl, rfl, hbx, hBx⟩
  case round =>
    obtain ⟨k, hk, rfl, rfl, hbw, hbk⟩ := hrel
    have hfl : wr.cell? ⟨w.heap.size, 8, none⟩ = some (.slice A n c) := hbk.cell 8
    by_cases hlt : k < n
    · have hkl : k < l.length := by omega
      obtain ⟨d', ad, x', hdd, rfl, hab, hok, hna, hkk⟩ := (HL.out.below hbw hB).at_ hkl
      have htk := depthL_take l k hkl
      have HC := IH.out d' (by omega) l[k] x' wr B hkk (Nat.le_trans hB hbw.size) (HKC.out k hkl)
      obtain ⟨m0, hm0⟩ : ∃ m0, depthL (l.take k) = m0 := ⟨_, rfl⟩
      obtain ⟨m1, hm1⟩ : ∃ m1, l[k].depth = m1 := ⟨_, rfl⟩
      rw [hm0, hm1] at htk
      rw [hm1] at HC
      obtain ⟨⟨kind', b', neg', dg', ex', u', wd', s'⟩, ho'⟩ : ∃ o, l[k].own = o := ⟨_, rfl⟩
      rw [ho'] at HC hna
      unfold nodeV at HC
      obtain ⟨k0, k1, k2, k3, k4, k5, k6, k7, k8⟩ := hna
      simp only [] at k0 k1 k2 k3 k4 k5 k6 k7 k8 HC
      have HC := Lib.hid HC
      have HT := Lib.hid htk
      rw [hm0]
      have y1 : (k : Int) < n := by omega
      have y2 : max (m0 : Int) (m1 : Int) = ((max m0 m1 : Nat) : Int) := by omega
      clear htk hm0 hm1 ho' hkk hok hdd
      go_wp2_with fail
      refine HC.out.mono ?_
      rintro e w2 ⟨rfl, hb2⟩
      have hb3 := hbw.trans (hb2.mono hbw.size)
      have hbk2 := hbk.below hb2 hbk.lt
      clear hb2 HC hbk k0 k1 k2 k3 k4 k5 k6 k7 k8 hfl
      go_wp2_with fail
      go_roundw
      case rel => exact ⟨k + 1, by omega, by go_num, by first | (rw [HT.out]; done) | (rw [HT.out]; exact congrArg (Value.int .i64) (by omega)), hb3, hbk2⟩
      case measure => simp [intOf]; omega
    · obtain rfl : k = n := by omega
      have y1 : ¬ (k : Int) < k := by omega
      have hf : l.take k = l := by rw [← hn, List.take_length]
      rw [hf]
      clear hn hf
      go_wp2_with fail
      go_ret
      exact ⟨by go_num, hbw⟩

theorem sameT_own (t : Tr) (o : Own) : sameT t (.nd o t.kids) = decide (t.own = o) := by
  rw [sameT_eq]
  show (decide (t.own = o) && decide (t.kids.length = t.kids.length) && sameL t.kids t.kids) = _
  rw [sameL_refl, decide_eq_true rfl, Bool.and_true, Bool.and_true]
/-- Has a node nothing but what x has (and its kind and its list)? -/
def onlyB (o x : Own) : Bool := decide (o = { x with kind := o.kind })

set_option maxHeartbeats 2000000 in
set_option maxRecDepth 100000 in
theorem ref_only (t : Tr) (xo : Own) (v : Value) (w : World) (B d : Nat) (hl : ListAt w B d t.kids v) (hB : B ≤ w.heap.size) :
    Calls Tryz.prog 82 #[nodeV t.own v, nodeV xo (.slice none 0 0)] w fun e w' => e = .returned (.bool (onlyB t.own xo)) ∧ Below w.heap.size w w' := by
  obtain ⟨hlen, A, c, rfl⟩ := hl.slice
  obtain ⟨n, hn⟩ : ∃ n, t.kids.length = n := ⟨_, rfl⟩
  rw [hn] at hl ⊢
  obtain ⟨o, ho⟩ : ∃ o, t.own = o := ⟨_, rfl⟩
  have HS := fun W (hl' : ListAt W B d t.kids (.slice A n c)) (hB' : B ≤ W.heap.size) => ref_SameT d t (.nd { xo with kind := t.own.kind } t.kids) (.slice A n c) (.slice A n c) W B d hl' hl' hB'
  simp only [sameT_own] at HS
  rw [ho] at HS ⊢
  obtain ⟨hb4, _, _⟩ := box2 w (cellsV o (.slice A n c)) (cellsV { xo with kind := o.kind } (.slice A n c)) 38 38
  have HS := HS _ (hl.below hb4 hB) (Nat.le_trans hB hb4.size)
  have HS : Calls Tryz.prog 18 #[nodeV o (.slice A n c), nodeV { xo with kind := o.kind } (.slice A n c)] _ _ := HS
  have HB4 := Lib.hid hb4
  unfold nodeV at HS ⊢
  unfold cellsV at *
  simp only [] at HS
  have HS := Lib.hid HS
  clear hb4
  go_enter Tryz.func82, Tryz.ntmps82
  go_wp2_with fail
  refine HS.out.mono ?_
  rintro e w2 ⟨rfl, hb⟩
  have hb5 := HB4.out.trans (hb.mono HB4.out.size)
  clear hb HS HB4
  go_wp2_with fail
  go_ret
  exact ⟨rfl, hb5⟩
end Go.Proofs.YtgfeeakcpojicaaGreatDoor
