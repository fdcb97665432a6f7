/- The texts CbKwW, LaidV, put together. -/
import Derived.Test.YtffaefdnlgfdbaaGreatDoorPk45
import Derived.Test.YtffaefdnlgfdbaaGreatDoorPk01
import Derived.Test.YtffaefdnlgfdbaaGreatDoorRows
import Derived.Test.YtffaefdnlgfdbaaGreatDoorPk06
import Derived.Lib.LaidU8T
import Derived.PinnedBridge
import Derived.Stop.LaidErr
import Derived.Stop.Joined
import Derived.LaidMore
import Derived.LaidLaws
import Derived.Lay
import Derived.SevenTiedAt
import Derived.ProofKit
import Derived.OpenShut
import Derived.Lib.LaidTab
/- The walk of the law CborwKeys. Printed by gen_cbkw.py. -/
namespace Go.Proofs.YtffaefdnlgfdbaaGreatDoor
open Go.RowKit Go.Shelf

theorem keyOf_item (t : Tr) : cbT (keyOf t) = 161 :: (cbT t ++ [246]) := by
  rw [cbT, hdO_8 _ rfl, txO_nil (by decide) (by decide), cbL, cbL, cbL]
  have h1 : cbT nullT = [246] := by decide +kernel
  have h2 : itemL (5, (leastN ([t, nullT].length / 2)).1, [t, nullT].length / 2) = [161] := by
    rw [show [t, nullT].length / 2 = 1 by simp]
    decide +kernel
  rw [h1, h2]
  simp
theorem key_write {t : Tr} (h : checkT 2 flC (keyOf t) = 0) : checkT 2 flC t = 0 := by
  obtain ⟨h1, h2, h3, h4⟩ := check_ok h
  obtain ⟨h5, h6, h7⟩ := keyOf_parts h
  have h8 : t.depth ≤ 16 := by
    rw [Tr.depth, depthL] at h2
    omega
  unfold checkT rightT
  rw [decide_eq_true h7, decide_eq_true h8, h5, h6]
  rfl

set_option maxHeartbeats 8000000 in
set_option maxRecDepth 100000 in
theorem keys_walk {aT aF : Addr} (t0 : Tr) (vt : Value) (w : World) (h : GW w aT aF) (D : Nat) (hl : ListAt w w.heap.size D t0.kids vt) (ho : OwnOk t0.own) (hc : t0.count ≤ 1048576) :
    Calls Tryz.prog 5 #[nodeV t0.own vt] w fun e w' => e = .returned (.bool true) ∧ Below w.heap.size w w' := by
  have H0 := Lib.hid (fun w h => cb_shown (aT := aT) (aF := aF) w h)
  have HU := Lib.hid (fun (w' : World) (hw : Below w.heap.size w w') => h.below hw)
  have HF := Lib.hid (fun (w' : World) (hw : Below w.heap.size w w') => law_FewT t0 vt w' w.heap.size D (hl.below hw (Nat.le_refl _)) ho hw.size (by omega))
  have hto := few_okC ho
  have htc := few_count t0
  obtain ⟨o0, ho0⟩ : ∃ o, t0.own = o := ⟨_, rfl⟩
  rw [ho0] at HF ⊢
  generalize fewT t0 = t at HF hto htc
  have hb2 : Below w.heap.size w (w.alloc (.cells (cellsV o0 vt) 27)) := (Below.refl _ _).alloc (Nat.le_refl _) _
  have hk1 := Blk.new w (cellsV o0 vt) 27
  obtain ⟨ot, hot⟩ : ∃ o, t.own = o := ⟨_, rfl⟩
  rw [hot] at HF
  have HK1 := Lib.hid hk1
  have HH := Lib.hid (h.below hb2)
  unfold nodeV cellsV at *
  clear hl ho hc h hk1
  go_enter Tryz.func5, Tryz.ntmps5
  go_wp2_with fail
  refine (H0.out _ HH.out).mono ?_
  rintro e w1 ⟨rfl, hb1⟩
  have hb3 := hb2.trans (hb1.mono hb2.size)
  have hk1 := HK1.out.below hb1 HK1.out.lt
  have HK3 := Lib.hid hk1
  clear hb1 HK1 hk1 HH hb2
  go_wp2_with (refine wpList_load_row rfl 27 (.tmp 1) rfl (w.heap.size) rfl 27 _ (0, 0) _ HK3.out Tryz.underlying27 rfl (by kernel_rfl) ?_)
  refine (HF.out _ hb3).mono ?_
  rintro e w2 ⟨⟨y, rfl, hly⟩, hb⟩
  obtain ⟨_, A1, c1, rfl⟩ := hly.slice
  obtain ⟨n1, hn1⟩ : ∃ n1, t.kids.length = n1 := ⟨_, rfl⟩
  rw [hn1] at hly ⊢
  have hb4 := hb3.trans (hb.mono hb3.size)
  have hk1 := HK3.out.below hb HK3.out.lt
  have hz := hb3.size
  have hb5 := hb4.grown (grown_row w2 w.heap.size #[.int .i64 ot.kind, .bool ot.b, .bool ot.neg, .string ot.dg, .int .i64 ot.ex, .int .u64 ot.u, .int .i64 ot.wd, .string ot.s, .slice A1 n1 c1]) hb4.size (fun q e => by cases e; exact Nat.le_refl _)
  have hk3 := blk_row hk1 #[.int .i64 ot.kind, .bool ot.b, .bool ot.neg, .string ot.dg, .int .i64 ot.ex, .int .u64 ot.u, .int .i64 ot.wd, .string ot.s, .slice A1 n1 c1]
  have hw1 := HK3.out.lt
  have hly2 : ListAt (w2.setRow w.heap.size #[.int .i64 ot.kind, .bool ot.b, .bool ot.neg, .string ot.dg, .int .i64 ot.ex, .int .u64 ot.u, .int .i64 ot.wd, .string ot.s, .slice A1 n1 c1]) (w2.setRow w.heap.size #[.int .i64 ot.kind, .bool ot.b, .bool ot.neg, .string ot.dg, .int .i64 ot.ex, .int .u64 ot.u, .int .i64 ot.wd, .string ot.s, .slice A1 n1 c1]).heap.size 17 t.kids (.slice A1 n1 c1) := (hly.keep (fun q hq => setRow_other _ _ _ _ (by omega))).mono (fun q hq => by rw [setRow_size]; exact hq.2)
  have HK1 := Lib.hid hk1
  have HKT := Lib.hid hk3
  have HL1 := Lib.hid hly2
  clear hb hb3 hb4 hk1 hk3 HK3 hly hly2 HF
  go_wp2_with (first | (refine wpList_store_row rfl 27 (.tmp 1) (.tmp 12) rfl (w.heap.size) #[.int .i64 ot.kind, .bool ot.b, .bool ot.neg, .string ot.dg, .int .i64 ot.ex, .int .u64 ot.u, .int .i64 ot.wd, .string ot.s, .slice A1 n1 c1] rfl rfl 27 _ HK1.out (by kernel_rfl) rfl (by simp [Value.oneCell']) ?_) | (refine wpList_load_row rfl 27 (.tmp 1) rfl (w.heap.size) rfl 27 _ (0, 0) _ HKT.out Tryz.underlying27 rfl (by kernel_rfl) ?_))
  obtain ⟨w5, hw5⟩ : ∃ w5, w2.setRow w.heap.size #[.int .i64 ot.kind, .bool ot.b, .bool ot.neg, .string ot.dg, .int .i64 ot.ex, .int .u64 ot.u, .int .i64 ot.wd, .string ot.s, .slice A1 n1 c1] = w5 := ⟨_, rfl⟩
  rw [hw5] at HKT HL1 hb5 ⊢
  clear HK1 hw5 hz hw1
  have hoN : OwnOk { zeroO with kind := 1 } := okO _ (by decide) (by decide) (by decide) (by decide) rfl rfl
  have hoM : OwnOk { zeroO with kind := 8 } := okO _ (by decide) (by decide) (by decide) (by decide) rfl rfl
  have hKY := cb_Key t (.slice A1 n1 c1) w5 w5.heap.size 17 aT aF HL1.out hto (Nat.le_refl _) (by omega) (HU.out _ hb5)
  have HWT := Lib.hid (fun W (hW : Below w5.heap.size w5 W) => cb_Write t (.slice A1 n1 c1) W w5.heap.size 17 aT aF (HL1.out.below hW (Nat.le_refl _)) hto hW.size (by omega) ((HU.out _ hb5).below hW))
  have HWM := Lib.hid (fun W (hW : Below w5.heap.size w5 W) => cb_Write (keyOf t) (.slice (some ⟨W.heap.size, 0, none⟩) 2 2) (W.alloc (.cells (cellsV t.own (.slice A1 n1 c1) ++ cellsV { zeroO with kind := 1 } (.slice none 0 0)) 27)) (W.heap.size + 1) 18 aT aF
    (listAt_two (t2 := nullT) ((HL1.out.below hW (Nat.le_refl _)).below ((Below.refl _ W).alloc (Nat.le_refl _) _) hW.size) hto (LAt.nil _ _ _ _ _) hoN (Blk.new _ _ _) (by have := hW.size; omega)) hoM (by simp) (by rw [keyOf, Tr.count, countL, countL, countL, Tr.count, countL]; omega) (((HU.out _ hb5).below hW).below ((Below.refl _ W).alloc (Nat.le_refl _) _)))
  have hkk : checkT 2 flC (keyOf t) = 0 → checkT 2 flC t = 0 ∧ wroteC (keyOf t) 0 = (⟨#[161]⟩ ++ wroteC t 0) ++ ⟨#[246]⟩ := fun h => ⟨key_write h, by
    rw [wroteC, if_pos rfl, wroteC, if_pos rfl, keyOf_item t]
    apply ByteArray.ext
    simp⟩
  obtain ⟨kk, hkv⟩ : ∃ kk, checkT 2 flC (keyOf t) = kk := ⟨_, rfl⟩
  obtain ⟨kt, hkt⟩ : ∃ kt, checkT 2 flC t = kt := ⟨_, rfl⟩
  rw [hkv] at hKY hkk
  rw [hkt] at hkk
  simp only [hkt] at HWT
  simp only [hkv] at HWM
  unfold wroteC at hKY HWT HWM hkk
  simp only [if_true] at hkk
  obtain ⟨s, hs⟩ : ∃ s : ByteArray, ⟨(cbT t).toArray⟩ = s := ⟨_, rfl⟩
  obtain ⟨m, hm⟩ : ∃ m : ByteArray, ⟨(cbT (keyOf t)).toArray⟩ = m := ⟨_, rfl⟩
  rw [hs] at hKY hkk
  simp only [hs] at HWT
  rw [hm] at hkk
  simp only [hm] at HWM
  have hss : kk = 0 → s.size ≤ 1000000 := fun h0 => by
    obtain ⟨h3, h4, h2⟩ := keyOf_parts (hkv.trans h0)
    have := cbT_bound t (okC_of_at t 17 _ HL1.out hto h3 h4)
    rw [← hs, cb_size]
    omega
  obtain ⟨kv, hkvv⟩ : ∃ kv : Int, (if kk = 0 then 0 else 61) = kv := ⟨_, rfl⟩
  obtain ⟨sk, hsk⟩ : ∃ sk : ByteArray, (if kk = 0 then s else ⟨#[]⟩) = sk := ⟨_, rfl⟩
  obtain ⟨st, hst⟩ : ∃ st : ByteArray, (if kt = 0 then s else ⟨#[]⟩) = st := ⟨_, rfl⟩
  obtain ⟨sm, hsm⟩ : ∃ sm : ByteArray, (if kk = 0 then m else ⟨#[]⟩) = sm := ⟨_, rfl⟩
  rw [hsk, hkvv] at hKY
  simp only [hst] at HWT
  simp only [hsm] at HWM
  have hyes : kk = 0 → kv = 0 ∧ kt = 0 ∧ sk = s ∧ st = s ∧ sm = (⟨#[161]⟩ ++ s) ++ ⟨#[246]⟩ ∧ s.size ≤ 1000000 := fun h0 => by
    obtain ⟨h1, h2⟩ := hkk h0
    rw [if_pos h0] at hkvv hsk hsm
    rw [if_pos h1] at hst
    exact ⟨hkvv.symm, h1, hsk.symm, hst.symm, hsm.symm.trans h2, hss h0⟩
  have hno : ¬ kk = 0 → kv = 61 ∧ sk = ⟨#[]⟩ := fun h0 => by
    rw [if_neg h0] at hkvv hsk
    exact ⟨hkvv.symm, hsk.symm⟩
  have HYES := Lib.hid hyes
  have HNO := Lib.hid hno
  rw [hot] at hKY
  simp only [hot] at HWT HWM
  unfold nodeV at hKY HWT HWM
  unfold cellsV at HWM
  simp only [List.append_toArray, List.cons_append, List.nil_append] at HWM
  have HKY := Lib.hid hKY
  have HB5 := Lib.hid hb5
  replace HWM : Hid (∀ W, Below w5.heap.size w5 W → Calls Tryz.prog 9 #[.agg #[.int .i64 8, .bool false, .bool false, .string ⟨#[]⟩, .int .i64 0, .int .u64 0, .int .i64 0, .string ⟨#[]⟩, .slice (some ⟨W.heap.size, 0, none⟩) 2 2]] (W.alloc (.cells #[.int .i64 ot.kind, .bool ot.b, .bool ot.neg, .string ot.dg, .int .i64 ot.ex, .int .u64 ot.u, .int .i64 ot.wd, .string ot.s, .slice A1 n1 c1, .int .i64 1, .bool false, .bool false, .string ⟨#[]⟩, .int .i64 0, .int .u64 0, .int .i64 0, .string ⟨#[]⟩, .slice none 0 0] 27)) fun e w' => e = .returned (.tuple #[.string sm, .int .i64 kk]) ∧ Below (W.alloc (.cells #[.int .i64 ot.kind, .bool ot.b, .bool ot.neg, .string ot.dg, .int .i64 ot.ex, .int .u64 ot.u, .int .i64 ot.wd, .string ot.s, .slice A1 n1 c1, .int .i64 1, .bool false, .bool false, .string ⟨#[]⟩, .int .i64 0, .int .u64 0, .int .i64 0, .string ⟨#[]⟩, .slice none 0 0] 27)).heap.size (W.alloc (.cells #[.int .i64 ot.kind, .bool ot.b, .bool ot.neg, .string ot.dg, .int .i64 ot.ex, .int .u64 ot.u, .int .i64 ot.wd, .string ot.s, .slice A1 n1 c1, .int .i64 1, .bool false, .bool false, .string ⟨#[]⟩, .int .i64 0, .int .u64 0, .int .i64 0, .string ⟨#[]⟩, .slice none 0 0] 27)) w') := HWM
  clear hb5 hKY hkk hoN hoM hs hm HL1 hyes hno hkvv hsk hst hsm hss hkt hkv
  refine HKY.out.mono ?_
  rintro e w6 ⟨rfl, hb6⟩
  have HKT6 := Lib.hid (HKT.out.below hb6 HKT.out.lt)
  clear HKY HKT
  go_wp2_with (first | (refine wpList_load_row rfl 27 (.tmp 1) rfl (w.heap.size) rfl 27 _ (0, 0) _ HKT6.out Tryz.underlying27 rfl (by kernel_rfl) ?_))
  refine (HWT.out _ hb6).mono ?_
  rintro e w7 ⟨rfl, hb⟩
  have hb7 := hb6.trans (hb.mono hb6.size)
  have HKT7 := Lib.hid (HKT6.out.below hb HKT6.out.lt)
  clear hb hb6 HKT6 HWT
  go_wp2_with (first | (refine wpList_load_row rfl 27 (.tmp 1) rfl (w.heap.size) rfl 27 _ (0, 0) _ HKT7.out Tryz.underlying27 rfl (by kernel_rfl) ?_))
  refine (HWM.out _ hb7).mono ?_
  rintro e w8 ⟨rfl, hb⟩
  have hb8 := hb7.trans ((((Below.refl _ w7).alloc (o := .cells #[.int .i64 ot.kind, .bool ot.b, .bool ot.neg, .string ot.dg, .int .i64 ot.ex, .int .u64 ot.u, .int .i64 ot.wd, .string ot.s, .slice A1 n1 c1, .int .i64 1, .bool false, .bool false, .string ⟨#[]⟩, .int .i64 0, .int .u64 0, .int .i64 0, .string ⟨#[]⟩, .slice none 0 0] 27) (Nat.le_refl _)).trans (hb.mono (by simp))).mono hb7.size)
  have HBE := Lib.hid (HB5.out.trans (hb8.mono HB5.out.size))
  clear hb hb7 hb8 HKT7 HWM
  by_cases h0 : kk = 0
  · obtain ⟨rfl, rfl, rfl, hq, rfl, hsz⟩ := HYES.out h0
    subst hq
    subst h0
    have y1 : (st.size : Int) ≤ 1000000 := by omega
    have y2 : ((⟨#[161]⟩ ++ st : ByteArray).size : Int) ≤ 1000001 := by rw [ByteArray.size_append]; have : (⟨#[161]⟩ : ByteArray).size = 1 := rfl; omega
    clear HYES HNO hsz
    go_wp2_with fail
    go_ret
    exact ⟨rfl, HBE.out⟩
  · obtain ⟨rfl, rfl⟩ := HNO.out h0
    have y0 : ¬ kk = 0 := h0
    have y1 : (kk != 0) = true := by simpa using h0
    clear HYES HNO
    go_wp2_with fail
    go_ret
    exact ⟨rfl, HBE.out⟩
end Go.Proofs.YtffaefdnlgfdbaaGreatDoor
/- What a row lists, opened: sentinels and Go's tables, whatever the chapter. -/
namespace Go.Proofs.YtffaefdnlgfdbaaGreatDoor
open Go.RowKit Go.Shelf Go.Lib

theorem laidMet_drop {P : Program} {W : World} : ∀ (k : Nat) {l : List (String × DataW Unit)}, laidMet P l W → laidMet P (l.drop k) W
  | 0, _, h => h
  | _ + 1, [], h => h
  | k + 1, _ :: _, h => laidMet_drop k h.tail

set_option maxRecDepth 100000 in
/-- A sentinel on the list: its cell, the block behind it, its text. -/
theorem sentinel_of {n : String} {g : Nat} {text : List UInt8} {r : List (String × DataW Unit)} {W : World} (h : laidMet Tryz.prog ((n, .iface "*errors.errorString" (.ptr (.agg [.lit (.string text)]))) :: r) W)
    (hg : Tryz.prog.globalNamed n = some g) (ht : (Tryz.prog.globals[g]?).map (·.type) = some 45)
    (hi : ∃ ms, Tryz.prog.underlying 45 = some (.interface ms)) (hrow : ∀ u, Tryz.prog.typeName? 3 u = some "*errors.errorString" → u = 197)
    (he : ∃ f : Field, Tryz.prog.underlying 199 = some (.struct #[f]) ∧ f.type = 9 ∧ f.offset = 0) (hc : Tryz.prog.cellsOf 199 = 1) (hcs : Tryz.prog.cellsOf 9 = 1) :
    ∃ a : Addr, W.cell? ⟨g, 0, none⟩ = some (.iface 197 (.pointer (some a))) ∧ (∃ c t, W.heap[a.block]? = some (.cells c t (0, 0))) ∧ ∃ s : ByteArray, W.cell? a = some (.string s) ∧ s.data.toList = text := by
  obtain ⟨ms, hi⟩ := hi
  obtain ⟨f, he, hft, hfo⟩ := he
  obtain ⟨ps, ⟨g0, t0, cs0, f0, p0, q0, hg0, ht0, hv0, hd0, _, e0⟩, _, hrows⟩ := h
  obtain rfl := Option.some.inj (hg.symm.trans hg0)
  obtain rfl := Option.some.inj (ht.symm.trans ht0)
  subst e0
  obtain ⟨l0⟩ := cs0
  have ok0 : ∀ u v, l0 = [.iface u v] → Value.okWide Tryz.prog W .any 0 u v := fun u v e => by
    subst e
    exact (hrows g 0 (by simp [MemPlace.row])).2 u v (by simpa using World.var?_cell hg0 hv0 0)
  obtain ⟨a0, s0, rfl, hc0, hs0, hz0, rfl⟩ := errorString_of_trod hi hrow Tryz.underlying197 he hft hfo Tryz.underlying9 hc hcs hd0 ok0
  obtain ⟨c0, t0, hb0⟩ := (hrows a0.block a0.off (by simp [MemPlace.row])).1
  refine ⟨a0, ?_, ⟨c0, t0, hb0⟩, s0, hc0, hs0⟩
  simpa using World.var?_cell hg0 hv0 0

set_option maxRecDepth 100000 in
theorem u8extra : U8Extra Tryz.prog Tryz.lays196_ren := { n3 := by kernel_rfl, n4 := by kernel_rfl, y3 := by kernel_rfl, y4 := by kernel_rfl, c5 := by kernel_rfl, c119 := by kernel_rfl, c138 := by kernel_rfl }
theorem es_star : "*" ++ "errors.errorString" = "*errors.errorString" := by decide
set_option maxRecDepth 100000 in
theorem es_row (u : TypeId) (h : Tryz.prog.typeName? 3 u = some "*errors.errorString") : u = 197 :=
  typeName_ptr_named (nm := "errors.errorString") (by rw [es_star]; kernel_rfl) (by kernel_rfl) (by decide) u (by rw [es_star]; exact h)
theorem es_iface : ∃ ms, Tryz.prog.underlying 45 = some (.interface ms) := ⟨_, Tryz.underlying45⟩
theorem es_struct : ∃ f : Field, Tryz.prog.underlying 199 = some (.struct #[f]) ∧ f.type = 9 ∧ f.offset = 0 := ⟨_, Tryz.underlying199, rfl, rfl⟩
set_option maxRecDepth 100000 in
theorem es_cells : Tryz.prog.cellsOf 199 = 1 := by kernel_rfl
set_option maxRecDepth 100000 in
theorem es_string : Tryz.prog.cellsOf 9 = 1 := by kernel_rfl
theorem wf_u16 {a : Int} (h : (Lit.int .u16 a).wf = true) : 0 ≤ a ∧ a < 65536 := by
  simp [Lit.wf, IntKind.min, IntKind.max, IntKind.signed, IntKind.bits] at h
  omega
theorem wf_u8 {a : Int} (h : (Lit.int .u8 a).wf = true) : 0 ≤ a ∧ a < 256 := by
  simp [Lit.wf, IntKind.min, IntKind.max, IntKind.signed, IntKind.bits] at h
  omega
theorem wf_i32 {a : Int} (h : (Lit.int .i32 a).wf = true) : -2147483648 ≤ a ∧ a < 2147483648 := by
  simp [Lit.wf, IntKind.min, IntKind.max, IntKind.signed, IntKind.bits] at h
  omega
theorem wf_i64 {a : Int} (h : (Lit.int .i64 a).wf = true) : -9223372036854775808 ≤ a ∧ a < 9223372036854775808 := by
  simp [Lit.wf, IntKind.min, IntKind.max, IntKind.signed, IntKind.bits] at h
  omega
theorem cell_block_lt {w : World} {a : Addr} {v : Value} (h : w.cell? a = some v) : a.block < w.heap.size := by
  unfold World.cell? at h
  cases hh : w.heap[a.block]? with
  | none => rw [hh] at h; cases h
  | some o => exact (Array.getElem?_eq_some_iff.1 hh).1
theorem add_zero' (a : Addr) : a.add 0 = a := by
  unfold Addr.add
  rw [if_pos rfl]
set_option maxRecDepth 100000 in
/-- A sentinel on the list: its variable holds an interface value. -/
theorem sentinel_var {n : String} {g : Nat} {text : List UInt8} {r : List (String × DataW Unit)} {W : World} (h : laidMet Tryz.prog ((n, .iface "*errors.errorString" (.ptr (.agg [.lit (.string text)]))) :: r) W)
    (hg : Tryz.prog.globalNamed n = some g) (ht : (Tryz.prog.globals[g]?).map (·.type) = some 45) : ∃ tp p, W.var? Tryz.prog n = some #[.iface tp p] := by
  obtain ⟨ms, hi⟩ := es_iface
  obtain ⟨f, he, hft, hfo⟩ := es_struct
  obtain ⟨ps, ⟨g0, t0, cs0, f0, p0, q0, hg0, ht0, hv0, hd0, _, e0⟩, _, hrows⟩ := h
  obtain rfl := Option.some.inj (hg.symm.trans hg0)
  obtain rfl := Option.some.inj (ht.symm.trans ht0)
  subst e0
  obtain ⟨l0⟩ := cs0
  have ok0 : ∀ u v, l0 = [.iface u v] → Value.okWide Tryz.prog W .any 0 u v := fun u v e => by
    subst e
    exact (hrows g 0 (by simp [MemPlace.row])).2 u v (by simpa using World.var?_cell hg0 hv0 0)
  obtain ⟨a0, s0, rfl, hc0, hs0, hz0, rfl⟩ := errorString_of_trod hi es_row Tryz.underlying197 he hft hfo Tryz.underlying9 es_cells es_string hd0 ok0
  exact ⟨_, _, hv0⟩
set_option maxRecDepth 100000 in
theorem gR : Tryz.prog.globalNamed "strconv.ErrRange" = some 5 := by kernel_rfl
set_option maxRecDepth 100000 in
theorem tR : (Tryz.prog.globals[5]?).map (·.type) = some 45 := by kernel_rfl
end Go.Proofs.YtffaefdnlgfdbaaGreatDoor
