/- The texts WjR, LaidV, CbV, JwV, put together. -/
import Derived.Test.YtfckekaegjjmkaaGreatDoorPd42
import Derived.Test.YtfckekaegjjmkaaGreatDoorPd46
import Derived.Test.YtfckekaegjjmkaaGreatDoorPd47
import Derived.Test.YtfckekaegjjmkaaGreatDoorPd01
import Derived.Test.YtfckekaegjjmkaaGreatDoorRows
import Derived.Test.YtfckekaegjjmkaaGreatDoorPd06
import Derived.Lib.LaidU8T
import Derived.PinnedBridge
import Derived.Stop.LaidErr
import Derived.Stop.Joined
import Derived.LaidMore
import Derived.LaidLaws
import Derived.Lay
import Derived.SevenTiedAt
import Derived.ProofKit
import Derived.OpenShut
import Derived.Lib.LaidTab
import Derived.Test.YtfckekaegjjmkaaGreatDoorPd12
import Derived.Test.YtfckekaegjjmkaaGreatDoorPd20
namespace Go.Proofs.YtfckekaegjjmkaaGreatDoor
open Go.RowKit Go.Shelf

set_option maxHeartbeats 4000000 in
set_option maxRecDepth 100000 in
theorem ref_Write9 (t : Tr) (x : Value) (w : World) (B d : Nat) (hl : ListAt w B d t.kids x) (hB : B ≤ w.heap.size) (ho : OwnOk t.own) (hc : t.count ≤ 1000000) :
    Calls Tryz.prog 20 #[nodeV t.own x] w fun e w' => e = .returned (.tuple #[.string (wroteJ false t (checkT 1 flJ t)), .int .i64 (checkT 1 flJ t)]) ∧ Below w.heap.size w w' := by
  have HR := Lib.hid (fun (W : World) (hW : Below w.heap.size w W) => ref_Check1 t x W B d (hl.below hW hB) (Nat.le_trans hB hW.size) ho (by omega))
  have HF := Lib.hid (fun (h0 : checkT 1 flJ t = 0) (W : World) (hW : Below w.heap.size w W) => rj_write false d t x W B 0 (hl.below hW hB) (Nat.le_trans hB hW.size) ho (check_okJ h0) (checkJ_ok h0).2.2.1 (by have := (checkJ_ok h0).2.1; omega) (checkJ_ok h0).1)
  unfold wroteJ
  obtain ⟨ck, hck⟩ : ∃ ck, checkT 1 flJ t = ck := ⟨_, rfl⟩
  simp only [hck] at HR HF
  rw [hck]
  obtain ⟨st, hst⟩ : ∃ st : ByteArray, ⟨(jsT quoteL false 0 t).toArray⟩ = st := ⟨_, rfl⟩
  simp only [hst] at HF
  rw [hst]
  obtain ⟨⟨kind, b, neg, dg, ex, u, wd, s⟩, ho'⟩ : ∃ o, t.own = o := ⟨_, rfl⟩
  simp only [ho'] at HR HF
  rw [ho']
  unfold nodeV at HR HF ⊢
  simp only [Int.natCast_zero] at HR HF ⊢
  clear hl ho hc hck hst ho'
  have hbx := (Below.refl w.heap.size w).alloc (Nat.le_refl _) (.cells #[.int .i64 kind, .bool b, .bool neg, .string dg, .int .i64 ex, .int .u64 u, .int .i64 wd, .string s, x] 27)
  have hkx := Blk.new w #[.int .i64 kind, .bool b, .bool neg, .string dg, .int .i64 ex, .int .u64 u, .int .i64 wd, .string s, x] 27
  have c0 := hkx.cell 0
  have c1 := hkx.cell 1
  have c2 := hkx.cell 2
  have c3 := hkx.cell 3
  have c4 := hkx.cell 4
  have c5 := hkx.cell 5
  have c6 := hkx.cell 6
  have c7 := hkx.cell 7
  have c8 := hkx.cell 8
  by_cases h0 : ck = 0
  · subst h0
    rw [if_pos rfl]
    replace HF := Lib.hid (HF.out rfl)
    go_enter Tryz.func20, Tryz.ntmps20
    go_wp2_with fail
    refine (HR.out _ hbx).mono ?_
    rintro e w2 ⟨rfl, hb0⟩
    have hb := hbx.trans (hb0.mono hbx.size)
    have hk2 := hkx.below hb0 hkx.lt
    clear hb0 hkx c0 c1 c2 c3 c4 c5 c6 c7 c8
    have c0 := hk2.cell 0
    have c1 := hk2.cell 1
    have c2 := hk2.cell 2
    have c3 := hk2.cell 3
    have c4 := hk2.cell 4
    have c5 := hk2.cell 5
    have c6 := hk2.cell 6
    have c7 := hk2.cell 7
    have c8 := hk2.cell 8
    go_wp2_with fail
    refine (HF.out _ hb).mono ?_
    rintro e w3 ⟨rfl, hb'⟩
    have hb3 := hb.trans (hb'.mono hb.size)
    go_wp2_with fail
    refine bodyPost_ret (v := .tuple #[.string st, .int .i64 0]) (by simp [results, Tryz.results20, go_sem]) rfl ⟨rfl, hb3⟩
  · rw [if_neg h0]
    have y0 : (ck != 0) = true := by simpa using h0
    go_enter Tryz.func20, Tryz.ntmps20
    go_wp2_with fail
    refine (HR.out _ hbx).mono ?_
    rintro e w2 ⟨rfl, hb0⟩
    have hb := hbx.trans (hb0.mono hbx.size)
    clear hb0 hkx c0 c1 c2 c3 c4 c5 c6 c7 c8
    go_wp2_with fail
    refine bodyPost_ret (v := .tuple #[.string ⟨#[]⟩, .int .i64 ck]) (by simp [results, Tryz.results20, go_sem]) rfl ⟨rfl, hb⟩

set_option maxHeartbeats 4000000 in
set_option maxRecDepth 100000 in
theorem ref_Pretty9 (t : Tr) (x : Value) (w : World) (B d : Nat) (hl : ListAt w B d t.kids x) (hB : B ≤ w.heap.size) (ho : OwnOk t.own) (hc : t.count ≤ 1000000) :
    Calls Tryz.prog 22 #[nodeV t.own x] w fun e w' => e = .returned (.tuple #[.string (wroteJ true t (checkT 1 flJ t)), .int .i64 (checkT 1 flJ t)]) ∧ Below w.heap.size w w' := by
  have HR := Lib.hid (fun (W : World) (hW : Below w.heap.size w W) => ref_Check1 t x W B d (hl.below hW hB) (Nat.le_trans hB hW.size) ho (by omega))
  have HF := Lib.hid (fun (h0 : checkT 1 flJ t = 0) (W : World) (hW : Below w.heap.size w W) => rj_write true d t x W B 0 (hl.below hW hB) (Nat.le_trans hB hW.size) ho (check_okJ h0) (checkJ_ok h0).2.2.1 (by have := (checkJ_ok h0).2.1; omega) (checkJ_ok h0).1)
  unfold wroteJ
  obtain ⟨ck, hck⟩ : ∃ ck, checkT 1 flJ t = ck := ⟨_, rfl⟩
  simp only [hck] at HR HF
  rw [hck]
  obtain ⟨st, hst⟩ : ∃ st : ByteArray, ⟨(jsT quoteL true 0 t).toArray⟩ = st := ⟨_, rfl⟩
  simp only [hst] at HF
  rw [hst]
  obtain ⟨⟨kind, b, neg, dg, ex, u, wd, s⟩, ho'⟩ : ∃ o, t.own = o := ⟨_, rfl⟩
  simp only [ho'] at HR HF
  rw [ho']
  unfold nodeV at HR HF ⊢
  simp only [Int.natCast_zero] at HR HF ⊢
  clear hl ho hc hck hst ho'
  have hbx := (Below.refl w.heap.size w).alloc (Nat.le_refl _) (.cells #[.int .i64 kind, .bool b, .bool neg, .string dg, .int .i64 ex, .int .u64 u, .int .i64 wd, .string s, x] 27)
  have hkx := Blk.new w #[.int .i64 kind, .bool b, .bool neg, .string dg, .int .i64 ex, .int .u64 u, .int .i64 wd, .string s, x] 27
  have c0 := hkx.cell 0
  have c1 := hkx.cell 1
  have c2 := hkx.cell 2
  have c3 := hkx.cell 3
  have c4 := hkx.cell 4
  have c5 := hkx.cell 5
  have c6 := hkx.cell 6
  have c7 := hkx.cell 7
  have c8 := hkx.cell 8
  by_cases h0 : ck = 0
  · subst h0
    rw [if_pos rfl]
    replace HF := Lib.hid (HF.out rfl)
    go_enter Tryz.func22, Tryz.ntmps22
    go_wp2_with fail
    refine (HR.out _ hbx).mono ?_
    rintro e w2 ⟨rfl, hb0⟩
    have hb := hbx.trans (hb0.mono hbx.size)
    have hk2 := hkx.below hb0 hkx.lt
    clear hb0 hkx c0 c1 c2 c3 c4 c5 c6 c7 c8
    have c0 := hk2.cell 0
    have c1 := hk2.cell 1
    have c2 := hk2.cell 2
    have c3 := hk2.cell 3
    have c4 := hk2.cell 4
    have c5 := hk2.cell 5
    have c6 := hk2.cell 6
    have c7 := hk2.cell 7
    have c8 := hk2.cell 8
    go_wp2_with fail
    refine (HF.out _ hb).mono ?_
    rintro e w3 ⟨rfl, hb'⟩
    have hb3 := hb.trans (hb'.mono hb.size)
    go_wp2_with fail
    refine bodyPost_ret (v := .tuple #[.string st, .int .i64 0]) (by simp [results, Tryz.results22, go_sem]) rfl ⟨rfl, hb3⟩
  · rw [if_neg h0]
    have y0 : (ck != 0) = true := by simpa using h0
    go_enter Tryz.func22, Tryz.ntmps22
    go_wp2_with fail
    refine (HR.out _ hbx).mono ?_
    rintro e w2 ⟨rfl, hb0⟩
    have hb := hbx.trans (hb0.mono hbx.size)
    clear hb0 hkx c0 c1 c2 c3 c4 c5 c6 c7 c8
    go_wp2_with fail
    refine bodyPost_ret (v := .tuple #[.string ⟨#[]⟩, .int .i64 ck]) (by simp [results, Tryz.results22, go_sem]) rfl ⟨rfl, hb⟩

set_option maxHeartbeats 8000000 in
set_option maxRecDepth 100000 in
theorem writes_walk {aT aF : Addr} (t0 : Tr) (vt : Value) (w : World) (h : SW w aT aF) (D : Nat) (hl : ListAt w w.heap.size D t0.kids vt) (ho : OwnOk t0.own) (hc : t0.count ≤ 1048576) :
    Calls Tryz.prog 6 #[nodeV t0.own vt] w fun e w' => e = .returned (.bool true) ∧ Below w.heap.size w w' := by
  have H0 := Lib.hid (fun w h => j_shown (aT := aT) (aF := aF) w h)
  have HU := Lib.hid (fun (w' : World) (hw : Below w.heap.size w w') => h.below hw)
  have HF := Lib.hid (fun (w' : World) (hw : Below w.heap.size w w') => law_FewT t0 vt w' w.heap.size D (hl.below hw (Nat.le_refl _)) ho hw.size (by omega))
  have hto := few_okJ ho
  have htc := few_count t0
  obtain ⟨o0, ho0⟩ : ∃ o, t0.own = o := ⟨_, rfl⟩
  rw [ho0] at HF ⊢
  generalize fewT t0 = t at HF hto htc
  have hb2 : Below w.heap.size w (w.alloc (.cells (cellsV o0 vt) 27)) := (Below.refl _ _).alloc (Nat.le_refl _) _
  have hk1 := Blk.new w (cellsV o0 vt) 27
  obtain ⟨ot, hot⟩ : ∃ o, t.own = o := ⟨_, rfl⟩
  rw [hot] at HF
  have HK1 := Lib.hid hk1
  have HH := Lib.hid (h.below hb2)
  unfold nodeV cellsV at *
  clear hl ho hc h hk1
  go_enter Tryz.func6, Tryz.ntmps6
  go_wp2_with fail
  refine (H0.out _ HH.out).mono ?_
  rintro e w1 ⟨rfl, hb1⟩
  have hb3 := hb2.trans (hb1.mono hb2.size)
  have hk1 := HK1.out.below hb1 HK1.out.lt
  have HK3 := Lib.hid hk1
  clear hb1 HK1 hk1 HH hb2
  go_wp2_with (refine wpList_load_row rfl 27 (.tmp 1) rfl (w.heap.size) rfl 27 _ (0, 0) _ HK3.out Tryz.underlying27 rfl (by kernel_rfl) ?_)
  refine (HF.out _ hb3).mono ?_
  rintro e w2 ⟨⟨y, rfl, hly⟩, hb⟩
  obtain ⟨_, A1, c1, rfl⟩ := hly.slice
  obtain ⟨n1, hn1⟩ : ∃ n1, t.kids.length = n1 := ⟨_, rfl⟩
  rw [hn1] at hly ⊢
  have hb4 := hb3.trans (hb.mono hb3.size)
  have hk1 := HK3.out.below hb HK3.out.lt
  have hz := hb3.size
  have hb5 := hb4.grown (grown_row w2 w.heap.size #[.int .i64 ot.kind, .bool ot.b, .bool ot.neg, .string ot.dg, .int .i64 ot.ex, .int .u64 ot.u, .int .i64 ot.wd, .string ot.s, .slice A1 n1 c1]) hb4.size (fun q e => by cases e; exact Nat.le_refl _)
  have hk3 := blk_row hk1 #[.int .i64 ot.kind, .bool ot.b, .bool ot.neg, .string ot.dg, .int .i64 ot.ex, .int .u64 ot.u, .int .i64 ot.wd, .string ot.s, .slice A1 n1 c1]
  have hw1 := HK3.out.lt
  have hly2 : ListAt (w2.setRow w.heap.size #[.int .i64 ot.kind, .bool ot.b, .bool ot.neg, .string ot.dg, .int .i64 ot.ex, .int .u64 ot.u, .int .i64 ot.wd, .string ot.s, .slice A1 n1 c1]) (w2.setRow w.heap.size #[.int .i64 ot.kind, .bool ot.b, .bool ot.neg, .string ot.dg, .int .i64 ot.ex, .int .u64 ot.u, .int .i64 ot.wd, .string ot.s, .slice A1 n1 c1]).heap.size 17 t.kids (.slice A1 n1 c1) := (hly.keep (fun q hq => setRow_other _ _ _ _ (by omega))).mono (fun q hq => by rw [setRow_size]; exact hq.2)
  have HK1 := Lib.hid hk1
  have HKT := Lib.hid hk3
  have HL1 := Lib.hid hly2
  clear hb hb3 hb4 hk1 hk3 HK3 hly hly2 HF
  go_wp2_with (first | (refine wpList_store_row rfl 27 (.tmp 1) (.tmp 16) rfl (w.heap.size) #[.int .i64 ot.kind, .bool ot.b, .bool ot.neg, .string ot.dg, .int .i64 ot.ex, .int .u64 ot.u, .int .i64 ot.wd, .string ot.s, .slice A1 n1 c1] rfl rfl 27 _ HK1.out (by kernel_rfl) rfl (by simp [Value.oneCell']) ?_) | (refine wpList_load_row rfl 27 (.tmp 1) rfl (w.heap.size) rfl 27 _ (0, 0) _ HKT.out Tryz.underlying27 rfl (by kernel_rfl) ?_))
  obtain ⟨w5, hw5⟩ : ∃ w5, w2.setRow w.heap.size #[.int .i64 ot.kind, .bool ot.b, .bool ot.neg, .string ot.dg, .int .i64 ot.ex, .int .u64 ot.u, .int .i64 ot.wd, .string ot.s, .slice A1 n1 c1] = w5 := ⟨_, rfl⟩
  rw [hw5] at HKT HL1 hb5 ⊢
  clear HK1 hw5 hz hw1
  have hUU := fun W (hW : Below w5.heap.size w5 W) => (HU.out _ hb5).below hW
  have HWT := fun W (hW : Below w5.heap.size w5 W) => jw_Write t (.slice A1 n1 c1) W w5.heap.size 17 aT aF (HL1.out.below hW (Nat.le_refl _)) hto hW.size (by omega) (hUU W hW)
  have HRW := fun W (hW : Below w5.heap.size w5 W) => ref_Write9 t (.slice A1 n1 c1) W w5.heap.size 17 (HL1.out.below hW (Nat.le_refl _)) hW.size hto (by omega)
  have HKT1 := fun W (hW : Below w5.heap.size w5 W) => jw_Pretty t (.slice A1 n1 c1) W w5.heap.size 17 aT aF (HL1.out.below hW (Nat.le_refl _)) hto hW.size (by omega) (hUU W hW)
  have HRK := fun W (hW : Below w5.heap.size w5 W) => ref_Pretty9 t (.slice A1 n1 c1) W w5.heap.size 17 (HL1.out.below hW (Nat.le_refl _)) hW.size hto (by omega)
  have HSZ := fun W (hW : Below w5.heap.size w5 W) => jw_Size t (.slice A1 n1 c1) W w5.heap.size 17 aT aF (HL1.out.below hW (Nat.le_refl _)) hto hW.size (by omega) (hUU W hW)
  obtain ⟨ct, hct⟩ : ∃ ct, wroteJ false t (checkT 1 flJ t) = ct := ⟨_, rfl⟩
  obtain ⟨cm, hcm⟩ : ∃ cm, wroteJ true t (checkT 1 flJ t) = cm := ⟨_, rfl⟩
  obtain ⟨ck, hck⟩ : ∃ ck, checkT 1 flJ t = ck := ⟨_, rfl⟩
  simp only [hct, hcm] at HWT HRW HKT1 HRK HSZ
  simp only [hck] at HWT HRW HKT1 HRK HSZ
  unfold nodeV at HWT HRW HKT1 HRK HSZ
  simp only [hot] at HWT HRW HKT1 HRK HSZ
  replace HWT := Lib.hid HWT
  replace HRW := Lib.hid HRW
  replace HKT1 := Lib.hid HKT1
  replace HRK := Lib.hid HRK
  replace HSZ := Lib.hid HSZ
  have HB5 := Lib.hid hb5
  clear hUU hct hcm hck HL1 hb5
  have hr := Below.refl w5.heap.size w5
  refine (HWT.out _ hr).mono ?_
  rintro e w6 ⟨rfl, hb⟩
  have hb6 := hr.trans (hb.mono hr.size)
  have HK6 := Lib.hid (HKT.out.below hb HKT.out.lt)
  clear hb hr HKT HWT
  go_wp2_with (first | (refine wpList_load_row rfl 27 (.tmp 1) rfl (w.heap.size) rfl 27 _ (0, 0) _ HK6.out Tryz.underlying27 rfl (by kernel_rfl) ?_))
  refine (HRW.out _ hb6).mono ?_
  rintro e w7 ⟨rfl, hb⟩
  have hb7 := hb6.trans (hb.mono hb6.size)
  have HK7 := Lib.hid (HK6.out.below hb HK6.out.lt)
  clear hb hb6 HK6 HRW
  go_wp2_with (first | (refine wpList_load_row rfl 27 (.tmp 1) rfl (w.heap.size) rfl 27 _ (0, 0) _ HK7.out Tryz.underlying27 rfl (by kernel_rfl) ?_))
  refine (HKT1.out _ hb7).mono ?_
  rintro e w8 ⟨rfl, hb⟩
  have hb8 := hb7.trans (hb.mono hb7.size)
  have HK8 := Lib.hid (HK7.out.below hb HK7.out.lt)
  clear hb hb7 HK7 HKT1
  go_wp2_with (first | (refine wpList_load_row rfl 27 (.tmp 1) rfl (w.heap.size) rfl 27 _ (0, 0) _ HK8.out Tryz.underlying27 rfl (by kernel_rfl) ?_))
  refine (HRK.out _ hb8).mono ?_
  rintro e w9 ⟨rfl, hb⟩
  have hb9 := hb8.trans (hb.mono hb8.size)
  have HK9 := Lib.hid (HK8.out.below hb HK8.out.lt)
  clear hb hb8 HK8 HRK
  go_wp2_with (first | (refine wpList_load_row rfl 27 (.tmp 1) rfl (w.heap.size) rfl 27 _ (0, 0) _ HK9.out Tryz.underlying27 rfl (by kernel_rfl) ?_))
  refine (HSZ.out _ hb9).mono ?_
  rintro e w10 ⟨rfl, hb⟩
  have hb10 := hb9.trans (hb.mono hb9.size)
  have HBE := Lib.hid (HB5.out.trans (hb10.mono HB5.out.size))
  clear hb hb9 hb10 HK9 HSZ
  go_wp2_with fail
  go_ret
  exact ⟨rfl, HBE.out⟩
end Go.Proofs.YtfckekaegjjmkaaGreatDoor
namespace Go.Proofs.YtfckekaegjjmkaaGreatDoor
open Go.RowKit Go.Shelf Go.Lib

theorem laidMet_drop {P : Program} {W : World} : ∀ (k : Nat) {l : List (String × DataW Unit)}, laidMet P l W → laidMet P (l.drop k) W
  | 0, _, h => h
  | _ + 1, [], h => h
  | k + 1, _ :: _, h => laidMet_drop k h.tail

set_option maxRecDepth 100000 in
/-- A sentinel on the list: its cell, the block behind it, its text. -/
theorem sentinel_of {n : String} {g : Nat} {text : List UInt8} {r : List (String × DataW Unit)} {W : World} (h : laidMet Tryz.prog ((n, .iface "*errors.errorString" (.ptr (.agg [.lit (.string text)]))) :: r) W)
    (hg : Tryz.prog.globalNamed n = some g) (ht : (Tryz.prog.globals[g]?).map (·.type) = some 62)
    (hi : ∃ ms, Tryz.prog.underlying 62 = some (.interface ms)) (hrow : ∀ u, Tryz.prog.typeName? 3 u = some "*errors.errorString" → u = 289)
    (he : ∃ f : Field, Tryz.prog.underlying 291 = some (.struct #[f]) ∧ f.type = 9 ∧ f.offset = 0) (hc : Tryz.prog.cellsOf 291 = 1) (hcs : Tryz.prog.cellsOf 9 = 1) :
    ∃ a : Addr, W.cell? ⟨g, 0, none⟩ = some (.iface 289 (.pointer (some a))) ∧ (∃ c t, W.heap[a.block]? = some (.cells c t (0, 0))) ∧ ∃ s : ByteArray, W.cell? a = some (.string s) ∧ s.data.toList = text := by
  obtain ⟨ms, hi⟩ := hi
  obtain ⟨f, he, hft, hfo⟩ := he
  obtain ⟨ps, ⟨g0, t0, cs0, f0, p0, q0, hg0, ht0, hv0, hd0, _, e0⟩, _, hrows⟩ := h
  obtain rfl := Option.some.inj (hg.symm.trans hg0)
  obtain rfl := Option.some.inj (ht.symm.trans ht0)
  subst e0
  obtain ⟨l0⟩ := cs0
  have ok0 : ∀ u v, l0 = [.iface u v] → Value.okWide Tryz.prog W .any 0 u v := fun u v e => by
    subst e
    exact (hrows g 0 (by simp [MemPlace.row])).2 u v (by simpa using World.var?_cell hg0 hv0 0)
  obtain ⟨a0, s0, rfl, hc0, hs0, hz0, rfl⟩ := errorString_of_trod hi hrow Tryz.underlying289 he hft hfo Tryz.underlying9 hc hcs hd0 ok0
  obtain ⟨c0, t0, hb0⟩ := (hrows a0.block a0.off (by simp [MemPlace.row])).1
  refine ⟨a0, ?_, ⟨c0, t0, hb0⟩, s0, hc0, hs0⟩
  simpa using World.var?_cell hg0 hv0 0

set_option maxRecDepth 100000 in
theorem u8extra : U8Extra Tryz.prog Tryz.lays196_ren := { n3 := by kernel_rfl, n4 := by kernel_rfl, y3 := by kernel_rfl, y4 := by kernel_rfl, c5 := by kernel_rfl, c119 := by kernel_rfl, c138 := by kernel_rfl }
theorem es_star : "*" ++ "errors.errorString" = "*errors.errorString" := by decide
set_option maxRecDepth 100000 in
theorem es_row (u : TypeId) (h : Tryz.prog.typeName? 3 u = some "*errors.errorString") : u = 289 :=
  typeName_ptr_named (nm := "errors.errorString") (by rw [es_star]; kernel_rfl) (by kernel_rfl) (by decide) u (by rw [es_star]; exact h)
theorem es_iface : ∃ ms, Tryz.prog.underlying 62 = some (.interface ms) := ⟨_, Tryz.underlying62⟩
theorem es_struct : ∃ f : Field, Tryz.prog.underlying 291 = some (.struct #[f]) ∧ f.type = 9 ∧ f.offset = 0 := ⟨_, Tryz.underlying291, rfl, rfl⟩
set_option maxRecDepth 100000 in
theorem es_cells : Tryz.prog.cellsOf 291 = 1 := by kernel_rfl
set_option maxRecDepth 100000 in
theorem es_string : Tryz.prog.cellsOf 9 = 1 := by kernel_rfl
theorem wf_i64 {a : Int} (h : (Lit.int .i64 a).wf = true) : -9223372036854775808 ≤ a ∧ a < 9223372036854775808 := by
  simp [Lit.wf, IntKind.min, IntKind.max, IntKind.signed, IntKind.bits] at h
  omega
theorem cell_block_lt {w : World} {a : Addr} {v : Value} (h : w.cell? a = some v) : a.block < w.heap.size := by
  unfold World.cell? at h
  cases hh : w.heap[a.block]? with
  | none => rw [hh] at h; cases h
  | some o => exact (Array.getElem?_eq_some_iff.1 hh).1
set_option maxRecDepth 100000 in
/-- A sentinel on the list: its variable holds an interface value. -/
theorem sentinel_var {n : String} {g : Nat} {text : List UInt8} {r : List (String × DataW Unit)} {W : World} (h : laidMet Tryz.prog ((n, .iface "*errors.errorString" (.ptr (.agg [.lit (.string text)]))) :: r) W)
    (hg : Tryz.prog.globalNamed n = some g) (ht : (Tryz.prog.globals[g]?).map (·.type) = some 62) : ∃ tp p, W.var? Tryz.prog n = some #[.iface tp p] := by
  obtain ⟨ms, hi⟩ := es_iface
  obtain ⟨f, he, hft, hfo⟩ := es_struct
  obtain ⟨ps, ⟨g0, t0, cs0, f0, p0, q0, hg0, ht0, hv0, hd0, _, e0⟩, _, hrows⟩ := h
  obtain rfl := Option.some.inj (hg.symm.trans hg0)
  obtain rfl := Option.some.inj (ht.symm.trans ht0)
  subst e0
  obtain ⟨l0⟩ := cs0
  have ok0 : ∀ u v, l0 = [.iface u v] → Value.okWide Tryz.prog W .any 0 u v := fun u v e => by
    subst e
    exact (hrows g 0 (by simp [MemPlace.row])).2 u v (by simpa using World.var?_cell hg0 hv0 0)
  obtain ⟨a0, s0, rfl, hc0, hs0, hz0, rfl⟩ := errorString_of_trod hi es_row Tryz.underlying289 he hft hfo Tryz.underlying9 es_cells es_string hd0 ok0
  exact ⟨_, _, hv0⟩
set_option maxRecDepth 100000 in
theorem gR : Tryz.prog.globalNamed "strconv.ErrRange" = some 8 := by kernel_rfl
set_option maxRecDepth 100000 in
theorem tR : (Tryz.prog.globals[8]?).map (·.type) = some 62 := by kernel_rfl
end Go.Proofs.YtfckekaegjjmkaaGreatDoor
namespace Go.Proofs.YtfckekaegjjmkaaGreatDoor
open Go.RowKit Go.Shelf Go.Lib

set_option maxRecDepth 100000 in
theorem gTr : Tryz.prog.globalNamed "targum/tree.errTree" = some 0 := by kernel_rfl
set_option maxRecDepth 100000 in
theorem gFo : Tryz.prog.globalNamed "targum/tree.errForm" = some 1 := by kernel_rfl
set_option maxRecDepth 100000 in
theorem tTr : (Tryz.prog.globals[0]?).map (·.type) = some 62 := by kernel_rfl
set_option maxRecDepth 100000 in
theorem tFo : (Tryz.prog.globals[1]?).map (·.type) = some 62 := by kernel_rfl

/-- A list of laid variables in which the gate's five stand. -/
structure GateLaid (l : List (String × DataW Unit)) : Prop where
  eT : ∃ k r, l.drop k = ("targum/tree.errTree", .iface "*errors.errorString" (.ptr (.agg [.lit (.string [110, 111, 32, 116, 114, 101, 101])]))) :: r
  eF : ∃ k r, l.drop k = ("targum/tree.errForm", .iface "*errors.errorString" (.ptr (.agg [.lit (.string [110, 111, 32, 115, 117, 99, 104, 32, 102, 111, 114, 109])]))) :: r
  ra : ("unicode/utf8.acceptRanges", acceptData) ∈ l
  fi : ("unicode/utf8.first", firstData) ∈ l
  eR : ∃ k r, l.drop k = ("strconv.ErrRange", .iface "*errors.errorString" (.ptr (.agg [.lit (.string [118, 97, 108, 117, 101, 32, 111, 117, 116, 32, 111, 102, 32, 114, 97, 110, 103, 101])]))) :: r

theorem gw_of_laid {l : List (String × DataW Unit)} (hl : GateLaid l) {W : World} (h : laidMet Tryz.prog l W) : ∃ aT aF, GW W aT aF := by
  obtain ⟨kT, rT, eT⟩ := hl.eT
  obtain ⟨kF, rF, eF⟩ := hl.eF
  obtain ⟨kR, rR, eR⟩ := hl.eR
  have hT := laidMet_drop kT h
  have hF := laidMet_drop kF h
  have hR := laidMet_drop kR h
  rw [eT] at hT
  rw [eF] at hF
  rw [eR] at hR
  obtain ⟨aT, cT, bT, sT, dT, xT⟩ := sentinel_of hT gTr tTr es_iface es_row es_struct es_cells es_string
  obtain ⟨aF, cF, bF, sF, dF, xF⟩ := sentinel_of hF gFo tFo es_iface es_row es_struct es_cells es_string
  refine ⟨aT, aF, cT, cF, ?_, bT, bF, ?_, sentinel_var hR gR tR⟩
  · rintro rfl
    rw [dT] at dF
    cases dF
    rw [xT] at xF
    cases xF
  · obtain ⟨ps, hv, _, _⟩ := h
    exact utf8Tabs_of_readsT (U8Types.of196 Tryz.lays196) u8extra (LaidVars_reads hv _ _ hl.fi) (LaidVars_reads hv _ _ hl.ra)
end Go.Proofs.YtfckekaegjjmkaaGreatDoor
namespace Go.Proofs.YtfckekaegjjmkaaGreatDoor
open Go.RowKit Go.Shelf Go.Lib

set_option maxRecDepth 100000 in
theorem powJ_g : Tryz.prog.globalNamed "internal/strconv.uint64pow10" = some 10 := by kernel_rfl
set_option maxRecDepth 100000 in
theorem powJ_t : (Tryz.prog.globals[10]?).map (·.type) = some 295 := by kernel_rfl
set_option maxRecDepth 100000 in
theorem powJ_u : Tryz.prog.cellsOf 24 = 1 := by kernel_rfl
set_option maxRecDepth 100000 in
theorem powJ_c : Tryz.prog.cellsOf 295 = 20 := by kernel_rfl
theorem sw_of_laid {l r : List (String × DataW Unit)} (hl : GateLaid l) (hd : l.drop 2 = ("internal/strconv.uint64pow10", Rows.laid_internal_strconv_uint64pow10) :: r) {W : World} (h : laidMet Tryz.prog l W) : ∃ aT aF, SW W aT aF := by
  obtain ⟨aT, aF, hg⟩ := gw_of_laid hl h
  have h3 := laidMet_drop 2 h
  rw [hd] at h3
  exact ⟨aT, aF, hg, tabIs_of_head powJ_g powJ_t Tryz.underlying295 Tryz.underlying24 powJ_u powJ_c h3⟩
end Go.Proofs.YtfckekaegjjmkaaGreatDoor
