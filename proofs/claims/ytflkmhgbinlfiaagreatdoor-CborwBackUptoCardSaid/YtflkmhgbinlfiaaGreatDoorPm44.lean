/- The texts CsE, LaidV, CbV, CsV, put together. -/
import Derived.Test.YtflkmhgbinlfiaaGreatDoorPm43
import Derived.Test.YtflkmhgbinlfiaaGreatDoorPm01
import Derived.Test.YtflkmhgbinlfiaaGreatDoorRows
import Derived.Test.YtflkmhgbinlfiaaGreatDoorPm12
import Derived.Lib.LaidU8T
import Derived.PinnedBridge
import Derived.Stop.LaidErr
import Derived.Stop.Joined
import Derived.LaidMore
import Derived.LaidLaws
import Derived.Lay
import Derived.SevenTiedAt
import Derived.ProofKit
import Derived.OpenShut
import Derived.Lib.LaidTab
import Derived.Test.YtflkmhgbinlfiaaGreatDoorPm15
import Derived.LaidHandle
namespace Go.Proofs.YtflkmhgbinlfiaaGreatDoor
open Go.RowKit Go.Shelf
attribute [local go_sem] Oper.semAt_some

theorem bs_append (r : List UInt8) (m : ByteArray) : bs (r ++ m.data.toList) = bs r ++ m := by
  apply ByteArray.ext
  apply Array.toList_inj.1
  rw [ByteArray.data_append, Array.toList_append]
  rfl
theorem cat_list (s m : ByteArray) : (s ++ m).data.toList = s.data.toList ++ m.data.toList := by rw [ByteArray.data_append, Array.toList_append]
theorem data_len (s : ByteArray) : s.data.toList.length = s.size := by simp
theorem ext_size (s : ByteArray) (k : Nat) (h : k ≤ s.size) : (s.extract 0 k).size = k := by simp; omega
theorem zeroN_eq : zeroN = .agg #[.int .i64 0, .bool false, .bool false, .string ⟨#[]⟩, .int .i64 0, .int .u64 0, .int .i64 0, .string ⟨#[]⟩, .slice none 0 0] := rfl
/-- What Item tells of a text, and of the text with more behind. -/
theorem itemC_own {s : ByteArray} {t : Tr} {r : List UInt8} (h : itemC s = .good t r) : r.length + 1 ≤ s.size ∧ (∀ m : ByteArray, itemC (s ++ m) = .good t (r ++ m.data.toList)) ∧ (∀ k, k < s.size - r.length → itemC (s.extract 0 k) = .bad 100) := by
  have hl := data_len s
  obtain ⟨h1, _, h2, h3⟩ := item_own h (by rw [hl]; omega)
  rw [hl] at h1 h3
  refine ⟨h1, fun m => ?_, fun k hk => ?_⟩
  · unfold itemC
    rw [cat_list]
    exact h2 _ _ (by rw [← cat_list, data_len]; omega)
  · unfold itemC
    have hz := ext_size s k (by omega)
    rw [cut_front, bs_list]
    exact h3 k _ hk (by rw [bs_size, List.length_take, hl]; omega)

set_option maxHeartbeats 8000000 in
set_option maxRecDepth 100000 in
theorem behind_walk {aT aF : Addr} (s0 m0 : ByteArray) (pos : Int) (hs0 : s0.size ≤ 9223372036854775807) (hm0 : m0.size ≤ 9223372036854775807) (hp : -9223372036854775808 ≤ pos ∧ pos < 9223372036854775808) (w : World) (h : RW w aT aF) :
    Calls Tryz.prog 4 #[.string s0, .string m0, .int .i64 pos] w fun e w' => e = .returned (.bool true) ∧ Below w.heap.size w w' := by
  have H1 := Lib.hid (cr_shown w h)
  obtain ⟨ks, hks⟩ : ∃ k, min s0.size 900 = k := ⟨_, rfl⟩
  obtain ⟨km, hkm⟩ : ∃ k, min m0.size 900 = k := ⟨_, rfl⟩
  have y0 : min (s0.size : Int) 900 = (ks : Int) := by omega
  have y1 : min (m0.size : Int) 900 = (km : Int) := by omega
  have y2 : ks ≤ s0.size := by omega
  have y3 : km ≤ m0.size := by omega
  have hsz := ext_size s0 ks y2
  have hmz := ext_size m0 km y3
  obtain ⟨s, hs⟩ : ∃ s, s0.extract 0 ks = s := ⟨_, rfl⟩
  obtain ⟨m, hm⟩ : ∃ m, m0.extract 0 km = m := ⟨_, rfl⟩
  rw [hs] at hsz
  rw [hm] at hmz
  have hs9 : s.size ≤ 900 := by omega
  have hm9 : m.size ≤ 900 := by omega
  have HS := Lib.hid hs
  have HM := Lib.hid hm
  have H2 := Lib.hid (fun (x : ByteArray) (hx : x.size ≤ 1000000000) W (hb : Below w.heap.size w W) => cr_Item x hx W (h.below hb).tab (h.below hb).ty)
  clear h hs hm hks hkm hsz hmz hs0 hm0
  go_enter Tryz.func4, Tryz.ntmps4
  go_wp2_with fail
  refine H1.out.mono ?_
  rintro x w1 ⟨rfl, hb1⟩
  go_wp2_with fail
  rw [HS.out, HM.out]
  have HB1 := Lib.hid hb1
  have HI1 := H2.out s (by omega) w1 hb1
  cases hres : itemC s with
  | bad e =>
    rw [hres] at HI1
    have HI1 : Calls Tryz.prog 14 #[.string s] w1 fun x w' => Below w1.heap.size w1 w' ∧ x = .returned (.tuple #[zeroN, .string s, .int .i64 e]) ∧ e ≠ 0 := HI1
    clear hres H1 H2 y0 y1 y2 y3
    refine HI1.mono ?_
    rintro x w2 ⟨hb2, rfl, he⟩
    have y4 : (e != 0) = true := by rw [bne_iff_ne]; exact he
    have hb3 := hb1.trans (hb2.mono hb1.size)
    have hb4 := hb3.alloc hb3.size (.cells #[.int .i64 0, .bool false, .bool false, .string ⟨#[]⟩, .int .i64 0, .int .u64 0, .int .i64 0, .string ⟨#[]⟩, .slice none 0 0] 28)
    rw [zeroN_eq]
    clear HI1 he hb2
    go_wp2_with fail
    go_ret
    exact ⟨by simp, hb4⟩
  | good t r =>
    obtain ⟨hrl, hmore, hless⟩ := itemC_own hres
    rw [hres] at HI1
    have HI1 : Hid (Calls Tryz.prog 14 #[.string s] w1 fun x w' => Below w1.heap.size w1 w' ∧ (∃ A n c, x = .returned (.tuple #[nodeV t.own (.slice A n c), .string (bs r), .int .i64 0]) ∧ LAt w' (fun q => w1.heap.size ≤ q ∧ q < w'.heap.size) 16 t.kids (.slice A n c)) ∧ OwnOk t.own ∧ r.length + 1 ≤ s.size) := Lib.hid HI1
    have hmore1 := hmore m
    have HI2 := Lib.hid (fun W (hb : Below w.heap.size w W) => (show Calls Tryz.prog 14 #[.string (s ++ m)] W fun x w' => Below W.heap.size W w' ∧ (∃ A n c, x = .returned (.tuple #[nodeV t.own (.slice A n c), .string (bs r ++ m), .int .i64 0]) ∧ LAt w' (fun q => W.heap.size ≤ q ∧ q < w'.heap.size) 16 t.kids (.slice A n c)) ∧ OwnOk t.own ∧ (r ++ m.data.toList).length + 1 ≤ (s ++ m).size from by
      have q := H2.out (s ++ m) (by rw [ByteArray.size_append]; omega) W hb
      rw [hmore1] at q
      rw [← bs_append]
      exact q))
    obtain ⟨ko, hko⟩ : ∃ k, s.size - r.length = k := ⟨_, rfl⟩
    obtain ⟨R, hR⟩ : ∃ R, bs r = R := ⟨_, rfl⟩
    have hRz : R.size = r.length := by rw [← hR]; rfl
    rw [hR] at HI1 HI2
    have HI3 := Lib.hid (fun (a : Nat) (ha : a < ko) W (hb : Below w.heap.size w W) => (show Calls Tryz.prog 14 #[.string ((s.extract 0 ko).extract 0 a)] W fun x w' => Below W.heap.size W w' ∧ x = .returned (.tuple #[zeroN, .string ((s.extract 0 ko).extract 0 a), .int .i64 100]) ∧ (100 : Int) ≠ 0 from by
      have hz := ext_size s ko (by omega)
      have e1 : (s.extract 0 ko).extract 0 a = s.extract 0 a := by
        rw [cut_front, cut_front, bs_list, cut_front, List.take_take, show min a ko = a from by omega]
      rw [e1]
      have q := H2.out (s.extract 0 a) (by rw [ext_size s a (by omega)]; omega) W hb
      rw [hless a (by omega)] at q
      exact q))
    have y4 : ¬ (R.size : Int) ≥ (s.size : Int) := by omega
    have y5 : (s.size : Int) - (R.size : Int) = (ko : Int) := by omega
    have y6 : ko ≤ s.size := by omega
    have y7 := ext_size s ko y6
    have y8 : ko ≤ 900 := by omega
    have HSAME := Lib.hid (fun W B x x' (hl : ListAt W B 16 t.kids x) (hl' : ListAt W B 16 t.kids x') (hB : B ≤ W.heap.size) => ref_SameT 16 t t x x' W B 16 hl hl' hB)
    rw [sameT_refl] at HSAME
    have HZ := Lib.hid y7
    clear H1 H2 hres hmore hless hmore1 hko hR hRz hrl y7 hb1 y0 y1 y2 y3
    have hbw := HB1
    refine HI1.out.mono ?_
    rintro x w2 ⟨hb2, ⟨A1, n1, c1, rfl, hl1⟩, ho1, _⟩
    have hb3 := hbw.out.trans (hb2.mono hbw.out.size)
    obtain ⟨⟨kind1, b1, neg1, dg1, ex1, u1, wd1, s1⟩, hoE⟩ : ∃ o, t.own = o := ⟨_, rfl⟩
    rw [hoE] at HI2 HSAME ⊢
    unfold nodeV at HI2 HSAME ⊢
    simp only [] at HI2 HSAME ⊢
    have hk3 := Blk.new w2 #[.int .i64 kind1, .bool b1, .bool neg1, .string dg1, .int .i64 ex1, .int .u64 u1, .int .i64 wd1, .string s1, .slice A1 n1 c1] 28
    have hb4 := hb3.alloc hb3.size (.cells #[.int .i64 kind1, .bool b1, .bool neg1, .string dg1, .int .i64 ex1, .int .u64 u1, .int .i64 wd1, .string s1, .slice A1 n1 c1] 28)
    clear HI1 ho1 hoE hb2
    go_wp2_with fail
    refine (HI2.out _ hb4).mono ?_
    rintro x w5 ⟨hb5, ⟨A2, n2, c2, rfl, hl2⟩, _, _⟩
    have hk6 := (hk3.below hb5 hk3.lt).alloc (.cells #[.int .i64 kind1, .bool b1, .bool neg1, .string dg1, .int .i64 ex1, .int .u64 u1, .int .i64 wd1, .string s1, .slice A2 n2 c2] 28)
    have hm6 := Blk.new w5 #[.int .i64 kind1, .bool b1, .bool neg1, .string dg1, .int .i64 ex1, .int .u64 u1, .int .i64 wd1, .string s1, .slice A2 n2 c2] 28
    have hb6 := hb4.trans (hb5.mono hb4.size)
    have hb7 := hb6.alloc hb6.size (.cells #[.int .i64 kind1, .bool b1, .bool neg1, .string dg1, .int .i64 ex1, .int .u64 u1, .int .i64 wd1, .string s1, .slice A2 n2 c2] 28)
    have hz5 := hb5.size
    rw [World.size_alloc] at hz5
    have hl1' : ListAt (w5.alloc (.cells #[.int .i64 kind1, .bool b1, .bool neg1, .string dg1, .int .i64 ex1, .int .u64 u1, .int .i64 wd1, .string s1, .slice A2 n2 c2] 28)) w5.heap.size 16 t.kids (.slice A1 n1 c1) := ((hl1.keep (fun q hq => (Below.heap_alloc w5 _ q (by omega)).trans ((hb5.block q (by rw [World.size_alloc]; omega)).trans (Below.heap_alloc w2 _ q hq.2)))).mono (fun q hq => by omega))
    have hl2' : ListAt (w5.alloc (.cells #[.int .i64 kind1, .bool b1, .bool neg1, .string dg1, .int .i64 ex1, .int .u64 u1, .int .i64 wd1, .string s1, .slice A2 n2 c2] 28)) w5.heap.size 16 t.kids (.slice A2 n2 c2) := ((hl2.keep (fun q hq => Below.heap_alloc w5 _ q hq.2)).mono (fun q hq => hq.2))
    have HSM := Lib.hid (HSAME.out _ w5.heap.size _ _ hl1' hl2' (by simp))
    clear hl1 hl2 hl1' hl2' HSAME HI2 hk3 hb5
    have p0 := hk6.cell 0
    have p1 := hk6.cell 1
    have p2 := hk6.cell 2
    have p3 := hk6.cell 3
    have p4 := hk6.cell 4
    have p5 := hk6.cell 5
    have p6 := hk6.cell 6
    have p7 := hk6.cell 7
    have p8 := hk6.cell 8
    have q0 := hm6.cell 0
    have q1 := hm6.cell 1
    have q2 := hm6.cell 2
    have q3 := hm6.cell 3
    have q4 := hm6.cell 4
    have q5 := hm6.cell 5
    have q6 := hm6.cell 6
    have q7 := hm6.cell 7
    have q8 := hm6.cell 8
    go_wp2_with fail
    refine HSM.out.mono ?_
    rintro x w8 ⟨rfl, hb8⟩
    have hb9 := hb7.trans (hb8.mono hb7.size)
    clear HSM p0 p1 p2 p3 p4 p5 p6 p7 p8 q0 q1 q2 q3 q4 q5 q6 q7 q8 hk6 hm6 hb8
    rcases (by omega : pos < 0 ∨ (ko : Int) ≤ pos ∨ (0 ≤ pos ∧ pos < ko)) with hc | hc | ⟨hc1, hc2⟩
    · go_wp2_with fail
      go_ret
      exact ⟨rfl, hb9⟩
    · have hc' : ¬ pos < 0 := by omega
      have hc2 : pos ≥ (ko : Int) := hc
      go_wp2_with fail
      go_ret
      exact ⟨rfl, hb9⟩
    · obtain ⟨a, rfl⟩ : ∃ a : Nat, pos = a := ⟨pos.toNat, by omega⟩
      have hc' : ¬ (a : Int) < 0 := by omega
      have hc3 : ¬ (a : Int) ≥ (ko : Int) := by omega
      have hc4 : a ≤ ko := by omega
      have HL := Lib.hid (HI3.out a (by omega) w8 hb9)
      clear HI3 hc1 hc2 hp
      go_wp2_with fail
      refine HL.out.mono ?_
      rintro x w10 ⟨hb10, rfl, _⟩
      have hb11 := hb9.trans (hb10.mono hb9.size)
      have hb12 := hb11.alloc hb11.size (.cells #[.int .i64 0, .bool false, .bool false, .string ⟨#[]⟩, .int .i64 0, .int .u64 0, .int .i64 0, .string ⟨#[]⟩, .slice none 0 0] 28)
      rw [zeroN_eq]
      go_wp2_with fail
      go_ret
      exact ⟨by simp, hb12⟩
end Go.Proofs.YtflkmhgbinlfiaaGreatDoor
namespace Go.Proofs.YtflkmhgbinlfiaaGreatDoor
open Go.RowKit Go.Shelf Go.Lib

theorem laidMet_drop {P : Program} {W : World} : ∀ (k : Nat) {l : List (String × DataW Unit)}, laidMet P l W → laidMet P (l.drop k) W
  | 0, _, h => h
  | _ + 1, [], h => h
  | k + 1, _ :: _, h => laidMet_drop k h.tail

set_option maxRecDepth 100000 in
/-- A sentinel on the list: its cell, the block behind it, its text. -/
theorem sentinel_of {n : String} {g : Nat} {text : List UInt8} {r : List (String × DataW Unit)} {W : World} (h : laidMet Tryz.prog ((n, .iface "*errors.errorString" (.ptr (.agg [.lit (.string text)]))) :: r) W)
    (hg : Tryz.prog.globalNamed n = some g) (ht : (Tryz.prog.globals[g]?).map (·.type) = some 53)
    (hi : ∃ ms, Tryz.prog.underlying 53 = some (.interface ms)) (hrow : ∀ u, Tryz.prog.typeName? 3 u = some "*errors.errorString" → u = 277)
    (he : ∃ f : Field, Tryz.prog.underlying 279 = some (.struct #[f]) ∧ f.type = 9 ∧ f.offset = 0) (hc : Tryz.prog.cellsOf 279 = 1) (hcs : Tryz.prog.cellsOf 9 = 1) :
    ∃ a : Addr, W.cell? ⟨g, 0, none⟩ = some (.iface 277 (.pointer (some a))) ∧ (∃ c t, W.heap[a.block]? = some (.cells c t (0, 0))) ∧ ∃ s : ByteArray, W.cell? a = some (.string s) ∧ s.data.toList = text := by
  obtain ⟨ms, hi⟩ := hi
  obtain ⟨f, he, hft, hfo⟩ := he
  obtain ⟨ps, ⟨g0, t0, cs0, f0, p0, q0, hg0, ht0, hv0, hd0, _, e0⟩, _, hrows⟩ := h
  obtain rfl := Option.some.inj (hg.symm.trans hg0)
  obtain rfl := Option.some.inj (ht.symm.trans ht0)
  subst e0
  obtain ⟨l0⟩ := cs0
  have ok0 : ∀ u v, l0 = [.iface u v] → Value.okWide Tryz.prog W .any 0 u v := fun u v e => by
    subst e
    exact (hrows g 0 (by simp [MemPlace.row])).2 u v (by simpa using World.var?_cell hg0 hv0 0)
  obtain ⟨a0, s0, rfl, hc0, hs0, hz0, rfl⟩ := errorString_of_trod hi hrow Tryz.underlying277 he hft hfo Tryz.underlying9 hc hcs hd0 ok0
  obtain ⟨c0, t0, hb0⟩ := (hrows a0.block a0.off (by simp [MemPlace.row])).1
  refine ⟨a0, ?_, ⟨c0, t0, hb0⟩, s0, hc0, hs0⟩
  simpa using World.var?_cell hg0 hv0 0

set_option maxRecDepth 100000 in
theorem u8extra : U8Extra Tryz.prog Tryz.lays196_ren := { n3 := by kernel_rfl, n4 := by kernel_rfl, y3 := by kernel_rfl, y4 := by kernel_rfl, c5 := by kernel_rfl, c119 := by kernel_rfl, c138 := by kernel_rfl }
theorem es_star : "*" ++ "errors.errorString" = "*errors.errorString" := by decide
set_option maxRecDepth 100000 in
theorem es_row (u : TypeId) (h : Tryz.prog.typeName? 3 u = some "*errors.errorString") : u = 277 :=
  typeName_ptr_named (nm := "errors.errorString") (by rw [es_star]; kernel_rfl) (by kernel_rfl) (by decide) u (by rw [es_star]; exact h)
theorem es_iface : ∃ ms, Tryz.prog.underlying 53 = some (.interface ms) := ⟨_, Tryz.underlying53⟩
theorem es_struct : ∃ f : Field, Tryz.prog.underlying 279 = some (.struct #[f]) ∧ f.type = 9 ∧ f.offset = 0 := ⟨_, Tryz.underlying279, rfl, rfl⟩
set_option maxRecDepth 100000 in
theorem es_cells : Tryz.prog.cellsOf 279 = 1 := by kernel_rfl
set_option maxRecDepth 100000 in
theorem es_string : Tryz.prog.cellsOf 9 = 1 := by kernel_rfl
theorem wf_i64 {a : Int} (h : (Lit.int .i64 a).wf = true) : -9223372036854775808 ≤ a ∧ a < 9223372036854775808 := by
  simp [Lit.wf, IntKind.min, IntKind.max, IntKind.signed, IntKind.bits] at h
  omega
theorem cell_block_lt {w : World} {a : Addr} {v : Value} (h : w.cell? a = some v) : a.block < w.heap.size := by
  unfold World.cell? at h
  cases hh : w.heap[a.block]? with
  | none => rw [hh] at h; cases h
  | some o => exact (Array.getElem?_eq_some_iff.1 hh).1
set_option maxRecDepth 100000 in
/-- A sentinel on the list: its variable holds an interface value. -/
theorem sentinel_var {n : String} {g : Nat} {text : List UInt8} {r : List (String × DataW Unit)} {W : World} (h : laidMet Tryz.prog ((n, .iface "*errors.errorString" (.ptr (.agg [.lit (.string text)]))) :: r) W)
    (hg : Tryz.prog.globalNamed n = some g) (ht : (Tryz.prog.globals[g]?).map (·.type) = some 53) : ∃ tp p, W.var? Tryz.prog n = some #[.iface tp p] := by
  obtain ⟨ms, hi⟩ := es_iface
  obtain ⟨f, he, hft, hfo⟩ := es_struct
  obtain ⟨ps, ⟨g0, t0, cs0, f0, p0, q0, hg0, ht0, hv0, hd0, _, e0⟩, _, hrows⟩ := h
  obtain rfl := Option.some.inj (hg.symm.trans hg0)
  obtain rfl := Option.some.inj (ht.symm.trans ht0)
  subst e0
  obtain ⟨l0⟩ := cs0
  have ok0 : ∀ u v, l0 = [.iface u v] → Value.okWide Tryz.prog W .any 0 u v := fun u v e => by
    subst e
    exact (hrows g 0 (by simp [MemPlace.row])).2 u v (by simpa using World.var?_cell hg0 hv0 0)
  obtain ⟨a0, s0, rfl, hc0, hs0, hz0, rfl⟩ := errorString_of_trod hi es_row Tryz.underlying277 he hft hfo Tryz.underlying9 es_cells es_string hd0 ok0
  exact ⟨_, _, hv0⟩
set_option maxRecDepth 100000 in
theorem gR : Tryz.prog.globalNamed "strconv.ErrRange" = some 6 := by kernel_rfl
set_option maxRecDepth 100000 in
theorem tR : (Tryz.prog.globals[6]?).map (·.type) = some 53 := by kernel_rfl
end Go.Proofs.YtflkmhgbinlfiaaGreatDoor
namespace Go.Proofs.YtflkmhgbinlfiaaGreatDoor
open Go.RowKit Go.Shelf Go.Lib

set_option maxRecDepth 100000 in
theorem gTr : Tryz.prog.globalNamed "targum/tree.errTree" = some 0 := by kernel_rfl
set_option maxRecDepth 100000 in
theorem gFo : Tryz.prog.globalNamed "targum/tree.errForm" = some 1 := by kernel_rfl
set_option maxRecDepth 100000 in
theorem tTr : (Tryz.prog.globals[0]?).map (·.type) = some 53 := by kernel_rfl
set_option maxRecDepth 100000 in
theorem tFo : (Tryz.prog.globals[1]?).map (·.type) = some 53 := by kernel_rfl

/-- A list of laid variables in which the gate's five stand. -/
structure GateLaid (l : List (String × DataW Unit)) : Prop where
  eT : ∃ k r, l.drop k = ("targum/tree.errTree", .iface "*errors.errorString" (.ptr (.agg [.lit (.string [110, 111, 32, 116, 114, 101, 101])]))) :: r
  eF : ∃ k r, l.drop k = ("targum/tree.errForm", .iface "*errors.errorString" (.ptr (.agg [.lit (.string [110, 111, 32, 115, 117, 99, 104, 32, 102, 111, 114, 109])]))) :: r
  ra : ("unicode/utf8.acceptRanges", acceptData) ∈ l
  fi : ("unicode/utf8.first", firstData) ∈ l
  eR : ∃ k r, l.drop k = ("strconv.ErrRange", .iface "*errors.errorString" (.ptr (.agg [.lit (.string [118, 97, 108, 117, 101, 32, 111, 117, 116, 32, 111, 102, 32, 114, 97, 110, 103, 101])]))) :: r

theorem gw_of_laid {l : List (String × DataW Unit)} (hl : GateLaid l) {W : World} (h : laidMet Tryz.prog l W) : ∃ aT aF, GW W aT aF := by
  obtain ⟨kT, rT, eT⟩ := hl.eT
  obtain ⟨kF, rF, eF⟩ := hl.eF
  obtain ⟨kR, rR, eR⟩ := hl.eR
  have hT := laidMet_drop kT h
  have hF := laidMet_drop kF h
  have hR := laidMet_drop kR h
  rw [eT] at hT
  rw [eF] at hF
  rw [eR] at hR
  obtain ⟨aT, cT, bT, sT, dT, xT⟩ := sentinel_of hT gTr tTr es_iface es_row es_struct es_cells es_string
  obtain ⟨aF, cF, bF, sF, dF, xF⟩ := sentinel_of hF gFo tFo es_iface es_row es_struct es_cells es_string
  refine ⟨aT, aF, cT, cF, ?_, bT, bF, ?_, sentinel_var hR gR tR⟩
  · rintro rfl
    rw [dT] at dF
    cases dF
    rw [xT] at xF
    cases xF
  · obtain ⟨ps, hv, _, _⟩ := h
    exact utf8Tabs_of_readsT (U8Types.of196 Tryz.lays196) u8extra (LaidVars_reads hv _ _ hl.fi) (LaidVars_reads hv _ _ hl.ra)
end Go.Proofs.YtflkmhgbinlfiaaGreatDoor
namespace Go.Proofs.YtflkmhgbinlfiaaGreatDoor
open Go.RowKit Go.Shelf Go.Lib

/-- The list, the handle left out. -/
noncomputable abbrev plainL : List (String × DataW Unit) := [("math/bits.deBruijn32tab", Rows.laid_math_bits_deBruijn32tab), ("math/bits.deBruijn64tab", Rows.laid_math_bits_deBruijn64tab), ("internal/strconv.uint64pow10", Rows.laid_internal_strconv_uint64pow10), ("unicode/utf8.acceptRanges", Rows.laid_unicode_utf8_acceptRanges), ("strconv.ErrRange", Rows.laid_strconv_ErrRange), ("strconv.ErrSyntax", Rows.laid_strconv_ErrSyntax), ("targum/tree.errTree", Rows.laid_targum_tree_errTree), ("targum/tree.errForm", Rows.laid_targum_tree_errForm), ("unicode/utf8.first", Rows.laid_unicode_utf8_first)]
noncomputable abbrev allL10 : List (String × DataW Unit) := [("math/bits.deBruijn32tab", Rows.laid_math_bits_deBruijn32tab), ("math/bits.deBruijn64tab", Rows.laid_math_bits_deBruijn64tab), ("internal/strconv.uint64pow10", Rows.laid_internal_strconv_uint64pow10), ("unicode/utf8.acceptRanges", Rows.laid_unicode_utf8_acceptRanges), ("errors.errorType", Rows.laid_errors_errorType), ("strconv.ErrRange", Rows.laid_strconv_ErrRange), ("strconv.ErrSyntax", Rows.laid_strconv_ErrSyntax), ("targum/tree.errTree", Rows.laid_targum_tree_errTree), ("targum/tree.errForm", Rows.laid_targum_tree_errForm), ("unicode/utf8.first", Rows.laid_unicode_utf8_first)]
set_option maxRecDepth 100000 in
theorem hand_parts {W : World} (h : laidMetH Tryz.prog allL10 W) : laidMet Tryz.prog plainL W ∧ handlesMet Tryz.prog [("errors.errorType", Rows.laid_errors_errorType)] W := by
  have e1 : (allL10.filter fun x => x.2.handleName?.isSome) = [("errors.errorType", Rows.laid_errors_errorType)] := by kernel_rfl
  have e2 : (allL10.filter fun x => x.2.handleName?.isNone) = plainL := by kernel_rfl
  unfold laidMetH at h
  rw [e1, e2] at h
  exact h
set_option maxRecDepth 100000 in
theorem hand_et : Tryz.prog.globalNamed "errors.errorType" = some 2 := by kernel_rfl
set_option maxRecDepth 100000 in
theorem hand_rt : (Tryz.prog.cutTypes.find? (·.1 == "internal/reflectlite.rtype")).map (·.2) = some 119 := by kernel_rfl
set_option maxRecDepth 100000 in
theorem hand_size : Tryz.prog.types.size = 312 := by kernel_rfl
set_option maxRecDepth 100000 in
theorem hand_row : ((List.range 312).filter fun t => Tryz.prog.rowNamed t [101, 114, 114, 111, 114]) = [53] := by kernel_rfl
set_option maxRecDepth 100000 in
theorem hand_ty {W : World} (h : handlesMet Tryz.prog [("errors.errorType", Rows.laid_errors_errorType)] W) : ErrTy W := by
  obtain ⟨name, u, ty, e1, e2, e3, e4, e5⟩ := h _ (List.mem_singleton.2 rfl)
  have en : name = [101, 114, 114, 111, 114] := (Option.some.inj e1).symm
  subst en
  obtain rfl := Option.some.inj (hand_rt.symm.trans e2)
  have hm : ty ∈ (List.range 312).filter fun t => Tryz.prog.rowNamed t [101, 114, 114, 111, 114] := List.mem_filter.2 ⟨List.mem_range.2 (by rw [← hand_size]; exact e3), e4⟩
  rw [hand_row] at hm
  obtain rfl := List.mem_singleton.1 hm
  have hh : typeHandle Tryz.prog 53 = .pointer (some ⟨11, 53, none⟩) := by kernel_rfl
  rw [hh] at e5
  simpa using World.var?_cell hand_et e5 0
set_option maxRecDepth 100000 in
theorem plain_gate : GateLaid plainL where
  eT := ⟨6, _, rfl⟩
  eF := ⟨7, _, rfl⟩
  ra := by
    rw [show (acceptData : DataW Unit) = Rows.laid_unicode_utf8_acceptRanges from by kernel_rfl]
    exact .tail _ (.tail _ (.tail _ (.head _)))
  fi := by
    rw [show (firstData : DataW Unit) = Rows.laid_unicode_utf8_first from by kernel_rfl]
    exact .tail _ (.tail _ (.tail _ (.tail _ (.tail _ (.tail _ (.tail _ (.tail _ (.head _))))))))
  eR := ⟨4, _, rfl⟩
set_option maxRecDepth 100000 in
theorem pow_g : Tryz.prog.globalNamed "internal/strconv.uint64pow10" = some 8 := by kernel_rfl
set_option maxRecDepth 100000 in
theorem pow_t : (Tryz.prog.globals[8]?).map (·.type) = some 272 := by kernel_rfl
set_option maxRecDepth 100000 in
theorem pow_u : Tryz.prog.cellsOf 25 = 1 := by kernel_rfl
set_option maxRecDepth 100000 in
theorem pow_c : Tryz.prog.cellsOf 272 = 20 := by kernel_rfl
set_option maxRecDepth 100000 in
theorem rw_of_laid {W : World} (h : laidMetH Tryz.prog allL10 W) : ∃ aT aF, RW W aT aF := by
  obtain ⟨h1, h2⟩ := hand_parts h
  obtain ⟨aT, aF, hg⟩ := gw_of_laid plain_gate h1
  have h3 := laidMet_drop 2 h1
  exact ⟨aT, aF, hg, tabIs_of_head pow_g pow_t Tryz.underlying272 Tryz.underlying25 pow_u pow_c h3, hand_ty h2⟩

/-- The world of the door, the handle laid; then all else. -/
noncomputable def handW (os : Os) : World :=
  let w0 := World.holding Tryz.prog os ⟨#[], #[], []⟩
  { w0 with heap := w0.heap.modify 2 fun
      | .cells _ t frozen => .cells #[.iface 119 (.agg #[.pointer (some ⟨11, 53, none⟩)])] t frozen
      | o => o }
noncomputable def laidH (os : Os) : World := (handW os).layVars Tryz.prog plainL
theorem laidH_os (os : Os) : (laidH os).os = os := World.layVars_os _ _ _
set_option maxRecDepth 100000 in
theorem laidH_met (os : Os) (args : Array Value) : laidMetH Tryz.prog allL10 ((laidH os).forCall (fun _ _ => 0) ⟨#[], args, []⟩).memory := by
  refine laidMetH_of_parts ?_ ?_
  · have e2 : (allL10.filter fun x => x.2.handleName?.isNone) = plainL := by kernel_rfl
    rw [e2]
    have e3 : (plainL.filter fun x => (plainL.map (·.1)).contains x.1) = plainL := List.filter_eq_self.2 fun x hx => List.contains_iff_mem.2 (List.mem_map.2 ⟨x, hx, rfl⟩)
    have e4 : (plainL.filter fun x => !(plainL.map (·.1)).contains x.1) = [] := List.filter_eq_nil_iff.2 fun x hx => by rw [List.contains_iff_mem.2 (List.mem_map.2 ⟨x, hx, rfl⟩)]; simp
    have h : laidMet Tryz.prog plainL (laidH os) := laidMet_layVars (w0 := handW os) (plainL.map (·.1)) [] (by rw [e3]; rfl) (by rw [e3]; kernel_rfl) (by rw [e3]; kernel_rfl) (by rw [e4]; exact LaidIn.none)
    exact h.of_heap (by simp [World.memory, World.forCall, Input.heap])
  · kernel_rfl
set_option maxRecDepth 100000 in
theorem laidH_shaped (os : Os) (args : Array Value) : ((laidH os).forCall (fun _ _ => 0) ⟨#[], args, []⟩).Shaped Tryz.prog := World.shaped_of_ZipB (by kernel_rfl) (by kernel_rfl)
end Go.Proofs.YtflkmhgbinlfiaaGreatDoor
