/- The texts RefD, CsH, LaidV, ArgV, CsI, CsJp, put together. -/
import Derived.Test.YtflkmhgbinlfiaaGreatDoorPq02
import Derived.Test.YtflkmhgbinlfiaaGreatDoorPq05
import Derived.Test.YtflkmhgbinlfiaaGreatDoorPq44
import Derived.Test.YtflkmhgbinlfiaaGreatDoorPq03
import Derived.Test.YtflkmhgbinlfiaaGreatDoorPq25
import Derived.Test.YtflkmhgbinlfiaaGreatDoorPq01
import Derived.Test.YtflkmhgbinlfiaaGreatDoorRows
import Derived.Test.YtflkmhgbinlfiaaGreatDoorPq13
import Derived.Lib.LaidU8T
import Derived.PinnedBridge
import Derived.Stop.LaidErr
import Derived.Stop.Joined
import Derived.LaidMore
import Derived.LaidLaws
import Derived.Lay
import Derived.SevenTiedAt
import Derived.ProofKit
import Derived.OpenShut
import Derived.Lib.LaidTab
import Derived.Deep.Slices
import Derived.ChangeArms
import Derived.WideShapes
namespace Go.Proofs.YtflkmhgbinlfiaaGreatDoor
open Go.RowKit Go.Shelf

set_option maxHeartbeats 2000000 in
set_option maxRecDepth 100000 in
theorem ref_Depth (d : Nat) : ∀ (t : Tr) (x : Value) (w : World) (B : Nat), ListAt w B d t.kids x → B ≤ w.heap.size → t.count ≤ 1000000000000 →
    Calls Tryz.prog 17 #[nodeV t.own x] w fun e w' => e = .returned (.int .i64 (t.depth : Nat)) ∧ Below w.heap.size w w' := by
  induction d using Nat.strongRecOn with
  | _ d ih =>
  intro t x w B hl hB hc
  obtain ⟨hlen, A, c, rfl⟩ := hl.slice
  have hdc := depth_count t
  rw [Tr.depth_eq] at hdc ⊢
  have hkc : ∀ l, t.kids = l → ∀ k (h : k < l.length), l[k].count ≤ 1000000000000 := by
    rintro _ rfl k h
    have := Tr.count_eq t
    have h1 := countL_take t.kids k h
    have h2 := countL_mono t.kids (k + 1)
    omega
  obtain ⟨l, hkl⟩ : ∃ l, t.kids = l := ⟨_, rfl⟩
  have hkc := hkc l hkl
  rw [hkl] at hl hlen hdc ⊢
  obtain ⟨n, hn⟩ : ∃ n, l.length = n := ⟨_, rfl⟩
  rw [hn] at hl hlen ⊢
  obtain ⟨⟨kind, b, neg, dg, ex, u, wd, s⟩, ho⟩ : ∃ o, t.own = o := ⟨_, rfl⟩
  rw [ho]
  unfold nodeV
  have HL := Lib.hid hl
  have IH := Lib.hid ih
  have HKC := Lib.hid hkc
  have hbx := (Below.refl w.heap.size w).alloc (Nat.le_refl _) (.cells #[.int .i64 kind, .bool b, .bool neg, .string dg, .int .i64 ex, .int .u64 u, .int .i64 wd, .string s, .slice A n c] 28)
  have hBx : Blk (w.alloc (.cells #[.int .i64 kind, .bool b, .bool neg, .string dg, .int .i64 ex, .int .u64 u, .int .i64 wd, .string s, .slice A n c] 28)) w.heap.size #[.int .i64 kind, .bool b, .bool neg, .string dg, .int .i64 ex, .int .u64 u, .int .i64 wd, .string s, .slice A n c] 28 := Blk.new _ _ _
  have hd2 : depthL l + 1 ≤ 1000000000000 := by omega
  clear hl ih ho hkl hkc hdc hc
  simp only []
  go_enter Tryz.func17, Tryz.ntmps17
  go_wp2_with fail
  go_loopw [3, 4] (fun m i wr => ∃ k : Nat, k ≤ n ∧ i = .int .i64 k ∧ m = .int .i64 ((depthL (l.take k) : Nat) : Int) ∧ Below w.heap.size w wr ∧ Blk wr w.heap.size #[.int .i64 kind, .bool b, .bool neg, .string dg, .int .i64 ex, .int .u64 u, .int .i64 wd, .string s, .slice A n c] 28) (fun _ i _ => n - (intOf i).toNat)
  case atStart => exact ⟨0, by omega, rfl, rfl, hbx, hBx⟩
  case round =>
    obtain ⟨k, hk, rfl, rfl, hbw, hbk⟩ := hrel
    have hfl : wr.cell? ⟨w.heap.size, 8, none⟩ = some (.slice A n c) := hbk.cell 8
    by_cases hlt : k < n
    · have hkl : k < l.length := by omega
      obtain ⟨d', ad, x', hdd, rfl, hab, hok, hna, hkk⟩ := (HL.out.below hbw hB).at_ hkl
      have htk := depthL_take l k hkl
      have HC := IH.out d' (by omega) l[k] x' wr B hkk (Nat.le_trans hB hbw.size) (HKC.out k hkl)
      obtain ⟨m0, hm0⟩ : ∃ m0, depthL (l.take k) = m0 := ⟨_, rfl⟩
      obtain ⟨m1, hm1⟩ : ∃ m1, l[k].depth = m1 := ⟨_, rfl⟩
      rw [hm0, hm1] at htk
      rw [hm1] at HC
      obtain ⟨⟨kind', b', neg', dg', ex', u', wd', s'⟩, ho'⟩ : ∃ o, l[k].own = o := ⟨_, rfl⟩
      rw [ho'] at HC hna
      unfold nodeV at HC
      obtain ⟨k0, k1, k2, k3, k4, k5, k6, k7, k8⟩ := hna
      simp only [] at k0 k1 k2 k3 k4 k5 k6 k7 k8 HC
      have HC := Lib.hid HC
      have HT := Lib.hid htk
      rw [hm0]
      have y1 : (k : Int) < n := by omega
      have y2 : max (m0 : Int) (m1 : Int) = ((max m0 m1 : Nat) : Int) := by omega
      clear htk hm0 hm1 ho' hkk hok hdd
      go_wp2_with fail
      refine HC.out.mono ?_
      rintro e w2 ⟨rfl, hb2⟩
      have hb3 := hbw.trans (hb2.mono hbw.size)
      have hbk2 := hbk.below hb2 hbk.lt
      clear hb2 HC hbk k0 k1 k2 k3 k4 k5 k6 k7 k8 hfl
      go_wp2_with fail
      go_roundw
      case rel => exact ⟨k + 1, by omega, by go_num, by first | (rw [HT.out]; done) | (rw [HT.out]; exact congrArg (Value.int .i64) (by omega)), hb3, hbk2⟩
      case measure => simp [intOf]; omega
    · obtain rfl : k = n := by omega
      have y1 : ¬ (k : Int) < k := by omega
      have hf : l.take k = l := by rw [← hn, List.take_length]
      rw [hf]
      clear hn hf
      go_wp2_with fail
      go_ret
      exact ⟨by go_num, hbw⟩

end Go.Proofs.YtflkmhgbinlfiaaGreatDoor
namespace Go.Proofs.YtflkmhgbinlfiaaGreatDoor
open Go.RowKit Go.Shelf
attribute [local go_sem] Oper.semAt_some

theorem make_small (maj u : Nat) (hu : u < 18446744073709551616) : (makeL maj u).length ≤ 9 := by
  have h := leastOf_cases u (by omega)
  rw [makeL_length]
  unfold leastN
  simp only []
  omega

end Go.Proofs.YtflkmhgbinlfiaaGreatDoor
namespace Go.Proofs.YtflkmhgbinlfiaaGreatDoor
open Go.RowKit Go.Shelf Go.Lib

theorem laidMet_drop {P : Program} {W : World} : ∀ (k : Nat) {l : List (String × DataW Unit)}, laidMet P l W → laidMet P (l.drop k) W
  | 0, _, h => h
  | _ + 1, [], h => h
  | k + 1, _ :: _, h => laidMet_drop k h.tail

set_option maxRecDepth 100000 in
/-- A sentinel on the list: its cell, the block behind it, its text. -/
theorem sentinel_of {n : String} {g : Nat} {text : List UInt8} {r : List (String × DataW Unit)} {W : World} (h : laidMet Tryz.prog ((n, .iface "*errors.errorString" (.ptr (.agg [.lit (.string text)]))) :: r) W)
    (hg : Tryz.prog.globalNamed n = some g) (ht : (Tryz.prog.globals[g]?).map (·.type) = some 53)
    (hi : ∃ ms, Tryz.prog.underlying 53 = some (.interface ms)) (hrow : ∀ u, Tryz.prog.typeName? 3 u = some "*errors.errorString" → u = 277)
    (he : ∃ f : Field, Tryz.prog.underlying 279 = some (.struct #[f]) ∧ f.type = 9 ∧ f.offset = 0) (hc : Tryz.prog.cellsOf 279 = 1) (hcs : Tryz.prog.cellsOf 9 = 1) :
    ∃ a : Addr, W.cell? ⟨g, 0, none⟩ = some (.iface 277 (.pointer (some a))) ∧ (∃ c t, W.heap[a.block]? = some (.cells c t (0, 0))) ∧ ∃ s : ByteArray, W.cell? a = some (.string s) ∧ s.data.toList = text := by
  obtain ⟨ms, hi⟩ := hi
  obtain ⟨f, he, hft, hfo⟩ := he
  obtain ⟨ps, ⟨g0, t0, cs0, f0, p0, q0, hg0, ht0, hv0, hd0, _, e0⟩, _, hrows⟩ := h
  obtain rfl := Option.some.inj (hg.symm.trans hg0)
  obtain rfl := Option.some.inj (ht.symm.trans ht0)
  subst e0
  obtain ⟨l0⟩ := cs0
  have ok0 : ∀ u v, l0 = [.iface u v] → Value.okWide Tryz.prog W .any 0 u v := fun u v e => by
    subst e
    exact (hrows g 0 (by simp [MemPlace.row])).2 u v (by simpa using World.var?_cell hg0 hv0 0)
  obtain ⟨a0, s0, rfl, hc0, hs0, hz0, rfl⟩ := errorString_of_trod hi hrow Tryz.underlying277 he hft hfo Tryz.underlying9 hc hcs hd0 ok0
  obtain ⟨c0, t0, hb0⟩ := (hrows a0.block a0.off (by simp [MemPlace.row])).1
  refine ⟨a0, ?_, ⟨c0, t0, hb0⟩, s0, hc0, hs0⟩
  simpa using World.var?_cell hg0 hv0 0

set_option maxRecDepth 100000 in
theorem u8extra : U8Extra Tryz.prog Tryz.lays196_ren := { n3 := by kernel_rfl, n4 := by kernel_rfl, y3 := by kernel_rfl, y4 := by kernel_rfl, c5 := by kernel_rfl, c119 := by kernel_rfl, c138 := by kernel_rfl }
theorem es_star : "*" ++ "errors.errorString" = "*errors.errorString" := by decide
set_option maxRecDepth 100000 in
theorem es_row (u : TypeId) (h : Tryz.prog.typeName? 3 u = some "*errors.errorString") : u = 277 :=
  typeName_ptr_named (nm := "errors.errorString") (by rw [es_star]; kernel_rfl) (by kernel_rfl) (by decide) u (by rw [es_star]; exact h)
theorem es_iface : ∃ ms, Tryz.prog.underlying 53 = some (.interface ms) := ⟨_, Tryz.underlying53⟩
theorem es_struct : ∃ f : Field, Tryz.prog.underlying 279 = some (.struct #[f]) ∧ f.type = 9 ∧ f.offset = 0 := ⟨_, Tryz.underlying279, rfl, rfl⟩
set_option maxRecDepth 100000 in
theorem es_cells : Tryz.prog.cellsOf 279 = 1 := by kernel_rfl
set_option maxRecDepth 100000 in
theorem es_string : Tryz.prog.cellsOf 9 = 1 := by kernel_rfl
theorem cell_block_lt {w : World} {a : Addr} {v : Value} (h : w.cell? a = some v) : a.block < w.heap.size := by
  unfold World.cell? at h
  cases hh : w.heap[a.block]? with
  | none => rw [hh] at h; cases h
  | some o => exact (Array.getElem?_eq_some_iff.1 hh).1
set_option maxRecDepth 100000 in
/-- A sentinel on the list: its variable holds an interface value. -/
theorem sentinel_var {n : String} {g : Nat} {text : List UInt8} {r : List (String × DataW Unit)} {W : World} (h : laidMet Tryz.prog ((n, .iface "*errors.errorString" (.ptr (.agg [.lit (.string text)]))) :: r) W)
    (hg : Tryz.prog.globalNamed n = some g) (ht : (Tryz.prog.globals[g]?).map (·.type) = some 53) : ∃ tp p, W.var? Tryz.prog n = some #[.iface tp p] := by
  obtain ⟨ms, hi⟩ := es_iface
  obtain ⟨f, he, hft, hfo⟩ := es_struct
  obtain ⟨ps, ⟨g0, t0, cs0, f0, p0, q0, hg0, ht0, hv0, hd0, _, e0⟩, _, hrows⟩ := h
  obtain rfl := Option.some.inj (hg.symm.trans hg0)
  obtain rfl := Option.some.inj (ht.symm.trans ht0)
  subst e0
  obtain ⟨l0⟩ := cs0
  have ok0 : ∀ u v, l0 = [.iface u v] → Value.okWide Tryz.prog W .any 0 u v := fun u v e => by
    subst e
    exact (hrows g 0 (by simp [MemPlace.row])).2 u v (by simpa using World.var?_cell hg0 hv0 0)
  obtain ⟨a0, s0, rfl, hc0, hs0, hz0, rfl⟩ := errorString_of_trod hi es_row Tryz.underlying277 he hft hfo Tryz.underlying9 es_cells es_string hd0 ok0
  exact ⟨_, _, hv0⟩
set_option maxRecDepth 100000 in
theorem gR : Tryz.prog.globalNamed "strconv.ErrRange" = some 6 := by kernel_rfl
set_option maxRecDepth 100000 in
theorem tR : (Tryz.prog.globals[6]?).map (·.type) = some 53 := by kernel_rfl
end Go.Proofs.YtflkmhgbinlfiaaGreatDoor
namespace Go.Proofs.YtflkmhgbinlfiaaGreatDoor
open Go.RowKit Go.Shelf Go.Lib

theorem choose_list {α : Type} {p : Nat → α → Prop} : ∀ (n : Nat), (∀ i, i < n → ∃ s, p i s) → ∃ l : List α, l.length = n ∧ ∀ i (h : i < l.length), p i l[i]
  | 0, _ => ⟨[], rfl, fun i h => by simp at h⟩
  | n + 1, h => by
    obtain ⟨l, hl, hp⟩ := choose_list n (fun i hi => h i (by omega))
    obtain ⟨s, hs⟩ := h n (by omega)
    refine ⟨l ++ [s], by simp [hl], fun i hi => ?_⟩
    rw [List.getElem_append]
    split
    · exact hp i _
    · have : i = n := by simp at hi; omega
      subst this
      simpa [hl] using hs
/-- The slice .slice A n c holds ints. -/
structure IntsAt (W : World) (B : Nat) (A : Option Addr) (n : Nat) (l : List Int) : Prop where
  len : n = l.length
  at_ : ∀ k (h : k < l.length), ∃ ad, A = some ad ∧ ad.block < B ∧ W.cell? (ad.add k) = some (Value.int .i64 l[k]) ∧ (-9223372036854775808 ≤ l[k] ∧ l[k] < 9223372036854775808)
theorem IntsAt.below {W W' : World} {B n : Nat} {A : Option Addr} {l : List Int} (h : IntsAt W B A n l) {m : Nat} (hb : Below m W W') (hm : B ≤ m) : IntsAt W' B A n l :=
  ⟨h.len, fun k hk => by
    obtain ⟨ad, e, hlt, hc, ho⟩ := h.at_ k hk
    exact ⟨ad, e, hlt, (hb.cell (by rw [add_block]; omega)).trans hc, ho⟩⟩
section
variable {H : Type} {enc : TypeId × Value → H} {w : World} {base : Nat} {sp : Nat → Bool} {held : Bool}
end
/-- The slice .slice A n c holds strings. -/
structure StrsAt (W : World) (B : Nat) (A : Option Addr) (n : Nat) (l : List ByteArray) : Prop where
  len : n = l.length
  at_ : ∀ k (h : k < l.length), ∃ ad, A = some ad ∧ ad.block < B ∧ W.cell? (ad.add k) = some (Value.string l[k]) ∧ l[k].size ≤ 9223372036854775807
theorem StrsAt.below {W W' : World} {B n : Nat} {A : Option Addr} {l : List ByteArray} (h : StrsAt W B A n l) {m : Nat} (hb : Below m W W') (hm : B ≤ m) : StrsAt W' B A n l :=
  ⟨h.len, fun k hk => by
    obtain ⟨ad, e, hlt, hc, ho⟩ := h.at_ k hk
    exact ⟨ad, e, hlt, (hb.cell (by rw [add_block]; omega)).trans hc, ho⟩⟩
section
variable {H : Type} {enc : TypeId × Value → H} {w : World} {base : Nat} {sp : Nat → Bool} {held : Bool}
set_option maxRecDepth 100000 in
theorem celStrs : Tryz.prog.cellsOf 9 = 1 := by kernel_rfl
set_option maxRecDepth 100000 in
theorem open_strings {W : World} {r : Reach} {b0 : Nat} {v : Value} {d : DataW H} {ps : List MemPlace} (hval : Value.okWide Tryz.prog W r b0 39 v) (hd : DataW.Trod enc Tryz.prog w base sp held 39 v d ps) :
    ∃ A n c l, v = .slice A n c ∧ n ≤ 9223372036854775807 ∧ StrsAt w w.heap.size A n l := by
  obtain ⟨a, len, cap, rfl⟩ := Go.WideShapes.okWide_slice Tryz.underlying39 hval
  obtain ⟨fuel, hf⟩ := hd
  rcases Go.Deep.open_slice1 Tryz.underlying39 celStrs hf with ⟨e, _⟩ | ⟨a', len', cap', m, n, V, D, Pl, e, hb, hl, hm, hmm, _, hx⟩
  · simp [Value.cells] at e
    obtain ⟨rfl, rfl, rfl⟩ := e
    exact ⟨none, 0, 0, [], rfl, by omega, rfl, fun k h => by simp at h⟩
  · simp [Value.cells] at e
    obtain ⟨rfl, rfl, rfl⟩ := e
    have hlm : len ≤ m := by rw [hmm]; split <;> omega
    obtain ⟨l, hl1, hl2⟩ := choose_list (p := fun i (x : ByteArray) => w.cell? (a'.add i) = some (Value.string x) ∧ x.size ≤ 9223372036854775807) len (fun i hi => by
      obtain ⟨h1, h2⟩ := hx i (by omega)
      obtain ⟨x, e0, _, w0⟩ := DataW.trod_string Tryz.underlying9 h2
      rw [List.cons.injEq] at e0
      exact ⟨x, by rw [h1, e0.1], by simpa [maxLen] using w0⟩)
    refine ⟨some a', len, cap, l, rfl, by simp [maxLen] at hm; omega, hl1.symm, fun k hk => ?_⟩
    obtain ⟨h1, h2⟩ := hl2 k hk
    exact ⟨a', rfl, cell_block_lt (a := a'.add k) h1 |> fun h => by rwa [add_block] at h, h1, h2⟩
end
end Go.Proofs.YtflkmhgbinlfiaaGreatDoor
namespace Go.Proofs.YtflkmhgbinlfiaaGreatDoor
open Go.RowKit Go.Shelf
attribute [local go_sem] Oper.semAt_some

/-- Behind k chunks: what was written, and what is left. -/
def ChS (maj : Nat) (s : ByteArray) (k : Nat) (out rest : ByteArray) : Prop := ∃ ps : List (List UInt8), ps.length = k ∧ out = bs (firstByte maj 31 :: inChunks maj ps) ∧ s.data.toList = ps.flatten ++ rest.data.toList ∧ ∀ c ∈ ps, c.length < 18446744073709551616
theorem ChS.start (maj : Nat) (s : ByteArray) : ChS maj s 0 (bs [firstByte maj 31]) s := ⟨[], rfl, rfl, rfl, fun c h => by cases h⟩
theorem inChunks_snoc (maj : Nat) (ps : List (List UInt8)) (c : List UInt8) : inChunks maj (ps ++ [c]) = inChunks maj ps ++ (makeL maj c.length ++ c) := by
  unfold inChunks
  rw [List.map_append, List.flatten_append]
  simp
theorem bs_cat (l m : List UInt8) : bs l ++ bs m = bs (l ++ m) := (bs_append l (bs m)).symm
theorem ext_all (s : ByteArray) : s.extract 0 s.size = s := by
  rw [cut_front, List.take_of_length_le (by rw [data_len]; exact Nat.le_refl _)]
  rfl
theorem ext_none (s : ByteArray) : s.extract s.size s.size = ByteArray.empty := by
  rw [cut_back, List.drop_of_length_le (by rw [data_len]; exact Nat.le_refl _)]
  rfl
theorem ChS.step {maj k p : Nat} {s out rest : ByteArray} (h : ChS maj s k out rest) (hp : p ≤ rest.size) (hr : rest.size ≤ 1000) : ChS maj s (k + 1) (out ++ bs (makeL maj p) ++ rest.extract 0 p) (rest.extract p rest.size) := by
  obtain ⟨ps, h1, h2, h3, h4⟩ := h
  have hl : (rest.data.toList.take p).length = p := by rw [List.length_take, data_len]; omega
  refine ⟨ps ++ [rest.data.toList.take p], by simp [h1], ?_, ?_, fun c hc => ?_⟩
  · rw [inChunks_snoc, hl, h2, cut_front, bs_cat, bs_cat]
    exact congrArg bs (by simp)
  · rw [h3, cut_back, bs_list, List.flatten_append, List.append_assoc]
    simp
  · rcases List.mem_append.1 hc with hc | hc
    · exact h4 c hc
    · rw [List.mem_singleton.1 hc, hl]
      omega
theorem ChS.last {maj k : Nat} {s out rest : ByteArray} (h : ChS maj s k out rest) (hr : rest.size ≤ 1000) : ChS maj s (k + 1) (out ++ bs (makeL maj rest.size) ++ rest) ByteArray.empty := by
  have h1 := h.step (Nat.le_refl _) hr
  rwa [ext_all, ext_none] at h1
theorem inChunks_len (maj : Nat) : ∀ ps : List (List UInt8), ps.length ≤ (inChunks maj ps).length
  | [] => Nat.le_refl _
  | c :: ps => by
    have := inChunks_len maj ps
    unfold inChunks at this ⊢
    rw [List.map_cons, List.flatten_cons, List.length_append, List.length_append, makeL_length, List.length_cons]
    omega
theorem ChS.done {maj k : Nat} {s out rest : ByteArray} (h : ChS maj s k out rest) (hm : maj = 2 ∨ maj = 3) (hr : rest.size = 0) : itemC (out ++ ⟨#[255]⟩) = .good (strT (kindM maj) s.data.toList) [] := by
  obtain ⟨ps, h1, h2, h3, h4⟩ := h
  have hr0 : rest.data.toList = [] := List.length_eq_zero_iff.1 (by rw [data_len, hr])
  rw [hr0, List.append_nil] at h3
  have e : out ++ (⟨#[255]⟩ : ByteArray) = bs (firstByte maj 31 :: (inChunks maj ps ++ 255 :: [])) := by
    rw [h2]
    exact bs_cat _ [255]
  unfold itemC
  rw [e, bs_list, h3]
  refine chunked_item _ 15 maj hm ps [] ?_ h4
  have := inChunks_len maj ps
  rw [bs_size, List.length_cons, List.length_append]
  omega



end Go.Proofs.YtflkmhgbinlfiaaGreatDoor
namespace Go.Proofs.YtflkmhgbinlfiaaGreatDoor
open Go.RowKit Go.Shelf

/-- An item's own bytes, and what is read of them at one level less. -/
def GoodI (x : List UInt8 × Tr) : Prop := x.1 ≠ [] ∧ x.1.head? ≠ some 255 ∧ ∀ F, 101 ≤ F → ∀ m, itemP F 15 (x.1 ++ m) = if x.2.depth ≤ 15 then .good x.2 m else .bad 60
theorem goodI_of {s : ByteArray} {t : Tr} {r : List UInt8} (h : itemC s = .good t r) (hs : s.size ≤ 100) : GoodI (s.data.toList.take (s.size - r.length), t) ∧ r.length ≤ s.size := by
  have hl := data_len s
  have h0 : itemP (s.size + 1) 16 s.data.toList = .good t r := h
  have hr : ∀ F, 101 ≤ F → itemP F 16 s.data.toList = .good t r := fun F hF => by
    rw [item_fuel 16 F (s.size + 1) _ (by omega) (by omega)]
    exact h0
  have hown : ∀ F, 101 ≤ F → s.data.toList.take (s.size - r.length) ≠ [] ∧ ∀ m, itemP F 16 (s.data.toList.take (s.size - r.length) ++ m) = .good t m := fun F hF => by
    obtain ⟨own, e, g, _⟩ := goodP_item F 16 _ _ _ (hr F hF)
    have hp := own_pos (wantP_item F 16) g
    have hz : s.size - r.length = own.length := by rw [← hl, e, List.length_append]; omega
    rw [hz, e, List.take_left' rfl]
    refine ⟨fun e0 => ?_, g⟩
    rw [e0] at hp
    simp at hp
  refine ⟨⟨(hown 101 (Nat.le_refl _)).1, fun hh => ?_, fun F hF m => ?_⟩, ?_⟩
  · obtain ⟨h1, h2⟩ := hown 101 (Nat.le_refl _)
    simp only [] at hh
    cases hx : s.data.toList.take (s.size - r.length) with
    | nil => exact h1 hx
    | cons c q =>
      rw [hx] at hh h2
      have hc : c = 255 := by simpa using hh
      obtain ⟨e, he⟩ := item_end 101 16 (q ++ [])
      have h3 := h2 []
      rw [hc, List.cons_append, he] at h3
      cases h3
  · exact item_rel F 16 15 _ _ _ ((hown F hF).2 m)
  · obtain ⟨own, e, _⟩ := goodP_item _ 16 _ _ _ (hr 101 (Nat.le_refl _))
    rw [← hl, e, List.length_append]
    omega
/-- What was gathered. -/
def LsS (ps : List (List UInt8 × Tr)) (al : ByteArray) : Prop := al = bs (ps.map (·.1)).flatten ∧ ∀ x ∈ ps, GoodI x
theorem LsS.start : LsS [] ⟨#[]⟩ := ⟨rfl, fun x h => by cases h⟩
theorem LsS.step {ps : List (List UInt8 × Tr)} {al s : ByteArray} {t : Tr} {r : List UInt8} (h : LsS ps al) (hi : itemC s = .good t r) (hs : s.size ≤ 100) (ko : Nat) (hk : s.size - r.length = ko) : LsS (ps ++ [(s.data.toList.take ko, t)]) (al ++ s.extract 0 ko) := by
  subst hk
  refine ⟨?_, fun x hx => ?_⟩
  · rw [h.1, cut_front, bs_cat]
    exact congrArg bs (by simp)
  · rcases List.mem_append.1 hx with hx | hx
    · exact h.2 x hx
    · rw [List.mem_singleton.1 hx]
      exact (goodI_of hi hs).1
theorem LsS.array {ps : List (List UInt8 × Tr)} {al : ByteArray} (h : LsS ps al) (hn : ps.length ≤ 8) : itemC (bs (makeL 4 ps.length) ++ al) = if depthL (ps.map (·.2)) ≤ 15 then .good (listT 7 (ps.map (·.2))) [] else .bad 60 := by
  have e : itemC (bs (makeL 4 ps.length) ++ al) = itemP ((bs (makeL 4 ps.length) ++ al).size + 200) 16 (bs (makeL 4 ps.length) ++ al).data.toList := item_fuel 16 _ _ _ (by rw [data_len]; omega) (by rw [data_len]; omega)
  rw [e]
  have hF : 101 ≤ (bs (makeL 4 ps.length) ++ al).size + 200 := by omega
  generalize (bs (makeL 4 ps.length) ++ al).size + 200 = F at hF
  have h1 := times_items ps [] [] (fun x hx m => (h.2 x hx).2.2 F hF m)
  rw [cat_list, bs_list, array_item F 15 _ (by omega), h.1, bs_list]
  rw [List.append_nil, List.nil_append] at h1
  by_cases hd : depthL (ps.map (·.2)) ≤ 15
  · rw [if_pos hd] at h1 ⊢
    rw [bindP_of h1]
    rfl
  · rw [if_neg hd] at h1 ⊢
    rw [bindP_bad h1]
theorem LsS.opened {ps : List (List UInt8 × Tr)} {al : ByteArray} (h : LsS ps al) (hn : ps.length ≤ 8) : itemC (⟨#[159]⟩ ++ al ++ ⟨#[255]⟩) = if depthL (ps.map (·.2)) ≤ 15 then .good (listT 7 (ps.map (·.2))) [] else .bad 60 := by
  have e : itemC (⟨#[159]⟩ ++ al ++ ⟨#[255]⟩) = itemP ((⟨#[159]⟩ ++ al ++ ⟨#[255]⟩ : ByteArray).size + 200) 16 (159 :: (al.data.toList ++ 255 :: [])) := by
    rw [show 159 :: (al.data.toList ++ 255 :: []) = (⟨#[159]⟩ ++ al ++ ⟨#[255]⟩ : ByteArray).data.toList from by rw [cat_list, cat_list]; rfl]
    exact item_fuel 16 _ _ _ (by rw [data_len]; omega) (by rw [data_len]; omega)
  rw [e]
  have hF : 101 ≤ (⟨#[159]⟩ ++ al ++ ⟨#[255]⟩ : ByteArray).size + 200 := by omega
  generalize (⟨#[159]⟩ ++ al ++ ⟨#[255]⟩ : ByteArray).size + 200 = F at hF
  have h1 := open_items ps F [] [] (by omega) (fun x hx => ⟨(h.2 x hx).1, (h.2 x hx).2.1⟩) (fun x hx m => (h.2 x hx).2.2 F hF m)
  rw [open_item F 15, h.1, bs_list]
  rw [List.nil_append] at h1
  by_cases hd : depthL (ps.map (·.2)) ≤ 15
  · rw [if_pos hd] at h1 ⊢
    rw [bindP_of h1]
    rfl
  · rw [if_neg hd] at h1 ⊢
    rw [bindP_bad h1]
end Go.Proofs.YtflkmhgbinlfiaaGreatDoor
