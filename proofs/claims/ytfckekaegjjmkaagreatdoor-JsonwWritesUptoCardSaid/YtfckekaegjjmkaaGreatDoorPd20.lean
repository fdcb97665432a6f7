/- The texts JwB, RangeK, GateK, put together. -/
import Derived.Test.YtfckekaegjjmkaaGreatDoorPd18
import Derived.Test.YtfckekaegjjmkaaGreatDoorPd15
import Derived.Test.YtfckekaegjjmkaaGreatDoorPd12
import Derived.Test.YtfckekaegjjmkaaGreatDoorPd19
import Derived.Test.YtfckekaegjjmkaaGreatDoorPd01
import Derived.Test.YtfckekaegjjmkaaGreatDoorPd05
import Derived.Test.YtfckekaegjjmkaaGreatDoorPd10
namespace Go.Proofs.YtfckekaegjjmkaaGreatDoor
open Go.RowKit Go.Shelf

/-- The world of the chapter: the gate's, the texts', strconv's powers of ten. -/
structure SW (w : World) (aT aF : Addr) : Prop where
  g : GW w aT aF
  tab : Pow10F w
theorem SW.below {w w' : World} {aT aF : Addr} (h : SW w aT aF) (hb : Below w.heap.size w w') : SW w' aT aF where
  g := h.g.below hb
  tab := Lib.tabBelow_of_tabIs h.tab w' hb
theorem fmtD_len {neg : Bool} {dg : ByteArray} {ex : Int} (h : decOk neg dg ex = true) : (fmtD neg dg.data.toList ex).length ≤ 300 := by
  obtain ⟨hd1, hd2, he1, he2⟩ := decOk_bounds h
  have hdl : dg.data.toList.length = dg.size := by simp
  have hi := itoaL_len ex he1 he2
  unfold fmtD
  rw [List.length_append]
  have h1 : (if neg = true then [(45 : UInt8)] else []).length ≤ 1 := by split <;> simp
  generalize (if neg = true then [(45 : UInt8)] else []).length = q at h1 ⊢
  split
  · rw [List.length_append, List.length_cons]
    omega
  · split
    · rw [List.length_append, List.length_replicate]
      omega
    · split
      · rw [List.length_append, List.length_cons, List.length_take, List.length_drop]
        omega
      · rw [List.length_cons, List.length_cons, List.length_append, List.length_replicate]
        omega

set_option maxHeartbeats 4000000 in
set_option maxRecDepth 100000 in
theorem jn_null (B p : Nat) (pr : Bool) (dp : Int) (l : List UInt8) (kind : Int) (b neg : Bool) (dg : ByteArray) (ex u wd : Int) (s : ByteArray) (v : Value) (W : World) (h : IsJ B p pr dp (Lib.byteCells l) W) (hlen : l.length ≤ 900000000) :
    Calls Tryz.prog 101 #[.pointer (some ⟨p, 0, none⟩), .agg #[.int .i64 kind, .bool b, .bool neg, .string dg, .int .i64 ex, .int .u64 u, .int .i64 wd, .string s, v]] W fun e W' => e = .returned (.tuple #[]) ∧ JP B p pr dp (l ++ [110, 117, 108, 108]) W W' := by
  have hb1 : Below W.heap.size W (W.alloc (.cells #[.int .i64 kind, .bool b, .bool neg, .string dg, .int .i64 ex, .int .u64 u, .int .i64 wd, .string s, v] 27)) := (Below.refl _ _).alloc (Nat.le_refl _) _
  have hk1 := Blk.new W #[.int .i64 kind, .bool b, .bool neg, .string dg, .int .i64 ex, .int .u64 u, .int .i64 wd, .string s, v] 27
  have hbs := hb1.alloc hb1.size (.cells #[.string ⟨#[110, 117, 108, 108]⟩] 9)
  have HWD := Lib.hid (j_words1 B p (W.heap.size + 1) pr dp l ⟨#[110, 117, 108, 108]⟩ _ (JP.step h hbs).is (by show l.length + 4 ≤ _; omega) (by have := Blk.new (W.alloc (.cells #[.int .i64 kind, .bool b, .bool neg, .string dg, .int .i64 ex, .int .u64 u, .int .i64 wd, .string s, v] 27)) #[.string ⟨#[110, 117, 108, 108]⟩] 9; rw [World.size_alloc] at this; exact this)).calls
  have hws := JP.step h hbs
  clear h hk1
  go_enter Tryz.func101, Tryz.ntmps101
  go_wp2_with fail
  refine HWD.out.mono ?_
  rintro e W2 ⟨rfl, h2⟩
  have hw2 := hws.trans h2
  go_wp2_with fail
  go_end0
  exact ⟨rfl, hw2⟩

set_option maxHeartbeats 4000000 in
set_option maxRecDepth 100000 in
theorem jn_truth (B p : Nat) (pr : Bool) (dp : Int) (l : List UInt8) (kind : Int) (b neg : Bool) (dg : ByteArray) (ex u wd : Int) (s : ByteArray) (v : Value) (W : World) (h : IsJ B p pr dp (Lib.byteCells l) W) (hlen : l.length ≤ 900000000) :
    Calls Tryz.prog 102 #[.pointer (some ⟨p, 0, none⟩), .agg #[.int .i64 kind, .bool b, .bool neg, .string dg, .int .i64 ex, .int .u64 u, .int .i64 wd, .string s, v]] W fun e W' => e = .returned (.tuple #[]) ∧ JP B p pr dp (l ++ (if b = true then [116, 114, 117, 101] else [102, 97, 108, 115, 101])) W W' := by
  have hb1 : Below W.heap.size W (W.alloc (.cells #[.int .i64 kind, .bool b, .bool neg, .string dg, .int .i64 ex, .int .u64 u, .int .i64 wd, .string s, v] 27)) := (Below.refl _ _).alloc (Nat.le_refl _) _
  have hk1 := Blk.new W #[.int .i64 kind, .bool b, .bool neg, .string dg, .int .i64 ex, .int .u64 u, .int .i64 wd, .string s, v] 27
  have z1 := hk1.cell 1
  cases b with
  | true =>
    have hbs := hb1.alloc hb1.size (.cells #[.string ⟨#[116, 114, 117, 101]⟩] 9)
    have HWD := Lib.hid (j_words1 B p (W.heap.size + 1) pr dp l ⟨#[116, 114, 117, 101]⟩ _ (JP.step h hbs).is (by show l.length + 4 ≤ _; omega) (by have := Blk.new (W.alloc (.cells #[.int .i64 kind, .bool true, .bool neg, .string dg, .int .i64 ex, .int .u64 u, .int .i64 wd, .string s, v] 27)) #[.string ⟨#[116, 114, 117, 101]⟩] 9; rw [World.size_alloc] at this; exact this)).calls
    have hws := JP.step h hbs
    clear h hk1
    go_enter Tryz.func102, Tryz.ntmps102
    go_wp2_with fail
    refine HWD.out.mono ?_
    rintro e W2 ⟨rfl, h2⟩
    have hw2 := hws.trans h2
    go_wp2_with fail
    refine bodyPost_ret (results_none rfl _ _ _) rfl ?_
    exact ⟨rfl, hw2⟩
  | false =>
    have hbs := hb1.alloc hb1.size (.cells #[.string ⟨#[102, 97, 108, 115, 101]⟩] 9)
    have HWD := Lib.hid (j_words1 B p (W.heap.size + 1) pr dp l ⟨#[102, 97, 108, 115, 101]⟩ _ (JP.step h hbs).is (by show l.length + 5 ≤ _; omega) (by have := Blk.new (W.alloc (.cells #[.int .i64 kind, .bool false, .bool neg, .string dg, .int .i64 ex, .int .u64 u, .int .i64 wd, .string s, v] 27)) #[.string ⟨#[102, 97, 108, 115, 101]⟩] 9; rw [World.size_alloc] at this; exact this)).calls
    have hws := JP.step h hbs
    clear h hk1
    go_enter Tryz.func102, Tryz.ntmps102
    go_wp2_with fail
    refine HWD.out.mono ?_
    rintro e W2 ⟨rfl, h2⟩
    have hw2 := hws.trans h2
    go_wp2_with fail
    go_end0
    exact ⟨rfl, hw2⟩

set_option maxHeartbeats 4000000 in
set_option maxRecDepth 100000 in
theorem jn_num (B p : Nat) (pr : Bool) (dp : Int) (l : List UInt8) (kind : Int) (b neg : Bool) (dg : ByteArray) (ex u wd : Int) (s : ByteArray) (v : Value) (W : World) (h : IsJ B p pr dp (Lib.byteCells l) W) (hlen : l.length ≤ 900000000) (hok : decOk neg dg ex = true) {aT aF : Addr} (hG : SW W aT aF) :
    Calls Tryz.prog 103 #[.pointer (some ⟨p, 0, none⟩), .agg #[.int .i64 kind, .bool b, .bool neg, .string dg, .int .i64 ex, .int .u64 u, .int .i64 wd, .string s, v]] W fun e W' => e = .returned (.tuple #[]) ∧ JP B p pr dp (l ++ fmtD neg dg.data.toList ex) W W' := by
  have hb1 : Below W.heap.size W (W.alloc (.cells #[.int .i64 kind, .bool b, .bool neg, .string dg, .int .i64 ex, .int .u64 u, .int .i64 wd, .string s, v] 27)) := (Below.refl _ _).alloc (Nat.le_refl _) _
  have hk1 := Blk.new W #[.int .i64 kind, .bool b, .bool neg, .string dg, .int .i64 ex, .int .u64 u, .int .i64 wd, .string s, v] 27
  have z2 := hk1.cell 2
  have z3 := hk1.cell 3
  have z4 := hk1.cell 4
  have hfl := fmtD_len hok
  have HF := Lib.hid (dec_Format neg dg ex hok _ (hG.below hb1).tab)
  obtain ⟨fs, hfs⟩ : ∃ fs : ByteArray, (⟨(fmtD neg dg.data.toList ex).toArray⟩ : ByteArray) = fs := ⟨_, rfl⟩
  have hfsl : fs.data.toList = fmtD neg dg.data.toList ex := by rw [← hfs]
  have hfz : fs.size ≤ 300 := by
    have : fs.data.toList.length = fs.size := by simp
    rw [hfsl] at this
    omega
  rw [hfs] at HF
  rw [← hfsl]
  have HWD := Lib.hid (fun (W2 : World) (hb : Below W.heap.size W W2) => (j_words1 B p W2.heap.size pr dp l fs (W2.alloc (.cells #[.string fs] 9)) (JP.step h (hb.alloc hb.size _)).is (by omega) (Blk.new _ _ _)).calls)
  have HI := Lib.hid h
  clear h hk1 hok hG hfl hfs hfsl
  go_enter Tryz.func103, Tryz.ntmps103
  go_wp2_with fail
  refine HF.out.mono ?_
  rintro e W2 ⟨rfl, hb⟩
  have hb2 := hb1.trans (hb.mono hb1.size)
  have H2 := Lib.hid (HWD.out W2 hb2)
  have hws := JP.step HI.out (hb2.alloc hb2.size (.cells #[.string fs] 9))
  clear hb hb1 HF HWD z2 z3 z4 hb2
  go_wp2_with fail
  refine H2.out.mono ?_
  rintro e W3 ⟨rfl, h3⟩
  have hw3 := hws.trans h3
  go_wp2_with fail
  go_end0
  exact ⟨rfl, hw3⟩

set_option maxHeartbeats 4000000 in
set_option maxRecDepth 100000 in
theorem jn_text (B p : Nat) (pr : Bool) (dp : Int) (l : List UInt8) (kind : Int) (b neg : Bool) (dg : ByteArray) (ex u wd : Int) (s : ByteArray) (v : Value) (W : World) (h : IsJ B p pr dp (Lib.byteCells l) W) (hlen : l.length ≤ 900000000) (hv : Lib.validD s.data.toList = true) (hs : s.size ≤ 1000000) {aT aF : Addr} (hG : SW W aT aF) :
    Calls Tryz.prog 104 #[.pointer (some ⟨p, 0, none⟩), .agg #[.int .i64 kind, .bool b, .bool neg, .string dg, .int .i64 ex, .int .u64 u, .int .i64 wd, .string s, v]] W fun e W' => e = .returned (.tuple #[]) ∧ JP B p pr dp (l ++ quoteL s.data.toList) W W' := by
  have hb1 : Below W.heap.size W (W.alloc (.cells #[.int .i64 kind, .bool b, .bool neg, .string dg, .int .i64 ex, .int .u64 u, .int .i64 wd, .string s, v] 27)) := (Below.refl _ _).alloc (Nat.le_refl _) _
  have hk1 := Blk.new W #[.int .i64 kind, .bool b, .bool neg, .string dg, .int .i64 ex, .int .u64 u, .int .i64 wd, .string s, v] 27
  have z7 := hk1.cell 7
  have HF := Lib.hid (utf_QuoteT_yes s _ (hG.below hb1).g.tabs (by omega) hv)
  have hql : (quoteL s.data.toList).length ≤ 6 * s.size + 2 := by
    have h1 := quoteL_len s.data.toList
    have h2 : s.data.toList.length = s.size := by simp
    omega
  obtain ⟨fs, hfs⟩ : ∃ fs : ByteArray, (⟨(quoteL s.data.toList).toArray⟩ : ByteArray) = fs := ⟨_, rfl⟩
  have hfsl : fs.data.toList = quoteL s.data.toList := by rw [← hfs]
  have hfz : fs.size ≤ 6000002 := by
    have : fs.data.toList.length = fs.size := by simp
    rw [hfsl] at this
    omega
  rw [hfs] at HF
  rw [← hfsl]
  have HWD := Lib.hid (fun (W2 : World) (hb : Below W.heap.size W W2) => (j_words1 B p W2.heap.size pr dp l fs (W2.alloc (.cells #[.string fs] 9)) (JP.step h (hb.alloc hb.size _)).is (by omega) (Blk.new _ _ _)).calls)
  have HI := Lib.hid h
  clear h hk1 hv hG hql hfs hfsl hs
  go_enter Tryz.func104, Tryz.ntmps104
  go_wp2_with fail
  refine HF.out.mono ?_
  rintro e W2 ⟨rfl, hb⟩
  have hb2 := hb1.trans (hb.mono hb1.size)
  have H2 := Lib.hid (HWD.out W2 hb2)
  have hws := JP.step HI.out (hb2.alloc hb2.size (.cells #[.string fs] 9))
  clear hb hb1 HF HWD z7 hb2
  go_wp2_with fail
  refine H2.out.mono ?_
  rintro e W3 ⟨rfl, h3⟩
  have hw3 := hws.trans h3
  go_wp2_with fail
  go_end0
  exact ⟨rfl, hw3⟩

set_option maxHeartbeats 4000000 in
set_option maxRecDepth 100000 in
theorem jn_array (B p : Nat) (pr : Bool) (dp : Int) (l : List UInt8) (kind : Int) (b neg : Bool) (dg : ByteArray) (ex u wd : Int) (s : ByteArray) (A : Option Addr) (n c : Nat) (tl : List UInt8) (W : World) (h : IsJ B p pr dp (Lib.byteCells l) W)
    (hlist : ∀ W2, JP B p pr dp l W W2 → Calls Tryz.prog 146 #[.pointer (some ⟨p, 0, none⟩), .slice A n c, .int .i64 1, .string ⟨#[91]⟩, .string ⟨#[93]⟩] W2 fun e W' => e = .returned (.tuple #[]) ∧ JP B p pr dp (l ++ tl) W2 W') :
    Calls Tryz.prog 105 #[.pointer (some ⟨p, 0, none⟩), .agg #[.int .i64 kind, .bool b, .bool neg, .string dg, .int .i64 ex, .int .u64 u, .int .i64 wd, .string s, .slice A n c]] W fun e W' => e = .returned (.tuple #[]) ∧ JP B p pr dp (l ++ tl) W W' := by
  have hb1 : Below W.heap.size W (W.alloc (.cells #[.int .i64 kind, .bool b, .bool neg, .string dg, .int .i64 ex, .int .u64 u, .int .i64 wd, .string s, .slice A n c] 27)) := (Below.refl _ _).alloc (Nat.le_refl _) _
  have hk1 := Blk.new W #[.int .i64 kind, .bool b, .bool neg, .string dg, .int .i64 ex, .int .u64 u, .int .i64 wd, .string s, .slice A n c] 27
  have z8 := hk1.cell 8
  have hws := JP.step h hb1
  have HA := Lib.hid (hlist _ hws)
  clear h hk1 hlist
  go_enter Tryz.func105, Tryz.ntmps105
  go_wp2_with fail
  refine HA.out.mono ?_
  rintro e W3 ⟨rfl, h3⟩
  have hw3 := hws.trans h3
  go_wp2_with fail
  go_end0
  exact ⟨rfl, hw3⟩

set_option maxHeartbeats 4000000 in
set_option maxRecDepth 100000 in
theorem jn_members (B p : Nat) (pr : Bool) (dp : Int) (l : List UInt8) (kind : Int) (b neg : Bool) (dg : ByteArray) (ex u wd : Int) (s : ByteArray) (A : Option Addr) (n c : Nat) (tl : List UInt8) (W : World) (h : IsJ B p pr dp (Lib.byteCells l) W)
    (hlist : ∀ W2, JP B p pr dp l W W2 → Calls Tryz.prog 146 #[.pointer (some ⟨p, 0, none⟩), .slice A n c, .int .i64 2, .string ⟨#[123]⟩, .string ⟨#[125]⟩] W2 fun e W' => e = .returned (.tuple #[]) ∧ JP B p pr dp (l ++ tl) W2 W') :
    Calls Tryz.prog 106 #[.pointer (some ⟨p, 0, none⟩), .agg #[.int .i64 kind, .bool b, .bool neg, .string dg, .int .i64 ex, .int .u64 u, .int .i64 wd, .string s, .slice A n c]] W fun e W' => e = .returned (.tuple #[]) ∧ JP B p pr dp (l ++ tl) W W' := by
  have hb1 : Below W.heap.size W (W.alloc (.cells #[.int .i64 kind, .bool b, .bool neg, .string dg, .int .i64 ex, .int .u64 u, .int .i64 wd, .string s, .slice A n c] 27)) := (Below.refl _ _).alloc (Nat.le_refl _) _
  have hk1 := Blk.new W #[.int .i64 kind, .bool b, .bool neg, .string dg, .int .i64 ex, .int .u64 u, .int .i64 wd, .string s, .slice A n c] 27
  have z8 := hk1.cell 8
  have hws := JP.step h hb1
  have HA := Lib.hid (hlist _ hws)
  clear h hk1 hlist
  go_enter Tryz.func106, Tryz.ntmps106
  go_wp2_with fail
  refine HA.out.mono ?_
  rintro e W3 ⟨rfl, h3⟩
  have hw3 := hws.trans h3
  go_wp2_with fail
  go_end0
  exact ⟨rfl, hw3⟩
end Go.Proofs.YtfckekaegjjmkaaGreatDoor
namespace Go.Proofs.YtfckekaegjjmkaaGreatDoor
open Go.RowKit Go.Shelf

/-- What a round keeps: the blocks of K, and all maps. -/
def KpB (K : Nat → Prop) (A B : World) : Prop := (∀ q, K q → B.heap[q]? = A.heap[q]?) ∧ KeepsWalks A B
theorem KpB.trans {K : Nat → Prop} {A B C : World} (h : KpB K A B) (k : KpB K B C) : KpB K A C := ⟨fun q hq => (k.1 q hq).trans (h.1 q hq), h.2.trans k.2⟩
theorem KpB.refl (K : Nat → Prop) (A : World) : KpB K A A := ⟨fun _ _ => rfl, KeepsWalks.refl _⟩
theorem KpB.below {K : Nat → Prop} {A B : World} (h : Below A.heap.size A B) (hK : ∀ q, K q → q < A.heap.size) : KpB K A B := ⟨fun q hq => h.block q (hK q hq), h.size, fun k _ hk _ => (h.block k (Array.getElem?_eq_some_iff.1 hk).1).trans hk⟩
theorem KpB.putObj {K : Nat → Prop} {W : World} {l n : Nat} {o : Obj} (o' : Obj) (hK : ∀ q, K q → q < n) (hl : n ≤ l) (h : W.heap[l]? = some o) (hw : o.isWalk = false) : KpB K W (W.putObj l o') :=
  ⟨fun q hq => World.putObj_heap_other (by have := hK q hq; omega), KeepsWalks.putObj o' h hw⟩
theorem keeps_below {n : Nat} {A B : World} (h : Below A.heap.size A B) : KeepsFrom n A B := ⟨h.size, fun k _ _ hk _ => (h.block k (Array.getElem?_eq_some_iff.1 hk).1).trans hk⟩
theorem isWalk_cells {o : Obj} (h : o.isCells = true) : o.isWalk = false := by
  cases o <;> first | rfl | cases h
theorem KpB.row {K : Nat → Prop} {A B : World} {g : Nat} (h : A.grownBy B (some g)) (hK : ∀ q, K q → q < A.heap.size ∧ q ≠ g) (hg : ∀ o, A.heap[g]? = some o → o.isCells = true) : KpB K A B :=
  ⟨fun q hq => h.block q (hK q hq).1 (fun e => (hK q hq).2 (by injection e)), h.size, fun k o hk ho => (h.block k (Array.getElem?_eq_some_iff.1 hk).1 (fun e => by
    cases e
    rw [isWalk_cells (hg o hk)] at ho
    cases ho)).trans hk⟩
/-- The blocks of K lie as they lay. -/
def KeptK (K : Nat → Prop) (A B : World) : Prop := ∀ q, K q → B.heap[q]? = A.heap[q]?
theorem KeptK.lt {K : Nat → Prop} {A B : World} (h : KeptK K A B) (hK : ∀ q, K q → q < A.heap.size) (q : Nat) (hq : K q) : q < B.heap.size := by
  have h1 := h q hq
  rw [Array.getElem?_eq_getElem (hK q hq)] at h1
  exact (Array.getElem?_eq_some_iff.1 h1).1
theorem KeptK.grown {K : Nat → Prop} {A B C : World} {r : Option Nat} (h : KeptK K A B) (hK : ∀ q, K q → q < A.heap.size) (hg : B.grownBy C r) (hr : ∀ g, r = some g → ¬ K g) : KeptK K A C :=
  fun q hq => (hg.block q (h.lt hK q hq) (fun e => hr q e.symm hq)).trans (h q hq)
end Go.Proofs.YtfckekaegjjmkaaGreatDoor
namespace Go.Proofs.YtfckekaegjjmkaaGreatDoor
open Go.RowKit Go.Shelf

/-- Every second one. -/
def evens : List Tr → List Tr
  | [] => []
  | [k] => [k]
  | k :: _ :: r => k :: evens r
theorem evens_drop (l : List Tr) (k : Nat) (h : k < l.length) : evens (l.drop k) = l[k] :: evens (l.drop (k + 2)) := by
  rw [List.drop_eq_getElem_cons h]
  by_cases h1 : k + 1 < l.length
  · rw [List.drop_eq_getElem_cons h1]
    rfl
  · rw [List.drop_eq_nil_of_le (by omega), List.drop_eq_nil_of_le (by omega)]
    rfl
theorem evens_length : ∀ l : List Tr, (evens l).length = (l.length + 1) / 2
  | [] => by simp [evens]
  | [k] => by simp [evens]
  | k :: k' :: r => by
    show (evens r).length + 1 = _
    rw [evens_length r]
    simp only [List.length_cons]
    omega
theorem evens_get : ∀ (l : List Tr) (i : Nat) (h : i < (evens l).length), ∃ h' : 2 * i < l.length, (evens l)[i] = l[2 * i]
  | [], i, h => absurd h (by simp [evens])
  | [k], i, h => by
    have : i = 0 := by simp [evens] at h; exact h
    subst this
    exact ⟨by simp, rfl⟩
  | k :: k' :: r, 0, h => ⟨by simp, rfl⟩
  | k :: k' :: r, i + 1, h => by
    have h1 : i < (evens r).length := by
      have : i + 1 < (evens r).length + 1 := h
      omega
    obtain ⟨h2, e⟩ := evens_get r i h1
    have h3 : 2 * (i + 1) < (k :: k' :: r).length := by
      simp only [List.length_cons]
      omega
    refine ⟨h3, ?_⟩
    show (evens r)[i] = _
    rw [e]
    simp only [Nat.mul_add, Nat.mul_one, List.getElem_cons_succ]

set_option maxHeartbeats 8000000 in
set_option maxRecDepth 100000 in
theorem tree_keys (l : List Tr) (A : Option Addr) (n c : Nat) (w : World) (B d : Nat) (hl : ListAt w B d l (.slice A n c)) (hB : B ≤ w.heap.size) (hn : l.length = n) (hc : n ≤ 1000000000000) :
    Calls Tryz.prog 99 #[.slice A n c] w fun e w' => (∃ A' n' c', e = .returned (.slice A' n' c') ∧ (evens l).length = n' ∧ ListAt w' w'.heap.size (d + 1) (evens l) (.slice A' n' c')) ∧ Below w.heap.size w w' := by
  obtain ⟨i0, hi, hz0, hz1, hz2⟩ := info_parts infoNode
  have HI := Lib.hid hi
  have HZ0 := Lib.hid hz0
  have HZ1 := Lib.hid hz1
  have HZ2 := Lib.hid hz2
  clear hi hz0 hz1 hz2
  have HL := Lib.hid hl
  have HN := Lib.hid hn
  have H0 := Lib.hid (show evens l = [] ++ evens (l.drop (2 * 0)) by simp)
  have hcI : (n : Int) ≤ 1000000000000 := by omega
  have hlen := hl.slice.1
  rw [hn] at hlen
  clear hl hn hc
  go_enter Tryz.func99, Tryz.ntmps99
  go_wp2_with fail
  go_loopw [3, 4] (fun v i wr => ∃ (j : Nat) (acc : List Tr) (xs : List Value), 2 * j ≤ n + 1 ∧ acc.length = j ∧ i = .int .i64 ((2 * j : Nat) : Int) ∧ wr.ownsRow w.heap.size 27 9 v j xs ∧ RowT wr (fun q => q < B) d acc xs ∧ Below w.heap.size w wr ∧ Hid (evens l = acc ++ evens (l.drop (2 * j)))) (fun _ i _ => n + 2 - (intOf i).toNat)
  case atStart => exact ⟨0, [], [], by omega, rfl, rfl, World.ownsRow_nil _ _ _ _, rfl, Below.refl _ _, H0⟩
  case round =>
    obtain ⟨j, acc, xs, hj, hacc, rfl, hown, hrow, hbw, hev⟩ := hrel
    clear H0
    obtain ⟨A', c', rfl⟩ := own_sliceT hown
    have hzw := hbw.size
    obtain ⟨k, hk⟩ : ∃ k, 2 * j = k := ⟨_, rfl⟩
    rw [hk] at hev hj ⊢
    by_cases hlt : k < n
    · have hkl : k < l.length := by rw [HN.out]; exact hlt
      obtain ⟨d', ad, y, hdd, rfl, hab, hok, hna, hkk⟩ := (HL.out.below hbw hB).at_ hkl
      have hev2 : evens l = (acc ++ [l[k]]) ++ evens (l.drop (k + 2)) := by
        rw [hev.out, evens_drop l k hkl, List.append_assoc]
        rfl
      obtain ⟨_, A1, c1, rfl⟩ := hkk.slice
      obtain ⟨n1, hn1⟩ : ∃ n1, l[k].kids.length = n1 := ⟨_, rfl⟩
      rw [hn1] at hkk hna
      have hone : RowT wr (fun q => q < B) d [l[k]] (nodeCells l[k].own (.slice A1 n1 c1)) := RowT.one hok (hkk.deeper (by omega))
      have hrow2 := RowT.append hone hrow
      obtain ⟨o1, ho1⟩ : ∃ o, l[k].own = o := ⟨_, rfl⟩
      rw [ho1] at hna hrow2
      obtain ⟨kind3, b3, neg3, dg3, ex3, u3, wd3, s3⟩ := o1
      unfold nodeCells at hrow2
      obtain ⟨k0, k1, k2, k3, k4, k5, k6, k7, k8⟩ := hna
      simp only [] at k0 k1 k2 k3 k4 k5 k6 k7 k8 hrow2
      have HR2 := Lib.hid hrow2
      have HE2 := Lib.hid hev2
      have HOWN := Lib.hid hown
      have y1 : (k : Int) < n := by omega
      have y2 : (k : Int) + 2 ≤ 2000000000000 := by omega
      have hq : ∀ q, (Value.slice A' j c').ownBlock = some q → w.heap.size ≤ q ∧ q < wr.heap.size := fun q e => ⟨(hown.lt q e).1, (hown.lt q e).2⟩
      have HQ := Lib.hid hq
      have hown2 : (wr.alloc (.cells #[.int .i64 kind3, .bool b3, .bool neg3, .string dg3, .int .i64 ex3, .int .u64 u3, .int .i64 wd3, .string s3, .slice A1 n1 c1] 27)).ownsRow w.heap.size 27 9 (.slice A' j c') j xs := hown.alloc _
      have c3 : j + 1 ≤ maxLen := by unfold maxLen; omega
      clear hlen
      have yj : (j : Int) ≤ 1000000000000 := by omega
      have HK := Lib.hid hk
      have HACC := Lib.hid hacc
      clear hev hev2 hkk hok hdd ho1 hn1 hone hrow hrow2 hown hq hk hacc
      go_wp2_with (at_builtin; refine wpList_append_lies _ rfl _ _ 25 rfl w.heap.size 27 i0 (.agg #[.int .i64 0, .bool false, .bool false, .string ⟨#[]⟩, .int .i64 0, .int .u64 0, .int .i64 0, .string ⟨#[]⟩, .slice none 0 0]) 9 104 Tryz.underlying25 HI.out HZ0.out HZ1.out HZ2.out rfl (by decide) _ _ _ rfl hown2 ⟨wr.heap.size, 0, none⟩ 1 1 [.int .i64 kind3, .bool b3, .bool neg3, .string dg3, .int .i64 ex3, .int .u64 u3, .int .i64 wd3, .string s3, .slice A1 n1 c1] rfl rfl (cells_newT _ [.int .i64 kind3, .bool b3, .bool neg3, .string dg3, .int .i64 ex3, .int .u64 u3, .int .i64 wd3, .string s3, .slice A1 n1 c1] _) (by intro u hu; simp at hu; rcases hu with rfl | rfl | rfl | rfl | rfl | rfl | rfl | rfl | rfl <;> rfl) (by decide) (by omega) (by omega) (by simp; omega) (wr.heap.size + 1) (by simp) ?_; intro g cap w4 hown4 hgrow hat hg4)
      have hbw4 : Below w.heap.size w w4 := (hbw.alloc hbw.size _).grown hgrow (by simp; omega) (fun q e => (HQ.out q e).1)
      have hkp : ∀ q, q < w.heap.size → w4.heap[q]? = wr.heap[q]? := fun q hq => (hbw4.block q hq).trans (hbw.block q hq).symm
      have hrow4 := HR2.out.keep (W' := w4) (fun q hq => hkp q (by omega))
      have HR4 := Lib.hid hrow4
      have HO4 := Lib.hid hown4
      clear hgrow hat hg4 hkp hrow4 hown4 hown2 HR2 HOWN HQ hbw k0 k1 k2 k3 k4 k5 k6 k7 k8
      go_wp2_with fail
      go_roundw
      case rel => exact ⟨j + 1, _, _, by have := HK.out; omega, by rw [List.length_append, HACC.out]; rfl, by have := HK.out; rw [show 2 * (j + 1) = k + 2 by omega]; go_num, HO4.out, HR4.out, hbw4, by have := HK.out; rw [show 2 * (j + 1) = k + 2 by omega]; exact HE2⟩
      case measure => simp [intOf]; omega
    · have y1 : ¬ (k : Int) < n := by omega
      have hfin : evens l = acc := by
        rw [hev.out, List.drop_eq_nil_of_le (by rw [HN.out]; omega)]
        exact List.append_nil _
      have hres : ListAt wr wr.heap.size (d + 1) acc (.slice A' j c') := hrow.list hown hacc.symm (by omega) (fun q hq => by omega) (fun a e => by
        subst e
        exact (hown.lt a.block rfl).2)
      have HFIN := Lib.hid hfin
      have HRES := Lib.hid hres
      have HACC := Lib.hid hacc
      clear hlen
      clear hown hrow hev hfin hres hk hacc
      go_wp2_with fail
      go_ret
      exact ⟨⟨_, _, _, rfl, by rw [HFIN.out]; exact HACC.out, by rw [HFIN.out]; exact HRES.out⟩, hbw⟩
end Go.Proofs.YtfckekaegjjmkaaGreatDoor
