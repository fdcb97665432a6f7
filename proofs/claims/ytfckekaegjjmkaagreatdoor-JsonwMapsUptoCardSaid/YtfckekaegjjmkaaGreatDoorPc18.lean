/- The texts UtfQ, UtfY, JwB, RangeK, put together. -/
import Derived.Test.YtfckekaegjjmkaaGreatDoorPc17
import Derived.Test.YtfckekaegjjmkaaGreatDoorPc13
import Derived.Test.YtfckekaegjjmkaaGreatDoorPc16
import Derived.Test.YtfckekaegjjmkaaGreatDoorPc01
namespace Go.Proofs.YtfckekaegjjmkaaGreatDoor
open Go.RowKit Go.Shelf

end Go.Proofs.YtfckekaegjjmkaaGreatDoor
namespace Go.Proofs.YtfckekaegjjmkaaGreatDoor
open Go.Lib

def quotes : List Nat → List UInt8
  | [] => []
  | c :: cs => quoteRune c ++ quotes cs


theorem quoteGo_len : ∀ (f : Nat) (l : List UInt8), l.length ≤ f → (quoteGo f l).length ≤ 6 * l.length
  | 0, l, h => by simp [quoteGo]
  | f + 1, l, h => by
    by_cases hne : l = []
    · rw [hne]
      simp [quoteGo]
    · rw [quoteGo_step f hne, List.length_append]
      have h1 := quoteRune_len (decodeL l).1
      have h2 := decodeL_width l
      have hl : 0 < l.length := List.length_pos_iff.2 hne
      have h3 := quoteGo_len f (l.drop (decodeL l).2) (by rw [List.length_drop]; omega)
      rw [List.length_drop] at h3
      omega
theorem quoteL_len (l : List UInt8) : (quoteL l).length ≤ 6 * l.length + 2 := by
  have := quoteGo_len l.length l (Nat.le_refl _)
  unfold quoteL
  simp
  omega
end Go.Proofs.YtfckekaegjjmkaaGreatDoor
namespace Go.Proofs.YtfckekaegjjmkaaGreatDoor
open Go.RowKit Go.Shelf

/-- The world of the chapter: the gate's, the texts', strconv's powers of ten. -/
structure SW (w : World) (aT aF : Addr) : Prop where
  g : GW w aT aF
  tab : Pow10F w
theorem SW.below {w w' : World} {aT aF : Addr} (h : SW w aT aF) (hb : Below w.heap.size w w') : SW w' aT aF where
  g := h.g.below hb
  tab := Lib.tabBelow_of_tabIs h.tab w' hb
theorem fmtD_len {neg : Bool} {dg : ByteArray} {ex : Int} (h : decOk neg dg ex = true) : (fmtD neg dg.data.toList ex).length ≤ 300 := by
  obtain ⟨hd1, hd2, he1, he2⟩ := decOk_bounds h
  have hdl : dg.data.toList.length = dg.size := by simp
  have hi := itoaL_len ex he1 he2
  unfold fmtD
  rw [List.length_append]
  have h1 : (if neg = true then [(45 : UInt8)] else []).length ≤ 1 := by split <;> simp
  generalize (if neg = true then [(45 : UInt8)] else []).length = q at h1 ⊢
  split
  · rw [List.length_append, List.length_cons]
    omega
  · split
    · rw [List.length_append, List.length_replicate]
      omega
    · split
      · rw [List.length_append, List.length_cons, List.length_take, List.length_drop]
        omega
      · rw [List.length_cons, List.length_cons, List.length_append, List.length_replicate]
        omega

set_option maxHeartbeats 4000000 in
set_option maxRecDepth 100000 in
theorem jn_null (B p : Nat) (pr : Bool) (dp : Int) (l : List UInt8) (kind : Int) (b neg : Bool) (dg : ByteArray) (ex u wd : Int) (s : ByteArray) (v : Value) (W : World) (h : IsJ B p pr dp (Lib.byteCells l) W) (hlen : l.length ≤ 900000000) :
    Calls Tryz.prog 101 #[.pointer (some ⟨p, 0, none⟩), .agg #[.int .i64 kind, .bool b, .bool neg, .string dg, .int .i64 ex, .int .u64 u, .int .i64 wd, .string s, v]] W fun e W' => e = .returned (.tuple #[]) ∧ JP B p pr dp (l ++ [110, 117, 108, 108]) W W' := by
  have hb1 : Below W.heap.size W (W.alloc (.cells #[.int .i64 kind, .bool b, .bool neg, .string dg, .int .i64 ex, .int .u64 u, .int .i64 wd, .string s, v] 27)) := (Below.refl _ _).alloc (Nat.le_refl _) _
  have hk1 := Blk.new W #[.int .i64 kind, .bool b, .bool neg, .string dg, .int .i64 ex, .int .u64 u, .int .i64 wd, .string s, v] 27
  have hbs := hb1.alloc hb1.size (.cells #[.string ⟨#[110, 117, 108, 108]⟩] 9)
  have HWD := Lib.hid (j_words1 B p (W.heap.size + 1) pr dp l ⟨#[110, 117, 108, 108]⟩ _ (JP.step h hbs).is (by show l.length + 4 ≤ _; omega) (by have := Blk.new (W.alloc (.cells #[.int .i64 kind, .bool b, .bool neg, .string dg, .int .i64 ex, .int .u64 u, .int .i64 wd, .string s, v] 27)) #[.string ⟨#[110, 117, 108, 108]⟩] 9; rw [World.size_alloc] at this; exact this)).calls
  have hws := JP.step h hbs
  clear h hk1
  go_enter Tryz.func101, Tryz.ntmps101
  go_wp2_with fail
  refine HWD.out.mono ?_
  rintro e W2 ⟨rfl, h2⟩
  have hw2 := hws.trans h2
  go_wp2_with fail
  go_end0
  exact ⟨rfl, hw2⟩

set_option maxHeartbeats 4000000 in
set_option maxRecDepth 100000 in
theorem jn_truth (B p : Nat) (pr : Bool) (dp : Int) (l : List UInt8) (kind : Int) (b neg : Bool) (dg : ByteArray) (ex u wd : Int) (s : ByteArray) (v : Value) (W : World) (h : IsJ B p pr dp (Lib.byteCells l) W) (hlen : l.length ≤ 900000000) :
    Calls Tryz.prog 102 #[.pointer (some ⟨p, 0, none⟩), .agg #[.int .i64 kind, .bool b, .bool neg, .string dg, .int .i64 ex, .int .u64 u, .int .i64 wd, .string s, v]] W fun e W' => e = .returned (.tuple #[]) ∧ JP B p pr dp (l ++ (if b = true then [116, 114, 117, 101] else [102, 97, 108, 115, 101])) W W' := by
  have hb1 : Below W.heap.size W (W.alloc (.cells #[.int .i64 kind, .bool b, .bool neg, .string dg, .int .i64 ex, .int .u64 u, .int .i64 wd, .string s, v] 27)) := (Below.refl _ _).alloc (Nat.le_refl _) _
  have hk1 := Blk.new W #[.int .i64 kind, .bool b, .bool neg, .string dg, .int .i64 ex, .int .u64 u, .int .i64 wd, .string s, v] 27
  have z1 := hk1.cell 1
  cases b with
  | true =>
    have hbs := hb1.alloc hb1.size (.cells #[.string ⟨#[116, 114, 117, 101]⟩] 9)
    have HWD := Lib.hid (j_words1 B p (W.heap.size + 1) pr dp l ⟨#[116, 114, 117, 101]⟩ _ (JP.step h hbs).is (by show l.length + 4 ≤ _; omega) (by have := Blk.new (W.alloc (.cells #[.int .i64 kind, .bool true, .bool neg, .string dg, .int .i64 ex, .int .u64 u, .int .i64 wd, .string s, v] 27)) #[.string ⟨#[116, 114, 117, 101]⟩] 9; rw [World.size_alloc] at this; exact this)).calls
    have hws := JP.step h hbs
    clear h hk1
    go_enter Tryz.func102, Tryz.ntmps102
    go_wp2_with fail
    refine HWD.out.mono ?_
    rintro e W2 ⟨rfl, h2⟩
    have hw2 := hws.trans h2
    go_wp2_with fail
    refine bodyPost_ret (results_none rfl _ _ _) rfl ?_
    exact ⟨rfl, hw2⟩
  | false =>
    have hbs := hb1.alloc hb1.size (.cells #[.string ⟨#[102, 97, 108, 115, 101]⟩] 9)
    have HWD := Lib.hid (j_words1 B p (W.heap.size + 1) pr dp l ⟨#[102, 97, 108, 115, 101]⟩ _ (JP.step h hbs).is (by show l.length + 5 ≤ _; omega) (by have := Blk.new (W.alloc (.cells #[.int .i64 kind, .bool false, .bool neg, .string dg, .int .i64 ex, .int .u64 u, .int .i64 wd, .string s, v] 27)) #[.string ⟨#[102, 97, 108, 115, 101]⟩] 9; rw [World.size_alloc] at this; exact this)).calls
    have hws := JP.step h hbs
    clear h hk1
    go_enter Tryz.func102, Tryz.ntmps102
    go_wp2_with fail
    refine HWD.out.mono ?_
    rintro e W2 ⟨rfl, h2⟩
    have hw2 := hws.trans h2
    go_wp2_with fail
    go_end0
    exact ⟨rfl, hw2⟩

set_option maxHeartbeats 4000000 in
set_option maxRecDepth 100000 in
theorem jn_num (B p : Nat) (pr : Bool) (dp : Int) (l : List UInt8) (kind : Int) (b neg : Bool) (dg : ByteArray) (ex u wd : Int) (s : ByteArray) (v : Value) (W : World) (h : IsJ B p pr dp (Lib.byteCells l) W) (hlen : l.length ≤ 900000000) (hok : decOk neg dg ex = true) {aT aF : Addr} (hG : SW W aT aF) :
    Calls Tryz.prog 103 #[.pointer (some ⟨p, 0, none⟩), .agg #[.int .i64 kind, .bool b, .bool neg, .string dg, .int .i64 ex, .int .u64 u, .int .i64 wd, .string s, v]] W fun e W' => e = .returned (.tuple #[]) ∧ JP B p pr dp (l ++ fmtD neg dg.data.toList ex) W W' := by
  have hb1 : Below W.heap.size W (W.alloc (.cells #[.int .i64 kind, .bool b, .bool neg, .string dg, .int .i64 ex, .int .u64 u, .int .i64 wd, .string s, v] 27)) := (Below.refl _ _).alloc (Nat.le_refl _) _
  have hk1 := Blk.new W #[.int .i64 kind, .bool b, .bool neg, .string dg, .int .i64 ex, .int .u64 u, .int .i64 wd, .string s, v] 27
  have z2 := hk1.cell 2
  have z3 := hk1.cell 3
  have z4 := hk1.cell 4
  have hfl := fmtD_len hok
  have HF := Lib.hid (dec_Format neg dg ex hok _ (hG.below hb1).tab)
  obtain ⟨fs, hfs⟩ : ∃ fs : ByteArray, (⟨(fmtD neg dg.data.toList ex).toArray⟩ : ByteArray) = fs := ⟨_, rfl⟩
  have hfsl : fs.data.toList = fmtD neg dg.data.toList ex := by rw [← hfs]
  have hfz : fs.size ≤ 300 := by
    have : fs.data.toList.length = fs.size := by simp
    rw [hfsl] at this
    omega
  rw [hfs] at HF
  rw [← hfsl]
  have HWD := Lib.hid (fun (W2 : World) (hb : Below W.heap.size W W2) => (j_words1 B p W2.heap.size pr dp l fs (W2.alloc (.cells #[.string fs] 9)) (JP.step h (hb.alloc hb.size _)).is (by omega) (Blk.new _ _ _)).calls)
  have HI := Lib.hid h
  clear h hk1 hok hG hfl hfs hfsl
  go_enter Tryz.func103, Tryz.ntmps103
  go_wp2_with fail
  refine HF.out.mono ?_
  rintro e W2 ⟨rfl, hb⟩
  have hb2 := hb1.trans (hb.mono hb1.size)
  have H2 := Lib.hid (HWD.out W2 hb2)
  have hws := JP.step HI.out (hb2.alloc hb2.size (.cells #[.string fs] 9))
  clear hb hb1 HF HWD z2 z3 z4 hb2
  go_wp2_with fail
  refine H2.out.mono ?_
  rintro e W3 ⟨rfl, h3⟩
  have hw3 := hws.trans h3
  go_wp2_with fail
  go_end0
  exact ⟨rfl, hw3⟩

set_option maxHeartbeats 4000000 in
set_option maxRecDepth 100000 in
theorem jn_text (B p : Nat) (pr : Bool) (dp : Int) (l : List UInt8) (kind : Int) (b neg : Bool) (dg : ByteArray) (ex u wd : Int) (s : ByteArray) (v : Value) (W : World) (h : IsJ B p pr dp (Lib.byteCells l) W) (hlen : l.length ≤ 900000000) (hv : Lib.validD s.data.toList = true) (hs : s.size ≤ 1000000) {aT aF : Addr} (hG : SW W aT aF) :
    Calls Tryz.prog 104 #[.pointer (some ⟨p, 0, none⟩), .agg #[.int .i64 kind, .bool b, .bool neg, .string dg, .int .i64 ex, .int .u64 u, .int .i64 wd, .string s, v]] W fun e W' => e = .returned (.tuple #[]) ∧ JP B p pr dp (l ++ quoteL s.data.toList) W W' := by
  have hb1 : Below W.heap.size W (W.alloc (.cells #[.int .i64 kind, .bool b, .bool neg, .string dg, .int .i64 ex, .int .u64 u, .int .i64 wd, .string s, v] 27)) := (Below.refl _ _).alloc (Nat.le_refl _) _
  have hk1 := Blk.new W #[.int .i64 kind, .bool b, .bool neg, .string dg, .int .i64 ex, .int .u64 u, .int .i64 wd, .string s, v] 27
  have z7 := hk1.cell 7
  have HF := Lib.hid (utf_QuoteT_yes s _ (hG.below hb1).g.tabs (by omega) hv)
  have hql : (quoteL s.data.toList).length ≤ 6 * s.size + 2 := by
    have h1 := quoteL_len s.data.toList
    have h2 : s.data.toList.length = s.size := by simp
    omega
  obtain ⟨fs, hfs⟩ : ∃ fs : ByteArray, (⟨(quoteL s.data.toList).toArray⟩ : ByteArray) = fs := ⟨_, rfl⟩
  have hfsl : fs.data.toList = quoteL s.data.toList := by rw [← hfs]
  have hfz : fs.size ≤ 6000002 := by
    have : fs.data.toList.length = fs.size := by simp
    rw [hfsl] at this
    omega
  rw [hfs] at HF
  rw [← hfsl]
  have HWD := Lib.hid (fun (W2 : World) (hb : Below W.heap.size W W2) => (j_words1 B p W2.heap.size pr dp l fs (W2.alloc (.cells #[.string fs] 9)) (JP.step h (hb.alloc hb.size _)).is (by omega) (Blk.new _ _ _)).calls)
  have HI := Lib.hid h
  clear h hk1 hv hG hql hfs hfsl hs
  go_enter Tryz.func104, Tryz.ntmps104
  go_wp2_with fail
  refine HF.out.mono ?_
  rintro e W2 ⟨rfl, hb⟩
  have hb2 := hb1.trans (hb.mono hb1.size)
  have H2 := Lib.hid (HWD.out W2 hb2)
  have hws := JP.step HI.out (hb2.alloc hb2.size (.cells #[.string fs] 9))
  clear hb hb1 HF HWD z7 hb2
  go_wp2_with fail
  refine H2.out.mono ?_
  rintro e W3 ⟨rfl, h3⟩
  have hw3 := hws.trans h3
  go_wp2_with fail
  go_end0
  exact ⟨rfl, hw3⟩

set_option maxHeartbeats 4000000 in
set_option maxRecDepth 100000 in
theorem jn_array (B p : Nat) (pr : Bool) (dp : Int) (l : List UInt8) (kind : Int) (b neg : Bool) (dg : ByteArray) (ex u wd : Int) (s : ByteArray) (A : Option Addr) (n c : Nat) (tl : List UInt8) (W : World) (h : IsJ B p pr dp (Lib.byteCells l) W)
    (hlist : ∀ W2, JP B p pr dp l W W2 → Calls Tryz.prog 146 #[.pointer (some ⟨p, 0, none⟩), .slice A n c, .int .i64 1, .string ⟨#[91]⟩, .string ⟨#[93]⟩] W2 fun e W' => e = .returned (.tuple #[]) ∧ JP B p pr dp (l ++ tl) W2 W') :
    Calls Tryz.prog 105 #[.pointer (some ⟨p, 0, none⟩), .agg #[.int .i64 kind, .bool b, .bool neg, .string dg, .int .i64 ex, .int .u64 u, .int .i64 wd, .string s, .slice A n c]] W fun e W' => e = .returned (.tuple #[]) ∧ JP B p pr dp (l ++ tl) W W' := by
  have hb1 : Below W.heap.size W (W.alloc (.cells #[.int .i64 kind, .bool b, .bool neg, .string dg, .int .i64 ex, .int .u64 u, .int .i64 wd, .string s, .slice A n c] 27)) := (Below.refl _ _).alloc (Nat.le_refl _) _
  have hk1 := Blk.new W #[.int .i64 kind, .bool b, .bool neg, .string dg, .int .i64 ex, .int .u64 u, .int .i64 wd, .string s, .slice A n c] 27
  have z8 := hk1.cell 8
  have hws := JP.step h hb1
  have HA := Lib.hid (hlist _ hws)
  clear h hk1 hlist
  go_enter Tryz.func105, Tryz.ntmps105
  go_wp2_with fail
  refine HA.out.mono ?_
  rintro e W3 ⟨rfl, h3⟩
  have hw3 := hws.trans h3
  go_wp2_with fail
  go_end0
  exact ⟨rfl, hw3⟩

set_option maxHeartbeats 4000000 in
set_option maxRecDepth 100000 in
theorem jn_members (B p : Nat) (pr : Bool) (dp : Int) (l : List UInt8) (kind : Int) (b neg : Bool) (dg : ByteArray) (ex u wd : Int) (s : ByteArray) (A : Option Addr) (n c : Nat) (tl : List UInt8) (W : World) (h : IsJ B p pr dp (Lib.byteCells l) W)
    (hlist : ∀ W2, JP B p pr dp l W W2 → Calls Tryz.prog 146 #[.pointer (some ⟨p, 0, none⟩), .slice A n c, .int .i64 2, .string ⟨#[123]⟩, .string ⟨#[125]⟩] W2 fun e W' => e = .returned (.tuple #[]) ∧ JP B p pr dp (l ++ tl) W2 W') :
    Calls Tryz.prog 106 #[.pointer (some ⟨p, 0, none⟩), .agg #[.int .i64 kind, .bool b, .bool neg, .string dg, .int .i64 ex, .int .u64 u, .int .i64 wd, .string s, .slice A n c]] W fun e W' => e = .returned (.tuple #[]) ∧ JP B p pr dp (l ++ tl) W W' := by
  have hb1 : Below W.heap.size W (W.alloc (.cells #[.int .i64 kind, .bool b, .bool neg, .string dg, .int .i64 ex, .int .u64 u, .int .i64 wd, .string s, .slice A n c] 27)) := (Below.refl _ _).alloc (Nat.le_refl _) _
  have hk1 := Blk.new W #[.int .i64 kind, .bool b, .bool neg, .string dg, .int .i64 ex, .int .u64 u, .int .i64 wd, .string s, .slice A n c] 27
  have z8 := hk1.cell 8
  have hws := JP.step h hb1
  have HA := Lib.hid (hlist _ hws)
  clear h hk1 hlist
  go_enter Tryz.func106, Tryz.ntmps106
  go_wp2_with fail
  refine HA.out.mono ?_
  rintro e W3 ⟨rfl, h3⟩
  have hw3 := hws.trans h3
  go_wp2_with fail
  go_end0
  exact ⟨rfl, hw3⟩
end Go.Proofs.YtfckekaegjjmkaaGreatDoor
namespace Go.Proofs.YtfckekaegjjmkaaGreatDoor
open Go.RowKit Go.Shelf

/-- What a round keeps: the blocks of K, and all maps. -/
def KpB (K : Nat → Prop) (A B : World) : Prop := (∀ q, K q → B.heap[q]? = A.heap[q]?) ∧ KeepsWalks A B
theorem KpB.trans {K : Nat → Prop} {A B C : World} (h : KpB K A B) (k : KpB K B C) : KpB K A C := ⟨fun q hq => (k.1 q hq).trans (h.1 q hq), h.2.trans k.2⟩
theorem KpB.refl (K : Nat → Prop) (A : World) : KpB K A A := ⟨fun _ _ => rfl, KeepsWalks.refl _⟩
theorem KpB.below {K : Nat → Prop} {A B : World} (h : Below A.heap.size A B) (hK : ∀ q, K q → q < A.heap.size) : KpB K A B := ⟨fun q hq => h.block q (hK q hq), h.size, fun k _ hk _ => (h.block k (Array.getElem?_eq_some_iff.1 hk).1).trans hk⟩
theorem KpB.putObj {K : Nat → Prop} {W : World} {l n : Nat} {o : Obj} (o' : Obj) (hK : ∀ q, K q → q < n) (hl : n ≤ l) (h : W.heap[l]? = some o) (hw : o.isWalk = false) : KpB K W (W.putObj l o') :=
  ⟨fun q hq => World.putObj_heap_other (by have := hK q hq; omega), KeepsWalks.putObj o' h hw⟩
theorem keeps_below {n : Nat} {A B : World} (h : Below A.heap.size A B) : KeepsFrom n A B := ⟨h.size, fun k _ _ hk _ => (h.block k (Array.getElem?_eq_some_iff.1 hk).1).trans hk⟩
theorem isWalk_cells {o : Obj} (h : o.isCells = true) : o.isWalk = false := by
  cases o <;> first | rfl | cases h
theorem KpB.row {K : Nat → Prop} {A B : World} {g : Nat} (h : A.grownBy B (some g)) (hK : ∀ q, K q → q < A.heap.size ∧ q ≠ g) (hg : ∀ o, A.heap[g]? = some o → o.isCells = true) : KpB K A B :=
  ⟨fun q hq => h.block q (hK q hq).1 (fun e => (hK q hq).2 (by injection e)), h.size, fun k o hk ho => (h.block k (Array.getElem?_eq_some_iff.1 hk).1 (fun e => by
    cases e
    rw [isWalk_cells (hg o hk)] at ho
    cases ho)).trans hk⟩
/-- The blocks of K lie as they lay. -/
def KeptK (K : Nat → Prop) (A B : World) : Prop := ∀ q, K q → B.heap[q]? = A.heap[q]?
theorem KeptK.lt {K : Nat → Prop} {A B : World} (h : KeptK K A B) (hK : ∀ q, K q → q < A.heap.size) (q : Nat) (hq : K q) : q < B.heap.size := by
  have h1 := h q hq
  rw [Array.getElem?_eq_getElem (hK q hq)] at h1
  exact (Array.getElem?_eq_some_iff.1 h1).1
theorem KeptK.grown {K : Nat → Prop} {A B C : World} {r : Option Nat} (h : KeptK K A B) (hK : ∀ q, K q → q < A.heap.size) (hg : B.grownBy C r) (hr : ∀ g, r = some g → ¬ K g) : KeptK K A C :=
  fun q hq => (hg.block q (h.lt hK q hq) (fun e => hr q e.symm hq)).trans (h q hq)
end Go.Proofs.YtfckekaegjjmkaaGreatDoor
