/- The texts CbE, CbF, put together. -/
import Derived.Test.YtffaefdnlgfdbaaGreatDoorPk37
import Derived.Test.YtffaefdnlgfdbaaGreatDoorPk35
import Derived.Test.YtffaefdnlgfdbaaGreatDoorPk36
/- cborw: the writers of nodes with lists. Printed by gen_cbe.py. -/
namespace Go.Proofs.YtffaefdnlgfdbaaGreatDoor
open Go.RowKit Go.Shelf

set_option maxHeartbeats 4000000 in
set_option maxRecDepth 100000 in
theorem wn_array (B p : Nat) (l tl : List UInt8) (kind : Int) (b neg : Bool) (dg : ByteArray) (ex u wd : Int) (s : ByteArray) (A : Option Addr) (n c : Nat) (W : World) (h : IsW B p (Lib.byteCells l) W) (hB : B ≤ W.heap.size) (hlen : l.length ≤ 900000000) (hn : n ≤ 1000000000000)
    (hall : ∀ W2, WP B p (l ++ makeL 4 (n)) W W2 → Calls Tryz.prog 25 #[.pointer (some ⟨p, 0, none⟩), .slice A n c] W2 fun e W' => e = .returned (.tuple #[]) ∧ WP B p (l ++ makeL 4 (n) ++ tl) W2 W') :
    Calls Tryz.prog 75 #[.pointer (some ⟨p, 0, none⟩), .agg #[.int .i64 kind, .bool b, .bool neg, .string dg, .int .i64 ex, .int .u64 u, .int .i64 wd, .string s, .slice A n c]] W fun e W' => e = .returned (.tuple #[]) ∧ WP B p (l ++ makeL 4 (n) ++ tl) W W' := by
  have hb1 : Below W.heap.size W (W.alloc (.cells #[.int .i64 kind, .bool b, .bool neg, .string dg, .int .i64 ex, .int .u64 u, .int .i64 wd, .string s, .slice A n c] 27)) := (Below.refl _ _).alloc (Nat.le_refl _) _
  have hk1 := Blk.new W #[.int .i64 kind, .bool b, .bool neg, .string dg, .int .i64 ex, .int .u64 u, .int .i64 wd, .string s, .slice A n c] 27
  have z5 := hk1.cell 5
  have z8 := hk1.cell 8
  have hw1 := WP.step h hb1 hB
  have hpb : p < W.heap.size := by
    rcases h with ⟨_, _, hb, _⟩ | ⟨_, _, hb, _⟩ <;> exact (Array.getElem?_eq_some_iff.1 hb).1
  have HHD := Lib.hid (w_head B p l 4 (n) (by decide) (by omega) _ hw1.is (Nat.le_trans hB hb1.size) (by omega))
  obtain ⟨mk, hmk⟩ : ∃ mk, makeL 4 (n) = mk := ⟨_, rfl⟩
  rw [hmk] at HHD ⊢
  simp only [hmk] at hall
  have HA := Lib.hid hall
  have HW1 := Lib.hid hw1
  have HK1 := Lib.hid hk1
  have y2 : IntKind.u64.wrap (n : Int) = (n : Int) := by rw [IntKind.wrap_u64]; omega
  clear h hmk hw1 hk1 hall
  go_enter Tryz.func75, Tryz.ntmps75
  go_wp2_with fail
  refine HHD.out.mono ?_
  rintro e W2 ⟨rfl, h2⟩
  have hw2 := HW1.out.trans h2
  have hk2 := h2.blk HK1.out (by omega) (by decide)
  have q8 := hk2.cell 8
  clear h2 HHD HW1 HK1 hb1 z5 z8
  go_wp2_with fail
  refine (HA.out W2 hw2).mono ?_
  rintro e W3 ⟨rfl, h3⟩
  have hw3 := hw2.trans h3
  clear h3 hw2 hk2 q8 HA
  go_wp2_with fail
  go_end0
  exact ⟨rfl, hw3⟩

set_option maxHeartbeats 4000000 in
set_option maxRecDepth 100000 in
theorem wn_pairs (B p : Nat) (l tl : List UInt8) (kind : Int) (b neg : Bool) (dg : ByteArray) (ex u wd : Int) (s : ByteArray) (A : Option Addr) (n c : Nat) (W : World) (h : IsW B p (Lib.byteCells l) W) (hB : B ≤ W.heap.size) (hlen : l.length ≤ 900000000) (hn : n ≤ 1000000000000)
    (hall : ∀ W2, WP B p (l ++ makeL 5 (n / 2)) W W2 → Calls Tryz.prog 25 #[.pointer (some ⟨p, 0, none⟩), .slice A n c] W2 fun e W' => e = .returned (.tuple #[]) ∧ WP B p (l ++ makeL 5 (n / 2) ++ tl) W2 W') :
    Calls Tryz.prog 76 #[.pointer (some ⟨p, 0, none⟩), .agg #[.int .i64 kind, .bool b, .bool neg, .string dg, .int .i64 ex, .int .u64 u, .int .i64 wd, .string s, .slice A n c]] W fun e W' => e = .returned (.tuple #[]) ∧ WP B p (l ++ makeL 5 (n / 2) ++ tl) W W' := by
  have hb1 : Below W.heap.size W (W.alloc (.cells #[.int .i64 kind, .bool b, .bool neg, .string dg, .int .i64 ex, .int .u64 u, .int .i64 wd, .string s, .slice A n c] 27)) := (Below.refl _ _).alloc (Nat.le_refl _) _
  have hk1 := Blk.new W #[.int .i64 kind, .bool b, .bool neg, .string dg, .int .i64 ex, .int .u64 u, .int .i64 wd, .string s, .slice A n c] 27
  have z5 := hk1.cell 5
  have z8 := hk1.cell 8
  have hw1 := WP.step h hb1 hB
  have hpb : p < W.heap.size := by
    rcases h with ⟨_, _, hb, _⟩ | ⟨_, _, hb, _⟩ <;> exact (Array.getElem?_eq_some_iff.1 hb).1
  have HHD := Lib.hid (w_head B p l 5 (n / 2) (by decide) (by omega) _ hw1.is (Nat.le_trans hB hb1.size) (by omega))
  obtain ⟨mk, hmk⟩ : ∃ mk, makeL 5 (n / 2) = mk := ⟨_, rfl⟩
  rw [hmk] at HHD ⊢
  simp only [hmk] at hall
  have HA := Lib.hid hall
  have HW1 := Lib.hid hw1
  have HK1 := Lib.hid hk1
  have y2 : IntKind.u64.wrap ((n / 2 : Nat) : Int) = ((n / 2 : Nat) : Int) := by rw [IntKind.wrap_u64]; omega
  have y3 : Int.tdiv (n : Int) 2 = ((n / 2 : Nat) : Int) := by rw [Int.tdiv_eq_ediv_of_nonneg (by omega)]; omega
  clear h hmk hw1 hk1 hall
  go_enter Tryz.func76, Tryz.ntmps76
  go_wp2_with fail
  refine HHD.out.mono ?_
  rintro e W2 ⟨rfl, h2⟩
  have hw2 := HW1.out.trans h2
  have hk2 := h2.blk HK1.out (by omega) (by decide)
  have q8 := hk2.cell 8
  clear h2 HHD HW1 HK1 hb1 z5 z8
  go_wp2_with fail
  refine (HA.out W2 hw2).mono ?_
  rintro e W3 ⟨rfl, h3⟩
  have hw3 := hw2.trans h3
  clear h3 hw2 hk2 q8 HA
  go_wp2_with fail
  go_end0
  exact ⟨rfl, hw3⟩

set_option maxHeartbeats 4000000 in
set_option maxRecDepth 100000 in
theorem wn_tag (B p : Nat) (l tl : List UInt8) (kind : Int) (b neg : Bool) (dg : ByteArray) (ex u wd : Int) (s : ByteArray) (A : Option Addr) (n c : Nat) (W : World) (h : IsW B p (Lib.byteCells l) W) (hB : B ≤ W.heap.size) (hlen : l.length ≤ 900000000) (un : Nat) (hu : u = un) (hun : un < 18446744073709551616)
    (hall : ∀ W2, WP B p (l ++ makeL 6 (un)) W W2 → Calls Tryz.prog 25 #[.pointer (some ⟨p, 0, none⟩), .slice A n c] W2 fun e W' => e = .returned (.tuple #[]) ∧ WP B p (l ++ makeL 6 (un) ++ tl) W2 W') :
    Calls Tryz.prog 77 #[.pointer (some ⟨p, 0, none⟩), .agg #[.int .i64 kind, .bool b, .bool neg, .string dg, .int .i64 ex, .int .u64 u, .int .i64 wd, .string s, .slice A n c]] W fun e W' => e = .returned (.tuple #[]) ∧ WP B p (l ++ makeL 6 (un) ++ tl) W W' := by
  have hb1 : Below W.heap.size W (W.alloc (.cells #[.int .i64 kind, .bool b, .bool neg, .string dg, .int .i64 ex, .int .u64 u, .int .i64 wd, .string s, .slice A n c] 27)) := (Below.refl _ _).alloc (Nat.le_refl _) _
  have hk1 := Blk.new W #[.int .i64 kind, .bool b, .bool neg, .string dg, .int .i64 ex, .int .u64 u, .int .i64 wd, .string s, .slice A n c] 27
  have z5 := hk1.cell 5
  have z8 := hk1.cell 8
  have hw1 := WP.step h hb1 hB
  have hpb : p < W.heap.size := by
    rcases h with ⟨_, _, hb, _⟩ | ⟨_, _, hb, _⟩ <;> exact (Array.getElem?_eq_some_iff.1 hb).1
  have HHD := Lib.hid (w_head B p l 6 (un) (by decide) (by omega) _ hw1.is (Nat.le_trans hB hb1.size) (by omega))
  obtain ⟨mk, hmk⟩ : ∃ mk, makeL 6 (un) = mk := ⟨_, rfl⟩
  rw [hmk] at HHD ⊢
  simp only [hmk] at hall
  have HA := Lib.hid hall
  have HW1 := Lib.hid hw1
  have HK1 := Lib.hid hk1
  subst hu
  clear h hmk hw1 hk1 hall
  go_enter Tryz.func77, Tryz.ntmps77
  go_wp2_with fail
  refine HHD.out.mono ?_
  rintro e W2 ⟨rfl, h2⟩
  have hw2 := HW1.out.trans h2
  have hk2 := h2.blk HK1.out (by omega) (by decide)
  have q8 := hk2.cell 8
  clear h2 HHD HW1 HK1 hb1 z5 z8
  go_wp2_with fail
  refine (HA.out W2 hw2).mono ?_
  rintro e W3 ⟨rfl, h3⟩
  have hw3 := hw2.trans h3
  clear h3 hw2 hk2 q8 HA
  go_wp2_with fail
  go_end0
  exact ⟨rfl, hw3⟩
end Go.Proofs.YtffaefdnlgfdbaaGreatDoor
/- cborw: a node written, by its kind; all writes a list. -/
namespace Go.Proofs.YtffaefdnlgfdbaaGreatDoor
open Go.RowKit Go.Shelf

/-- What `all` is to do with a list. -/
def AllC (l : List Tr) : Prop := ∀ (B0 B p d : Nat) (bs : List UInt8) (A : Option Addr) (n c : Nat) (w0 W : World) (aT aF : Addr), ListAt w0 B0 d l (.slice A n c) → B0 ≤ w0.heap.size → w0.heap.size ≤ B → Below w0.heap.size w0 W → IsW B p (Lib.byteCells bs) W → GW w0 aT aF → okCL l → bs.length + (cbL l).length ≤ 900000000 → l.length = n → n ≤ 1000000000000 →
    Calls Tryz.prog 25 #[.pointer (some ⟨p, 0, none⟩), .slice A n c] W fun e W' => e = .returned (.tuple #[]) ∧ WP B p (bs ++ cbL l) W W'

theorem okC_node {t : Tr} (h : okC t) : NodeC t.own t.kids ∧ okCL t.kids := by
  cases t
  rw [okC] at h
  exact h
theorem cb_leaf {t : Tr} (h : t.kids.length = 0) : cbT t = itemL (hdO t.own 0) ++ txO t.own := by
  have : t.kids = [] := List.length_eq_zero_iff.1 h
  rw [cbT_eq, this]
  show itemL (hdO t.own 0) ++ (txO t.own ++ []) = _
  rw [List.append_nil]
theorem txO_nil {o : Own} (h5 : o.kind ≠ 5) (h6 : o.kind ≠ 6) : txO o = [] := by
  unfold txO
  rw [if_neg (by omega)]

set_option maxHeartbeats 4000000 in
set_option maxRecDepth 100000 in
theorem w_node (t : Tr) (hok : okC t) (hkids : AllC t.kids) (B0 B p d : Nat) (bs : List UInt8) (A : Option Addr) (n c : Nat) (w0 W : World) (aT aF : Addr) (hl : ListAt w0 B0 d t.kids (.slice A n c)) (hB0 : B0 ≤ w0.heap.size) (hB : w0.heap.size ≤ B) (hb : Below w0.heap.size w0 W) (hI : IsW B p (Lib.byteCells bs) W) (hG : GW w0 aT aF) (hlen : bs.length + (cbT t).length ≤ 900000000) (hn : t.kids.length = n) (hn2 : n ≤ 1000000000000) :
    Calls Tryz.prog (wrF t.own.kind) #[.pointer (some ⟨p, 0, none⟩), nodeV t.own (.slice A n c)] W fun e W' => e = .returned (.tuple #[]) ∧ WP B p (bs ++ cbT t) W W' := by
  obtain ⟨hnode, hkok⟩ := okC_node hok
  have ho := hnode.ok
  have hBW := (isW_size hI).1
  have hle : bs.length ≤ 900000000 := by omega
  have hu := ho.u
  have hlist : ∀ {maj arg : Nat} (_ : cbT t = makeL maj arg ++ cbL t.kids) (W2 : World), WP B p (bs ++ makeL maj arg) W W2 → Calls Tryz.prog 25 #[.pointer (some ⟨p, 0, none⟩), .slice A n c] W2 fun e W' => e = .returned (.tuple #[]) ∧ WP B p (bs ++ makeL maj arg ++ cbL t.kids) W2 W' := by
    intro maj arg he W2 h2
    rw [he, List.length_append] at hlen
    exact hkids B0 B p d (bs ++ makeL maj arg) A n c w0 W2 aT aF hl hB0 hB (hb.trans (h2.below.mono hB)) h2.is hG hkok (by rw [List.length_append]; omega) hn hn2
  rcases hnode.shape with ⟨h, h0⟩ | ⟨h, h0⟩ | ⟨neg, m, h, hm, h0⟩ | ⟨h, hw, h0⟩ | ⟨h, hs, _, h0⟩ | ⟨h, hs, h0⟩ | ⟨h⟩ | ⟨h, _, _, _⟩ | ⟨h, _⟩ | ⟨h, _, h0⟩
  · have e : t.own.kind = 1 := by rw [h]
    have hc : cbT t = [246] := by
      rw [cb_leaf h0, hdO_1 _ e, txO_nil (by omega) (by omega)]
      decide
    rw [hc]
    have hf : wrF t.own.kind = 69 := by rw [e]; rfl
    rw [hf]
    exact wn_null B p bs _ _ _ _ _ _ _ _ _ W hI hBW hle
  · have e : t.own.kind = 2 := by rw [h]
    have hc : cbT t = [if t.own.b = true then 245 else 244] := by
      rw [cb_leaf h0, hdO_2 _ e, txO_nil (by omega) (by omega)]
      cases t.own.b <;> decide
    rw [hc]
    have hf : wrF t.own.kind = 70 := by rw [e]; rfl
    rw [hf]
    exact wn_truth B p bs _ _ _ _ _ _ _ _ _ W hI hBW hle
  · have e : t.own.kind = 3 := by rw [h]
    obtain ⟨hm1, hm2⟩ := toInt_lt hm
    have hc : cbT t = if neg = true then makeL 1 (m - 1) else makeL 0 m := by
      rw [cb_leaf h0, hdO_3 _ e, txO_nil (by omega) (by omega), hm, List.append_nil]
      cases neg with
      | true =>
        rw [if_pos rfl, makeL_item 1 (m - 1) (by omega)]
      | false =>
        rw [if_neg (by decide), makeL_item 0 m hm1]
    rw [hc]
    have hf : wrF t.own.kind = 71 := by rw [e]; rfl
    rw [hf]
    exact wn_num B p bs _ _ _ _ _ _ _ _ _ W hI hBW hle ho.dg neg m hm (hG.below hb)
  · have e : t.own.kind = 4 := by rw [h]
    have hf : wrF t.own.kind = 72 := by rw [e]; rfl
    rw [hf]
    obtain ⟨un, hun⟩ : ∃ un : Nat, t.own.u = un := ⟨t.own.u.toNat, by omega⟩
    have hunn : un < 18446744073709551616 := by omega
    have hc : cbT t = itemL (7, infoW t.own.wd, un) := by
      rw [cb_leaf h0, hdO_4 _ e, txO_nil (by omega) (by omega), List.append_nil, hun]
      rfl
    rw [hc]
    unfold nodeV
    rw [hun]
    rcases hw with ⟨hw, _⟩ | ⟨hw, _⟩ | hw
    · rw [hw]
      exact wn_float16 B p bs _ _ _ _ _ un _ _ W hI hBW hle hunn
    · rw [hw]
      exact wn_float32 B p bs _ _ _ _ _ un _ _ W hI hBW hle hunn
    · rw [hw]
      exact wn_float64 B p bs _ _ _ _ _ un _ _ W hI hBW hle hunn
  · have e : t.own.kind = 5 := by rw [h]
    have hc : cbT t = makeL 3 t.own.s.size ++ t.own.s.data.toList := by
      rw [cb_leaf h0, hdO_5 _ e, makeL_item 3 _ (by omega)]
      unfold txO
      rw [if_pos (.inl e)]
    rw [hc]
    have hf : wrF t.own.kind = 73 := by rw [e]; rfl
    rw [hf]
    exact wn_text B p bs _ _ _ _ _ _ _ _ _ W hI hBW hle (by omega)
  · have e : t.own.kind = 6 := by rw [h]
    have hc : cbT t = makeL 2 t.own.s.size ++ t.own.s.data.toList := by
      rw [cb_leaf h0, hdO_6 _ e, makeL_item 2 _ (by omega)]
      unfold txO
      rw [if_pos (.inr e)]
    rw [hc]
    have hf : wrF t.own.kind = 74 := by rw [e]; rfl
    rw [hf]
    exact wn_raw B p bs _ _ _ _ _ _ _ _ _ W hI hBW hle (by omega)
  · have e : t.own.kind = 7 := by rw [h]
    have hc : cbT t = makeL 4 n ++ cbL t.kids := by
      rw [cbT_eq, hdO_7 _ e, makeL_item 4 _ (by omega), hn, txO_nil (by omega) (by omega)]
      rfl
    rw [hc, ← List.append_assoc]
    have hf : wrF t.own.kind = 75 := by rw [e]; rfl
    rw [hf]
    exact wn_array B p bs _ _ _ _ _ _ _ _ _ A n c W hI hBW hle hn2 (hlist hc)
  · have e : t.own.kind = 8 := by rw [h]
    have hc : cbT t = makeL 5 (n / 2) ++ cbL t.kids := by
      rw [cbT_eq, hdO_8 _ e, makeL_item 5 _ (by omega), hn, txO_nil (by omega) (by omega)]
      rfl
    rw [hc, ← List.append_assoc]
    have hf : wrF t.own.kind = 76 := by rw [e]; rfl
    rw [hf]
    exact wn_pairs B p bs _ _ _ _ _ _ _ _ _ A n c W hI hBW hle hn2 (hlist hc)
  · have e : t.own.kind = 9 := by rw [h]
    obtain ⟨un, hun⟩ : ∃ un : Nat, t.own.u = un := ⟨t.own.u.toNat, by omega⟩
    have hunn : un < 18446744073709551616 := by omega
    have hc : cbT t = makeL 6 un ++ cbL t.kids := by
      rw [cbT_eq, hdO_9 _ e, makeL_item 6 _ hunn, hun, txO_nil (by omega) (by omega)]
      rfl
    rw [hc, ← List.append_assoc]
    have hf : wrF t.own.kind = 77 := by rw [e]; rfl
    rw [hf]
    exact wn_tag B p bs _ _ _ _ _ _ _ _ _ A n c W hI hBW hle un hun hunn (hlist hc)
  · have e : t.own.kind = 10 := by rw [h]
    obtain ⟨un, hun⟩ : ∃ un : Nat, t.own.u = un := ⟨t.own.u.toNat, by omega⟩
    have hunn : un < 18446744073709551616 := by omega
    have hc : cbT t = makeL 7 un := by
      rw [cb_leaf h0, hdO_10 _ e, makeL_item 7 _ hunn, hun, txO_nil (by omega) (by omega), List.append_nil]
      rfl
    rw [hc]
    have hf : wrF t.own.kind = 78 := by rw [e]; rfl
    rw [hf]
    exact wn_simple B p bs _ _ _ _ _ _ _ _ _ W hI hBW hle un hun hunn
end Go.Proofs.YtffaefdnlgfdbaaGreatDoor
