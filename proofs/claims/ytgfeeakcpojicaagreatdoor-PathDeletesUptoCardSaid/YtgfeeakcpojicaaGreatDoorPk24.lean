/- The texts PathK, put together. -/
import Derived.Test.YtgfeeakcpojicaaGreatDoorPk23
/- path: Replace. -/
namespace Go.Proofs.YtgfeeakcpojicaaGreatDoor
open Go.RowKit Go.Shelf

theorem countL_set : ∀ (l : List Tr) (i : Nat) (h : i < l.length) (u : Tr), countL (l.set i u) + l[i].count = countL l + u.count
  | t :: l, 0, _, u => by
    show u.count + countL l + t.count = t.count + countL l + u.count
    omega
  | t :: l, i + 1, h, u => by
    have := countL_set l i (by simpa using h) u
    have hi : i < l.length := by simpa using h
    show t.count + countL (l.set i u) + l[i].count = t.count + countL l + u.count
    omega
theorem count_changed (x : Tr) : ∀ (p : List Stp) (t : Tr), (changedT (fun _ => x) p t).count ≤ t.count + x.count
  | [], t => by
    show x.count ≤ _
    omega
  | s :: p, t => by
    rw [changedT]
    cases h : atO t s with
    | none => simp only []; omega
    | some i =>
      have hil := atO_lt h
      simp only [List.getElem?_eq_getElem hil]
      have ih := count_changed x p t.kids[i]
      have h1 := countL_set t.kids i hil (changedT (fun _ => x) p t.kids[i])
      rw [Tr.count_eq, Tr.count_eq t]
      show 1 + countL (t.kids.set i _) ≤ _
      omega

set_option maxRecDepth 100000 in
theorem replace_1 (o o' : Own) (x x' : Value) (bx : Nat) (W : World) (hb : Blk W bx (cellsV o x) 38) (hx : x.oneCell' = true) :
    Calls Tryz.prog 39 #[nodeV o' x', .pointer (some ⟨bx, 0, none⟩)] W fun e W' => e = .returned (nodeV o x) ∧ Below W.heap.size W W' := by
  obtain ⟨kind, b, neg, dg, ex, u, wd, str⟩ := o
  obtain ⟨kind', b', neg', dg', ex', u', wd', str'⟩ := o'
  unfold nodeV
  unfold cellsV at hb
  simp only [] at hb ⊢
  obtain ⟨hb2, hk1, hk2⟩ := box2 W #[.int .i64 kind', .bool b', .bool neg', .string dg', .int .i64 ex', .int .u64 u', .int .i64 wd', .string str', x'] zeroCs 38 38
  unfold zeroCs at *
  have hb3 := hb.below hb2 hb.lt
  have hk3 := blk_row hk2 #[.int .i64 kind, .bool b, .bool neg, .string dg, .int .i64 ex, .int .u64 u, .int .i64 wd, .string str, x]
  have hb4 := hb2.grown (grown_row _ (W.heap.size + 1) #[.int .i64 kind, .bool b, .bool neg, .string dg, .int .i64 ex, .int .u64 u, .int .i64 wd, .string str, x]) hb2.size (fun q e => by cases e; omega)
  have HB := Lib.hid hb3
  have HK2 := Lib.hid hk2
  have HK3 := Lib.hid hk3
  have HB4 := Lib.hid hb4
  unfold Value.oneCell' at hx
  clear hb hb2 hk1 hk2 hk3 hb4 hb3
  go_enter Tryz.func39, Tryz.ntmps39
  go_wp2_with (first | (refine wpList_load_row rfl 38 (.tmp 1) rfl bx rfl 38 _ (0, 0) _ HB.out Tryz.underlying38 rfl (by kernel_rfl) ?_) | (refine wpList_store_row rfl 38 (.tmp 3) (.tmp 4) rfl (W.heap.size + 1) #[.int .i64 kind, .bool b, .bool neg, .string dg, .int .i64 ex, .int .u64 u, .int .i64 wd, .string str, x] rfl rfl 38 _ HK2.out (by kernel_rfl) rfl (by simp [Value.oneCell', hx]) ?_))
  refine bodyPost_ret (v := .agg #[.int .i64 kind, .bool b, .bool neg, .string dg, .int .i64 ex, .int .u64 u, .int .i64 wd, .string str, x]) (results_cell_row rfl _ _ (W.heap.size + 1) 38 _ (0, 0) _ rfl HK3.out Tryz.underlying38 rfl (by kernel_rfl)) rfl ?_
  exact ⟨rfl, HB4.out⟩

def replaceR (t : Tr) (p : List Stp) (x : Tr) : Option Tr := match findR t p with
  | some _ => some (changedT (fun _ => x) p t)
  | none => none
/-- What a change that may fail answers. -/
def ChangePost (o : Option Tr) (e : Ending) (w' : World) : Prop := match o with
  | some u => ∃ y D, e = .returned (.tuple #[nodeV u.own y, .int .i64 0]) ∧ ListAt w' w'.heap.size D u.kids y ∧ OwnOk u.own
  | none => e = .returned (.tuple #[zeroN, .int .i64 70])

theorem box3 (w : World) (cs cs' cs'' : Array Value) (t : TypeId) : Below w.heap.size w (((w.alloc (.cells cs t)).alloc (.cells cs' t)).alloc (.cells cs'' t)) ∧ Blk (((w.alloc (.cells cs t)).alloc (.cells cs' t)).alloc (.cells cs'' t)) w.heap.size cs t ∧ Blk (((w.alloc (.cells cs t)).alloc (.cells cs' t)).alloc (.cells cs'' t)) (w.heap.size + 1) cs' t ∧ Blk (((w.alloc (.cells cs t)).alloc (.cells cs' t)).alloc (.cells cs'' t)) (w.heap.size + 2) cs'' t := by
  obtain ⟨h1, h2, h3⟩ := box2 w cs cs' t t
  refine ⟨h1.alloc (by simp; omega) _, h2.alloc _, h3.alloc _, ?_⟩
  have := Blk.new ((w.alloc (.cells cs t)).alloc (.cells cs' t)) cs'' t
  rw [World.size_alloc, World.size_alloc] at this
  exact this

set_option maxHeartbeats 4000000 in
set_option maxRecDepth 100000 in
theorem path_Replace {aT aQ : Addr} (t x : Tr) (v vx : Value) (A : Option Addr) (n c : Nat) (p : List Stp) (w : World) (h : UW w aT aQ) (B d dx : Nat) (hl : ListAt w B d t.kids v) (hlx : ListAt w B dx x.kids vx) (ho : OwnOk t.own) (hox : OwnOk x.own) (hc : t.count ≤ 1000) (hcx : x.count ≤ 1000) (hn : n ≤ 9223372036854775807) (hp : StepsAt w B A n p) (hnc : n ≤ c) (hB : B ≤ w.heap.size) :
    Calls Tryz.prog 16 #[nodeV t.own v, .slice A n c, nodeV x.own vx] w fun e w' => ChangePost (replaceR t p x) e w' ∧ Below w.heap.size w w' := by
  obtain ⟨r, hr⟩ : ∃ r, replaceR t p x = r := ⟨_, rfl⟩
  rw [hr]
  unfold replaceR at hr
  have HR := Lib.hid hr
  clear hr
  obtain ⟨⟨kind, b, neg, dg, ex, u, wd, str⟩, ho'⟩ : ∃ o, t.own = o := ⟨_, rfl⟩
  obtain ⟨⟨kindx, bx, negx, dgx, exx, ux, wdx, strx⟩, hox'⟩ : ∃ o, x.own = o := ⟨_, rfl⟩
  obtain ⟨hb3, hk1, hk2, hk3⟩ := box3 w #[.int .i64 kind, .bool b, .bool neg, .string dg, .int .i64 ex, .int .u64 u, .int .i64 wd, .string str, v] #[.int .i64 kindx, .bool bx, .bool negx, .string dgx, .int .i64 exx, .int .u64 ux, .int .i64 wdx, .string strx, vx] #[.int .i64 0, .bool false, .bool false, .string ⟨#[]⟩, .int .i64 0, .int .u64 0, .int .i64 0, .string ⟨#[]⟩, .slice none 0 0] 38
  have HF := Lib.hid (fun (w' : World) (hw : Below w.heap.size w w') => path_Find t v A n c p w' (h.below hw) B d (hl.below hw hB) ho (by omega) hn (hp.below hw hB) (Nat.le_trans hB hw.size))
  have h1v : v.oneCell' = true := by
    obtain ⟨_, A3, c3, h3⟩ := hl.slice
    rw [h3]
    rfl
  have h1x : vx.oneCell' = true := by
    obtain ⟨_, A3, c3, h3⟩ := hlx.slice
    rw [h3]
    rfl
  have HX1 := Lib.hid h1x
  have HL := Lib.hid hl
  have HLX := Lib.hid hlx
  have HP := Lib.hid hp
  have HO := Lib.hid ho
  have HOX := Lib.hid hox
  unfold nodeV at HF ⊢
  rw [ho'] at HF ⊢
  rw [hox']
  simp only [] at HF ⊢
  have HK1 := Lib.hid hk1
  have HK2 := Lib.hid hk2
  have HK3 := Lib.hid hk3
  unfold Value.oneCell' at h1v h1x
  clear h hl hlx hp ho hox hk1 hk2 hk3
  go_enter Tryz.func16, Tryz.ntmps16
  go_wp2_with (refine wpList_load_row rfl 38 (.tmp 3) rfl w.heap.size rfl 38 _ (0, 0) _ HK1.out Tryz.underlying38 rfl (by kernel_rfl) ?_)
  refine (HF.out _ hb3).mono ?_
  rintro e w1 ⟨hpost, hb⟩
  cases hf : findR t p with
  | none =>
    have hr := HR.out
    rw [hf] at hpost hr
    obtain rfl : none = r := hr
    have hpost : e = .returned (.tuple #[zeroN, .bool false]) := hpost
    subst hpost
    unfold zeroN nodeV
    simp only []
    have hb4 := hb3.trans (hb.mono hb3.size)
    have hk3 := HK3.out.below hb HK3.out.lt
    have ha : Below w1.heap.size w1 (w1.alloc (.cells #[.int .i64 0, .bool false, .bool false, .string ⟨#[]⟩, .int .i64 0, .int .u64 0, .int .i64 0, .string ⟨#[]⟩, .slice none 0 0] 38)) := (Below.refl _ _).alloc (Nat.le_refl _) _
    have hk4 := hk3.below ha hk3.lt
    have hb5 := hb4.trans (ha.mono hb4.size)
    have hk5 := blk_row hk4 #[.int .i64 0, .bool false, .bool false, .string ⟨#[]⟩, .int .i64 0, .int .u64 0, .int .i64 0, .string ⟨#[]⟩, .slice none 0 0]
    have hb6 := hb5.grown (grown_row _ (w.heap.size + 2) #[.int .i64 0, .bool false, .bool false, .string ⟨#[]⟩, .int .i64 0, .int .u64 0, .int .i64 0, .string ⟨#[]⟩, .slice none 0 0]) hb5.size (fun q e => by cases e; omega)
    have HK4 := Lib.hid hk4
    have HK5 := Lib.hid hk5
    have HB6 := Lib.hid hb6
    clear hpost hb hb3 hk3 hk4 hk5 hb4 hb5 hb6 ha HF HK1 HK2 HK3 hf
    go_wp2_with (refine wpList_store_row rfl 38 (.tmp 6) (.tmp 18) rfl (w.heap.size + 2) #[.int .i64 0, .bool false, .bool false, .string ⟨#[]⟩, .int .i64 0, .int .u64 0, .int .i64 0, .string ⟨#[]⟩, .slice none 0 0] rfl rfl 38 _ HK4.out (by kernel_rfl) rfl (by simp [Value.oneCell']) ?_)
    refine bodyPost_ret (v := .tuple #[zeroN, .int .i64 70]) (results_row2 rfl _ _ (w.heap.size + 2) 38 _ (0, 0) _ _ rfl rfl HK5.out Tryz.underlying38 rfl (by kernel_rfl)) rfl ?_
    exact ⟨rfl, HB6.out⟩
  | some f =>
    have hr := HR.out
    rw [hf] at hpost hr
    obtain rfl : some (changedT (fun _ => x) p t) = r := hr
    obtain ⟨yf, rfl, hlf⟩ := hpost
    obtain ⟨_, Af, cf, rfl⟩ := hlf.slice
    obtain ⟨nf, hnf⟩ : ∃ nf, f.kids.length = nf := ⟨_, rfl⟩
    rw [hnf] at hlf ⊢
    have hff : ∃ u, findT t p = some u ∧ True := by
      unfold findR at hf
      split at hf
      · exact ⟨f, hf, trivial⟩
      · cases hf
    obtain ⟨⟨kindf, bf, negf, dgf, exf, uf, wdf, strf⟩, hof⟩ : ∃ o, f.own = o := ⟨_, rfl⟩
    unfold nodeV
    rw [hof]
    simp only []
    have hb4 := hb3.trans (hb.mono hb3.size)
    have hk1 := HK1.out.below hb HK1.out.lt
    have hk2 := HK2.out.below hb HK2.out.lt
    have hk3 := HK3.out.below hb HK3.out.lt
    have ha : Below w1.heap.size w1 (w1.alloc (.cells #[.int .i64 kindf, .bool bf, .bool negf, .string dgf, .int .i64 exf, .int .u64 uf, .int .i64 wdf, .string strf, .slice Af nf cf] 38)) := (Below.refl _ _).alloc (Nat.le_refl _) _
    have hb5 := hb4.trans (ha.mono hb4.size)
    have hk4 := hk1.below ha hk1.lt
    have hk5 := hk2.below ha hk2.lt
    have hk6 := hk3.below ha hk3.lt
    have hcount := count_changed x p t
    have HCH := Lib.hid (path_changed 39 #[.pointer (some ⟨w.heap.size + 1, 0, none⟩)] (fun _ => x) (fun _ => True) (w1.alloc (.cells #[.int .i64 kindf, .bool bf, .bool negf, .string dgf, .int .i64 exf, .int .u64 uf, .int .i64 wdf, .string strf, .slice Af nf cf] 38)) B
      (fun W hW u' x' d' _ _ _ hBW => by
        refine (replace_1 ⟨kindx, bx, negx, dgx, exx, ux, wdx, strx⟩ u'.own vx x' (w.heap.size + 1) W (hk5.below hW hk5.lt) HX1.out).mono ?_
        rintro e W' ⟨rfl, hbb⟩
        have hww := hb5.trans ((hW.trans (hbb.mono hW.size)).mono hb5.size)
        exact ⟨⟨vx, dx, by rw [hox'], (HLX.out.below hww hB).mono (fun q hq => ⟨.inl hq, by have := hww.size; omega⟩), HOX.out⟩, hbb⟩)
      (enters_of Tryz.func39 (by kernel_rfl) rfl) p t v A n c (w1.alloc (.cells #[.int .i64 kindf, .bool bf, .bool negf, .string dgf, .int .i64 exf, .int .u64 uf, .int .i64 wdf, .string strf, .slice Af nf cf] 38)) d (Below.refl _ _) (HL.out.below hb5 hB) HO.out (HP.out.below hb5 hB) hnc hff (Nat.le_trans hB hb5.size) (by omega))
    unfold nodeV at HCH
    rw [ho'] at HCH
    simp only [] at HCH
    have HK4 := Lib.hid hk4
    have HK6 := Lib.hid hk6
    have hz1 := hb4.size
    have hz2 := hk3.lt
    clear hb hb3 hk1 hk2 hk3 hk4 hk5 hk6 hb4 ha HF HK1 HK2 HK3 hf hlf hff
    go_wp2_with (refine wpList_load_row rfl 38 (.tmp 3) rfl w.heap.size rfl 38 _ (0, 0) _ HK4.out Tryz.underlying38 rfl (by kernel_rfl) ?_)
    refine HCH.out.mono ?_
    rintro e w2 ⟨⟨y, D, rfl, hly, hoy⟩, hb⟩
    have hb6 := hb5.trans (hb.mono hb5.size)
    have hk7 := HK6.out.below hb HK6.out.lt
    obtain ⟨t3, ht3⟩ : ∃ t3, changedT (fun _ => x) p t = t3 := ⟨_, rfl⟩
    rw [ht3] at hly hoy hcount ⊢
    have HCL := Lib.hid (tree_Clone D t3 y w2 _ hly hoy (fun q hq => hq.2) (by omega))
    obtain ⟨⟨kind3, b3, neg3, dg3, ex3, u3, wd3, s3⟩, ho3⟩ : ∃ o, t3.own = o := ⟨_, rfl⟩
    unfold nodeV at HCL ⊢
    rw [ho3] at HCL ⊢
    simp only [] at HCL ⊢
    clear hb hly hb5 HCH HK4 HK6
    go_wp2_with fail
    refine HCL.out.mono ?_
    rintro e w3 ⟨⟨y3, rfl, hly3⟩, hb⟩
    have hb7 := hb6.trans (hb.mono hb6.size)
    have hk8 := hk7.below hb hk7.lt
    obtain ⟨_, A5, c5, rfl⟩ := hly3.slice
    obtain ⟨n5, hn5⟩ : ∃ n5, t3.kids.length = n5 := ⟨_, rfl⟩
    rw [hn5] at hly3 ⊢
    have hb8 := hb7.grown (grown_row _ (w.heap.size + 2) #[.int .i64 kind3, .bool b3, .bool neg3, .string dg3, .int .i64 ex3, .int .u64 u3, .int .i64 wd3, .string s3, .slice A5 n5 c5]) hb7.size (fun q e => by cases e; omega)
    have hk9 := blk_row hk8 #[.int .i64 kind3, .bool b3, .bool neg3, .string dg3, .int .i64 ex3, .int .u64 u3, .int .i64 wd3, .string s3, .slice A5 n5 c5]
    have hly4 : ListAt (w3.setRow (w.heap.size + 2) #[.int .i64 kind3, .bool b3, .bool neg3, .string dg3, .int .i64 ex3, .int .u64 u3, .int .i64 wd3, .string s3, .slice A5 n5 c5]) (w3.setRow (w.heap.size + 2) #[.int .i64 kind3, .bool b3, .bool neg3, .string dg3, .int .i64 ex3, .int .u64 u3, .int .i64 wd3, .string s3, .slice A5 n5 c5]).heap.size D t3.kids (.slice A5 n5 c5) := by
      refine (hly3.keep (fun q hq => setRow_other _ _ _ _ ?_)).mono (fun q hq => by rw [setRow_size]; exact hq.2)
      have h1 := hq.1
      simp only [World.size_alloc] at h1
      have h2 := hk7.lt
      omega
    have HK8 := Lib.hid hk8
    have HK9 := Lib.hid hk9
    have HB8 := Lib.hid hb8
    have HL4 := Lib.hid hly4
    clear hb hly3 hly4 hk7 hk8 hk9 hb6 hb7 hb8 HCL
    go_wp2_with (refine wpList_store_row rfl 38 (.tmp 6) (.tmp 23) rfl (w.heap.size + 2) #[.int .i64 kind3, .bool b3, .bool neg3, .string dg3, .int .i64 ex3, .int .u64 u3, .int .i64 wd3, .string s3, .slice A5 n5 c5] rfl rfl 38 _ HK8.out (by kernel_rfl) rfl (by simp [Value.oneCell']) ?_)
    refine bodyPost_ret (v := .tuple #[.agg #[.int .i64 kind3, .bool b3, .bool neg3, .string dg3, .int .i64 ex3, .int .u64 u3, .int .i64 wd3, .string s3, .slice A5 n5 c5], .int .i64 0]) (results_row2 rfl _ _ (w.heap.size + 2) 38 _ (0, 0) _ _ rfl rfl HK9.out Tryz.underlying38 rfl (by kernel_rfl)) rfl ?_
    refine ⟨?_, HB8.out⟩
    rw [ht3]
    exact ⟨_, D, by rw [ho3]; rfl, HL4.out, hoy⟩
end Go.Proofs.YtgfeeakcpojicaaGreatDoor
