/- The texts CsH, put together. -/
import Derived.Test.YtflkmhgbinlfiaaGreatDoorPn44
import Derived.Test.YtflkmhgbinlfiaaGreatDoorPn45
import Derived.Test.YtflkmhgbinlfiaaGreatDoorPn03
import Derived.Test.YtflkmhgbinlfiaaGreatDoorPn25
namespace Go.Proofs.YtflkmhgbinlfiaaGreatDoor
open Go.RowKit Go.Shelf
attribute [local go_sem] Oper.semAt_some

/-- What an item tells, and a tag ahead of it. -/
theorem tag_facts (u : Nat) (hu : u < 18446744073709551616) (s a : ByteArray) (ha : a = ⟨(makeL 6 u).toArray⟩) :
    (∀ t r, itemC s = .good t r → itemC (a ++ s) = .good (tagT u t) r ∨ (itemC (a ++ s) = .bad 60 ∧ 14 < t.depth)) ∧ (∀ e, itemC s = .bad e → ∃ e', itemC (a ++ s) = .bad e') := by
  have hF : s.data.toList.length < (a ++ s).size + 1 := by rw [data_len, ByteArray.size_append]; omega
  have h0 : itemC (a ++ s) = bindP (itemP ((a ++ s).size + 1) 15) (fun t => pureP (tagT u t)) s.data.toList := by
    unfold itemC
    rw [cat_list]
    rw [show a.data.toList = makeL 6 u by rw [ha]]
    exact tag_item _ 15 u hu _
  have h1 : itemC s = itemP ((a ++ s).size + 1) 16 s.data.toList := by
    unfold itemC
    exact item_fuel 16 _ _ _ (by rw [data_len]; omega) hF
  rw [h0, h1]
  generalize (a ++ s).size + 1 = N
  generalize s.data.toList = l
  cases hp : itemP N 15 l with
  | good t r =>
    have h2 := item_rel N 15 16 l t r hp
    have h3 := item_rel N 15 15 l t r hp
    rw [hp] at h3
    have hd : t.depth ≤ 15 := by
      apply Decidable.byContradiction
      intro h
      rw [if_neg h] at h3
      cases h3
    rw [if_pos (by omega)] at h2
    rw [h2, bindP_of hp]
    refine ⟨fun t' r' h => ?_, fun e h => by cases h⟩
    injection h with e1 e2
    subst e1 e2
    exact .inl rfl
  | bad e =>
    rw [bindP_bad hp]
    refine ⟨fun t r h => ?_, fun e' _ => ⟨e, rfl⟩⟩
    have h2 := item_rel N 16 15 l t r h
    rw [hp] at h2
    by_cases hd : t.depth ≤ 15
    · rw [if_pos hd] at h2
      cases h2
    · rw [if_neg hd] at h2
      injection h2 with h2
      subst h2
      exact .inr ⟨rfl, by omega⟩
theorem make_small (maj u : Nat) (hu : u < 18446744073709551616) : (makeL maj u).length ≤ 9 := by
  have h := leastOf_cases u (by omega)
  rw [makeL_length]
  unfold leastN
  simp only []
  omega

set_option maxHeartbeats 8000000 in
set_option maxRecDepth 100000 in
theorem tags_walk {aT aF : Addr} (u : Nat) (hu : u < 18446744073709551616) (s0 : ByteArray) (hs0 : s0.size ≤ 9223372036854775807) (w : World) (h : RW w aT aF) :
    Calls Tryz.prog 7 #[.int .u64 u, .string s0] w fun e w' => e = .returned (.bool true) ∧ Below w.heap.size w w' := by
  have H1 := Lib.hid (cr_shown w h)
  obtain ⟨ks, hks⟩ : ∃ k, min s0.size 900 = k := ⟨_, rfl⟩
  have y0 : min (s0.size : Int) 900 = (ks : Int) := by omega
  have y2 : ks ≤ s0.size := by omega
  have hsz := ext_size s0 ks y2
  obtain ⟨s, hs⟩ : ∃ s, s0.extract 0 ks = s := ⟨_, rfl⟩
  rw [hs] at hsz
  have hs9 : s.size ≤ 900 := by omega
  have HS := Lib.hid hs
  have H2 := Lib.hid (fun (x : ByteArray) (hx : x.size ≤ 1000000000) W (hb : Below w.heap.size w W) => cr_Item x hx W (h.below hb).tab (h.below hb).ty)
  have HMK := Lib.hid (fun W => (show Calls Tryz.prog 16 #[.int .i64 6, .int .u64 u] W fun e w' => e = .returned (.tuple #[.string ⟨(makeL 6 u).toArray⟩, .int .i64 0]) ∧ Below W.heap.size W w' from head_Make 6 u (by omega) hu W))
  obtain ⟨a, haE⟩ : ∃ a : ByteArray, ⟨(makeL 6 u).toArray⟩ = a := ⟨_, rfl⟩
  obtain ⟨hgood, hbad⟩ := tag_facts u hu s a haE.symm
  have haz : a.size ≤ 9 := by rw [← haE]; exact make_small 6 u hu
  rw [haE] at HMK
  have hcz : (a ++ s).size ≤ 1000000000 := by rw [ByteArray.size_append]; omega
  have HCZ := Lib.hid hcz
  clear h hs hks hsz hs0 hu haE hcz
  go_enter Tryz.func7, Tryz.ntmps7
  go_wp2_with fail
  refine H1.out.mono ?_
  rintro x w1 ⟨rfl, hb1⟩
  go_wp2_with fail
  rw [HS.out]
  have HB1 := Lib.hid hb1
  have HI1 := H2.out s (by omega) w1 hb1
  have HI2 := fun W (hb : Below w.heap.size w W) => H2.out (a ++ s) HCZ.out W hb
  cases hres : itemC s with
  | bad e =>
    rw [hres] at HI1
    obtain ⟨e', hbe⟩ := hbad e hres
    simp only [hbe] at HI2
    have HI1 : Calls Tryz.prog 14 #[.string s] w1 fun x w' => Below w1.heap.size w1 w' ∧ x = .returned (.tuple #[zeroN, .string s, .int .i64 e]) ∧ e ≠ 0 := HI1
    have HI2 : Hid (∀ W, Below w.heap.size w W → Calls Tryz.prog 14 #[.string (a ++ s)] W fun x w' => Below W.heap.size W w' ∧ x = .returned (.tuple #[zeroN, .string (a ++ s), .int .i64 e']) ∧ e' ≠ 0) := Lib.hid HI2
    clear hres H1 H2 y0 y2 hgood hbad
    refine HI1.mono ?_
    rintro x w2 ⟨hb2, rfl, he⟩
    have y4 : (e != 0) = true := by rw [bne_iff_ne]; exact he
    have hb3 := hb1.trans (hb2.mono hb1.size)
    have hb4 := hb3.alloc hb3.size (.cells #[.int .i64 0, .bool false, .bool false, .string ⟨#[]⟩, .int .i64 0, .int .u64 0, .int .i64 0, .string ⟨#[]⟩, .slice none 0 0] 28)
    rw [zeroN_eq] at HI2 ⊢
    clear HI1 he hb2 hbe
    go_wp2_with fail
    refine (HMK.out _).mono ?_
    rintro x w4 ⟨rfl, hb5⟩
    have hb6 := hb4.trans (hb5.mono hb4.size)
    go_wp2_with fail
    refine (HI2.out _ hb6).mono ?_
    rintro x w5 ⟨hb7, rfl, he⟩
    have y5 : (e' != 0) = true := by rw [bne_iff_ne]; exact he
    have hb8 := hb6.trans (hb7.mono hb6.size)
    have hb9 := hb8.alloc hb8.size (.cells #[.int .i64 0, .bool false, .bool false, .string ⟨#[]⟩, .int .i64 0, .int .u64 0, .int .i64 0, .string ⟨#[]⟩, .slice none 0 0] 28)
    clear hb5 hb7 he
    go_wp2_with fail
    go_ret
    exact ⟨rfl, hb9⟩
  | good t r =>
    have hcnt := item_count _ 16 _ _ _ (show itemP (s.size + 1) 16 s.data.toList = .good t r from hres)
    rw [data_len] at hcnt
    rw [hres] at HI1
    have HI1 : Hid (Calls Tryz.prog 14 #[.string s] w1 fun x w' => Below w1.heap.size w1 w' ∧ (∃ A n c, x = .returned (.tuple #[nodeV t.own (.slice A n c), .string (bs r), .int .i64 0]) ∧ LAt w' (fun q => w1.heap.size ≤ q ∧ q < w'.heap.size) 16 t.kids (.slice A n c)) ∧ OwnOk t.own ∧ r.length + 1 ≤ s.size) := Lib.hid HI1
    obtain ⟨R, hR⟩ : ∃ R, bs r = R := ⟨_, rfl⟩
    rw [hR] at HI1
    have hct : t.count ≤ 1000 := by omega
    rcases hgood t r hres with hg | ⟨hg, hdp⟩
    · simp only [hg] at HI2
      have HI2 : Hid (∀ W, Below w.heap.size w W → Calls Tryz.prog 14 #[.string (a ++ s)] W fun x w' => Below W.heap.size W w' ∧ (∃ A n c, x = .returned (.tuple #[.agg #[.int .i64 9, .bool false, .bool false, .string ⟨#[]⟩, .int .i64 0, .int .u64 u, .int .i64 0, .string ⟨#[]⟩, .slice A n c], .string (bs r), .int .i64 0]) ∧ LAt w' (fun q => W.heap.size ≤ q ∧ q < w'.heap.size) 16 [t] (.slice A n c)) ∧ OwnOk (tagT u t).own ∧ r.length + 1 ≤ (a ++ s).size) := Lib.hid HI2
      rw [hR] at HI2
      have HSAME := Lib.hid (fun W B d x x' (hl : ListAt W B d t.kids x) (hl' : ListAt W B 16 t.kids x') (hB : B ≤ W.heap.size) => ref_SameT d t t x x' W B 16 hl hl' hB)
      rw [sameT_refl] at HSAME
      clear H1 H2 hres hgood hbad hR hg hcnt hct hb1 y0 y2
      refine HI1.out.mono ?_
      rintro x w2 ⟨hb2, ⟨A1, n1, c1, rfl, hl1⟩, ho1, _⟩
      have hb3 := HB1.out.trans (hb2.mono HB1.out.size)
      obtain ⟨⟨kind1, b1, neg1, dg1, ex1, u1, wd1, s1⟩, hoE⟩ : ∃ o, t.own = o := ⟨_, rfl⟩
      rw [hoE] at HSAME ⊢
      unfold nodeV at HSAME ⊢
      simp only [] at HSAME ⊢
      have hk3 := Blk.new w2 #[.int .i64 kind1, .bool b1, .bool neg1, .string dg1, .int .i64 ex1, .int .u64 u1, .int .i64 wd1, .string s1, .slice A1 n1 c1] 28
      have hw3 : Below w2.heap.size w2 (w2.alloc (.cells #[.int .i64 kind1, .bool b1, .bool neg1, .string dg1, .int .i64 ex1, .int .u64 u1, .int .i64 wd1, .string s1, .slice A1 n1 c1] 28)) := (Below.refl _ w2).alloc (Nat.le_refl _) _
      have hb4 := hb3.alloc hb3.size (.cells #[.int .i64 kind1, .bool b1, .bool neg1, .string dg1, .int .i64 ex1, .int .u64 u1, .int .i64 wd1, .string s1, .slice A1 n1 c1] 28)
      clear HI1 ho1 hb2
      go_wp2_with fail
      refine (HMK.out _).mono ?_
      rintro x w4 ⟨rfl, hb5⟩
      have hk4 := hk3.below hb5 hk3.lt
      have hw4 := hw3.trans (hb5.mono hw3.size)
      have hb6 := hb4.trans (hb5.mono hb4.size)
      clear hk3 hb5 hw3 HMK
      go_wp2_with fail
      refine (HI2.out _ hb6).mono ?_
      rintro x w5 ⟨hb7, ⟨A2, n2, c2, rfl, hl2⟩, _, _⟩
      have hn2 : n2 = 1 := hl2.len
      subst hn2
      obtain ⟨d2, ad, y2, hd2, rfl, hS2, _, hna, hkk⟩ := hl2.at_ (k := 0) (by simp)
      simp only [List.getElem_cons_zero] at hna hkk
      rw [hoE] at hna
      have hk6 := (hk4.below hb7 hk4.lt).alloc (.cells #[.int .i64 9, .bool false, .bool false, .string ⟨#[]⟩, .int .i64 0, .int .u64 u, .int .i64 0, .string ⟨#[]⟩, .slice (some ad) 1 c2] 28)
      have hm6 := Blk.new w5 #[.int .i64 9, .bool false, .bool false, .string ⟨#[]⟩, .int .i64 0, .int .u64 u, .int .i64 0, .string ⟨#[]⟩, .slice (some ad) 1 c2] 28
      have hw5 := hw4.trans (hb7.mono hw4.size)
      have hw6 := hw5.alloc hw5.size (.cells #[.int .i64 9, .bool false, .bool false, .string ⟨#[]⟩, .int .i64 0, .int .u64 u, .int .i64 0, .string ⟨#[]⟩, .slice (some ad) 1 c2] 28)
      have hb8 := hb6.trans (hb7.mono hb6.size)
      have hb9 := hb8.alloc hb8.size (.cells #[.int .i64 9, .bool false, .bool false, .string ⟨#[]⟩, .int .i64 0, .int .u64 u, .int .i64 0, .string ⟨#[]⟩, .slice (some ad) 1 c2] 28)
      have hz5 := hw5.size
      obtain ⟨w6, hw6E⟩ : ∃ w6, w5.alloc (.cells #[.int .i64 9, .bool false, .bool false, .string ⟨#[]⟩, .int .i64 0, .int .u64 u, .int .i64 0, .string ⟨#[]⟩, .slice (some ad) 1 c2] 28) = w6 := ⟨_, rfl⟩
      have hz6 : w6.heap.size = w5.heap.size + 1 := by rw [← hw6E]; simp
      have h56 : ∀ q, q < w5.heap.size → w6.heap[q]? = w5.heap[q]? := fun q hq => by rw [← hw6E]; exact Below.heap_alloc w5 _ q hq
      rw [hw6E] at hk6 hm6 hw6 hb9
      have hla : ListAt w6 w6.heap.size 16 t.kids (.slice A1 n1 c1) := (hl1.mono (S' := fun q => q < w2.heap.size) (fun q hq => hq.2)).below hw6 (Nat.le_refl _) |>.more (by omega)
      have hlb : ListAt w6 w6.heap.size d2 t.kids y2 := (hkk.keep (fun q hq => h56 q hq.2)).mono (fun q hq => by omega)
      have hS2 : ad.block < w5.heap.size := hS2.2
      obtain ⟨ae, yae⟩ : ∃ ae, ad.add (0 * 9) = ae := ⟨_, rfl⟩
      have hbe : ae.block = ad.block := by rw [← yae, add_block]
      rw [yae] at hna
      have yad : ad.add 0 = ae := yae
      have HE6 := Lib.hid (fun W (hW : Below w6.heap.size w6 W) => (show NodeAt W ae ⟨kind1, b1, neg1, dg1, ex1, u1, wd1, s1⟩ y2 from by
        have e : W.heap[ae.block]? = w5.heap[ae.block]? := (hW.block _ (by omega)).trans (h56 _ (by omega))
        exact ⟨(cell_keep e).trans hna.c0, (cell_keep (a := ⟨ae.block, _, none⟩) e).trans hna.c1, (cell_keep (a := ⟨ae.block, _, none⟩) e).trans hna.c2, (cell_keep (a := ⟨ae.block, _, none⟩) e).trans hna.c3, (cell_keep (a := ⟨ae.block, _, none⟩) e).trans hna.c4, (cell_keep (a := ⟨ae.block, _, none⟩) e).trans hna.c5, (cell_keep (a := ⟨ae.block, _, none⟩) e).trans hna.c6, (cell_keep (a := ⟨ae.block, _, none⟩) e).trans hna.c7, (cell_keep (a := ⟨ae.block, _, none⟩) e).trans hna.c8⟩))
      have HSM := Lib.hid (fun W (hW : Below w6.heap.size w6 W) => HSAME.out W w6.heap.size d2 _ _ (hlb.below hW (Nat.le_refl _)) (hla.below hW (Nat.le_refl _)) hW.size)
      have HB6 := Lib.hid hb9
      have HM6 := Lib.hid hm6
      have HK6 := Lib.hid hk6
      have HW6 := Lib.hid hw6E
      clear hl1 hl2 hla hlb HSAME HI2 hk4 hb7 hk6 hm6 hw6E hna hkk hb9 hS2 hbe h56 hz6 hz5 hd2 hoE hw4 hw5 hw6 hb8 hb6 hb4 hb3 yae
      go_wp2_with fail
      rw [HW6.out]
      refine wp_region_tail (R := fun W W' => Below W.heap.size W W') 39 (by kernel_rfl) (by kernel_rfl) (fun _ => Below.refl _ _) (by kernel_rfl) (by kernel_rfl) (fun W => Below w6.heap.size w6 W)
        [fun v _ => v = .bool true, fun v _ => v = .bool true, fun v _ => v = .int .i64 0, fun v _ => v = .bool true, fun v _ => v = .bool true, fun v _ => v = .bool true, fun v _ => v = .int .i64 0, fun v _ => v = .bool true, fun v _ => v = .bool true, fun v _ => v = .bool true, fun v _ => v = .string R, fun v _ => v = .string R, fun v _ => v = .bool true, fun v _ => v = .bool true, fun v _ => v = .bool true, fun v _ => v = .pointer (some ⟨w5.heap.size, 0, none⟩), fun v _ => v = .int .i64 9, fun v _ => v = .bool true, fun v _ => v = .bool true, fun v _ => v = .bool true, fun v _ => v = .pointer (some ⟨w5.heap.size, 5, none⟩), fun v _ => v = .int .u64 u, fun v _ => v = .int .u64 u, fun v _ => v = .bool true, fun v _ => v = .bool true, fun v _ => v = .bool true, fun v _ => v = .pointer (some ⟨w5.heap.size, 8, none⟩), fun v _ => v = .slice (some ad) 1 c2, fun v _ => v = .int .i64 1, fun v _ => v = .bool true, fun v _ => v = .bool true, fun v _ => v = .bool true, fun v _ => v = .pointer (some ⟨w5.heap.size, 8, none⟩), fun v _ => v = .slice (some ad) 1 c2, fun v _ => v = .pointer (some ae), fun v _ => v = .agg #[.int .i64 kind1, .bool b1, .bool neg1, .string dg1, .int .i64 ex1, .int .u64 u1, .int .i64 wd1, .string s1, y2], fun v _ => v = .agg #[.int .i64 kind1, .bool b1, .bool neg1, .string dg1, .int .i64 ex1, .int .u64 u1, .int .i64 wd1, .string s1, .slice A1 n1 c1], fun v _ => v = .bool true, fun v _ => v = .bool true] ?_ ?_ ?_ ?_ ?_
      case refine_1 => exact (Below.refl _ _).drew
      case refine_2 => exact fun W W' he hr => he.trans (hr.mono he.size)
      case refine_3 =>
        intro q hq v W W' _ hv hr
        simp only [List.mem_cons, List.not_mem_nil, or_false] at hq
        rcases hq with rfl | rfl | rfl | rfl | rfl | rfl | rfl | rfl | rfl | rfl | rfl | rfl | rfl | rfl | rfl | rfl | rfl | rfl | rfl | rfl | rfl | rfl | rfl | rfl | rfl | rfl | rfl | rfl | rfl | rfl | rfl | rfl | rfl | rfl | rfl | rfl | rfl | rfl | rfl <;> exact hv
      case refine_4 =>
        refine flow_cons (flow_op rfl rfl (by kernel_rfl) (by kernel_rfl) ?_) ?_
        · intro env W hE hn ρ hρ hc hf hg K hK
          have r5 : ρ (.tmp 5) = .bool true := by rw [hρ]; kernel_rfl
          clear hρ hn hg
          simp [opLands, go_sem, r5]
          exact hK _ _ rfl (Below.refl _ _)
        refine flow_cons (flow_op rfl rfl (by kernel_rfl) (by kernel_rfl) ?_) ?_
        · intro env W hE hn ρ hρ hc hf hg K hK
          have r54 := (show ρ (.tmp 54) = env 0 by rw [hρ]; kernel_rfl).trans (hn 0 (by kernel_rfl))
          clear hρ hn hg
          simp [opLands, go_sem, r54]
          exact hK _ _ rfl (Below.refl _ _)
        refine flow_cons (flow_opY 1 true 55 rfl rfl rfl (by kernel_rfl) (by kernel_rfl) ?_ ?_) ?_
        · intro env W hE hn ρ hρ
          exact (show ρ (.tmp 55) = env 1 by rw [hρ]; kernel_rfl).trans (hn 1 (by kernel_rfl))
        · intro env W hE hn ρ hρ hc hf hg K hK
          have r10 : ρ (.tmp 10) = .int .i64 0 := by rw [hρ]; kernel_rfl
          clear hρ hn hg
          simp [opLands, go_sem, r10]
          exact hK _ _ rfl (Below.refl _ _)
        refine flow_cons (flow_opY 1 true 55 rfl rfl rfl (by kernel_rfl) (by kernel_rfl) ?_ ?_) ?_
        · intro env W hE hn ρ hρ
          exact (show ρ (.tmp 55) = env 1 by rw [hρ]; kernel_rfl).trans (hn 1 (by kernel_rfl))
        · intro env W hE hn ρ hρ hc hf hg K hK
          have r56 := (show ρ (.tmp 56) = env 2 by rw [hρ]; kernel_rfl).trans (hn 2 (by kernel_rfl))
          clear hρ hn hg
          simp [opLands, go_sem, hc, r56]
          exact hK _ _ rfl (Below.refl _ _)
        refine flow_cons (flow_op rfl rfl (by kernel_rfl) (by kernel_rfl) ?_) ?_
        · intro env W hE hn ρ hρ hc hf hg K hK
          have r55 := (show ρ (.tmp 55) = env 1 by rw [hρ]; kernel_rfl).trans (hn 1 (by kernel_rfl))
          have r57 := (show ρ (.tmp 57) = env 3 by rw [hρ]; kernel_rfl).trans (hn 3 (by kernel_rfl))
          clear hρ hn hg
          simp [opLands, go_sem, hc, r55, r57]
          exact hK _ _ rfl (Below.refl _ _)
        refine flow_cons (flow_op rfl rfl (by kernel_rfl) (by kernel_rfl) ?_) ?_
        · intro env W hE hn ρ hρ hc hf hg K hK
          have r58 := (show ρ (.tmp 58) = env 4 by rw [hρ]; kernel_rfl).trans (hn 4 (by kernel_rfl))
          clear hρ hn hg
          simp [opLands, go_sem, r58]
          exact hK _ _ rfl (Below.refl _ _)
        refine flow_cons (flow_opY 5 true 59 rfl rfl rfl (by kernel_rfl) (by kernel_rfl) ?_ ?_) ?_
        · intro env W hE hn ρ hρ
          exact (show ρ (.tmp 59) = env 5 by rw [hρ]; kernel_rfl).trans (hn 5 (by kernel_rfl))
        · intro env W hE hn ρ hρ hc hf hg K hK
          have r13 : ρ (.tmp 13) = .int .i64 0 := by rw [hρ]; kernel_rfl
          clear hρ hn hg
          simp [opLands, go_sem, r13]
          exact hK _ _ rfl (Below.refl _ _)
        refine flow_cons (flow_opY 5 true 59 rfl rfl rfl (by kernel_rfl) (by kernel_rfl) ?_ ?_) ?_
        · intro env W hE hn ρ hρ
          exact (show ρ (.tmp 59) = env 5 by rw [hρ]; kernel_rfl).trans (hn 5 (by kernel_rfl))
        · intro env W hE hn ρ hρ hc hf hg K hK
          have r60 := (show ρ (.tmp 60) = env 6 by rw [hρ]; kernel_rfl).trans (hn 6 (by kernel_rfl))
          clear hρ hn hg
          simp [opLands, go_sem, hc, r60]
          exact hK _ _ rfl (Below.refl _ _)
        refine flow_cons (flow_op rfl rfl (by kernel_rfl) (by kernel_rfl) ?_) ?_
        · intro env W hE hn ρ hρ hc hf hg K hK
          have r59 := (show ρ (.tmp 59) = env 5 by rw [hρ]; kernel_rfl).trans (hn 5 (by kernel_rfl))
          have r61 := (show ρ (.tmp 61) = env 7 by rw [hρ]; kernel_rfl).trans (hn 7 (by kernel_rfl))
          clear hρ hn hg
          simp [opLands, go_sem, hc, r59, r61]
          exact hK _ _ rfl (Below.refl _ _)
        refine flow_cons (flow_op rfl rfl (by kernel_rfl) (by kernel_rfl) ?_) ?_
        · intro env W hE hn ρ hρ hc hf hg K hK
          have r62 := (show ρ (.tmp 62) = env 8 by rw [hρ]; kernel_rfl).trans (hn 8 (by kernel_rfl))
          clear hρ hn hg
          simp [opLands, go_sem, r62]
          exact hK _ _ rfl (Below.refl _ _)
        refine flow_cons (flow_opY 9 true 63 rfl rfl rfl (by kernel_rfl) (by kernel_rfl) ?_ ?_) ?_
        · intro env W hE hn ρ hρ
          exact (show ρ (.tmp 63) = env 9 by rw [hρ]; kernel_rfl).trans (hn 9 (by kernel_rfl))
        · intro env W hE hn ρ hρ hc hf hg K hK
          have r12 : ρ (.tmp 12) = .string R := by rw [hρ]; kernel_rfl
          clear hρ hn hg
          simp [opLands, go_sem, r12]
          exact hK _ _ rfl (Below.refl _ _)
        refine flow_cons (flow_opY 9 true 63 rfl rfl rfl (by kernel_rfl) (by kernel_rfl) ?_ ?_) ?_
        · intro env W hE hn ρ hρ
          exact (show ρ (.tmp 63) = env 9 by rw [hρ]; kernel_rfl).trans (hn 9 (by kernel_rfl))
        · intro env W hE hn ρ hρ hc hf hg K hK
          have r7 : ρ (.tmp 7) = .string R := by rw [hρ]; kernel_rfl
          clear hρ hn hg
          simp [opLands, go_sem, r7]
          exact hK _ _ rfl (Below.refl _ _)
        refine flow_cons (flow_opY 9 true 63 rfl rfl rfl (by kernel_rfl) (by kernel_rfl) ?_ ?_) ?_
        · intro env W hE hn ρ hρ
          exact (show ρ (.tmp 63) = env 9 by rw [hρ]; kernel_rfl).trans (hn 9 (by kernel_rfl))
        · intro env W hE hn ρ hρ hc hf hg K hK
          have r64 := (show ρ (.tmp 64) = env 10 by rw [hρ]; kernel_rfl).trans (hn 10 (by kernel_rfl))
          have r65 := (show ρ (.tmp 65) = env 11 by rw [hρ]; kernel_rfl).trans (hn 11 (by kernel_rfl))
          clear hρ hn hg
          simp [opLands, go_sem, r64, r65]
          exact hK _ _ rfl (Below.refl _ _)
        refine flow_cons (flow_op rfl rfl (by kernel_rfl) (by kernel_rfl) ?_) ?_
        · intro env W hE hn ρ hρ hc hf hg K hK
          have r63 := (show ρ (.tmp 63) = env 9 by rw [hρ]; kernel_rfl).trans (hn 9 (by kernel_rfl))
          have r66 := (show ρ (.tmp 66) = env 12 by rw [hρ]; kernel_rfl).trans (hn 12 (by kernel_rfl))
          clear hρ hn hg
          simp [opLands, go_sem, hc, r63, r66]
          exact hK _ _ rfl (Below.refl _ _)
        refine flow_cons (flow_op rfl rfl (by kernel_rfl) (by kernel_rfl) ?_) ?_
        · intro env W hE hn ρ hρ hc hf hg K hK
          have r67 := (show ρ (.tmp 67) = env 13 by rw [hρ]; kernel_rfl).trans (hn 13 (by kernel_rfl))
          clear hρ hn hg
          simp [opLands, go_sem, r67]
          exact hK _ _ rfl (Below.refl _ _)
        refine flow_cons (flow_opY 14 true 68 rfl rfl rfl (by kernel_rfl) (by kernel_rfl) ?_ ?_) ?_
        · intro env W hE hn ρ hρ
          exact (show ρ (.tmp 68) = env 14 by rw [hρ]; kernel_rfl).trans (hn 14 (by kernel_rfl))
        · intro env W hE hn ρ hρ hc hf hg K hK
          have r11 : ρ (.tmp 11) = .pointer (some ⟨w5.heap.size, 0, none⟩) := by rw [hρ]; kernel_rfl
          clear hρ hn hg
          simp [opLands, go_sem, r11]
          exact hK _ _ rfl (Below.refl _ _)
        refine flow_cons (flow_opY 14 true 68 rfl rfl rfl (by kernel_rfl) (by kernel_rfl) ?_ ?_) ?_
        · intro env W hE hn ρ hρ
          exact (show ρ (.tmp 68) = env 14 by rw [hρ]; kernel_rfl).trans (hn 14 (by kernel_rfl))
        · intro env W hE hn ρ hρ hc hf hg K hK
          have r69 := (show ρ (.tmp 69) = env 15 by rw [hρ]; kernel_rfl).trans (hn 15 (by kernel_rfl))
          clear hρ hn hg
          have q0 : W.cell? ⟨w5.heap.size, 0, none⟩ = some (.int .i64 9) := (HM6.out.below hE HM6.out.lt).cell 0
          simp [opLands, go_sem, r69, q0]
          exact hK _ _ rfl (Below.refl _ _)
        refine flow_cons (flow_opY 14 true 68 rfl rfl rfl (by kernel_rfl) (by kernel_rfl) ?_ ?_) ?_
        · intro env W hE hn ρ hρ
          exact (show ρ (.tmp 68) = env 14 by rw [hρ]; kernel_rfl).trans (hn 14 (by kernel_rfl))
        · intro env W hE hn ρ hρ hc hf hg K hK
          have r70 := (show ρ (.tmp 70) = env 16 by rw [hρ]; kernel_rfl).trans (hn 16 (by kernel_rfl))
          clear hρ hn hg
          simp [opLands, go_sem, hc, r70]
          exact hK _ _ rfl (Below.refl _ _)
        refine flow_cons (flow_op rfl rfl (by kernel_rfl) (by kernel_rfl) ?_) ?_
        · intro env W hE hn ρ hρ hc hf hg K hK
          have r68 := (show ρ (.tmp 68) = env 14 by rw [hρ]; kernel_rfl).trans (hn 14 (by kernel_rfl))
          have r71 := (show ρ (.tmp 71) = env 17 by rw [hρ]; kernel_rfl).trans (hn 17 (by kernel_rfl))
          clear hρ hn hg
          simp [opLands, go_sem, hc, r68, r71]
          exact hK _ _ rfl (Below.refl _ _)
        refine flow_cons (flow_op rfl rfl (by kernel_rfl) (by kernel_rfl) ?_) ?_
        · intro env W hE hn ρ hρ hc hf hg K hK
          have r72 := (show ρ (.tmp 72) = env 18 by rw [hρ]; kernel_rfl).trans (hn 18 (by kernel_rfl))
          clear hρ hn hg
          simp [opLands, go_sem, r72]
          exact hK _ _ rfl (Below.refl _ _)
        refine flow_cons (flow_opY 19 true 73 rfl rfl rfl (by kernel_rfl) (by kernel_rfl) ?_ ?_) ?_
        · intro env W hE hn ρ hρ
          exact (show ρ (.tmp 73) = env 19 by rw [hρ]; kernel_rfl).trans (hn 19 (by kernel_rfl))
        · intro env W hE hn ρ hρ hc hf hg K hK
          have r11 : ρ (.tmp 11) = .pointer (some ⟨w5.heap.size, 0, none⟩) := by rw [hρ]; kernel_rfl
          clear hρ hn hg
          simp [opLands, go_sem, r11]
          exact hK _ _ rfl (Below.refl _ _)
        refine flow_cons (flow_opY 19 true 73 rfl rfl rfl (by kernel_rfl) (by kernel_rfl) ?_ ?_) ?_
        · intro env W hE hn ρ hρ
          exact (show ρ (.tmp 73) = env 19 by rw [hρ]; kernel_rfl).trans (hn 19 (by kernel_rfl))
        · intro env W hE hn ρ hρ hc hf hg K hK
          have r74 := (show ρ (.tmp 74) = env 20 by rw [hρ]; kernel_rfl).trans (hn 20 (by kernel_rfl))
          clear hρ hn hg
          have q0 : W.cell? ⟨w5.heap.size, 5, none⟩ = some (.int .u64 u) := (HM6.out.below hE HM6.out.lt).cell 5
          simp [opLands, go_sem, r74, q0]
          exact hK _ _ rfl (Below.refl _ _)
        refine flow_cons (flow_opY 19 true 73 rfl rfl rfl (by kernel_rfl) (by kernel_rfl) ?_ ?_) ?_
        · intro env W hE hn ρ hρ
          exact (show ρ (.tmp 73) = env 19 by rw [hρ]; kernel_rfl).trans (hn 19 (by kernel_rfl))
        · intro env W hE hn ρ hρ hc hf hg K hK
          have r0 : ρ (.tmp 0) = .int .u64 u := by rw [hρ]; kernel_rfl
          clear hρ hn hg
          simp [opLands, go_sem, r0]
          exact hK _ _ rfl (Below.refl _ _)
        refine flow_cons (flow_opY 19 true 73 rfl rfl rfl (by kernel_rfl) (by kernel_rfl) ?_ ?_) ?_
        · intro env W hE hn ρ hρ
          exact (show ρ (.tmp 73) = env 19 by rw [hρ]; kernel_rfl).trans (hn 19 (by kernel_rfl))
        · intro env W hE hn ρ hρ hc hf hg K hK
          have r75 := (show ρ (.tmp 75) = env 21 by rw [hρ]; kernel_rfl).trans (hn 21 (by kernel_rfl))
          have r76 := (show ρ (.tmp 76) = env 22 by rw [hρ]; kernel_rfl).trans (hn 22 (by kernel_rfl))
          clear hρ hn hg
          simp [opLands, go_sem, r75, r76]
          exact hK _ _ rfl (Below.refl _ _)
        refine flow_cons (flow_op rfl rfl (by kernel_rfl) (by kernel_rfl) ?_) ?_
        · intro env W hE hn ρ hρ hc hf hg K hK
          have r73 := (show ρ (.tmp 73) = env 19 by rw [hρ]; kernel_rfl).trans (hn 19 (by kernel_rfl))
          have r77 := (show ρ (.tmp 77) = env 23 by rw [hρ]; kernel_rfl).trans (hn 23 (by kernel_rfl))
          clear hρ hn hg
          simp [opLands, go_sem, hc, r73, r77]
          exact hK _ _ rfl (Below.refl _ _)
        refine flow_cons (flow_op rfl rfl (by kernel_rfl) (by kernel_rfl) ?_) ?_
        · intro env W hE hn ρ hρ hc hf hg K hK
          have r78 := (show ρ (.tmp 78) = env 24 by rw [hρ]; kernel_rfl).trans (hn 24 (by kernel_rfl))
          clear hρ hn hg
          simp [opLands, go_sem, r78]
          exact hK _ _ rfl (Below.refl _ _)
        refine flow_cons (flow_opY 25 true 79 rfl rfl rfl (by kernel_rfl) (by kernel_rfl) ?_ ?_) ?_
        · intro env W hE hn ρ hρ
          exact (show ρ (.tmp 79) = env 25 by rw [hρ]; kernel_rfl).trans (hn 25 (by kernel_rfl))
        · intro env W hE hn ρ hρ hc hf hg K hK
          have r11 : ρ (.tmp 11) = .pointer (some ⟨w5.heap.size, 0, none⟩) := by rw [hρ]; kernel_rfl
          clear hρ hn hg
          simp [opLands, go_sem, r11]
          exact hK _ _ rfl (Below.refl _ _)
        refine flow_cons (flow_opY 25 true 79 rfl rfl rfl (by kernel_rfl) (by kernel_rfl) ?_ ?_) ?_
        · intro env W hE hn ρ hρ
          exact (show ρ (.tmp 79) = env 25 by rw [hρ]; kernel_rfl).trans (hn 25 (by kernel_rfl))
        · intro env W hE hn ρ hρ hc hf hg K hK
          have r80 := (show ρ (.tmp 80) = env 26 by rw [hρ]; kernel_rfl).trans (hn 26 (by kernel_rfl))
          clear hρ hn hg
          have q0 : W.cell? ⟨w5.heap.size, 8, none⟩ = some (.slice (some ad) 1 c2) := (HM6.out.below hE HM6.out.lt).cell 8
          simp [opLands, go_sem, r80, q0]
          exact hK _ _ rfl (Below.refl _ _)
        refine flow_cons (flow_opY 25 true 79 rfl rfl rfl (by kernel_rfl) (by kernel_rfl) ?_ ?_) ?_
        · intro env W hE hn ρ hρ
          exact (show ρ (.tmp 79) = env 25 by rw [hρ]; kernel_rfl).trans (hn 25 (by kernel_rfl))
        · intro env W hE hn ρ hρ hc hf hg K hK
          have r81 := (show ρ (.tmp 81) = env 27 by rw [hρ]; kernel_rfl).trans (hn 27 (by kernel_rfl))
          clear hρ hn hg
          simp [opLands, go_sem, r81]
          exact hK _ _ rfl (Below.refl _ _)
        refine flow_cons (flow_opY 25 true 79 rfl rfl rfl (by kernel_rfl) (by kernel_rfl) ?_ ?_) ?_
        · intro env W hE hn ρ hρ
          exact (show ρ (.tmp 79) = env 25 by rw [hρ]; kernel_rfl).trans (hn 25 (by kernel_rfl))
        · intro env W hE hn ρ hρ hc hf hg K hK
          have r82 := (show ρ (.tmp 82) = env 28 by rw [hρ]; kernel_rfl).trans (hn 28 (by kernel_rfl))
          clear hρ hn hg
          simp [opLands, go_sem, hc, r82]
          exact hK _ _ rfl (Below.refl _ _)
        refine flow_cons (flow_op rfl rfl (by kernel_rfl) (by kernel_rfl) ?_) ?_
        · intro env W hE hn ρ hρ hc hf hg K hK
          have r79 := (show ρ (.tmp 79) = env 25 by rw [hρ]; kernel_rfl).trans (hn 25 (by kernel_rfl))
          have r83 := (show ρ (.tmp 83) = env 29 by rw [hρ]; kernel_rfl).trans (hn 29 (by kernel_rfl))
          clear hρ hn hg
          simp [opLands, go_sem, hc, r79, r83]
          exact hK _ _ rfl (Below.refl _ _)
        refine flow_cons (flow_op rfl rfl (by kernel_rfl) (by kernel_rfl) ?_) ?_
        · intro env W hE hn ρ hρ hc hf hg K hK
          have r84 := (show ρ (.tmp 84) = env 30 by rw [hρ]; kernel_rfl).trans (hn 30 (by kernel_rfl))
          clear hρ hn hg
          simp [opLands, go_sem, r84]
          exact hK _ _ rfl (Below.refl _ _)
        refine flow_cons (flow_opY 31 true 85 rfl rfl rfl (by kernel_rfl) (by kernel_rfl) ?_ ?_) ?_
        · intro env W hE hn ρ hρ
          exact (show ρ (.tmp 85) = env 31 by rw [hρ]; kernel_rfl).trans (hn 31 (by kernel_rfl))
        · intro env W hE hn ρ hρ hc hf hg K hK
          have r11 : ρ (.tmp 11) = .pointer (some ⟨w5.heap.size, 0, none⟩) := by rw [hρ]; kernel_rfl
          clear hρ hn hg
          simp [opLands, go_sem, r11]
          exact hK _ _ rfl (Below.refl _ _)
        refine flow_cons (flow_opY 31 true 85 rfl rfl rfl (by kernel_rfl) (by kernel_rfl) ?_ ?_) ?_
        · intro env W hE hn ρ hρ
          exact (show ρ (.tmp 85) = env 31 by rw [hρ]; kernel_rfl).trans (hn 31 (by kernel_rfl))
        · intro env W hE hn ρ hρ hc hf hg K hK
          have r86 := (show ρ (.tmp 86) = env 32 by rw [hρ]; kernel_rfl).trans (hn 32 (by kernel_rfl))
          clear hρ hn hg
          have q0 : W.cell? ⟨w5.heap.size, 8, none⟩ = some (.slice (some ad) 1 c2) := (HM6.out.below hE HM6.out.lt).cell 8
          simp [opLands, go_sem, r86, q0]
          exact hK _ _ rfl (Below.refl _ _)
        refine flow_cons (flow_opY 31 true 85 rfl rfl rfl (by kernel_rfl) (by kernel_rfl) ?_ ?_) ?_
        · intro env W hE hn ρ hρ
          exact (show ρ (.tmp 85) = env 31 by rw [hρ]; kernel_rfl).trans (hn 31 (by kernel_rfl))
        · intro env W hE hn ρ hρ hc hf hg K hK
          have r87 := (show ρ (.tmp 87) = env 33 by rw [hρ]; kernel_rfl).trans (hn 33 (by kernel_rfl))
          clear hρ hn hg
          simp [opLands, go_sem, hc, r87, yad]
          exact hK _ _ rfl (Below.refl _ _)
        refine flow_cons (flow_opY 31 true 85 rfl rfl rfl (by kernel_rfl) (by kernel_rfl) ?_ ?_) ?_
        · intro env W hE hn ρ hρ
          exact (show ρ (.tmp 85) = env 31 by rw [hρ]; kernel_rfl).trans (hn 31 (by kernel_rfl))
        · intro env W hE hn ρ hρ hc hf hg K hK
          have r88 := (show ρ (.tmp 88) = env 34 by rw [hρ]; kernel_rfl).trans (hn 34 (by kernel_rfl))
          clear hρ hn hg
          have q0 := (HE6.out W hE).c0
          have q1 := (HE6.out W hE).c1
          have q2 := (HE6.out W hE).c2
          have q3 := (HE6.out W hE).c3
          have q4 := (HE6.out W hE).c4
          have q5 := (HE6.out W hE).c5
          have q6 := (HE6.out W hE).c6
          have q7 := (HE6.out W hE).c7
          have q8 := (HE6.out W hE).c8
          simp only [] at q0 q1 q2 q3 q4 q5 q6 q7 q8
          simp [opLands, go_sem, r88, q0, q1, q2, q3, q4, q5, q6, q7, q8]
          exact hK _ _ rfl (Below.refl _ _)
        refine flow_cons (flow_opY 31 true 85 rfl rfl rfl (by kernel_rfl) (by kernel_rfl) ?_ ?_) ?_
        · intro env W hE hn ρ hρ
          exact (show ρ (.tmp 85) = env 31 by rw [hρ]; kernel_rfl).trans (hn 31 (by kernel_rfl))
        · intro env W hE hn ρ hρ hc hf hg K hK
          have r6 : ρ (.tmp 6) = .pointer (some ⟨w2.heap.size, 0, none⟩) := by rw [hρ]; kernel_rfl
          clear hρ hn hg
          exact lands_load_row 28 (.tmp 6) rfl w2.heap.size r6 28 _ (0, 0) _ (HK6.out.below hE HK6.out.lt) Tryz.underlying28 rfl (by kernel_rfl) (hK _ _ rfl (Below.refl _ _))
        refine flow_cons (flow_opY 31 true 85 rfl rfl rfl (by kernel_rfl) (by kernel_rfl) ?_ ?_) ?_
        · intro env W hE hn ρ hρ
          exact (show ρ (.tmp 85) = env 31 by rw [hρ]; kernel_rfl).trans (hn 31 (by kernel_rfl))
        · intro env W hE hn ρ hρ hc hf hg K hK
          have r89 := (show ρ (.tmp 89) = env 35 by rw [hρ]; kernel_rfl).trans (hn 35 (by kernel_rfl))
          have r90 := (show ρ (.tmp 90) = env 36 by rw [hρ]; kernel_rfl).trans (hn 36 (by kernel_rfl))
          clear hρ hn hg
          refine lands_call rfl (by kernel_rfl) hf ?_
          rw [show #[Operand.tmp 89, Operand.tmp 90].map ρ = #[.agg #[.int .i64 kind1, .bool b1, .bool neg1, .string dg1, .int .i64 ex1, .int .u64 u1, .int .i64 wd1, .string s1, y2], .agg #[.int .i64 kind1, .bool b1, .bool neg1, .string dg1, .int .i64 ex1, .int .u64 u1, .int .i64 wd1, .string s1, .slice A1 n1 c1]] by simp [r89, r90]]
          refine (HSM.out W hE).mono ?_
          rintro e W' ⟨rfl, hb⟩
          exact ⟨_, rfl, hK _ _ rfl hb⟩
        refine flow_cons (flow_op rfl rfl (by kernel_rfl) (by kernel_rfl) ?_) flow_nil
        · intro env W hE hn ρ hρ hc hf hg K hK
          have r85 := (show ρ (.tmp 85) = env 31 by rw [hρ]; kernel_rfl).trans (hn 31 (by kernel_rfl))
          have r91 := (show ρ (.tmp 91) = env 37 by rw [hρ]; kernel_rfl).trans (hn 37 (by kernel_rfl))
          clear hρ hn hg
          simp [opLands, go_sem, hc, r85, r91]
          exact hK _ _ rfl (Below.refl _ _)
      case refine_5 =>
        intro env W hE hn
        have e38 : env 38 = .bool true := hn 38 (by decide)
        clear hn
        simp only [List.take_succ_cons, List.take_zero, List.drop_succ_cons, List.drop_zero, frameAll, e38]
        go_simp
        clear e38
        have hbE := HB6.out.trans (hE.mono HB6.out.size)
        clear hE
        go_wp2_with fail
        go_ret
        exact ⟨rfl, hbE⟩
    · simp only [hg] at HI2
      have HI2 : Hid (∀ W, Below w.heap.size w W → Calls Tryz.prog 14 #[.string (a ++ s)] W fun x w' => Below W.heap.size W w' ∧ x = .returned (.tuple #[zeroN, .string (a ++ s), .int .i64 60]) ∧ (60 : Int) ≠ 0) := Lib.hid HI2
      have HDP := Lib.hid (fun W B x (hl : ListAt W B 16 t.kids x) (hB : B ≤ W.heap.size) => ref_Depth 16 t x W B hl hB (by omega))
      obtain ⟨dp, hdpE⟩ : ∃ dp, t.depth = dp := ⟨_, rfl⟩
      rw [hdpE] at HDP hdp
      have y5 : (dp : Int) > 14 := by omega
      clear H1 H2 hres hgood hbad hR hg hcnt hct hb1 y0 y2 hdpE
      refine HI1.out.mono ?_
      rintro x w2 ⟨hb2, ⟨A1, n1, c1, rfl, hl1⟩, ho1, _⟩
      have hb3 := HB1.out.trans (hb2.mono HB1.out.size)
      obtain ⟨⟨kind1, b1, neg1, dg1, ex1, u1, wd1, s1⟩, hoE⟩ : ∃ o, t.own = o := ⟨_, rfl⟩
      rw [hoE] at HDP ⊢
      unfold nodeV at HDP ⊢
      simp only [] at HDP ⊢
      have hk3 := Blk.new w2 #[.int .i64 kind1, .bool b1, .bool neg1, .string dg1, .int .i64 ex1, .int .u64 u1, .int .i64 wd1, .string s1, .slice A1 n1 c1] 28
      have hw3 : Below w2.heap.size w2 (w2.alloc (.cells #[.int .i64 kind1, .bool b1, .bool neg1, .string dg1, .int .i64 ex1, .int .u64 u1, .int .i64 wd1, .string s1, .slice A1 n1 c1] 28)) := (Below.refl _ w2).alloc (Nat.le_refl _) _
      have hb4 := hb3.alloc hb3.size (.cells #[.int .i64 kind1, .bool b1, .bool neg1, .string dg1, .int .i64 ex1, .int .u64 u1, .int .i64 wd1, .string s1, .slice A1 n1 c1] 28)
      have hl1s := hl1.mono (S' := fun q => q < w2.heap.size) (fun q hq => hq.2)
      rw [zeroN_eq] at HI2
      clear HI1 ho1 hb2 hl1 hoE
      go_wp2_with fail
      refine (HMK.out _).mono ?_
      rintro x w4 ⟨rfl, hb5⟩
      have hk4 := hk3.below hb5 hk3.lt
      have hw4 := hw3.trans (hb5.mono hw3.size)
      have hb6 := hb4.trans (hb5.mono hb4.size)
      clear hk3 hb5 hw3 HMK
      go_wp2_with fail
      refine (HI2.out _ hb6).mono ?_
      rintro x w5 ⟨hb7, rfl, _⟩
      have hk6 := (hk4.below hb7 hk4.lt).alloc (.cells #[.int .i64 0, .bool false, .bool false, .string ⟨#[]⟩, .int .i64 0, .int .u64 0, .int .i64 0, .string ⟨#[]⟩, .slice none 0 0] 28)
      have hw5 := hw4.trans (hb7.mono hw4.size)
      have hw6 := hw5.alloc hw5.size (.cells #[.int .i64 0, .bool false, .bool false, .string ⟨#[]⟩, .int .i64 0, .int .u64 0, .int .i64 0, .string ⟨#[]⟩, .slice none 0 0] 28)
      have hb8 := hb6.trans (hb7.mono hb6.size)
      have hb9 := hb8.alloc hb8.size (.cells #[.int .i64 0, .bool false, .bool false, .string ⟨#[]⟩, .int .i64 0, .int .u64 0, .int .i64 0, .string ⟨#[]⟩, .slice none 0 0] 28)
      have HD := Lib.hid (HDP.out _ w2.heap.size _ (hl1s.below hw6 (Nat.le_refl _)) hw6.size)
      have HB6 := Lib.hid hb9
      clear hl1s HDP HI2 hk4 hb7 hw4 hw5 hw6 hb8 hb6 hb4 hb3
      have z0 := hk6.cell 0
      have z1 := hk6.cell 1
      have z2 := hk6.cell 2
      have z3 := hk6.cell 3
      have z4 := hk6.cell 4
      have z5 := hk6.cell 5
      have z6 := hk6.cell 6
      have z7 := hk6.cell 7
      have z8 := hk6.cell 8
      go_wp2_with fail
      refine HD.out.mono ?_
      rintro x w7 ⟨rfl, hb10⟩
      have hb11 := HB6.out.trans (hb10.mono HB6.out.size)
      go_wp2_with fail
      go_ret
      exact ⟨rfl, hb11⟩
theorem tags_walkZ {aT aF : Addr} (u : Int) (s0 : ByteArray) (hu : 0 ≤ u ∧ u < 18446744073709551616) (hs0 : s0.size ≤ 9223372036854775807) (w : World) (h : RW w aT aF) :
    Calls Tryz.prog 7 #[.int .u64 u, .string s0] w fun e w' => e = .returned (.bool true) ∧ Below w.heap.size w w' := by
  obtain ⟨k, rfl⟩ : ∃ k : Nat, u = k := ⟨u.toNat, by omega⟩
  exact tags_walk k (by omega) s0 hs0 w h
end Go.Proofs.YtflkmhgbinlfiaaGreatDoor
