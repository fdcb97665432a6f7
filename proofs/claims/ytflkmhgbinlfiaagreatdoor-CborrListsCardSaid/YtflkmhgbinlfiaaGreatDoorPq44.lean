/- The texts CsA, CsB, CsC, CsD, CsE, CbSr, CsF, put together. -/
import Derived.Test.YtflkmhgbinlfiaaGreatDoorPq43
import Derived.Test.YtflkmhgbinlfiaaGreatDoorPq27
namespace Go.Proofs.YtflkmhgbinlfiaaGreatDoor
open Go.RowKit Go.Shelf
attribute [local go_sem] Oper.semAt_some

theorem zeroO_ok : OwnOk zeroO := ⟨by decide, by decide, by decide, by decide, by decide, by decide⟩
/-- What Read tells: an error and a tree. -/
noncomputable def RC (s : ByteArray) : Int × Tr := readC (s.size + 1) s.data.toList
def ReadPost (w : World) (r : Int × Tr) (x : Ending) (w' : World) : Prop := Below w.heap.size w w' ∧ ∃ A n c, x = .returned (.tuple #[nodeV r.2.own (.slice A n c), .int .i64 r.1]) ∧ LAt w' (fun q => w.heap.size ≤ q ∧ q < w'.heap.size) 16 r.2.kids (.slice A n c) ∧ OwnOk r.2.own

set_option maxHeartbeats 8000000 in
set_option maxRecDepth 100000 in
theorem cr_Read {aT aF : Addr} (s : ByteArray) (hs : s.size ≤ 1000000000) (w : World) (h : RW w aT aF) :
    Calls Tryz.prog 11 #[.string s] w (ReadPost w (RC s)) := by
  have hlen : s.data.toList.length = s.size := by simp
  have hb1 := (Below.refl w.heap.size w).alloc (Nat.le_refl _) (.cells #[.int .i64 0, .bool false, .bool false, .string ⟨#[]⟩, .int .i64 0, .int .u64 0, .int .i64 0, .string ⟨#[]⟩, .slice none 0 0] 28)
  have hk1 := Blk.new w #[.int .i64 0, .bool false, .bool false, .string ⟨#[]⟩, .int .i64 0, .int .u64 0, .int .i64 0, .string ⟨#[]⟩, .slice none 0 0] 28
  unfold RC readC
  rw [hlen]
  by_cases hbig : 4000 < s.size
  · rw [if_pos hbig]
    have y0 : (s.size : Int) > 4000 := by omega
    clear hbig h hlen
    go_enter Tryz.func11, Tryz.ntmps11
    go_wp2_with (refine wpList_store_row rfl 28 (.tmp 2) (.tmp 10) rfl (w.heap.size) #[.int .i64 0, .bool false, .bool false, .string ⟨#[]⟩, .int .i64 0, .int .u64 0, .int .i64 0, .string ⟨#[]⟩, .slice none 0 0] rfl rfl 28 _ hk1 (by kernel_rfl) rfl (by simp [Value.oneCell']) ?_)
    refine bodyPost_ret (results_cell (T := 28) rfl rfl rfl (blk_row hk1 #[.int .i64 0, .bool false, .bool false, .string ⟨#[]⟩, .int .i64 0, .int .u64 0, .int .i64 0, .string ⟨#[]⟩, .slice none 0 0]) Tryz.underlying28 rfl (by kernel_rfl)) rfl ?_
    refine ⟨(hb1).grown (grown_row _ w.heap.size _) (hb1).size (fun q e => by cases e; omega), ?_⟩
    exact ⟨none, 0, 0, rfl, LAt.nil _ _ _ _ _, zeroO_ok⟩
  · rw [if_neg hbig]
    have y0 : ¬ (s.size : Int) > 4000 := by omega
    have HIT := Lib.hid (cr_Item s hs _ (h.below hb1).tab (h.below hb1).ty)
    have HG := Lib.hid (fun W (hb : Below w.heap.size w W) => (h.below hb).g)
    have hnc := item_count (s.size + 1) 16 s.data.toList
    rw [hlen] at hnc
    unfold itemC at HIT
    clear hbig h hlen
    cases hres : itemP (s.size + 1) 16 s.data.toList with
    | bad e =>
      rw [hres] at HIT
      have he := errP_item _ _ _ _ hres
      have HIT : Hid (Calls Tryz.prog 14 #[.string s] (w.alloc (.cells #[.int .i64 0, .bool false, .bool false, .string ⟨#[]⟩, .int .i64 0, .int .u64 0, .int .i64 0, .string ⟨#[]⟩, .slice none 0 0] 28)) fun x w' => Below (w.alloc (.cells #[.int .i64 0, .bool false, .bool false, .string ⟨#[]⟩, .int .i64 0, .int .u64 0, .int .i64 0, .string ⟨#[]⟩, .slice none 0 0] 28)).heap.size (w.alloc (.cells #[.int .i64 0, .bool false, .bool false, .string ⟨#[]⟩, .int .i64 0, .int .u64 0, .int .i64 0, .string ⟨#[]⟩, .slice none 0 0] 28)) w' ∧ x = .returned (.tuple #[zeroN, .string s, .int .i64 e]) ∧ e ≠ 0) := HIT
      show Calls _ _ _ _ (ReadPost w (e, .nd zeroO []))
      have y1 : (e == 0) = false := by rw [beq_eq_false_iff_ne]; exact he
      have y2 : (e != 0) = true := by rw [bne_iff_ne]; exact he
      clear hres he HG hnc
      go_enter Tryz.func11, Tryz.ntmps11
      go_wp2_with fail
      refine HIT.out.mono ?_
      rintro x w3 ⟨hb3, rfl, _⟩
      unfold zeroN nodeV zeroO
      simp only []
      have hk4 := (hk1.below hb3 hk1.lt).alloc (.cells #[.int .i64 0, .bool false, .bool false, .string ⟨#[]⟩, .int .i64 0, .int .u64 0, .int .i64 0, .string ⟨#[]⟩, .slice none 0 0] 28)
      have hbX := hb1.trans (hb3.mono hb1.size)
      have hb4 := hbX.alloc hbX.size (.cells #[.int .i64 0, .bool false, .bool false, .string ⟨#[]⟩, .int .i64 0, .int .u64 0, .int .i64 0, .string ⟨#[]⟩, .slice none 0 0] 28)
      go_wp2_with (refine wpList_store_row rfl 28 (.tmp 2) (.tmp 29) rfl (w.heap.size) #[.int .i64 0, .bool false, .bool false, .string ⟨#[]⟩, .int .i64 0, .int .u64 0, .int .i64 0, .string ⟨#[]⟩, .slice none 0 0] rfl rfl 28 _ hk4 (by kernel_rfl) rfl (by simp [Value.oneCell']) ?_)
      refine bodyPost_ret (results_cell (T := 28) rfl rfl rfl (blk_row hk4 #[.int .i64 0, .bool false, .bool false, .string ⟨#[]⟩, .int .i64 0, .int .u64 0, .int .i64 0, .string ⟨#[]⟩, .slice none 0 0]) Tryz.underlying28 rfl (by kernel_rfl)) rfl ?_
      refine ⟨(hb4).grown (grown_row _ w.heap.size _) (hb4).size (fun q e => by cases e; omega), ?_⟩
      exact ⟨none, 0, 0, rfl, LAt.nil _ _ _ _ _, zeroO_ok⟩
    | good t r =>
      rw [hres] at HIT
      have HIT : Hid (Calls Tryz.prog 14 #[.string s] (w.alloc (.cells #[.int .i64 0, .bool false, .bool false, .string ⟨#[]⟩, .int .i64 0, .int .u64 0, .int .i64 0, .string ⟨#[]⟩, .slice none 0 0] 28)) fun x w' => Below (w.alloc (.cells #[.int .i64 0, .bool false, .bool false, .string ⟨#[]⟩, .int .i64 0, .int .u64 0, .int .i64 0, .string ⟨#[]⟩, .slice none 0 0] 28)).heap.size (w.alloc (.cells #[.int .i64 0, .bool false, .bool false, .string ⟨#[]⟩, .int .i64 0, .int .u64 0, .int .i64 0, .string ⟨#[]⟩, .slice none 0 0] 28)) w' ∧ (∃ A n c, x = .returned (.tuple #[nodeV t.own (.slice A n c), .string (bs r), .int .i64 0]) ∧ LAt w' (fun q => (w.alloc (.cells #[.int .i64 0, .bool false, .bool false, .string ⟨#[]⟩, .int .i64 0, .int .u64 0, .int .i64 0, .string ⟨#[]⟩, .slice none 0 0] 28)).heap.size ≤ q ∧ q < w'.heap.size) 16 t.kids (.slice A n c)) ∧ OwnOk t.own ∧ r.length + 1 ≤ s.size) := HIT
      have hct := hnc t r hres
      have HCT := Lib.hid (show t.count ≤ 1000000000 by omega)
      clear hres hnc hct
      show Calls _ _ _ _ (ReadPost w (if r ≠ [] then (110, .nd zeroO []) else if checkT 2 flC t = 0 then (0, t) else (checkT 2 flC t, .nd zeroO [])))
      by_cases hr : r = []
      · subst hr
        rw [if_neg (fun h => h rfl)]
        have HCK := Lib.hid (fun W A n c (hb : Below w.heap.size w W) (hl : ListAt W W.heap.size 16 t.kids (.slice A n c)) (ho : OwnOk t.own) => tree_Check 2 flC (fits_at_C aT aF) t (.slice A n c) W W.heap.size 16 hl ho (Nat.le_refl _) HCT.out (HG.out W hb))
        obtain ⟨ck, hck⟩ : ∃ ck, checkT 2 flC t = ck := ⟨_, rfl⟩
        rw [hck] at HCK ⊢
        obtain ⟨RR, hRR⟩ : ∃ RR, (if ck = 0 then ((0 : Int), t) else (ck, .nd zeroO [])) = RR := ⟨_, rfl⟩
        rw [hRR]
        have HR0 := Lib.hid (fun (q : ck = 0) => (show RR = (0, t) by rw [← hRR, if_pos q]))
        have HR1 := Lib.hid (fun (q : ¬ ck = 0) => (show RR = (ck, .nd zeroO []) by rw [← hRR, if_neg q]))
        clear hRR
        have HIT : Hid (Calls Tryz.prog 14 #[.string s] (w.alloc (.cells #[.int .i64 0, .bool false, .bool false, .string ⟨#[]⟩, .int .i64 0, .int .u64 0, .int .i64 0, .string ⟨#[]⟩, .slice none 0 0] 28)) fun x w' => Below (w.alloc (.cells #[.int .i64 0, .bool false, .bool false, .string ⟨#[]⟩, .int .i64 0, .int .u64 0, .int .i64 0, .string ⟨#[]⟩, .slice none 0 0] 28)).heap.size (w.alloc (.cells #[.int .i64 0, .bool false, .bool false, .string ⟨#[]⟩, .int .i64 0, .int .u64 0, .int .i64 0, .string ⟨#[]⟩, .slice none 0 0] 28)) w' ∧ (∃ A n c, x = .returned (.tuple #[nodeV t.own (.slice A n c), .string ⟨#[]⟩, .int .i64 0]) ∧ LAt w' (fun q => (w.alloc (.cells #[.int .i64 0, .bool false, .bool false, .string ⟨#[]⟩, .int .i64 0, .int .u64 0, .int .i64 0, .string ⟨#[]⟩, .slice none 0 0] 28)).heap.size ≤ q ∧ q < w'.heap.size) 16 t.kids (.slice A n c)) ∧ OwnOk t.own ∧ ([] : List UInt8).length + 1 ≤ s.size) := HIT
        clear hck HG HCT
        go_enter Tryz.func11, Tryz.ntmps11
        go_wp2_with fail
        refine HIT.out.mono ?_
        rintro x w3 ⟨hb3, ⟨A, n, c, rfl, hly⟩, hot, _⟩
        obtain ⟨⟨kind3, b3, neg3, dg3, ex3, u3, wd3, s3⟩, ho3⟩ : ∃ o, t.own = o := ⟨_, rfl⟩
        have HO3 := Lib.hid ho3
        have HOT := Lib.hid hot
        rw [ho3] at HCK ⊢
        unfold nodeV at HCK ⊢
        simp only [] at HCK ⊢
        rw [World.size_alloc] at hly
        have hz3 := hb3.size
        rw [World.size_alloc] at hz3
        have hk4 := (hk1.below hb3 hk1.lt).alloc (.cells #[.int .i64 kind3, .bool b3, .bool neg3, .string dg3, .int .i64 ex3, .int .u64 u3, .int .i64 wd3, .string s3, .slice A n c] 28)
        have hx4 := Blk.new w3 #[.int .i64 kind3, .bool b3, .bool neg3, .string dg3, .int .i64 ex3, .int .u64 u3, .int .i64 wd3, .string s3, .slice A n c] 28
        have hbX := hb1.trans (hb3.mono hb1.size)
        have hb4 := hbX.alloc hbX.size (.cells #[.int .i64 kind3, .bool b3, .bool neg3, .string dg3, .int .i64 ex3, .int .u64 u3, .int .i64 wd3, .string s3, .slice A n c] 28)
        have hl4 : LAt (w3.alloc (.cells #[.int .i64 kind3, .bool b3, .bool neg3, .string dg3, .int .i64 ex3, .int .u64 u3, .int .i64 wd3, .string s3, .slice A n c] 28)) (fun q => w.heap.size + 1 ≤ q ∧ q < w3.heap.size) 16 t.kids (.slice A n c) := hly.keep (fun q hq => Below.heap_alloc w3 _ q hq.2)
        have HL4 := Lib.hid hl4
        have HC4 := Lib.hid (HCK.out _ A n c hb4 (hl4.mono (fun q hq => by rw [World.size_alloc]; omega)) (by rw [← ho3]; exact hot))
        have c0 := hx4.cell 0
        have c1 := hx4.cell 1
        have c2 := hx4.cell 2
        have c3 := hx4.cell 3
        have c4 := hx4.cell 4
        have c5 := hx4.cell 5
        have c6 := hx4.cell 6
        have c7 := hx4.cell 7
        have c8 := hx4.cell 8
        clear hly hl4 ho3 hot HCK
        go_wp2_with fail
        refine HC4.out.mono ?_
        rintro x w5 ⟨rfl, hb5⟩
        have hk5 := hk4.below hb5 hk4.lt
        have hx5 := hx4.below hb5 hx4.lt
        have hb6 := hb4.trans (hb5.mono hb4.size)
        have hz5 := hb5.size
        rw [World.size_alloc] at hz5
        clear c0 c1 c2 c3 c4 c5 c6 c7 c8
        by_cases hck0 : ck = 0
        · have e0 := HR0.out hck0
          subst hck0
          subst e0
          clear HR0 HR1 HC4
          go_wp2_with (first | (refine wpList_load_row rfl 28 (.tmp 4) rfl w3.heap.size rfl 28 _ (0, 0) _ hx5 Tryz.underlying28 rfl (by kernel_rfl) ?_) | (refine wpList_store_row rfl 28 (.tmp 2) (.tmp 31) rfl (w.heap.size) #[.int .i64 kind3, .bool b3, .bool neg3, .string dg3, .int .i64 ex3, .int .u64 u3, .int .i64 wd3, .string s3, .slice A n c] rfl rfl 28 _ hk5 (by kernel_rfl) rfl (by simp [Value.oneCell']) ?_))
          refine bodyPost_ret (results_cell (T := 28) rfl rfl rfl (blk_row hk5 #[.int .i64 kind3, .bool b3, .bool neg3, .string dg3, .int .i64 ex3, .int .u64 u3, .int .i64 wd3, .string s3, .slice A n c]) Tryz.underlying28 rfl (by kernel_rfl)) rfl ?_
          refine ⟨hb6.grown (grown_row _ w.heap.size _) hb6.size (fun q e => by cases e; omega), A, n, c, by rw [HO3.out]; rfl, ?_, HOT.out⟩
          exact ((HL4.out.keep (fun q hq => hb5.block q (by rw [World.size_alloc]; omega))).keep (fun q hq => setRow_other _ _ _ _ (by omega))).mono (fun q hq => ⟨by omega, by rw [setRow_size]; omega⟩)
        · have e0 := HR1.out hck0
          subst e0
          clear HR0 HR1
          have y1 : (ck != 0) = true := by rw [bne_iff_ne]; exact hck0
          clear hck0
          go_wp2_with (refine wpList_store_row rfl 28 (.tmp 2) (.tmp 29) rfl (w.heap.size) #[.int .i64 0, .bool false, .bool false, .string ⟨#[]⟩, .int .i64 0, .int .u64 0, .int .i64 0, .string ⟨#[]⟩, .slice none 0 0] rfl rfl 28 _ hk5 (by kernel_rfl) rfl (by simp [Value.oneCell']) ?_)
          refine bodyPost_ret (results_cell (T := 28) rfl rfl rfl (blk_row hk5 #[.int .i64 0, .bool false, .bool false, .string ⟨#[]⟩, .int .i64 0, .int .u64 0, .int .i64 0, .string ⟨#[]⟩, .slice none 0 0]) Tryz.underlying28 rfl (by kernel_rfl)) rfl ?_
          refine ⟨(hb6).grown (grown_row _ w.heap.size _) (hb6).size (fun q e => by cases e; omega), ?_⟩
          exact ⟨none, 0, 0, rfl, LAt.nil _ _ _ _ _, zeroO_ok⟩
      · rw [if_pos hr]
        have hne := str_noneQ (s := bs r) (by rw [bs_size]; intro e; exact hr (List.eq_nil_of_length_eq_zero e))
        obtain ⟨rb, hrb⟩ : ∃ rb, bs r = rb := ⟨_, rfl⟩
        rw [hrb] at HIT hne
        clear hrb hr HG HCT
        go_enter Tryz.func11, Tryz.ntmps11
        go_wp2_with fail
        refine HIT.out.mono ?_
        rintro x w3 ⟨hb3, ⟨A, n, c, rfl, hly⟩, hot, _⟩
        obtain ⟨⟨kind3, b3, neg3, dg3, ex3, u3, wd3, s3⟩, ho3⟩ : ∃ o, t.own = o := ⟨_, rfl⟩
        rw [ho3]
        unfold nodeV
        simp only []
        have hk4 := (hk1.below hb3 hk1.lt).alloc (.cells #[.int .i64 kind3, .bool b3, .bool neg3, .string dg3, .int .i64 ex3, .int .u64 u3, .int .i64 wd3, .string s3, .slice A n c] 28)
        have hbX := hb1.trans (hb3.mono hb1.size)
        have hb4 := hbX.alloc hbX.size (.cells #[.int .i64 kind3, .bool b3, .bool neg3, .string dg3, .int .i64 ex3, .int .u64 u3, .int .i64 wd3, .string s3, .slice A n c] 28)
        clear hly hot ho3
        go_wp2_with (refine wpList_store_row rfl 28 (.tmp 2) (.tmp 29) rfl (w.heap.size) #[.int .i64 0, .bool false, .bool false, .string ⟨#[]⟩, .int .i64 0, .int .u64 0, .int .i64 0, .string ⟨#[]⟩, .slice none 0 0] rfl rfl 28 _ hk4 (by kernel_rfl) rfl (by simp [Value.oneCell']) ?_)
        refine bodyPost_ret (results_cell (T := 28) rfl rfl rfl (blk_row hk4 #[.int .i64 0, .bool false, .bool false, .string ⟨#[]⟩, .int .i64 0, .int .u64 0, .int .i64 0, .string ⟨#[]⟩, .slice none 0 0]) Tryz.underlying28 rfl (by kernel_rfl)) rfl ?_
        refine ⟨(hb4).grown (grown_row _ w.heap.size _) (hb4).size (fun q e => by cases e; omega), ?_⟩
        exact ⟨none, 0, 0, rfl, LAt.nil _ _ _ _ _, zeroO_ok⟩
end Go.Proofs.YtflkmhgbinlfiaaGreatDoor
namespace Go.Proofs.YtflkmhgbinlfiaaGreatDoor
open Go.RowKit Go.Shelf
attribute [local go_sem] Oper.semAt_some

theorem ofN_1 : ofN false 1 = (false, ⟨#[49]⟩, 0) := by
  unfold ofN makeD
  rw [Lib.decDigits_one (by decide)]
  decide +kernel
abbrev s1L : List Tr := [.nd { zeroO with kind := 5, s := ⟨#[97]⟩ } [], .nd { zeroO with kind := 3, dg := ⟨#[49]⟩ } []]
abbrev s1T : Tr := .nd { zeroO with kind := 8 } s1L
abbrev s2T : Tr := .nd { zeroO with kind := 9, u := 1 } [.nd { zeroO with kind := 4, u := 15360, wd := 16 } []]
theorem s1_item : itemP 6 16 [191, 97, 97, 1, 255] = .good s1T [] := by
  have h : itemP 6 16 [191, 97, 97, 1, 255] = .good (listT 8 [strT 5 [97], numT false 1]) [] := by kernel_rfl
  rw [h]
  unfold numT
  rw [ofN_1]
  rfl
theorem s2_item : itemP 5 16 [193, 249, 60, 0] = .good s2T [] := by kernel_rfl
theorem s3_item : itemP 3 16 [130, 1] = .bad 100 := by kernel_rfl
theorem s1_keys : keysB s1L = true := by
  unfold keysB
  refine @decide_eq_true _ (Classical.propDecidable _) ?_
  intro i k hi hk h1 h2
  simp only [List.length_cons, List.length_nil] at hi
  omega
theorem s1_check : checkT 2 flC s1T = 0 := by
  have hr : rightT s1T = true := by
    unfold rightT
    have h1 : s1T.count ≤ 300 := by decide +kernel
    have h2 : s1T.depth ≤ 16 := by decide +kernel
    rw [decide_eq_true h1, decide_eq_true h2, allB]
    have hd2 : decOk false ⟨#[49]⟩ 0 = true := by decide +kernel
    have hv : Lib.validD (⟨#[97]⟩ : ByteArray).data.toList = true := by decide +kernel
    have ho : ownB { zeroO with kind := 8 } s1L = true := by
      simp [ownB, s1_keys, onlyB]
    have e1 : ownB { zeroO with kind := 5, s := ⟨#[97]⟩ } [] = true := by
      simp [ownB, onlyB, hv]
      decide
    have e3 : ownB { zeroO with kind := 3, dg := ⟨#[49]⟩ } [] = true := by
      simp [ownB, onlyB, hd2]
    rw [ho, allL, allL, allL, allB, allB, e1, e3, allL]
    rfl
  have hf : fitT 2 flC s1T = true := by decide +kernel
  unfold checkT
  rw [if_pos hr, if_pos hf]
theorem s2_check : checkT 2 flC s2T = 0 := by
  have hr : rightT s2T = true := by
    unfold rightT
    have h1 : s2T.count ≤ 300 := by decide +kernel
    have h2 : s2T.depth ≤ 16 := by decide +kernel
    rw [decide_eq_true h1, decide_eq_true h2, allB]
    have hw : wideOk 15360 16 = true := by decide +kernel
    have ho : ownB { zeroO with kind := 9, u := 1 } [.nd { zeroO with kind := 4, u := 15360, wd := 16 } []] = true := by
      simp [ownB, onlyB]
    have e1 : ownB { zeroO with kind := 4, u := 15360, wd := 16 } [] = true := by
      simp [ownB, onlyB, hw]
    rw [ho, allL, allB, e1, allL]
    rfl
  have hf : fitT 2 flC s2T = true := by decide +kernel
  unfold checkT
  rw [if_pos hr, if_pos hf]
theorem rc_1 : RC ⟨#[191, 97, 97, 1, 255]⟩ = (0, s1T) := by
  show readC 6 [191, 97, 97, 1, 255] = _
  unfold readC
  rw [if_neg (by decide), s1_item]
  simp only [ne_eq, not_true_eq_false, if_false]
  rw [if_pos s1_check]
theorem rc_2 : RC ⟨#[193, 249, 60, 0]⟩ = (0, s2T) := by
  show readC 5 [193, 249, 60, 0] = _
  unfold readC
  rw [if_neg (by decide), s2_item]
  simp only [ne_eq, not_true_eq_false, if_false]
  rw [if_pos s2_check]
theorem rc_3 : RC ⟨#[130, 1]⟩ = (100, .nd zeroO []) := by
  show readC 3 [130, 1] = _
  unfold readC
  rw [if_neg (by decide), s3_item]

theorem LAt.len {W : World} {S : Nat → Prop} {d n c : Nat} {l : List Tr} {A : Option Addr} (h : LAt W S d l (.slice A n c)) : n = l.length := by
  obtain ⟨_, A', c', e⟩ := h.slice
  injection e
set_option maxHeartbeats 4000000 in
set_option maxRecDepth 100000 in
theorem cr_shown {aT aF : Addr} (w : World) (h : RW w aT aF) :
    Calls Tryz.prog 10 #[] w fun e w' => e = .returned (.bool true) ∧ Below w.heap.size w w' := by
  have H1 := Lib.hid (cr_Read ⟨#[191, 97, 97, 1, 255]⟩ (by decide) w h)
  have H2 := Lib.hid (fun W (hb : Below w.heap.size w W) => cr_Read ⟨#[193, 249, 60, 0]⟩ (by decide) W (h.below hb))
  have H3 := Lib.hid (fun W (hb : Below w.heap.size w W) => cr_Read ⟨#[130, 1]⟩ (by decide) W (h.below hb))
  rw [rc_1] at H1
  simp only [rc_2] at H2
  simp only [rc_3] at H3
  clear h
  go_enter Tryz.func10, Tryz.ntmps10
  go_wp2_with fail
  refine H1.out.mono ?_
  rintro x w1 ⟨hb1, A1, n1, c1, rfl, hl1, _⟩
  have e1 : n1 = 2 := hl1.len
  clear hl1
  subst e1
  rw [show nodeV s1T.own (.slice A1 2 c1) = .agg #[.int .i64 8, .bool false, .bool false, .string ⟨#[]⟩, .int .i64 0, .int .u64 0, .int .i64 0, .string ⟨#[]⟩, .slice A1 2 c1] from rfl]
  have hk1 := Blk.new w1 #[.int .i64 8, .bool false, .bool false, .string ⟨#[]⟩, .int .i64 0, .int .u64 0, .int .i64 0, .string ⟨#[]⟩, .slice A1 2 c1] 28
  have hb2 := hb1.alloc hb1.size (.cells #[.int .i64 8, .bool false, .bool false, .string ⟨#[]⟩, .int .i64 0, .int .u64 0, .int .i64 0, .string ⟨#[]⟩, .slice A1 2 c1] 28)
  go_wp2_with fail
  refine (H2.out _ hb2).mono ?_
  rintro x w3 ⟨hb3, A2, n2, c2, rfl, hl2, _⟩
  clear hl2
  rw [show nodeV s2T.own (.slice A2 n2 c2) = .agg #[.int .i64 9, .bool false, .bool false, .string ⟨#[]⟩, .int .i64 0, .int .u64 1, .int .i64 0, .string ⟨#[]⟩, .slice A2 n2 c2] from rfl]
  have hk3 := (hk1.below hb3 hk1.lt).alloc (.cells #[.int .i64 9, .bool false, .bool false, .string ⟨#[]⟩, .int .i64 0, .int .u64 1, .int .i64 0, .string ⟨#[]⟩, .slice A2 n2 c2] 28)
  have hm3 := Blk.new w3 #[.int .i64 9, .bool false, .bool false, .string ⟨#[]⟩, .int .i64 0, .int .u64 1, .int .i64 0, .string ⟨#[]⟩, .slice A2 n2 c2] 28
  have hb4 := hb2.trans (hb3.mono hb2.size)
  have hb5 := hb4.alloc hb4.size (.cells #[.int .i64 9, .bool false, .bool false, .string ⟨#[]⟩, .int .i64 0, .int .u64 1, .int .i64 0, .string ⟨#[]⟩, .slice A2 n2 c2] 28)
  clear H1 H2 hk1 hb3 hb1
  go_wp2_with fail
  refine (H3.out _ hb5).mono ?_
  rintro x w5 ⟨hb6, A3, n3, c3, rfl, hl3, _⟩
  clear hl3
  rw [show nodeV (Tr.nd zeroO []).own (.slice A3 n3 c3) = .agg #[.int .i64 0, .bool false, .bool false, .string ⟨#[]⟩, .int .i64 0, .int .u64 0, .int .i64 0, .string ⟨#[]⟩, .slice A3 n3 c3] from rfl]
  have hk7 := (hk3.below hb6 hk3.lt).alloc (.cells #[.int .i64 0, .bool false, .bool false, .string ⟨#[]⟩, .int .i64 0, .int .u64 0, .int .i64 0, .string ⟨#[]⟩, .slice A3 n3 c3] 28)
  have hm7 := (hm3.below hb6 hm3.lt).alloc (.cells #[.int .i64 0, .bool false, .bool false, .string ⟨#[]⟩, .int .i64 0, .int .u64 0, .int .i64 0, .string ⟨#[]⟩, .slice A3 n3 c3] 28)
  have hb7 := hb5.trans (hb6.mono hb5.size)
  have hb8 := hb7.alloc hb7.size (.cells #[.int .i64 0, .bool false, .bool false, .string ⟨#[]⟩, .int .i64 0, .int .u64 0, .int .i64 0, .string ⟨#[]⟩, .slice A3 n3 c3] 28)
  have z0 := hk7.cell 0
  have z8 := hk7.cell 8
  have y0 := hm7.cell 0
  have y5 := hm7.cell 5
  clear H3
  go_wp2_with fail
  go_ret
  exact ⟨rfl, hb8⟩
end Go.Proofs.YtflkmhgbinlfiaaGreatDoor
namespace Go.Proofs.YtflkmhgbinlfiaaGreatDoor
open Go.RowKit Go.Shelf
attribute [local go_sem] Oper.semAt_some

end Go.Proofs.YtflkmhgbinlfiaaGreatDoor
namespace Go.Proofs.YtflkmhgbinlfiaaGreatDoor
open Go.RowKit Go.Shelf

theorem bindP_agree {α β : Type} {p p' : Psr α} {f f' : α → Psr β} {l : List UInt8} (h : p l = p' l) (hf : ∀ a r, p' l = .good a r → f a r = f' a r) : bindP p f l = bindP p' f' l := by
  unfold bindP
  rw [h]
  cases hp : p' l with
  | bad e => rfl
  | good a r => exact hf a r hp
theorem head_lessF {l r : List UInt8} {h : Nat × Nat × Nat} (hp : headP l = .good h r) : r.length + 1 ≤ l.length := by
  obtain ⟨own, e, g, _⟩ := goodP_head _ _ _ hp
  have := own_pos wantP_head g
  rw [e, List.length_append]
  omega
theorem chunk_lessF {maj : Nat} {l r : List UInt8} {c : List UInt8} (hp : chunkP maj l = .good c r) : r.length + 1 ≤ l.length := by
  obtain ⟨own, e, g, _⟩ := goodP_chunk maj _ _ _ hp
  have := own_pos (wantP_chunk maj) g
  rw [e, List.length_append]
  omega
theorem end_agree {α : Type} {a : α} {p p' : Psr α} {l : List UInt8} (h : p l = p' l) : endP a p l = endP a p' l := by
  cases l with
  | nil => exact h
  | cons c t =>
    unfold endP
    simp only []
    split
    · rfl
    · exact h
theorem chunks_fuel (maj : Nat) : ∀ (f f' : Nat) (acc l : List UInt8), l.length < f → l.length < f' → chunksP maj f acc l = chunksP maj f' acc l
  | 0, _, _, _, h, _ => by omega
  | _ + 1, 0, _, _, _, h => by omega
  | f + 1, f' + 1, acc, l, h, h' => end_agree (bindP_agree rfl fun c r hp => chunks_fuel maj f f' _ _ (by have := chunk_lessF hp; omega) (by have := chunk_lessF hp; omega))
theorem text_fuel {F F' : Nat} {h : Nat × Nat × Nat} {l : List UInt8} (hF : l.length < F) (hF' : l.length < F') : textP F h l = textP F' h l := by
  unfold textP
  split
  · exact chunks_fuel _ _ _ _ _ hF hF'
  · rfl
theorem times_agree {p p' : Psr Tr} {n : Nat} (hp : ∀ l, l.length ≤ n → p l = p' l) (hl : ∀ l t r, p' l = .good t r → r.length ≤ l.length) : ∀ (k : Nat) (acc : List Tr) (l : List UInt8), l.length ≤ n → timesP p k acc l = timesP p' k acc l
  | 0, _, _, _ => rfl
  | k + 1, acc, l, h => bindP_agree (hp l h) fun t r ht => times_agree hp hl k _ _ (by have := hl _ _ _ ht; omega)
theorem times_shrink {p : Psr Tr} (hg : GoodP p) (hw : WantP p) (k : Nat) {acc L : List Tr} {l r : List UInt8} (h : timesP p (k + 1) acc l = .good L r) : r.length + 1 ≤ l.length := by
  obtain ⟨own, e, g, _⟩ := goodP_times hg (k + 1) acc _ _ _ h
  have := own_pos (wantP_times hw k acc) g
  rw [e, List.length_append]
  omega
theorem open_agree {p p' : Psr Tr} {n size : Nat} (hp : ∀ l, l.length ≤ n → p l = p' l) (hg : GoodP p') (hw : WantP p') : ∀ (f f' : Nat) (acc : List Tr) (l : List UInt8), l.length ≤ n → l.length < f → l.length < f' → openP p (size + 1) f acc l = openP p' (size + 1) f' acc l
  | 0, _, _, _, _, h, _ => by omega
  | _ + 1, 0, _, _, _, _, h => by omega
  | f + 1, f' + 1, acc, l, hn, h, h' => end_agree (bindP_agree (times_agree hp (fun l t r ht => good_le hg ht) _ _ _ hn) fun L r ht => by
      have := times_shrink hg hw size ht
      exact open_agree hp hg hw f f' _ _ (by omega) (by omega) (by omega))
/-- How much is allowed makes no difference, if it is enough. -/
theorem item_fuel : ∀ (d : Nat) (F F' : Nat) (l : List UInt8), l.length < F → l.length < F' → itemP F d l = itemP F' d l
  | 0, _, _, _, _, _ => rfl
  | d + 1, F, F', l, hF, hF' => bindP_agree rfl fun h s hs => by
    have hq := head_lessF hs
    have ih : ∀ m, m.length ≤ s.length → itemP F d m = itemP F' d m := fun m hm => item_fuel d F F' m (by omega) (by omega)
    have hlist : ∀ size, listP F (itemP F d) (size + 1) h s = listP F' (itemP F' d) (size + 1) h s := fun size => by
      unfold listP
      split
      · exact open_agree ih (goodP_item F' d) (wantP_item F' d) _ _ _ _ (Nat.le_refl _) (by omega) (by omega)
      · exact times_agree ih (fun l t r ht => good_le (goodP_item F' d) ht) _ _ _ (Nat.le_refl _)
    unfold bodyP
    split
    · rfl
    split
    · rfl
    split
    · rfl
    split
    · exact bindP_agree (text_fuel (by omega) (by omega)) fun _ _ _ => rfl
    split
    · exact bindP_agree (text_fuel (by omega) (by omega)) fun _ _ _ => rfl
    split
    · exact bindP_agree (hlist 0) fun _ _ _ => rfl
    split
    · exact bindP_agree (hlist 1) fun _ _ _ => rfl
    split
    · exact bindP_agree (ih s (Nat.le_refl _)) fun _ _ _ => rfl
    · rfl
end Go.Proofs.YtflkmhgbinlfiaaGreatDoor
namespace Go.Proofs.YtflkmhgbinlfiaaGreatDoor
open Go.RowKit Go.Shelf
attribute [local go_sem] Oper.semAt_some

theorem bs_append (r : List UInt8) (m : ByteArray) : bs (r ++ m.data.toList) = bs r ++ m := by
  apply ByteArray.ext
  apply Array.toList_inj.1
  rw [ByteArray.data_append, Array.toList_append]
  rfl
theorem cat_list (s m : ByteArray) : (s ++ m).data.toList = s.data.toList ++ m.data.toList := by rw [ByteArray.data_append, Array.toList_append]
theorem data_len (s : ByteArray) : s.data.toList.length = s.size := by simp
theorem ext_size (s : ByteArray) (k : Nat) (h : k ≤ s.size) : (s.extract 0 k).size = k := by simp; omega
theorem zeroN_eq : zeroN = .agg #[.int .i64 0, .bool false, .bool false, .string ⟨#[]⟩, .int .i64 0, .int .u64 0, .int .i64 0, .string ⟨#[]⟩, .slice none 0 0] := rfl

end Go.Proofs.YtflkmhgbinlfiaaGreatDoor
namespace Go.Proofs.YtflkmhgbinlfiaaGreatDoor
open Go.RowKit Go.Shelf

theorem RowT.blk {W : World} {S : Nat → Prop} {d k n : Nat} {l : List Tr} {xs : List Value} {cs : Array Value} (h : RowT W S d l xs) (hk : Blk W k cs 28) (hc : cs = xs.toArray) (hn : l.length = n) (hl : n ≤ 9223372036854775807) (hS : ∀ q, S q → q < k + 1) : ListAt W (k + 1) (d + 1) l (.slice (some ⟨k, 0, none⟩) n n) := by
  subst hn hc
  refine ⟨_, _, rfl, ⟨hl, Nat.le_refl _⟩, fun i hi => ?_⟩
  obtain ⟨y, ho, hg, hkk⟩ := h.get i hi
  refine ⟨_, y, rfl, Nat.lt_succ_self k, ho, fun j u hu => ?_, hkk.mono hS⟩
  have ha : (⟨k, 0, none⟩ : Addr).add (i * 9 + j) = ⟨k, i * 9 + j, none⟩ := by
    unfold Addr.add
    split
    · rename_i e
      rw [e]
    · simp
  rw [ha, hk.cell, List.getElem?_toArray]
  exact hg j u hu



end Go.Proofs.YtflkmhgbinlfiaaGreatDoor
namespace Go.Proofs.YtflkmhgbinlfiaaGreatDoor
open Go.RowKit Go.Shelf
attribute [local go_sem] Oper.semAt_some


end Go.Proofs.YtflkmhgbinlfiaaGreatDoor
