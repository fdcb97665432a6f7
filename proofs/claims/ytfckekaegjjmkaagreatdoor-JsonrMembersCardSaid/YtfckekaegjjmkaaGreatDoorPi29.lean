/- The texts JrI, JrK, put together. -/
import Derived.Test.YtfckekaegjjmkaaGreatDoorPi28
import Derived.Deep.RegionHeld3
namespace Go.Proofs.YtfckekaegjjmkaaGreatDoor
open Go.RowKit Go.Shelf
attribute [local go_sem] Oper.semAt_some

set_option maxHeartbeats 4000000 in
set_option maxRecDepth 100000 in
theorem jr_list_deep (p D : Nat) (kd : Int) (c0 en : UInt8) (mem : Bool) (s : ByteArray) (w : World) (hr : RdJ w p s 16) :
    Calls Tryz.prog 149 #[.pointer (some ⟨p, 0, none⟩), .int .i64 kd, .string ⟨#[c0]⟩, .string ⟨#[en]⟩, .bool mem] w (ReadJ p 16 D w s (.bad 60)) := by
  have hplt := hr.lt
  have hsl : s.data.toList.length = s.size := by simp
  obtain ⟨⟨b, r⟩, hx⟩ : ∃ x, takeJ [c0] s.data.toList = x := ⟨_, rfl⟩
  have hl := takeJ_len [c0] s.data.toList
  rw [hx, hsl] at hl
  have HL := Lib.hid (show r.length ≤ s.size from hl)
  have HT := Lib.hid (fun W (h : RdJ W p s 16) => jr_takeE p 16 s ⟨#[c0]⟩ W h)
  have HT : Hid (∀ W, RdJ W p s 16 → Calls Tryz.prog 182 #[.pointer (some ⟨p, 0, none⟩), .string ⟨#[c0]⟩] W fun e w' => e = .returned (.bool b) ∧ w' = W.setCell ⟨p, 0, none⟩ (.string (bsD r))) := Lib.hid (fun W h => by
    have := HT.out W h
    rw [show (⟨#[c0]⟩ : ByteArray).data.toList = [c0] from rfl, hx] at this
    exact this)
  have hb2 : Below w.heap.size w ((w.alloc (.cells zeroC 27)).alloc (.cells #[.nilIface] 62)) := ((Below.refl _ w).alloc (Nat.le_refl _) _).alloc (by simp) _
  have hr2 := (hr.alloc (.cells zeroC 27)).alloc (.cells #[.nilIface] 62)
  have hk0 : Blk ((w.alloc (.cells zeroC 27)).alloc (.cells #[.nilIface] 62)) w.heap.size zeroC 27 := (Blk.new w _ _).alloc _
  have hk1 : Blk ((w.alloc (.cells zeroC 27)).alloc (.cells #[.nilIface] 62)) (w.heap.size + 1) #[.nilIface] 62 := by
    have := Blk.new (w.alloc (.cells zeroC 27)) #[.nilIface] 62
    rw [World.size_alloc] at this
    exact this
  clear hx hr hl hsl
  go_enter Tryz.func149, Tryz.ntmps149
  go_wp2_with fail
  refine (HT.out _ hr2).mono ?_
  rintro e w3 ⟨rfl, hw3⟩
  have hg3 : ((w.alloc (.cells zeroC 27)).alloc (.cells #[.nilIface] 62)).grownBy w3 (some p) := by rw [hw3]; exact grown_set _ p 0 _
  have hr3 : RdJ w3 p (bsD r) 16 := by rw [hw3]; exact hr2.set 0 _
  clear hw3
  have hk03 := (blk_gb hk0 hg3 (by omega)).other (b' := p) (by omega) 1 (.int .i64 17)
  have hk13 := (blk_gb hk1 hg3 (by omega)).other (b' := p) (by omega) 1 (.int .i64 17)
  have hr4 : RdJ (w3.setCell ⟨p, 1, none⟩ (.int .i64 17)) p (bsD r) 17 := hr3.set 1 _
  have hg4 : w.grownBy (w3.setCell ⟨p, 1, none⟩ (.int .i64 17)) (some p) := grown_trans (grown_trans (below_grown hb2 _) hg3) (grown_set w3 p 1 _)
  have q1 : w3.cell? ⟨p, 1, none⟩ = some (.int .i64 16) := hr3.cell 1
  have f1 := hr3.frozen 1
  have q2 : (w3.setCell ⟨p, 1, none⟩ (.int .i64 17)).cell? ⟨p, 1, none⟩ = some (.int .i64 17) := hr4.cell 1
  have hk13' := blk_row_other hk13 (by omega : w.heap.size + 1 ≠ w.heap.size) zeroC
  have g1 := hk13'.frozen 0
  have q3 := hk13'.cell 0
  clear hr2 hk0 hk1 hb2 hg3 hr3
  go_wp2_with (refine wpList_store_row rfl 27 (.tmp 10) (.tmp 33) rfl (w.heap.size) zeroC rfl rfl 27 _ hk03 (by kernel_rfl) rfl (by simp [Value.oneCell']) ?_)
  refine bodyPost_ret (results_cell2 (T := 27) (T2 := 62) (b := w.heap.size) (b2 := w.heap.size + 1) (u := errJ 60) rfl (by kernel_rfl) (by kernel_rfl) ((blk_row hk03 zeroC).other (b' := w.heap.size + 1) (by omega) 0 _) Tryz.underlying27 rfl (by kernel_rfl) Tryz.underlying62 rfl ((hk13'.set 0 (errJ 60)).cell 0)) rfl ?_
  exact ⟨grown_at (grown_at hg4 (grown_row _ _ _) (by omega)) (grown_set _ (w.heap.size + 1) 0 _) (by omega), ⟨rfl, .inl rfl⟩, bsD r, 17, (blk_row_other hr4 (by omega) _).other (by omega) 0 _, HL.out⟩

set_option maxHeartbeats 4000000 in
set_option maxRecDepth 100000 in
theorem jr_array (p d D : Nat) (s : ByteArray) (res : PR Tr) (w : World) (hR : RdJ w p s d)
    (hC : ∀ W, Below w.heap.size w W → RdJ W p s d → Calls Tryz.prog 149 #[.pointer (some ⟨p, 0, none⟩), .int .i64 7, .string ⟨#[91]⟩, .string ⟨#[93]⟩, .bool false] W (ReadJ p d D W s res)) :
    Calls Tryz.prog 113 #[.pointer (some ⟨p, 0, none⟩)] w (ReadJ p d D w s res) := by
  have HC := Lib.hid (hC _ ((Below.refl _ w).alloc (Nat.le_refl _) (.cells zeroC 27)) (hR.alloc (.cells zeroC 27)))
  clear hC
  have hk1 := Blk.new w zeroC 27
  have hr1 := hR.alloc (.cells zeroC 27)
  have hb1 : Below w.heap.size w (w.alloc (.cells zeroC 27)) := (Below.refl _ w).alloc (Nat.le_refl _) _
  have hplt := hR.lt
  have hz1 : (w.alloc (.cells zeroC 27)).heap.size = w.heap.size + 1 := by simp
  clear hR
  cases res with
  | bad e =>
    have HC : Hid (Calls Tryz.prog 149 #[.pointer (some ⟨p, 0, none⟩), .int .i64 7, .string ⟨#[91]⟩, .string ⟨#[93]⟩, .bool false] (w.alloc (.cells zeroC 27)) fun x w' => (w.alloc (.cells zeroC 27)).grownBy w' (some p) ∧ (x = .returned (.tuple #[.agg zeroC, errJ e]) ∧ (e = 60 ∨ e = 80)) ∧ ∃ s' d', RdJ w' p s' d' ∧ s'.size ≤ s.size) := HC
    go_enter Tryz.func113, Tryz.ntmps113
    go_wp2_with fail
    refine HC.out.mono ?_
    rintro x w3 ⟨hg3, ⟨rfl, he⟩, s', d', hr3, hs3⟩
    have hk3 := (hg3.block w.heap.size hk1.lt (fun e => by injection e with e; omega)).trans hk1
    have hg : w.grownBy w3 (some p) := grown_trans (below_grown hb1 _) hg3
    go_wp2_with (refine wpList_store_row rfl 27 (.tmp 2) (.tmp 6) rfl (w.heap.size) zeroC rfl rfl 27 _ hk3 (by kernel_rfl) rfl (by simp [Value.oneCell']) ?_)
    refine bodyPost_ret (results_cell (T := 27) rfl rfl rfl (blk_row hk3 zeroC) Tryz.underlying27 rfl (by kernel_rfl)) rfl ?_
    exact ⟨grown_at hg (grown_row _ _ _) (by omega), ⟨rfl, he⟩, s', d', blk_row_other hr3 (by omega) _, hs3⟩
  | good t r =>
    have HC : Hid (Calls Tryz.prog 149 #[.pointer (some ⟨p, 0, none⟩), .int .i64 7, .string ⟨#[91]⟩, .string ⟨#[93]⟩, .bool false] (w.alloc (.cells zeroC 27)) fun x w' => (w.alloc (.cells zeroC 27)).grownBy w' (some p) ∧ (∃ A n c, x = .returned (.tuple #[nodeV t.own (.slice A n c), .nilIface]) ∧ LAt w' (fun q => (w.alloc (.cells zeroC 27)).heap.size ≤ q ∧ q < w'.heap.size) D t.kids (.slice A n c)) ∧ OwnOk t.own ∧ RdJ w' p (bsD r) d ∧ r.length ≤ s.size) := HC
    obtain ⟨⟨kind3, b3, neg3, dg3, ex3, u3, wd3, s3⟩, ho3⟩ : ∃ o, t.own = o := ⟨_, rfl⟩
    have HO3 := Lib.hid ho3
    rw [ho3] at HC
    unfold nodeV at HC
    simp only [] at HC
    clear ho3
    go_enter Tryz.func113, Tryz.ntmps113
    go_wp2_with fail
    refine HC.out.mono ?_
    rintro x w3 ⟨hg3, ⟨A, n, c, rfl, hly⟩, hot, hr3, hs3⟩
    have hk3 := (hg3.block w.heap.size hk1.lt (fun e => by injection e with e; omega)).trans hk1
    have hg : w.grownBy w3 (some p) := grown_trans (below_grown hb1 _) hg3
    have HLY := Lib.hid hly
    clear hly
    go_wp2_with (refine wpList_store_row rfl 27 (.tmp 2) (.tmp 6) rfl (w.heap.size) #[.int .i64 kind3, .bool b3, .bool neg3, .string dg3, .int .i64 ex3, .int .u64 u3, .int .i64 wd3, .string s3, .slice A n c] rfl rfl 27 _ hk3 (by kernel_rfl) rfl (by simp [Value.oneCell']) ?_)
    refine bodyPost_ret (results_cell (T := 27) rfl rfl rfl (blk_row hk3 #[.int .i64 kind3, .bool b3, .bool neg3, .string dg3, .int .i64 ex3, .int .u64 u3, .int .i64 wd3, .string s3, .slice A n c]) Tryz.underlying27 rfl (by kernel_rfl)) rfl ?_
    refine ⟨grown_at hg (grown_row _ _ _) (by omega), ⟨A, n, c, by rw [HO3.out]; rfl, ?_⟩, by rw [HO3.out]; exact hot, blk_row_other hr3 (by omega) _, hs3⟩
    refine ((HLY.out.keep (W' := w3.setRow w.heap.size #[.int .i64 kind3, .bool b3, .bool neg3, .string dg3, .int .i64 ex3, .int .u64 u3, .int .i64 wd3, .string s3, .slice A n c]) (fun q hq => setRow_other _ _ _ _ (by have := hq.1; omega))).mono (fun q hq => ?_))
    rw [setRow_size]
    exact ⟨by have := hq.1; omega, hq.2⟩

set_option maxHeartbeats 4000000 in
set_option maxRecDepth 100000 in
theorem jr_members (p d D : Nat) (s : ByteArray) (res : PR Tr) (w : World) (hR : RdJ w p s d)
    (hC : ∀ W, Below w.heap.size w W → RdJ W p s d → Calls Tryz.prog 149 #[.pointer (some ⟨p, 0, none⟩), .int .i64 8, .string ⟨#[123]⟩, .string ⟨#[125]⟩, .bool true] W (ReadJ p d D W s res)) :
    Calls Tryz.prog 114 #[.pointer (some ⟨p, 0, none⟩)] w (ReadJ p d D w s res) := by
  have HC := Lib.hid (hC _ ((Below.refl _ w).alloc (Nat.le_refl _) (.cells zeroC 27)) (hR.alloc (.cells zeroC 27)))
  clear hC
  have hk1 := Blk.new w zeroC 27
  have hr1 := hR.alloc (.cells zeroC 27)
  have hb1 : Below w.heap.size w (w.alloc (.cells zeroC 27)) := (Below.refl _ w).alloc (Nat.le_refl _) _
  have hplt := hR.lt
  have hz1 : (w.alloc (.cells zeroC 27)).heap.size = w.heap.size + 1 := by simp
  clear hR
  cases res with
  | bad e =>
    have HC : Hid (Calls Tryz.prog 149 #[.pointer (some ⟨p, 0, none⟩), .int .i64 8, .string ⟨#[123]⟩, .string ⟨#[125]⟩, .bool true] (w.alloc (.cells zeroC 27)) fun x w' => (w.alloc (.cells zeroC 27)).grownBy w' (some p) ∧ (x = .returned (.tuple #[.agg zeroC, errJ e]) ∧ (e = 60 ∨ e = 80)) ∧ ∃ s' d', RdJ w' p s' d' ∧ s'.size ≤ s.size) := HC
    go_enter Tryz.func114, Tryz.ntmps114
    go_wp2_with fail
    refine HC.out.mono ?_
    rintro x w3 ⟨hg3, ⟨rfl, he⟩, s', d', hr3, hs3⟩
    have hk3 := (hg3.block w.heap.size hk1.lt (fun e => by injection e with e; omega)).trans hk1
    have hg : w.grownBy w3 (some p) := grown_trans (below_grown hb1 _) hg3
    go_wp2_with (refine wpList_store_row rfl 27 (.tmp 2) (.tmp 6) rfl (w.heap.size) zeroC rfl rfl 27 _ hk3 (by kernel_rfl) rfl (by simp [Value.oneCell']) ?_)
    refine bodyPost_ret (results_cell (T := 27) rfl rfl rfl (blk_row hk3 zeroC) Tryz.underlying27 rfl (by kernel_rfl)) rfl ?_
    exact ⟨grown_at hg (grown_row _ _ _) (by omega), ⟨rfl, he⟩, s', d', blk_row_other hr3 (by omega) _, hs3⟩
  | good t r =>
    have HC : Hid (Calls Tryz.prog 149 #[.pointer (some ⟨p, 0, none⟩), .int .i64 8, .string ⟨#[123]⟩, .string ⟨#[125]⟩, .bool true] (w.alloc (.cells zeroC 27)) fun x w' => (w.alloc (.cells zeroC 27)).grownBy w' (some p) ∧ (∃ A n c, x = .returned (.tuple #[nodeV t.own (.slice A n c), .nilIface]) ∧ LAt w' (fun q => (w.alloc (.cells zeroC 27)).heap.size ≤ q ∧ q < w'.heap.size) D t.kids (.slice A n c)) ∧ OwnOk t.own ∧ RdJ w' p (bsD r) d ∧ r.length ≤ s.size) := HC
    obtain ⟨⟨kind3, b3, neg3, dg3, ex3, u3, wd3, s3⟩, ho3⟩ : ∃ o, t.own = o := ⟨_, rfl⟩
    have HO3 := Lib.hid ho3
    rw [ho3] at HC
    unfold nodeV at HC
    simp only [] at HC
    clear ho3
    go_enter Tryz.func114, Tryz.ntmps114
    go_wp2_with fail
    refine HC.out.mono ?_
    rintro x w3 ⟨hg3, ⟨A, n, c, rfl, hly⟩, hot, hr3, hs3⟩
    have hk3 := (hg3.block w.heap.size hk1.lt (fun e => by injection e with e; omega)).trans hk1
    have hg : w.grownBy w3 (some p) := grown_trans (below_grown hb1 _) hg3
    have HLY := Lib.hid hly
    clear hly
    go_wp2_with (refine wpList_store_row rfl 27 (.tmp 2) (.tmp 6) rfl (w.heap.size) #[.int .i64 kind3, .bool b3, .bool neg3, .string dg3, .int .i64 ex3, .int .u64 u3, .int .i64 wd3, .string s3, .slice A n c] rfl rfl 27 _ hk3 (by kernel_rfl) rfl (by simp [Value.oneCell']) ?_)
    refine bodyPost_ret (results_cell (T := 27) rfl rfl rfl (blk_row hk3 #[.int .i64 kind3, .bool b3, .bool neg3, .string dg3, .int .i64 ex3, .int .u64 u3, .int .i64 wd3, .string s3, .slice A n c]) Tryz.underlying27 rfl (by kernel_rfl)) rfl ?_
    refine ⟨grown_at hg (grown_row _ _ _) (by omega), ⟨A, n, c, by rw [HO3.out]; rfl, ?_⟩, by rw [HO3.out]; exact hot, blk_row_other hr3 (by omega) _, hs3⟩
    refine ((HLY.out.keep (W' := w3.setRow w.heap.size #[.int .i64 kind3, .bool b3, .bool neg3, .string dg3, .int .i64 ex3, .int .u64 u3, .int .i64 wd3, .string s3, .slice A n c]) (fun q hq => setRow_other _ _ _ _ (by have := hq.1; omega))).mono (fun q hq => ?_))
    rw [setRow_size]
    exact ⟨by have := hq.1; omega, hq.2⟩

theorem run_insB (w : World) (t : TypeId) (kt et : TypeId) (ht : Tryz.prog.underlying t = some (.map kt et)) (hk : Tryz.prog.underlying kt = some (.int .u8)) (es : Array MapEntry) (c : Nat) (k : Int) (v : Value)
    (hf : Instr.findNow (.int .u8) (.int .u8 k) es.toList 0 = some none) :
    (Instr.mapUpdate t (.map (some w.heap.size)) (.int .u8 k) v).run Tryz.prog (w.alloc (.map es c)) = .ok () (w.alloc (.map (es.push ⟨.int .u8 k, v, c⟩) (c + 1))) := by
  have h1 : (Instr.findKey kt (.int .u8 k) es.toList).run Tryz.prog (w.alloc (.map es c)) = .ok none (w.alloc (.map es c)) := MapKept.run_findKey hk hf
  have h2 : (Instr.checkKey false 10000 kt (.int .u8 k)).run Tryz.prog (w.alloc (.map es c)) = .ok () (w.alloc (.map es c)) := by
    unfold Instr.checkKey
    simp [run_underlying hk]
  have h3 : ∀ o, (setObj w.heap.size o).run Tryz.prog (w.alloc (.map es c)) = .ok () (w.alloc o) := fun o => by
    simp only [setObj, Sem.run, heap_alloc_new]
    show Result.ok () ({ w.alloc (.map es c) with heap := (w.heap.push (.map es c)).setIfInBounds w.heap.size o } : World) = _
    rw [show (w.heap.push (.map es c)).setIfInBounds w.heap.size o = w.heap.push o by
      apply Array.toList_inj.1
      simp]
    rfl
  simp only [Instr.mapUpdate, Sem.run_bind, run_underlying ht, Result.andThen, MapKept.run_getObj_map (heap_alloc_new w _), h2, h1, h3]
def startsJ (p : Nat) : Array MapEntry := #[⟨.int .u8 91, .func (.func 113) #[.pointer (some ⟨p, 0, none⟩)] #[], 0⟩, ⟨.int .u8 123, .func (.func 114) #[.pointer (some ⟨p, 0, none⟩)] #[], 1⟩, ⟨.int .u8 34, .func (.func 115) #[.pointer (some ⟨p, 0, none⟩)] #[], 2⟩, ⟨.int .u8 110, .func (.func 116) #[.pointer (some ⟨p, 0, none⟩)] #[], 3⟩, ⟨.int .u8 116, .func (.func 117) #[.pointer (some ⟨p, 0, none⟩)] #[], 4⟩, ⟨.int .u8 102, .func (.func 118) #[.pointer (some ⟨p, 0, none⟩)] #[], 5⟩]

set_option maxHeartbeats 4000000 in
set_option maxRecDepth 100000 in
theorem jr_starts (p : Nat) (w : World) :
    Calls Tryz.prog 75 #[.pointer (some ⟨p, 0, none⟩)] w fun e w' => e = .returned (.map (some w.heap.size)) ∧ w' = w.alloc (.map (startsJ p) 6) := by
  have h0 := run_makeMap (P := Tryz.prog) 116 w
  have hi := run_insB w 116 5 64 Tryz.underlying116 Tryz.underlying5
  have g91 := hi #[] 0 91 (.func (.func 113) #[.pointer (some ⟨p, 0, none⟩)] #[]) rfl
  have g123 := hi #[⟨.int .u8 91, .func (.func 113) #[.pointer (some ⟨p, 0, none⟩)] #[], 0⟩] 1 123 (.func (.func 114) #[.pointer (some ⟨p, 0, none⟩)] #[]) rfl
  have g34 := hi #[⟨.int .u8 91, .func (.func 113) #[.pointer (some ⟨p, 0, none⟩)] #[], 0⟩, ⟨.int .u8 123, .func (.func 114) #[.pointer (some ⟨p, 0, none⟩)] #[], 1⟩] 2 34 (.func (.func 115) #[.pointer (some ⟨p, 0, none⟩)] #[]) rfl
  have g110 := hi #[⟨.int .u8 91, .func (.func 113) #[.pointer (some ⟨p, 0, none⟩)] #[], 0⟩, ⟨.int .u8 123, .func (.func 114) #[.pointer (some ⟨p, 0, none⟩)] #[], 1⟩, ⟨.int .u8 34, .func (.func 115) #[.pointer (some ⟨p, 0, none⟩)] #[], 2⟩] 3 110 (.func (.func 116) #[.pointer (some ⟨p, 0, none⟩)] #[]) rfl
  have g116 := hi #[⟨.int .u8 91, .func (.func 113) #[.pointer (some ⟨p, 0, none⟩)] #[], 0⟩, ⟨.int .u8 123, .func (.func 114) #[.pointer (some ⟨p, 0, none⟩)] #[], 1⟩, ⟨.int .u8 34, .func (.func 115) #[.pointer (some ⟨p, 0, none⟩)] #[], 2⟩, ⟨.int .u8 110, .func (.func 116) #[.pointer (some ⟨p, 0, none⟩)] #[], 3⟩] 4 116 (.func (.func 117) #[.pointer (some ⟨p, 0, none⟩)] #[]) rfl
  have g102 := hi #[⟨.int .u8 91, .func (.func 113) #[.pointer (some ⟨p, 0, none⟩)] #[], 0⟩, ⟨.int .u8 123, .func (.func 114) #[.pointer (some ⟨p, 0, none⟩)] #[], 1⟩, ⟨.int .u8 34, .func (.func 115) #[.pointer (some ⟨p, 0, none⟩)] #[], 2⟩, ⟨.int .u8 110, .func (.func 116) #[.pointer (some ⟨p, 0, none⟩)] #[], 3⟩, ⟨.int .u8 116, .func (.func 117) #[.pointer (some ⟨p, 0, none⟩)] #[], 4⟩] 5 102 (.func (.func 118) #[.pointer (some ⟨p, 0, none⟩)] #[]) rfl
  clear hi
  simp only [List.push_toArray, List.cons_append, List.nil_append, Nat.zero_add, Nat.reduceAdd] at g91 g123 g34 g110 g116 g102
  go_enter Tryz.func75, Tryz.ntmps75
  go_wp2
  go_ret
  exact ⟨rfl, rfl⟩
/-- The bytes that begin a value by a reader of its own. -/
def begB (k : Int) : Prop := k = 91 ∨ k = 123 ∨ k = 34 ∨ k = 110 ∨ k = 116 ∨ k = 102
/-- The reader of a byte. -/
def rjF (k : Int) : FuncId := if k = 91 then 113 else if k = 123 then 114 else if k = 34 then 115 else if k = 110 then 116 else if k = 116 then 117 else 118
theorem starts_find (p : Nat) (k : Int) (h : begB k) : ∃ i, Instr.findNow (.int .u8) (.int .u8 k) (startsJ p).toList 0 = some (some (i, .func (.func (rjF k)) #[.pointer (some ⟨p, 0, none⟩)] #[])) := by
  rcases h with rfl | rfl | rfl | rfl | rfl | rfl <;> exact ⟨_, rfl⟩
theorem starts_none (p : Nat) (k : Nat) (_ : k < 256) (h : ¬ begB k) : Instr.findNow (.int .u8) (.int .u8 k) (startsJ p).toList 0 = some none := by
  unfold begB at h
  have e : ∀ (m : Int), (k : Int) ≠ m → Instr.sameNow (.int .u8) (.int .u8 (k : Int)) (.int .u8 m) = some false := fun m hm => by
    simp [Instr.sameNow, hm]
  simp only [startsJ, Instr.findNow]
  rw [e 91 (by omega), e 123 (by omega), e 34 (by omega), e 110 (by omega), e 116 (by omega), e 102 (by omega)]

set_option maxRecDepth 100000 in
theorem starts_look (p : Nat) (w : World) (b : Nat) (hm : w.heap[b]? = some (.map (startsJ p) 6)) (k : Int) (h : begB k) :
    (Instr.lookup 116 (.map (some b)) (.int .u8 k) true).run Tryz.prog w = .ok (.tuple #[.func (.func (rjF k)) #[.pointer (some ⟨p, 0, none⟩)] #[], .bool true]) w := by
  obtain ⟨i, hf⟩ := starts_find p k h
  have q1 : (Instr.findKey 5 (.int .u8 k) (startsJ p).toList).run Tryz.prog w = .ok (some (i, .func (.func (rjF k)) #[.pointer (some ⟨p, 0, none⟩)] #[])) w := MapKept.run_findKey Tryz.underlying5 hf
  have q2 : (Instr.checkKey (startsJ p).isEmpty 10000 5 (.int .u8 k)).run Tryz.prog w = .ok () w := by
    unfold Instr.checkKey
    simp [run_underlying Tryz.underlying5]
  simp only [Instr.lookup, Sem.run_bind, run_underlying Tryz.underlying116, Result.andThen, MapKept.run_getObj_map hm, q2, q1, Sem.run_pure]
  rfl
set_option maxRecDepth 100000 in
theorem starts_miss (p : Nat) (w : World) (b : Nat) (hm : w.heap[b]? = some (.map (startsJ p) 6)) (k : Nat) (hk : k < 256) (h : ¬ begB k) :
    (Instr.lookup 116 (.map (some b)) (.int .u8 k) true).run Tryz.prog w = .ok (.tuple #[.nilFunc, .bool false]) w := by
  have hf := starts_none p k hk h
  have q1 : (Instr.findKey 5 (.int .u8 k) (startsJ p).toList).run Tryz.prog w = .ok none w := MapKept.run_findKey Tryz.underlying5 hf
  have q2 : (Instr.checkKey (startsJ p).isEmpty 10000 5 (.int .u8 k)).run Tryz.prog w = .ok () w := by
    unfold Instr.checkKey
    simp [run_underlying Tryz.underlying5]
  have q3 : (zeroValue 64).run Tryz.prog w = .ok .nilFunc w := by kernel_rfl
  simp only [Instr.lookup, Sem.run_bind, run_underlying Tryz.underlying116, Result.andThen, MapKept.run_getObj_map hm, q2, q1, q3, Sem.run_pure]
  rfl
set_option maxRecDepth 100000 in
theorem rjF_enters (k : Int) (h : begB k) (args : Array Value) (w : World) : (callFunc (rjF k) args).run Tryz.prog w = .ok (.enter (rjF k) args) w := by
  rcases h with rfl | rfl | rfl | rfl | rfl | rfl
  · exact enters_of Tryz.func113 (by kernel_rfl) rfl args w
  · exact enters_of Tryz.func114 (by kernel_rfl) rfl args w
  · exact enters_of Tryz.func115 (by kernel_rfl) rfl args w
  · exact enters_of Tryz.func116 (by kernel_rfl) rfl args w
  · exact enters_of Tryz.func117 (by kernel_rfl) rfl args w
  · exact enters_of Tryz.func118 (by kernel_rfl) rfl args w
end Go.Proofs.YtfckekaegjjmkaaGreatDoor
namespace Go.Proofs.YtfckekaegjjmkaaGreatDoor
open Go.RowKit Go.Shelf
attribute [local go_sem] Oper.semAt_some

theorem str_isS {s : ByteArray} (h : s.size ≠ 0) : s.toList.isEmpty = false := by
  rw [ByteArray.toList_eq]
  cases hl : s.data.toList with
  | nil => exact absurd (show s.data.toList.length = 0 by rw [hl]; rfl) (by simpa using h)
  | cons a l => rfl

set_option maxHeartbeats 4000000 in
set_option maxRecDepth 100000 in
/-- value of nothing. -/
theorem jr_value_nil (p d D : Nat) (w : World) (hR : RdJ w p ⟨#[]⟩ d) :
    Calls Tryz.prog 53 #[.pointer (some ⟨p, 0, none⟩)] w (ReadJ p d D w ⟨#[]⟩ (.bad 80)) := by
  have hk1 := Blk.new w zeroC 27
  have hr1 := hR.alloc (.cells zeroC 27)
  have hb1 : Below w.heap.size w (w.alloc (.cells zeroC 27)) := (Below.refl _ w).alloc (Nat.le_refl _) _
  have hplt := hR.lt
  have q0 := hr1.cell 0
  go_enter Tryz.func53, Tryz.ntmps53
  go_wp2_with fail
  refine (jr_bad _).mono ?_
  rintro e w4 ⟨rfl, rfl⟩
  go_wp2_with (refine wpList_store_row rfl 27 (.tmp 2) (.tmp 15) rfl (w.heap.size) zeroC rfl rfl 27 _ hk1 (by kernel_rfl) rfl (by simp [Value.oneCell']) ?_)
  refine bodyPost_ret (results_cell (T := 27) rfl rfl rfl (blk_row hk1 zeroC) Tryz.underlying27 rfl (by kernel_rfl)) rfl ?_
  exact ⟨grown_at (below_grown hb1 _) (grown_row _ _ _) (by omega), ⟨rfl, .inr rfl⟩, _, d, blk_row_other hr1 (by omega) _, Nat.le_refl _⟩

set_option maxHeartbeats 4000000 in
set_option maxRecDepth 100000 in
/-- value of what begins with a byte that has a reader of its own. -/
theorem jr_value_beg (p d D : Nat) (s : ByteArray) (res : PR Tr) (w : World) (hR : RdJ w p s d) (hz : 0 < s.size) (hs : s.size ≤ 100000000) (hk : begB (s[0].toNat : Int))
    (hC : ∀ W, Below w.heap.size w W → RdJ W p s d → Calls Tryz.prog (rjF (s[0].toNat : Int)) #[.pointer (some ⟨p, 0, none⟩)] W (ReadJ p d D W s res)) :
    Calls Tryz.prog 53 #[.pointer (some ⟨p, 0, none⟩)] w (ReadJ p d D w s res) := by
  have hne := str_isS (show s.size ≠ 0 by omega)
  have z0 : (0 : Int) < s.size := by omega
  obtain ⟨c, hc⟩ : ∃ c : Int, (s[0].toNat : Int) = c := ⟨_, rfl⟩
  rw [hc] at hk hC
  have heg := rjF_enters c hk
  have HL := Lib.hid (fun w b hm => starts_look p w b hm c hk)
  have HS := Lib.hid (fun w => jr_starts p w)
  have hk1 := Blk.new w zeroC 27
  have hr1 := hR.alloc (.cells zeroC 27)
  have hb1 : Below w.heap.size w (w.alloc (.cells zeroC 27)) := (Below.refl _ w).alloc (Nat.le_refl _) _
  have hplt := hR.lt
  have q0 := hr1.cell 0
  have HK := Lib.hid hk1
  have HR := Lib.hid hr1
  have HB := Lib.hid hb1
  have HC := Lib.hid hC
  clear hk1 hr1 hb1 hC hR hk
  cases res with
  | bad e =>
    have HC : Hid (∀ W, Below w.heap.size w W → RdJ W p s d → Calls Tryz.prog (rjF c) #[.pointer (some ⟨p, 0, none⟩)] W fun x w' => W.grownBy w' (some p) ∧ (x = .returned (.tuple #[.agg zeroC, errJ e]) ∧ (e = 60 ∨ e = 80)) ∧ ∃ s' d', RdJ w' p s' d' ∧ s'.size ≤ s.size) := HC
    go_enter Tryz.func53, Tryz.ntmps53
    go_wp2_with fail
    go_region_held3 (fun w' => w'.cell? ⟨p, 0, none⟩ = some (.string s)) (go_keep)
      (first | (go_at_call 75; refine (HS.out _).mono ?_; rintro e w6 ⟨rfl, hw6⟩; have hs6 : (w.alloc (.cells zeroC 27)).drew.heap.size = w.heap.size + 1 := by { show (w.alloc _).heap.size = _; simp }; have hm6 : w6.heap[w.heap.size + 1]? = some (.map (startsJ p) 6) := by { rw [hw6, ← hs6]; exact heap_alloc_new _ _ }; have hb6 : Below w.heap.size w w6 := by { rw [hw6]; exact (HB.out.drew).alloc (by show w.heap.size ≤ (w.alloc _).heap.size; simp) _ }; have hk6 : Blk w6 w.heap.size zeroC 27 := by { rw [hw6]; exact (Blk.drew HK.out).alloc _ }; have hr6 : RdJ w6 p s d := by { rw [hw6]; exact (Blk.drew HR.out).alloc _ }; have hl6 := HL.out w6 _ hm6; simp only [hs6]; clear hw6 q0; have q0 := hr6.cell 0))
    all_goals
      have HCC := Lib.hid (HC.out w6 hb6 hr6)
      have HB6 := Lib.hid hb6
      have HK6 := Lib.hid hk6
      clear HC hb6 hk6 hr6 HK HR HB hm6 hl6 HL HS
      go_wp2_with fail
      refine HCC.out.mono ?_
      rintro x w7 ⟨hg7, ⟨rfl, he⟩, s', d', hr7, hs7⟩
      have hk7 := blk_gb HK6.out hg7 (by omega)
      have hg := grown_trans (below_grown HB6.out (some p)) hg7
      go_wp2_with (refine wpList_store_row rfl 27 (.tmp 2) (.tmp 32) rfl (w.heap.size) zeroC rfl rfl 27 _ hk7 (by kernel_rfl) rfl (by simp [Value.oneCell']) ?_)
      refine bodyPost_ret (results_cell (T := 27) rfl rfl rfl (blk_row hk7 zeroC) Tryz.underlying27 rfl (by kernel_rfl)) rfl ?_
      exact ⟨grown_at hg (grown_row _ _ _) (by omega), ⟨rfl, he⟩, s', d', blk_row_other hr7 (by omega) _, hs7⟩
  | good t r =>
    have HC : Hid (∀ W, Below w.heap.size w W → RdJ W p s d → Calls Tryz.prog (rjF c) #[.pointer (some ⟨p, 0, none⟩)] W fun x w' => W.grownBy w' (some p) ∧ (∃ A n c, x = .returned (.tuple #[nodeV t.own (.slice A n c), .nilIface]) ∧ LAt w' (fun q => W.heap.size ≤ q ∧ q < w'.heap.size) D t.kids (.slice A n c)) ∧ OwnOk t.own ∧ RdJ w' p (bsD r) d ∧ r.length ≤ s.size) := HC
    obtain ⟨⟨kind3, b3, neg3, dg3, ex3, u3, wd3, s3⟩, ho3⟩ : ∃ o, t.own = o := ⟨_, rfl⟩
    have HO3 := Lib.hid ho3
    rw [ho3] at HC
    unfold nodeV at HC
    simp only [] at HC
    clear ho3
    go_enter Tryz.func53, Tryz.ntmps53
    go_wp2_with fail
    go_region_held3 (fun w' => w'.cell? ⟨p, 0, none⟩ = some (.string s)) (go_keep)
      (first | (go_at_call 75; refine (HS.out _).mono ?_; rintro e w6 ⟨rfl, hw6⟩; have hs6 : (w.alloc (.cells zeroC 27)).drew.heap.size = w.heap.size + 1 := by { show (w.alloc _).heap.size = _; simp }; have hm6 : w6.heap[w.heap.size + 1]? = some (.map (startsJ p) 6) := by { rw [hw6, ← hs6]; exact heap_alloc_new _ _ }; have hb6 : Below w.heap.size w w6 := by { rw [hw6]; exact (HB.out.drew).alloc (by show w.heap.size ≤ (w.alloc _).heap.size; simp) _ }; have hk6 : Blk w6 w.heap.size zeroC 27 := by { rw [hw6]; exact (Blk.drew HK.out).alloc _ }; have hr6 : RdJ w6 p s d := by { rw [hw6]; exact (Blk.drew HR.out).alloc _ }; have hl6 := HL.out w6 _ hm6; simp only [hs6]; clear hw6 q0; have q0 := hr6.cell 0))
    all_goals
      have HCC := Lib.hid (HC.out w6 hb6 hr6)
      have HB6 := Lib.hid hb6
      have HK6 := Lib.hid hk6
      clear HC hb6 hk6 hr6 HK HR HB hm6 hl6 HL HS
      go_wp2_with fail
      refine HCC.out.mono ?_
      rintro x w7 ⟨hg7, ⟨A, n, c3, rfl, hly⟩, hot, hr7, hs7⟩
      have hk7 := blk_gb HK6.out hg7 (by omega)
      have hg := grown_trans (below_grown HB6.out (some p)) hg7
      have hz6 := HK6.out.lt
      have HLY := Lib.hid hly
      clear hly
      go_wp2_with (refine wpList_store_row rfl 27 (.tmp 2) (.tmp 32) rfl (w.heap.size) #[.int .i64 kind3, .bool b3, .bool neg3, .string dg3, .int .i64 ex3, .int .u64 u3, .int .i64 wd3, .string s3, .slice A n c3] rfl rfl 27 _ hk7 (by kernel_rfl) rfl (by simp [Value.oneCell']) ?_)
      refine bodyPost_ret (results_cell (T := 27) rfl rfl rfl (blk_row hk7 #[.int .i64 kind3, .bool b3, .bool neg3, .string dg3, .int .i64 ex3, .int .u64 u3, .int .i64 wd3, .string s3, .slice A n c3]) Tryz.underlying27 rfl (by kernel_rfl)) rfl ?_
      refine ⟨grown_at hg (grown_row _ _ _) (by omega), ⟨A, n, c3, by rw [HO3.out]; rfl, ?_⟩, by rw [HO3.out]; exact hot, blk_row_other hr7 (by omega) _, hs7⟩
      refine ((HLY.out.keep (W' := w7.setRow w.heap.size #[.int .i64 kind3, .bool b3, .bool neg3, .string dg3, .int .i64 ex3, .int .u64 u3, .int .i64 wd3, .string s3, .slice A n c3]) (fun q hq => setRow_other _ _ _ _ (by have := hq.1; omega))).mono (fun q hq => ?_))
      rw [setRow_size]
      exact ⟨by have := hq.1; omega, hq.2⟩
end Go.Proofs.YtfckekaegjjmkaaGreatDoor
