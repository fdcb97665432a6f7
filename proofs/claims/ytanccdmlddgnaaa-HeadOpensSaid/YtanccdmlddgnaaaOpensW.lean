/- The walk of the law HeadOpens. -/
import Derived.Test.YtanccdmlddgnaaaMoreW
import Derived.Test.YtanccdmlddgnaaaFlow
import Derived.Deep.RegionWith
import Derived.Deep.DeepCutAuto
import Derived.IntWalk
import Derived.Outline
namespace Go.Proofs.Ytanccdmlddgnaaa
open Go.RowKit Go.Shelf

theorem conv_byte (u : UInt8) (W : World) (b : Nat) (h : Blk W b #[.int .u8 (u.toNat : Int)] 5) :
    (convert 36 9 (.slice (some ⟨b, 0, none⟩) 1 1)).run Try.prog W = .ok (.string ⟨#[u]⟩) W := by
  refine run_convert_bytes_back _ 36 9 5 ⟨b, 0, none⟩ 1 [u] Try.underlying36 Try.underlying5 Try.underlying9 (fun j hj => ?_)
  obtain rfl : j = 0 := by simpa using hj
  simpa [Addr.add] using h.cell 0

set_option linter.unusedSimpArgs false
set_option maxRecDepth 100000 in
set_option maxHeartbeats 8000000 in
theorem opens_walk (maj : Int) (s : ByteArray) (_w0 : (Lit.int .i64 maj).wf = true) (_w1 : s.size ≤ maxLen) (w : World) :
    Calls Try.prog 7 #[.int .i64 maj, .string s] w fun e w' => e = .returned (.bool true) ∧ Below w.heap.size w w' := by
  by_cases hmaj : 0 ≤ maj ∧ maj ≤ 7
  · obtain ⟨M, rfl⟩ := Int.eq_ofNat_of_zero_le hmaj.1
    have HC := cut_40 s
    obtain ⟨c, hc⟩ : ∃ c, (⟨(s.data.toList.take 40).toArray⟩ : ByteArray) = c := ⟨_, rfl⟩
    have hcz : c.size ≤ 40 := by rw [← hc]; show (s.data.toList.take 40).toArray.size ≤ 40; simp; omega
    rw [hc] at HC
    clear hc
    have HC := Lib.hid HC
    have hr : ∀ info, info ≤ 31 → readL ((⟨#[firstByte M info]⟩ : ByteArray) ++ c).data.toList = readL (firstByte M info :: c.data.toList) := fun info _ => by
      simp only [ByteArray.data_append, Array.toList_append]; rfl
    have HR := head_Read (⟨#[firstByte M 31]⟩ ++ c) (by simp; show 1 + c.size ≤ _; omega)
    rw [hr 31 (by decide), readL_first M 31 _ (by omega) (by decide), if_neg (by decide), if_pos rfl] at HR
    unfold readV at HR
    have HR := Lib.hid HR
    have hcat : 1 + c.size ≤ 9223372036854775807 := by omega
    have hcv := Lib.hid (conv_byte (firstByte M 31))
    clear hr
    have q1 : IntKind.i64.wrap (32 * (M : Int)) = 32 * (M : Int) := IntWalk.i64_in _ (by omega)
    have q2 : IntKind.i64.wrap (32 * (M : Int) + 31) = 32 * (M : Int) + 31 := IntWalk.i64_in _ (by omega)
    have q3 : IntKind.u8.wrap (32 * (M : Int) + 31) = ((firstByte M 31).toNat : Int) := by rw [firstByte_toNat M 31 (by omega) (by decide), IntKind.wrap_u8']; omega
    go_enter Try.func7, Try.ntmps7
    go_wp2_with fail
    refine (shown_true _).mono ?_
    rintro e w1 ⟨rfl, hb1⟩
    go_upto_region 4 with fail
    go_cut [6, 7, 8, 9, 10] (fun s6 s7 s8 s9 s10 wx => s6 = .int .i64 M ∧ s7 = .int .i64 31 ∧ s8 = .int .u64 0 ∧ s9 = .string c ∧ s10 = .int .i64 0 ∧ Below w.heap.size w wx)
    refine wp_region_phis (by kernel_rfl) (by kernel_rfl) (by kernel_rfl) (fun W => Below w.heap.size w W ∧ w.heap.size ≤ W.heap.size)
      [fun v _ => v = .int .i64 M, fun v _ => v = .int .i64 (32 * M), fun v _ => v = .int .i64 (32 * M + 31), fun v _ => v = .int .u8 ((firstByte M 31).toNat : Int),
       fun v W => ∃ b, v = .slice (some ⟨b, 0, none⟩) 1 1 ∧ Blk W b #[.int .u8 ((firstByte M 31).toNat : Int)] 5,
       fun v _ => v = .string ⟨#[firstByte M 31]⟩, fun v _ => v = .string s, fun v _ => v = .string c, fun v _ => v = .string ((⟨#[firstByte M 31]⟩ : ByteArray) ++ c),
       fun v _ => v = .tuple #[.int .i64 M, .int .i64 31, .int .u64 0, .string c, .int .i64 0],
       fun v _ => v = .tuple #[.int .i64 M, .int .i64 31, .int .u64 0, .string c, .int .i64 0],
       fun v _ => v = .int .i64 M, fun v _ => v = .int .i64 31, fun v _ => v = .int .u64 0, fun v _ => v = .string c, fun v _ => v = .int .i64 0,
       fun v _ => v = .int .i64 M, fun v _ => v = .int .i64 31, fun v _ => v = .int .u64 0, fun v _ => v = .string c, fun v _ => v = .int .i64 0] ?_ ?_ ?_ ?_ ?_
    case refine_1 => exact ⟨hb1.drew, hb1.size⟩
    case refine_2 => exact fun W W' hE hb => ⟨hE.1.trans (hb.mono hE.2), Nat.le_trans hE.2 hb.size⟩
    case refine_3 =>
      intro p hp v W W' hE
      simp only [List.mem_cons, List.not_mem_nil, or_false] at hp
      rcases hp with rfl | rfl | rfl | rfl | rfl | rfl | rfl | rfl | rfl | rfl | rfl | rfl | rfl | rfl | rfl | rfl | rfl | rfl | rfl | rfl | rfl
      all_goals first | exact fun h _ => h | exact fun ⟨b, h1, h2⟩ hb => ⟨b, h1, h2.below hb h2.lt⟩
    case refine_4 =>
      refine flow_cons (flow_op rfl rfl (by kernel_rfl) (by kernel_rfl) ?_) ?_
      · intro env W hE hn ρ hρ hc hf hg K hK
        have r0 : ρ (.tmp 0) = .int .i64 M := by rw [hρ]; kernel_rfl
        clear hρ hn hg
        simp only [opLands, go_sem, hc, r0]
        exact hK _ _ rfl (Below.refl _ _)
      refine flow_cons (flow_op rfl rfl (by kernel_rfl) (by kernel_rfl) ?_) ?_
      · intro env W hE hn ρ hρ hc hf hg K hK
        have r27 := (show ρ (.tmp 27) = env 0 by rw [hρ]; kernel_rfl).trans (hn 0 (by kernel_rfl))
        clear hρ hn hg
        simp only [opLands, go_sem, hc, r27, q1]
        exact hK _ _ rfl (Below.refl _ _)
      refine flow_cons (flow_op rfl rfl (by kernel_rfl) (by kernel_rfl) ?_) ?_
      · intro env W hE hn ρ hρ hc hf hg K hK
        have r28 := (show ρ (.tmp 28) = env 1 by rw [hρ]; kernel_rfl).trans (hn 1 (by kernel_rfl))
        clear hρ hn hg
        simp only [opLands, go_sem, hc, r28, q2]
        exact hK _ _ rfl (Below.refl _ _)
      refine flow_cons (flow_op rfl rfl (by kernel_rfl) (by kernel_rfl) ?_) ?_
      · intro env W hE hn ρ hρ hc hf hg K hK
        have r29 := (show ρ (.tmp 29) = env 2 by rw [hρ]; kernel_rfl).trans (hn 2 (by kernel_rfl))
        clear hρ hn hg
        simp only [opLands, go_sem, hc, r29, q3]
        exact hK _ _ rfl (Below.refl _ _)
      refine flow_cons (flow_op rfl rfl (by kernel_rfl) (by kernel_rfl) ?_) ?_
      · intro env W hE hn ρ hρ hc hf hg K hK
        have r30 := (show ρ (.tmp 30) = env 3 by rw [hρ]; kernel_rfl).trans (hn 3 (by kernel_rfl))
        clear hρ hn hg
        simp [opLands, go_sem, hc, r30]
        exact hK _ _ ⟨_, rfl, Blk.new _ _ _⟩ ((Below.refl _ _).alloc (Nat.le_refl _) _)
      refine flow_cons (flow_op rfl rfl (by kernel_rfl) (by kernel_rfl) ?_) ?_
      · intro env W hE hn ρ hρ hc hf hg K hK
        obtain ⟨b, e31, hb⟩ := hn 4 (by kernel_rfl)
        have r31 := (show ρ (.tmp 31) = env 4 by rw [hρ]; kernel_rfl).trans e31
        clear hρ hn hg e31
        simp [opLands, go_sem, hc, r31, hcv.out W b hb]
        exact hK _ _ rfl (Below.refl _ _)
      refine flow_cons (flow_op rfl rfl (by kernel_rfl) (by kernel_rfl) ?_) ?_
      · intro env W hE hn ρ hρ hc hf hg K hK
        have r1 : ρ (.tmp 1) = .string s := by rw [hρ]; kernel_rfl
        clear hρ hn hg
        simp only [opLands, go_sem, hc, r1]
        exact hK _ _ rfl (Below.refl _ _)
      refine flow_cons (flow_op rfl rfl (by kernel_rfl) (by kernel_rfl) ?_) ?_
      · intro env W hE hn ρ hρ hc hf hg K hK
        have r33 := (show ρ (.tmp 33) = env 6 by rw [hρ]; kernel_rfl).trans (hn 6 (by kernel_rfl))
        clear hρ hn hg
        refine lands_call rfl (by kernel_rfl) hf ?_
        rw [show #[Operand.tmp 33].map ρ = #[Value.string s] by simp [r33]]
        exact (HC.out W).mono fun e W' h => ⟨_, h.1, hK _ _ rfl (h.2 ▸ Below.refl _ _)⟩
      refine flow_cons (flow_op rfl rfl (by kernel_rfl) (by kernel_rfl) ?_) ?_
      · intro env W hE hn ρ hρ hc hf hg K hK
        have r32 := (show ρ (.tmp 32) = env 5 by rw [hρ]; kernel_rfl).trans (hn 5 (by kernel_rfl))
        have r34 := (show ρ (.tmp 34) = env 7 by rw [hρ]; kernel_rfl).trans (hn 7 (by kernel_rfl))
        clear hρ hn hg
        simp [opLands, go_sem, hc, hf, r32, r34, Nat.not_lt.2 hcat]
        exact hK _ _ rfl (Below.refl _ _)
      refine flow_cons (flow_op rfl rfl (by kernel_rfl) (by kernel_rfl) ?_) ?_
      · intro env W hE hn ρ hρ hc hf hg K hK
        have r35 := (show ρ (.tmp 35) = env 8 by rw [hρ]; kernel_rfl).trans (hn 8 (by kernel_rfl))
        clear hρ hn hg
        refine lands_call rfl (by kernel_rfl) hf ?_
        rw [show #[Operand.tmp 35].map ρ = #[Value.string ((⟨#[firstByte M 31]⟩ : ByteArray) ++ c)] by simp [r35]]
        exact (HR.out W).mono fun e W' h => ⟨_, h.1, hK _ _ rfl h.2⟩
      refine flow_cons (flow_op rfl rfl (by kernel_rfl) (by kernel_rfl) ?_) ?_
      · intro env W hE hn ρ hρ hc hf hg K hK
        have r36 := (show ρ (.tmp 36) = env 9 by rw [hρ]; kernel_rfl).trans (hn 9 (by kernel_rfl))
        clear hρ hn hg
        simp only [opLands, go_sem, hc, r36]
        exact hK _ _ rfl (Below.refl _ _)
      refine flow_cons (flow_op rfl rfl (by kernel_rfl) (by kernel_rfl) ?_) ?_
      · intro env W hE hn ρ hρ hc hf hg K hK
        have r26 := (show ρ (.tmp 26) = env 10 by rw [hρ]; kernel_rfl).trans (hn 10 (by kernel_rfl))
        clear hρ hn hg
        simp only [opLands, go_sem, hc, r26, Instr.extract]
        exact hK _ _ rfl (Below.refl _ _)
      refine flow_cons (flow_op rfl rfl (by kernel_rfl) (by kernel_rfl) ?_) ?_
      · intro env W hE hn ρ hρ hc hf hg K hK
        have r26 := (show ρ (.tmp 26) = env 10 by rw [hρ]; kernel_rfl).trans (hn 10 (by kernel_rfl))
        clear hρ hn hg
        simp only [opLands, go_sem, hc, r26, Instr.extract]
        exact hK _ _ rfl (Below.refl _ _)
      refine flow_cons (flow_op rfl rfl (by kernel_rfl) (by kernel_rfl) ?_) ?_
      · intro env W hE hn ρ hρ hc hf hg K hK
        have r26 := (show ρ (.tmp 26) = env 10 by rw [hρ]; kernel_rfl).trans (hn 10 (by kernel_rfl))
        clear hρ hn hg
        simp only [opLands, go_sem, hc, r26, Instr.extract]
        exact hK _ _ rfl (Below.refl _ _)
      refine flow_cons (flow_op rfl rfl (by kernel_rfl) (by kernel_rfl) ?_) ?_
      · intro env W hE hn ρ hρ hc hf hg K hK
        have r26 := (show ρ (.tmp 26) = env 10 by rw [hρ]; kernel_rfl).trans (hn 10 (by kernel_rfl))
        clear hρ hn hg
        simp only [opLands, go_sem, hc, r26, Instr.extract]
        exact hK _ _ rfl (Below.refl _ _)
      refine flow_cons (flow_op rfl rfl (by kernel_rfl) (by kernel_rfl) ?_) ?_
      · intro env W hE hn ρ hρ hc hf hg K hK
        have r26 := (show ρ (.tmp 26) = env 10 by rw [hρ]; kernel_rfl).trans (hn 10 (by kernel_rfl))
        clear hρ hn hg
        simp only [opLands, go_sem, hc, r26, Instr.extract]
        exact hK _ _ rfl (Below.refl _ _)
      refine flow_cons (flow_op rfl rfl (by kernel_rfl) (by kernel_rfl) ?_) ?_
      · intro env W hE hn ρ hρ hc hf hg K hK
        have r37 := (show ρ (.tmp 37) = env 11 by rw [hρ]; kernel_rfl).trans (hn 11 (by kernel_rfl))
        clear hρ hn hg
        simp only [opLands, go_sem, hc, r37]
        exact hK _ _ rfl (Below.refl _ _)
      refine flow_cons (flow_op rfl rfl (by kernel_rfl) (by kernel_rfl) ?_) ?_
      · intro env W hE hn ρ hρ hc hf hg K hK
        have r38 := (show ρ (.tmp 38) = env 12 by rw [hρ]; kernel_rfl).trans (hn 12 (by kernel_rfl))
        clear hρ hn hg
        simp only [opLands, go_sem, hc, r38]
        exact hK _ _ rfl (Below.refl _ _)
      refine flow_cons (flow_op rfl rfl (by kernel_rfl) (by kernel_rfl) ?_) ?_
      · intro env W hE hn ρ hρ hc hf hg K hK
        have r39 := (show ρ (.tmp 39) = env 13 by rw [hρ]; kernel_rfl).trans (hn 13 (by kernel_rfl))
        clear hρ hn hg
        simp only [opLands, go_sem, hc, r39]
        exact hK _ _ rfl (Below.refl _ _)
      refine flow_cons (flow_op rfl rfl (by kernel_rfl) (by kernel_rfl) ?_) ?_
      · intro env W hE hn ρ hρ hc hf hg K hK
        have r40 := (show ρ (.tmp 40) = env 14 by rw [hρ]; kernel_rfl).trans (hn 14 (by kernel_rfl))
        clear hρ hn hg
        simp only [opLands, go_sem, hc, r40]
        exact hK _ _ rfl (Below.refl _ _)
      refine flow_cons (flow_op rfl rfl (by kernel_rfl) (by kernel_rfl) ?_) ?_
      · intro env W hE hn ρ hρ hc hf hg K hK
        have r41 := (show ρ (.tmp 41) = env 15 by rw [hρ]; kernel_rfl).trans (hn 15 (by kernel_rfl))
        clear hρ hn hg
        simp only [opLands, go_sem, hc, r41]
        exact hK _ _ rfl (Below.refl _ _)
      exact flow_nil
    case refine_5 =>
      intro env W hE hn
      have e16 := hn 16 (by decide)
      have e17 := hn 17 (by decide)
      have e18 := hn 18 (by decide)
      have e19 := hn 19 (by decide)
      have e20 := hn 20 (by decide)
      clear hn
      replace e16 : env 16 = .int .i64 M := e16
      replace e17 : env 17 = .int .i64 31 := e17
      replace e18 : env 18 = .int .u64 0 := e18
      replace e19 : env 19 = .string c := e19
      replace e20 : env 20 = .int .i64 0 := e20
      simp only [frameAll, e16, e17, e18, e19, e20]
      go_simp
      go_step
      go_meet
      exact ⟨rfl, rfl, rfl, rfl, rfl, hE.1⟩
    case rest =>
      obtain ⟨rfl, rfl, rfl, rfl, rfl, hb2⟩ := hcut
      clear HR hcv q2 q3 hb1
      go_wp2_with fail
      go_loopw [11] (fun i wr => ∃ J : Nat, (28 : Int) ≤ J ∧ (J : Int) ≤ 31 ∧ i = .int .i64 J ∧ Below w.heap.size w wr) (fun i _ => (31 - intOf i).toNat)
      case atStart => exact ⟨28, by omega, by omega, rfl, hb2⟩
      case round =>
      obtain ⟨J, hJ1, hJ2, rfl, hb3⟩ := hrel
      by_cases hlt : (J : Int) < 31
      · have HR := head_Read (⟨#[firstByte M J]⟩ ++ c) (by simp; show 1 + c.size ≤ _; omega)
        rw [show ((⟨#[firstByte M J]⟩ : ByteArray) ++ c).data.toList = firstByte M J :: c.data.toList by simp only [ByteArray.data_append, Array.toList_append]; rfl,
          readL_first M J _ (by omega) (by omega), if_neg (by omega), if_neg (by omega), if_pos (by omega)] at HR
        unfold readV at HR
        have hcw := Lib.hid (conv_byte (firstByte M J))
        have q4 : IntKind.i64.wrap (32 * (M : Int) + J) = 32 * (M : Int) + J := IntWalk.i64_in _ (by omega)
        have q5 : IntKind.u8.wrap (32 * (M : Int) + J) = ((firstByte M J).toNat : Int) := by rw [firstByte_toNat M J (by omega) (by omega), IntKind.wrap_u8']; omega
        have hd : (⟨(firstByte M J :: c.data.toList).toArray⟩ : ByteArray) = ⟨#[firstByte M J]⟩ ++ c := by apply ByteArray.ext; apply Array.toList_inj.1; simp only [ByteArray.data_append, Array.toList_append]; rfl
        rw [hd] at HR
        obtain ⟨d, hd⟩ : ∃ d, (⟨#[firstByte M J]⟩ : ByteArray) ++ c = d := ⟨_, rfl⟩
        rw [hd] at HR
        have hd := Lib.hid hd
        have HR := Lib.hid HR
        go_upto_region 8 with fail
        go_cut [12] (fun s12 wx => s12 = .string d ∧ Below w.heap.size w wx)
        case first =>
          refine wp_region_phis (by kernel_rfl) (by kernel_rfl) (by kernel_rfl) (fun W => Below w.heap.size w W ∧ w.heap.size ≤ W.heap.size)
            [fun v _ => v = .int .i64 M, fun v _ => v = .int .i64 (32 * M), fun v _ => v = .int .i64 J, fun v _ => v = .int .i64 (32 * M + J), fun v _ => v = .int .u8 ((firstByte M J).toNat : Int),
             fun v W => ∃ b, v = .slice (some ⟨b, 0, none⟩) 1 1 ∧ Blk W b #[.int .u8 ((firstByte M J).toNat : Int)] 5,
             fun v _ => v = .string ⟨#[firstByte M J]⟩, fun v _ => v = .string s, fun v _ => v = .string c, fun v _ => v = .string ((⟨#[firstByte M J]⟩ : ByteArray) ++ c), fun v _ => v = .string ((⟨#[firstByte M J]⟩ : ByteArray) ++ c)] ?_ ?_ ?_ ?_ ?_
          · exact ⟨hb3.drew, hb3.size⟩
          · exact fun W W' hE hb => ⟨hE.1.trans (hb.mono hE.2), Nat.le_trans hE.2 hb.size⟩
          · intro p hp v W W' hE
            simp only [List.mem_cons, List.not_mem_nil, or_false] at hp
            rcases hp with rfl | rfl | rfl | rfl | rfl | rfl | rfl | rfl | rfl | rfl | rfl
            all_goals first | exact fun h _ => h | exact fun ⟨b, h1, h2⟩ hb => ⟨b, h1, h2.below hb h2.lt⟩
          · refine flow_cons (flow_op rfl rfl (by kernel_rfl) (by kernel_rfl) ?_) ?_
            · intro env W hE hn ρ hρ hc hf hg K hK
              have r0 : ρ (.tmp 0) = .int .i64 M := by rw [hρ]; kernel_rfl
              clear hρ hn hg
              simp only [opLands, go_sem, hc, r0]
              exact hK _ _ rfl (Below.refl _ _)
            refine flow_cons (flow_op rfl rfl (by kernel_rfl) (by kernel_rfl) ?_) ?_
            · intro env W hE hn ρ hρ hc hf hg K hK
              have r46 := (show ρ (.tmp 46) = env 0 by rw [hρ]; kernel_rfl).trans (hn 0 (by kernel_rfl))
              clear hρ hn hg
              simp only [opLands, go_sem, hc, r46, q1]
              exact hK _ _ rfl (Below.refl _ _)
            refine flow_cons (flow_op rfl rfl (by kernel_rfl) (by kernel_rfl) ?_) ?_
            · intro env W hE hn ρ hρ hc hf hg K hK
              have r11 : ρ (.tmp 11) = .int .i64 J := by rw [hρ]; kernel_rfl
              clear hρ hn hg
              simp only [opLands, go_sem, hc, r11]
              exact hK _ _ rfl (Below.refl _ _)
            refine flow_cons (flow_op rfl rfl (by kernel_rfl) (by kernel_rfl) ?_) ?_
            · intro env W hE hn ρ hρ hc hf hg K hK
              have r47 := (show ρ (.tmp 47) = env 1 by rw [hρ]; kernel_rfl).trans (hn 1 (by kernel_rfl))
              have r48 := (show ρ (.tmp 48) = env 2 by rw [hρ]; kernel_rfl).trans (hn 2 (by kernel_rfl))
              clear hρ hn hg
              simp only [opLands, go_sem, hc, r47, r48, q4]
              exact hK _ _ rfl (Below.refl _ _)
            refine flow_cons (flow_op rfl rfl (by kernel_rfl) (by kernel_rfl) ?_) ?_
            · intro env W hE hn ρ hρ hc hf hg K hK
              have r49 := (show ρ (.tmp 49) = env 3 by rw [hρ]; kernel_rfl).trans (hn 3 (by kernel_rfl))
              clear hρ hn hg
              simp only [opLands, go_sem, hc, r49, q5]
              exact hK _ _ rfl (Below.refl _ _)
            refine flow_cons (flow_op rfl rfl (by kernel_rfl) (by kernel_rfl) ?_) ?_
            · intro env W hE hn ρ hρ hc hf hg K hK
              have r50 := (show ρ (.tmp 50) = env 4 by rw [hρ]; kernel_rfl).trans (hn 4 (by kernel_rfl))
              clear hρ hn hg
              simp [opLands, go_sem, hc, r50]
              exact hK _ _ ⟨_, rfl, Blk.new _ _ _⟩ ((Below.refl _ _).alloc (Nat.le_refl _) _)
            refine flow_cons (flow_op rfl rfl (by kernel_rfl) (by kernel_rfl) ?_) ?_
            · intro env W hE hn ρ hρ hc hf hg K hK
              obtain ⟨b, e51, hb⟩ := hn 5 (by kernel_rfl)
              have r51 := (show ρ (.tmp 51) = env 5 by rw [hρ]; kernel_rfl).trans e51
              clear hρ hn hg e51
              simp [opLands, go_sem, hc, r51, hcw.out W b hb]
              exact hK _ _ rfl (Below.refl _ _)
            refine flow_cons (flow_op rfl rfl (by kernel_rfl) (by kernel_rfl) ?_) ?_
            · intro env W hE hn ρ hρ hc hf hg K hK
              have r1 : ρ (.tmp 1) = .string s := by rw [hρ]; kernel_rfl
              clear hρ hn hg
              simp only [opLands, go_sem, hc, r1]
              exact hK _ _ rfl (Below.refl _ _)
            refine flow_cons (flow_op rfl rfl (by kernel_rfl) (by kernel_rfl) ?_) ?_
            · intro env W hE hn ρ hρ hc hf hg K hK
              have r53 := (show ρ (.tmp 53) = env 7 by rw [hρ]; kernel_rfl).trans (hn 7 (by kernel_rfl))
              clear hρ hn hg
              refine lands_call rfl (by kernel_rfl) hf ?_
              rw [show #[Operand.tmp 53].map ρ = #[Value.string s] by simp [r53]]
              exact (HC.out W).mono fun e W' h => ⟨_, h.1, hK _ _ rfl (h.2 ▸ Below.refl _ _)⟩
            refine flow_cons (flow_op rfl rfl (by kernel_rfl) (by kernel_rfl) ?_) ?_
            · intro env W hE hn ρ hρ hc hf hg K hK
              have r52 := (show ρ (.tmp 52) = env 6 by rw [hρ]; kernel_rfl).trans (hn 6 (by kernel_rfl))
              have r54 := (show ρ (.tmp 54) = env 8 by rw [hρ]; kernel_rfl).trans (hn 8 (by kernel_rfl))
              clear hρ hn hg
              simp [opLands, go_sem, hc, hf, r52, r54, Nat.not_lt.2 hcat]
              exact hK _ _ rfl (Below.refl _ _)
            refine flow_cons (flow_op rfl rfl (by kernel_rfl) (by kernel_rfl) ?_) ?_
            · intro env W hE hn ρ hρ hc hf hg K hK
              have r55 := (show ρ (.tmp 55) = env 9 by rw [hρ]; kernel_rfl).trans (hn 9 (by kernel_rfl))
              clear hρ hn hg
              simp only [opLands, go_sem, hc, r55]
              exact hK _ _ rfl (Below.refl _ _)
            exact flow_nil
          · intro env W hE hn
            have e10 := hn 10 (by decide)
            clear hn
            replace e10 : env 10 = .string d := Eq.trans e10 (congrArg Value.string hd.out)
            simp only [frameAll, e10]
            go_simp
            go_step
            go_meet
            exact ⟨rfl, hE.1⟩
        case rest =>
          obtain ⟨rfl, hb4⟩ := hcut
          clear hcw q4 q5 hb3
          go_wp2_with fail
          refine (HR.out _).mono ?_
          rintro e w5 ⟨rfl, hb5⟩
          go_wp2_with fail
          go_roundw
          case rel => exact ⟨J + 1, by omega, by omega, by go_num, hb4.trans (hb5.mono hb4.size)⟩
          case measure => simp [intOf]; omega
      · clear q1
        have HS := head_IsShort 31 0 (by decide) (by decide)
        have hS : ((leastOf 0).1 == 31) = false := by decide
        simp only [hS] at HS; have HS := Lib.hid HS
        go_wp2_with fail
        refine (HC.out _).mono ?_
        rintro e w5 ⟨rfl, rfl⟩
        go_wp2_with fail
        refine (HS.out _).mono ?_
        rintro e w6 ⟨rfl, hb6⟩
        go_wp2_with fail
        go_ret
        exact ⟨rfl, hb3.trans (hb6.mono hb3.size)⟩
  · by_cases h1 : maj < 0
    · go_enter Try.func7, Try.ntmps7
      go_wp2_with fail
      refine (shown_true _).mono ?_
      rintro e w1 ⟨rfl, hb1⟩
      go_wp2_with fail
      go_ret
      exact ⟨rfl, hb1⟩
    · have h7 : 7 < maj := by omega
      clear hmaj
      go_enter Try.func7, Try.ntmps7
      go_wp2_with fail
      refine (shown_true _).mono ?_
      rintro e w1 ⟨rfl, hb1⟩
      go_wp2_with fail
      go_ret
      exact ⟨rfl, hb1⟩
end Go.Proofs.Ytanccdmlddgnaaa
