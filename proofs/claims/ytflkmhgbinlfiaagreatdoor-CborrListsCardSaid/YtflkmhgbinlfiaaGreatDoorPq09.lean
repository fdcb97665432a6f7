/- The texts CrJ, put together. -/
import Derived.Test.YtflkmhgbinlfiaaGreatDoorPq08
namespace Go.Proofs.YtflkmhgbinlfiaaGreatDoor
open Go.RowKit Go.Shelf

theorem endP_no {α : Type} {a : α} {p : Psr α} {l : List UInt8} (h : l.head? ≠ some 255) : endP a p l = p l := by
  cases l with
  | nil => rfl
  | cons c r =>
    have hc : ¬ c = 255 := fun e => h (by rw [e]; rfl)
    unfold endP
    simp [hc]
theorem endP_yes {α : Type} {a : α} {p : Psr α} {l : List UInt8} (h : l.head? = some 255) : endP a p l = .good a (l.drop 1) := by
  cases l with
  | nil => cases h
  | cons c r =>
    have hc : c = 255 := by simpa using h
    subst hc
    rfl
/-- How much is left. -/
def leftN (p : Nat) (W : World) : Nat := match W.cell? ⟨p, 0, none⟩ with
  | some (.string s) => s.size
  | _ => 0
theorem leftN_of {W : World} {p d : Nat} {s : ByteArray} (h : RdB W p s d) : leftN p W = s.size := by
  unfold leftN
  have : W.cell? ⟨p, 0, none⟩ = some (.string s) := h.cell 0
  rw [this]
theorem app_list (a b : ByteArray) : (a ++ b).data.toList = a.data.toList ++ b.data.toList := by
  rw [ByteArray.data_append, Array.toList_append]
theorem chunk_less {maj : Nat} {l a r : List UInt8} (h : chunkP maj l = .good a r) : a.length + r.length + 1 ≤ l.length := chunk_len h

set_option maxHeartbeats 4000000 in
set_option maxRecDepth 100000 in
theorem cr_text (F p d : Nat) (h : Nat × Nat × Nat) (s : ByteArray) (w : World) (hr : RdB w p s d) (hs : s.size ≤ 1000000000) (hF : s.size < F) :
    Calls Tryz.prog 102 #[.pointer (some ⟨p, 0, none⟩), startV h] w (ReadS p d w s (textP F h s.data.toList)) := by
  obtain ⟨hm, hi, ha⟩ := h
  have hsl : s.data.toList.length = s.size := by simp
  have hb1 := (Below.refl w.heap.size w).alloc (Nat.le_refl _) (.cells #[.int .i64 hm, .int .i64 hi, .int .u64 ha] 88)
  have hk1 := Blk.new w #[.int .i64 hm, .int .i64 hi, .int .u64 ha] 88
  have hr1 := hr.below hb1 hr.lt
  have z0 := hk1.cell 0
  have z1 := hk1.cell 1
  have z2 := hk1.cell 2
  have hplt := hr.lt
  have HO := Lib.hid (fun w => cr_isOpen hm hi ha w)
  unfold textP
  by_cases h31 : hi = 31
  · subst h31
    rw [if_pos rfl]
    have HO' : Hid (∀ w : World, Calls Tryz.prog 39 #[.agg #[.int .i64 hm, .int .i64 31, .int .u64 ha]] w fun x w' => x = .returned (.bool true) ∧ Below w.heap.size w w') := HO
    obtain ⟨res, hres⟩ : ∃ res, chunksP hm F [] s.data.toList = res := ⟨_, rfl⟩
    show Calls _ _ _ _ (ReadS p d w s (chunksP hm F [] s.data.toList))
    rw [hres]
    have HRES := Lib.hid hres
    clear hres HO
    go_enter Tryz.func102, Tryz.ntmps102
    go_wp2_with fail
    refine (HO'.out _).mono ?_
    rintro e1 w2 ⟨rfl, hb2⟩
    have hk2 := hk1.below hb2 hk1.lt
    have hr2 := hr1.below hb2 hr1.lt
    have hg2 : w.grownBy w2 (some p) := below_grown (hb1.trans (hb2.mono hb1.size)) _
    clear z0 z1 z2 hb2 hr1 hk1 hb1 HO'
    go_wp2_with fail
    go_loopw [6] (fun z wr => ∃ (f : Nat) (acc rst : ByteArray), z = .string acc ∧ rst.size < f ∧ acc.size + rst.size ≤ s.size ∧ Hid (chunksP hm f acc.data.toList rst.data.toList = res) ∧ w.grownBy wr (some p) ∧ RdB wr p rst d ∧ Blk wr w.heap.size #[.int .i64 hm, .int .i64 31, .int .u64 ha] 88) (fun _ wr => leftN p wr)
    case atStart => exact ⟨F, ⟨#[]⟩, s, rfl, hF, by show 0 + s.size ≤ s.size; omega, HRES, hg2, hr2, hk2⟩
    case round =>
      obtain ⟨f, acc, rst, rfl, hf, hsz, hch, hg, hrd, hkk⟩ := hrel
      clear HRES hg2 hr2 hk2
      obtain ⟨f, rfl⟩ : ∃ g, f = g + 1 := ⟨f - 1, by omega⟩
      have hlr := leftN_of hrd
      have HE := cr_isEnd p d rst wr hrd (by omega)
      by_cases hend : rst.data.toList.head? = some 255
      · rw [if_pos hend, decide_eq_true hend] at HE
        have hc : endP acc.data.toList _ rst.data.toList = res := hch.out
        rw [endP_yes hend] at hc
        have hrl : (bs (rst.data.toList.drop 1)).size ≤ s.size := by
          rw [bs_size, List.length_drop]
          have : rst.data.toList.length = rst.size := by simp
          omega
        have hal : acc.data.toList.length ≤ s.size := by
          have : acc.data.toList.length = acc.size := by simp
          omega
        have hba := bs_of acc
        subst hc
        unfold ReadS
        simp only []
        rw [hba]
        obtain ⟨r1, hr1⟩ : ∃ r1, bs (rst.data.toList.drop 1) = r1 := ⟨_, rfl⟩
        rw [hr1] at HE hrl ⊢
        have HR1 := Lib.hid hr1
        clear hend hch hr1 hba
        go_wp2_with fail
        refine HE.mono ?_
        rintro e1 w3 ⟨hg3, rfl, hr3⟩
        go_wp2_with fail
        refine bodyPost_ret (v := .tuple #[.string acc, .nilIface]) (by simp [results, Tryz.results102, go_sem]) rfl ⟨grown_trans hg hg3, rfl, by rw [HR1.out]; exact hr3, by rw [HR1.out]; exact hrl, hal⟩
      · rw [if_neg hend, decide_eq_false hend] at HE
        have hc : endP acc.data.toList (bindP (chunkP hm) fun c => chunksP hm f (acc.data.toList ++ c)) rst.data.toList = res := hch.out
        rw [endP_no hend] at hc
        have HCK := Lib.hid (fun W (h : RdB W p rst d) => cr_chunk p d hm rst W h (by omega))
        clear hend hch
        cases hck : chunkP hm rst.data.toList with
        | bad e =>
          rw [bindP_bad hck] at hc
          subst hc
          rw [hck] at HCK
          unfold ReadS at HCK ⊢
          simp only [] at HCK ⊢
          obtain ⟨ev, hev⟩ : ∃ ev, errW e = ev := ⟨_, rfl⟩
          have hei : e ≠ 0 → ∃ y, ev = .iface 95 y := fun h => ⟨_, by rw [← hev, errW_ne h]⟩
          rw [hev] at HCK ⊢
          clear hck hev
          go_wp2_with fail
          refine HE.mono ?_
          rintro e1 w3 ⟨hg3, rfl, hr3⟩
          have hk3 := RdB.grown hkk hg3 (by omega)
          have y0 := hk3.cell 0
          have y1 := hk3.cell 1
          have y2 := hk3.cell 2
          go_wp2_with fail
          refine (HCK.out _ hr3).mono ?_
          rintro e2 w4 ⟨hg4, rfl, hne, s', hr4, hs4⟩
          obtain ⟨y, rfl⟩ := hei hne
          clear y0 y1 y2
          go_wp2_with fail
          refine bodyPost_ret (v := .tuple #[.string ⟨#[]⟩, .iface 95 y]) (by simp [results, Tryz.results102, go_sem]) rfl ⟨grown_trans (grown_trans hg hg3) hg4, rfl, hne, s', hr4, by omega⟩
        | good c r1 =>
          rw [bindP_of hck] at hc
          rw [hck] at HCK
          have hcl := chunk_less hck
          have hrl : rst.data.toList.length = rst.size := by simp
          unfold ReadS at HCK
          simp only [] at HCK
          have hcs := bs_size c
          have hrs := bs_size r1
          have hcc : chunksP hm f (acc ++ bs c).data.toList (bs r1).data.toList = res := by
            rw [app_list]
            exact hc
          have hsz2 : acc.size + (bs c).size + (bs r1).size + 1 ≤ s.size := by omega
          have hf2 : (bs r1).size < f := by omega
          have hlt2 : (bs r1).size < rst.size := by omega
          obtain ⟨cb, hcb⟩ : ∃ cb, bs c = cb := ⟨_, rfl⟩
          obtain ⟨rb, hrb⟩ : ∃ rb, bs r1 = rb := ⟨_, rfl⟩
          rw [hcb, hrb] at HCK hsz2 hcc
          rw [hrb] at hf2 hlt2
          have HCC := Lib.hid hcc
          have y6 : acc.size + cb.size ≤ 1000000000 := by omega
          clear hck hc hcc hcl hcb hrb hrl hcs hrs
          go_wp2_with fail
          refine HE.mono ?_
          rintro e1 w3 ⟨hg3, rfl, hr3⟩
          have hk3 := RdB.grown hkk hg3 (by omega)
          have y0 := hk3.cell 0
          have y1 := hk3.cell 1
          have y2 := hk3.cell 2
          go_wp2_with fail
          refine (HCK.out _ hr3).mono ?_
          rintro e2 w4 ⟨hg4, rfl, hr4, hr5, hr6⟩
          have hk4 := RdB.grown hk3 hg4 (by omega)
          clear y0 y1 y2
          go_wp2_with fail
          go_roundw
          case rel => exact ⟨f, acc ++ cb, rb, rfl, hf2, by rw [ByteArray.size_append]; omega, HCC, grown_trans (grown_trans hg hg3) hg4, hr4, hk4⟩
          case measure => rw [leftN_of hr4, hlr]; exact hlt2
  · rw [if_neg h31]
    have y1 : ((hi : Int) == 31) = false := by rw [beq_eq_false_iff_ne]; omega
    rw [y1] at HO
    have HB := Lib.hid (fun W (h : RdB W p s d) => cr_bytes p d ha s W h hs)
    clear h31
    show Calls _ _ _ _ (ReadS p d w s (bytesP ha s.data.toList))
    unfold bytesP at HB ⊢
    by_cases hlt : s.data.toList.length < ha
    · rw [if_pos hlt] at HB ⊢
      unfold ReadS
      simp only [] at HB ⊢
      obtain ⟨ev, hev⟩ : ∃ ev, errW 100 = ev := ⟨_, rfl⟩
      rw [hev] at HB ⊢
      clear hev hlt
      go_enter Tryz.func102, Tryz.ntmps102
      go_wp2_with fail
      refine (HO.out _).mono ?_
      rintro e1 w2 ⟨rfl, hb2⟩
      have hk2 := hk1.below hb2 hk1.lt
      have hr2 := hr1.below hb2 hr1.lt
      have hg2 : w.grownBy w2 (some p) := below_grown (hb1.trans (hb2.mono hb1.size)) _
      clear z0 z1 z2
      have z2 := hk2.cell 2
      go_wp2_with fail
      refine (HB.out _ hr2).mono ?_
      rintro e3 w3 ⟨hg3, rfl, hr3⟩
      go_wp2_with fail
      refine bodyPost_ret (v := .tuple #[.string ⟨#[]⟩, ev]) (by simp [results, Tryz.results102, go_sem]) rfl ⟨grown_trans hg2 hg3, rfl, by decide, s, hr3, Nat.le_refl _⟩
    · rw [if_neg hlt] at HB ⊢
      unfold ReadS
      simp only [] at HB ⊢
      obtain ⟨a1, ha1⟩ : ∃ a1, bs (s.data.toList.take ha) = a1 := ⟨_, rfl⟩
      obtain ⟨r1, hr1e⟩ : ∃ r1, bs (s.data.toList.drop ha) = r1 := ⟨_, rfl⟩
      have hr1s : r1.size ≤ s.size := by rw [← hr1e, bs_size, List.length_drop]; omega
      have hals : (s.data.toList.take ha).length ≤ s.size := by rw [List.length_take]; omega
      rw [ha1, hr1e] at HB ⊢
      clear ha1 hr1e hlt
      go_enter Tryz.func102, Tryz.ntmps102
      go_wp2_with fail
      refine (HO.out _).mono ?_
      rintro e1 w2 ⟨rfl, hb2⟩
      have hk2 := hk1.below hb2 hk1.lt
      have hr2 := hr1.below hb2 hr1.lt
      have hg2 : w.grownBy w2 (some p) := below_grown (hb1.trans (hb2.mono hb1.size)) _
      clear z0 z1 z2
      have z2 := hk2.cell 2
      go_wp2_with fail
      refine (HB.out _ hr2).mono ?_
      rintro e3 w3 ⟨hg3, rfl, hr3⟩
      go_wp2_with fail
      refine bodyPost_ret (v := .tuple #[.string a1, .nilIface]) (by simp [results, Tryz.results102, go_sem]) rfl ⟨grown_trans hg2 hg3, rfl, hr3, hr1s, hals⟩
end Go.Proofs.YtflkmhgbinlfiaaGreatDoor
