/- The texts GateY, put together. -/
import Derived.Test.YtfckekaegjjmkaaGreatDoorPd29
import Derived.Test.YtfckekaegjjmkaaGreatDoorPd35
import Derived.Test.YtfckekaegjjmkaaGreatDoorPd05
namespace Go.Proofs.YtfckekaegjjmkaaGreatDoor
open Go.RowKit Go.Shelf

theorem check_cases (f : Int) (fl : Own → Bool) (t : Tr) : checkT f fl t = 0 ∨ checkT f fl t = 60 ∨ checkT f fl t = 61 := by
  unfold checkT
  split
  · split
    · exact .inl rfl
    · exact .inr (.inr rfl)
  · exact .inr (.inl rfl)

set_option maxHeartbeats 4000000 in
set_option maxRecDepth 100000 in
theorem tree_Check {aT aF : Addr} (f : Int) (fl : Own → Bool) (hfits : FitsC aT aF f fl) (t : Tr) (x : Value) (w : World) (B d : Nat) (hl : ListAt w B d t.kids x) (ho : OwnOk t.own) (hB : B ≤ w.heap.size) (hc : t.count ≤ 1000000000) (h : GW w aT aF) :
    Calls Tryz.prog 28 #[nodeV t.own x, .int .i64 f] w fun e w' => e = .returned (.int .i64 (checkT f fl t)) ∧ Below w.heap.size w w' := by
  have hb1 : Below w.heap.size w (w.alloc (.cells (cellsV t.own x) 27)) := (Below.refl _ _).alloc (Nat.le_refl _) _
  have hk1 := Blk.new w (cellsV t.own x) 27
  have HC := tree_checked f fl hfits t x _ B d (hl.below hb1 hB) ho (Nat.le_trans hB hb1.size) hc (h.below hb1)
  have hcs := check_cases f fl t
  obtain ⟨ck, hck⟩ : ∃ ck, checkT f fl t = ck := ⟨_, rfl⟩
  rw [hck] at HC hcs ⊢
  obtain ⟨_, A, c, rfl⟩ := hl.slice
  obtain ⟨n, hn⟩ : ∃ n, t.kids.length = n := ⟨_, rfl⟩
  obtain ⟨⟨kind, b, neg, dg, ex, u, wd, s⟩, ho'⟩ : ∃ o, t.own = o := ⟨_, rfl⟩
  rw [ho', hn] at HC hk1 hb1 ⊢
  unfold nodeV at HC ⊢
  unfold cellsV at HC hk1 hb1
  simp only [] at HC hk1 hb1 ⊢
  have HC := Lib.hid HC
  have z0 := hk1.cell 0
  have z1 := hk1.cell 1
  have z2 := hk1.cell 2
  have z3 := hk1.cell 3
  have z4 := hk1.cell 4
  have z5 := hk1.cell 5
  have z6 := hk1.cell 6
  have z7 := hk1.cell 7
  have z8 := hk1.cell 8
  have HG := Lib.hid h
  clear hl ho hc hck ho' hn hk1 h hfits
  go_enter Tryz.func28, Tryz.ntmps28
  go_wp2_with fail
  refine HC.out.mono ?_
  rintro e w2 ⟨rfl, hb⟩
  have hb3 := hb1.trans (hb.mono hb1.size)
  have G := HG.out.below hb3
  have hgT := G.hT
  have hgF := G.hF
  obtain ⟨cT, tT, eT⟩ := G.bT
  obtain ⟨cF, tF, eF⟩ := G.bF
  have H1 := Lib.hid (is_nil aT w2)
  have H2 := Lib.hid (is_nil aF w2)
  have H3 := Lib.hid (is_same aT w2)
  have H4 := Lib.hid (is_same aF w2)
  have H5 := Lib.hid (is_other aF aT cF cT tF tT w2 G.ne.symm eF eT)
  clear z0 z1 z2 z3 z4 z5 z6 z7 z8 hb hb1 HC G eT eF
  rcases hcs with rfl | rfl | rfl
  · have he : errR aT aF 0 = .nilIface := rfl
    rw [he]
    clear he
    go_wp2_with fail
    refine H1.out.mono ?_
    rintro e w3 ⟨rfl, rfl⟩
    go_wp2_with fail
    refine H2.out.mono ?_
    rintro e w3 ⟨rfl, rfl⟩
    go_wp2_with fail
    go_ret
    exact ⟨rfl, hb3⟩
  · have he : errR aT aF 60 = errP aT := rfl
    rw [he]
    clear he
    go_wp2_with fail
    refine H3.out.mono ?_
    rintro e w3 ⟨rfl, rfl⟩
    go_wp2_with fail
    go_ret
    exact ⟨rfl, hb3⟩
  · have he : errR aT aF 61 = errP aF := rfl
    rw [he]
    clear he
    go_wp2_with fail
    refine H5.out.mono ?_
    rintro e w3 ⟨rfl, rfl⟩
    go_wp2_with fail
    refine H4.out.mono ?_
    rintro e w3 ⟨rfl, rfl⟩
    go_wp2_with fail
    go_ret
    exact ⟨rfl, hb3⟩

theorem fits_at_J (aT aF : Addr) : FitsC aT aF 1 flJ := fun o l A n c w B d hl hB hn hc ho h => fits_J o l A n c w B d hl hB hn hc ho h
end Go.Proofs.YtfckekaegjjmkaaGreatDoor
