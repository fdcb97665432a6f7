/- The texts WjN, BuildJ, put together. -/
import Derived.Test.YtfckekaegjjmkaaGreatDoorPd10
import Derived.Test.YtfckekaegjjmkaaGreatDoorPd14
import Derived.Test.YtfckekaegjjmkaaGreatDoorPd15
import Derived.Test.YtfckekaegjjmkaaGreatDoorPd16
import Derived.Test.YtfckekaegjjmkaaGreatDoorPd01
import Derived.Test.YtfckekaegjjmkaaGreatDoorChecked
import Derived.Test.YtfckekaegjjmkaaGreatDoorPd06
import Derived.Lib.FrozenHead
import Derived.RegionCalls
namespace Go.Proofs.YtfckekaegjjmkaaGreatDoor
open Go.RowKit Go.Shelf

theorem decDigits_len4 {m : Nat} (h : m ≤ 1000) : (Lib.decDigits m).length ≤ 4 := by
  have : ∀ m : Fin 1001, (Lib.decDigits m.val).length ≤ 4 := by decide +kernel
  exact this ⟨m, by omega⟩
set_option maxHeartbeats 2000000 in
set_option maxRecDepth 100000 in
theorem ref_Num (n : Int) (h1 : -1000 ≤ n) (h2 : n ≤ 1000) (w : World) :
    Calls Tryz.prog 72 #[.int .i64 n] w fun e w' => e = .returned (.string ⟨(itoaL n).toArray⟩) ∧ Below w.heap.size w w' := by
  unfold itoaL
  obtain ⟨m, hm⟩ : ∃ m, n.natAbs = m := ⟨_, rfl⟩
  rw [hm]
  have HO := ref_Of (m + 1) m (by omega) (by omega) w
  have hz := decDigits_len4 (m := m) (by omega)
  obtain ⟨ds, hds⟩ : ∃ ds : ByteArray, (⟨(Lib.decDigits m).toArray⟩ : ByteArray) = ds := ⟨_, rfl⟩
  have hdz : ds.size ≤ 4 := by
    rw [← hds]
    show (Lib.decDigits m).toArray.size ≤ 4
    rw [List.size_toArray]
    exact hz
  rw [hds] at HO
  by_cases hn : n < 0
  · rw [if_pos hn]
    obtain rfl : n = -(m : Int) := by omega
    have hr : (⟨([45] ++ Lib.decDigits m).toArray⟩ : ByteArray) = ⟨#[45]⟩ ++ ds := by
      apply ByteArray.ext
      apply Array.toList_inj.1
      rw [app_list, ← hds]
    rw [hr]
    have HO := Lib.hid HO
    have y1 : ¬ 9223372036854775807 < 1 + ds.size := by omega
    have y0 : -(m : Int) < 0 := hn
    have y3 : wrap64 (m : Int) = (m : Int) := by unfold wrap64; omega
    have y4 : IntKind.u64.wrap (m : Int) = (m : Int) := by rw [IntKind.wrap_u64]; omega
    obtain ⟨z, hzm⟩ : ∃ z : Int, (m : Int) = z := ⟨_, rfl⟩
    rw [hzm] at HO y0 y3 y4 ⊢
    clear hr hds hz hm hn h1 h2 hzm
    go_enter Tryz.func72, Tryz.ntmps72
    go_wp2_with fail
    with_reducible refine HO.out.mono ?_
    rintro e w2 ⟨rfl, hb⟩
    go_wp2_with fail
    go_ret
    exact ⟨rfl, hb⟩
  · rw [if_neg hn]
    obtain rfl : n = (m : Int) := by omega
    rw [List.nil_append, hds]
    have HO := Lib.hid HO
    have y0 : ¬ (m : Int) < 0 := hn
    have y4 : IntKind.u64.wrap (m : Int) = (m : Int) := by rw [IntKind.wrap_u64]; omega
    obtain ⟨z, hzm⟩ : ∃ z : Int, (m : Int) = z := ⟨_, rfl⟩
    rw [hzm] at HO y0 y4 ⊢
    clear hds hz hm hn h1 h2 hzm
    go_enter Tryz.func72, Tryz.ntmps72
    go_wp2_with fail
    with_reducible refine HO.out.mono ?_
    rintro e w2 ⟨rfl, hb⟩
    go_wp2_with fail
    go_ret
    exact ⟨rfl, hb⟩

set_option maxHeartbeats 4000000 in
set_option maxRecDepth 100000 in
theorem ref_Format (neg : Bool) (dg : ByteArray) (ex : Int) (hok : decOk neg dg ex = true) (w : World) :
    Calls Tryz.prog 50 #[.agg #[.bool neg, .string dg, .int .i64 ex]] w fun e w' => e = .returned (.tuple #[.string ⟨(fmtD neg dg.data.toList ex).toArray⟩, .int .i64 0]) ∧ Below w.heap.size w w' := by
  obtain ⟨b1, b2, b3, b4⟩ := decOk_bounds hok
  have hbx : Below w.heap.size w (w.alloc (.cells #[.bool neg, .string dg, .int .i64 ex] 23)) := (Below.refl _ _).alloc (Nat.le_refl _) _
  have hkx := Blk.new w #[.bool neg, .string dg, .int .i64 ex] 23
  have HR := ref_decOk neg dg ex (by omega) (w.alloc (.cells #[.bool neg, .string dg, .int .i64 ex] 23))
  rw [hok] at HR
  have HR := Lib.hid HR
  rw [← fmt_same]
  obtain ⟨res, hres⟩ : ∃ res : ByteArray, (⟨(fmtR neg dg.data.toList ex).toArray⟩ : ByteArray) = res := ⟨_, rfl⟩
  rw [hres]
  have hrl : res.data.toList = fmtR neg dg.data.toList ex := by rw [← hres]
  unfold fmtR at hrl
  have HN := Lib.hid (ref_Num ex (by omega) (by omega))
  have HZ := Lib.hid (ref_zeros ex (by omega))
  have HY := Lib.hid (ref_zeros (1 - ex - (dg.size : Int)) (by omega))
  have hdl : dg.data.toList.length = dg.size := by simp
  rw [hdl] at hrl
  have hnz : (itoaL ex).length ≤ 5 := by
    unfold itoaL
    have := decDigits_len4 (m := ex.natAbs) (by omega)
    rw [List.length_append]
    split <;> simp <;> omega
  clear hres hok hdl
  by_cases c1 : ex < -20 ∨ 20 < ex
  · rw [if_pos c1] at hrl
    obtain ⟨nm, hnm⟩ : ∃ nm : ByteArray, (⟨(itoaL ex).toArray⟩ : ByteArray) = nm := ⟨_, rfl⟩
    rw [hnm] at HN
    have hnz2 : nm.size ≤ 5 := by
      rw [← hnm]
      show (itoaL ex).toArray.size ≤ 5
      rw [List.size_toArray]
      exact hnz
    have hnl : nm.data.toList = itoaL ex := by rw [← hnm]
    rw [← hnl] at hrl
    have y1 : ¬ 9223372036854775807 < dg.size + 1 := by omega
    have y2 : ¬ 9223372036854775807 < dg.size + 1 + nm.size := by omega
    have y3 : ¬ 9223372036854775807 < 1 + (dg.size + 1 + nm.size) := by omega
    have hc1 : ex < -20 ∨ (¬ ex < -20 ∧ 20 < ex) := by omega
    clear hnm hnl c1 HZ HY hnz
    have key : ∀ b : Bool, neg = b → res = (if b = true then ⟨#[45]⟩ ++ (dg ++ ⟨#[101]⟩ ++ nm) else dg ++ ⟨#[101]⟩ ++ nm) := fun b e => by
      subst e
      apply str_ext
      rw [hrl]
      cases neg <;> simp
    have KEY := Lib.hid key
    clear key hrl
    cases neg
    · have hk := KEY.out false rfl
      rw [if_neg (by decide)] at hk
      subst hk
      clear KEY
      rcases hc1 with d1 | ⟨d1, d2⟩
      all_goals
        go_enter Tryz.func50, Tryz.ntmps50
        go_wp2_with fail
        with_reducible refine HR.out.mono ?_
        rintro e w2 ⟨rfl, hb⟩
        have hk2 := hkx.below hb hkx.lt
        have c0 := hk2.cell 0
        have c1 := hk2.cell 1
        have c2 := hk2.cell 2
        have hbb := hbx.trans (hb.mono hbx.size)
        clear hb hkx HR
        go_wp2_with fail
        with_reducible refine (HN.out _).mono ?_
        rintro e w3 ⟨rfl, hb3⟩
        have hk3 := hk2.below hb3 hk2.lt
        clear c0 c1 c2
        have c0 := hk3.cell 0
        have c1 := hk3.cell 1
        have c2 := hk3.cell 2
        have hbb := hbb.trans (hb3.mono hbb.size)
        clear hb3 hk2
        go_wp2_with fail
        go_ret2
        exact ⟨rfl, hbb⟩
    · have hk := KEY.out true rfl
      rw [if_pos rfl] at hk
      subst hk
      clear KEY
      rcases hc1 with d1 | ⟨d1, d2⟩
      all_goals
        go_enter Tryz.func50, Tryz.ntmps50
        go_wp2_with fail
        with_reducible refine HR.out.mono ?_
        rintro e w2 ⟨rfl, hb⟩
        have hk2 := hkx.below hb hkx.lt
        have c0 := hk2.cell 0
        have c1 := hk2.cell 1
        have c2 := hk2.cell 2
        have hbb := hbx.trans (hb.mono hbx.size)
        clear hb hkx HR
        go_wp2_with fail
        with_reducible refine (HN.out _).mono ?_
        rintro e w3 ⟨rfl, hb3⟩
        have hk3 := hk2.below hb3 hk2.lt
        clear c0 c1 c2
        have c0 := hk3.cell 0
        have c1 := hk3.cell 1
        have c2 := hk3.cell 2
        have hbb := hbb.trans (hb3.mono hbb.size)
        clear hb3 hk2
        go_wp2_with fail
        go_ret2
        exact ⟨rfl, hbb⟩
  · rw [if_neg c1] at hrl
    have d1 : ¬ ex < -20 := by omega
    have d2 : ¬ 20 < ex := by omega
    clear HN hnz
    by_cases c2 : 0 ≤ ex
    · rw [if_pos c2] at hrl
      obtain ⟨zs, hzs⟩ : ∃ zs : ByteArray, (⟨(List.replicate ex.toNat (48 : UInt8)).toArray⟩ : ByteArray) = zs := ⟨_, rfl⟩
      rw [hzs] at HZ
      have hzz : zs.size ≤ 20 := by
        rw [← hzs]
        show (List.replicate ex.toNat (48 : UInt8)).toArray.size ≤ 20
        rw [List.size_toArray, List.length_replicate]
        omega
      have hzl : zs.data.toList = List.replicate ex.toNat 48 := by rw [← hzs]
      rw [← hzl] at hrl
      have y1 : ¬ 9223372036854775807 < dg.size + zs.size := by omega
      have y3 : ¬ 9223372036854775807 < 1 + (dg.size + zs.size) := by omega
      clear hzs hzl c1 HY
      have key : ∀ b : Bool, neg = b → res = (if b = true then ⟨#[45]⟩ ++ (dg ++ zs) else dg ++ zs) := fun b e => by
        subst e
        apply str_ext
        rw [hrl]
        cases neg <;> simp
      have KEY := Lib.hid key
      clear key hrl
      cases neg
      · have hk := KEY.out false rfl
        rw [if_neg (by decide)] at hk
        subst hk
        clear KEY
        go_enter Tryz.func50, Tryz.ntmps50
        go_wp2_with fail
        with_reducible refine HR.out.mono ?_
        rintro e w2 ⟨rfl, hb⟩
        have hk2 := hkx.below hb hkx.lt
        have c0 := hk2.cell 0
        have c1 := hk2.cell 1
        have c2 := hk2.cell 2
        have hbb := hbx.trans (hb.mono hbx.size)
        clear hb hkx HR
        go_wp2_with fail
        with_reducible refine (HZ.out _).mono ?_
        rintro e w3 ⟨rfl, rfl⟩
        go_wp2_with fail
        go_ret2
        exact ⟨rfl, hbb⟩
      · have hk := KEY.out true rfl
        rw [if_pos rfl] at hk
        subst hk
        clear KEY
        go_enter Tryz.func50, Tryz.ntmps50
        go_wp2_with fail
        with_reducible refine HR.out.mono ?_
        rintro e w2 ⟨rfl, hb⟩
        have hk2 := hkx.below hb hkx.lt
        have c0 := hk2.cell 0
        have c1 := hk2.cell 1
        have c2 := hk2.cell 2
        have hbb := hbx.trans (hb.mono hbx.size)
        clear hb hkx HR
        go_wp2_with fail
        with_reducible refine (HZ.out _).mono ?_
        rintro e w3 ⟨rfl, rfl⟩
        go_wp2_with fail
        go_ret2
        exact ⟨rfl, hbb⟩
    · rw [if_neg c2] at hrl
      obtain ⟨zs, hzs⟩ : ∃ zs : ByteArray, (⟨(List.replicate (1 - ex - (dg.size : Int)).toNat (48 : UInt8)).toArray⟩ : ByteArray) = zs := ⟨_, rfl⟩
      rw [hzs] at HY
      have hzs2 : zs.size = (1 - ex - (dg.size : Int)).toNat := by
        rw [← hzs]
        show (List.replicate (1 - ex - (dg.size : Int)).toNat (48 : UInt8)).toArray.size = _
        rw [List.size_toArray, List.length_replicate]
      have hzl : zs.data.toList = List.replicate (1 - ex - (dg.size : Int)).toNat 48 := by rw [← hzs]
      rw [← hzl, ← app_list] at hrl
      obtain ⟨al, hal⟩ : ∃ al, zs ++ dg = al := ⟨_, rfl⟩
      have haz : al.size = zs.size + dg.size := by rw [← hal, ByteArray.size_append]
      rw [hal] at hrl
      have hdl : al.data.toList.length = al.size := by simp
      rw [hdl] at hrl
      obtain ⟨m, hm⟩ : ∃ m : Nat, (al.size : Int) + ex = m := ⟨((al.size : Int) + ex).toNat, by omega⟩
      have hml : m ≤ al.size := by omega
      rw [hm] at hrl
      obtain ⟨p1, hp1⟩ : ∃ p1, al.extract 0 m = p1 := ⟨_, rfl⟩
      obtain ⟨p2, hp2⟩ : ∃ p2, al.extract m al.size = p2 := ⟨_, rfl⟩
      have hp1l : p1.data.toList = al.data.toList.take m := by rw [← hp1]; simp [ByteArray.data_extract]
      have hp2l : p2.data.toList = al.data.toList.drop m := by rw [← hp2]; simp [ByteArray.data_extract]; exact List.take_of_length_le (by simp)
      rw [show ((m : Nat) : Int).toNat = m by omega, ← hp1l, ← hp2l] at hrl
      have hp1z : p1.size = m := by rw [← hp1, ByteArray.size_extract]; omega
      have hp2z : p2.size = al.size - m := by rw [← hp2, ByteArray.size_extract]; omega
      have y1 : ¬ 9223372036854775807 < zs.size + dg.size := by omega
      have y4 : ¬ 9223372036854775807 < p1.size + 1 := by omega
      have y5 : ¬ 9223372036854775807 < p1.size + 1 + p2.size := by omega
      have y6 : ¬ 9223372036854775807 < 1 + (p1.size + 1 + p2.size) := by omega
      have y7 : wrap64 ((al.size : Int) + ex) = m := by rw [← hm]; unfold wrap64; omega
      have y8 : wrap64 (1 - ex) = 1 - ex := by unfold wrap64; omega
      have y9 : wrap64 (1 - ex - (dg.size : Int)) = 1 - ex - (dg.size : Int) := by unfold wrap64; omega
      have hm2 : (m : Int) ≤ al.size := by omega
      clear hzs hzl c1 HZ hp1l hp2l hp1z hp2z hm hzs2 hdl haz
      have key : ∀ b : Bool, neg = b → res = (if b = true then ⟨#[45]⟩ ++ (p1 ++ ⟨#[46]⟩ ++ p2) else p1 ++ ⟨#[46]⟩ ++ p2) := fun b e => by
        subst e
        apply str_ext
        rw [hrl]
        cases neg <;> simp
      have KEY := Lib.hid key
      clear key hrl
      cases neg
      · have hk := KEY.out false rfl
        rw [if_neg (by decide)] at hk
        subst hk
        clear KEY
        go_enter Tryz.func50, Tryz.ntmps50
        go_wp2_with fail
        with_reducible refine HR.out.mono ?_
        rintro e w2 ⟨rfl, hb⟩
        have hk2 := hkx.below hb hkx.lt
        have c0 := hk2.cell 0
        have c1 := hk2.cell 1
        have c2 := hk2.cell 2
        have hbb := hbx.trans (hb.mono hbx.size)
        clear hb hkx HR
        go_wp2_with fail
        with_reducible refine (HY.out _).mono ?_
        rintro e w3 ⟨rfl, rfl⟩
        go_wp2_with fail
        go_quiet (fail)
        go_wp2_with fail
        go_ret2
        exact ⟨rfl, hbb.trans ⟨rfl, rfl, rfl, Nat.le_refl _, fun _ _ => rfl⟩⟩
      · have hk := KEY.out true rfl
        rw [if_pos rfl] at hk
        subst hk
        clear KEY
        go_enter Tryz.func50, Tryz.ntmps50
        go_wp2_with fail
        with_reducible refine HR.out.mono ?_
        rintro e w2 ⟨rfl, hb⟩
        have hk2 := hkx.below hb hkx.lt
        have c0 := hk2.cell 0
        have c1 := hk2.cell 1
        have c2 := hk2.cell 2
        have hbb := hbx.trans (hb.mono hbx.size)
        clear hb hkx HR
        go_wp2_with fail
        with_reducible refine (HY.out _).mono ?_
        rintro e w3 ⟨rfl, rfl⟩
        go_wp2_with fail
        go_quiet (fail)
        go_wp2_with fail
        go_ret2
        exact ⟨rfl, hbb.trans ⟨rfl, rfl, rfl, Nat.le_refl _, fun _ _ => rfl⟩⟩
end Go.Proofs.YtfckekaegjjmkaaGreatDoor
namespace Go.Proofs.YtfckekaegjjmkaaGreatDoor
open Go.RowKit Go.Shelf

/-- The writer's block: the builder, whether pretty, how deep. -/
def AtJP (B b : Nat) (pr : Bool) (dp : Int) (p : Value) (bs : List Value) (w : World) : Prop :=
  B ≤ b ∧ ∃ v, w.heap[b]? = some (.cells #[p, v, .bool pr, .int .i64 dp] 83 (0, 0)) ∧ w.ownsRowF B 5 1 v bs.length bs ∧ v.ownBlock ≠ some b
abbrev AtJ (B b : Nat) (pr : Bool) (dp : Int) (bs : List Value) (w : World) : Prop := AtJP B b pr dp (.pointer (some ⟨b, 0, none⟩)) bs w
def IsJ (B b : Nat) (pr : Bool) (dp : Int) (bs : List Value) (w : World) : Prop := AtJP B b pr dp (.pointer none) bs w ∨ AtJ B b pr dp bs w
section
variable {B b : Nat} {pr : Bool} {dp : Int} {p : Value} {bs : List Value} {w : World}
theorem AtJ.is (h : AtJ B b pr dp bs w) : IsJ B b pr dp bs w := .inr h
theorem AtJP.cell0 (h : AtJP B b pr dp p bs w) : w.cell? ⟨b, 0, none⟩ = some p := by
  obtain ⟨_, v, hb, _⟩ := h
  simp [World.cell?, hb]
theorem AtJP.shape (h : AtJP B b pr dp p bs w) : w.shape? b = some (83, 4) := by
  obtain ⟨_, v, hb, _⟩ := h
  simp [World.shape?, hb]
theorem AtJP.lt (h : AtJP B b pr dp p bs w) : b < w.heap.size := by
  obtain ⟨_, v, hb, _⟩ := h
  exact (Array.getElem?_eq_some_iff.1 hb).1
theorem AtJP.frozen0 (h : AtJP B b pr dp p bs w) : w.frozen? ⟨b, 0, none⟩ = false := by
  obtain ⟨_, v, hb, _⟩ := h
  simp [World.frozen?, hb]
theorem AtJP.used (h : AtJP B b pr dp p bs w) (q : Value) : AtJP B b pr dp q bs (w.setCell ⟨b, 0, none⟩ q) := by
  obtain ⟨hB, v, hb, hown, hne⟩ := h
  refine ⟨hB, v, ?_, ?_, hne⟩
  · simp [World.setCell, Array.getElem?_modify, hb]
  · exact hown.kept (row := some b) ⟨rfl, rfl, rfl, by simp [World.setCell], fun k _ hk => Below.heap_setCell _ _ _ _ (fun e => hk (by simp [e]))⟩ (Or.inr hne)
theorem AtJP.put {v v' : Value} {bs' : List Value} (hB : B ≤ b) (hb : w.heap[b]? = some (.cells #[p, v, .bool pr, .int .i64 dp] 83 (0, 0))) (hown : w.ownsRowF B 5 1 v' bs'.length bs') : AtJP B b pr dp p bs' (w.setCell ⟨b, 1, none⟩ v') := by
  have hne := Lib.ownBlock_neF hown hb (by decide)
  refine ⟨hB, v', ?_, ?_, hne⟩
  · simp [World.setCell, Array.getElem?_modify, hb]
  · exact hown.kept (row := some b) ⟨rfl, rfl, rfl, by simp [World.setCell], fun k _ hk => Below.heap_setCell _ _ _ _ (fun e => hk (by simp [e]))⟩ (Or.inr hne)
theorem AtJP.deep (h : AtJP B b pr dp p bs w) (dp' : Int) : AtJP B b pr dp' p bs (w.setCell ⟨b, 3, none⟩ (.int .i64 dp')) := by
  obtain ⟨hB, v, hb, hown, hne⟩ := h
  refine ⟨hB, v, ?_, ?_, hne⟩
  · simp [World.setCell, Array.getElem?_modify, hb]
  · exact hown.kept (row := some b) ⟨rfl, rfl, rfl, by simp [World.setCell], fun k _ hk => Below.heap_setCell _ _ _ _ (fun e => hk (by simp [e]))⟩ (Or.inr hne)
theorem IsJ.deep (h : IsJ B b pr dp bs w) (dp' : Int) : IsJ B b pr dp' bs (w.setCell ⟨b, 3, none⟩ (.int .i64 dp')) := h.imp (fun x => x.deep dp') (fun x => x.deep dp')
theorem IsJ.at (h : IsJ B b pr dp bs w) : ∃ p, AtJP B b pr dp p bs w := h.elim (fun x => ⟨_, x⟩) (fun x => ⟨_, x⟩)
theorem IsJ.blk (h : IsJ B b pr dp bs w) : ∃ p v, Blk w b #[p, v, .bool pr, .int .i64 dp] 83 := by
  obtain ⟨p, _, v, hb, _⟩ := h.at
  exact ⟨p, v, hb⟩
theorem IsJ.lt (h : IsJ B b pr dp bs w) : b < w.heap.size := by
  obtain ⟨p, h⟩ := h.at
  exact h.lt
theorem IsJ.le (h : IsJ B b pr dp bs w) : B ≤ b := by
  obtain ⟨p, h⟩ := h.at
  exact h.1
end

theorem sizeBuilderJ : (Tryz.prog.info? 81).map (·.size) = some 2 := by kernel_rfl
theorem liesBuilderJ : liesAt Tryz.prog Tryz.prog.depth 83 (4 / Tryz.prog.cellsOf 83) 0 81 1 = true := by kernel_rfl
theorem infoByteJ : (Tryz.prog.info? 5).map (fun i => (i.zero, i.size, i.bytes)) = some (some (.int .u8 0), 1, 1) := by kernel_rfl

set_option maxRecDepth 100000 in
theorem jcheck_fresh (b : Nat) (w : World) (h0 : w.cell? ⟨b, 0, none⟩ = some (.pointer none)) (hsh : w.shape? b = some (83, 4)) (hfz : w.frozen? ⟨b, 0, none⟩ = false) :
    Calls Tryz.prog 206 #[.pointer (some ⟨b, 0, none⟩)] w fun e w' => e = .returned (.tuple #[]) ∧ w' = w.setCell ⟨b, 0, none⟩ (.pointer (some ⟨b, 0, none⟩)) := by
  obtain ⟨j, hj, hjs⟩ := Option.map_eq_some_iff.1 sizeBuilderJ
  go_enter Tryz.func206, Tryz.ntmps206
  go_wp2
  rw [Lib.run_to_unsafe w ⟨b, 0, none⟩ Tryz.underlying79 Tryz.underlying120 hj (by rw [hjs]; decide) hsh (Nat.zero_lt_succ 3)]
  simp only [Result.andThen]
  rw [Oper.upon_value]
  go_wp2
  rw [run_callFunc_extern Tryz.func229 (by kernel_rfl) (by kernel_rfl) (by kernel_rfl) (e := Extern.AbiNoEscape.same) (by kernel_rfl)]
  rw [Lib.run_noEscape]
  simp only [Result.andThen]
  rw [Oper.upon_value]
  go_wp2
  rw [Lib.run_from_unsafe w ⟨b, 0, none⟩ Tryz.underlying120 Tryz.underlying79 hj hsh liesBuilderJ]
  simp only [Result.andThen]
  rw [Oper.upon_value]
  go_wp2
  go_end0
  exact ⟨rfl, rfl⟩

set_option maxRecDepth 100000 in
theorem jcheck_used (b : Nat) (w : World) (h0 : w.cell? ⟨b, 0, none⟩ = some (.pointer (some ⟨b, 0, none⟩))) :
    Calls Tryz.prog 206 #[.pointer (some ⟨b, 0, none⟩)] w fun e w' => e = .returned (.tuple #[]) ∧ w' = w := by
  obtain ⟨j, hj, _⟩ := Option.map_eq_some_iff.1 sizeBuilderJ
  go_enter Tryz.func206, Tryz.ntmps206
  go_wp2
  rw [Lib.run_neq_ptr_same w _ Tryz.underlying79 hj]
  go_wp2
  go_end0
  exact ⟨rfl, rfl⟩

theorem jb_check (B b : Nat) (pr : Bool) (dp : Int) (bs : List Value) (w : World) (h : IsJ B b pr dp bs w) :
    Calls Tryz.prog 206 #[.pointer (some ⟨b, 0, none⟩)] w fun e w' => e = .returned (.tuple #[]) ∧ (AtJ B b pr dp bs w' ∧ Below B w w' ∧ Lib.OthersKept 5 (some b) w w') := by
  rcases h with h | h
  · refine (jcheck_fresh b w h.cell0 h.shape h.frozen0).mono ?_
    rintro e w' ⟨rfl, rfl⟩
    exact ⟨rfl, h.used _, (Below.refl B w).setCell (p := ⟨b, 0, none⟩) h.1 _, (Lib.OthersKept.refl _ _ w).setCell ⟨b, 0, none⟩ rfl _⟩
  · refine (jcheck_used b w h.cell0).mono ?_
    rintro e w' ⟨rfl, rfl⟩
    exact ⟨rfl, h, Below.refl B _, Lib.OthersKept.refl _ _ _⟩

set_option maxHeartbeats 2000000 in
set_option maxRecDepth 100000 in
theorem jb_WriteString (B b : Nat) (pr : Bool) (dp : Int) (bs : List Value) (s : ByteArray) (w : World) (h : IsJ B b pr dp bs w) (hlen : bs.length + s.size ≤ 140737488355328) (hBw : B ≤ w.heap.size) :
    Calls Tryz.prog 173 #[.pointer (some ⟨b, 0, none⟩), .string s] w fun e w' => e = .returned (.tuple #[.int .i64 s.size, .nilIface]) ∧ (AtJ B b pr dp (bs ++ Lib.strCells s) w' ∧ Below B w w' ∧ Lib.OthersKept 5 (some b) w w') := by
  obtain ⟨i0, hi, hz0, hz1, hz2⟩ := info_parts infoByteJ
  have HC := Lib.hid (jb_check B b pr dp bs w h)
  go_enter Tryz.func173, Tryz.ntmps173
  go_wp2_with fail
  refine HC.out.mono ?_
  rintro e w1 ⟨rfl, h1, hb1, hk1⟩
  obtain ⟨hB, v, hbk, hown, hne⟩ := h1
  have c0 : w1.cell? ⟨b, 0, none⟩ = some (.pointer (some ⟨b, 0, none⟩)) := by rw [Lib.cell_of_heap hbk]; rfl
  have c1 : w1.cell? ⟨b, 1, none⟩ = some v := by rw [Lib.cell_of_heap hbk]; rfl
  go_wp2_with (at_builtin; refine Lib.wpList_append_own_stringF _ rfl _ _ 72 9 rfl B 5 i0 Tryz.underlying72 Tryz.underlying9 hi hz0 hz1 hz2 _ _ _ rfl hown s rfl ?c3 ?c4 ?c5 ?_)
  case c3 => unfold maxLen; omega
  case c4 => omega
  case c5 => have := hb1.size; omega
  intro v' w2 hown' hgrow _
  have hlt : b < w1.heap.size := by
    rcases Nat.lt_or_ge b w1.heap.size with h' | h'
    · exact h'
    · simp [Array.getElem?_eq_none h'] at hbk
  have hb2 : w2.heap[b]? = some (.cells #[.pointer (some ⟨b, 0, none⟩), v, .bool pr, .int .i64 dp] 83 (0, 0)) := by
    rw [hgrow.block b hlt (fun e => hne e.symm)]
    exact hbk
  have d0 : w2.cell? ⟨b, 0, none⟩ = some (.pointer (some ⟨b, 0, none⟩)) := by rw [Lib.cell_of_heap hb2]; rfl
  have d1 : w2.cell? ⟨b, 1, none⟩ = some v := by rw [Lib.cell_of_heap hb2]; rfl
  have f1 : w2.frozen? ⟨b, 1, none⟩ = false := Lib.frozen_of_heap hb2 1
  obtain ⟨ao, n', cap, rfl⟩ : ∃ ao n' cap, v' = .slice ao n' cap := by
    rcases hown'.2 with ⟨hv, _⟩ | ⟨g, cap, cur, fz, hv, _⟩
    · exact ⟨_, _, _, hv⟩
    · exact ⟨_, _, _, hv⟩
  go_wp2
  go_ret2
  refine ⟨rfl, ?_, ?_, (hk1.grown hgrow (Lib.ownsRowF_kind hown)).setCell ⟨b, 1, none⟩ rfl _⟩
  · exact AtJP.put hB hb2 (bs' := bs ++ Lib.strCells s) (by simpa [Lib.strCells_length] using hown')
  · exact (hb1.grown hgrow (by have := hb1.size; omega) (fun k hk => (hown.lt k hk).1)).setCell (p := ⟨b, 1, none⟩) hB _

set_option maxHeartbeats 2000000 in
set_option maxRecDepth 100000 in
theorem jb_String (B b : Nat) (pr : Bool) (dp : Int) (l : List UInt8) (w : World) (h : IsJ B b pr dp (Lib.byteCells l) w) (h0 : l ≠ []) :
    Calls Tryz.prog 47 #[.pointer (some ⟨b, 0, none⟩)] w fun e w' => e = .returned (.string ⟨l.toArray⟩) ∧ Below B w w' := by
  obtain ⟨p, hAt⟩ := h.at
  obtain ⟨hB, v, hbk, hown, hne⟩ := hAt
  have hl0 : l.length ≠ 0 := by simpa using h0
  rw [Lib.byteCells_length] at hown
  obtain ⟨g, cap, cur, fz, rfl, hbg, hg, hfz, hnc, hcm, hcs, htake⟩ : ∃ g cap cur fz, v = .slice (some ⟨g, 0, none⟩) l.length cap ∧ B ≤ g ∧ w.heap[g]? = some (.cells cur 5 fz) ∧ fz.2 ≤ l.length * 1 ∧ l.length ≤ cap ∧ cap ≤ maxLen ∧ cur.size = cap * 1 ∧ cur.toList.take (l.length * 1) = Lib.byteCells l := by
    rcases hown.2 with ⟨_, hz⟩ | ⟨g, cap, cur, fz, hv, r⟩
    · exact absurd hz hl0
    · exact ⟨g, cap, cur, fz, hv, r⟩
  have c1 : w.drew.cell? ⟨b, 1, none⟩ = some (.slice (some ⟨g, 0, none⟩) l.length cap) := by
    have : w.drew.heap[b]? = some (.cells #[p, .slice (some ⟨g, 0, none⟩) l.length cap, .bool pr, .int .i64 dp] 83 (0, 0)) := hbk
    rw [Lib.cell_of_heap this]
    rfl
  have hSD : (Builtin.unsafeSliceData_ #[72] 109 #[.slice (some ⟨g, 0, none⟩) l.length cap]).run Tryz.prog w.drew = .ok (.pointer (some ⟨g, 0, none⟩)) w.drew :=
    Lib.run_unsafeSliceData_row _ _ _ _ _ _ (by omega)
  have hUS : (Builtin.unsafeString_ #[109, 3] 9 #[.pointer (some ⟨g, 0, none⟩), .int .i64 l.length]).run Tryz.prog w.drew = .ok (.string ⟨l.toArray⟩) (w.drew.freeze ⟨g, 0, none⟩ l.length) := by
    refine Lib.run_unsafeString_row w.drew 109 3 9 5 Tryz.underlying109 (by kernel_rfl) g cur.size (by have hg' : w.drew.heap[g]? = some (.cells cur 5 fz) := hg; simp [World.shape?, hg']) l h0 (by omega) (by unfold maxLen at hcm; omega) ?_
    intro j x hx
    have := hown.cells (g := g) rfl j (.int .u8 x.toNat) (by simp [Lib.byteCells, hx])
    exact this
  go_enter Tryz.func47, Tryz.ntmps47
  go_wp2_with fail
  go_region
  all_goals (go_wp2_with fail; go_ret; exact ⟨rfl, Lib.below_freeze (Below.drew (Below.refl B w)) (p := ⟨g, 0, none⟩) hbg _⟩)
end Go.Proofs.YtfckekaegjjmkaaGreatDoor
