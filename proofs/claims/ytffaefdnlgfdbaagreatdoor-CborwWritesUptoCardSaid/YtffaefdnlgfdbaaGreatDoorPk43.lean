/- The texts WrE, put together. -/
import Derived.Test.YtffaefdnlgfdbaaGreatDoorPk42
import Derived.Test.YtffaefdnlgfdbaaGreatDoorPk32
/- The reference of layer 12: write. Printed by gen_wre.py. -/
namespace Go.Proofs.YtffaefdnlgfdbaaGreatDoor
open Go.RowKit Go.Shelf

theorem ref_madeI (maj : Nat) (v : Int) (hmaj : maj ≤ 7) (h0 : 0 ≤ v) (h1 : v < 18446744073709551616) (w : World) :
    Calls Tryz.prog 30 #[.int .i64 maj, .int .u64 v] w fun e w' => e = .returned (.string ⟨(makeL maj v.toNat).toArray⟩) ∧ Below w.heap.size w w' := by
  have h := ref_made maj v.toNat hmaj (by omega) w
  rw [show ((v.toNat : Nat) : Int) = v by omega] at h
  exact h
theorem make_len (maj n : Nat) (hn : n < 18446744073709551616) : (makeL maj n).length ≤ 100 := by
  rw [makeL_length]
  rcases leastN_is n hn with ⟨_, _, h3⟩ | ⟨_, h1, h2, h3, _⟩
  · omega
  · have : ∀ m, m ≤ 3 → 2 ^ m ≤ 8 := fun m hm => Nat.pow_le_pow_right (show 0 < 2 by decide) hm
    have := this ((leastN n).1 - 24) (by omega)
    omega
theorem okCL_at : ∀ {l : List Tr} {i : Nat} (h : i < l.length), okCL l → okC l[i]
  | [], _, h, _ => absurd h (by simp)
  | t :: l, 0, _, hk => by
    rw [okCL] at hk
    exact hk.1
  | t :: l, i + 1, h, hk => by
    rw [okCL] at hk
    exact okCL_at (l := l) (by simpa using h) hk.2
theorem okC_eq (t : Tr) : okC t = (NodeC t.own t.kids ∧ okCL t.kids) := by
  cases t
  rw [okC]
  rfl
theorem txO_is {o : Own} (h : o.kind = 5 ∨ o.kind = 6) : txO o = o.s.data.toList := by
  unfold txO
  rw [if_pos h]

set_option maxHeartbeats 16000000 in
set_option maxRecDepth 100000 in
theorem ref_write (d : Nat) : ∀ (t : Tr) (x : Value) (w : World) (B : Nat), ListAt w B d t.kids x → B ≤ w.heap.size → okC t → t.count ≤ 1000000 →
    Calls Tryz.prog 21 #[nodeV t.own x] w fun e w' => e = .returned (.string ⟨(cbT t).toArray⟩) ∧ Below w.heap.size w w' := by
  induction d using Nat.strongRecOn with
  | _ d ih =>
  intro t x w B hl hB hok hc
  obtain ⟨hlen, A, c, rfl⟩ := hl.slice
  rw [Tr.count_eq] at hc
  rw [okC_eq] at hok
  rw [cbT_eq]
  obtain ⟨l, hkl⟩ : ∃ l, t.kids = l := ⟨_, rfl⟩
  rw [hkl] at hl hlen hok hc ⊢
  obtain ⟨o, ho⟩ : ∃ o, t.own = o := ⟨_, rfl⟩
  rw [ho] at hok ⊢
  have hbl := cbL_bound l hok.2
  have hlc := len_countL l
  have hsh := hok.1.shape
  have hou := hok.1.ok.u
  have hos := hok.1.ok.s
  have hod := hok.1.ok.dg
  obtain ⟨n, hn⟩ : ∃ n, l.length = n := ⟨_, rfl⟩
  rw [hn] at hl hlen hlc ⊢
  have hnn : n ≤ 1000000 := by omega
  obtain ⟨r, hr⟩ : ∃ r : ByteArray, ⟨(itemL (hdO o n) ++ (txO o ++ cbL l)).toArray⟩ = r := ⟨_, rfl⟩
  rw [hr]
  have HRR := Lib.hid (show r.data.toList = itemL (hdO o n) ++ (txO o ++ cbL l) by rw [← hr])
  have HL := Lib.hid hl
  have IH := Lib.hid ih
  have HC := Lib.hid hc
  have HOK := Lib.hid hok.2
  have HN := Lib.hid hn
  have hbl2 : (cbL l).length ≤ 409000000 := by omega
  obtain ⟨kind, b, neg, dg, ex, u, wd, s⟩ := o
  simp only [] at hou hos hod
  have HSH := Lib.hid hsh
  clear hl ih ho hkl hok hc hr hbl hlc hlen hsh hn
  unfold nodeV
  simp only []
  have hbx := (Below.refl w.heap.size w).alloc (Nat.le_refl _) (.cells #[.int .i64 kind, .bool b, .bool neg, .string dg, .int .i64 ex, .int .u64 u, .int .i64 wd, .string s, .slice A n c] 27)
  have hkx := Blk.new w #[.int .i64 kind, .bool b, .bool neg, .string dg, .int .i64 ex, .int .u64 u, .int .i64 wd, .string s, .slice A n c] 27
  have HTI := Lib.hid (ref_ToInt neg dg ex hod)
  go_enter Tryz.func21, Tryz.ntmps21
  go_wp2_with fail
  go_loopw [3, 4] (fun z i wr => ∃ (k : Nat) (a : ByteArray), k ≤ n ∧ i = .int .i64 k ∧ z = .string a ∧ a.data.toList = cbL (l.take k) ∧ Below w.heap.size w wr ∧ Blk wr w.heap.size #[.int .i64 kind, .bool b, .bool neg, .string dg, .int .i64 ex, .int .u64 u, .int .i64 wd, .string s, .slice A n c] 27) (fun _ i _ => n - (intOf i).toNat)
  case atStart => exact ⟨0, ⟨#[]⟩, by omega, rfl, rfl, rfl, hbx, hkx⟩
  case round =>
    obtain ⟨k, a, hk, rfl, rfl, ha, hbw, hbk⟩ := hrel
    clear hbx hkx
    have haz : a.size = (cbL (l.take k)).length := by
      have e1 : a.data.toList.length = a.size := by simp
      rw [← e1, ha]
    have hfl : wr.cell? ⟨w.heap.size, 8, none⟩ = some (.slice A n c) := hbk.cell 8
    by_cases hlt : k < n
    · have hkl : k < l.length := by have := HN.out; omega
      obtain ⟨d', ad, x', hdd, rfl, hab, hok, hna, hkk⟩ := (HL.out.below hbw hB).at_ hkl
      have hlz : (cbL (l.take (k + 1))).length ≤ 409000000 := by
        have h1 := cbL_append (l.take (k + 1)) (l.drop (k + 1))
        rw [List.take_append_drop] at h1
        rw [h1, List.length_append] at hbl2
        omega
      have htk := cbL_take l k hkl
      have HC := IH.out d' (by omega) l[k] x' wr B hkk (Nat.le_trans hB hbw.size) (okCL_at hkl HOK.out) (by
        have h1 := countL_take l k hkl
        have h2 := countL_mono l (k + 1)
        have h3 := HC.out
        omega)
      obtain ⟨bs, hbs⟩ : ∃ bs : ByteArray, ⟨(cbT l[k]).toArray⟩ = bs := ⟨_, rfl⟩
      have hbl : bs.data.toList = cbT l[k] := by rw [← hbs]
      have hbz : bs.size = (cbT l[k]).length := by rw [← hbs]; rfl
      rw [hbs] at HC
      rw [htk, List.length_append, ← haz, ← hbz] at hlz
      have HT := Lib.hid (show (a ++ bs).data.toList = cbL (l.take (k + 1)) by rw [append_list, ha, hbl, htk])
      obtain ⟨⟨kind', b', neg', dg', ex', u', wd', s'⟩, ho'⟩ : ∃ o, l[k].own = o := ⟨_, rfl⟩
      rw [ho'] at HC hna
      unfold nodeV at HC
      obtain ⟨k0, k1, k2, k3, k4, k5, k6, k7, k8⟩ := hna
      simp only [] at k0 k1 k2 k3 k4 k5 k6 k7 k8 HC
      have y1 : (k : Int) < n := by omega
      have y0 : (0 : Int) ≤ k := by omega
      have HC := Lib.hid HC
      clear ho' hkk hok hdd htk hbs hbl hbz haz ha
      go_wp2_with fail
      refine HC.out.mono ?_
      rintro e w3 ⟨rfl, hb⟩
      have hb3 := hbw.trans (hb.mono hbw.size)
      have hbk2 := hbk.below hb hbk.lt
      clear hb HC hbk k0 k1 k2 k3 k4 k5 k6 k7 k8 hfl
      go_wp2_with fail
      go_roundw
      case rel => exact ⟨k + 1, _, by omega, by go_num, rfl, HT.out, hb3, hbk2⟩
      case measure => simp [intOf]; omega
    · obtain rfl : k = n := by omega
      have hal : l.take k = l := by rw [← HN.out, List.take_length]
      rw [hal] at ha haz
      have y1 : ¬ (k : Int) < k := by omega
      have y0 : (0 : Int) ≤ k := by omega
      have haz2 : a.size ≤ 409000000 := by omega
      have HA := Lib.hid ha
      clear hal haz ha hbl2 IH HC HOK HL hfl
      rcases HSH.out with ⟨q, hl0⟩ | ⟨q, hl0⟩ | ⟨ng, m, q, hn0, hl0⟩ | ⟨q, hw, hl0⟩ | ⟨q, hs, _, hl0⟩ | ⟨q, hs, hl0⟩ | ⟨q⟩ | ⟨q, _, _, _⟩ | ⟨q, _⟩ | ⟨q, _, hl0⟩
      all_goals clear HSH
      · have hk0 : kind = 1 := congrArg Own.kind q
        subst hk0
        have he : (⟨#[246]⟩ : ByteArray) = r := str_ext (by
          have hl0 : l = [] := len0 hl0
          rw [HRR.out, hdO_1 _ rfl, txO_nil (by simp) (by simp), hl0, cbL]
          decide +kernel)
        have HE := Lib.hid he
        clear he
        have c0 := hbk.cell 0
        have c1 := hbk.cell 1
        have c2 := hbk.cell 2
        have c3 := hbk.cell 3
        have c4 := hbk.cell 4
        have c5 := hbk.cell 5
        have c6 := hbk.cell 6
        have c7 := hbk.cell 7
        have c8 := hbk.cell 8
        go_wp2_with fail
        go_ret
        exact ⟨congrArg (fun x => Ending.returned (.string x)) HE.out, hbw⟩
      · have hk0 : kind = 2 := congrArg Own.kind q
        subst hk0
        cases b with
        | true =>
          have he : (⟨#[245]⟩ : ByteArray) = r := str_ext (by
            have hl0 : l = [] := len0 hl0
            rw [HRR.out, hdO_2 _ rfl, txO_nil (by simp) (by simp), hl0, cbL]
            exact (show ([245] : List UInt8) = itemL (7, 21, 21) ++ ([] ++ []) by decide +kernel))
          have HE := Lib.hid he
          clear he
          have c0 := hbk.cell 0
          have c1 := hbk.cell 1
          have c2 := hbk.cell 2
          have c3 := hbk.cell 3
          have c4 := hbk.cell 4
          have c5 := hbk.cell 5
          have c6 := hbk.cell 6
          have c7 := hbk.cell 7
          have c8 := hbk.cell 8
          go_wp2_with fail
          go_ret
          exact ⟨congrArg (fun x => Ending.returned (.string x)) HE.out, hbw⟩
        | false =>
          have he : (⟨#[244]⟩ : ByteArray) = r := str_ext (by
            have hl0 : l = [] := len0 hl0
            rw [HRR.out, hdO_2 _ rfl, txO_nil (by simp) (by simp), hl0, cbL]
            exact (show ([244] : List UInt8) = itemL (7, 20, 20) ++ ([] ++ []) by decide +kernel))
          have HE := Lib.hid he
          clear he
          have c0 := hbk.cell 0
          have c1 := hbk.cell 1
          have c2 := hbk.cell 2
          have c3 := hbk.cell 3
          have c4 := hbk.cell 4
          have c5 := hbk.cell 5
          have c6 := hbk.cell 6
          have c7 := hbk.cell 7
          have c8 := hbk.cell 8
          go_wp2_with fail
          go_ret
          exact ⟨congrArg (fun x => Ending.returned (.string x)) HE.out, hbw⟩
      · have hk0 : kind = 3 := congrArg Own.kind q
        subst hk0
        simp only [] at hn0
        obtain ⟨hlt64, hpos⟩ := toInt_lt hn0
        rw [hn0] at HTI
        unfold toIntV at HTI
        have hl0 : l = [] := len0 hl0
        have hrr := HRR.out
        rw [hdO_3 _ rfl] at hrr
        simp only [hn0] at hrr
        rw [txO_nil (by simp) (by simp), hl0, cbL, List.append_nil, List.append_nil] at hrr
        cases ng with
        | true =>
          have hm1 := hpos rfl
          have y2 : (1 : Int) ≤ m := by omega
          have y3 : (m : Int) < 18446744073709551616 := by omega
          have HM := fun w => ref_madeI 1 ((m : Int) - 1) (by decide) (by omega) (by omega) w
          have hmz := make_len 1 ((m : Int) - 1).toNat (by omega)
          obtain ⟨mk, hmk⟩ : ∃ mk : ByteArray, ⟨(makeL 1 ((m : Int) - 1).toNat).toArray⟩ = mk := ⟨_, rfl⟩
          have hml : mk.data.toList = makeL 1 ((m : Int) - 1).toNat := by rw [← hmk]
          have hms : mk.size = (makeL 1 ((m : Int) - 1).toNat).length := by rw [← hmk]; rfl
          simp only [hmk] at HM
          have HM : Hid (∀ w : World, Calls Tryz.prog 30 #[.int .i64 1, .int .u64 ((m : Int) - 1)] w fun e w' => e = .returned (.string mk) ∧ Below w.heap.size w w') := Lib.hid HM
          have HE := Lib.hid (show mk = r from str_ext (by
            rw [hml, hrr, makeL_item _ _ (by omega), show ((m : Int) - 1).toNat = m - 1 by omega]))
          have c0 := hbk.cell 0
          have c1 := hbk.cell 1
          have c2 := hbk.cell 2
          have c3 := hbk.cell 3
          have c4 := hbk.cell 4
          have c5 := hbk.cell 5
          have c6 := hbk.cell 6
          have c7 := hbk.cell 7
          have c8 := hbk.cell 8
          clear hml hmk hms hmz hrr hlt64 hpos hm1 hn0 q hl0
          go_wp2_with fail
          refine (HTI.out _).mono ?_
          rintro e w2 ⟨rfl, hb⟩
          have hb2 := hbw.trans (hb.mono hbw.size)
          have hbk2 := hbk.below hb hbk.lt
          clear c0 c1 c2 c3 c4 c5 c6 c7 c8 hb HTI
          have c0 := hbk2.cell 0
          have c1 := hbk2.cell 1
          have c2 := hbk2.cell 2
          have c3 := hbk2.cell 3
          have c4 := hbk2.cell 4
          have c5 := hbk2.cell 5
          have c6 := hbk2.cell 6
          have c7 := hbk2.cell 7
          have c8 := hbk2.cell 8
          go_wp2_with fail
          refine (HM.out _).mono ?_
          rintro e w3 ⟨rfl, hb⟩
          have hb3 := hb2.trans (hb.mono hb2.size)
          go_wp2_with fail
          go_ret
          exact ⟨congrArg (fun x => Ending.returned (.string x)) HE.out, hb3⟩
        | false =>
          have y3 : (m : Int) < 18446744073709551616 := by omega
          have HM := fun w => ref_madeI 0 ((m : Int)) (by decide) (by omega) (by omega) w
          have hmz := make_len 0 ((m : Int)).toNat (by omega)
          obtain ⟨mk, hmk⟩ : ∃ mk : ByteArray, ⟨(makeL 0 ((m : Int)).toNat).toArray⟩ = mk := ⟨_, rfl⟩
          have hml : mk.data.toList = makeL 0 ((m : Int)).toNat := by rw [← hmk]
          have hms : mk.size = (makeL 0 ((m : Int)).toNat).length := by rw [← hmk]; rfl
          simp only [hmk] at HM
          have HM : Hid (∀ w : World, Calls Tryz.prog 30 #[.int .i64 0, .int .u64 ((m : Int))] w fun e w' => e = .returned (.string mk) ∧ Below w.heap.size w w') := Lib.hid HM
          have HE := Lib.hid (show mk = r from str_ext (by
            rw [hml, hrr, makeL_item _ _ (by omega), show ((m : Int)).toNat = m by omega]))
          have c0 := hbk.cell 0
          have c1 := hbk.cell 1
          have c2 := hbk.cell 2
          have c3 := hbk.cell 3
          have c4 := hbk.cell 4
          have c5 := hbk.cell 5
          have c6 := hbk.cell 6
          have c7 := hbk.cell 7
          have c8 := hbk.cell 8
          clear hml hmk hms hmz hrr hlt64 hpos hn0 q hl0
          go_wp2_with fail
          refine (HTI.out _).mono ?_
          rintro e w2 ⟨rfl, hb⟩
          have hb2 := hbw.trans (hb.mono hbw.size)
          have hbk2 := hbk.below hb hbk.lt
          clear c0 c1 c2 c3 c4 c5 c6 c7 c8 hb HTI
          have c0 := hbk2.cell 0
          have c1 := hbk2.cell 1
          have c2 := hbk2.cell 2
          have c3 := hbk2.cell 3
          have c4 := hbk2.cell 4
          have c5 := hbk2.cell 5
          have c6 := hbk2.cell 6
          have c7 := hbk2.cell 7
          have c8 := hbk2.cell 8
          go_wp2_with fail
          refine (HM.out _).mono ?_
          rintro e w3 ⟨rfl, hb⟩
          have hb3 := hb2.trans (hb.mono hb2.size)
          go_wp2_with fail
          go_ret
          exact ⟨congrArg (fun x => Ending.returned (.string x)) HE.out, hb3⟩
      · have hk0 : kind = 4 := congrArg Own.kind q
        subst hk0
        simp only [] at hw
        rcases hw with ⟨hw1, hw2⟩ | ⟨hw1, hw2⟩ | hw1
        · subst hw1
          have HB := fun w => ref_bits 2 u.toNat (by decide) 4 b neg dg ex s (.slice A k c) w
          have hrr := HRR.out
          have hl0 : l = [] := len0 hl0
          rw [hdO_4 _ rfl, txO_nil (by simp) (by simp), hl0, cbL, List.append_nil, List.append_nil] at hrr
          obtain ⟨bt, hbt⟩ : ∃ bt : ByteArray, ⟨(beBytes u.toNat 2).toArray⟩ = bt := ⟨_, rfl⟩
          have hbl : bt.data.toList = beBytes u.toNat 2 := by rw [← hbt]
          have hbz : bt.size = 2 := by
            rw [← hbt]
            exact beBytes_length _ _
          simp only [hbt, show ((u.toNat : Nat) : Int) = u by omega] at HB
          have HB : Hid (∀ w : World, Calls Tryz.prog 31 #[.agg #[.int .i64 4, .bool b, .bool neg, .string dg, .int .i64 ex, .int .u64 u, .int .i64 16, .string s, .slice A k c]] w fun e w' => e = .returned (.string bt) ∧ Below w.heap.size w w') := Lib.hid HB
          have HE := Lib.hid (show (⟨#[249]⟩ : ByteArray) ++ bt = r from str_ext (by
            rw [append_list, hbl, hrr]
            rfl))
          have y6 : 1 + bt.size ≤ 1000 := by omega
          clear hbl hbt hbz hrr q hl0
          have c0 := hbk.cell 0
          have c1 := hbk.cell 1
          have c2 := hbk.cell 2
          have c3 := hbk.cell 3
          have c4 := hbk.cell 4
          have c5 := hbk.cell 5
          have c6 := hbk.cell 6
          have c7 := hbk.cell 7
          have c8 := hbk.cell 8
          go_wp2_with fail
          refine (HB.out _).mono ?_
          rintro e w3 ⟨rfl, hb⟩
          have hb3 := hbw.trans (hb.mono hbw.size)
          clear c0 c1 c2 c3 c4 c5 c6 c7 c8 hb HB
          go_wp2_with fail
          go_ret
          exact ⟨congrArg (fun x => Ending.returned (.string x)) HE.out, hb3⟩
        · subst hw1
          have HB := fun w => ref_bits 4 u.toNat (by decide) 4 b neg dg ex s (.slice A k c) w
          have hrr := HRR.out
          have hl0 : l = [] := len0 hl0
          rw [hdO_4 _ rfl, txO_nil (by simp) (by simp), hl0, cbL, List.append_nil, List.append_nil] at hrr
          obtain ⟨bt, hbt⟩ : ∃ bt : ByteArray, ⟨(beBytes u.toNat 4).toArray⟩ = bt := ⟨_, rfl⟩
          have hbl : bt.data.toList = beBytes u.toNat 4 := by rw [← hbt]
          have hbz : bt.size = 4 := by
            rw [← hbt]
            exact beBytes_length _ _
          simp only [hbt, show ((u.toNat : Nat) : Int) = u by omega] at HB
          have HB : Hid (∀ w : World, Calls Tryz.prog 31 #[.agg #[.int .i64 4, .bool b, .bool neg, .string dg, .int .i64 ex, .int .u64 u, .int .i64 32, .string s, .slice A k c]] w fun e w' => e = .returned (.string bt) ∧ Below w.heap.size w w') := Lib.hid HB
          have HE := Lib.hid (show (⟨#[250]⟩ : ByteArray) ++ bt = r from str_ext (by
            rw [append_list, hbl, hrr]
            rfl))
          have y6 : 1 + bt.size ≤ 1000 := by omega
          clear hbl hbt hbz hrr q hl0
          have c0 := hbk.cell 0
          have c1 := hbk.cell 1
          have c2 := hbk.cell 2
          have c3 := hbk.cell 3
          have c4 := hbk.cell 4
          have c5 := hbk.cell 5
          have c6 := hbk.cell 6
          have c7 := hbk.cell 7
          have c8 := hbk.cell 8
          go_wp2_with fail
          refine (HB.out _).mono ?_
          rintro e w3 ⟨rfl, hb⟩
          have hb3 := hbw.trans (hb.mono hbw.size)
          clear c0 c1 c2 c3 c4 c5 c6 c7 c8 hb HB
          go_wp2_with fail
          go_ret
          exact ⟨congrArg (fun x => Ending.returned (.string x)) HE.out, hb3⟩
        · subst hw1
          have HB := fun w => ref_bits 8 u.toNat (by decide) 4 b neg dg ex s (.slice A k c) w
          have hrr := HRR.out
          have hl0 : l = [] := len0 hl0
          rw [hdO_4 _ rfl, txO_nil (by simp) (by simp), hl0, cbL, List.append_nil, List.append_nil] at hrr
          obtain ⟨bt, hbt⟩ : ∃ bt : ByteArray, ⟨(beBytes u.toNat 8).toArray⟩ = bt := ⟨_, rfl⟩
          have hbl : bt.data.toList = beBytes u.toNat 8 := by rw [← hbt]
          have hbz : bt.size = 8 := by
            rw [← hbt]
            exact beBytes_length _ _
          simp only [hbt, show ((u.toNat : Nat) : Int) = u by omega] at HB
          have HB : Hid (∀ w : World, Calls Tryz.prog 31 #[.agg #[.int .i64 4, .bool b, .bool neg, .string dg, .int .i64 ex, .int .u64 u, .int .i64 64, .string s, .slice A k c]] w fun e w' => e = .returned (.string bt) ∧ Below w.heap.size w w') := Lib.hid HB
          have HE := Lib.hid (show (⟨#[251]⟩ : ByteArray) ++ bt = r from str_ext (by
            rw [append_list, hbl, hrr]
            rfl))
          have y6 : 1 + bt.size ≤ 1000 := by omega
          clear hbl hbt hbz hrr q hl0
          have c0 := hbk.cell 0
          have c1 := hbk.cell 1
          have c2 := hbk.cell 2
          have c3 := hbk.cell 3
          have c4 := hbk.cell 4
          have c5 := hbk.cell 5
          have c6 := hbk.cell 6
          have c7 := hbk.cell 7
          have c8 := hbk.cell 8
          go_wp2_with fail
          refine (HB.out _).mono ?_
          rintro e w3 ⟨rfl, hb⟩
          have hb3 := hbw.trans (hb.mono hbw.size)
          clear c0 c1 c2 c3 c4 c5 c6 c7 c8 hb HB
          go_wp2_with fail
          go_ret
          exact ⟨congrArg (fun x => Ending.returned (.string x)) HE.out, hb3⟩
      · have hk0 : kind = 5 := congrArg Own.kind q
        subst hk0
        simp only [] at hs
        have hsz : (s.size : Int) ≤ 400 := by omega
        have hl0 : l = [] := len0 hl0
        have hrr := HRR.out
        rw [hdO_5 _ rfl, txO_is (by simp), hl0, cbL, List.append_nil] at hrr
        simp only [] at hrr
        have HM := fun w => ref_madeI 3 ((s.size : Int)) (by decide) (by omega) (by omega) w
        have hmz := make_len 3 ((s.size : Int)).toNat (by omega)
        obtain ⟨mk, hmk⟩ : ∃ mk : ByteArray, ⟨(makeL 3 ((s.size : Int)).toNat).toArray⟩ = mk := ⟨_, rfl⟩
        have hml : mk.data.toList = makeL 3 ((s.size : Int)).toNat := by rw [← hmk]
        have hms : mk.size = (makeL 3 ((s.size : Int)).toNat).length := by rw [← hmk]; rfl
        simp only [hmk] at HM
        have HM : Hid (∀ w : World, Calls Tryz.prog 30 #[.int .i64 3, .int .u64 ((s.size : Int))] w fun e w' => e = .returned (.string mk) ∧ Below w.heap.size w w') := Lib.hid HM
        have HE := Lib.hid (show mk ++ s = r from str_ext (by
          rw [append_list, hml, hrr, makeL_item _ _ (by omega), show ((s.size : Int)).toNat = s.size by omega]))
        have y6 : mk.size + s.size ≤ 1000 := by omega
        clear hml hmk hms hmz hrr q hl0
        have c0 := hbk.cell 0
        have c1 := hbk.cell 1
        have c2 := hbk.cell 2
        have c3 := hbk.cell 3
        have c4 := hbk.cell 4
        have c5 := hbk.cell 5
        have c6 := hbk.cell 6
        have c7 := hbk.cell 7
        have c8 := hbk.cell 8
        have HBK := Lib.hid hbk
        have hne : ¬ 9223372036854775807 < mk.size + s.size := by omega
        have hwz : IntKind.u64.wrap (s.size : Int) = s.size := by
          have : IntKind.u64.wrap (s.size : Int) = (s.size : Int) % 18446744073709551616 := rfl
          rw [this]
          omega
        clear hbk
        go_wp2_with fail
        refine wp_region_tail (R := fun W W' => Below W.heap.size W W') 8 (by kernel_rfl) (by kernel_rfl) (fun _ => Below.refl _ _) (by kernel_rfl) (by kernel_rfl) (fun W => Below wr.heap.size wr W)
          [fun v _ => v = .pointer (some ⟨w.heap.size, 7, none⟩), fun v _ => v = .string s, fun v _ => v = .int .i64 s.size, fun v _ => v = .int .u64 s.size, fun v _ => v = .string mk, fun v _ => v = .pointer (some ⟨w.heap.size, 7, none⟩), fun v _ => v = .string s, fun v _ => v = .string (mk ++ s)] ?_ ?_ ?_ ?_ ?_
        case refine_1 => exact (Below.refl _ _).drew
        case refine_2 => exact fun W W' he hr => he.trans (hr.mono he.size)
        case refine_3 =>
          intro q hq v W W' _ hv hr
          simp only [List.mem_cons, List.not_mem_nil, or_false] at hq
          rcases hq with rfl | rfl | rfl | rfl | rfl | rfl | rfl | rfl <;> exact hv
        case refine_4 =>
          refine flow_cons (flow_op rfl rfl (by kernel_rfl) (by kernel_rfl) ?_) ?_
          · intro env W hE hn ρ hρ hc hf hg K hK
            have r1 : ρ (.tmp 1) = .pointer (some ⟨w.heap.size, 0, none⟩) := by rw [hρ]; kernel_rfl
            clear hρ hn hg
            simp [opLands, go_sem, r1]
            exact hK _ _ rfl (Below.refl _ _)
          refine flow_cons (flow_op rfl rfl (by kernel_rfl) (by kernel_rfl) ?_) ?_
          · intro env W hE hn ρ hρ hc hf hg K hK
            have r70 := (show ρ (.tmp 70) = env 0 by rw [hρ]; kernel_rfl).trans (hn 0 (by kernel_rfl))
            clear hρ hn hg
            have q0 : W.cell? ⟨w.heap.size, 7, none⟩ = some (.string s) := (HBK.out.below hE HBK.out.lt).cell 7
            simp [opLands, go_sem, r70, q0]
            exact hK _ _ rfl (Below.refl _ _)
          refine flow_cons (flow_op rfl rfl (by kernel_rfl) (by kernel_rfl) ?_) ?_
          · intro env W hE hn ρ hρ hc hf hg K hK
            have r71 := (show ρ (.tmp 71) = env 1 by rw [hρ]; kernel_rfl).trans (hn 1 (by kernel_rfl))
            clear hρ hn hg
            simp [opLands, go_sem, r71]
            exact hK _ _ rfl (Below.refl _ _)
          refine flow_cons (flow_op rfl rfl (by kernel_rfl) (by kernel_rfl) ?_) ?_
          · intro env W hE hn ρ hρ hc hf hg K hK
            have r72 := (show ρ (.tmp 72) = env 2 by rw [hρ]; kernel_rfl).trans (hn 2 (by kernel_rfl))
            clear hρ hn hg
            simp [opLands, go_sem, r72, hwz]
            exact hK _ _ rfl (Below.refl _ _)
          refine flow_cons (flow_op rfl rfl (by kernel_rfl) (by kernel_rfl) ?_) ?_
          · intro env W hE hn ρ hρ hc hf hg K hK
            have r73 := (show ρ (.tmp 73) = env 3 by rw [hρ]; kernel_rfl).trans (hn 3 (by kernel_rfl))
            clear hρ hn hg
            refine lands_call rfl (by kernel_rfl) hf ?_
            rw [show #[Operand.const (.int .i64 3), Operand.tmp 73].map ρ = #[.int .i64 3, .int .u64 s.size] by simp [hc, r73]]
            refine (HM.out W).mono ?_
            rintro e W' ⟨rfl, hb⟩
            exact ⟨_, rfl, hK _ _ rfl hb⟩
          refine flow_cons (flow_op rfl rfl (by kernel_rfl) (by kernel_rfl) ?_) ?_
          · intro env W hE hn ρ hρ hc hf hg K hK
            have r1 : ρ (.tmp 1) = .pointer (some ⟨w.heap.size, 0, none⟩) := by rw [hρ]; kernel_rfl
            clear hρ hn hg
            simp [opLands, go_sem, r1]
            exact hK _ _ rfl (Below.refl _ _)
          refine flow_cons (flow_op rfl rfl (by kernel_rfl) (by kernel_rfl) ?_) ?_
          · intro env W hE hn ρ hρ hc hf hg K hK
            have r75 := (show ρ (.tmp 75) = env 5 by rw [hρ]; kernel_rfl).trans (hn 5 (by kernel_rfl))
            clear hρ hn hg
            have q0 : W.cell? ⟨w.heap.size, 7, none⟩ = some (.string s) := (HBK.out.below hE HBK.out.lt).cell 7
            simp [opLands, go_sem, r75, q0]
            exact hK _ _ rfl (Below.refl _ _)
          refine flow_cons (flow_op rfl rfl (by kernel_rfl) (by kernel_rfl) ?_) flow_nil
          · intro env W hE hn ρ hρ hc hf hg K hK
            have r74 := (show ρ (.tmp 74) = env 4 by rw [hρ]; kernel_rfl).trans (hn 4 (by kernel_rfl))
            have r76 := (show ρ (.tmp 76) = env 6 by rw [hρ]; kernel_rfl).trans (hn 6 (by kernel_rfl))
            clear hρ hn hg
            simp [opLands, go_sem, r74, r76, hne]
            exact hK _ _ rfl (Below.refl _ _)
        case refine_5 =>
          intro env W hE hn
          have e7 := hn 7 (by decide)
          simp only [phis, List.getD_cons_zero, List.getD_cons_succ] at e7
          clear hn
          have hbE := hbw.trans (hE.mono hbw.size)
          clear hE
          rw [HE.out] at e7
          refine Great.wpList_runTo rfl (some 2) rfl (.string r) W ((show _ = Result.ok (Next.value (env 7)) W by kernel_rfl).trans (by rw [e7])) ?_
          refine wpList_nil ?_
          refine (‹∀ (a : Act) (w : World), Code.wp _ Code.ret _ a w → _›) _ _ (wp_ret ?_)
          show bodyPost Tryz.prog Tryz.f21 (fun e w' => e = .returned (.string r) ∧ Below w.heap.size w w') .ret _ W
          exact bodyPost_ret (v := .string r) (by kernel_rfl) (by kernel_rfl) ⟨rfl, hbE⟩
      · have hk0 : kind = 6 := congrArg Own.kind q
        subst hk0
        simp only [] at hs
        have hsz : (s.size : Int) ≤ 400 := by omega
        have hl0 : l = [] := len0 hl0
        have hrr := HRR.out
        rw [hdO_6 _ rfl, txO_is (by simp), hl0, cbL, List.append_nil] at hrr
        simp only [] at hrr
        have HM := fun w => ref_madeI 2 ((s.size : Int)) (by decide) (by omega) (by omega) w
        have hmz := make_len 2 ((s.size : Int)).toNat (by omega)
        obtain ⟨mk, hmk⟩ : ∃ mk : ByteArray, ⟨(makeL 2 ((s.size : Int)).toNat).toArray⟩ = mk := ⟨_, rfl⟩
        have hml : mk.data.toList = makeL 2 ((s.size : Int)).toNat := by rw [← hmk]
        have hms : mk.size = (makeL 2 ((s.size : Int)).toNat).length := by rw [← hmk]; rfl
        simp only [hmk] at HM
        have HM : Hid (∀ w : World, Calls Tryz.prog 30 #[.int .i64 2, .int .u64 ((s.size : Int))] w fun e w' => e = .returned (.string mk) ∧ Below w.heap.size w w') := Lib.hid HM
        have HE := Lib.hid (show mk ++ s = r from str_ext (by
          rw [append_list, hml, hrr, makeL_item _ _ (by omega), show ((s.size : Int)).toNat = s.size by omega]))
        have y6 : mk.size + s.size ≤ 1000 := by omega
        clear hml hmk hms hmz hrr q hl0
        have c0 := hbk.cell 0
        have c1 := hbk.cell 1
        have c2 := hbk.cell 2
        have c3 := hbk.cell 3
        have c4 := hbk.cell 4
        have c5 := hbk.cell 5
        have c6 := hbk.cell 6
        have c7 := hbk.cell 7
        have c8 := hbk.cell 8
        have HBK := Lib.hid hbk
        have hne : ¬ 9223372036854775807 < mk.size + s.size := by omega
        have hwz : IntKind.u64.wrap (s.size : Int) = s.size := by
          have : IntKind.u64.wrap (s.size : Int) = (s.size : Int) % 18446744073709551616 := rfl
          rw [this]
          omega
        clear hbk
        go_wp2_with fail
        refine wp_region_tail (R := fun W W' => Below W.heap.size W W') 8 (by kernel_rfl) (by kernel_rfl) (fun _ => Below.refl _ _) (by kernel_rfl) (by kernel_rfl) (fun W => Below wr.heap.size wr W)
          [fun v _ => v = .pointer (some ⟨w.heap.size, 7, none⟩), fun v _ => v = .string s, fun v _ => v = .int .i64 s.size, fun v _ => v = .int .u64 s.size, fun v _ => v = .string mk, fun v _ => v = .pointer (some ⟨w.heap.size, 7, none⟩), fun v _ => v = .string s, fun v _ => v = .string (mk ++ s)] ?_ ?_ ?_ ?_ ?_
        case refine_1 => exact (Below.refl _ _).drew
        case refine_2 => exact fun W W' he hr => he.trans (hr.mono he.size)
        case refine_3 =>
          intro q hq v W W' _ hv hr
          simp only [List.mem_cons, List.not_mem_nil, or_false] at hq
          rcases hq with rfl | rfl | rfl | rfl | rfl | rfl | rfl | rfl <;> exact hv
        case refine_4 =>
          refine flow_cons (flow_op rfl rfl (by kernel_rfl) (by kernel_rfl) ?_) ?_
          · intro env W hE hn ρ hρ hc hf hg K hK
            have r1 : ρ (.tmp 1) = .pointer (some ⟨w.heap.size, 0, none⟩) := by rw [hρ]; kernel_rfl
            clear hρ hn hg
            simp [opLands, go_sem, r1]
            exact hK _ _ rfl (Below.refl _ _)
          refine flow_cons (flow_op rfl rfl (by kernel_rfl) (by kernel_rfl) ?_) ?_
          · intro env W hE hn ρ hρ hc hf hg K hK
            have r80 := (show ρ (.tmp 80) = env 0 by rw [hρ]; kernel_rfl).trans (hn 0 (by kernel_rfl))
            clear hρ hn hg
            have q0 : W.cell? ⟨w.heap.size, 7, none⟩ = some (.string s) := (HBK.out.below hE HBK.out.lt).cell 7
            simp [opLands, go_sem, r80, q0]
            exact hK _ _ rfl (Below.refl _ _)
          refine flow_cons (flow_op rfl rfl (by kernel_rfl) (by kernel_rfl) ?_) ?_
          · intro env W hE hn ρ hρ hc hf hg K hK
            have r81 := (show ρ (.tmp 81) = env 1 by rw [hρ]; kernel_rfl).trans (hn 1 (by kernel_rfl))
            clear hρ hn hg
            simp [opLands, go_sem, r81]
            exact hK _ _ rfl (Below.refl _ _)
          refine flow_cons (flow_op rfl rfl (by kernel_rfl) (by kernel_rfl) ?_) ?_
          · intro env W hE hn ρ hρ hc hf hg K hK
            have r82 := (show ρ (.tmp 82) = env 2 by rw [hρ]; kernel_rfl).trans (hn 2 (by kernel_rfl))
            clear hρ hn hg
            simp [opLands, go_sem, r82, hwz]
            exact hK _ _ rfl (Below.refl _ _)
          refine flow_cons (flow_op rfl rfl (by kernel_rfl) (by kernel_rfl) ?_) ?_
          · intro env W hE hn ρ hρ hc hf hg K hK
            have r83 := (show ρ (.tmp 83) = env 3 by rw [hρ]; kernel_rfl).trans (hn 3 (by kernel_rfl))
            clear hρ hn hg
            refine lands_call rfl (by kernel_rfl) hf ?_
            rw [show #[Operand.const (.int .i64 2), Operand.tmp 83].map ρ = #[.int .i64 2, .int .u64 s.size] by simp [hc, r83]]
            refine (HM.out W).mono ?_
            rintro e W' ⟨rfl, hb⟩
            exact ⟨_, rfl, hK _ _ rfl hb⟩
          refine flow_cons (flow_op rfl rfl (by kernel_rfl) (by kernel_rfl) ?_) ?_
          · intro env W hE hn ρ hρ hc hf hg K hK
            have r1 : ρ (.tmp 1) = .pointer (some ⟨w.heap.size, 0, none⟩) := by rw [hρ]; kernel_rfl
            clear hρ hn hg
            simp [opLands, go_sem, r1]
            exact hK _ _ rfl (Below.refl _ _)
          refine flow_cons (flow_op rfl rfl (by kernel_rfl) (by kernel_rfl) ?_) ?_
          · intro env W hE hn ρ hρ hc hf hg K hK
            have r85 := (show ρ (.tmp 85) = env 5 by rw [hρ]; kernel_rfl).trans (hn 5 (by kernel_rfl))
            clear hρ hn hg
            have q0 : W.cell? ⟨w.heap.size, 7, none⟩ = some (.string s) := (HBK.out.below hE HBK.out.lt).cell 7
            simp [opLands, go_sem, r85, q0]
            exact hK _ _ rfl (Below.refl _ _)
          refine flow_cons (flow_op rfl rfl (by kernel_rfl) (by kernel_rfl) ?_) flow_nil
          · intro env W hE hn ρ hρ hc hf hg K hK
            have r84 := (show ρ (.tmp 84) = env 4 by rw [hρ]; kernel_rfl).trans (hn 4 (by kernel_rfl))
            have r86 := (show ρ (.tmp 86) = env 6 by rw [hρ]; kernel_rfl).trans (hn 6 (by kernel_rfl))
            clear hρ hn hg
            simp [opLands, go_sem, r84, r86, hne]
            exact hK _ _ rfl (Below.refl _ _)
        case refine_5 =>
          intro env W hE hn
          have e7 := hn 7 (by decide)
          simp only [phis, List.getD_cons_zero, List.getD_cons_succ] at e7
          clear hn
          have hbE := hbw.trans (hE.mono hbw.size)
          clear hE
          rw [HE.out] at e7
          refine Great.wpList_runTo rfl (some 2) rfl (.string r) W ((show _ = Result.ok (Next.value (env 7)) W by kernel_rfl).trans (by rw [e7])) ?_
          refine wpList_nil ?_
          refine (‹∀ (a : Act) (w : World), Code.wp _ Code.ret _ a w → _›) _ _ (wp_ret ?_)
          show bodyPost Tryz.prog Tryz.f21 (fun e w' => e = .returned (.string r) ∧ Below w.heap.size w w') .ret _ W
          exact bodyPost_ret (v := .string r) (by kernel_rfl) (by kernel_rfl) ⟨rfl, hbE⟩
      · have hk0 : kind = 7 := congrArg Own.kind q
        subst hk0
        have hrr := HRR.out
        rw [hdO_7 _ rfl, txO_nil (by simp) (by simp), List.nil_append] at hrr
        have HM := fun w => ref_madeI 4 ((k : Int)) (by decide) (by omega) (by omega) w
        have hmz := make_len 4 ((k : Int)).toNat (by omega)
        obtain ⟨mk, hmk⟩ : ∃ mk : ByteArray, ⟨(makeL 4 ((k : Int)).toNat).toArray⟩ = mk := ⟨_, rfl⟩
        have hml : mk.data.toList = makeL 4 ((k : Int)).toNat := by rw [← hmk]
        have hms : mk.size = (makeL 4 ((k : Int)).toNat).length := by rw [← hmk]; rfl
        simp only [hmk] at HM
        have HM : Hid (∀ w : World, Calls Tryz.prog 30 #[.int .i64 4, .int .u64 ((k : Int))] w fun e w' => e = .returned (.string mk) ∧ Below w.heap.size w w') := Lib.hid HM
        have HE := Lib.hid (show mk ++ a = r from str_ext (by
          rw [append_list, hml, HA.out, hrr, makeL_item _ _ (by omega), show ((k : Int)).toNat = k by omega]))
        have y6 : mk.size + a.size ≤ 1000000000 := by omega
        clear hml hmk hms hmz hrr q
        have c0 := hbk.cell 0
        have c1 := hbk.cell 1
        have c2 := hbk.cell 2
        have c3 := hbk.cell 3
        have c4 := hbk.cell 4
        have c5 := hbk.cell 5
        have c6 := hbk.cell 6
        have c7 := hbk.cell 7
        have c8 := hbk.cell 8
        go_wp2_with fail
        refine (HM.out _).mono ?_
        rintro e w3 ⟨rfl, hb⟩
        have hb3 := hbw.trans (hb.mono hbw.size)
        clear c0 c1 c2 c3 c4 c5 c6 c7 c8 hb HM
        go_wp2_with fail
        go_ret
        exact ⟨congrArg (fun x => Ending.returned (.string x)) HE.out, hb3⟩
      · have hk0 : kind = 8 := congrArg Own.kind q
        subst hk0
        have hrr := HRR.out
        rw [hdO_8 _ rfl, txO_nil (by simp) (by simp), List.nil_append] at hrr
        have HM := fun w => ref_madeI 5 ((k : Int) / 2) (by decide) (by omega) (by omega) w
        have hmz := make_len 5 ((k : Int) / 2).toNat (by omega)
        obtain ⟨mk, hmk⟩ : ∃ mk : ByteArray, ⟨(makeL 5 ((k : Int) / 2).toNat).toArray⟩ = mk := ⟨_, rfl⟩
        have hml : mk.data.toList = makeL 5 ((k : Int) / 2).toNat := by rw [← hmk]
        have hms : mk.size = (makeL 5 ((k : Int) / 2).toNat).length := by rw [← hmk]; rfl
        simp only [hmk] at HM
        have HM : Hid (∀ w : World, Calls Tryz.prog 30 #[.int .i64 5, .int .u64 ((k : Int) / 2)] w fun e w' => e = .returned (.string mk) ∧ Below w.heap.size w w') := Lib.hid HM
        have HE := Lib.hid (show mk ++ a = r from str_ext (by
          rw [append_list, hml, HA.out, hrr, makeL_item _ _ (by omega), show ((k : Int) / 2).toNat = k / 2 by omega]))
        have y6 : mk.size + a.size ≤ 1000000000 := by omega
        clear hml hmk hms hmz hrr q
        have c0 := hbk.cell 0
        have c1 := hbk.cell 1
        have c2 := hbk.cell 2
        have c3 := hbk.cell 3
        have c4 := hbk.cell 4
        have c5 := hbk.cell 5
        have c6 := hbk.cell 6
        have c7 := hbk.cell 7
        have c8 := hbk.cell 8
        go_wp2_with fail
        refine (HM.out _).mono ?_
        rintro e w3 ⟨rfl, hb⟩
        have hb3 := hbw.trans (hb.mono hbw.size)
        clear c0 c1 c2 c3 c4 c5 c6 c7 c8 hb HM
        go_wp2_with fail
        go_ret
        exact ⟨congrArg (fun x => Ending.returned (.string x)) HE.out, hb3⟩
      · have hk0 : kind = 9 := congrArg Own.kind q
        subst hk0
        have hrr := HRR.out
        rw [hdO_9 _ rfl, txO_nil (by simp) (by simp), List.nil_append] at hrr
        simp only [] at hrr
        have HM := fun w => ref_madeI 6 (u) (by decide) (by omega) (by omega) w
        have hmz := make_len 6 (u).toNat (by omega)
        obtain ⟨mk, hmk⟩ : ∃ mk : ByteArray, ⟨(makeL 6 (u).toNat).toArray⟩ = mk := ⟨_, rfl⟩
        have hml : mk.data.toList = makeL 6 (u).toNat := by rw [← hmk]
        have hms : mk.size = (makeL 6 (u).toNat).length := by rw [← hmk]; rfl
        simp only [hmk] at HM
        have HM : Hid (∀ w : World, Calls Tryz.prog 30 #[.int .i64 6, .int .u64 (u)] w fun e w' => e = .returned (.string mk) ∧ Below w.heap.size w w') := Lib.hid HM
        have HE := Lib.hid (show mk ++ a = r from str_ext (by
          rw [append_list, hml, HA.out, hrr, makeL_item _ _ (by omega)]))
        have y6 : mk.size + a.size ≤ 1000000000 := by omega
        clear hml hmk hms hmz hrr q
        have c0 := hbk.cell 0
        have c1 := hbk.cell 1
        have c2 := hbk.cell 2
        have c3 := hbk.cell 3
        have c4 := hbk.cell 4
        have c5 := hbk.cell 5
        have c6 := hbk.cell 6
        have c7 := hbk.cell 7
        have c8 := hbk.cell 8
        go_wp2_with fail
        refine (HM.out _).mono ?_
        rintro e w3 ⟨rfl, hb⟩
        have hb3 := hbw.trans (hb.mono hbw.size)
        clear c0 c1 c2 c3 c4 c5 c6 c7 c8 hb HM
        go_wp2_with fail
        go_ret
        exact ⟨congrArg (fun x => Ending.returned (.string x)) HE.out, hb3⟩
      · have hk0 : kind = 10 := congrArg Own.kind q
        subst hk0
        have hl0 : l = [] := len0 hl0
        have hrr := HRR.out
        rw [hdO_10 _ rfl, txO_nil (by simp) (by simp), hl0, cbL, List.append_nil, List.append_nil] at hrr
        simp only [] at hrr
        have HM := fun w => ref_madeI 7 (u) (by decide) (by omega) (by omega) w
        have hmz := make_len 7 (u).toNat (by omega)
        obtain ⟨mk, hmk⟩ : ∃ mk : ByteArray, ⟨(makeL 7 (u).toNat).toArray⟩ = mk := ⟨_, rfl⟩
        have hml : mk.data.toList = makeL 7 (u).toNat := by rw [← hmk]
        have hms : mk.size = (makeL 7 (u).toNat).length := by rw [← hmk]; rfl
        simp only [hmk] at HM
        have HM : Hid (∀ w : World, Calls Tryz.prog 30 #[.int .i64 7, .int .u64 (u)] w fun e w' => e = .returned (.string mk) ∧ Below w.heap.size w w') := Lib.hid HM
        have HE := Lib.hid (show mk = r from str_ext (by
          rw [hml, hrr, makeL_item _ _ (by omega)]))
        clear hml hmk hms hmz hrr q hl0
        have c0 := hbk.cell 0
        have c1 := hbk.cell 1
        have c2 := hbk.cell 2
        have c3 := hbk.cell 3
        have c4 := hbk.cell 4
        have c5 := hbk.cell 5
        have c6 := hbk.cell 6
        have c7 := hbk.cell 7
        have c8 := hbk.cell 8
        go_wp2_with fail
        refine (HM.out _).mono ?_
        rintro e w3 ⟨rfl, hb⟩
        have hb3 := hbw.trans (hb.mono hbw.size)
        clear c0 c1 c2 c3 c4 c5 c6 c7 c8 hb HM
        go_wp2_with fail
        go_ret
        exact ⟨congrArg (fun x => Ending.returned (.string x)) HE.out, hb3⟩
end Go.Proofs.YtffaefdnlgfdbaaGreatDoor
