/- The texts CsI, put together. -/
import Derived.Test.YtflkmhgbinlfiaaGreatDoorPn46
import Derived.Test.YtflkmhgbinlfiaaGreatDoorPn47
namespace Go.Proofs.YtflkmhgbinlfiaaGreatDoor
open Go.RowKit Go.Shelf
attribute [local go_sem] Oper.semAt_some

/-- Behind k chunks: what was written, and what is left. -/
def ChS (maj : Nat) (s : ByteArray) (k : Nat) (out rest : ByteArray) : Prop := ∃ ps : List (List UInt8), ps.length = k ∧ out = bs (firstByte maj 31 :: inChunks maj ps) ∧ s.data.toList = ps.flatten ++ rest.data.toList ∧ ∀ c ∈ ps, c.length < 18446744073709551616
theorem ChS.start (maj : Nat) (s : ByteArray) : ChS maj s 0 (bs [firstByte maj 31]) s := ⟨[], rfl, rfl, rfl, fun c h => by cases h⟩
theorem inChunks_snoc (maj : Nat) (ps : List (List UInt8)) (c : List UInt8) : inChunks maj (ps ++ [c]) = inChunks maj ps ++ (makeL maj c.length ++ c) := by
  unfold inChunks
  rw [List.map_append, List.flatten_append]
  simp
theorem bs_cat (l m : List UInt8) : bs l ++ bs m = bs (l ++ m) := (bs_append l (bs m)).symm
theorem ext_all (s : ByteArray) : s.extract 0 s.size = s := by
  rw [cut_front, List.take_of_length_le (by rw [data_len]; exact Nat.le_refl _)]
  rfl
theorem ext_none (s : ByteArray) : s.extract s.size s.size = ByteArray.empty := by
  rw [cut_back, List.drop_of_length_le (by rw [data_len]; exact Nat.le_refl _)]
  rfl
theorem ChS.step {maj k p : Nat} {s out rest : ByteArray} (h : ChS maj s k out rest) (hp : p ≤ rest.size) (hr : rest.size ≤ 1000) : ChS maj s (k + 1) (out ++ bs (makeL maj p) ++ rest.extract 0 p) (rest.extract p rest.size) := by
  obtain ⟨ps, h1, h2, h3, h4⟩ := h
  have hl : (rest.data.toList.take p).length = p := by rw [List.length_take, data_len]; omega
  refine ⟨ps ++ [rest.data.toList.take p], by simp [h1], ?_, ?_, fun c hc => ?_⟩
  · rw [inChunks_snoc, hl, h2, cut_front, bs_cat, bs_cat]
    exact congrArg bs (by simp)
  · rw [h3, cut_back, bs_list, List.flatten_append, List.append_assoc]
    simp
  · rcases List.mem_append.1 hc with hc | hc
    · exact h4 c hc
    · rw [List.mem_singleton.1 hc, hl]
      omega
theorem empty_size : ByteArray.empty.size = 0 := rfl
theorem ChS.last {maj k : Nat} {s out rest : ByteArray} (h : ChS maj s k out rest) (hr : rest.size ≤ 1000) : ChS maj s (k + 1) (out ++ bs (makeL maj rest.size) ++ rest) ByteArray.empty := by
  have h1 := h.step (Nat.le_refl _) hr
  rwa [ext_all, ext_none] at h1
theorem inChunks_len (maj : Nat) : ∀ ps : List (List UInt8), ps.length ≤ (inChunks maj ps).length
  | [] => Nat.le_refl _
  | c :: ps => by
    have := inChunks_len maj ps
    unfold inChunks at this ⊢
    rw [List.map_cons, List.flatten_cons, List.length_append, List.length_append, makeL_length, List.length_cons]
    omega
theorem ChS.done {maj k : Nat} {s out rest : ByteArray} (h : ChS maj s k out rest) (hm : maj = 2 ∨ maj = 3) (hr : rest.size = 0) : itemC (out ++ ⟨#[255]⟩) = .good (strT (kindM maj) s.data.toList) [] := by
  obtain ⟨ps, h1, h2, h3, h4⟩ := h
  have hr0 : rest.data.toList = [] := List.length_eq_zero_iff.1 (by rw [data_len, hr])
  rw [hr0, List.append_nil] at h3
  have e : out ++ (⟨#[255]⟩ : ByteArray) = bs (firstByte maj 31 :: (inChunks maj ps ++ 255 :: [])) := by
    rw [h2]
    exact bs_cat _ [255]
  unfold itemC
  rw [e, bs_list, h3]
  refine chunked_item _ 15 maj hm ps [] ?_ h4
  have := inChunks_len maj ps
  rw [bs_size, List.length_cons, List.length_append]
  omega
theorem rem_small (x : Int) : 0 ≤ wrap64 ((IntKind.u64.wrap x).tmod 41) ∧ wrap64 ((IntKind.u64.wrap x).tmod 41) ≤ 40 := by
  have h0 : 0 ≤ IntKind.u64.wrap x := by
    unfold IntKind.wrap
    simp [IntKind.signed]
    exact Int.emod_nonneg _ (by decide)
  rw [Int.tmod_eq_emod_of_nonneg h0]
  unfold wrap64
  omega
theorem whole_at (maj : Nat) (hm : maj = 2 ∨ maj = 3) (s : ByteArray) (hs : s.size ≤ 1000) : itemC (bs (makeL maj s.size) ++ s) = .good (strT (kindM maj) s.data.toList) [] := by
  unfold itemC
  rw [cat_list, bs_list, ← data_len s]
  have h := whole_item ((bs (makeL maj s.data.toList.length) ++ s).size + 1) 15 maj hm s.data.toList [] (by rw [data_len]; omega)
  rw [List.append_nil] at h
  exact h

set_option maxHeartbeats 8000000 in
set_option maxRecDepth 100000 in
theorem chunks_walk2 {aT aF : Addr} (w : World) (s0 : ByteArray) (A : Option Addr) (n c : Nat) (l : List Int) (hs0 : s0.size ≤ 9223372036854775807) (hn : n ≤ 9223372036854775807) (hl : IntsAt w w.heap.size A n l) (h : RW w aT aF) :
    Calls Tryz.prog 6 #[.string s0, .slice A n c, .bool false] w fun e w' => e = .returned (.bool true) ∧ Below w.heap.size w w' := by
  have H1 := Lib.hid (cr_shown w h)
  obtain ⟨ks, hks⟩ : ∃ k, min s0.size 300 = k := ⟨_, rfl⟩
  have y0 : min (s0.size : Int) 300 = (ks : Int) := by omega
  have y2 : ks ≤ s0.size := by omega
  have hsz := ext_size s0 ks y2
  obtain ⟨s, hs⟩ : ∃ s, s0.extract 0 ks = s := ⟨_, rfl⟩
  rw [hs] at hsz
  have hs9 : s.size ≤ 300 := by omega
  have HS := Lib.hid hs
  have H2 := Lib.hid (fun (x : ByteArray) (hx : x.size ≤ 1000000000) W (hb : Below w.heap.size w W) => cr_Item x hx W (h.below hb).tab (h.below hb).ty)
  have HMK := Lib.hid (fun (p : Nat) (hp : p ≤ 1000) W => (show Calls Tryz.prog 16 #[.int .i64 2, .int .u64 p] W fun e w' => e = .returned (.tuple #[.string (bs (makeL 2 p)), .int .i64 0]) ∧ Below W.heap.size W w' from head_Make 2 p (by omega) (by omega) W))
  obtain ⟨a, haE⟩ : ∃ a : ByteArray, bs (makeL 2 s.size) = a := ⟨_, rfl⟩
  have haz : a.size ≤ 9 := by rw [← haE]; exact make_small 2 s.size (by omega)
  have hwh := whole_at 2 (by decide) s (by omega)
  have HMS := HMK.out s.size (by omega)
  rw [haE] at hwh HMS
  have HMS := Lib.hid HMS
  have HIB := fun W (hb : Below w.heap.size w W) => H2.out (a ++ s) (by rw [ByteArray.size_append]; omega) W hb
  simp only [hwh] at HIB
  have HIB : Hid (∀ W, Below w.heap.size w W → Calls Tryz.prog 14 #[.string (a ++ s)] W fun x w' => Below W.heap.size W w' ∧ (∃ A n c, x = .returned (.tuple #[.agg #[.int .i64 6, .bool false, .bool false, .string ⟨#[]⟩, .int .i64 0, .int .u64 0, .int .i64 0, .string (bs s.data.toList), .slice A n c], .string ⟨#[]⟩, .int .i64 0]) ∧ LAt w' (fun q => W.heap.size ≤ q ∧ q < w'.heap.size) 16 [] (.slice A n c)) ∧ OwnOk (strT (kindM 2) s.data.toList).own ∧ ([] : List UInt8).length + 1 ≤ (a ++ s).size) := Lib.hid HIB
  rw [show bs s.data.toList = s from rfl] at HIB
  have HSAME := fun W B x x' (hl : ListAt W B 16 (strT (kindM 2) s.data.toList).kids x) (hl' : ListAt W B 16 (strT (kindM 2) s.data.toList).kids x') (hB : B ≤ W.heap.size) => ref_SameT 16 (strT (kindM 2) s.data.toList) (strT (kindM 2) s.data.toList) x x' W B 16 hl hl' hB
  rw [sameT_refl] at HSAME
  have HSAME : Hid (∀ W B x x', ListAt W B 16 [] x → ListAt W B 16 [] x' → B ≤ W.heap.size → Calls Tryz.prog 15 #[.agg #[.int .i64 6, .bool false, .bool false, .string ⟨#[]⟩, .int .i64 0, .int .u64 0, .int .i64 0, .string (bs s.data.toList), x], .agg #[.int .i64 6, .bool false, .bool false, .string ⟨#[]⟩, .int .i64 0, .int .u64 0, .int .i64 0, .string (bs s.data.toList), x']] W fun e w' => e = .returned (.bool true) ∧ Below W.heap.size W w') := Lib.hid HSAME
  rw [show bs s.data.toList = s from rfl] at HSAME
  have HL := Lib.hid hl
  have hcv := run_conv1 (P := Tryz.prog) (src := 45) (dst := 9) Tryz.underlying45 Tryz.underlying5 Tryz.underlying9
  clear h hs hks hsz hs0 haE hwh hl
  go_enter Tryz.func6, Tryz.ntmps6
  go_wp2_with fail
  refine H1.out.mono ?_
  rintro x w1 ⟨rfl, hb1⟩
  have hb2 := fun o => hb1.alloc hb1.size o
  go_wp2_with fail
  rw [HS.out]
  have HB1 := Lib.hid hb1
  clear hb1 y0 y2 H1
  go_loopw [9, 10, 11] (fun o r i wr => ∃ (k : Nat) (out rest : ByteArray), o = .string out ∧ r = .string rest ∧ i = .int .i64 k ∧ k ≤ min n 40 + 1 ∧ Hid (ChS 2 s k out rest) ∧ Below w.heap.size w wr ∧ rest.size ≤ 300 ∧ out.size + rest.size ≤ 301 + k * 9 ∧ (min n 40 < k → rest.size = 0)) (fun _ _ i _ => 50 - (intOf i).toNat)
  case atStart => exact ⟨0, _, _, rfl, rfl, rfl, by omega, Lib.hid (ChS.start 2 s), hb2 _, hs9, by have h1 : (⟨#[95]⟩ : ByteArray).size = 1 := rfl; omega, fun hh => by omega⟩
  case round =>
    obtain ⟨k, out, rest, rfl, rfl, rfl, hk, HC, hbw, hrs, hor, hlast⟩ := hrel
    have HOZ := Lib.hid (show (out ++ (⟨#[255]⟩ : ByteArray)).size ≤ 1000000000 from by rw [ByteArray.size_append, show (⟨#[255]⟩ : ByteArray).size = 1 from rfl]; omega)
    have hoz : out.size ≤ 1000 := by omega
    clear hb2 HB1 hcv
    by_cases h1 : k ≤ n
    · have y1 : (k : Int) ≤ n := by omega
      by_cases h2 : k ≤ 40
      · have y2 : (k : Int) ≤ 40 := by omega
        clear hlast
        by_cases h3 : k < n
        · have y3 : (k : Int) < n := by omega
          by_cases h4 : k < 40
          · have y4 : (k : Int) < 40 := by omega
            obtain ⟨ad, rfl, hab, hcell, hx1, hx2⟩ := (HL.out.below hbw (Nat.le_refl _)).at_ k (by have := HL.out.len; omega)
            obtain ⟨x, hx⟩ : ∃ x, l[k]'(by have := HL.out.len; omega) = x := ⟨_, rfl⟩
            rw [hx] at hcell hx1 hx2
            obtain ⟨hm1, hm2⟩ := rem_small x
            obtain ⟨xm, hxm⟩ : ∃ xm, wrap64 ((IntKind.u64.wrap x).tmod 41) = xm := ⟨_, rfl⟩
            rw [hxm] at hm1 hm2
            obtain ⟨p, hpE⟩ : ∃ p : Nat, min (rest.size : Int) xm = p := ⟨(min (rest.size : Int) xm).toNat, by omega⟩
            have hpr : p ≤ rest.size := by omega
            clear hx hab hx1 hx2 hn
            have hmk := HMK.out p (by omega)
            obtain ⟨hd, hdE⟩ : ∃ hd, bs (makeL 2 p) = hd := ⟨_, rfl⟩
            have hdz : hd.size ≤ 9 := by rw [← hdE]; exact make_small 2 p (by omega)
            have hst := HC.out.step (p := p) (by omega) (by omega)
            rw [hdE] at hst hmk
            have hxz := ext_size rest p (by omega)
            have hyz : (rest.extract p rest.size).size = rest.size - p := by rw [cut_back, bs_size, List.length_drop, data_len]
            have HMK1 := Lib.hid hmk
            have HST := Lib.hid hst
            have HXZ := Lib.hid hxz
            have HYZ := Lib.hid hyz
            have hxz' : (rest.extract 0 p).size ≤ 300 := by omega
            have hp1 : p ≤ 300 := by omega
            have hp2 : (p : Int) ≤ rest.size := by omega
            clear HIB HMS HSAME hdE hst hmk hxz hyz HMK H2
            go_wp2_with fail
            refine (HMK1.out _).mono ?_
            rintro x w4 ⟨rfl, hb4'⟩
            have hb4 := hbw.trans (hb4'.mono hbw.size)
            clear hb4' HMK1
            go_wp2_with fail
            go_roundw
            case rel => exact ⟨k + 1, _, _, rfl, rfl, by go_num, by omega, HST, hb4, by rw [HYZ.out]; omega, by rw [ByteArray.size_append, ByteArray.size_append, HXZ.out, HYZ.out]; omega, fun hh => by rw [HYZ.out]; omega⟩
            case measure => simp [intOf]; omega
          · have y4 : ¬ (k : Int) < 40 := by omega
            have hmk := HMK.out rest.size (by omega)
            obtain ⟨hd, hdE⟩ : ∃ hd, bs (makeL 2 rest.size) = hd := ⟨_, rfl⟩
            have hdz : hd.size ≤ 9 := by rw [← hdE]; exact make_small 2 rest.size (by omega)
            have hst := HC.out.last (by omega)
            rw [hdE] at hst hmk
            have HMK1 := Lib.hid hmk
            have HST := Lib.hid hst
            clear HIB HMS HSAME hdE hst hmk HMK H2
            go_wp2_with fail
            refine (HMK1.out _).mono ?_
            rintro x w4 ⟨rfl, hb4'⟩
            have hb4 := hbw.trans (hb4'.mono hbw.size)
            clear hb4' HMK1
            go_wp2_with fail
            go_roundw
            case rel => exact ⟨k + 1, _, _, rfl, rfl, by go_num, by omega, HST, hb4, by rw [empty_size]; omega, by rw [ByteArray.size_append, ByteArray.size_append, empty_size]; omega, fun _ => rfl⟩
            case measure => simp [intOf]; omega
        · have y3 : ¬ (k : Int) < n := by omega
          have hmk := HMK.out rest.size (by omega)
          obtain ⟨hd, hdE⟩ : ∃ hd, bs (makeL 2 rest.size) = hd := ⟨_, rfl⟩
          have hdz : hd.size ≤ 9 := by rw [← hdE]; exact make_small 2 rest.size (by omega)
          have hst := HC.out.last (by omega)
          rw [hdE] at hst hmk
          have HMK1 := Lib.hid hmk
          have HST := Lib.hid hst
          clear HIB HMS HSAME hdE hst hmk HMK H2
          go_wp2_with fail
          refine (HMK1.out _).mono ?_
          rintro x w4 ⟨rfl, hb4'⟩
          have hb4 := hbw.trans (hb4'.mono hbw.size)
          clear hb4' HMK1
          go_wp2_with fail
          go_roundw
          case rel => exact ⟨k + 1, _, _, rfl, rfl, by go_num, by omega, HST, hb4, by rw [empty_size]; omega, by rw [ByteArray.size_append, ByteArray.size_append, empty_size]; omega, fun _ => rfl⟩
          case measure => simp [intOf]; omega
      · have y2 : ¬ (k : Int) ≤ 40 := by omega
        have hr0 : rest.size = 0 := hlast (by omega)
        have hch := HC.out.done (by decide) hr0
        have HIA := fun W (hb : Below w.heap.size w W) => H2.out (out ++ ⟨#[255]⟩) HOZ.out W hb
        simp only [hch] at HIA
        have HIA : Hid (∀ W, Below w.heap.size w W → Calls Tryz.prog 14 #[.string (out ++ ⟨#[255]⟩)] W fun x w' => Below W.heap.size W w' ∧ (∃ A n c, x = .returned (.tuple #[.agg #[.int .i64 6, .bool false, .bool false, .string ⟨#[]⟩, .int .i64 0, .int .u64 0, .int .i64 0, .string (bs s.data.toList), .slice A n c], .string ⟨#[]⟩, .int .i64 0]) ∧ LAt w' (fun q => W.heap.size ≤ q ∧ q < w'.heap.size) 16 [] (.slice A n c)) ∧ OwnOk (strT (kindM 2) s.data.toList).own ∧ ([] : List UInt8).length + 1 ≤ (out ++ ⟨#[255]⟩).size) := Lib.hid HIA
        rw [show bs s.data.toList = s from rfl] at HIA
        clear H2 HC hch hr0 hrs
        go_wp2_with fail
        refine (HMS.out _).mono ?_
        rintro x w4 ⟨rfl, hb4'⟩
        have hb4 := hbw.trans (hb4'.mono hbw.size)
        clear hb4' hbw HMS
        go_wp2_with fail
        refine (HIA.out _ hb4).mono ?_
        rintro x w5 ⟨hb5', ⟨A5, n5, c5, rfl, hl5⟩, _, _⟩
        have hb5 := hb4.trans (hb5'.mono hb4.size)
        have hb6 := hb5.alloc hb5.size (.cells #[.int .i64 6, .bool false, .bool false, .string ⟨#[]⟩, .int .i64 0, .int .u64 0, .int .i64 0, .string s, .slice A5 n5 c5] 28)
        have hk6 := Blk.new w5 #[.int .i64 6, .bool false, .bool false, .string ⟨#[]⟩, .int .i64 0, .int .u64 0, .int .i64 0, .string s, .slice A5 n5 c5] 28
        clear HIA hb5' hb4
        go_wp2_with fail
        refine (HIB.out _ hb6).mono ?_
        rintro x w7 ⟨hb7', ⟨A7, n7, c7, rfl, hl7⟩, _, _⟩
        have hb7 := hb6.trans (hb7'.mono hb6.size)
        have hb8 := hb7.alloc hb7.size (.cells #[.int .i64 6, .bool false, .bool false, .string ⟨#[]⟩, .int .i64 0, .int .u64 0, .int .i64 0, .string s, .slice A7 n7 c7] 28)
        have hk8 := (hk6.below hb7' hk6.lt).alloc (.cells #[.int .i64 6, .bool false, .bool false, .string ⟨#[]⟩, .int .i64 0, .int .u64 0, .int .i64 0, .string s, .slice A7 n7 c7] 28)
        have hm8 := Blk.new w7 #[.int .i64 6, .bool false, .bool false, .string ⟨#[]⟩, .int .i64 0, .int .u64 0, .int .i64 0, .string s, .slice A7 n7 c7] 28
        have hz7 := hb7'.size
        rw [World.size_alloc] at hz7
        have hla : ListAt (w7.alloc (.cells #[.int .i64 6, .bool false, .bool false, .string ⟨#[]⟩, .int .i64 0, .int .u64 0, .int .i64 0, .string s, .slice A7 n7 c7] 28)) w7.heap.size 16 [] (.slice A5 n5 c5) := ((hl5.keep (fun q hq => (Below.heap_alloc w7 _ q (by omega)).trans ((hb7'.block q (by rw [World.size_alloc]; omega)).trans (Below.heap_alloc w5 _ q hq.2)))).mono (fun q hq => by omega))
        have hlb : ListAt (w7.alloc (.cells #[.int .i64 6, .bool false, .bool false, .string ⟨#[]⟩, .int .i64 0, .int .u64 0, .int .i64 0, .string s, .slice A7 n7 c7] 28)) w7.heap.size 16 [] (.slice A7 n7 c7) := ((hl7.keep (fun q hq => Below.heap_alloc w7 _ q hq.2)).mono (fun q hq => hq.2))
        have HSM := Lib.hid (HSAME.out _ w7.heap.size _ _ hla hlb (by simp))
        clear hl5 hl7 hla hlb HSAME HIB hk6 hb7' hb6 hb5 hb7
        have p0 := hk8.cell 0
        have p1 := hk8.cell 1
        have p2 := hk8.cell 2
        have p3 := hk8.cell 3
        have p4 := hk8.cell 4
        have p5 := hk8.cell 5
        have p6 := hk8.cell 6
        have p7 := hk8.cell 7
        have p8 := hk8.cell 8
        have q0 := hm8.cell 0
        have q1 := hm8.cell 1
        have q2 := hm8.cell 2
        have q3 := hm8.cell 3
        have q4 := hm8.cell 4
        have q5 := hm8.cell 5
        have q6 := hm8.cell 6
        have q7 := hm8.cell 7
        have q8 := hm8.cell 8
        go_wp2_with fail
        refine HSM.out.mono ?_
        rintro x w9 ⟨rfl, hb9'⟩
        have hb9 := hb8.trans (hb9'.mono hb8.size)
        have hk9 := hk8.below hb9' hk8.lt
        clear HSM p0 p1 p2 p3 p4 p5 p6 p7 p8 q0 q1 q2 q3 q4 q5 q6 q7 q8 hk8 hm8 hb9'
        have z0 := hk9.cell 0
        have z1 := hk9.cell 1
        have z2 := hk9.cell 2
        have z3 := hk9.cell 3
        have z4 := hk9.cell 4
        have z5 := hk9.cell 5
        have z6 := hk9.cell 6
        have z7 := hk9.cell 7
        have z8 := hk9.cell 8
        go_wp2_with fail
        go_ret
        exact ⟨by simp, hb9⟩
    · have y1 : ¬ (k : Int) ≤ n := by omega
      have hr0 : rest.size = 0 := hlast (by omega)
      have hch := HC.out.done (by decide) hr0
      have HIA := fun W (hb : Below w.heap.size w W) => H2.out (out ++ ⟨#[255]⟩) HOZ.out W hb
      simp only [hch] at HIA
      have HIA : Hid (∀ W, Below w.heap.size w W → Calls Tryz.prog 14 #[.string (out ++ ⟨#[255]⟩)] W fun x w' => Below W.heap.size W w' ∧ (∃ A n c, x = .returned (.tuple #[.agg #[.int .i64 6, .bool false, .bool false, .string ⟨#[]⟩, .int .i64 0, .int .u64 0, .int .i64 0, .string (bs s.data.toList), .slice A n c], .string ⟨#[]⟩, .int .i64 0]) ∧ LAt w' (fun q => W.heap.size ≤ q ∧ q < w'.heap.size) 16 [] (.slice A n c)) ∧ OwnOk (strT (kindM 2) s.data.toList).own ∧ ([] : List UInt8).length + 1 ≤ (out ++ ⟨#[255]⟩).size) := Lib.hid HIA
      rw [show bs s.data.toList = s from rfl] at HIA
      clear H2 HC hch hr0 hrs
      go_wp2_with fail
      refine (HMS.out _).mono ?_
      rintro x w4 ⟨rfl, hb4'⟩
      have hb4 := hbw.trans (hb4'.mono hbw.size)
      clear hb4' hbw HMS
      go_wp2_with fail
      refine (HIA.out _ hb4).mono ?_
      rintro x w5 ⟨hb5', ⟨A5, n5, c5, rfl, hl5⟩, _, _⟩
      have hb5 := hb4.trans (hb5'.mono hb4.size)
      have hb6 := hb5.alloc hb5.size (.cells #[.int .i64 6, .bool false, .bool false, .string ⟨#[]⟩, .int .i64 0, .int .u64 0, .int .i64 0, .string s, .slice A5 n5 c5] 28)
      have hk6 := Blk.new w5 #[.int .i64 6, .bool false, .bool false, .string ⟨#[]⟩, .int .i64 0, .int .u64 0, .int .i64 0, .string s, .slice A5 n5 c5] 28
      clear HIA hb5' hb4
      go_wp2_with fail
      refine (HIB.out _ hb6).mono ?_
      rintro x w7 ⟨hb7', ⟨A7, n7, c7, rfl, hl7⟩, _, _⟩
      have hb7 := hb6.trans (hb7'.mono hb6.size)
      have hb8 := hb7.alloc hb7.size (.cells #[.int .i64 6, .bool false, .bool false, .string ⟨#[]⟩, .int .i64 0, .int .u64 0, .int .i64 0, .string s, .slice A7 n7 c7] 28)
      have hk8 := (hk6.below hb7' hk6.lt).alloc (.cells #[.int .i64 6, .bool false, .bool false, .string ⟨#[]⟩, .int .i64 0, .int .u64 0, .int .i64 0, .string s, .slice A7 n7 c7] 28)
      have hm8 := Blk.new w7 #[.int .i64 6, .bool false, .bool false, .string ⟨#[]⟩, .int .i64 0, .int .u64 0, .int .i64 0, .string s, .slice A7 n7 c7] 28
      have hz7 := hb7'.size
      rw [World.size_alloc] at hz7
      have hla : ListAt (w7.alloc (.cells #[.int .i64 6, .bool false, .bool false, .string ⟨#[]⟩, .int .i64 0, .int .u64 0, .int .i64 0, .string s, .slice A7 n7 c7] 28)) w7.heap.size 16 [] (.slice A5 n5 c5) := ((hl5.keep (fun q hq => (Below.heap_alloc w7 _ q (by omega)).trans ((hb7'.block q (by rw [World.size_alloc]; omega)).trans (Below.heap_alloc w5 _ q hq.2)))).mono (fun q hq => by omega))
      have hlb : ListAt (w7.alloc (.cells #[.int .i64 6, .bool false, .bool false, .string ⟨#[]⟩, .int .i64 0, .int .u64 0, .int .i64 0, .string s, .slice A7 n7 c7] 28)) w7.heap.size 16 [] (.slice A7 n7 c7) := ((hl7.keep (fun q hq => Below.heap_alloc w7 _ q hq.2)).mono (fun q hq => hq.2))
      have HSM := Lib.hid (HSAME.out _ w7.heap.size _ _ hla hlb (by simp))
      clear hl5 hl7 hla hlb HSAME HIB hk6 hb7' hb6 hb5 hb7
      have p0 := hk8.cell 0
      have p1 := hk8.cell 1
      have p2 := hk8.cell 2
      have p3 := hk8.cell 3
      have p4 := hk8.cell 4
      have p5 := hk8.cell 5
      have p6 := hk8.cell 6
      have p7 := hk8.cell 7
      have p8 := hk8.cell 8
      have q0 := hm8.cell 0
      have q1 := hm8.cell 1
      have q2 := hm8.cell 2
      have q3 := hm8.cell 3
      have q4 := hm8.cell 4
      have q5 := hm8.cell 5
      have q6 := hm8.cell 6
      have q7 := hm8.cell 7
      have q8 := hm8.cell 8
      go_wp2_with fail
      refine HSM.out.mono ?_
      rintro x w9 ⟨rfl, hb9'⟩
      have hb9 := hb8.trans (hb9'.mono hb8.size)
      have hk9 := hk8.below hb9' hk8.lt
      clear HSM p0 p1 p2 p3 p4 p5 p6 p7 p8 q0 q1 q2 q3 q4 q5 q6 q7 q8 hk8 hm8 hb9'
      have z0 := hk9.cell 0
      have z1 := hk9.cell 1
      have z2 := hk9.cell 2
      have z3 := hk9.cell 3
      have z4 := hk9.cell 4
      have z5 := hk9.cell 5
      have z6 := hk9.cell 6
      have z7 := hk9.cell 7
      have z8 := hk9.cell 8
      go_wp2_with fail
      go_ret
      exact ⟨by simp, hb9⟩

set_option maxHeartbeats 8000000 in
set_option maxRecDepth 100000 in
theorem chunks_walk3 {aT aF : Addr} (w : World) (s0 : ByteArray) (A : Option Addr) (n c : Nat) (l : List Int) (hs0 : s0.size ≤ 9223372036854775807) (hn : n ≤ 9223372036854775807) (hl : IntsAt w w.heap.size A n l) (h : RW w aT aF) :
    Calls Tryz.prog 6 #[.string s0, .slice A n c, .bool true] w fun e w' => e = .returned (.bool true) ∧ Below w.heap.size w w' := by
  have H1 := Lib.hid (cr_shown w h)
  obtain ⟨ks, hks⟩ : ∃ k, min s0.size 300 = k := ⟨_, rfl⟩
  have y0 : min (s0.size : Int) 300 = (ks : Int) := by omega
  have y2 : ks ≤ s0.size := by omega
  have hsz := ext_size s0 ks y2
  obtain ⟨s, hs⟩ : ∃ s, s0.extract 0 ks = s := ⟨_, rfl⟩
  rw [hs] at hsz
  have hs9 : s.size ≤ 300 := by omega
  have HS := Lib.hid hs
  have H2 := Lib.hid (fun (x : ByteArray) (hx : x.size ≤ 1000000000) W (hb : Below w.heap.size w W) => cr_Item x hx W (h.below hb).tab (h.below hb).ty)
  have HMK := Lib.hid (fun (p : Nat) (hp : p ≤ 1000) W => (show Calls Tryz.prog 16 #[.int .i64 3, .int .u64 p] W fun e w' => e = .returned (.tuple #[.string (bs (makeL 3 p)), .int .i64 0]) ∧ Below W.heap.size W w' from head_Make 3 p (by omega) (by omega) W))
  obtain ⟨a, haE⟩ : ∃ a : ByteArray, bs (makeL 3 s.size) = a := ⟨_, rfl⟩
  have haz : a.size ≤ 9 := by rw [← haE]; exact make_small 3 s.size (by omega)
  have hwh := whole_at 3 (by decide) s (by omega)
  have HMS := HMK.out s.size (by omega)
  rw [haE] at hwh HMS
  have HMS := Lib.hid HMS
  have HIB := fun W (hb : Below w.heap.size w W) => H2.out (a ++ s) (by rw [ByteArray.size_append]; omega) W hb
  simp only [hwh] at HIB
  have HIB : Hid (∀ W, Below w.heap.size w W → Calls Tryz.prog 14 #[.string (a ++ s)] W fun x w' => Below W.heap.size W w' ∧ (∃ A n c, x = .returned (.tuple #[.agg #[.int .i64 5, .bool false, .bool false, .string ⟨#[]⟩, .int .i64 0, .int .u64 0, .int .i64 0, .string (bs s.data.toList), .slice A n c], .string ⟨#[]⟩, .int .i64 0]) ∧ LAt w' (fun q => W.heap.size ≤ q ∧ q < w'.heap.size) 16 [] (.slice A n c)) ∧ OwnOk (strT (kindM 3) s.data.toList).own ∧ ([] : List UInt8).length + 1 ≤ (a ++ s).size) := Lib.hid HIB
  rw [show bs s.data.toList = s from rfl] at HIB
  have HSAME := fun W B x x' (hl : ListAt W B 16 (strT (kindM 3) s.data.toList).kids x) (hl' : ListAt W B 16 (strT (kindM 3) s.data.toList).kids x') (hB : B ≤ W.heap.size) => ref_SameT 16 (strT (kindM 3) s.data.toList) (strT (kindM 3) s.data.toList) x x' W B 16 hl hl' hB
  rw [sameT_refl] at HSAME
  have HSAME : Hid (∀ W B x x', ListAt W B 16 [] x → ListAt W B 16 [] x' → B ≤ W.heap.size → Calls Tryz.prog 15 #[.agg #[.int .i64 5, .bool false, .bool false, .string ⟨#[]⟩, .int .i64 0, .int .u64 0, .int .i64 0, .string (bs s.data.toList), x], .agg #[.int .i64 5, .bool false, .bool false, .string ⟨#[]⟩, .int .i64 0, .int .u64 0, .int .i64 0, .string (bs s.data.toList), x']] W fun e w' => e = .returned (.bool true) ∧ Below W.heap.size W w') := Lib.hid HSAME
  rw [show bs s.data.toList = s from rfl] at HSAME
  have HL := Lib.hid hl
  have hcv := run_conv1 (P := Tryz.prog) (src := 45) (dst := 9) Tryz.underlying45 Tryz.underlying5 Tryz.underlying9
  clear h hs hks hsz hs0 haE hwh hl
  go_enter Tryz.func6, Tryz.ntmps6
  go_wp2_with fail
  refine H1.out.mono ?_
  rintro x w1 ⟨rfl, hb1⟩
  have hb2 := fun o => hb1.alloc hb1.size o
  go_wp2_with fail
  rw [HS.out]
  have HB1 := Lib.hid hb1
  clear hb1 y0 y2 H1
  go_loopw [9, 10, 11] (fun o r i wr => ∃ (k : Nat) (out rest : ByteArray), o = .string out ∧ r = .string rest ∧ i = .int .i64 k ∧ k ≤ min n 40 + 1 ∧ Hid (ChS 3 s k out rest) ∧ Below w.heap.size w wr ∧ rest.size ≤ 300 ∧ out.size + rest.size ≤ 301 + k * 9 ∧ (min n 40 < k → rest.size = 0)) (fun _ _ i _ => 50 - (intOf i).toNat)
  case atStart => exact ⟨0, _, _, rfl, rfl, rfl, by omega, Lib.hid (ChS.start 3 s), hb2 _, hs9, by have h1 : (⟨#[127]⟩ : ByteArray).size = 1 := rfl; omega, fun hh => by omega⟩
  case round =>
    obtain ⟨k, out, rest, rfl, rfl, rfl, hk, HC, hbw, hrs, hor, hlast⟩ := hrel
    have HOZ := Lib.hid (show (out ++ (⟨#[255]⟩ : ByteArray)).size ≤ 1000000000 from by rw [ByteArray.size_append, show (⟨#[255]⟩ : ByteArray).size = 1 from rfl]; omega)
    have hoz : out.size ≤ 1000 := by omega
    clear hb2 HB1 hcv
    by_cases h1 : k ≤ n
    · have y1 : (k : Int) ≤ n := by omega
      by_cases h2 : k ≤ 40
      · have y2 : (k : Int) ≤ 40 := by omega
        clear hlast
        by_cases h3 : k < n
        · have y3 : (k : Int) < n := by omega
          by_cases h4 : k < 40
          · have y4 : (k : Int) < 40 := by omega
            obtain ⟨ad, rfl, hab, hcell, hx1, hx2⟩ := (HL.out.below hbw (Nat.le_refl _)).at_ k (by have := HL.out.len; omega)
            obtain ⟨x, hx⟩ : ∃ x, l[k]'(by have := HL.out.len; omega) = x := ⟨_, rfl⟩
            rw [hx] at hcell hx1 hx2
            obtain ⟨hm1, hm2⟩ := rem_small x
            obtain ⟨xm, hxm⟩ : ∃ xm, wrap64 ((IntKind.u64.wrap x).tmod 41) = xm := ⟨_, rfl⟩
            rw [hxm] at hm1 hm2
            obtain ⟨p, hpE⟩ : ∃ p : Nat, min (rest.size : Int) xm = p := ⟨(min (rest.size : Int) xm).toNat, by omega⟩
            have hpr : p ≤ rest.size := by omega
            clear hx hab hx1 hx2 hn
            have hmk := HMK.out p (by omega)
            obtain ⟨hd, hdE⟩ : ∃ hd, bs (makeL 3 p) = hd := ⟨_, rfl⟩
            have hdz : hd.size ≤ 9 := by rw [← hdE]; exact make_small 3 p (by omega)
            have hst := HC.out.step (p := p) (by omega) (by omega)
            rw [hdE] at hst hmk
            have hxz := ext_size rest p (by omega)
            have hyz : (rest.extract p rest.size).size = rest.size - p := by rw [cut_back, bs_size, List.length_drop, data_len]
            have HMK1 := Lib.hid hmk
            have HST := Lib.hid hst
            have HXZ := Lib.hid hxz
            have HYZ := Lib.hid hyz
            have hxz' : (rest.extract 0 p).size ≤ 300 := by omega
            have hp1 : p ≤ 300 := by omega
            have hp2 : (p : Int) ≤ rest.size := by omega
            clear HIB HMS HSAME hdE hst hmk hxz hyz HMK H2
            go_wp2_with fail
            refine (HMK1.out _).mono ?_
            rintro x w4 ⟨rfl, hb4'⟩
            have hb4 := hbw.trans (hb4'.mono hbw.size)
            clear hb4' HMK1
            go_wp2_with fail
            go_roundw
            case rel => exact ⟨k + 1, _, _, rfl, rfl, by go_num, by omega, HST, hb4, by rw [HYZ.out]; omega, by rw [ByteArray.size_append, ByteArray.size_append, HXZ.out, HYZ.out]; omega, fun hh => by rw [HYZ.out]; omega⟩
            case measure => simp [intOf]; omega
          · have y4 : ¬ (k : Int) < 40 := by omega
            have hmk := HMK.out rest.size (by omega)
            obtain ⟨hd, hdE⟩ : ∃ hd, bs (makeL 3 rest.size) = hd := ⟨_, rfl⟩
            have hdz : hd.size ≤ 9 := by rw [← hdE]; exact make_small 3 rest.size (by omega)
            have hst := HC.out.last (by omega)
            rw [hdE] at hst hmk
            have HMK1 := Lib.hid hmk
            have HST := Lib.hid hst
            clear HIB HMS HSAME hdE hst hmk HMK H2
            go_wp2_with fail
            refine (HMK1.out _).mono ?_
            rintro x w4 ⟨rfl, hb4'⟩
            have hb4 := hbw.trans (hb4'.mono hbw.size)
            clear hb4' HMK1
            go_wp2_with fail
            go_roundw
            case rel => exact ⟨k + 1, _, _, rfl, rfl, by go_num, by omega, HST, hb4, by rw [empty_size]; omega, by rw [ByteArray.size_append, ByteArray.size_append, empty_size]; omega, fun _ => rfl⟩
            case measure => simp [intOf]; omega
        · have y3 : ¬ (k : Int) < n := by omega
          have hmk := HMK.out rest.size (by omega)
          obtain ⟨hd, hdE⟩ : ∃ hd, bs (makeL 3 rest.size) = hd := ⟨_, rfl⟩
          have hdz : hd.size ≤ 9 := by rw [← hdE]; exact make_small 3 rest.size (by omega)
          have hst := HC.out.last (by omega)
          rw [hdE] at hst hmk
          have HMK1 := Lib.hid hmk
          have HST := Lib.hid hst
          clear HIB HMS HSAME hdE hst hmk HMK H2
          go_wp2_with fail
          refine (HMK1.out _).mono ?_
          rintro x w4 ⟨rfl, hb4'⟩
          have hb4 := hbw.trans (hb4'.mono hbw.size)
          clear hb4' HMK1
          go_wp2_with fail
          go_roundw
          case rel => exact ⟨k + 1, _, _, rfl, rfl, by go_num, by omega, HST, hb4, by rw [empty_size]; omega, by rw [ByteArray.size_append, ByteArray.size_append, empty_size]; omega, fun _ => rfl⟩
          case measure => simp [intOf]; omega
      · have y2 : ¬ (k : Int) ≤ 40 := by omega
        have hr0 : rest.size = 0 := hlast (by omega)
        have hch := HC.out.done (by decide) hr0
        have HIA := fun W (hb : Below w.heap.size w W) => H2.out (out ++ ⟨#[255]⟩) HOZ.out W hb
        simp only [hch] at HIA
        have HIA : Hid (∀ W, Below w.heap.size w W → Calls Tryz.prog 14 #[.string (out ++ ⟨#[255]⟩)] W fun x w' => Below W.heap.size W w' ∧ (∃ A n c, x = .returned (.tuple #[.agg #[.int .i64 5, .bool false, .bool false, .string ⟨#[]⟩, .int .i64 0, .int .u64 0, .int .i64 0, .string (bs s.data.toList), .slice A n c], .string ⟨#[]⟩, .int .i64 0]) ∧ LAt w' (fun q => W.heap.size ≤ q ∧ q < w'.heap.size) 16 [] (.slice A n c)) ∧ OwnOk (strT (kindM 3) s.data.toList).own ∧ ([] : List UInt8).length + 1 ≤ (out ++ ⟨#[255]⟩).size) := Lib.hid HIA
        rw [show bs s.data.toList = s from rfl] at HIA
        clear H2 HC hch hr0 hrs
        go_wp2_with fail
        refine (HMS.out _).mono ?_
        rintro x w4 ⟨rfl, hb4'⟩
        have hb4 := hbw.trans (hb4'.mono hbw.size)
        clear hb4' hbw HMS
        go_wp2_with fail
        refine (HIA.out _ hb4).mono ?_
        rintro x w5 ⟨hb5', ⟨A5, n5, c5, rfl, hl5⟩, _, _⟩
        have hb5 := hb4.trans (hb5'.mono hb4.size)
        have hb6 := hb5.alloc hb5.size (.cells #[.int .i64 5, .bool false, .bool false, .string ⟨#[]⟩, .int .i64 0, .int .u64 0, .int .i64 0, .string s, .slice A5 n5 c5] 28)
        have hk6 := Blk.new w5 #[.int .i64 5, .bool false, .bool false, .string ⟨#[]⟩, .int .i64 0, .int .u64 0, .int .i64 0, .string s, .slice A5 n5 c5] 28
        clear HIA hb5' hb4
        go_wp2_with fail
        refine (HIB.out _ hb6).mono ?_
        rintro x w7 ⟨hb7', ⟨A7, n7, c7, rfl, hl7⟩, _, _⟩
        have hb7 := hb6.trans (hb7'.mono hb6.size)
        have hb8 := hb7.alloc hb7.size (.cells #[.int .i64 5, .bool false, .bool false, .string ⟨#[]⟩, .int .i64 0, .int .u64 0, .int .i64 0, .string s, .slice A7 n7 c7] 28)
        have hk8 := (hk6.below hb7' hk6.lt).alloc (.cells #[.int .i64 5, .bool false, .bool false, .string ⟨#[]⟩, .int .i64 0, .int .u64 0, .int .i64 0, .string s, .slice A7 n7 c7] 28)
        have hm8 := Blk.new w7 #[.int .i64 5, .bool false, .bool false, .string ⟨#[]⟩, .int .i64 0, .int .u64 0, .int .i64 0, .string s, .slice A7 n7 c7] 28
        have hz7 := hb7'.size
        rw [World.size_alloc] at hz7
        have hla : ListAt (w7.alloc (.cells #[.int .i64 5, .bool false, .bool false, .string ⟨#[]⟩, .int .i64 0, .int .u64 0, .int .i64 0, .string s, .slice A7 n7 c7] 28)) w7.heap.size 16 [] (.slice A5 n5 c5) := ((hl5.keep (fun q hq => (Below.heap_alloc w7 _ q (by omega)).trans ((hb7'.block q (by rw [World.size_alloc]; omega)).trans (Below.heap_alloc w5 _ q hq.2)))).mono (fun q hq => by omega))
        have hlb : ListAt (w7.alloc (.cells #[.int .i64 5, .bool false, .bool false, .string ⟨#[]⟩, .int .i64 0, .int .u64 0, .int .i64 0, .string s, .slice A7 n7 c7] 28)) w7.heap.size 16 [] (.slice A7 n7 c7) := ((hl7.keep (fun q hq => Below.heap_alloc w7 _ q hq.2)).mono (fun q hq => hq.2))
        have HSM := Lib.hid (HSAME.out _ w7.heap.size _ _ hla hlb (by simp))
        clear hl5 hl7 hla hlb HSAME HIB hk6 hb7' hb6 hb5 hb7
        have p0 := hk8.cell 0
        have p1 := hk8.cell 1
        have p2 := hk8.cell 2
        have p3 := hk8.cell 3
        have p4 := hk8.cell 4
        have p5 := hk8.cell 5
        have p6 := hk8.cell 6
        have p7 := hk8.cell 7
        have p8 := hk8.cell 8
        have q0 := hm8.cell 0
        have q1 := hm8.cell 1
        have q2 := hm8.cell 2
        have q3 := hm8.cell 3
        have q4 := hm8.cell 4
        have q5 := hm8.cell 5
        have q6 := hm8.cell 6
        have q7 := hm8.cell 7
        have q8 := hm8.cell 8
        go_wp2_with fail
        refine HSM.out.mono ?_
        rintro x w9 ⟨rfl, hb9'⟩
        have hb9 := hb8.trans (hb9'.mono hb8.size)
        have hk9 := hk8.below hb9' hk8.lt
        clear HSM p0 p1 p2 p3 p4 p5 p6 p7 p8 q0 q1 q2 q3 q4 q5 q6 q7 q8 hk8 hm8 hb9'
        have z0 := hk9.cell 0
        have z1 := hk9.cell 1
        have z2 := hk9.cell 2
        have z3 := hk9.cell 3
        have z4 := hk9.cell 4
        have z5 := hk9.cell 5
        have z6 := hk9.cell 6
        have z7 := hk9.cell 7
        have z8 := hk9.cell 8
        go_wp2_with fail
        go_ret
        exact ⟨by simp, hb9⟩
    · have y1 : ¬ (k : Int) ≤ n := by omega
      have hr0 : rest.size = 0 := hlast (by omega)
      have hch := HC.out.done (by decide) hr0
      have HIA := fun W (hb : Below w.heap.size w W) => H2.out (out ++ ⟨#[255]⟩) HOZ.out W hb
      simp only [hch] at HIA
      have HIA : Hid (∀ W, Below w.heap.size w W → Calls Tryz.prog 14 #[.string (out ++ ⟨#[255]⟩)] W fun x w' => Below W.heap.size W w' ∧ (∃ A n c, x = .returned (.tuple #[.agg #[.int .i64 5, .bool false, .bool false, .string ⟨#[]⟩, .int .i64 0, .int .u64 0, .int .i64 0, .string (bs s.data.toList), .slice A n c], .string ⟨#[]⟩, .int .i64 0]) ∧ LAt w' (fun q => W.heap.size ≤ q ∧ q < w'.heap.size) 16 [] (.slice A n c)) ∧ OwnOk (strT (kindM 3) s.data.toList).own ∧ ([] : List UInt8).length + 1 ≤ (out ++ ⟨#[255]⟩).size) := Lib.hid HIA
      rw [show bs s.data.toList = s from rfl] at HIA
      clear H2 HC hch hr0 hrs
      go_wp2_with fail
      refine (HMS.out _).mono ?_
      rintro x w4 ⟨rfl, hb4'⟩
      have hb4 := hbw.trans (hb4'.mono hbw.size)
      clear hb4' hbw HMS
      go_wp2_with fail
      refine (HIA.out _ hb4).mono ?_
      rintro x w5 ⟨hb5', ⟨A5, n5, c5, rfl, hl5⟩, _, _⟩
      have hb5 := hb4.trans (hb5'.mono hb4.size)
      have hb6 := hb5.alloc hb5.size (.cells #[.int .i64 5, .bool false, .bool false, .string ⟨#[]⟩, .int .i64 0, .int .u64 0, .int .i64 0, .string s, .slice A5 n5 c5] 28)
      have hk6 := Blk.new w5 #[.int .i64 5, .bool false, .bool false, .string ⟨#[]⟩, .int .i64 0, .int .u64 0, .int .i64 0, .string s, .slice A5 n5 c5] 28
      clear HIA hb5' hb4
      go_wp2_with fail
      refine (HIB.out _ hb6).mono ?_
      rintro x w7 ⟨hb7', ⟨A7, n7, c7, rfl, hl7⟩, _, _⟩
      have hb7 := hb6.trans (hb7'.mono hb6.size)
      have hb8 := hb7.alloc hb7.size (.cells #[.int .i64 5, .bool false, .bool false, .string ⟨#[]⟩, .int .i64 0, .int .u64 0, .int .i64 0, .string s, .slice A7 n7 c7] 28)
      have hk8 := (hk6.below hb7' hk6.lt).alloc (.cells #[.int .i64 5, .bool false, .bool false, .string ⟨#[]⟩, .int .i64 0, .int .u64 0, .int .i64 0, .string s, .slice A7 n7 c7] 28)
      have hm8 := Blk.new w7 #[.int .i64 5, .bool false, .bool false, .string ⟨#[]⟩, .int .i64 0, .int .u64 0, .int .i64 0, .string s, .slice A7 n7 c7] 28
      have hz7 := hb7'.size
      rw [World.size_alloc] at hz7
      have hla : ListAt (w7.alloc (.cells #[.int .i64 5, .bool false, .bool false, .string ⟨#[]⟩, .int .i64 0, .int .u64 0, .int .i64 0, .string s, .slice A7 n7 c7] 28)) w7.heap.size 16 [] (.slice A5 n5 c5) := ((hl5.keep (fun q hq => (Below.heap_alloc w7 _ q (by omega)).trans ((hb7'.block q (by rw [World.size_alloc]; omega)).trans (Below.heap_alloc w5 _ q hq.2)))).mono (fun q hq => by omega))
      have hlb : ListAt (w7.alloc (.cells #[.int .i64 5, .bool false, .bool false, .string ⟨#[]⟩, .int .i64 0, .int .u64 0, .int .i64 0, .string s, .slice A7 n7 c7] 28)) w7.heap.size 16 [] (.slice A7 n7 c7) := ((hl7.keep (fun q hq => Below.heap_alloc w7 _ q hq.2)).mono (fun q hq => hq.2))
      have HSM := Lib.hid (HSAME.out _ w7.heap.size _ _ hla hlb (by simp))
      clear hl5 hl7 hla hlb HSAME HIB hk6 hb7' hb6 hb5 hb7
      have p0 := hk8.cell 0
      have p1 := hk8.cell 1
      have p2 := hk8.cell 2
      have p3 := hk8.cell 3
      have p4 := hk8.cell 4
      have p5 := hk8.cell 5
      have p6 := hk8.cell 6
      have p7 := hk8.cell 7
      have p8 := hk8.cell 8
      have q0 := hm8.cell 0
      have q1 := hm8.cell 1
      have q2 := hm8.cell 2
      have q3 := hm8.cell 3
      have q4 := hm8.cell 4
      have q5 := hm8.cell 5
      have q6 := hm8.cell 6
      have q7 := hm8.cell 7
      have q8 := hm8.cell 8
      go_wp2_with fail
      refine HSM.out.mono ?_
      rintro x w9 ⟨rfl, hb9'⟩
      have hb9 := hb8.trans (hb9'.mono hb8.size)
      have hk9 := hk8.below hb9' hk8.lt
      clear HSM p0 p1 p2 p3 p4 p5 p6 p7 p8 q0 q1 q2 q3 q4 q5 q6 q7 q8 hk8 hm8 hb9'
      have z0 := hk9.cell 0
      have z1 := hk9.cell 1
      have z2 := hk9.cell 2
      have z3 := hk9.cell 3
      have z4 := hk9.cell 4
      have z5 := hk9.cell 5
      have z6 := hk9.cell 6
      have z7 := hk9.cell 7
      have z8 := hk9.cell 8
      go_wp2_with fail
      go_ret
      exact ⟨by simp, hb9⟩

theorem chunks_walk {aT aF : Addr} (w : World) (s0 : ByteArray) (A : Option Addr) (n c : Nat) (l : List Int) (tx : Bool) (hs0 : s0.size ≤ 9223372036854775807) (hn : n ≤ 9223372036854775807) (hl : IntsAt w w.heap.size A n l) (h : RW w aT aF) :
    Calls Tryz.prog 6 #[.string s0, .slice A n c, .bool tx] w fun e w' => e = .returned (.bool true) ∧ Below w.heap.size w w' := by
  cases tx
  · exact chunks_walk2 w s0 A n c l hs0 hn hl h
  · exact chunks_walk3 w s0 A n c l hs0 hn hl h
end Go.Proofs.YtflkmhgbinlfiaaGreatDoor
