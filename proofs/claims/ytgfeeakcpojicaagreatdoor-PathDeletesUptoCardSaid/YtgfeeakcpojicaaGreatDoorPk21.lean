/- The texts PathI, put together. -/
import Derived.Test.YtgfeeakcpojicaaGreatDoorPk17
import Derived.Test.YtgfeeakcpojicaaGreatDoorPk20
/- path: Find. -/
namespace Go.Proofs.YtgfeeakcpojicaaGreatDoor
open Go.RowKit Go.Shelf

theorem results_row2 {P : Program} {fn : Func} {p q : Tmp} {ty : TypeId} (h : fn.results = #[.cell p ty, .tmp q]) (tmps : Array Value) (w : World) (g : Nat) (t : TypeId) (cs : Array Value) (fr : Nat × Nat) (d : TypeDesc) (v : Value)
    (hp : tmps.getD p undef = .pointer (some ⟨g, 0, none⟩)) (hq : tmps.getD q undef = v) (hg : w.heap[g]? = some (.cells cs t fr))
    (hu : P.underlying ty = some d) (hd : (match d with | .struct _ | .array _ _ => true | _ => false) = true) (hi : (P.info? ty).map (·.size) = some cs.size) :
    (results fn tmps).run P w = .ok (.tuple #[.agg cs, v]) w := by
  have hp' : tmps[p]?.getD undef = .pointer (some ⟨g, 0, none⟩) := by simpa using hp
  have hq' : tmps[q]?.getD undef = v := by simpa using hq
  simp [results, h, hp', hq', asAddr, run_loadVar_row w g t ty cs fr d hg hu hd hi]

/-- What a path leads to. -/
def findT : Tr → List Stp → Option Tr
  | t, [] => some t
  | t, s :: p => match atO t s with
    | some i => match t.kids[i]? with
      | some u => findT u p
      | none => none
    | none => none
theorem findT_snoc : ∀ (p : List Stp) (t : Tr) (s : Stp), findT t (p ++ [s]) = match findT t p with
    | some u => findT u [s]
    | none => none
  | [], t, s => rfl
  | a :: p, t, s => by
    show findT t (a :: (p ++ [s])) = _
    unfold findT
    cases atO t a with
    | none => rfl
    | some i =>
      simp only []
      cases t.kids[i]? with
      | none => rfl
      | some u => exact findT_snoc p u s
theorem findT_none {p : List Stp} {t : Tr} (k : Nat) (h : findT t (p.take k) = none) : findT t p = none := by
  revert t k
  induction p with
  | nil => intro t k h; simpa using h
  | cons a p ih =>
    intro t k h
    cases k with
    | zero => cases h
    | succ k =>
      rw [List.take_succ_cons] at h
      unfold findT at h ⊢
      revert h
      cases atO t a with
      | none => exact fun _ => rfl
      | some i =>
        simp only []
        cases t.kids[i]? with
        | none => exact fun _ => rfl
        | some u => exact fun h => ih k h
theorem stepsTo_lt (kind : Int) (l : List Tr) : ∀ k, k ≤ l.length → ∀ x ∈ stepsTo kind l k, x.2 < l.length
  | 0, _ => fun x hx => by cases hx
  | k + 1, hk => fun x hx => by
    have ih := stepsTo_lt kind l k (by omega)
    unfold stepsTo at hx
    cases hs : stepAt kind l k with
    | none => rw [hs] at hx; exact ih x hx
    | some y =>
      rw [hs] at hx
      simp only [] at hx
      split at hx
      · exact ih x hx
      · rcases List.mem_append.1 hx with hx | hx
        · exact ih x hx
        · rw [List.mem_singleton.1 hx]
          unfold stepAt at hs
          split at hs
          · split at hs
            · cases hs
              omega
            · split at hs
              · cases hs
                omega
              · cases hs
          · cases hs
theorem atO_lt {t : Tr} {s : Stp} {i : Nat} (h : atO t s = some i) : i < t.kids.length := by
  unfold atO at h
  obtain ⟨x, hx, rfl⟩ := Option.map_eq_some_iff.1 h
  exact stepsTo_lt _ _ _ (Nat.le_refl _) x (List.mem_of_find?_eq_some hx)
theorem atI_some {t : Tr} {s : Stp} {i : Nat} (h : atO t s = some i) : atI t s = (i : Int) := by
  unfold atI
  rw [h]
theorem atI_none {t : Tr} {s : Stp} (h : atO t s = none) : atI t s = -1 := by
  unfold atI
  rw [h]
abbrev zeroO : Own := ⟨0, false, false, ⟨#[]⟩, 0, 0, 0, ⟨#[]⟩⟩
abbrev zeroN : Value := nodeV zeroO (.slice none 0 0)
/-- What Find answers. -/
def FindPost (o : Option Tr) (d : Nat) (e : Ending) (w' : World) : Prop := match o with
  | some u => ∃ y, e = .returned (.tuple #[nodeV u.own y, .bool true]) ∧ ListAt w' w'.heap.size d u.kids y
  | none => e = .returned (.tuple #[zeroN, .bool false])
/-- What Find answers, with the blocks of the lists: below B, or made by the call. -/
def FindPostS (B lo : Nat) (o : Option Tr) (d : Nat) (e : Ending) (w' : World) : Prop := match o with
  | some u => ∃ y, e = .returned (.tuple #[nodeV u.own y, .bool true]) ∧ LAt w' (fun q => (q < B ∨ lo ≤ q) ∧ q < w'.heap.size) d u.kids y
  | none => e = .returned (.tuple #[zeroN, .bool false])
theorem FindPostS.plain {B lo : Nat} {o : Option Tr} {d : Nat} {e : Ending} {w' : World} (h : FindPostS B lo o d e w') : FindPost o d e w' := by
  cases o with
  | none => exact h
  | some u =>
    obtain ⟨y, h1, h2⟩ := h
    exact ⟨y, h1, h2.mono (fun q hq => hq.2)⟩
def findR (t : Tr) (p : List Stp) : Option Tr := if rightS p = true then findT t p else none

set_option maxHeartbeats 4000000 in
set_option maxRecDepth 100000 in
theorem path_FindS {aT aQ : Addr} (t : Tr) (x : Value) (A : Option Addr) (n c : Nat) (p : List Stp) (w : World) (h : UW w aT aQ) (B d : Nat) (hl : ListAt w B d t.kids x) (ho : OwnOk t.own) (hc : t.count ≤ 1000000) (hn : n ≤ 9223372036854775807) (hp : StepsAt w B A n p) (hB : B ≤ w.heap.size) :
    Calls Tryz.prog 17 #[nodeV t.own x, .slice A n c] w fun e w' => FindPostS B w.heap.size (findR t p) d e w' ∧ Below w.heap.size w w' := by
  unfold findR
  obtain ⟨⟨kind, b, neg, dg, ex, u, wd, str⟩, ho'⟩ : ∃ o, t.own = o := ⟨_, rfl⟩
  have hbx := box2 w #[.int .i64 kind, .bool b, .bool neg, .string dg, .int .i64 ex, .int .u64 u, .int .i64 wd, .string str, x] #[.int .i64 0, .bool false, .bool false, .string ⟨#[]⟩, .int .i64 0, .int .u64 0, .int .i64 0, .string ⟨#[]⟩, .slice none 0 0] 38 38
  rw [ho']
  unfold nodeV
  simp only []
  have HR := Lib.hid (path_Right A n c p B _ (h.below hbx.1) hn (hp.below hbx.1 hB) (Nat.le_trans hB hbx.1.size))
  obtain ⟨hb2, hk1, hk2⟩ := hbx
  have hlen := hp.len
  have HP := Lib.hid hp
  have HL := Lib.hid hl
  have HO := Lib.hid ho
  cases hr : rightS p with
  | false =>
    rw [hr] at HR
    rw [if_neg (by decide)]
    clear h hp hl ho hr hlen
    go_enter Tryz.func17, Tryz.ntmps17
    go_wp2_with fail
    refine HR.out.mono ?_
    rintro e w1 ⟨rfl, hb⟩
    have hb3 := hb2.trans (hb.mono hb2.size)
    have hk3 := hk2.below hb hk2.lt
    have hb4 : Below w.heap.size w (w1.setRow (w.heap.size + 1) #[.int .i64 0, .bool false, .bool false, .string ⟨#[]⟩, .int .i64 0, .int .u64 0, .int .i64 0, .string ⟨#[]⟩, .slice none 0 0]) := hb3.grown (grown_row _ (w.heap.size + 1) _) hb3.size (fun q e => by cases e; omega)
    have hk4 := blk_row hk3 #[.int .i64 0, .bool false, .bool false, .string ⟨#[]⟩, .int .i64 0, .int .u64 0, .int .i64 0, .string ⟨#[]⟩, .slice none 0 0]
    have HK3 := Lib.hid hk3
    have HK4 := Lib.hid hk4
    clear hb hk1 hk2 hk3 hk4 HR hb3
    go_wp2_with (refine wpList_store_row rfl 38 (.tmp 4) (.tmp 12) rfl (w.heap.size + 1) #[.int .i64 0, .bool false, .bool false, .string ⟨#[]⟩, .int .i64 0, .int .u64 0, .int .i64 0, .string ⟨#[]⟩, .slice none 0 0] rfl rfl 38 _ HK3.out (by kernel_rfl) rfl (by simp [Value.oneCell']) ?_)
    refine bodyPost_ret (v := .tuple #[zeroN, .bool false]) (results_row2 rfl _ _ (w.heap.size + 1) 38 _ (0, 0) _ _ rfl rfl HK4.out Tryz.underlying38 rfl (by kernel_rfl)) rfl ?_
    exact ⟨rfl, hb4⟩
  | true =>
    rw [hr] at HR
    rw [if_pos rfl]
    clear h hp hl ho hlen
    go_enter Tryz.func17, Tryz.ntmps17
    go_wp2_with fail
    refine HR.out.mono ?_
    rintro e w1 ⟨rfl, hb⟩
    have hb3 := hb2.trans (hb.mono hb2.size)
    have hk3 := hk1.below hb hk1.lt
    have hk4 := hk2.below hb hk2.lt
    have HL1 := Lib.hid (HL.out.below hb3 hB)
    have HK3 := Lib.hid (show Blk w1 w.heap.size (cellsV t.own x) 38 by rw [ho']; exact hk3)
    have HK4 := Lib.hid hk4
    clear hb hk1 hk2 hk3 hk4 HR hb2
    have HLEN := Lib.hid (HP.out.len)
    go_wp2_with fail
    go_loopw [15] (fun i wr => ∃ (k : Nat) (u : Tr) (x' : Value), k ≤ n ∧ i = .int .i64 k ∧ findT t (p.take k) = some u ∧ Blk wr w.heap.size (cellsV u.own x') 38 ∧ Blk wr (w.heap.size + 1) #[.int .i64 0, .bool false, .bool false, .string ⟨#[]⟩, .int .i64 0, .int .u64 0, .int .i64 0, .string ⟨#[]⟩, .slice none 0 0] 38 ∧ ListAt wr B d u.kids x' ∧ OwnOk u.own ∧ u.count ≤ 1000000 ∧ Below w.heap.size w wr) (fun i _ => n - (intOf i).toNat)
    case atStart => exact ⟨0, t, x, by omega, rfl, rfl, HK3.out, HK4.out, HL1.out, HO.out, hc, hb3⟩
    case round =>
      obtain ⟨k, u, xu, hk, rfl, hf, hk1, hk2, hlu, hou, hcu, hbw⟩ := hrel
      clear HK3 HK4 HL1
      have hzw := hbw.size
      have hwlt := hk2.lt
      obtain ⟨⟨kindu, bu, negu, dgu, exu, uu, wdu, stru⟩, hou'⟩ : ∃ o, u.own = o := ⟨_, rfl⟩
      by_cases hlt : k < n
      · have hkp : k < p.length := by rw [HLEN.out]; exact hlt
        obtain ⟨ad, rfl, hab, hc0, hc1, hks⟩ := (HP.out.below hbw hB).at_ hkp
        obtain ⟨⟨si, sk⟩, hs⟩ : ∃ s, p[k] = s := ⟨_, rfl⟩
        have htk : p.take (k + 1) = p.take k ++ [(si, sk)] := by rw [List.take_succ_eq_append_getElem hkp, hs]
        have hfk : findT t (p.take (k + 1)) = findT u [(si, sk)] := by rw [htk, findT_snoc, hf]
        rw [hs] at hc0 hc1
        have z1 : (k : Int) < n := by omega
        simp only [] at hc0 hc1
        have HAT := Lib.hid (fun (w' : World) (hw : Below wr.heap.size wr w') => path_at u xu (si, sk) w' B d (hlu.below hw (Nat.le_trans hB hzw)) (Nat.le_trans (Nat.le_trans hB hzw) hw.size))
        unfold nodeV at HAT
        rw [hou'] at HAT hk1
        unfold cellsV at hk1
        simp only [] at HAT hk1
        have HK1 := Lib.hid hk1
        have hbs : ∀ o, Below wr.heap.size wr (wr.alloc o) := fun o => (Below.refl _ _).alloc (Nat.le_refl _) o
        have HK1a := Lib.hid (fun o => hk1.alloc o)
        have HK2 := Lib.hid hk2
        have HFK := Lib.hid hfk
        have HLU := Lib.hid hlu
        clear hs htk hfk hks hlu hk2 hf
        go_wp2_with (refine wpList_load_row rfl 38 (.tmp 2) rfl w.heap.size rfl 38 _ (0, 0) _ (HK1a.out _) Tryz.underlying38 rfl (by kernel_rfl) ?_)
        refine (HAT.out _ (hbs _)).mono ?_
        rintro e w2 ⟨rfl, hb⟩
        have hbr := (hbs (.cells #[.int .i64 si, .string sk] 53)).trans (hb.mono (hbs _).size)
        have hb4 := hbw.trans (hbr.mono hzw)
        have hk1' := HK1.out.below hbr HK1.out.lt
        have hk2' := HK2.out.below hbr HK2.out.lt
        have hlu' := HLU.out.below hbr (Nat.le_trans hB hzw)
        have hz2 := hb4.size
        clear hb HK1a HK1 HK2 hk1 HLU hbs HAT hc0 hc1
        cases hat : atO u (si, sk) with
        | none =>
          have hfn : findT t p = none := findT_none (k + 1) (by rw [HFK.out]; unfold findT; rw [hat])
          have HFN := Lib.hid hfn
          rw [atI_none hat]
          have hb5 : Below w.heap.size w (w2.setRow (w.heap.size + 1) #[.int .i64 0, .bool false, .bool false, .string ⟨#[]⟩, .int .i64 0, .int .u64 0, .int .i64 0, .string ⟨#[]⟩, .slice none 0 0]) := hb4.grown (grown_row _ (w.heap.size + 1) _) hb4.size (fun q e => by cases e; omega)
          have hk4 := blk_row hk2' #[.int .i64 0, .bool false, .bool false, .string ⟨#[]⟩, .int .i64 0, .int .u64 0, .int .i64 0, .string ⟨#[]⟩, .slice none 0 0]
          have HK3 := Lib.hid hk2'
          have HK4 := Lib.hid hk4
          clear hat hfn hk2' hk4 hk1' hbr hb4
          go_wp2_with (refine wpList_store_row rfl 38 (.tmp 4) (.tmp 24) rfl (w.heap.size + 1) #[.int .i64 0, .bool false, .bool false, .string ⟨#[]⟩, .int .i64 0, .int .u64 0, .int .i64 0, .string ⟨#[]⟩, .slice none 0 0] rfl rfl 38 _ HK3.out (by kernel_rfl) rfl (by simp [Value.oneCell']) ?_)
          refine bodyPost_ret (v := .tuple #[zeroN, .bool false]) (results_row2 rfl _ _ (w.heap.size + 1) 38 _ (0, 0) _ _ rfl rfl HK4.out Tryz.underlying38 rfl (by kernel_rfl)) rfl ?_
          exact ⟨by rw [HFN.out]; rfl, hb5⟩
        | some i =>
          have hil := atO_lt hat
          have hfs : findT t (p.take (k + 1)) = some u.kids[i] := by
            rw [HFK.out]
            unfold findT
            rw [hat]
            simp only [List.getElem?_eq_getElem hil]
            rfl
          have HFS := Lib.hid hfs
          rw [atI_some hat]
          have hcnt := kid_count hil
          have hkl := kids_count (t := u)
          obtain ⟨_, A2, c2, rfl⟩ := hlu'.slice
          obtain ⟨d', ad2, x2, hdd, rfl, hab2, hok2, hna, hkk⟩ := hlu'.at_ hil
          obtain ⟨n2, hn2⟩ : ∃ n2, u.kids.length = n2 := ⟨_, rfl⟩
          have hlk2 : ListAt w2 B d u.kids[i].kids x2 := hkk.deeper (by omega)
          have h1c : x2.oneCell' = true := by
            obtain ⟨_, A3, c3, h3⟩ := hkk.slice
            rw [h3]
            rfl
          unfold Value.oneCell' at h1c
          obtain ⟨⟨kind2, b2, neg2, dg2, ex2, u2, wd2, s2⟩, ho2⟩ : ∃ o, u.kids[i].own = o := ⟨_, rfl⟩
          rw [ho2] at hna
          rw [hn2] at hk1' hil
          have hk8 := hk1'.cell 8
          obtain ⟨q0, q1, q2, q3, q4, q5, q6, q7, q8⟩ := hna
          simp only [] at q0 q1 q2 q3 q4 q5 q6 q7 q8
          have y1 : (i : Int) < n2 := by omega
          have y0 : ¬ (i : Int) < 0 := by omega
          have hb5 : Below w.heap.size w (w2.setRow w.heap.size #[.int .i64 kind2, .bool b2, .bool neg2, .string dg2, .int .i64 ex2, .int .u64 u2, .int .i64 wd2, .string s2, x2]) := hb4.grown (grown_row _ w.heap.size _) hb4.size (fun q e => by cases e; exact Nat.le_refl _)
          have hk4 := blk_row hk1' #[.int .i64 kind2, .bool b2, .bool neg2, .string dg2, .int .i64 ex2, .int .u64 u2, .int .i64 wd2, .string s2, x2]
          have hk5 := blk_row_other hk2' (by omega : w.heap.size + 1 ≠ w.heap.size) #[.int .i64 kind2, .bool b2, .bool neg2, .string dg2, .int .i64 ex2, .int .u64 u2, .int .i64 wd2, .string s2, x2]
          have hlk3 := hlk2.keep (W' := w2.setRow w.heap.size #[.int .i64 kind2, .bool b2, .bool neg2, .string dg2, .int .i64 ex2, .int .u64 u2, .int .i64 wd2, .string s2, x2]) (fun q hq => setRow_other _ _ _ _ (by omega))
          have hok3 := hok2
          rw [ho2] at hok3
          have HK3 := Lib.hid hk1'
          have HK4 := Lib.hid (show Blk (w2.setRow w.heap.size #[.int .i64 kind2, .bool b2, .bool neg2, .string dg2, .int .i64 ex2, .int .u64 u2, .int .i64 wd2, .string s2, x2]) w.heap.size (cellsV u.kids[i].own x2) 38 by rw [ho2]; exact hk4)
          have HK5 := Lib.hid hk5
          have HOK2 := Lib.hid hok2
          have HLK := Lib.hid hlk3
          clear hat hk2' hk1' hbr hb4 hkk hdd hlu' hk4 hk5 hok2 hok3 hlk2 hlk3 ho2 HFK hfs
          go_wp2_with (refine wpList_store_row rfl 38 (.tmp 2) (.tmp 29) rfl w.heap.size #[.int .i64 kind2, .bool b2, .bool neg2, .string dg2, .int .i64 ex2, .int .u64 u2, .int .i64 wd2, .string s2, x2] rfl rfl 38 _ HK3.out (by kernel_rfl) rfl (by simp [Value.oneCell', h1c]) ?_)
          go_roundw
          case rel => exact ⟨k + 1, _, _, by omega, by go_num, HFS.out, HK4.out, HK5.out, HLK.out, HOK2.out, by omega, hb5⟩
          case measure => simp [intOf]; omega
      · obtain rfl : k = n := by omega
        have hfp : findT t p = some u := by
          rw [← HLEN.out, List.take_length] at hf
          exact hf
        have HFP := Lib.hid hfp
        have z1 : ¬ (k : Int) < k := by omega
        have HCL := Lib.hid (tree_Clone d u xu wr (fun q => q < B) hlu hou (fun q hq => by omega) hcu)
        unfold nodeV at HCL
        rw [hou'] at HCL hk1
        unfold cellsV at hk1
        simp only [] at HCL hk1
        have HK1 := Lib.hid hk1
        have HK2 := Lib.hid hk2
        clear hfp hf hk1 hk2 hlu hou
        go_wp2_with (refine wpList_load_row rfl 38 (.tmp 2) rfl w.heap.size rfl 38 _ (0, 0) _ HK1.out Tryz.underlying38 rfl (by kernel_rfl) ?_)
        refine HCL.out.mono ?_
        rintro e w2 ⟨⟨y, rfl, hly⟩, hb⟩
        have hb4 := hbw.trans (hb.mono hzw)
        have hk2' := HK2.out.below hb HK2.out.lt
        have hz2 := hb4.size
        have hb5 : Below w.heap.size w (w2.setRow (w.heap.size + 1) #[.int .i64 kindu, .bool bu, .bool negu, .string dgu, .int .i64 exu, .int .u64 uu, .int .i64 wdu, .string stru, y]) := hb4.grown (grown_row _ (w.heap.size + 1) _) hb4.size (fun q e => by cases e; omega)
        have hk4 := blk_row hk2' #[.int .i64 kindu, .bool bu, .bool negu, .string dgu, .int .i64 exu, .int .u64 uu, .int .i64 wdu, .string stru, y]
        have hly2 : LAt (w2.setRow (w.heap.size + 1) #[.int .i64 kindu, .bool bu, .bool negu, .string dgu, .int .i64 exu, .int .u64 uu, .int .i64 wdu, .string stru, y]) (fun q => (q < B ∨ w.heap.size ≤ q) ∧ q < (w2.setRow (w.heap.size + 1) #[.int .i64 kindu, .bool bu, .bool negu, .string dgu, .int .i64 exu, .int .u64 uu, .int .i64 wdu, .string stru, y]).heap.size) d u.kids y := (hly.keep (fun q hq => setRow_other _ _ _ _ (by omega))).mono (fun q hq => by rw [setRow_size]; omega)
        have HLY := Lib.hid hly2
        have HK3 := Lib.hid hk2'
        have HK4 := Lib.hid hk4
        obtain ⟨_, A2, c2, rfl⟩ := hly.slice
        clear hb hk2' hk4 HK1 HK2 hly hly2 hb4
        go_wp2_with (refine wpList_store_row rfl 38 (.tmp 4) (.tmp 32) rfl (w.heap.size + 1) #[.int .i64 kindu, .bool bu, .bool negu, .string dgu, .int .i64 exu, .int .u64 uu, .int .i64 wdu, .string stru, .slice A2 u.kids.length c2] rfl rfl 38 _ HK3.out (by kernel_rfl) rfl (by simp [Value.oneCell']) ?_)
        refine bodyPost_ret (v := .tuple #[nodeV ⟨kindu, bu, negu, dgu, exu, uu, wdu, stru⟩ (.slice A2 u.kids.length c2), .bool true]) (results_row2 rfl _ _ (w.heap.size + 1) 38 _ (0, 0) _ _ rfl rfl HK4.out Tryz.underlying38 rfl (by kernel_rfl)) rfl ?_
        refine ⟨?_, hb5⟩
        rw [HFP.out]
        exact ⟨_, by rw [hou'], HLY.out⟩
theorem path_Find {aT aQ : Addr} (t : Tr) (x : Value) (A : Option Addr) (n c : Nat) (p : List Stp) (w : World) (h : UW w aT aQ) (B d : Nat) (hl : ListAt w B d t.kids x) (ho : OwnOk t.own) (hc : t.count ≤ 1000000) (hn : n ≤ 9223372036854775807) (hp : StepsAt w B A n p) (hB : B ≤ w.heap.size) :
    Calls Tryz.prog 17 #[nodeV t.own x, .slice A n c] w fun e w' => FindPost (findR t p) d e w' ∧ Below w.heap.size w w' :=
  (path_FindS t x A n c p w h B d hl ho hc hn hp hB).mono (fun _ _ h => ⟨h.1.plain, h.2⟩)
end Go.Proofs.YtgfeeakcpojicaaGreatDoor
