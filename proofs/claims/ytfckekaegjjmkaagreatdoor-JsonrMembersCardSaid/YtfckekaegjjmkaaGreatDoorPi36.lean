/- The texts GateI, put together. -/
import Derived.Test.YtfckekaegjjmkaaGreatDoorPi32
import Derived.Test.YtfckekaegjjmkaaGreatDoorPi33
import Derived.Test.YtfckekaegjjmkaaGreatDoorPi35
import Derived.Test.YtfckekaegjjmkaaGreatDoorPi21
namespace Go.Proofs.YtfckekaegjjmkaaGreatDoor
open Go.RowKit Go.Shelf

theorem ret_bool {a b : Bool} (h : a = b) : Ending.returned (.bool a) = Ending.returned (.bool b) := by rw [h]

set_option maxHeartbeats 4000000 in
set_option maxRecDepth 100000 in
theorem is_Null (id : Int) (kind : Int) (b neg : Bool) (dg : ByteArray) (ex u wd : Int) (s : ByteArray) (A : Option Addr) (n c : Nat) (w : World) :
    Calls Tryz.prog 81 #[.agg #[.int .i64 id], .agg #[.int .i64 kind, .bool b, .bool neg, .string dg, .int .i64 ex, .int .u64 u, .int .i64 wd, .string s, .slice A n c]] w fun e w' => e = .returned (.bool (decide (n = 0) && onlyB ⟨kind, b, neg, dg, ex, u, wd, s⟩ ⟨0, false, false, ⟨#[]⟩, 0, 0, 0, ⟨#[]⟩⟩)) ∧ Below w.heap.size w w' := by
  have HB : Hid (∀ w, Calls Tryz.prog 126 #[.agg #[.int .i64 kind, .bool b, .bool neg, .string dg, .int .i64 ex, .int .u64 u, .int .i64 wd, .string s, .slice A n c], .agg #[.int .i64 0, .bool false, .bool false, .string ⟨#[]⟩, .int .i64 0, .int .u64 0, .int .i64 0, .string ⟨#[]⟩, .slice none 0 0]] w fun e w' => e = .returned (.bool (decide (n = 0) && onlyB ⟨kind, b, neg, dg, ex, u, wd, s⟩ ⟨0, false, false, ⟨#[]⟩, 0, 0, 0, ⟨#[]⟩⟩)) ∧ Below w.heap.size w w') := Lib.hid (fun w => tree_bare ⟨kind, b, neg, dg, ex, u, wd, s⟩ ⟨0, false, false, ⟨#[]⟩, 0, 0, 0, ⟨#[]⟩⟩ A none n 0 c 0 w)
  obtain ⟨hb2, hk1, hk2⟩ := box2 w #[.int .i64 id] #[.int .i64 kind, .bool b, .bool neg, .string dg, .int .i64 ex, .int .u64 u, .int .i64 wd, .string s, .slice A n c] 69 27
  obtain ⟨bb, hbb⟩ : ∃ bb, (decide (n = 0) && onlyB ⟨kind, b, neg, dg, ex, u, wd, s⟩ ⟨0, false, false, ⟨#[]⟩, 0, 0, 0, ⟨#[]⟩⟩) = bb := ⟨_, rfl⟩
  rw [hbb] at HB ⊢
  clear hbb
  have z0 := hk2.cell 0
  have z1 := hk2.cell 1
  have z2 := hk2.cell 2
  have z3 := hk2.cell 3
  have z4 := hk2.cell 4
  have z5 := hk2.cell 5
  have z6 := hk2.cell 6
  have z7 := hk2.cell 7
  have z8 := hk2.cell 8
  go_enter Tryz.func81, Tryz.ntmps81
  go_wp2_with fail
  refine (HB.out _).mono ?_
  rintro e w2 ⟨rfl, hb⟩
  have hb3 := hb2.trans (hb.mono hb2.size)
  have hk3 := hk2.below hb hk2.lt
  clear z0 z1 z2 z3 z4 z5 z6 z7 z8 hb hb2 hk1 hk2 HB
  go_wp2_with fail
  all_goals go_ret
  all_goals exact ⟨rfl, hb3⟩

set_option maxHeartbeats 4000000 in
set_option maxRecDepth 100000 in
theorem is_Bool (id : Int) (kind : Int) (b neg : Bool) (dg : ByteArray) (ex u wd : Int) (s : ByteArray) (A : Option Addr) (n c : Nat) (w : World) :
    Calls Tryz.prog 82 #[.agg #[.int .i64 id], .agg #[.int .i64 kind, .bool b, .bool neg, .string dg, .int .i64 ex, .int .u64 u, .int .i64 wd, .string s, .slice A n c]] w fun e w' => e = .returned (.bool (decide (n = 0) && onlyB ⟨kind, b, neg, dg, ex, u, wd, s⟩ ⟨0, b, false, ⟨#[]⟩, 0, 0, 0, ⟨#[]⟩⟩)) ∧ Below w.heap.size w w' := by
  have HB : Hid (∀ w, Calls Tryz.prog 126 #[.agg #[.int .i64 kind, .bool b, .bool neg, .string dg, .int .i64 ex, .int .u64 u, .int .i64 wd, .string s, .slice A n c], .agg #[.int .i64 0, .bool b, .bool false, .string ⟨#[]⟩, .int .i64 0, .int .u64 0, .int .i64 0, .string ⟨#[]⟩, .slice none 0 0]] w fun e w' => e = .returned (.bool (decide (n = 0) && onlyB ⟨kind, b, neg, dg, ex, u, wd, s⟩ ⟨0, b, false, ⟨#[]⟩, 0, 0, 0, ⟨#[]⟩⟩)) ∧ Below w.heap.size w w') := Lib.hid (fun w => tree_bare ⟨kind, b, neg, dg, ex, u, wd, s⟩ ⟨0, b, false, ⟨#[]⟩, 0, 0, 0, ⟨#[]⟩⟩ A none n 0 c 0 w)
  obtain ⟨hb2, hk1, hk2⟩ := box2 w #[.int .i64 id] #[.int .i64 kind, .bool b, .bool neg, .string dg, .int .i64 ex, .int .u64 u, .int .i64 wd, .string s, .slice A n c] 69 27
  obtain ⟨bb, hbb⟩ : ∃ bb, (decide (n = 0) && onlyB ⟨kind, b, neg, dg, ex, u, wd, s⟩ ⟨0, b, false, ⟨#[]⟩, 0, 0, 0, ⟨#[]⟩⟩) = bb := ⟨_, rfl⟩
  rw [hbb] at HB ⊢
  clear hbb
  have z0 := hk2.cell 0
  have z1 := hk2.cell 1
  have z2 := hk2.cell 2
  have z3 := hk2.cell 3
  have z4 := hk2.cell 4
  have z5 := hk2.cell 5
  have z6 := hk2.cell 6
  have z7 := hk2.cell 7
  have z8 := hk2.cell 8
  go_enter Tryz.func82, Tryz.ntmps82
  go_wp2_with fail
  refine (HB.out _).mono ?_
  rintro e w2 ⟨rfl, hb⟩
  have hb3 := hb2.trans (hb.mono hb2.size)
  have hk3 := hk2.below hb hk2.lt
  clear z0 z1 z2 z3 z4 z5 z6 z7 z8 hb hb2 hk1 hk2 HB
  go_wp2_with fail
  all_goals go_ret
  all_goals exact ⟨rfl, hb3⟩

set_option maxHeartbeats 4000000 in
set_option maxRecDepth 100000 in
theorem is_Array (id : Int) (kind : Int) (b neg : Bool) (dg : ByteArray) (ex u wd : Int) (s : ByteArray) (A : Option Addr) (n c : Nat) (w : World) :
    Calls Tryz.prog 87 #[.agg #[.int .i64 id], .agg #[.int .i64 kind, .bool b, .bool neg, .string dg, .int .i64 ex, .int .u64 u, .int .i64 wd, .string s, .slice A n c]] w fun e w' => e = .returned (.bool (onlyB ⟨kind, b, neg, dg, ex, u, wd, s⟩ ⟨0, false, false, ⟨#[]⟩, 0, 0, 0, ⟨#[]⟩⟩)) ∧ Below w.heap.size w w' := by
  have HB : Hid (∀ w, Calls Tryz.prog 126 #[.agg #[.int .i64 kind, .bool b, .bool neg, .string dg, .int .i64 ex, .int .u64 u, .int .i64 wd, .string s, .slice none 0 0], .agg #[.int .i64 0, .bool false, .bool false, .string ⟨#[]⟩, .int .i64 0, .int .u64 0, .int .i64 0, .string ⟨#[]⟩, .slice none 0 0]] w fun e w' => e = .returned (.bool (decide ((0 : Nat) = 0) && onlyB ⟨kind, b, neg, dg, ex, u, wd, s⟩ ⟨0, false, false, ⟨#[]⟩, 0, 0, 0, ⟨#[]⟩⟩)) ∧ Below w.heap.size w w') := Lib.hid (fun w => tree_bare ⟨kind, b, neg, dg, ex, u, wd, s⟩ ⟨0, false, false, ⟨#[]⟩, 0, 0, 0, ⟨#[]⟩⟩ none none 0 0 0 0 w)
  obtain ⟨hb2, hk1, hk2⟩ := box2 w #[.int .i64 id] #[.int .i64 kind, .bool b, .bool neg, .string dg, .int .i64 ex, .int .u64 u, .int .i64 wd, .string s, .slice A n c] 69 27
  rw [decide_eq_true (rfl : (0 : Nat) = 0), Bool.true_and] at HB
  obtain ⟨bb, hbb⟩ : ∃ bb, onlyB ⟨kind, b, neg, dg, ex, u, wd, s⟩ ⟨0, false, false, ⟨#[]⟩, 0, 0, 0, ⟨#[]⟩⟩ = bb := ⟨_, rfl⟩
  rw [hbb] at HB ⊢
  clear hbb
  clear hb2 hk1 hk2
  obtain ⟨hb2, hk1, hk2⟩ := box2 w #[.int .i64 id] #[.int .i64 kind, .bool b, .bool neg, .string dg, .int .i64 ex, .int .u64 u, .int .i64 wd, .string s, .slice none 0 0] 69 27
  have z0 := hk2.cell 0
  have z1 := hk2.cell 1
  have z2 := hk2.cell 2
  have z3 := hk2.cell 3
  have z4 := hk2.cell 4
  have z5 := hk2.cell 5
  have z6 := hk2.cell 6
  have z7 := hk2.cell 7
  have z8 := hk2.cell 8
  go_enter Tryz.func87, Tryz.ntmps87
  go_wp2_with fail
  refine (HB.out _).mono ?_
  rintro e w2 ⟨rfl, hb⟩
  have hb3 := hb2.trans (hb.mono hb2.size)
  have hk3 := hk2.below hb hk2.lt
  clear z0 z1 z2 z3 z4 z5 z6 z7 z8 hb hb2 hk1 hk2 HB
  go_wp2_with fail
  all_goals go_ret
  all_goals exact ⟨rfl, hb3⟩

set_option maxHeartbeats 4000000 in
set_option maxRecDepth 100000 in
theorem is_Num (id : Int) (kind : Int) (b neg : Bool) (dg : ByteArray) (ex u wd : Int) (s : ByteArray) (A : Option Addr) (n c : Nat) (w : World) (hdg : dg.size ≤ 9223372036854775807) :
    Calls Tryz.prog 83 #[.agg #[.int .i64 id], .agg #[.int .i64 kind, .bool b, .bool neg, .string dg, .int .i64 ex, .int .u64 u, .int .i64 wd, .string s, .slice A n c]] w fun e w' => e = .returned (.bool ((decide (n = 0) && onlyB ⟨kind, b, neg, dg, ex, u, wd, s⟩ ⟨0, false, neg, dg, ex, 0, 0, ⟨#[]⟩⟩) && decOk neg dg ex)) ∧ Below w.heap.size w w' := by
  have HB : Hid (∀ w, Calls Tryz.prog 126 #[.agg #[.int .i64 kind, .bool b, .bool neg, .string dg, .int .i64 ex, .int .u64 u, .int .i64 wd, .string s, .slice A n c], .agg #[.int .i64 0, .bool false, .bool neg, .string dg, .int .i64 ex, .int .u64 0, .int .i64 0, .string ⟨#[]⟩, .slice none 0 0]] w fun e w' => e = .returned (.bool (decide (n = 0) && onlyB ⟨kind, b, neg, dg, ex, u, wd, s⟩ ⟨0, false, neg, dg, ex, 0, 0, ⟨#[]⟩⟩)) ∧ Below w.heap.size w w') := Lib.hid (fun w => tree_bare ⟨kind, b, neg, dg, ex, u, wd, s⟩ ⟨0, false, neg, dg, ex, 0, 0, ⟨#[]⟩⟩ A none n 0 c 0 w)
  obtain ⟨hb2, hk1, hk2⟩ := box2 w #[.int .i64 id] #[.int .i64 kind, .bool b, .bool neg, .string dg, .int .i64 ex, .int .u64 u, .int .i64 wd, .string s, .slice A n c] 69 27
  obtain ⟨bb, hbb⟩ : ∃ bb, (decide (n = 0) && onlyB ⟨kind, b, neg, dg, ex, u, wd, s⟩ ⟨0, false, neg, dg, ex, 0, 0, ⟨#[]⟩⟩) = bb := ⟨_, rfl⟩
  rw [hbb] at HB ⊢
  clear hbb
  have HD := Lib.hid (dec_Right neg dg ex hdg)
  obtain ⟨dd, hdd⟩ : ∃ dd, decOk neg dg ex = dd := ⟨_, rfl⟩
  rw [hdd] at HD ⊢
  clear hdd
  have z0 := hk2.cell 0
  have z1 := hk2.cell 1
  have z2 := hk2.cell 2
  have z3 := hk2.cell 3
  have z4 := hk2.cell 4
  have z5 := hk2.cell 5
  have z6 := hk2.cell 6
  have z7 := hk2.cell 7
  have z8 := hk2.cell 8
  go_enter Tryz.func83, Tryz.ntmps83
  go_wp2_with fail
  refine (HB.out _).mono ?_
  rintro e w2 ⟨rfl, hb⟩
  have hb3 := hb2.trans (hb.mono hb2.size)
  have hk3 := hk2.below hb hk2.lt
  clear z0 z1 z2 z3 z4 z5 z6 z7 z8 hb hb2 hk1 hk2 HB
  have z0 := hk3.cell 0
  have z1 := hk3.cell 1
  have z2 := hk3.cell 2
  have z3 := hk3.cell 3
  have z4 := hk3.cell 4
  have z5 := hk3.cell 5
  have z6 := hk3.cell 6
  have z7 := hk3.cell 7
  have z8 := hk3.cell 8
  cases bb with
  | false =>
    go_wp2_with fail
    all_goals go_ret
    all_goals exact ⟨rfl, hb3⟩
  | true =>
    go_wp2_with fail
    refine (HD.out _).mono ?_
    rintro e w3 ⟨rfl, hb4⟩
    have hb5 := hb3.trans (hb4.mono hb3.size)
    clear z0 z1 z2 z3 z4 z5 z6 z7 z8 hk3 hb3 hb4
    cases dd with
    | false =>
      go_wp2_with fail
      all_goals go_ret
      all_goals exact ⟨rfl, hb5⟩
    | true =>
      go_wp2_with fail
      all_goals go_ret
      all_goals exact ⟨rfl, hb5⟩

set_option maxHeartbeats 4000000 in
set_option maxRecDepth 100000 in
theorem is_Float (id : Int) (kind : Int) (b neg : Bool) (dg : ByteArray) (ex u wd : Int) (s : ByteArray) (A : Option Addr) (n c : Nat) (w : World) (hu : 0 ≤ u ∧ u < 18446744073709551616) :
    Calls Tryz.prog 84 #[.agg #[.int .i64 id], .agg #[.int .i64 kind, .bool b, .bool neg, .string dg, .int .i64 ex, .int .u64 u, .int .i64 wd, .string s, .slice A n c]] w fun e w' => e = .returned (.bool ((decide (n = 0) && onlyB ⟨kind, b, neg, dg, ex, u, wd, s⟩ ⟨0, false, false, ⟨#[]⟩, 0, u, wd, ⟨#[]⟩⟩) && wideOk u wd)) ∧ Below w.heap.size w w' := by
  have HB : Hid (∀ w, Calls Tryz.prog 126 #[.agg #[.int .i64 kind, .bool b, .bool neg, .string dg, .int .i64 ex, .int .u64 u, .int .i64 wd, .string s, .slice A n c], .agg #[.int .i64 0, .bool false, .bool false, .string ⟨#[]⟩, .int .i64 0, .int .u64 u, .int .i64 wd, .string ⟨#[]⟩, .slice none 0 0]] w fun e w' => e = .returned (.bool (decide (n = 0) && onlyB ⟨kind, b, neg, dg, ex, u, wd, s⟩ ⟨0, false, false, ⟨#[]⟩, 0, u, wd, ⟨#[]⟩⟩)) ∧ Below w.heap.size w w') := Lib.hid (fun w => tree_bare ⟨kind, b, neg, dg, ex, u, wd, s⟩ ⟨0, false, false, ⟨#[]⟩, 0, u, wd, ⟨#[]⟩⟩ A none n 0 c 0 w)
  obtain ⟨hb2, hk1, hk2⟩ := box2 w #[.int .i64 id] #[.int .i64 kind, .bool b, .bool neg, .string dg, .int .i64 ex, .int .u64 u, .int .i64 wd, .string s, .slice A n c] 69 27
  obtain ⟨bb, hbb⟩ : ∃ bb, (decide (n = 0) && onlyB ⟨kind, b, neg, dg, ex, u, wd, s⟩ ⟨0, false, false, ⟨#[]⟩, 0, u, wd, ⟨#[]⟩⟩) = bb := ⟨_, rfl⟩
  rw [hbb] at HB ⊢
  clear hbb
  have HW := Lib.hid (float_Widen u wd hu.1 hu.2)
  obtain ⟨dd, hdd⟩ : ∃ dd, wideOk u wd = dd := ⟨_, rfl⟩
  obtain ⟨wv, hwv⟩ : ∃ wv, widenV u wd = wv := ⟨_, rfl⟩
  rw [hdd, hwv] at HW
  rw [hdd]
  obtain ⟨ev, hev⟩ : ∃ ev : Int, (if dd = true then 0 else 2) = ev := ⟨_, rfl⟩
  rw [hev] at HW
  have he1 : (ev == 0) = dd := by
    rw [← hev]
    cases dd <;> rfl
  have HE1 := Lib.hid he1
  clear hdd hwv hev he1 hu
  have z0 := hk2.cell 0
  have z1 := hk2.cell 1
  have z2 := hk2.cell 2
  have z3 := hk2.cell 3
  have z4 := hk2.cell 4
  have z5 := hk2.cell 5
  have z6 := hk2.cell 6
  have z7 := hk2.cell 7
  have z8 := hk2.cell 8
  go_enter Tryz.func84, Tryz.ntmps84
  go_wp2_with fail
  refine (HW.out _).mono ?_
  rintro e w2 ⟨rfl, hb⟩
  have hb3 := hb2.trans (hb.mono hb2.size)
  have hk3 := hk2.below hb hk2.lt
  clear z0 z1 z2 z3 z4 z5 z6 z7 z8 hb hb2 hk1 hk2 HW
  have z0 := hk3.cell 0
  have z1 := hk3.cell 1
  have z2 := hk3.cell 2
  have z3 := hk3.cell 3
  have z4 := hk3.cell 4
  have z5 := hk3.cell 5
  have z6 := hk3.cell 6
  have z7 := hk3.cell 7
  have z8 := hk3.cell 8
  go_wp2_with fail
  refine (HB.out _).mono ?_
  rintro e w3 ⟨rfl, hb4⟩
  have hb5 := hb3.trans (hb4.mono hb3.size)
  clear z0 z1 z2 z3 z4 z5 z6 z7 z8 hk3 hb3 hb4 HB
  have he1 := HE1.out
  cases bb with
  | false =>
    clear he1
    go_wp2_with fail
    all_goals go_ret
    all_goals exact ⟨rfl, hb5⟩
  | true =>
    go_wp2_with fail
    all_goals go_ret
    all_goals exact ⟨rfl, hb5⟩

set_option maxHeartbeats 4000000 in
set_option maxRecDepth 100000 in
theorem is_Text (id : Int) (kind : Int) (b neg : Bool) (dg : ByteArray) (ex u wd : Int) (s : ByteArray) (A : Option Addr) (n c : Nat) (w : World) (hs : s.size ≤ 9223372036854775807) (hT : Lib.Utf8Tabs 4 5 w) :
    Calls Tryz.prog 85 #[.agg #[.int .i64 id], .agg #[.int .i64 kind, .bool b, .bool neg, .string dg, .int .i64 ex, .int .u64 u, .int .i64 wd, .string s, .slice A n c]] w fun e w' => e = .returned (.bool ((decide (n = 0) && onlyB ⟨kind, b, neg, dg, ex, u, wd, s⟩ ⟨0, false, false, ⟨#[]⟩, 0, 0, 0, s⟩) && (decide (s.size ≤ 400) && Lib.validD s.data.toList))) ∧ Below w.heap.size w w' := by
  have HB : Hid (∀ w, Calls Tryz.prog 126 #[.agg #[.int .i64 kind, .bool b, .bool neg, .string dg, .int .i64 ex, .int .u64 u, .int .i64 wd, .string s, .slice A n c], .agg #[.int .i64 0, .bool false, .bool false, .string ⟨#[]⟩, .int .i64 0, .int .u64 0, .int .i64 0, .string s, .slice none 0 0]] w fun e w' => e = .returned (.bool (decide (n = 0) && onlyB ⟨kind, b, neg, dg, ex, u, wd, s⟩ ⟨0, false, false, ⟨#[]⟩, 0, 0, 0, s⟩)) ∧ Below w.heap.size w w') := Lib.hid (fun w => tree_bare ⟨kind, b, neg, dg, ex, u, wd, s⟩ ⟨0, false, false, ⟨#[]⟩, 0, 0, 0, s⟩ A none n 0 c 0 w)
  obtain ⟨hb2, hk1, hk2⟩ := box2 w #[.int .i64 id] #[.int .i64 kind, .bool b, .bool neg, .string dg, .int .i64 ex, .int .u64 u, .int .i64 wd, .string s, .slice A n c] 69 27
  obtain ⟨bb, hbb⟩ : ∃ bb, (decide (n = 0) && onlyB ⟨kind, b, neg, dg, ex, u, wd, s⟩ ⟨0, false, false, ⟨#[]⟩, 0, 0, 0, s⟩) = bb := ⟨_, rfl⟩
  rw [hbb] at HB ⊢
  clear hbb
  have HV := Lib.hid (fun W (hT : Lib.Utf8Tabs 4 5 W) => utf_RightT s hs W hT)
  obtain ⟨dd, hdd⟩ : ∃ dd, Lib.validD s.data.toList = dd := ⟨_, rfl⟩
  rw [hdd] at HV ⊢
  have HT := Lib.hid hT
  clear hdd hT
  have z0 := hk2.cell 0
  have z1 := hk2.cell 1
  have z2 := hk2.cell 2
  have z3 := hk2.cell 3
  have z4 := hk2.cell 4
  have z5 := hk2.cell 5
  have z6 := hk2.cell 6
  have z7 := hk2.cell 7
  have z8 := hk2.cell 8
  go_enter Tryz.func85, Tryz.ntmps85
  go_wp2_with fail
  refine (HB.out _).mono ?_
  rintro e w2 ⟨rfl, hb⟩
  have hb3 := hb2.trans (hb.mono hb2.size)
  have hk3 := hk2.below hb hk2.lt
  clear z0 z1 z2 z3 z4 z5 z6 z7 z8 hb hb2 hk1 hk2 HB
  have z0 := hk3.cell 0
  have z1 := hk3.cell 1
  have z2 := hk3.cell 2
  have z3 := hk3.cell 3
  have z4 := hk3.cell 4
  have z5 := hk3.cell 5
  have z6 := hk3.cell 6
  have z7 := hk3.cell 7
  have z8 := hk3.cell 8
  cases bb with
  | false =>
    go_wp2_with fail
    all_goals go_ret
    all_goals exact ⟨rfl, hb3⟩
  | true =>
    by_cases h4 : s.size ≤ 400
    · have y1 : (s.size : Int) ≤ 400 := by omega
      have HT2 := Lib.hid (Utf8Tabs_below HT.out hb3)
      go_wp2_with fail
      refine (HV.out _ HT2.out).mono ?_
      rintro e w3 ⟨rfl, hb4⟩
      have hb5 := hb3.trans (hb4.mono hb3.size)
      clear z0 z1 z2 z3 z4 z5 z6 z7 z8 hk3 hb3 hb4
      cases dd with
      | false =>
        go_wp2_with fail
        all_goals go_ret
        all_goals exact ⟨ret_bool (by first | rfl | (rw [Bool.eq_iff_iff]; simp <;> omega)), hb5⟩
      | true =>
        go_wp2_with fail
        all_goals go_ret
        all_goals exact ⟨ret_bool (by first | rfl | (rw [Bool.eq_iff_iff]; simp <;> omega)), hb5⟩
    · have y1 : ¬ (s.size : Int) ≤ 400 := by omega
      have y2 : (400 : Int) < s.size := by omega
      go_wp2_with fail
      all_goals go_ret
      all_goals exact ⟨ret_bool (by first | rfl | (rw [Bool.eq_iff_iff]; simp <;> omega)), hb3⟩

set_option maxHeartbeats 4000000 in
set_option maxRecDepth 100000 in
theorem is_Bytes (id : Int) (kind : Int) (b neg : Bool) (dg : ByteArray) (ex u wd : Int) (s : ByteArray) (A : Option Addr) (n c : Nat) (w : World) :
    Calls Tryz.prog 86 #[.agg #[.int .i64 id], .agg #[.int .i64 kind, .bool b, .bool neg, .string dg, .int .i64 ex, .int .u64 u, .int .i64 wd, .string s, .slice A n c]] w fun e w' => e = .returned (.bool ((decide (n = 0) && onlyB ⟨kind, b, neg, dg, ex, u, wd, s⟩ ⟨0, false, false, ⟨#[]⟩, 0, 0, 0, s⟩) && decide (s.size ≤ 400))) ∧ Below w.heap.size w w' := by
  have HB : Hid (∀ w, Calls Tryz.prog 126 #[.agg #[.int .i64 kind, .bool b, .bool neg, .string dg, .int .i64 ex, .int .u64 u, .int .i64 wd, .string s, .slice A n c], .agg #[.int .i64 0, .bool false, .bool false, .string ⟨#[]⟩, .int .i64 0, .int .u64 0, .int .i64 0, .string s, .slice none 0 0]] w fun e w' => e = .returned (.bool (decide (n = 0) && onlyB ⟨kind, b, neg, dg, ex, u, wd, s⟩ ⟨0, false, false, ⟨#[]⟩, 0, 0, 0, s⟩)) ∧ Below w.heap.size w w') := Lib.hid (fun w => tree_bare ⟨kind, b, neg, dg, ex, u, wd, s⟩ ⟨0, false, false, ⟨#[]⟩, 0, 0, 0, s⟩ A none n 0 c 0 w)
  obtain ⟨hb2, hk1, hk2⟩ := box2 w #[.int .i64 id] #[.int .i64 kind, .bool b, .bool neg, .string dg, .int .i64 ex, .int .u64 u, .int .i64 wd, .string s, .slice A n c] 69 27
  obtain ⟨bb, hbb⟩ : ∃ bb, (decide (n = 0) && onlyB ⟨kind, b, neg, dg, ex, u, wd, s⟩ ⟨0, false, false, ⟨#[]⟩, 0, 0, 0, s⟩) = bb := ⟨_, rfl⟩
  rw [hbb] at HB ⊢
  clear hbb
  have z0 := hk2.cell 0
  have z1 := hk2.cell 1
  have z2 := hk2.cell 2
  have z3 := hk2.cell 3
  have z4 := hk2.cell 4
  have z5 := hk2.cell 5
  have z6 := hk2.cell 6
  have z7 := hk2.cell 7
  have z8 := hk2.cell 8
  go_enter Tryz.func86, Tryz.ntmps86
  go_wp2_with fail
  refine (HB.out _).mono ?_
  rintro e w2 ⟨rfl, hb⟩
  have hb3 := hb2.trans (hb.mono hb2.size)
  have hk3 := hk2.below hb hk2.lt
  clear z0 z1 z2 z3 z4 z5 z6 z7 z8 hb hb2 hk1 hk2 HB
  have z0 := hk3.cell 0
  have z1 := hk3.cell 1
  have z2 := hk3.cell 2
  have z3 := hk3.cell 3
  have z4 := hk3.cell 4
  have z5 := hk3.cell 5
  have z6 := hk3.cell 6
  have z7 := hk3.cell 7
  have z8 := hk3.cell 8
  cases bb with
  | false =>
    go_wp2_with fail
    all_goals go_ret
    all_goals exact ⟨rfl, hb3⟩
  | true =>
    by_cases h4 : s.size ≤ 400
    · have y1 : (s.size : Int) ≤ 400 := by omega
      go_wp2_with fail
      all_goals go_ret
      all_goals exact ⟨ret_bool (by first | rfl | (rw [Bool.eq_iff_iff]; simp <;> omega)), hb3⟩
    · have y1 : ¬ (s.size : Int) ≤ 400 := by omega
      have y2 : (400 : Int) < s.size := by omega
      go_wp2_with fail
      all_goals go_ret
      all_goals exact ⟨ret_bool (by first | rfl | (rw [Bool.eq_iff_iff]; simp <;> omega)), hb3⟩

set_option maxHeartbeats 4000000 in
set_option maxRecDepth 100000 in
theorem is_Tag (id : Int) (kind : Int) (b neg : Bool) (dg : ByteArray) (ex u wd : Int) (s : ByteArray) (A : Option Addr) (n c : Nat) (w : World) :
    Calls Tryz.prog 89 #[.agg #[.int .i64 id], .agg #[.int .i64 kind, .bool b, .bool neg, .string dg, .int .i64 ex, .int .u64 u, .int .i64 wd, .string s, .slice A n c]] w fun e w' => e = .returned (.bool (onlyB ⟨kind, b, neg, dg, ex, u, wd, s⟩ ⟨0, false, false, ⟨#[]⟩, 0, u, 0, ⟨#[]⟩⟩ && decide (n = 1))) ∧ Below w.heap.size w w' := by
  have HB : Hid (∀ w, Calls Tryz.prog 126 #[.agg #[.int .i64 kind, .bool b, .bool neg, .string dg, .int .i64 ex, .int .u64 u, .int .i64 wd, .string s, .slice none 0 0], .agg #[.int .i64 0, .bool false, .bool false, .string ⟨#[]⟩, .int .i64 0, .int .u64 u, .int .i64 0, .string ⟨#[]⟩, .slice none 0 0]] w fun e w' => e = .returned (.bool (decide ((0 : Nat) = 0) && onlyB ⟨kind, b, neg, dg, ex, u, wd, s⟩ ⟨0, false, false, ⟨#[]⟩, 0, u, 0, ⟨#[]⟩⟩)) ∧ Below w.heap.size w w') := Lib.hid (fun w => tree_bare ⟨kind, b, neg, dg, ex, u, wd, s⟩ ⟨0, false, false, ⟨#[]⟩, 0, u, 0, ⟨#[]⟩⟩ none none 0 0 0 0 w)
  obtain ⟨hb2, hk1, hk2⟩ := box2 w #[.int .i64 id] #[.int .i64 kind, .bool b, .bool neg, .string dg, .int .i64 ex, .int .u64 u, .int .i64 wd, .string s, .slice A n c] 69 27
  rw [decide_eq_true (rfl : (0 : Nat) = 0), Bool.true_and] at HB
  obtain ⟨bb, hbb⟩ : ∃ bb, onlyB ⟨kind, b, neg, dg, ex, u, wd, s⟩ ⟨0, false, false, ⟨#[]⟩, 0, u, 0, ⟨#[]⟩⟩ = bb := ⟨_, rfl⟩
  rw [hbb] at HB ⊢
  clear hbb
  have hb2 := hb2.alloc hb2.size (.cells #[.int .i64 kind, .bool b, .bool neg, .string dg, .int .i64 ex, .int .u64 u, .int .i64 wd, .string s, .slice none 0 0] 27)
  have hk3 := Blk.new ((w.alloc (.cells #[.int .i64 id] 69)).alloc (.cells #[.int .i64 kind, .bool b, .bool neg, .string dg, .int .i64 ex, .int .u64 u, .int .i64 wd, .string s, .slice A n c] 27)) #[.int .i64 kind, .bool b, .bool neg, .string dg, .int .i64 ex, .int .u64 u, .int .i64 wd, .string s, .slice none 0 0] 27
  have hk2 := hk2.alloc (.cells #[.int .i64 kind, .bool b, .bool neg, .string dg, .int .i64 ex, .int .u64 u, .int .i64 wd, .string s, .slice none 0 0] 27)
  simp only [World.size_alloc] at hk3
  have z0 := hk2.cell 0
  have z1 := hk2.cell 1
  have z2 := hk2.cell 2
  have z3 := hk2.cell 3
  have z4 := hk2.cell 4
  have z5 := hk2.cell 5
  have z6 := hk2.cell 6
  have z7 := hk2.cell 7
  have z8 := hk2.cell 8
  have x0 := hk3.cell 0
  have x1 := hk3.cell 1
  have x2 := hk3.cell 2
  have x3 := hk3.cell 3
  have x4 := hk3.cell 4
  have x5 := hk3.cell 5
  have x6 := hk3.cell 6
  have x7 := hk3.cell 7
  have x8 := hk3.cell 8
  go_enter Tryz.func89, Tryz.ntmps89
  go_wp2_with fail
  refine (HB.out _).mono ?_
  rintro e w2 ⟨rfl, hb⟩
  have hb3 := hb2.trans (hb.mono hb2.size)
  have hk4 := hk2.below hb hk2.lt
  clear z0 z1 z2 z3 z4 z5 z6 z7 z8 x0 x1 x2 x3 x4 x5 x6 x7 x8 hb hb2 hk1 hk2 HB hk3
  have z0 := hk4.cell 0
  have z1 := hk4.cell 1
  have z2 := hk4.cell 2
  have z3 := hk4.cell 3
  have z4 := hk4.cell 4
  have z5 := hk4.cell 5
  have z6 := hk4.cell 6
  have z7 := hk4.cell 7
  have z8 := hk4.cell 8
  cases bb with
  | false =>
    go_wp2_with fail
    all_goals go_ret
    all_goals exact ⟨rfl, hb3⟩
  | true =>
    by_cases h4 : n = 1
    · subst h4
      go_wp2_with fail
      all_goals go_ret
      all_goals exact ⟨rfl, hb3⟩
    · have y1 : ((n : Int) == 1) = false := by rw [beq_eq_false_iff_ne]; omega
      go_wp2_with fail
      all_goals go_ret
      all_goals exact ⟨ret_bool (by first | rfl | (rw [Bool.eq_iff_iff]; simp <;> omega)), hb3⟩

set_option maxHeartbeats 4000000 in
set_option maxRecDepth 100000 in
theorem is_Simple (id : Int) (kind : Int) (b neg : Bool) (dg : ByteArray) (ex u wd : Int) (s : ByteArray) (A : Option Addr) (n c : Nat) (w : World) (hu : 0 ≤ u ∧ u < 18446744073709551616) :
    Calls Tryz.prog 90 #[.agg #[.int .i64 id], .agg #[.int .i64 kind, .bool b, .bool neg, .string dg, .int .i64 ex, .int .u64 u, .int .i64 wd, .string s, .slice A n c]] w fun e w' => e = .returned (.bool ((decide (n = 0) && onlyB ⟨kind, b, neg, dg, ex, u, wd, s⟩ ⟨0, false, false, ⟨#[]⟩, 0, u, 0, ⟨#[]⟩⟩) && (decide (u ≤ 19) || (decide (u = 23) || (decide (32 ≤ u) && decide (u ≤ 255)))))) ∧ Below w.heap.size w w' := by
  have HB : Hid (∀ w, Calls Tryz.prog 126 #[.agg #[.int .i64 kind, .bool b, .bool neg, .string dg, .int .i64 ex, .int .u64 u, .int .i64 wd, .string s, .slice A n c], .agg #[.int .i64 0, .bool false, .bool false, .string ⟨#[]⟩, .int .i64 0, .int .u64 u, .int .i64 0, .string ⟨#[]⟩, .slice none 0 0]] w fun e w' => e = .returned (.bool (decide (n = 0) && onlyB ⟨kind, b, neg, dg, ex, u, wd, s⟩ ⟨0, false, false, ⟨#[]⟩, 0, u, 0, ⟨#[]⟩⟩)) ∧ Below w.heap.size w w') := Lib.hid (fun w => tree_bare ⟨kind, b, neg, dg, ex, u, wd, s⟩ ⟨0, false, false, ⟨#[]⟩, 0, u, 0, ⟨#[]⟩⟩ A none n 0 c 0 w)
  obtain ⟨hb2, hk1, hk2⟩ := box2 w #[.int .i64 id] #[.int .i64 kind, .bool b, .bool neg, .string dg, .int .i64 ex, .int .u64 u, .int .i64 wd, .string s, .slice A n c] 69 27
  obtain ⟨bb, hbb⟩ : ∃ bb, (decide (n = 0) && onlyB ⟨kind, b, neg, dg, ex, u, wd, s⟩ ⟨0, false, false, ⟨#[]⟩, 0, u, 0, ⟨#[]⟩⟩) = bb := ⟨_, rfl⟩
  rw [hbb] at HB ⊢
  clear hbb
  obtain ⟨hu0, hu1⟩ := hu
  have z0 := hk2.cell 0
  have z1 := hk2.cell 1
  have z2 := hk2.cell 2
  have z3 := hk2.cell 3
  have z4 := hk2.cell 4
  have z5 := hk2.cell 5
  have z6 := hk2.cell 6
  have z7 := hk2.cell 7
  have z8 := hk2.cell 8
  go_enter Tryz.func90, Tryz.ntmps90
  go_wp2_with fail
  refine (HB.out _).mono ?_
  rintro e w2 ⟨rfl, hb⟩
  have hb3 := hb2.trans (hb.mono hb2.size)
  have hk3 := hk2.below hb hk2.lt
  clear z0 z1 z2 z3 z4 z5 z6 z7 z8 hb hb2 hk1 hk2 HB
  have z0 := hk3.cell 0
  have z1 := hk3.cell 1
  have z2 := hk3.cell 2
  have z3 := hk3.cell 3
  have z4 := hk3.cell 4
  have z5 := hk3.cell 5
  have z6 := hk3.cell 6
  have z7 := hk3.cell 7
  have z8 := hk3.cell 8
  cases bb with
  | false =>
    go_wp2_with fail
    all_goals go_ret
    all_goals exact ⟨rfl, hb3⟩
  | true =>
    by_cases h1 : u ≤ 19
    · have y1 : u ≤ 255 := by omega
      have y2 : u < 20 := by omega
      go_wp2_with fail
      all_goals go_ret
      all_goals exact ⟨ret_bool (by first | rfl | (rw [Bool.eq_iff_iff]; simp <;> omega)), hb3⟩
    · have y2 : ¬ u < 20 := by omega
      by_cases h2 : u = 23
      · subst h2
        go_wp2_with fail
        all_goals go_ret
        all_goals exact ⟨ret_bool (by first | rfl | (rw [Bool.eq_iff_iff]; simp <;> omega)), hb3⟩
      · have y3 : (u == 23) = false := by rw [beq_eq_false_iff_ne]; exact h2
        by_cases h3 : 32 ≤ u
        · have y4 : 31 < u := by omega
          by_cases h4 : u ≤ 255
          · have y5 := h4
            go_wp2_with fail
            all_goals go_ret
            all_goals exact ⟨ret_bool (by first | rfl | (rw [Bool.eq_iff_iff]; simp <;> omega)), hb3⟩
          · have y5 := h4
            go_wp2_with fail
            all_goals go_ret
            all_goals exact ⟨ret_bool (by first | rfl | (rw [Bool.eq_iff_iff]; simp <;> omega)), hb3⟩
        · have y4 : ¬ 31 < u := by omega
          have y5 : u ≤ 255 := by omega
          go_wp2_with fail
          all_goals go_ret
          all_goals exact ⟨ret_bool (by first | rfl | (rw [Bool.eq_iff_iff]; simp <;> omega)), hb3⟩

set_option maxHeartbeats 4000000 in
set_option maxRecDepth 100000 in
theorem is_Ext (id : Int) (kind : Int) (b neg : Bool) (dg : ByteArray) (ex u wd : Int) (s : ByteArray) (A : Option Addr) (n c : Nat) (w : World) :
    Calls Tryz.prog 91 #[.agg #[.int .i64 id], .agg #[.int .i64 kind, .bool b, .bool neg, .string dg, .int .i64 ex, .int .u64 u, .int .i64 wd, .string s, .slice A n c]] w fun e w' => e = .returned (.bool ((decide (n = 0) && onlyB ⟨kind, b, neg, dg, ex, u, wd, s⟩ ⟨0, false, false, ⟨#[]⟩, 0, u, 0, s⟩) && (decide (u ≤ 255) && decide (s.size ≤ 400)))) ∧ Below w.heap.size w w' := by
  have HB : Hid (∀ w, Calls Tryz.prog 126 #[.agg #[.int .i64 kind, .bool b, .bool neg, .string dg, .int .i64 ex, .int .u64 u, .int .i64 wd, .string s, .slice A n c], .agg #[.int .i64 0, .bool false, .bool false, .string ⟨#[]⟩, .int .i64 0, .int .u64 u, .int .i64 0, .string s, .slice none 0 0]] w fun e w' => e = .returned (.bool (decide (n = 0) && onlyB ⟨kind, b, neg, dg, ex, u, wd, s⟩ ⟨0, false, false, ⟨#[]⟩, 0, u, 0, s⟩)) ∧ Below w.heap.size w w') := Lib.hid (fun w => tree_bare ⟨kind, b, neg, dg, ex, u, wd, s⟩ ⟨0, false, false, ⟨#[]⟩, 0, u, 0, s⟩ A none n 0 c 0 w)
  obtain ⟨hb2, hk1, hk2⟩ := box2 w #[.int .i64 id] #[.int .i64 kind, .bool b, .bool neg, .string dg, .int .i64 ex, .int .u64 u, .int .i64 wd, .string s, .slice A n c] 69 27
  obtain ⟨bb, hbb⟩ : ∃ bb, (decide (n = 0) && onlyB ⟨kind, b, neg, dg, ex, u, wd, s⟩ ⟨0, false, false, ⟨#[]⟩, 0, u, 0, s⟩) = bb := ⟨_, rfl⟩
  rw [hbb] at HB ⊢
  clear hbb
  have z0 := hk2.cell 0
  have z1 := hk2.cell 1
  have z2 := hk2.cell 2
  have z3 := hk2.cell 3
  have z4 := hk2.cell 4
  have z5 := hk2.cell 5
  have z6 := hk2.cell 6
  have z7 := hk2.cell 7
  have z8 := hk2.cell 8
  go_enter Tryz.func91, Tryz.ntmps91
  go_wp2_with fail
  refine (HB.out _).mono ?_
  rintro e w2 ⟨rfl, hb⟩
  have hb3 := hb2.trans (hb.mono hb2.size)
  have hk3 := hk2.below hb hk2.lt
  clear z0 z1 z2 z3 z4 z5 z6 z7 z8 hb hb2 hk1 hk2 HB
  have z0 := hk3.cell 0
  have z1 := hk3.cell 1
  have z2 := hk3.cell 2
  have z3 := hk3.cell 3
  have z4 := hk3.cell 4
  have z5 := hk3.cell 5
  have z6 := hk3.cell 6
  have z7 := hk3.cell 7
  have z8 := hk3.cell 8
  cases bb with
  | false =>
    go_wp2_with fail
    all_goals go_ret
    all_goals exact ⟨rfl, hb3⟩
  | true =>
    by_cases h1 : u ≤ 255
    · by_cases h4 : s.size ≤ 400
      · have y1 : (s.size : Int) ≤ 400 := by omega
        go_wp2_with fail
        all_goals go_ret
        all_goals exact ⟨ret_bool (by first | rfl | (rw [Bool.eq_iff_iff]; simp <;> omega)), hb3⟩
      · have y1 : ¬ (s.size : Int) ≤ 400 := by omega
        have y2 : (400 : Int) < s.size := by omega
        go_wp2_with fail
        all_goals go_ret
        all_goals exact ⟨ret_bool (by first | rfl | (rw [Bool.eq_iff_iff]; simp <;> omega)), hb3⟩
    · have y5 := h1
      go_wp2_with fail
      all_goals go_ret
      all_goals exact ⟨ret_bool (by first | rfl | (rw [Bool.eq_iff_iff]; simp <;> omega)), hb3⟩
end Go.Proofs.YtfckekaegjjmkaaGreatDoor
