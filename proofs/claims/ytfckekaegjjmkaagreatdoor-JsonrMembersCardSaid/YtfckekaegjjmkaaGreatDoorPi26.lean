/- The texts JrG, put together. -/
import Derived.Test.YtfckekaegjjmkaaGreatDoorPi24
import Derived.Test.YtfckekaegjjmkaaGreatDoorPi22
import Derived.Test.YtfckekaegjjmkaaGreatDoorPi25
namespace Go.Proofs.YtfckekaegjjmkaaGreatDoor
open Go.RowKit Go.Shelf
attribute [local go_sem] Oper.semAt_some wide_fn wide_depth

set_option maxHeartbeats 16000000 in
set_option maxRecDepth 100000 in
theorem nodes_seq_false {w0 : World} {uT uQ : Addr} (hU : UW w0 uT uQ) (F d p n nk bP bE bM m : Nat) (en : UInt8) (hen : en ≠ 44) (s0 : ByteArray) (hV : ValC w0 F d) (hp0 : w0.heap.size ≤ p) (hpn : p < nk) (hPp : bP ≠ p) (hEp : bE ≠ p) (hMp : bM ≠ p) (hmp : m ≠ p) (hPm : bP ≠ m) (hEm : bE ≠ m) (hMm : bM ≠ m) (hm0 : w0.heap.size ≤ m) (hs : s0.size ≤ 100000000) (hF : s0.size < F) :
    SeqA Tryz.prog 213 #[.pointer (some ⟨bP, 0, none⟩), .pointer (some ⟨bE, 0, none⟩), .pointer (some ⟨bM, 0, none⟩)] EvJ.enc (MvJ p m s0.size) (NodesKp nk bP bE bM m) EvJ.isOk (fun pre A W => NodesT p A.heap.size d s0.size pre W ∧ m < A.heap.size)
      (NodesS p (16 - d) s0.size (listJ uqJ (valueJ uqJ F d) false en F s0.data.toList)) (NodesSp (listJ uqJ (valueJ uqJ F d) false en F s0.data.toList)) (fun W => NodesA w0 p (16 - d) bP bE bM m en false s0 W ∧ n ≤ W.heap.size) := by
  intro l J Jx W hA hJ hJx hY h0
  obtain ⟨⟨hb0, hr0, cP0, cE0, cM0, hsz⟩, hn0⟩ := hA
  have hlt := listJ_take uqJ (valueJ uqJ F d) false en F s0.data.toList
  obtain ⟨res, hres⟩ : ∃ res, listJ uqJ (valueJ uqJ F d) false en F s0.data.toList = res := ⟨_, rfl⟩
  rw [hres] at hlt ⊢
  clear hres
  obtain ⟨dp, hdp⟩ : ∃ dp, 16 - d = dp := ⟨_, rfl⟩
  have HV := Lib.hid (fun s W (hb : Below w0.heap.size w0 W) (hR : RdJ W p s (16 - d)) (h1 : s.size ≤ 100000000) (h2 : s.size < F) => hV p s W hb hp0 hR h1 h2)
  rw [hdp] at hr0 HV ⊢
  have HM := Lib.hid (fun s W (hb : Below w0.heap.size w0 W) (hR : RdJ W p s dp) (h1 : s.size ≤ 1000000000) => jr_member hU p dp d s W hb hR h1)
  have HS := Lib.hid (fun s W (h : RdJ W p s dp) (hz : s.size ≤ 1000000000) => jr_space p dp s W h hz)
  have HE := Lib.hid (fun s W (h : RdJ W p s dp) => jr_take p dp s ⟨#[en]⟩ W h)
  have HC := Lib.hid (fun s W (h : RdJ W p s dp) => jr_take p dp s ⟨#[44]⟩ W h)
  have HY := Lib.hid hY
  have HJ := Lib.hid hJ
  have HLT := Lib.hid hlt
  clear hY hJ hJx hV hdp hU hlt
  refine callsIn_of_wp Tryz.func213 rfl trivial ?_ rfl
  simp only [Tryz.ntmps213, List.size_toArray, List.length_cons, List.length_nil, Nat.reduceAdd, Nat.reduceSub, Array.replicate_succ, Array.replicate_zero, List.push_toArray, List.append_toArray, List.nil_append, List.cons_append]
  let INV : Act → World → Prop := fun a wr => (∃ u4 u6 u7 u8 u9 u10 u11 u12 u13 u14 u15 u16 u17 u18 u19 u20 u21 u22 u23 u24 u25 u26 u27 u28 u29 u30 u31 u32 u33 u34 u35 u36 u37 u38 u39 u40 u41 u42 u43 u44 u45 u46 : Value, a = { tmps := #[.func (.yield l) #[] #[], .pointer (some ⟨bP, 0, none⟩), .pointer (some ⟨bE, 0, none⟩), .pointer (some ⟨bM, 0, none⟩), u4, .pointer (some ⟨m, 0, none⟩), u6, u7, u8, u9, u10, u11, u12, u13, u14, u15, u16, u17, u18, u19, u20, u21, u22, u23, u24, u25, u26, u27, u28, u29, u30, u31, u32, u33, u34, u35, u36, u37, u38, u39, u40, u41, u42, u43, u44, u45, u46], defers := [] }) ∧ ∃ (pre : List EvJ) (sr : ByteArray) (f : Nat) (cs : Array Value), cs.size = 9 ∧ sr.size + pre.length ≤ s0.size ∧ sr.size < f ∧ Hid (nodesJ uqJ (valueJ uqJ F d) false en f (treesJ pre) sr.data.toList = res) ∧ (∀ x ∈ pre, x.isOk) ∧ J pre wr ∧ Below w0.heap.size w0 wr ∧ RdJ wr p sr dp ∧ Blk wr bP #[.pointer (some ⟨p, 0, none⟩)] 56 ∧ Blk wr bE #[.string ⟨#[en]⟩] 9 ∧ Blk wr bM #[.bool false] 4 ∧ Blk wr m cs 27 ∧ n ≤ wr.heap.size
  refine wpIn_wide.2 (wp_scope_again 0 INV (fun _ wr => leftJ p wr) rfl ?pass ?first)
  case pass =>
    rintro a wrA ⟨⟨u4, u6, u7, u8, u9, u10, u11, u12, u13, u14, u15, u16, u17, u18, u19, u20, u21, u22, u23, u24, u25, u26, u27, u28, u29, u30, u31, u32, u33, u34, u35, u36, u37, u38, u39, u40, u41, u42, u43, u44, u45, u46, rfl⟩, preA, srA, f, cs, hcs, hszA, hf, hrem, hallA, hjA, hbA, hrA, cPA, cEA, cMA, cmA, hnwA⟩
    refine (wpIn_wide (n := 8)).1 ?_
    obtain ⟨f, rfl⟩ : ∃ g, f = g + 1 := ⟨f - 1, by omega⟩
    have hrm0 := hrem.out
    rw [nodes_one] at hrm0
    have hremA := Lib.hid hrm0
    have zM := cMA.cell 0
    have hlr := leftJ_of hrA
    clear hrm0 hrem
    cases hit : valueJ uqJ F d srA.data.toList with
    | bad e =>
      have HX := HV.out srA wrA hbA hrA (by omega) (by omega)
      rw [hit] at HX
      have HX : Hid (Calls Tryz.prog 53 #[.pointer (some ⟨p, 0, none⟩)] wrA fun x w' => wrA.grownBy w' (some p) ∧ (x = .returned (.tuple #[.agg zeroC, errJ e]) ∧ (e = 60 ∨ e = 80)) ∧ ∃ s' d', RdJ w' p s' d' ∧ s'.size ≤ srA.size) := Lib.hid HX
      have hrm := hremA.out
      rw [restN] at hrm
      rw [bindP_bad hit] at hrm
      have HRM := Lib.hid hrm
      clear hit hrm hremA
      have zP := cPA.cell 0
      gi_wp2_with fail
      refine (callsIn_wide.2 HX.out).mono ?_
      rintro x w5 ⟨hg5, ⟨rfl, he⟩, s', d', hr5, hs5⟩
      have hj5 := HJ.out _ _ _ hjA (MvJ.to hg5 hr5 (by omega))
      have cm5 := blk_gb cmA hg5 hmp
      have hj6 := HJ.out _ _ _ hj5 (MvJ.row cm5 (Ne.symm hmp) zeroC)
      have cm6 := blk_row cm5 zeroC
      obtain ⟨fn, tmps, assign, body, hy, hR⟩ := HY.out preA (.no e) wrA (w5.setRow m zeroC) hjA ((MvJ.to hg5 hr5 (by omega)).trans (MvJ.row cm5 (Ne.symm hmp) zeroC)) hj6 ⟨⟨by rw [List.length_append, List.length_singleton]; omega, fun xs x hx => by
        obtain ⟨_, hx⟩ := List.append_inj' hx rfl
        injection hx with hx
        subst hx
        exact ⟨he, s', d', blk_row_other hr5 (Ne.symm hmp) _, by omega⟩⟩, cmA.lt⟩
      have HEND : Hid (∀ W, NodesSp res (preA ++ [.no e]) W) := Lib.hid (fun _ => .inl ⟨preA, e, rfl, HRM.out.symm, he⟩)
      simp only [EvJ.enc] at hy hR
      obtain ⟨ev, hev⟩ : ∃ ev, errJ e = ev := ⟨_, rfl⟩
      rw [hev] at hy ⊢
      have hy : Sem.run Tryz.prog (Instr.yield l #[.agg zeroC, ev]) (w5.setRow m zeroC) = .ok (Next.round l fn tmps assign body) (w5.setRow m zeroC) := hy
      clear hj5 HX hrA cPA cEA cMA cmA hbA hjA hev hr5 hg5 hs5
      gi_wp2_with (first | (refine wpListIn_store_row rfl 27 (.tmp 5) (.tmp 26) rfl m zeroC rfl rfl 27 _ cm5 (by kernel_rfl) (by first | (rw [hcs]; rfl) | rfl) (by simp [Value.oneCell']) ?_) | (refine wpListIn_load_row rfl 27 (.tmp 5) rfl m rfl 27 _ (0, 0) _ cm6 Tryz.underlying27 rfl (by kernel_rfl) ?_))
      refine hR.mono ?_
      rintro e2 w7 (⟨_, hx, _⟩ | ⟨rfl, hx2⟩)
      · exact hx.elim
      · gi_wp2_with fail
        rw [jump_ret]
        refine bodyPost_ret (results_none rfl _ _ _) rfl ?_
        exact ⟨⟨_, rfl⟩, .inr ⟨_, HEND.out _, hx2⟩⟩
    | good t r =>
      have HX := HV.out srA wrA hbA hrA (by omega) (by omega)
      rw [hit] at HX
      have hil := value_less uqJ_own2 hit
      have hsl : srA.data.toList.length = srA.size := by simp
      have hrm := hremA.out
      rw [restN] at hrm
      rw [bindP_of hit] at hrm
      obtain ⟨⟨kind3, b3, neg3, dg3, ex3, u3, wd3, s3⟩, ho3⟩ : ∃ o, t.own = o := ⟨_, rfl⟩
      unfold ReadJ at HX
      simp only [nodeV] at HX
      have HX : Hid (Calls Tryz.prog 53 #[.pointer (some ⟨p, 0, none⟩)] wrA fun x w' => wrA.grownBy w' (some p) ∧ (∃ A n c, x = .returned (.tuple #[.agg #[.int .i64 t.own.kind, .bool t.own.b, .bool t.own.neg, .string t.own.dg, .int .i64 t.own.ex, .int .u64 t.own.u, .int .i64 t.own.wd, .string t.own.s, .slice A n c], .nilIface]) ∧ LAt w' (fun q => wrA.heap.size ≤ q ∧ q < w'.heap.size) d t.kids (.slice A n c)) ∧ OwnOk t.own ∧ RdJ w' p (bsD r) dp ∧ r.length ≤ srA.size) := Lib.hid HX
      have hHO := HX.out
      clear HX
      have HX := Lib.hid hHO
      clear hHO
      simp only [ho3] at HX
      have HO3 := Lib.hid ho3
      obtain ⟨srB, hrb⟩ : ∃ x, bsD r = x := ⟨_, rfl⟩
      have hrl : r = srB.data.toList := by rw [← hrb]; rfl
      have hrs : srB.size + 1 ≤ srA.size := by rw [← hrb, bsD_size]; omega
      rw [hrb] at HX
      rw [hrl] at hrm
      have hremB := Lib.hid hrm
      clear hit hrm hremA hil hrb ho3
      have zP := cPA.cell 0
      gi_wp2_with fail
      refine (callsIn_wide.2 HX.out).mono ?_
      rintro x w5 ⟨hg5, ⟨A, mm, c, rfl, hly⟩, hot, hr5, _⟩
      have hj5 := HJ.out _ _ _ hjA (MvJ.to hg5 hr5 (by omega))
      have cm5 := blk_gb cmA hg5 hmp
      have hj6 := HJ.out _ _ _ hj5 (MvJ.row cm5 (Ne.symm hmp) #[.int .i64 kind3, .bool b3, .bool neg3, .string dg3, .int .i64 ex3, .int .u64 u3, .int .i64 wd3, .string s3, .slice A mm c])
      have cm6 := blk_row cm5 #[.int .i64 kind3, .bool b3, .bool neg3, .string dg3, .int .i64 ex3, .int .u64 u3, .int .i64 wd3, .string s3, .slice A mm c]
      have hr6 := blk_row_other hr5 (Ne.symm hmp) #[.int .i64 kind3, .bool b3, .bool neg3, .string dg3, .int .i64 ex3, .int .u64 u3, .int .i64 wd3, .string s3, .slice A mm c]
      have cP6 := blk_row_other (blk_gb cPA hg5 hPp) hPm #[.int .i64 kind3, .bool b3, .bool neg3, .string dg3, .int .i64 ex3, .int .u64 u3, .int .i64 wd3, .string s3, .slice A mm c]
      have cE6 := blk_row_other (blk_gb cEA hg5 hEp) hEm #[.int .i64 kind3, .bool b3, .bool neg3, .string dg3, .int .i64 ex3, .int .u64 u3, .int .i64 wd3, .string s3, .slice A mm c]
      have cM6 := blk_row_other (blk_gb cMA hg5 hMp) hMm #[.int .i64 kind3, .bool b3, .bool neg3, .string dg3, .int .i64 ex3, .int .u64 u3, .int .i64 wd3, .string s3, .slice A mm c]
      have hb5 := below_of_grown hbA hp0 hrA.lt hg5
      have hb6 : Below w0.heap.size w0 (w5.setRow m #[.int .i64 kind3, .bool b3, .bool neg3, .string dg3, .int .i64 ex3, .int .u64 u3, .int .i64 wd3, .string s3, .slice A mm c]) := hb5.grown (grown_row _ m _) hb5.size (fun q e => by cases e; omega)
      have hmlt := cmA.lt
      have hnw6 : n ≤ (w5.setRow m #[.int .i64 kind3, .bool b3, .bool neg3, .string dg3, .int .i64 ex3, .int .u64 u3, .int .i64 wd3, .string s3, .slice A mm c]).heap.size := by rw [setRow_size]; exact Nat.le_trans hnwA hg5.size
      obtain ⟨fn, tmps, assign, body, hy, hR⟩ := HY.out preA (.ok t (.slice A mm c)) wrA (w5.setRow m #[.int .i64 kind3, .bool b3, .bool neg3, .string dg3, .int .i64 ex3, .int .u64 u3, .int .i64 wd3, .string s3, .slice A mm c]) hjA ((MvJ.to hg5 hr5 (by omega)).trans (MvJ.row cm5 (Ne.symm hmp) _)) hj6 ⟨⟨by rw [List.length_append, List.length_singleton]; omega, fun xs x hx => by
        obtain ⟨hx1, hx⟩ := List.append_inj' hx rfl
        injection hx with hx
        subst hx
        refine ⟨⟨A, mm, c, rfl⟩, (hly.keep (fun q hq => setRow_other _ _ _ _ (by have := hq.1; omega))).mono (fun q hq => by rw [setRow_size]; exact hq), by rw [HO3.out]; exact hot, ?_⟩
        rw [← hx1]
        omega⟩, hmlt⟩
      have hallB := ok_snoc hallA t (.slice A mm c)
      have hts := treesJ_snoc preA t (.slice A mm c)
      have hlenB : (preA ++ [EvJ.ok t (.slice A mm c)]).length = preA.length + 1 := by simp
      simp only [EvJ.enc, nodeV, HO3.out] at hy
      have HTS := Lib.hid hts
      clear HX hrA cPA cEA cMA cmA hbA hjA hly hts hj5 hr5 hg5 hb5 hrl hj6 hot
      gi_wp2_with (first | (refine wpListIn_store_row rfl 27 (.tmp 5) (.tmp 26) rfl m #[.int .i64 kind3, .bool b3, .bool neg3, .string dg3, .int .i64 ex3, .int .u64 u3, .int .i64 wd3, .string s3, .slice A mm c] rfl rfl 27 _ cm5 (by kernel_rfl) (by first | (rw [hcs]; rfl) | rfl) (by simp [Value.oneCell']) ?_) | (refine wpListIn_load_row rfl 27 (.tmp 5) rfl m rfl 27 _ (0, 0) _ cm6 Tryz.underlying27 rfl (by kernel_rfl) ?_))
      refine hR.mono ?_
      rintro e2 wrB (⟨rfl, _, hjB, hk1, hk2, hk3, hk4, hk5⟩ | ⟨rfl, hx2⟩)
      · have hrB : RdJ wrB p srB dp := (hk1.block p hpn).trans hr6
        have cPB : Blk wrB bP _ _ := (hk2 cP6.lt).trans cP6
        have cEB : Blk wrB bE _ _ := (hk3 cE6.lt).trans cE6
        have cMB : Blk wrB bM _ _ := (hk4 cM6.lt).trans cM6
        have cmB : Blk wrB m _ _ := hk5 _ cm6 rfl
        have hbB := hb6.trans (hk1.mono (Nat.le_trans hp0 (Nat.le_of_lt hpn)))
        have hnwB := Nat.le_trans hnw6 hk1.size
        obtain ⟨preB, hpre⟩ : ∃ x, preA ++ [EvJ.ok t (.slice A mm c)] = x := ⟨_, rfl⟩
        have HPRE := Lib.hid hpre
        rw [hpre] at hjB hallB hlenB HTS
        clear hk1 hk2 hk3 hk4 hk5 hr6 cP6 cE6 cM6 cm6 hb6 hnw6 hpre
        have hlB := spJ_len srB.data.toList
        have hslB : srB.data.toList.length = srB.size := by simp
        have hrmB := hremB.out
        rw [nextJ_take en hen, ← HTS.out] at hrmB
        have hremC := Lib.hid hrmB
        clear hremB hrmB
        have zP := cPB.cell 0
        gi_wp2_with fail
        refine (callsIn_wide.2 (HS.out srB wrB hrB (by omega))).mono ?_
        rintro x w8 ⟨⟨v8, rfl⟩, hg8, hr8⟩
        have hj8 := HJ.out _ _ _ hjB (MvJ.to hg8 hr8 (by rw [bsD_size]; omega))
        have hb8 := below_of_grown hbB hp0 hrB.lt hg8
        have cP8 := blk_gb cPB hg8 hPp
        have cE8 := blk_gb cEB hg8 hEp
        have cM8 := blk_gb cMB hg8 hMp
        have cm8 := blk_gb cmB hg8 hmp
        have hnw8 := Nat.le_trans hnwB hg8.size
        clear hjB hbB hrB cPB cEB cMB cmB hnwB

        have zP := cP8.cell 0
        have zE := cE8.cell 0
        have HEC := HE.out (bsD (spJ srB.data.toList)) w8 hr8
        rw [bsD_list] at HEC
        have hl9 := takeJ_len [en] (spJ srB.data.toList)
        have hno := takeJ_no [en] (spJ srB.data.toList)
        obtain ⟨⟨b9, r9⟩, hx9⟩ : ∃ x, takeJ [en] (spJ srB.data.toList) = x := ⟨_, rfl⟩
        have hrm9 := hremC.out
        rw [hx9] at HEC hl9 hrm9 hno
        simp only [] at HEC hl9 hrm9 hno
        have HEC := Lib.hid HEC
        have HRM9 := Lib.hid hrm9
        clear hremC hrm9 hx9
        cases b9 with
        | true =>
          have hq : res = .good (treesJ preB) r9 := by
            rw [← HRM9.out, if_pos rfl]
          have HQ := Lib.hid hq
          clear hq HRM9 hno
          gi_wp2_with fail
          refine (callsIn_wide.2 HEC.out).mono ?_
          rintro x w9 ⟨rfl, hg9, hr9⟩
          have hj9 := HJ.out _ _ _ hj8 (MvJ.to hg9 hr9 (by rw [bsD_size]; omega))
          gi_wp2_with fail
          rw [jump_ret]
          refine bodyPost_ret (results_none rfl _ _ _) rfl ?_
          exact ⟨⟨_, rfl⟩, .inl ⟨preB, ⟨hallB, r9, HQ.out, hr9, by omega⟩, hj9⟩⟩
        | false =>
          obtain rfl := hno rfl
          clear hno
          gi_wp2_with fail
          refine (callsIn_wide.2 HEC.out).mono ?_
          rintro x w9 ⟨rfl, hg9, hr9⟩
          have hj9 := HJ.out _ _ _ hj8 (MvJ.to hg9 hr9 (by rw [bsD_size]; omega))
          have hb9 := below_of_grown hb8 hp0 hr8.lt hg9
          have cP9 := blk_gb cP8 hg9 hPp
          have cE9 := blk_gb cE8 hg9 hEp
          have cM9 := blk_gb cM8 hg9 hMp
          have cm9 := blk_gb cm8 hg9 hmp
          have hnw9 := Nat.le_trans hnw8 hg9.size
          clear hj8 hb8 hr8 cP8 cE8 cM8 cm8 hnw8

          have zP := cP9.cell 0
          have HCC := HC.out (bsD (spJ srB.data.toList)) w9 hr9
          rw [bsD_list] at HCC
          have hl10 := takeJ_len [44] (spJ srB.data.toList)
          have hrm9 := HRM9.out
          rw [if_neg (by decide)] at hrm9
          obtain ⟨⟨b10, r10⟩, hx10⟩ : ∃ x, takeJ [44] (spJ srB.data.toList) = x := ⟨_, rfl⟩
          rw [hx10] at HCC hl10 hrm9
          simp only [] at HCC hl10 hrm9
          have HCC := Lib.hid HCC
          have HRMX := Lib.hid hrm9
          clear hrm9 hx10 HRM9
          cases b10 with
          | false =>
            have hq : res = .bad 80 := by
              rw [← HRMX.out, if_neg (by decide)]
            have HEND : Hid (∀ W, NodesSp res (preB ++ [.no 80]) W) := Lib.hid (fun _ => .inl ⟨preB, 80, rfl, hq, .inr rfl⟩)
            clear hq HRMX
            gi_wp2_with fail
            refine (callsIn_wide.2 HCC.out).mono ?_
            rintro x w10 ⟨rfl, hg10, hr10⟩
            have hj10 := HJ.out _ _ _ hj9 (MvJ.to hg10 hr10 (by rw [bsD_size]; omega))
            have hb10 := below_of_grown hb9 hp0 hr9.lt hg10
            have cP10 := blk_gb cP9 hg10 hPp
            have cE10 := blk_gb cE9 hg10 hEp
            have cM10 := blk_gb cM9 hg10 hMp
            have cm10 := blk_gb cm9 hg10 hmp
            have hnw10 := Nat.le_trans hnw9 hg10.size
            clear hj9 hb9 hr9 cP9 cE9 cM9 cm9 hnw9

            obtain ⟨fn, tmps, assign, body, hy, hR⟩ := HY.out preB (.no 80) w10 w10 hj10 (.of_below (Below.refl _ _)) hj10 ⟨⟨by rw [List.length_append, List.length_singleton]; omega, fun xs x hx => by
              obtain ⟨_, hx⟩ := List.append_inj' hx rfl
              injection hx with hx
              subst hx
              exact ⟨.inr rfl, _, dp, hr10, by rw [bsD_size]; omega⟩⟩, cm10.lt⟩
            simp only [EvJ.enc] at hy hR
            obtain ⟨ev, hev⟩ : ∃ ev, errJ 80 = ev := ⟨_, rfl⟩
            have HB : Hid (∀ w, Calls Tryz.prog 54 #[] w fun x w' => x = .returned ev ∧ w' = w) := Lib.hid (fun w => by rw [← hev]; exact jr_bad w)
            rw [hev] at hy
            have hy : Sem.run Tryz.prog (Instr.yield l #[.agg zeroC, ev]) w10 = .ok (Next.round l fn tmps assign body) w10 := hy
            clear hev hj10 hr10 hb10 cP10 cE10 cM10 cm10
            gi_wp2_with fail
            refine (callsIn_wide.2 (HB.out _)).mono ?_
            rintro x w11 ⟨rfl, rfl⟩
            gi_wp2_with fail
            refine hR.mono ?_
            rintro e2 w12 (⟨_, hx, _⟩ | ⟨rfl, hx2⟩)
            · exact hx.elim
            · gi_wp2_with fail
              rw [jump_ret]
              refine bodyPost_ret (results_none rfl _ _ _) rfl ?_
              exact ⟨⟨_, rfl⟩, .inr ⟨_, HEND.out _, hx2⟩⟩
          | true =>
            have hl11 := spJ_len r10
            gi_wp2_with fail
            refine (callsIn_wide.2 HCC.out).mono ?_
            rintro x w10 ⟨rfl, hg10, hr10⟩
            have hj10 := HJ.out _ _ _ hj9 (MvJ.to hg10 hr10 (by rw [bsD_size]; omega))
            have hb10 := below_of_grown hb9 hp0 hr9.lt hg10
            have cP10 := blk_gb cP9 hg10 hPp
            have cE10 := blk_gb cE9 hg10 hEp
            have cM10 := blk_gb cM9 hg10 hMp
            have cm10 := blk_gb cm9 hg10 hmp
            have hnw10 := Nat.le_trans hnw9 hg10.size
            clear hj9 hb9 hr9 cP9 cE9 cM9 cm9 hnw9

            have zP := cP10.cell 0
            gi_wp2_with fail
            refine (callsIn_wide.2 (HS.out (bsD r10) w10 hr10 (by rw [bsD_size]; omega))).mono ?_
            rintro x w11 ⟨⟨v11, rfl⟩, hg11, hr11⟩
            rw [bsD_list] at hr11
            have hj11 := HJ.out _ _ _ hj10 (MvJ.to hg11 hr11 (by rw [bsD_size]; omega))
            have hb11 := below_of_grown hb10 hp0 hr10.lt hg11
            have cP11 := blk_gb cP10 hg11 hPp
            have cE11 := blk_gb cE10 hg11 hEp
            have cM11 := blk_gb cM10 hg11 hMp
            have cm11 := blk_gb cm10 hg11 hmp
            have hnw11 := Nat.le_trans hnw10 hg11.size
            clear hj10 hb10 hr10 cP10 cE10 cM10 cm10 hnw10

            have hrem11 : Hid (nodesJ uqJ (valueJ uqJ F d) false en f (treesJ preB) (bsD (spJ r10)).data.toList = res) := Lib.hid (by rw [bsD_list, ← HRMX.out]; exact (if_pos trivial).symm)
            clear HRMX HTS
            gi_wp2_with fail
            refine wpIn_goto ?_
            simp +zetaDelta only [jump_goto]
            refine ⟨⟨⟨_, _, _, _, _, _, _, _, _, _, _, _, _, _, _, _, _, _, _, _, _, _, _, _, _, _, _, _, _, _, _, _, _, _, _, _, _, _, _, _, _, _, rfl⟩, preB, bsD (spJ r10), f, _, by simp, by rw [bsD_size]; omega, by rw [bsD_size]; omega, hrem11, hallB, hj11, hb11, hr11, cP11, cE11, cM11, cm11, hnw11⟩, ?_⟩
            rw [leftJ_of hr11, hlr, bsD_size]
            omega
      · gi_wp2_with fail
        rw [jump_ret]
        refine bodyPost_ret (results_none rfl _ _ _) rfl ?_
        exact ⟨⟨_, rfl⟩, .inr ⟨_, .inr hallB, hx2⟩⟩
  case first =>
    intro again
    have HAG := Lib.hid again
    clear again
    refine (wpIn_wide (n := 8)).1 ?_
    have hj1 := HJ.out _ _ _ h0 (MvJ.of_below ((Below.refl _ W).alloc (Nat.le_refl _) (.cells zeroC 27)))
    have hb1 := hb0.alloc hb0.size (.cells zeroC 27)
    have hr1 := hr0.alloc (.cells zeroC 27)
    have cP1 := cP0.alloc (.cells zeroC 27)
    have cE1 := cE0.alloc (.cells zeroC 27)
    have cM1 := cM0.alloc (.cells zeroC 27)
    have cm1 : Blk (W.alloc (.cells zeroC 27)) m zeroC 27 := by rw [← hsz]; exact Blk.new _ _ _
    have hnw1 : n ≤ (W.alloc (.cells zeroC 27)).heap.size := Nat.le_trans hn0 (by simp)
    have hl1 := spJ_len s0.data.toList
    have hsl : s0.data.toList.length = s0.size := by simp
    have zP := cP1.cell 0
    gi_wp2_with fail
    refine (callsIn_wide.2 (HS.out s0 _ hr1 (by omega))).mono ?_
    rintro x w2 ⟨⟨v2, rfl⟩, hg2, hr2⟩
    have hj2 := HJ.out _ _ _ hj1 (MvJ.to hg2 hr2 (by rw [bsD_size]; omega))
    have hb2 := below_of_grown hb1 hp0 hr1.lt hg2
    have cP2 := blk_gb cP1 hg2 hPp
    have cE2 := blk_gb cE1 hg2 hEp
    have cM2 := blk_gb cM1 hg2 hMp
    have cm2 := blk_gb cm1 hg2 hmp
    have hnw2 := Nat.le_trans hnw1 hg2.size
    clear hj1 hb1 hr1 cP1 cE1 cM1 cm1 hnw1

    clear h0 hb0 hr0 cP0 cE0 cM0
    have zP := cP2.cell 0
    have zE := cE2.cell 0
    have HEC := HE.out (bsD (spJ s0.data.toList)) w2 hr2
    rw [bsD_list] at HEC
    have hl3 := takeJ_len [en] (spJ s0.data.toList)
    have hno := takeJ_no [en] (spJ s0.data.toList)
    obtain ⟨⟨b3, r3⟩, hx3⟩ : ∃ x, takeJ [en] (spJ s0.data.toList) = x := ⟨_, rfl⟩
    have hrm3 := HLT.out
    rw [hx3] at HEC hl3 hrm3 hno
    simp only [] at HEC hl3 hrm3 hno
    have HEC := Lib.hid HEC
    have HRM3 := Lib.hid hrm3
    clear hrm3 hx3 HLT
    cases b3 with
    | true =>
      have hq : res = .good (treesJ []) r3 := by
        rw [HRM3.out]
        exact if_pos rfl
      have HQ := Lib.hid hq
      clear hq HRM3 hno
      gi_wp2_with fail
      refine (callsIn_wide.2 HEC.out).mono ?_
      rintro x w9 ⟨rfl, hg9, hr9⟩
      have hj9 := HJ.out _ _ _ hj2 (MvJ.to hg9 hr9 (by rw [bsD_size]; omega))
      gi_wp2_with fail
      rw [jump_ret]
      refine bodyPost_ret (results_none rfl _ _ _) rfl ?_
      exact ⟨⟨_, rfl⟩, .inl ⟨[], ⟨by simp, r3, HQ.out, hr9, by omega⟩, hj9⟩⟩
    | false =>
      obtain rfl := hno rfl
      clear hno
      gi_wp2_with fail
      refine (callsIn_wide.2 HEC.out).mono ?_
      rintro x w9 ⟨rfl, hg9, hr9⟩
      have hj9 := HJ.out _ _ _ hj2 (MvJ.to hg9 hr9 (by rw [bsD_size]; omega))
      have hb9 := below_of_grown hb2 hp0 hr2.lt hg9
      have cP9 := blk_gb cP2 hg9 hPp
      have cE9 := blk_gb cE2 hg9 hEp
      have cM9 := blk_gb cM2 hg9 hMp
      have cm9 := blk_gb cm2 hg9 hmp
      have hnw9 := Nat.le_trans hnw2 hg9.size
      clear hj2 hb2 hr2 cP2 cE2 cM2 cm2 hnw2

      have hrem9 : Hid (nodesJ uqJ (valueJ uqJ F d) false en F (treesJ []) (bsD (spJ s0.data.toList)).data.toList = res) := Lib.hid (by rw [bsD_list, HRM3.out]; exact (if_neg (by decide)).symm)
      gi_wp2_with fail
      refine wpIn_label ?_
      refine (‹∀ (a : Act) (w : World), Code.wpIn _ _ _ _ _ a w → _›) _ _ ((wpIn_wide (n := 8)).2 (HAG.out _ _ ⟨⟨_, _, _, _, _, _, _, _, _, _, _, _, _, _, _, _, _, _, _, _, _, _, _, _, _, _, _, _, _, _, _, _, _, _, _, _, _, _, _, _, _, _, rfl⟩, [], bsD (spJ s0.data.toList), F, _, by simp, by rw [bsD_size]; simp; omega, by rw [bsD_size]; omega, hrem9, by simp, hj9, hb9, hr9, cP9, cE9, cM9, cm9, hnw9⟩))

set_option maxHeartbeats 16000000 in
set_option maxRecDepth 100000 in
theorem nodes_seq_true {w0 : World} {uT uQ : Addr} (hU : UW w0 uT uQ) (F d p n nk bP bE bM m : Nat) (en : UInt8) (hen : en ≠ 44) (s0 : ByteArray) (hV : ValC w0 F d) (hp0 : w0.heap.size ≤ p) (hpn : p < nk) (hPp : bP ≠ p) (hEp : bE ≠ p) (hMp : bM ≠ p) (hmp : m ≠ p) (hPm : bP ≠ m) (hEm : bE ≠ m) (hMm : bM ≠ m) (hm0 : w0.heap.size ≤ m) (hs : s0.size ≤ 100000000) (hF : s0.size < F) :
    SeqA Tryz.prog 213 #[.pointer (some ⟨bP, 0, none⟩), .pointer (some ⟨bE, 0, none⟩), .pointer (some ⟨bM, 0, none⟩)] EvJ.enc (MvJ p m s0.size) (NodesKp nk bP bE bM m) EvJ.isOk (fun pre A W => NodesT p A.heap.size d s0.size pre W ∧ m < A.heap.size)
      (NodesS p (16 - d) s0.size (listJ uqJ (valueJ uqJ F d) true en F s0.data.toList)) (NodesSp (listJ uqJ (valueJ uqJ F d) true en F s0.data.toList)) (fun W => NodesA w0 p (16 - d) bP bE bM m en true s0 W ∧ n ≤ W.heap.size) := by
  intro l J Jx W hA hJ hJx hY h0
  obtain ⟨⟨hb0, hr0, cP0, cE0, cM0, hsz⟩, hn0⟩ := hA
  have hlt := listJ_take uqJ (valueJ uqJ F d) true en F s0.data.toList
  obtain ⟨res, hres⟩ : ∃ res, listJ uqJ (valueJ uqJ F d) true en F s0.data.toList = res := ⟨_, rfl⟩
  rw [hres] at hlt ⊢
  clear hres
  obtain ⟨dp, hdp⟩ : ∃ dp, 16 - d = dp := ⟨_, rfl⟩
  have HV := Lib.hid (fun s W (hb : Below w0.heap.size w0 W) (hR : RdJ W p s (16 - d)) (h1 : s.size ≤ 100000000) (h2 : s.size < F) => hV p s W hb hp0 hR h1 h2)
  rw [hdp] at hr0 HV ⊢
  have HM := Lib.hid (fun s W (hb : Below w0.heap.size w0 W) (hR : RdJ W p s dp) (h1 : s.size ≤ 1000000000) => jr_member hU p dp d s W hb hR h1)
  have HS := Lib.hid (fun s W (h : RdJ W p s dp) (hz : s.size ≤ 1000000000) => jr_space p dp s W h hz)
  have HE := Lib.hid (fun s W (h : RdJ W p s dp) => jr_take p dp s ⟨#[en]⟩ W h)
  have HC := Lib.hid (fun s W (h : RdJ W p s dp) => jr_take p dp s ⟨#[44]⟩ W h)
  have HY := Lib.hid hY
  have HJ := Lib.hid hJ
  have HLT := Lib.hid hlt
  clear hY hJ hJx hV hdp hU hlt
  refine callsIn_of_wp Tryz.func213 rfl trivial ?_ rfl
  simp only [Tryz.ntmps213, List.size_toArray, List.length_cons, List.length_nil, Nat.reduceAdd, Nat.reduceSub, Array.replicate_succ, Array.replicate_zero, List.push_toArray, List.append_toArray, List.nil_append, List.cons_append]
  let INV : Act → World → Prop := fun a wr => (∃ u4 u6 u7 u8 u9 u10 u11 u12 u13 u14 u15 u16 u17 u18 u19 u20 u21 u22 u23 u24 u25 u26 u27 u28 u29 u30 u31 u32 u33 u34 u35 u36 u37 u38 u39 u40 u41 u42 u43 u44 u45 u46 : Value, a = { tmps := #[.func (.yield l) #[] #[], .pointer (some ⟨bP, 0, none⟩), .pointer (some ⟨bE, 0, none⟩), .pointer (some ⟨bM, 0, none⟩), u4, .pointer (some ⟨m, 0, none⟩), u6, u7, u8, u9, u10, u11, u12, u13, u14, u15, u16, u17, u18, u19, u20, u21, u22, u23, u24, u25, u26, u27, u28, u29, u30, u31, u32, u33, u34, u35, u36, u37, u38, u39, u40, u41, u42, u43, u44, u45, u46], defers := [] }) ∧ ∃ (pre : List EvJ) (sr : ByteArray) (f : Nat) (cs : Array Value), cs.size = 9 ∧ sr.size + pre.length ≤ s0.size ∧ sr.size < f ∧ Hid (nodesJ uqJ (valueJ uqJ F d) true en f (treesJ pre) sr.data.toList = res) ∧ (∀ x ∈ pre, x.isOk) ∧ J pre wr ∧ Below w0.heap.size w0 wr ∧ RdJ wr p sr dp ∧ Blk wr bP #[.pointer (some ⟨p, 0, none⟩)] 56 ∧ Blk wr bE #[.string ⟨#[en]⟩] 9 ∧ Blk wr bM #[.bool true] 4 ∧ Blk wr m cs 27 ∧ n ≤ wr.heap.size
  refine wpIn_wide.2 (wp_scope_again 0 INV (fun _ wr => leftJ p wr) rfl ?pass ?first)
  case pass =>
    rintro a wrA ⟨⟨u4, u6, u7, u8, u9, u10, u11, u12, u13, u14, u15, u16, u17, u18, u19, u20, u21, u22, u23, u24, u25, u26, u27, u28, u29, u30, u31, u32, u33, u34, u35, u36, u37, u38, u39, u40, u41, u42, u43, u44, u45, u46, rfl⟩, preA, srA, f, cs, hcs, hszA, hf, hrem, hallA, hjA, hbA, hrA, cPA, cEA, cMA, cmA, hnwA⟩
    refine (wpIn_wide (n := 8)).1 ?_
    obtain ⟨f, rfl⟩ : ∃ g, f = g + 1 := ⟨f - 1, by omega⟩
    have hrm0 := hrem.out
    rw [nodes_mem] at hrm0
    have hremA := Lib.hid hrm0
    have zM := cMA.cell 0
    have hlr := leftJ_of hrA
    clear hrm0 hrem
    cases hit : memberJ uqJ srA.data.toList with
    | bad e =>
      have HX := HM.out srA wrA hbA hrA (by omega)
      rw [hit] at HX
      have HX : Hid (Calls Tryz.prog 214 #[.pointer (some ⟨p, 0, none⟩)] wrA fun x w' => wrA.grownBy w' (some p) ∧ (x = .returned (.tuple #[.agg zeroC, errJ e]) ∧ (e = 60 ∨ e = 80)) ∧ ∃ s' d', RdJ w' p s' d' ∧ s'.size ≤ srA.size) := Lib.hid HX
      have hrm := hremA.out
      rw [bindP_bad hit] at hrm
      have HRM := Lib.hid hrm
      clear hit hrm hremA
      have zP := cPA.cell 0
      gi_wp2_with fail
      refine (callsIn_wide.2 HX.out).mono ?_
      rintro x w5 ⟨hg5, ⟨rfl, he⟩, s', d', hr5, hs5⟩
      have hj5 := HJ.out _ _ _ hjA (MvJ.to hg5 hr5 (by omega))
      have cm5 := blk_gb cmA hg5 hmp
      have hj6 := HJ.out _ _ _ hj5 (MvJ.row cm5 (Ne.symm hmp) zeroC)
      have cm6 := blk_row cm5 zeroC
      obtain ⟨fn, tmps, assign, body, hy, hR⟩ := HY.out preA (.no e) wrA (w5.setRow m zeroC) hjA ((MvJ.to hg5 hr5 (by omega)).trans (MvJ.row cm5 (Ne.symm hmp) zeroC)) hj6 ⟨⟨by rw [List.length_append, List.length_singleton]; omega, fun xs x hx => by
        obtain ⟨_, hx⟩ := List.append_inj' hx rfl
        injection hx with hx
        subst hx
        exact ⟨he, s', d', blk_row_other hr5 (Ne.symm hmp) _, by omega⟩⟩, cmA.lt⟩
      have HEND : Hid (∀ W, NodesSp res (preA ++ [.no e]) W) := Lib.hid (fun _ => .inl ⟨preA, e, rfl, HRM.out.symm, he⟩)
      simp only [EvJ.enc] at hy hR
      obtain ⟨ev, hev⟩ : ∃ ev, errJ e = ev := ⟨_, rfl⟩
      rw [hev] at hy ⊢
      have hy : Sem.run Tryz.prog (Instr.yield l #[.agg zeroC, ev]) (w5.setRow m zeroC) = .ok (Next.round l fn tmps assign body) (w5.setRow m zeroC) := hy
      clear hj5 HX hrA cPA cEA cMA cmA hbA hjA hev hr5 hg5 hs5
      gi_wp2_with (first | (refine wpListIn_store_row rfl 27 (.tmp 5) (.tmp 16) rfl m zeroC rfl rfl 27 _ cm5 (by kernel_rfl) (by first | (rw [hcs]; rfl) | rfl) (by simp [Value.oneCell']) ?_) | (refine wpListIn_load_row rfl 27 (.tmp 5) rfl m rfl 27 _ (0, 0) _ cm6 Tryz.underlying27 rfl (by kernel_rfl) ?_))
      refine hR.mono ?_
      rintro e2 w7 (⟨_, hx, _⟩ | ⟨rfl, hx2⟩)
      · exact hx.elim
      · gi_wp2_with fail
        rw [jump_ret]
        refine bodyPost_ret (results_none rfl _ _ _) rfl ?_
        exact ⟨⟨_, rfl⟩, .inr ⟨_, HEND.out _, hx2⟩⟩
    | good t r =>
      have HX := HM.out srA wrA hbA hrA (by omega)
      rw [hit] at HX
      have hil := member_less uqJ_own2 hit
      have hsl : srA.data.toList.length = srA.size := by simp
      have hrm := hremA.out
      rw [bindP_of hit] at hrm
      obtain ⟨⟨kind3, b3, neg3, dg3, ex3, u3, wd3, s3⟩, ho3⟩ : ∃ o, t.own = o := ⟨_, rfl⟩
      unfold ReadJ at HX
      simp only [nodeV] at HX
      have HX : Hid (Calls Tryz.prog 214 #[.pointer (some ⟨p, 0, none⟩)] wrA fun x w' => wrA.grownBy w' (some p) ∧ (∃ A n c, x = .returned (.tuple #[.agg #[.int .i64 t.own.kind, .bool t.own.b, .bool t.own.neg, .string t.own.dg, .int .i64 t.own.ex, .int .u64 t.own.u, .int .i64 t.own.wd, .string t.own.s, .slice A n c], .nilIface]) ∧ LAt w' (fun q => wrA.heap.size ≤ q ∧ q < w'.heap.size) d t.kids (.slice A n c)) ∧ OwnOk t.own ∧ RdJ w' p (bsD r) dp ∧ r.length ≤ srA.size) := Lib.hid HX
      have hHO := HX.out
      clear HX
      have HX := Lib.hid hHO
      clear hHO
      simp only [ho3] at HX
      have HO3 := Lib.hid ho3
      obtain ⟨srK, hrb⟩ : ∃ x, bsD r = x := ⟨_, rfl⟩
      have hrl : r = srK.data.toList := by rw [← hrb]; rfl
      have hrs : srK.size + 1 ≤ srA.size := by rw [← hrb, bsD_size]; omega
      rw [hrb] at HX
      rw [hrl] at hrm
      have hremK := Lib.hid hrm
      clear hit hrm hremA hil hrb ho3
      have zP := cPA.cell 0
      gi_wp2_with fail
      refine (callsIn_wide.2 HX.out).mono ?_
      rintro x w5 ⟨hg5, ⟨A, mm, c, rfl, hly⟩, hot, hr5, _⟩
      have hj5 := HJ.out _ _ _ hjA (MvJ.to hg5 hr5 (by omega))
      have cm5 := blk_gb cmA hg5 hmp
      have hj6 := HJ.out _ _ _ hj5 (MvJ.row cm5 (Ne.symm hmp) #[.int .i64 kind3, .bool b3, .bool neg3, .string dg3, .int .i64 ex3, .int .u64 u3, .int .i64 wd3, .string s3, .slice A mm c])
      have cm6 := blk_row cm5 #[.int .i64 kind3, .bool b3, .bool neg3, .string dg3, .int .i64 ex3, .int .u64 u3, .int .i64 wd3, .string s3, .slice A mm c]
      have hr6 := blk_row_other hr5 (Ne.symm hmp) #[.int .i64 kind3, .bool b3, .bool neg3, .string dg3, .int .i64 ex3, .int .u64 u3, .int .i64 wd3, .string s3, .slice A mm c]
      have cP6 := blk_row_other (blk_gb cPA hg5 hPp) hPm #[.int .i64 kind3, .bool b3, .bool neg3, .string dg3, .int .i64 ex3, .int .u64 u3, .int .i64 wd3, .string s3, .slice A mm c]
      have cE6 := blk_row_other (blk_gb cEA hg5 hEp) hEm #[.int .i64 kind3, .bool b3, .bool neg3, .string dg3, .int .i64 ex3, .int .u64 u3, .int .i64 wd3, .string s3, .slice A mm c]
      have cM6 := blk_row_other (blk_gb cMA hg5 hMp) hMm #[.int .i64 kind3, .bool b3, .bool neg3, .string dg3, .int .i64 ex3, .int .u64 u3, .int .i64 wd3, .string s3, .slice A mm c]
      have hb5 := below_of_grown hbA hp0 hrA.lt hg5
      have hb6 : Below w0.heap.size w0 (w5.setRow m #[.int .i64 kind3, .bool b3, .bool neg3, .string dg3, .int .i64 ex3, .int .u64 u3, .int .i64 wd3, .string s3, .slice A mm c]) := hb5.grown (grown_row _ m _) hb5.size (fun q e => by cases e; omega)
      have hmlt := cmA.lt
      have hnw6 : n ≤ (w5.setRow m #[.int .i64 kind3, .bool b3, .bool neg3, .string dg3, .int .i64 ex3, .int .u64 u3, .int .i64 wd3, .string s3, .slice A mm c]).heap.size := by rw [setRow_size]; exact Nat.le_trans hnwA hg5.size
      obtain ⟨fn, tmps, assign, body, hy, hR⟩ := HY.out preA (.ok t (.slice A mm c)) wrA (w5.setRow m #[.int .i64 kind3, .bool b3, .bool neg3, .string dg3, .int .i64 ex3, .int .u64 u3, .int .i64 wd3, .string s3, .slice A mm c]) hjA ((MvJ.to hg5 hr5 (by omega)).trans (MvJ.row cm5 (Ne.symm hmp) _)) hj6 ⟨⟨by rw [List.length_append, List.length_singleton]; omega, fun xs x hx => by
        obtain ⟨hx1, hx⟩ := List.append_inj' hx rfl
        injection hx with hx
        subst hx
        refine ⟨⟨A, mm, c, rfl⟩, (hly.keep (fun q hq => setRow_other _ _ _ _ (by have := hq.1; omega))).mono (fun q hq => by rw [setRow_size]; exact hq), by rw [HO3.out]; exact hot, ?_⟩
        rw [← hx1]
        omega⟩, hmlt⟩
      have hallK := ok_snoc hallA t (.slice A mm c)
      have hts := treesJ_snoc preA t (.slice A mm c)
      have hlenK : (preA ++ [EvJ.ok t (.slice A mm c)]).length = preA.length + 1 := by simp
      simp only [EvJ.enc, nodeV, HO3.out] at hy
      have HTS := Lib.hid hts
      clear HX hrA cPA cEA cMA cmA hbA hjA hly hts hj5 hr5 hg5 hb5 hrl hj6 hot
      gi_wp2_with (first | (refine wpListIn_store_row rfl 27 (.tmp 5) (.tmp 16) rfl m #[.int .i64 kind3, .bool b3, .bool neg3, .string dg3, .int .i64 ex3, .int .u64 u3, .int .i64 wd3, .string s3, .slice A mm c] rfl rfl 27 _ cm5 (by kernel_rfl) (by first | (rw [hcs]; rfl) | rfl) (by simp [Value.oneCell']) ?_) | (refine wpListIn_load_row rfl 27 (.tmp 5) rfl m rfl 27 _ (0, 0) _ cm6 Tryz.underlying27 rfl (by kernel_rfl) ?_))
      refine hR.mono ?_
      rintro e2 wrK (⟨rfl, _, hjK, hk1, hk2, hk3, hk4, hk5⟩ | ⟨rfl, hx2⟩)
      · have hrK : RdJ wrK p srK dp := (hk1.block p hpn).trans hr6
        have cPK : Blk wrK bP _ _ := (hk2 cP6.lt).trans cP6
        have cEK : Blk wrK bE _ _ := (hk3 cE6.lt).trans cE6
        have cMK : Blk wrK bM _ _ := (hk4 cM6.lt).trans cM6
        have cmK : Blk wrK m _ _ := hk5 _ cm6 rfl
        have hbK := hb6.trans (hk1.mono (Nat.le_trans hp0 (Nat.le_of_lt hpn)))
        have hnwK := Nat.le_trans hnw6 hk1.size
        obtain ⟨preK, hpre⟩ : ∃ x, preA ++ [EvJ.ok t (.slice A mm c)] = x := ⟨_, rfl⟩
        have HPRE := Lib.hid hpre
        rw [hpre] at hjK hallK hlenK HTS
        clear hk1 hk2 hk3 hk4 hk5 hr6 cP6 cE6 cM6 cm6 hb6 hnw6 hpre
        have hrmK := hremK.out
        rw [← HTS.out] at hrmK
        clear hremK
        have hremK := Lib.hid hrmK
        clear hrmK HTS
        cases hit : valueJ uqJ F d srK.data.toList with
        | bad e =>
          have HX := HV.out srK wrK hbK hrK (by omega) (by omega)
          rw [hit] at HX
          have HX : Hid (Calls Tryz.prog 53 #[.pointer (some ⟨p, 0, none⟩)] wrK fun x w' => wrK.grownBy w' (some p) ∧ (x = .returned (.tuple #[.agg zeroC, errJ e]) ∧ (e = 60 ∨ e = 80)) ∧ ∃ s' d', RdJ w' p s' d' ∧ s'.size ≤ srK.size) := Lib.hid HX
          have hrm := hremK.out
          rw [restN] at hrm
          rw [bindP_bad hit] at hrm
          have HRM := Lib.hid hrm
          clear hit hrm hremK
          have zP := cPK.cell 0
          gi_wp2_with fail
          refine (callsIn_wide.2 HX.out).mono ?_
          rintro x w5 ⟨hg5, ⟨rfl, he⟩, s', d', hr5, hs5⟩
          have hj5 := HJ.out _ _ _ hjK (MvJ.to hg5 hr5 (by omega))
          have cm5 := blk_gb cmK hg5 hmp
          have hj6 := HJ.out _ _ _ hj5 (MvJ.row cm5 (Ne.symm hmp) zeroC)
          have cm6 := blk_row cm5 zeroC
          obtain ⟨fn, tmps, assign, body, hy, hR⟩ := HY.out preK (.no e) wrK (w5.setRow m zeroC) hjK ((MvJ.to hg5 hr5 (by omega)).trans (MvJ.row cm5 (Ne.symm hmp) zeroC)) hj6 ⟨⟨by rw [List.length_append, List.length_singleton]; omega, fun xs x hx => by
            obtain ⟨_, hx⟩ := List.append_inj' hx rfl
            injection hx with hx
            subst hx
            exact ⟨he, s', d', blk_row_other hr5 (Ne.symm hmp) _, by omega⟩⟩, cmK.lt⟩
          have HEND : Hid (∀ W, NodesSp res (preK ++ [.no e]) W) := Lib.hid (fun _ => .inl ⟨preK, e, rfl, HRM.out.symm, he⟩)
          simp only [EvJ.enc] at hy hR
          obtain ⟨ev, hev⟩ : ∃ ev, errJ e = ev := ⟨_, rfl⟩
          rw [hev] at hy ⊢
          have hy : Sem.run Tryz.prog (Instr.yield l #[.agg zeroC, ev]) (w5.setRow m zeroC) = .ok (Next.round l fn tmps assign body) (w5.setRow m zeroC) := hy
          clear hj5 HX hrK cPK cEK cMK cmK hbK hjK hev hr5 hg5 hs5
          gi_wp2_with (first | (refine wpListIn_store_row rfl 27 (.tmp 5) (.tmp 26) rfl m zeroC rfl rfl 27 _ cm5 (by kernel_rfl) (by first | (rw [hcs]; rfl) | rfl) (by simp [Value.oneCell']) ?_) | (refine wpListIn_load_row rfl 27 (.tmp 5) rfl m rfl 27 _ (0, 0) _ cm6 Tryz.underlying27 rfl (by kernel_rfl) ?_))
          refine hR.mono ?_
          rintro e2 w7 (⟨_, hx, _⟩ | ⟨rfl, hx2⟩)
          · exact hx.elim
          · gi_wp2_with fail
            rw [jump_ret]
            refine bodyPost_ret (results_none rfl _ _ _) rfl ?_
            exact ⟨⟨_, rfl⟩, .inr ⟨_, HEND.out _, hx2⟩⟩
        | good t r =>
          have HX := HV.out srK wrK hbK hrK (by omega) (by omega)
          rw [hit] at HX
          have hil := value_less uqJ_own2 hit
          have hsl : srK.data.toList.length = srK.size := by simp
          have hrm := hremK.out
          rw [restN] at hrm
          rw [bindP_of hit] at hrm
          obtain ⟨⟨kind3, b3, neg3, dg3, ex3, u3, wd3, s3⟩, ho3⟩ : ∃ o, t.own = o := ⟨_, rfl⟩
          unfold ReadJ at HX
          simp only [nodeV] at HX
          have HX : Hid (Calls Tryz.prog 53 #[.pointer (some ⟨p, 0, none⟩)] wrK fun x w' => wrK.grownBy w' (some p) ∧ (∃ A n c, x = .returned (.tuple #[.agg #[.int .i64 t.own.kind, .bool t.own.b, .bool t.own.neg, .string t.own.dg, .int .i64 t.own.ex, .int .u64 t.own.u, .int .i64 t.own.wd, .string t.own.s, .slice A n c], .nilIface]) ∧ LAt w' (fun q => wrK.heap.size ≤ q ∧ q < w'.heap.size) d t.kids (.slice A n c)) ∧ OwnOk t.own ∧ RdJ w' p (bsD r) dp ∧ r.length ≤ srK.size) := Lib.hid HX
          have hHO := HX.out
          clear HX
          have HX := Lib.hid hHO
          clear hHO
          simp only [ho3] at HX
          have HO3 := Lib.hid ho3
          obtain ⟨srB, hrb⟩ : ∃ x, bsD r = x := ⟨_, rfl⟩
          have hrl : r = srB.data.toList := by rw [← hrb]; rfl
          have hrs : srB.size + 1 ≤ srK.size := by rw [← hrb, bsD_size]; omega
          rw [hrb] at HX
          rw [hrl] at hrm
          have hremB := Lib.hid hrm
          clear hit hrm hremK hil hrb ho3
          have zP := cPK.cell 0
          gi_wp2_with fail
          refine (callsIn_wide.2 HX.out).mono ?_
          rintro x w5 ⟨hg5, ⟨A, mm, c, rfl, hly⟩, hot, hr5, _⟩
          have hj5 := HJ.out _ _ _ hjK (MvJ.to hg5 hr5 (by omega))
          have cm5 := blk_gb cmK hg5 hmp
          have hj6 := HJ.out _ _ _ hj5 (MvJ.row cm5 (Ne.symm hmp) #[.int .i64 kind3, .bool b3, .bool neg3, .string dg3, .int .i64 ex3, .int .u64 u3, .int .i64 wd3, .string s3, .slice A mm c])
          have cm6 := blk_row cm5 #[.int .i64 kind3, .bool b3, .bool neg3, .string dg3, .int .i64 ex3, .int .u64 u3, .int .i64 wd3, .string s3, .slice A mm c]
          have hr6 := blk_row_other hr5 (Ne.symm hmp) #[.int .i64 kind3, .bool b3, .bool neg3, .string dg3, .int .i64 ex3, .int .u64 u3, .int .i64 wd3, .string s3, .slice A mm c]
          have cP6 := blk_row_other (blk_gb cPK hg5 hPp) hPm #[.int .i64 kind3, .bool b3, .bool neg3, .string dg3, .int .i64 ex3, .int .u64 u3, .int .i64 wd3, .string s3, .slice A mm c]
          have cE6 := blk_row_other (blk_gb cEK hg5 hEp) hEm #[.int .i64 kind3, .bool b3, .bool neg3, .string dg3, .int .i64 ex3, .int .u64 u3, .int .i64 wd3, .string s3, .slice A mm c]
          have cM6 := blk_row_other (blk_gb cMK hg5 hMp) hMm #[.int .i64 kind3, .bool b3, .bool neg3, .string dg3, .int .i64 ex3, .int .u64 u3, .int .i64 wd3, .string s3, .slice A mm c]
          have hb5 := below_of_grown hbK hp0 hrK.lt hg5
          have hb6 : Below w0.heap.size w0 (w5.setRow m #[.int .i64 kind3, .bool b3, .bool neg3, .string dg3, .int .i64 ex3, .int .u64 u3, .int .i64 wd3, .string s3, .slice A mm c]) := hb5.grown (grown_row _ m _) hb5.size (fun q e => by cases e; omega)
          have hmlt := cmK.lt
          have hnw6 : n ≤ (w5.setRow m #[.int .i64 kind3, .bool b3, .bool neg3, .string dg3, .int .i64 ex3, .int .u64 u3, .int .i64 wd3, .string s3, .slice A mm c]).heap.size := by rw [setRow_size]; exact Nat.le_trans hnwK hg5.size
          obtain ⟨fn, tmps, assign, body, hy, hR⟩ := HY.out preK (.ok t (.slice A mm c)) wrK (w5.setRow m #[.int .i64 kind3, .bool b3, .bool neg3, .string dg3, .int .i64 ex3, .int .u64 u3, .int .i64 wd3, .string s3, .slice A mm c]) hjK ((MvJ.to hg5 hr5 (by omega)).trans (MvJ.row cm5 (Ne.symm hmp) _)) hj6 ⟨⟨by rw [List.length_append, List.length_singleton]; omega, fun xs x hx => by
            obtain ⟨hx1, hx⟩ := List.append_inj' hx rfl
            injection hx with hx
            subst hx
            refine ⟨⟨A, mm, c, rfl⟩, (hly.keep (fun q hq => setRow_other _ _ _ _ (by have := hq.1; omega))).mono (fun q hq => by rw [setRow_size]; exact hq), by rw [HO3.out]; exact hot, ?_⟩
            rw [← hx1]
            omega⟩, hmlt⟩
          have hallB := ok_snoc hallK t (.slice A mm c)
          have hts := treesJ_snoc preK t (.slice A mm c)
          have hlenB : (preK ++ [EvJ.ok t (.slice A mm c)]).length = preK.length + 1 := by simp
          simp only [EvJ.enc, nodeV, HO3.out] at hy
          have HTS := Lib.hid hts
          clear HX hrK cPK cEK cMK cmK hbK hjK hly hts hj5 hr5 hg5 hb5 hrl hj6 hot
          gi_wp2_with (first | (refine wpListIn_store_row rfl 27 (.tmp 5) (.tmp 26) rfl m #[.int .i64 kind3, .bool b3, .bool neg3, .string dg3, .int .i64 ex3, .int .u64 u3, .int .i64 wd3, .string s3, .slice A mm c] rfl rfl 27 _ cm5 (by kernel_rfl) (by first | (rw [hcs]; rfl) | rfl) (by simp [Value.oneCell']) ?_) | (refine wpListIn_load_row rfl 27 (.tmp 5) rfl m rfl 27 _ (0, 0) _ cm6 Tryz.underlying27 rfl (by kernel_rfl) ?_))
          refine hR.mono ?_
          rintro e2 wrB (⟨rfl, _, hjB, hk1, hk2, hk3, hk4, hk5⟩ | ⟨rfl, hx2⟩)
          · have hrB : RdJ wrB p srB dp := (hk1.block p hpn).trans hr6
            have cPB : Blk wrB bP _ _ := (hk2 cP6.lt).trans cP6
            have cEB : Blk wrB bE _ _ := (hk3 cE6.lt).trans cE6
            have cMB : Blk wrB bM _ _ := (hk4 cM6.lt).trans cM6
            have cmB : Blk wrB m _ _ := hk5 _ cm6 rfl
            have hbB := hb6.trans (hk1.mono (Nat.le_trans hp0 (Nat.le_of_lt hpn)))
            have hnwB := Nat.le_trans hnw6 hk1.size
            obtain ⟨preB, hpre⟩ : ∃ x, preK ++ [EvJ.ok t (.slice A mm c)] = x := ⟨_, rfl⟩
            have HPRE := Lib.hid hpre
            rw [hpre] at hjB hallB hlenB HTS
            clear hk1 hk2 hk3 hk4 hk5 hr6 cP6 cE6 cM6 cm6 hb6 hnw6 hpre
            have hlB := spJ_len srB.data.toList
            have hslB : srB.data.toList.length = srB.size := by simp
            have hrmB := hremB.out
            rw [nextJ_take en hen, ← HTS.out] at hrmB
            have hremC := Lib.hid hrmB
            clear hremB hrmB
            have zP := cPB.cell 0
            gi_wp2_with fail
            refine (callsIn_wide.2 (HS.out srB wrB hrB (by omega))).mono ?_
            rintro x w8 ⟨⟨v8, rfl⟩, hg8, hr8⟩
            have hj8 := HJ.out _ _ _ hjB (MvJ.to hg8 hr8 (by rw [bsD_size]; omega))
            have hb8 := below_of_grown hbB hp0 hrB.lt hg8
            have cP8 := blk_gb cPB hg8 hPp
            have cE8 := blk_gb cEB hg8 hEp
            have cM8 := blk_gb cMB hg8 hMp
            have cm8 := blk_gb cmB hg8 hmp
            have hnw8 := Nat.le_trans hnwB hg8.size
            clear hjB hbB hrB cPB cEB cMB cmB hnwB

            have zP := cP8.cell 0
            have zE := cE8.cell 0
            have HEC := HE.out (bsD (spJ srB.data.toList)) w8 hr8
            rw [bsD_list] at HEC
            have hl9 := takeJ_len [en] (spJ srB.data.toList)
            have hno := takeJ_no [en] (spJ srB.data.toList)
            obtain ⟨⟨b9, r9⟩, hx9⟩ : ∃ x, takeJ [en] (spJ srB.data.toList) = x := ⟨_, rfl⟩
            have hrm9 := hremC.out
            rw [hx9] at HEC hl9 hrm9 hno
            simp only [] at HEC hl9 hrm9 hno
            have HEC := Lib.hid HEC
            have HRM9 := Lib.hid hrm9
            clear hremC hrm9 hx9
            cases b9 with
            | true =>
              have hq : res = .good (treesJ preB) r9 := by
                rw [← HRM9.out, if_pos rfl]
              have HQ := Lib.hid hq
              clear hq HRM9 hno
              gi_wp2_with fail
              refine (callsIn_wide.2 HEC.out).mono ?_
              rintro x w9 ⟨rfl, hg9, hr9⟩
              have hj9 := HJ.out _ _ _ hj8 (MvJ.to hg9 hr9 (by rw [bsD_size]; omega))
              gi_wp2_with fail
              rw [jump_ret]
              refine bodyPost_ret (results_none rfl _ _ _) rfl ?_
              exact ⟨⟨_, rfl⟩, .inl ⟨preB, ⟨hallB, r9, HQ.out, hr9, by omega⟩, hj9⟩⟩
            | false =>
              obtain rfl := hno rfl
              clear hno
              gi_wp2_with fail
              refine (callsIn_wide.2 HEC.out).mono ?_
              rintro x w9 ⟨rfl, hg9, hr9⟩
              have hj9 := HJ.out _ _ _ hj8 (MvJ.to hg9 hr9 (by rw [bsD_size]; omega))
              have hb9 := below_of_grown hb8 hp0 hr8.lt hg9
              have cP9 := blk_gb cP8 hg9 hPp
              have cE9 := blk_gb cE8 hg9 hEp
              have cM9 := blk_gb cM8 hg9 hMp
              have cm9 := blk_gb cm8 hg9 hmp
              have hnw9 := Nat.le_trans hnw8 hg9.size
              clear hj8 hb8 hr8 cP8 cE8 cM8 cm8 hnw8

              have zP := cP9.cell 0
              have HCC := HC.out (bsD (spJ srB.data.toList)) w9 hr9
              rw [bsD_list] at HCC
              have hl10 := takeJ_len [44] (spJ srB.data.toList)
              have hrm9 := HRM9.out
              rw [if_neg (by decide)] at hrm9
              obtain ⟨⟨b10, r10⟩, hx10⟩ : ∃ x, takeJ [44] (spJ srB.data.toList) = x := ⟨_, rfl⟩
              rw [hx10] at HCC hl10 hrm9
              simp only [] at HCC hl10 hrm9
              have HCC := Lib.hid HCC
              have HRMX := Lib.hid hrm9
              clear hrm9 hx10 HRM9
              cases b10 with
              | false =>
                have hq : res = .bad 80 := by
                  rw [← HRMX.out, if_neg (by decide)]
                have HEND : Hid (∀ W, NodesSp res (preB ++ [.no 80]) W) := Lib.hid (fun _ => .inl ⟨preB, 80, rfl, hq, .inr rfl⟩)
                clear hq HRMX
                gi_wp2_with fail
                refine (callsIn_wide.2 HCC.out).mono ?_
                rintro x w10 ⟨rfl, hg10, hr10⟩
                have hj10 := HJ.out _ _ _ hj9 (MvJ.to hg10 hr10 (by rw [bsD_size]; omega))
                have hb10 := below_of_grown hb9 hp0 hr9.lt hg10
                have cP10 := blk_gb cP9 hg10 hPp
                have cE10 := blk_gb cE9 hg10 hEp
                have cM10 := blk_gb cM9 hg10 hMp
                have cm10 := blk_gb cm9 hg10 hmp
                have hnw10 := Nat.le_trans hnw9 hg10.size
                clear hj9 hb9 hr9 cP9 cE9 cM9 cm9 hnw9

                obtain ⟨fn, tmps, assign, body, hy, hR⟩ := HY.out preB (.no 80) w10 w10 hj10 (.of_below (Below.refl _ _)) hj10 ⟨⟨by rw [List.length_append, List.length_singleton]; omega, fun xs x hx => by
                  obtain ⟨_, hx⟩ := List.append_inj' hx rfl
                  injection hx with hx
                  subst hx
                  exact ⟨.inr rfl, _, dp, hr10, by rw [bsD_size]; omega⟩⟩, cm10.lt⟩
                simp only [EvJ.enc] at hy hR
                obtain ⟨ev, hev⟩ : ∃ ev, errJ 80 = ev := ⟨_, rfl⟩
                have HB : Hid (∀ w, Calls Tryz.prog 54 #[] w fun x w' => x = .returned ev ∧ w' = w) := Lib.hid (fun w => by rw [← hev]; exact jr_bad w)
                rw [hev] at hy
                have hy : Sem.run Tryz.prog (Instr.yield l #[.agg zeroC, ev]) w10 = .ok (Next.round l fn tmps assign body) w10 := hy
                clear hev hj10 hr10 hb10 cP10 cE10 cM10 cm10
                gi_wp2_with fail
                refine (callsIn_wide.2 (HB.out _)).mono ?_
                rintro x w11 ⟨rfl, rfl⟩
                gi_wp2_with fail
                refine hR.mono ?_
                rintro e2 w12 (⟨_, hx, _⟩ | ⟨rfl, hx2⟩)
                · exact hx.elim
                · gi_wp2_with fail
                  rw [jump_ret]
                  refine bodyPost_ret (results_none rfl _ _ _) rfl ?_
                  exact ⟨⟨_, rfl⟩, .inr ⟨_, HEND.out _, hx2⟩⟩
              | true =>
                have hl11 := spJ_len r10
                gi_wp2_with fail
                refine (callsIn_wide.2 HCC.out).mono ?_
                rintro x w10 ⟨rfl, hg10, hr10⟩
                have hj10 := HJ.out _ _ _ hj9 (MvJ.to hg10 hr10 (by rw [bsD_size]; omega))
                have hb10 := below_of_grown hb9 hp0 hr9.lt hg10
                have cP10 := blk_gb cP9 hg10 hPp
                have cE10 := blk_gb cE9 hg10 hEp
                have cM10 := blk_gb cM9 hg10 hMp
                have cm10 := blk_gb cm9 hg10 hmp
                have hnw10 := Nat.le_trans hnw9 hg10.size
                clear hj9 hb9 hr9 cP9 cE9 cM9 cm9 hnw9

                have zP := cP10.cell 0
                gi_wp2_with fail
                refine (callsIn_wide.2 (HS.out (bsD r10) w10 hr10 (by rw [bsD_size]; omega))).mono ?_
                rintro x w11 ⟨⟨v11, rfl⟩, hg11, hr11⟩
                rw [bsD_list] at hr11
                have hj11 := HJ.out _ _ _ hj10 (MvJ.to hg11 hr11 (by rw [bsD_size]; omega))
                have hb11 := below_of_grown hb10 hp0 hr10.lt hg11
                have cP11 := blk_gb cP10 hg11 hPp
                have cE11 := blk_gb cE10 hg11 hEp
                have cM11 := blk_gb cM10 hg11 hMp
                have cm11 := blk_gb cm10 hg11 hmp
                have hnw11 := Nat.le_trans hnw10 hg11.size
                clear hj10 hb10 hr10 cP10 cE10 cM10 cm10 hnw10

                have hrem11 : Hid (nodesJ uqJ (valueJ uqJ F d) true en f (treesJ preB) (bsD (spJ r10)).data.toList = res) := Lib.hid (by rw [bsD_list, ← HRMX.out]; exact (if_pos trivial).symm)
                clear HRMX HTS
                gi_wp2_with fail
                refine wpIn_goto ?_
                simp +zetaDelta only [jump_goto]
                refine ⟨⟨⟨_, _, _, _, _, _, _, _, _, _, _, _, _, _, _, _, _, _, _, _, _, _, _, _, _, _, _, _, _, _, _, _, _, _, _, _, _, _, _, _, _, _, rfl⟩, preB, bsD (spJ r10), f, _, by simp, by rw [bsD_size]; omega, by rw [bsD_size]; omega, hrem11, hallB, hj11, hb11, hr11, cP11, cE11, cM11, cm11, hnw11⟩, ?_⟩
                rw [leftJ_of hr11, hlr, bsD_size]
                omega
          · gi_wp2_with fail
            rw [jump_ret]
            refine bodyPost_ret (results_none rfl _ _ _) rfl ?_
            exact ⟨⟨_, rfl⟩, .inr ⟨_, .inr hallB, hx2⟩⟩
      · gi_wp2_with fail
        rw [jump_ret]
        refine bodyPost_ret (results_none rfl _ _ _) rfl ?_
        exact ⟨⟨_, rfl⟩, .inr ⟨_, .inr hallK, hx2⟩⟩
  case first =>
    intro again
    have HAG := Lib.hid again
    clear again
    refine (wpIn_wide (n := 8)).1 ?_
    have hj1 := HJ.out _ _ _ h0 (MvJ.of_below ((Below.refl _ W).alloc (Nat.le_refl _) (.cells zeroC 27)))
    have hb1 := hb0.alloc hb0.size (.cells zeroC 27)
    have hr1 := hr0.alloc (.cells zeroC 27)
    have cP1 := cP0.alloc (.cells zeroC 27)
    have cE1 := cE0.alloc (.cells zeroC 27)
    have cM1 := cM0.alloc (.cells zeroC 27)
    have cm1 : Blk (W.alloc (.cells zeroC 27)) m zeroC 27 := by rw [← hsz]; exact Blk.new _ _ _
    have hnw1 : n ≤ (W.alloc (.cells zeroC 27)).heap.size := Nat.le_trans hn0 (by simp)
    have hl1 := spJ_len s0.data.toList
    have hsl : s0.data.toList.length = s0.size := by simp
    have zP := cP1.cell 0
    gi_wp2_with fail
    refine (callsIn_wide.2 (HS.out s0 _ hr1 (by omega))).mono ?_
    rintro x w2 ⟨⟨v2, rfl⟩, hg2, hr2⟩
    have hj2 := HJ.out _ _ _ hj1 (MvJ.to hg2 hr2 (by rw [bsD_size]; omega))
    have hb2 := below_of_grown hb1 hp0 hr1.lt hg2
    have cP2 := blk_gb cP1 hg2 hPp
    have cE2 := blk_gb cE1 hg2 hEp
    have cM2 := blk_gb cM1 hg2 hMp
    have cm2 := blk_gb cm1 hg2 hmp
    have hnw2 := Nat.le_trans hnw1 hg2.size
    clear hj1 hb1 hr1 cP1 cE1 cM1 cm1 hnw1

    clear h0 hb0 hr0 cP0 cE0 cM0
    have zP := cP2.cell 0
    have zE := cE2.cell 0
    have HEC := HE.out (bsD (spJ s0.data.toList)) w2 hr2
    rw [bsD_list] at HEC
    have hl3 := takeJ_len [en] (spJ s0.data.toList)
    have hno := takeJ_no [en] (spJ s0.data.toList)
    obtain ⟨⟨b3, r3⟩, hx3⟩ : ∃ x, takeJ [en] (spJ s0.data.toList) = x := ⟨_, rfl⟩
    have hrm3 := HLT.out
    rw [hx3] at HEC hl3 hrm3 hno
    simp only [] at HEC hl3 hrm3 hno
    have HEC := Lib.hid HEC
    have HRM3 := Lib.hid hrm3
    clear hrm3 hx3 HLT
    cases b3 with
    | true =>
      have hq : res = .good (treesJ []) r3 := by
        rw [HRM3.out]
        exact if_pos rfl
      have HQ := Lib.hid hq
      clear hq HRM3 hno
      gi_wp2_with fail
      refine (callsIn_wide.2 HEC.out).mono ?_
      rintro x w9 ⟨rfl, hg9, hr9⟩
      have hj9 := HJ.out _ _ _ hj2 (MvJ.to hg9 hr9 (by rw [bsD_size]; omega))
      gi_wp2_with fail
      rw [jump_ret]
      refine bodyPost_ret (results_none rfl _ _ _) rfl ?_
      exact ⟨⟨_, rfl⟩, .inl ⟨[], ⟨by simp, r3, HQ.out, hr9, by omega⟩, hj9⟩⟩
    | false =>
      obtain rfl := hno rfl
      clear hno
      gi_wp2_with fail
      refine (callsIn_wide.2 HEC.out).mono ?_
      rintro x w9 ⟨rfl, hg9, hr9⟩
      have hj9 := HJ.out _ _ _ hj2 (MvJ.to hg9 hr9 (by rw [bsD_size]; omega))
      have hb9 := below_of_grown hb2 hp0 hr2.lt hg9
      have cP9 := blk_gb cP2 hg9 hPp
      have cE9 := blk_gb cE2 hg9 hEp
      have cM9 := blk_gb cM2 hg9 hMp
      have cm9 := blk_gb cm2 hg9 hmp
      have hnw9 := Nat.le_trans hnw2 hg9.size
      clear hj2 hb2 hr2 cP2 cE2 cM2 cm2 hnw2

      have hrem9 : Hid (nodesJ uqJ (valueJ uqJ F d) true en F (treesJ []) (bsD (spJ s0.data.toList)).data.toList = res) := Lib.hid (by rw [bsD_list, HRM3.out]; exact (if_neg (by decide)).symm)
      gi_wp2_with fail
      refine wpIn_label ?_
      refine (‹∀ (a : Act) (w : World), Code.wpIn _ _ _ _ _ a w → _›) _ _ ((wpIn_wide (n := 8)).2 (HAG.out _ _ ⟨⟨_, _, _, _, _, _, _, _, _, _, _, _, _, _, _, _, _, _, _, _, _, _, _, _, _, _, _, _, _, _, _, _, _, _, _, _, _, _, _, _, _, _, rfl⟩, [], bsD (spJ s0.data.toList), F, _, by simp, by rw [bsD_size]; simp; omega, by rw [bsD_size]; omega, hrem9, by simp, hj9, hb9, hr9, cP9, cE9, cM9, cm9, hnw9⟩))
end Go.Proofs.YtfckekaegjjmkaaGreatDoor
