/- The texts JwF, JwG, JwS, JwTP, put together. -/
import Derived.Test.YtfckekaegjjmkaaGreatDoorPh45
import Derived.Test.YtfckekaegjjmkaaGreatDoorPh22
import Derived.Test.YtfckekaegjjmkaaGreatDoorPh41
import Derived.Test.YtfckekaegjjmkaaGreatDoorPh44
import Derived.Test.YtfckekaegjjmkaaGreatDoorPh02
namespace Go.Proofs.YtfckekaegjjmkaaGreatDoor
open Go.RowKit Go.Shelf

theorem fitL_memJ {f:Int} {fl:Own → Bool}:∀ {l:List Tr} {t:Tr},fitL f fl l=true → t ∈ l → fitT f fl t=true
 | [],_,_,h=>absurd h (by simp)
 | s :: l,t,h,hm=>by
  rw [fitL,Bool.and_eq_true] at h
  rcases List.mem_cons.1 hm with rfl | hm
  ·exact h.1
  ·exact fitL_memJ h.2 hm
theorem okJL_of:∀ {l:List Tr},(∀ t ∈ l,okJ t) → okJL l
 | [],_=>by
  rw [okJL]
  trivial
 | t :: l,h=>by
  rw [okJL]
  exact ⟨h t (by simp),okJL_of (fun s hs=>h s (by simp [hs]))⟩
theorem okJ_of (t:Tr):allB t=true → fitT 1 flJ t=true → okJ t:=
 Tr.rec (motive_1:=fun t=>allB t=true → fitT 1 flJ t=true → okJ t) (motive_2:=fun l=>∀ t ∈ l,allB t=true → fitT 1 flJ t=true → okJ t)
  (fun o l ih ha hf=>by
   rw [allB,Bool.and_eq_true] at ha
   rw [fitT,Bool.and_eq_true] at hf
   rw [okJ]
   exact ⟨shapeJ_of ha.1 hf.1,okJL_of (fun s hs=>ih s hs (allL_memJ ha.2 hs) (fitL_memJ hf.2 hs))⟩)
  (fun _ h=>absurd h (by simp))
  (fun _ _ h1 h2 s hs=>(List.mem_cons.1 hs).elim (fun e=>by rw [e]; exact h1) (h2 s)) t
theorem checkJ_ok {f:Int} {fl:Own → Bool} {t:Tr} (h:checkT f fl t=0):t.count ≤ 300 ∧ t.depth ≤ 16 ∧ allB t=true ∧ fitT f fl t=true:=by
 unfold checkT at h
 split at h
 ·rename_i hr
  split at h
  ·rename_i hf
   unfold rightT at hr
   simp only [Bool.and_eq_true,decide_eq_true_iff] at hr
   exact ⟨hr.1,hr.2.1,hr.2.2,hf⟩
  ·cases h
 ·cases h
theorem lineL_len (p:Bool) (k:Nat):(lineL p k).length ≤ 1 + 2 * k:=by
 unfold lineL
 split
 ·rw [List.length_cons,List.length_replicate]
  omega
 ·exact Nat.zero_le _
theorem gapL_len (p:Bool):(gapL p).length ≤ 1:=by cases p <;> decide
mutual
theorem jsT_bound (p:Bool):∀ (t:Tr) (k:Nat),okJ t → allB t=true → k + t.depth ≤ 100 → (jsT quoteL p k t).length + 300 ≤ 3000 * t.count
 | .nd o l,k,hok,ha,hk=>by
  rw [okJ] at hok
  rw [allB,Bool.and_eq_true] at ha
  have hd:=depth_node (.nd o l)
  have hd:(Tr.nd o l).depth=1 + depthL l:=hd
  have hA:=jsA_bound p l (k + 1) true hok.2 ha.2 (by omega)
  have hM:=jsM_bound p l (k + 1) true hok.2 ha.2 (by omega)
  have hl:=lineL_len p k
  rw [Tr.count]
  rcases hok.1 with ⟨h,_⟩ | ⟨h,_⟩ | ⟨h,hdk,_⟩ | ⟨h,_,_⟩ | ⟨h⟩ | ⟨h,_,_⟩
  all_goals (have hkk:=congrArg Own.kind h; simp only [] at hkk)
  ·rw [jsT,if_pos hkk]
   show 4 + 300 ≤ _
   omega
  ·rw [jsT,if_neg (by omega),if_pos hkk]
   split
   ·show 4 + 300 ≤ _
    omega
   ·show 5 + 300 ≤ _
    omega
  ·have hf:=fmtD_len hdk
   rw [jsT,if_neg (by omega),if_neg (by omega),if_pos hkk]
   omega
  ·have hs:=ownB_text ha.1 hkk
   have hq:=quoteL_len o.s.data.toList
   have e:o.s.data.toList.length=o.s.size:=by simp
   rw [jsT,if_neg (by omega),if_neg (by omega),if_neg (by omega),if_pos hkk]
   omega
  ·rw [jsT,if_neg (by omega),if_neg (by omega),if_neg (by omega),if_neg (by omega),if_pos hkk,List.length_cons,List.length_append]
   show _ + 1 + 1 + 300 ≤ _
   split
   ·show 0 + 1 + 1 + 300 ≤ _
    omega
   ·rw [List.length_append]
    omega
  ·rw [jsT,if_neg (by omega),if_neg (by omega),if_neg (by omega),if_neg (by omega),if_neg (by omega),if_pos hkk,List.length_cons,List.length_append]
   show _ + 1 + 1 + 300 ≤ _
   split
   ·show 0 + 1 + 1 + 300 ≤ _
    omega
   ·rw [List.length_append]
    omega
theorem jsA_bound (p:Bool):∀ (l:List Tr) (k:Nat) (b:Bool),okJL l → allL l=true → k + depthL l ≤ 100 → (jsA quoteL p k b l).length ≤ 3000 * countL l
 | [],k,b,_,_,_=>by
  rw [jsA]
  exact Nat.zero_le _
 | t :: l,k,b,hok,ha,hk=>by
  rw [okJL] at hok
  rw [allL,Bool.and_eq_true] at ha
  rw [depthL] at hk
  have h1:=jsT_bound p t k hok.1 ha.1 (by omega)
  have h2:=jsA_bound p l k false hok.2 ha.2 (by omega)
  have hl:=lineL_len p k
  have hb:(if b=true then ([]:List UInt8) else [44]).length ≤ 1:=by split <;> decide
  rw [jsA,countL]
  simp only [List.length_append]
  omega
theorem jsM_bound (p:Bool):∀ (l:List Tr) (k:Nat) (b:Bool),okJL l → allL l=true → k + depthL l ≤ 100 → (jsM quoteL p k b l).length ≤ 3000 * countL l
 | [],k,b,_,_,_=>by
  rw [jsM]
  exact Nat.zero_le _
 | [_],k,b,_,_,_=>by
  rw [jsM]
  exact Nat.zero_le _
 | a :: t :: l,k,b,hok,ha,hk=>by
  rw [okJL,okJL] at hok
  rw [allL,allL,Bool.and_eq_true,Bool.and_eq_true] at ha
  rw [depthL,depthL] at hk
  have h0:=jsT_bound p a k hok.1 ha.1 (by omega)
  have h1:=jsT_bound p t k hok.2.1 ha.2.1 (by omega)
  have h2:=jsM_bound p l k false hok.2.2 ha.2.2 (by omega)
  have hl:=lineL_len p k
  have hg:=gapL_len p
  have hb:(if b=true then ([]:List UInt8) else [44]).length ≤ 1:=by split <;> decide
  rw [jsM,countL,countL]
  simp only [List.length_append,List.length_cons]
  omega
end
def wroteJ (pr:Bool) (t:Tr) (e:Int):ByteArray:=if e=0 then ⟨(jsT quoteL pr 0 t).toArray⟩ else ⟨#[]⟩
theorem jsT_ne (pr:Bool) (k:Nat) {t:Tr} (h:okJ t):jsT quoteL pr k t ≠ []:=fun e=>by
 obtain ⟨c,r,h1,_⟩:=jsT_beg (Q:=quoteL) quoteL_beg pr k t h
 rw [e] at h1
 cases h1
theorem built_writer (pr:Bool) (w:World):(Instr.build 83 #[(1,.bool pr)]).run Tryz.prog w=.ok (.agg #[.pointer none,.slice none 0 0,.bool pr,.int .i64 0]) w:=run_build w _ _ _ (by kernel_rfl)

set_option maxHeartbeats 4000000 in
set_option maxRecDepth 100000 in
theorem j_written (pr:Bool) (t:Tr) (x:Value) (w:World) (B d:Nat) (aT aF:Addr) (hl:ListAt w B d t.kids x) (ho:OwnOk t.own) (hB:B ≤ w.heap.size) (hc:t.count ≤ 1000000000) (h:SW w aT aF) :
  Calls Tryz.prog 36 #[nodeV t.own x,.bool pr] w fun e w'=>e=.returned (.tuple #[.string (wroteJ pr t (checkT 1 flJ t)),.int .i64 (checkT 1 flJ t)]) ∧ Below w.heap.size w w':=by
 have hb1:Below w.heap.size w (w.alloc (.cells (cellsV t.own x) 27)):=(Below.refl _ _).alloc (Nat.le_refl _) _
 have hk1:=Blk.new w (cellsV t.own x) 27
 have HC:=Lib.hid (tree_Check 1 flJ (fits_at_J aT aF) t x _ B d (hl.below hb1 hB) ho (Nat.le_trans hB hb1.size) hc (h.g.below hb1))
 have HCC:=Lib.hid (check_cases 1 flJ t)
 obtain ⟨_,A,c,rfl⟩:=hl.slice
 obtain ⟨n,hn⟩:∃ n,t.kids.length=n:=⟨_,rfl⟩
 rw [hn] at hl hk1 hb1 HC ⊢
 have HW:=Lib.hid (fun (W:World) (hW:Below w.heap.size w W) (h0:checkT 1 flJ t=0)=>j_write t (lists_J t.kids).1 (lists_J t.kids).2 B w.heap.size W.heap.size d pr 0 [] A n c w (W.alloc (.cells #[.pointer none,.slice none 0 0,.bool pr,.int .i64 0] 83)) aT aF hl hB (Nat.le_refl _) (hW.alloc hW.size _)
  (.inl ⟨hW.size,.slice none 0 0,Blk.new _ _ _,World.ownsRowF_nil _ _ _ _,by simp [Value.ownBlock]⟩) h (okJ_of t (checkJ_ok h0).2.2.1 (checkJ_ok h0).2.2.2) (checkJ_ok h0).2.2.1 (by
   have hk:=checkJ_ok h0
   have:=jsT_bound pr t 0 (okJ_of t hk.2.2.1 hk.2.2.2) hk.2.2.1 (by omega)
   show 0 + _ ≤ _
   omega) hn hc (by have:=checkJ_ok h0; omega))
 have HS:=Lib.hid (fun (W W2:World) (h2:JP w.heap.size W.heap.size pr ((0:Nat):Int) ([] ++ jsT quoteL pr 0 t) W2 W2) (h0:checkT 1 flJ t=0)=>jb_String w.heap.size W.heap.size pr ((0:Nat):Int) (jsT quoteL pr 0 t) W2 h2.is (jsT_ne pr 0 (okJ_of t (checkJ_ok h0).2.2.1 (checkJ_ok h0).2.2.2)))
 unfold wroteJ
 obtain ⟨ct,hct⟩:∃ ct,jsT quoteL pr 0 t=ct:=⟨_,rfl⟩
 obtain ⟨ck,hck⟩:∃ ck,checkT 1 flJ t=ck:=⟨_,rfl⟩
 rw [hck] at HC HCC ⊢
 simp only [hct,hck] at HW HS
 rw [hct]
 have HBW:=Lib.hid (fun w=>built_writer pr w)
 have hbw:=built_writer pr
 clear hl ho hB hc h hct hck hn HBW
 obtain ⟨⟨kind,b,neg,dg,ex,u,wd,s⟩,ho'⟩:∃ o,t.own=o:=⟨_,rfl⟩
 simp only [ho'] at HC HW hk1 hb1
 rw [ho']
 unfold nodeV at HC HW ⊢
 unfold cellsV at HC hk1 hb1
 simp only [] at HC HW hk1 hb1 ⊢
 have z0:=hk1.cell 0
 have z1:=hk1.cell 1
 have z2:=hk1.cell 2
 have z3:=hk1.cell 3
 have z4:=hk1.cell 4
 have z5:=hk1.cell 5
 have z6:=hk1.cell 6
 have z7:=hk1.cell 7
 have z8:=hk1.cell 8
 clear ho'
 go_enter Tryz.func36,Tryz.ntmps36
 go_wp2_with fail
 refine HC.out.mono ?_
 rintro e w2 ⟨rfl,hb⟩
 have hb2:=hb1.trans (hb.mono hb1.size)
 have hk2:=hk1.below hb hk1.lt
 clear z0 z1 z2 z3 z4 z5 z6 z7 z8 hb hk1 hb1 HC
 by_cases h0:ck=0
 ·have HW2:=Lib.hid (HW.out w2 hb2 h0)
  have HS2:=Lib.hid (fun W2 h2=>HS.out w2 W2 h2 h0)
  have HB2:=Lib.hid hb2
  have hk3:=hk2.alloc (.cells #[.pointer none,.slice none 0 0,.bool pr,.int .i64 0] 83)
  subst h0
  have z0:=hk3.cell 0
  have z1:=hk3.cell 1
  have z2:=hk3.cell 2
  have z3:=hk3.cell 3
  have z4:=hk3.cell 4
  have z5:=hk3.cell 5
  have z6:=hk3.cell 6
  have z7:=hk3.cell 7
  have z8:=hk3.cell 8
  clear HW HS hb2 hk2 hk3
  go_wp2_with fail
  refine HW2.out.mono ?_
  rintro e w3 ⟨rfl,h3⟩
  have HS3:=Lib.hid (HS2.out w3 ⟨h3.is,Below.refl _ _,Lib.OthersKept.refl _ _ _⟩)
  have HB3:=Lib.hid ((HB2.out.alloc HB2.out.size (.cells #[.pointer none,.slice none 0 0,.bool pr,.int .i64 0] 83)).trans h3.below)
  clear z0 z1 z2 z3 z4 z5 z6 z7 z8 HW2 HB2 HS2 h3
  go_wp2_with fail
  refine HS3.out.mono ?_
  rintro e w4 ⟨rfl,h4⟩
  have hb5:=HB3.out.trans h4
  clear HS3 h4
  go_wp2_with fail
  refine bodyPost_ret (v:=.tuple #[.string ⟨ct.toArray⟩,.int .i64 0]) (by simp [results,Tryz.results36,go_sem]) rfl ⟨by simp,hb5⟩
 ·have y1:¬ ck=0:=h0
  clear HW HS
  go_wp2_with fail
  refine bodyPost_ret (v:=.tuple #[.string ⟨#[]⟩,.int .i64 ck]) (by simp [results,Tryz.results36,go_sem]) rfl ⟨rfl,hb2⟩
end Go.Proofs.YtfckekaegjjmkaaGreatDoor
namespace Go.Proofs.YtfckekaegjjmkaaGreatDoor
open Go.RowKit Go.Shelf

set_option maxHeartbeats 4000000 in
set_option maxRecDepth 100000 in
theorem jw_Write (t:Tr) (x:Value) (w:World) (B d:Nat) (aT aF:Addr) (hl:ListAt w B d t.kids x) (ho:OwnOk t.own) (hB:B ≤ w.heap.size) (hc:t.count ≤ 1000000000) (h:SW w aT aF) :
  Calls Tryz.prog 16 #[nodeV t.own x] w fun e w'=>e=.returned (.tuple #[.string (wroteJ false t (checkT 1 flJ t)),.int .i64 (checkT 1 flJ t)]) ∧ Below w.heap.size w w':=by
 have hb1:Below w.heap.size w (w.alloc (.cells (cellsV t.own x) 27)):=(Below.refl _ _).alloc (Nat.le_refl _) _
 have hk1:=Blk.new w (cellsV t.own x) 27
 have HC:=Lib.hid (j_written false t x _ B d aT aF (hl.below hb1 hB) ho (Nat.le_trans hB hb1.size) hc (h.below hb1))
 obtain ⟨r,hr⟩:∃ r,wroteJ false t (checkT 1 flJ t)=r:=⟨_,rfl⟩
 obtain ⟨ck,hck⟩:∃ ck,checkT 1 flJ t=ck:=⟨_,rfl⟩
 rw [hr,hck] at HC ⊢
 clear hl ho hB hc h hr hck
 obtain ⟨⟨kind,b,neg,dg,ex,u,wd,s⟩,ho'⟩:∃ o,t.own=o:=⟨_,rfl⟩
 simp only [ho'] at HC hk1 hb1
 rw [ho']
 unfold nodeV at HC ⊢
 unfold cellsV at HC hk1 hb1
 simp only [] at HC hk1 hb1 ⊢
 have z0:=hk1.cell 0
 have z1:=hk1.cell 1
 have z2:=hk1.cell 2
 have z3:=hk1.cell 3
 have z4:=hk1.cell 4
 have z5:=hk1.cell 5
 have z6:=hk1.cell 6
 have z7:=hk1.cell 7
 have z8:=hk1.cell 8
 clear ho' hk1
 go_enter Tryz.func16,Tryz.ntmps16
 go_wp2_with fail
 refine HC.out.mono ?_
 rintro e w2 ⟨rfl,hb⟩
 have hb2:=hb1.trans (hb.mono hb1.size)
 clear z0 z1 z2 z3 z4 z5 z6 z7 z8 hb hb1 HC
 go_wp2_with fail
 refine bodyPost_ret (v:=.tuple #[.string r,.int .i64 ck]) (by simp [results,Tryz.results16,go_sem]) rfl ⟨rfl,hb2⟩

set_option maxHeartbeats 4000000 in
set_option maxRecDepth 100000 in
theorem jw_Pretty (t:Tr) (x:Value) (w:World) (B d:Nat) (aT aF:Addr) (hl:ListAt w B d t.kids x) (ho:OwnOk t.own) (hB:B ≤ w.heap.size) (hc:t.count ≤ 1000000000) (h:SW w aT aF) :
  Calls Tryz.prog 21 #[nodeV t.own x] w fun e w'=>e=.returned (.tuple #[.string (wroteJ true t (checkT 1 flJ t)),.int .i64 (checkT 1 flJ t)]) ∧ Below w.heap.size w w':=by
 have hb1:Below w.heap.size w (w.alloc (.cells (cellsV t.own x) 27)):=(Below.refl _ _).alloc (Nat.le_refl _) _
 have hk1:=Blk.new w (cellsV t.own x) 27
 have HC:=Lib.hid (j_written true t x _ B d aT aF (hl.below hb1 hB) ho (Nat.le_trans hB hb1.size) hc (h.below hb1))
 obtain ⟨r,hr⟩:∃ r,wroteJ true t (checkT 1 flJ t)=r:=⟨_,rfl⟩
 obtain ⟨ck,hck⟩:∃ ck,checkT 1 flJ t=ck:=⟨_,rfl⟩
 rw [hr,hck] at HC ⊢
 clear hl ho hB hc h hr hck
 obtain ⟨⟨kind,b,neg,dg,ex,u,wd,s⟩,ho'⟩:∃ o,t.own=o:=⟨_,rfl⟩
 simp only [ho'] at HC hk1 hb1
 rw [ho']
 unfold nodeV at HC ⊢
 unfold cellsV at HC hk1 hb1
 simp only [] at HC hk1 hb1 ⊢
 have z0:=hk1.cell 0
 have z1:=hk1.cell 1
 have z2:=hk1.cell 2
 have z3:=hk1.cell 3
 have z4:=hk1.cell 4
 have z5:=hk1.cell 5
 have z6:=hk1.cell 6
 have z7:=hk1.cell 7
 have z8:=hk1.cell 8
 clear ho' hk1
 go_enter Tryz.func21,Tryz.ntmps21
 go_wp2_with fail
 refine HC.out.mono ?_
 rintro e w2 ⟨rfl,hb⟩
 have hb2:=hb1.trans (hb.mono hb1.size)
 clear z0 z1 z2 z3 z4 z5 z6 z7 z8 hb hb1 HC
 go_wp2_with fail
 refine bodyPost_ret (v:=.tuple #[.string r,.int .i64 ck]) (by simp [results,Tryz.results21,go_sem]) rfl ⟨rfl,hb2⟩

end Go.Proofs.YtfckekaegjjmkaaGreatDoor
namespace Go.Proofs.YtfckekaegjjmkaaGreatDoor
open Go.RowKit Go.Shelf

theorem RowT.blkJ {W:World} {S:Nat → Prop} {d k n:Nat} {l:List Tr} {xs:List Value} {cs:Array Value} (h:RowT W S d l xs) (hk:Blk W k cs 27) (hc:cs=xs.toArray) (hn:l.length=n) (hl:n ≤ 9223372036854775807) (hS:∀ q,S q → q < k + 1):ListAt W (k + 1) (d + 1) l (.slice (some ⟨k,0,none⟩) n n):=by
 subst hn hc
 refine ⟨_,_,rfl,⟨hl,Nat.le_refl _⟩,fun i hi=>?_⟩
 obtain ⟨y,ho,hg,hkk⟩:=h.get i hi
 refine ⟨_,y,rfl,Nat.lt_succ_self k,ho,fun j u hu=>?_,hkk.mono hS⟩
 have ha:(⟨k,0,none⟩:Addr).add (i * 9 + j)=⟨k,i * 9 + j,none⟩:=by
  unfold Addr.add
  split
  ·rename_i e
   rw [e]
  ·simp
 rw [ha,hk.cell,List.getElem?_toArray]
 exact hg j u hu

abbrev jhL:List Tr:=[.nd { zeroO with kind:=5,s:=⟨#[97]⟩ } [],.nd { zeroO with kind:=3,dg:=⟨#[49,53]⟩,ex:=-1 } [],.nd { zeroO with kind:=5,s:=⟨#[98]⟩ } [],.nd { zeroO with kind:=7 } []]
abbrev jhT:Tr:=.nd { zeroO with kind:=8 } jhL
abbrev rawT:Tr:=.nd { zeroO with kind:=6 } []
theorem jh_fit:fitT 1 flJ jhT=true:=by decide +kernel
theorem jh_keys:keysB jhL=true:=by
 unfold keysB
 refine @decide_eq_true _ (Classical.propDecidable _) ?_
 intro i k hi hk h1 h2
 have:i=2 ∧ k=0:=by
  simp only [List.length_cons,List.length_nil] at hi
  omega
 obtain ⟨rfl,rfl⟩:=this
 have h:sameT (.nd { zeroO with kind:=5,s:=⟨#[98]⟩ } []) (.nd { zeroO with kind:=5,s:=⟨#[97]⟩ } [])=false:=by decide +kernel
 exact h
theorem jh_dec:decOk false ⟨#[49,53]⟩ (-1)=true:=by decide +kernel
theorem jh_right:rightT jhT=true:=by
 unfold rightT
 have h1:jhT.count ≤ 300:=by decide +kernel
 have h2:jhT.depth ≤ 16:=by decide +kernel
 rw [decide_eq_true h1,decide_eq_true h2,allB]
 have hv:Lib.validD (⟨#[97]⟩:ByteArray).data.toList=true:=by decide +kernel
 have hv2:Lib.validD (⟨#[98]⟩:ByteArray).data.toList=true:=by decide +kernel
 have ho:ownB { zeroO with kind:=8 } jhL=true:=by
  simp [ownB,jh_keys,onlyB]
 have e1:ownB { zeroO with kind:=5,s:=⟨#[97]⟩ } []=true:=by
  simp [ownB,onlyB,hv]
  decide
 have e2:ownB { zeroO with kind:=3,dg:=⟨#[49,53]⟩,ex:=-1 } []=true:=by
  simp [ownB,onlyB,jh_dec]
 have e3:ownB { zeroO with kind:=5,s:=⟨#[98]⟩ } []=true:=by
  simp [ownB,onlyB,hv2]
  decide
 have e4:ownB { zeroO with kind:=7 } []=true:=by
  simp [ownB,onlyB]
 rw [ho,allL,allL,allL,allL,allL,allB,allB,allB,allB,e1,e2,e3,e4,allL]
 rfl
theorem jh_check:checkT 1 flJ jhT=0:=by
 unfold checkT
 rw [if_pos jh_right,if_pos jh_fit]
theorem raw_check:checkT 1 flJ rawT=61:=by
 unfold checkT
 have hr:rightT rawT=true:=by
  unfold rightT
  have h1:rawT.count ≤ 300:=by decide +kernel
  have h2:rawT.depth ≤ 16:=by decide +kernel
  have ho:ownB { zeroO with kind:=6 } []=true:=by
   simp [ownB,onlyB]
   decide
  rw [decide_eq_true h1,decide_eq_true h2,allB,ho,allL]
  rfl
 rw [if_pos hr,if_neg (by decide +kernel)]
theorem jh_js:jsT quoteL false 0 jhT=[123,34,97,34,58,49,46,53,44,34,98,34,58,91,93,125]:=by decide +kernel
theorem okOJ (o:Own) (h1:o.dg.size ≤ 100) (h2:o.s.size ≤ 100) (h3:0 ≤ o.kind ∧ o.kind ≤ 100) (h4 : -100 ≤ o.ex ∧ o.ex ≤ 100) (h5:o.u=0) (h6:o.wd=0):OwnOk o:=⟨by omega,by omega,by omega,by omega,by omega,by omega⟩
set_option maxHeartbeats 4000000 in
set_option maxRecDepth 100000 in
theorem j_shown {aT aF:Addr} (w:World) (h:SW w aT aF) :
  Calls Tryz.prog 14 #[] w fun e w'=>e=.returned (.bool true) ∧ Below w.heap.size w w':=by
 have hb1:Below w.heap.size w (w.alloc (.cells #[.int .i64 5,.bool false,.bool false,.string ⟨#[]⟩,.int .i64 0,.int .u64 0,.int .i64 0,.string ⟨#[97]⟩,.slice none 0 0,.int .i64 3,.bool false,.bool false,.string ⟨#[49,53]⟩,.int .i64 (-1),.int .u64 0,.int .i64 0,.string ⟨#[]⟩,.slice none 0 0,.int .i64 5,.bool false,.bool false,.string ⟨#[]⟩,.int .i64 0,.int .u64 0,.int .i64 0,.string ⟨#[98]⟩,.slice none 0 0,.int .i64 7,.bool false,.bool false,.string ⟨#[]⟩,.int .i64 0,.int .u64 0,.int .i64 0,.string ⟨#[]⟩,.slice none 0 0] 27)):=(Below.refl _ _).alloc (Nat.le_refl _) _
 have hb2:Below w.heap.size w ((w.alloc (.cells #[.int .i64 5,.bool false,.bool false,.string ⟨#[]⟩,.int .i64 0,.int .u64 0,.int .i64 0,.string ⟨#[97]⟩,.slice none 0 0,.int .i64 3,.bool false,.bool false,.string ⟨#[49,53]⟩,.int .i64 (-1),.int .u64 0,.int .i64 0,.string ⟨#[]⟩,.slice none 0 0,.int .i64 5,.bool false,.bool false,.string ⟨#[]⟩,.int .i64 0,.int .u64 0,.int .i64 0,.string ⟨#[98]⟩,.slice none 0 0,.int .i64 7,.bool false,.bool false,.string ⟨#[]⟩,.int .i64 0,.int .u64 0,.int .i64 0,.string ⟨#[]⟩,.slice none 0 0] 27)).alloc (.cells #[.int .i64 8,.bool false,.bool false,.string ⟨#[]⟩,.int .i64 0,.int .u64 0,.int .i64 0,.string ⟨#[]⟩,.slice (some ⟨w.heap.size,0,none⟩) 4 4] 27)):=hb1.alloc hb1.size _
 have hk2:Blk ((w.alloc (.cells #[.int .i64 5,.bool false,.bool false,.string ⟨#[]⟩,.int .i64 0,.int .u64 0,.int .i64 0,.string ⟨#[97]⟩,.slice none 0 0,.int .i64 3,.bool false,.bool false,.string ⟨#[49,53]⟩,.int .i64 (-1),.int .u64 0,.int .i64 0,.string ⟨#[]⟩,.slice none 0 0,.int .i64 5,.bool false,.bool false,.string ⟨#[]⟩,.int .i64 0,.int .u64 0,.int .i64 0,.string ⟨#[98]⟩,.slice none 0 0,.int .i64 7,.bool false,.bool false,.string ⟨#[]⟩,.int .i64 0,.int .u64 0,.int .i64 0,.string ⟨#[]⟩,.slice none 0 0] 27)).alloc (.cells #[.int .i64 8,.bool false,.bool false,.string ⟨#[]⟩,.int .i64 0,.int .u64 0,.int .i64 0,.string ⟨#[]⟩,.slice (some ⟨w.heap.size,0,none⟩) 4 4] 27)) w.heap.size #[.int .i64 5,.bool false,.bool false,.string ⟨#[]⟩,.int .i64 0,.int .u64 0,.int .i64 0,.string ⟨#[97]⟩,.slice none 0 0,.int .i64 3,.bool false,.bool false,.string ⟨#[49,53]⟩,.int .i64 (-1),.int .u64 0,.int .i64 0,.string ⟨#[]⟩,.slice none 0 0,.int .i64 5,.bool false,.bool false,.string ⟨#[]⟩,.int .i64 0,.int .u64 0,.int .i64 0,.string ⟨#[98]⟩,.slice none 0 0,.int .i64 7,.bool false,.bool false,.string ⟨#[]⟩,.int .i64 0,.int .u64 0,.int .i64 0,.string ⟨#[]⟩,.slice none 0 0] 27:=(Blk.new w #[.int .i64 5,.bool false,.bool false,.string ⟨#[]⟩,.int .i64 0,.int .u64 0,.int .i64 0,.string ⟨#[97]⟩,.slice none 0 0,.int .i64 3,.bool false,.bool false,.string ⟨#[49,53]⟩,.int .i64 (-1),.int .u64 0,.int .i64 0,.string ⟨#[]⟩,.slice none 0 0,.int .i64 5,.bool false,.bool false,.string ⟨#[]⟩,.int .i64 0,.int .u64 0,.int .i64 0,.string ⟨#[98]⟩,.slice none 0 0,.int .i64 7,.bool false,.bool false,.string ⟨#[]⟩,.int .i64 0,.int .u64 0,.int .i64 0,.string ⟨#[]⟩,.slice none 0 0] 27).alloc _
 have hk3:=Blk.new (w.alloc (.cells #[.int .i64 5,.bool false,.bool false,.string ⟨#[]⟩,.int .i64 0,.int .u64 0,.int .i64 0,.string ⟨#[97]⟩,.slice none 0 0,.int .i64 3,.bool false,.bool false,.string ⟨#[49,53]⟩,.int .i64 (-1),.int .u64 0,.int .i64 0,.string ⟨#[]⟩,.slice none 0 0,.int .i64 5,.bool false,.bool false,.string ⟨#[]⟩,.int .i64 0,.int .u64 0,.int .i64 0,.string ⟨#[98]⟩,.slice none 0 0,.int .i64 7,.bool false,.bool false,.string ⟨#[]⟩,.int .i64 0,.int .u64 0,.int .i64 0,.string ⟨#[]⟩,.slice none 0 0] 27)) #[.int .i64 8,.bool false,.bool false,.string ⟨#[]⟩,.int .i64 0,.int .u64 0,.int .i64 0,.string ⟨#[]⟩,.slice (some ⟨w.heap.size,0,none⟩) 4 4] 27
 have hrow:RowT ((w.alloc (.cells #[.int .i64 5,.bool false,.bool false,.string ⟨#[]⟩,.int .i64 0,.int .u64 0,.int .i64 0,.string ⟨#[97]⟩,.slice none 0 0,.int .i64 3,.bool false,.bool false,.string ⟨#[49,53]⟩,.int .i64 (-1),.int .u64 0,.int .i64 0,.string ⟨#[]⟩,.slice none 0 0,.int .i64 5,.bool false,.bool false,.string ⟨#[]⟩,.int .i64 0,.int .u64 0,.int .i64 0,.string ⟨#[98]⟩,.slice none 0 0,.int .i64 7,.bool false,.bool false,.string ⟨#[]⟩,.int .i64 0,.int .u64 0,.int .i64 0,.string ⟨#[]⟩,.slice none 0 0] 27)).alloc (.cells #[.int .i64 8,.bool false,.bool false,.string ⟨#[]⟩,.int .i64 0,.int .u64 0,.int .i64 0,.string ⟨#[]⟩,.slice (some ⟨w.heap.size,0,none⟩) 4 4] 27)) (fun q=>q < w.heap.size + 1) 0 jhL ((nodeCells { zeroO with kind:=5,s:=⟨#[97]⟩ } (.slice none 0 0)) ++ ((nodeCells { zeroO with kind:=3,dg:=⟨#[49,53]⟩,ex:=-1 } (.slice none 0 0)) ++ ((nodeCells { zeroO with kind:=5,s:=⟨#[98]⟩ } (.slice none 0 0)) ++ ((nodeCells { zeroO with kind:=7 } (.slice none 0 0)) ++ [])))):=
  ⟨_,_,rfl,(okOJ _ (by decide) (by decide) (by decide) (by decide) rfl rfl),LAt.nil _ _ _ _ _,_,_,rfl,(okOJ _ (by decide) (by decide) (by decide) (by decide) rfl rfl),LAt.nil _ _ _ _ _,_,_,rfl,(okOJ _ (by decide) (by decide) (by decide) (by decide) rfl rfl),LAt.nil _ _ _ _ _,_,_,rfl,(okOJ _ (by decide) (by decide) (by decide) (by decide) rfl rfl),LAt.nil _ _ _ _ _,rfl⟩
 have hl:=hrow.blkJ (n:=4) hk2 rfl rfl (by decide) (fun q hq=>hq)
 have HW:=jw_Write jhT (.slice (some ⟨w.heap.size,0,none⟩) 4 4) ((w.alloc (.cells #[.int .i64 5,.bool false,.bool false,.string ⟨#[]⟩,.int .i64 0,.int .u64 0,.int .i64 0,.string ⟨#[97]⟩,.slice none 0 0,.int .i64 3,.bool false,.bool false,.string ⟨#[49,53]⟩,.int .i64 (-1),.int .u64 0,.int .i64 0,.string ⟨#[]⟩,.slice none 0 0,.int .i64 5,.bool false,.bool false,.string ⟨#[]⟩,.int .i64 0,.int .u64 0,.int .i64 0,.string ⟨#[98]⟩,.slice none 0 0,.int .i64 7,.bool false,.bool false,.string ⟨#[]⟩,.int .i64 0,.int .u64 0,.int .i64 0,.string ⟨#[]⟩,.slice none 0 0] 27)).alloc (.cells #[.int .i64 8,.bool false,.bool false,.string ⟨#[]⟩,.int .i64 0,.int .u64 0,.int .i64 0,.string ⟨#[]⟩,.slice (some ⟨w.heap.size,0,none⟩) 4 4] 27)) (w.heap.size + 1) 1 aT aF hl (okOJ _ (by decide) (by decide) (by decide) (by decide) rfl rfl) (by simp) (by decide +kernel) (h.below hb2)
 have HX:=Lib.hid (fun W (hW:Below w.heap.size w W)=>jw_Write rawT (.slice none 0 0) W 0 0 aT aF (LAt.nil _ _ _ _ _) (okOJ _ (by decide) (by decide) (by decide) (by decide) rfl rfl) (Nat.zero_le _) (by decide +kernel) (h.below hW))
 simp only [jh_check,wroteJ,if_true,jh_js] at HW
 simp only [raw_check,wroteJ,if_neg (show ¬ (61:Int)=0 by decide)] at HX
 replace HW:Calls Tryz.prog 16 #[.agg #[.int .i64 8,.bool false,.bool false,.string ⟨#[]⟩,.int .i64 0,.int .u64 0,.int .i64 0,.string ⟨#[]⟩,.slice (some ⟨w.heap.size,0,none⟩) 4 4]] ((w.alloc (.cells #[.int .i64 5,.bool false,.bool false,.string ⟨#[]⟩,.int .i64 0,.int .u64 0,.int .i64 0,.string ⟨#[97]⟩,.slice none 0 0,.int .i64 3,.bool false,.bool false,.string ⟨#[49,53]⟩,.int .i64 (-1),.int .u64 0,.int .i64 0,.string ⟨#[]⟩,.slice none 0 0,.int .i64 5,.bool false,.bool false,.string ⟨#[]⟩,.int .i64 0,.int .u64 0,.int .i64 0,.string ⟨#[98]⟩,.slice none 0 0,.int .i64 7,.bool false,.bool false,.string ⟨#[]⟩,.int .i64 0,.int .u64 0,.int .i64 0,.string ⟨#[]⟩,.slice none 0 0] 27)).alloc (.cells #[.int .i64 8,.bool false,.bool false,.string ⟨#[]⟩,.int .i64 0,.int .u64 0,.int .i64 0,.string ⟨#[]⟩,.slice (some ⟨w.heap.size,0,none⟩) 4 4] 27)) fun e w'=>e=.returned (.tuple #[.string ⟨#[123,34,97,34,58,49,46,53,44,34,98,34,58,91,93,125]⟩,.int .i64 0]) ∧ Below ((w.alloc (.cells #[.int .i64 5,.bool false,.bool false,.string ⟨#[]⟩,.int .i64 0,.int .u64 0,.int .i64 0,.string ⟨#[97]⟩,.slice none 0 0,.int .i64 3,.bool false,.bool false,.string ⟨#[49,53]⟩,.int .i64 (-1),.int .u64 0,.int .i64 0,.string ⟨#[]⟩,.slice none 0 0,.int .i64 5,.bool false,.bool false,.string ⟨#[]⟩,.int .i64 0,.int .u64 0,.int .i64 0,.string ⟨#[98]⟩,.slice none 0 0,.int .i64 7,.bool false,.bool false,.string ⟨#[]⟩,.int .i64 0,.int .u64 0,.int .i64 0,.string ⟨#[]⟩,.slice none 0 0] 27)).alloc (.cells #[.int .i64 8,.bool false,.bool false,.string ⟨#[]⟩,.int .i64 0,.int .u64 0,.int .i64 0,.string ⟨#[]⟩,.slice (some ⟨w.heap.size,0,none⟩) 4 4] 27)).heap.size ((w.alloc (.cells #[.int .i64 5,.bool false,.bool false,.string ⟨#[]⟩,.int .i64 0,.int .u64 0,.int .i64 0,.string ⟨#[97]⟩,.slice none 0 0,.int .i64 3,.bool false,.bool false,.string ⟨#[49,53]⟩,.int .i64 (-1),.int .u64 0,.int .i64 0,.string ⟨#[]⟩,.slice none 0 0,.int .i64 5,.bool false,.bool false,.string ⟨#[]⟩,.int .i64 0,.int .u64 0,.int .i64 0,.string ⟨#[98]⟩,.slice none 0 0,.int .i64 7,.bool false,.bool false,.string ⟨#[]⟩,.int .i64 0,.int .u64 0,.int .i64 0,.string ⟨#[]⟩,.slice none 0 0] 27)).alloc (.cells #[.int .i64 8,.bool false,.bool false,.string ⟨#[]⟩,.int .i64 0,.int .u64 0,.int .i64 0,.string ⟨#[]⟩,.slice (some ⟨w.heap.size,0,none⟩) 4 4] 27)) w':=HW
 replace HX:Hid (∀ W,Below w.heap.size w W → Calls Tryz.prog 16 #[.agg #[.int .i64 6,.bool false,.bool false,.string ⟨#[]⟩,.int .i64 0,.int .u64 0,.int .i64 0,.string ⟨#[]⟩,.slice none 0 0]] W fun e w'=>e=.returned (.tuple #[.string ⟨#[]⟩,.int .i64 61]) ∧ Below W.heap.size W w'):=HX
 replace HW:=Lib.hid HW
 rw [World.size_alloc] at hk3
 have z0:=hk3.cell 0
 have z1:=hk3.cell 1
 have z2:=hk3.cell 2
 have z3:=hk3.cell 3
 have z4:=hk3.cell 4
 have z5:=hk3.cell 5
 have z6:=hk3.cell 6
 have z7:=hk3.cell 7
 have z8:=hk3.cell 8
 clear hl hrow hk2 hk3 h
 go_enter Tryz.func14,Tryz.ntmps14
 go_wp2_with fail
 refine HW.out.mono ?_
 rintro e w1 ⟨rfl,hb⟩
 have hb3:=hb2.trans (hb.mono hb2.size)
 clear hb hb1 hb2 HW z0 z1 z2 z3 z4 z5 z6 z7 z8
 go_wp2_with fail
 refine (HX.out _ hb3).mono ?_
 rintro e w2 ⟨rfl,hb⟩
 have hb4:=hb3.trans (hb.mono hb3.size)
 clear hb hb3 HX
 go_wp2_with fail
 go_ret
 exact ⟨rfl,hb4⟩
end Go.Proofs.YtfckekaegjjmkaaGreatDoor
namespace Go.Proofs.YtfckekaegjjmkaaGreatDoor
open Go.RowKit Go.Shelf

theorem zero_checkJ:checkT 1 flJ (.nd zeroO [])=60:=by
 unfold checkT
 have hr:¬ rightT (.nd zeroO [])=true:=by
  unfold rightT
  rw [allB]
  have ho:ownB zeroO []=false:=by
   simp [ownB]
  rw [ho]
  simp
 rw [if_neg hr]
theorem wroteJ_zero (p:Bool) (t:Tr):(wroteJ p t 0).data.toList=jsT quoteL p 0 t:=by
 unfold wroteJ
 rw [if_pos rfl]
theorem wroteJ_size (p:Bool) (t:Tr):(wroteJ p t 0).size=(jsT quoteL p 0 t).length:=by
 unfold wroteJ
 rw [if_pos rfl]
 show (jsT quoteL p 0 t).toArray.size=_
 rw [List.size_toArray]
theorem rjw_back (p:Bool) (t:Tr) (h:checkT 1 flJ t=0) (hs:(wroteJ p t 0).size ≤ 4000):readJ uqJ (wroteJ p t 0).data.toList=(0,t):=by
 rw [wroteJ_zero]
 rw [wroteJ_size] at hs
 have hk:=checkJ_ok h
 have hr:rightT t=true:=by
  unfold rightT
  rw [Bool.and_eq_true,Bool.and_eq_true,decide_eq_true_iff,decide_eq_true_iff]
  exact ⟨hk.1,hk.2.1,hk.2.2.1⟩
 exact readJ_back quoteL_beg (fun l m hv=>uqJ_quote l m hv) uqJ_own2 p t (okJ_of t hk.2.2.1 hk.2.2.2) hr hk.2.1 hs
theorem rjw_big {s:ByteArray} (h:4000 < s.size):readJ uqJ s.data.toList=(81,.nd zeroO []):=by
 unfold readJ
 rw [if_pos (by simpa using h)]
theorem wjw_len (p:Bool) (t:Tr) (h:checkT 1 flJ t=0):(wroteJ p t 0).size ≤ 900000:=by
 have hk:=checkJ_ok h
 have:=jsT_bound p t 0 (okJ_of t hk.2.2.1 hk.2.2.2) hk.2.2.1 (by omega)
 rw [wroteJ_size]
 omega
theorem wjw_short (t:Tr):(wroteJ false t 0).size ≤ (wroteJ true t 0).size:=by
 rw [wroteJ_size,wroteJ_size]
 exact short_T quoteL t 0 0
theorem wroteJ_none (p:Bool) (t:Tr) {e:Int} (h:e ≠ 0):wroteJ p t e=⟨#[]⟩:=by
 unfold wroteJ
 rw [if_neg h]
end Go.Proofs.YtfckekaegjjmkaaGreatDoor
