/- The texts TreeD, DsC, DsD, Dig, Str, Spec, RefB, Num, Fit, put together. -/
import Derived.Test.YtonihophanmaaaaGreatDoorPa02
import Derived.Test.YtonihophanmaaaaGreatDoorPa01
import Derived.Sort.Walk0
import Derived.Lib.SmallJoins
import Derived.Lib.Strings
import Derived.Lib.AtoiAll
import Derived.Lib.ItoaNum
import Derived.Lib.ValidU
namespace Go.Proofs.YtonihophanmaaaaGreatDoor
open Go.RowKit Go.Shelf
mutual
theorem cut_count:∀ (d:Nat) (t:Tr),(cutT d t).count≤t.count
 | 0,t=>by
  rw [Tr.count_eq,Tr.count_eq t]
  show 1+countL []≤_
  rw [countL]
  omega
 | d+1,.nd o l=>by
  rw [Tr.count_eq,Tr.count_eq (.nd o l)]
  show 1+countL ((l.take 40).map (cutT d))≤1+countL l
  have h1:=cut_countL d (l.take 40)
  have h2:=countL_mono l 40
  omega
theorem cut_countL:∀ (d:Nat) (l:List Tr),countL (l.map (cutT d))≤countL l
 | _,[]=>by simp
 | d,t::l=>by
  show (cutT d t).count+countL (l.map (cutT d))≤t.count+countL l
  have h1:=cut_count d t
  have h2:=cut_countL d l
  omega
end
def fewT (t:Tr):Tr:=if 400<(cutT 17 t).count then .nd (cutO t.own) [] else cutT 17 t
theorem fewT_own (t:Tr):(fewT t).own=cutO t.own:=by
 unfold fewT
 split
 ·rfl
 ·exact cutT_own 17 t
theorem few_count (t:Tr):(fewT t).count≤400:=by
 unfold fewT
 split
 ·rw [Tr.count_eq]
  show 1+countL []≤400
  rw [countL]
  omega
 ·omega
theorem blk_row {W:World} {p:Nat} {cs:Array Value} {t:TypeId} (h:Blk W p cs t) (cs':Array Value):Blk (W.setRow p cs') p cs' t:=setRow_heap _ _ _ _ _ _ h
theorem blk_row_other {W:World} {p q:Nat} {cs:Array Value} {t:TypeId} (h:Blk W q cs t) (hne:q≠p) (cs':Array Value):Blk (W.setRow p cs') q cs t:=(setRow_other _ _ _ _ hne).trans h
theorem grown_row (w:World) (p:Nat) (cs:Array Value):w.grownBy (w.setRow p cs) (some p):=
 ⟨rfl,rfl,rfl,by simp,fun k _ hk=>setRow_other _ _ _ _ (fun e=>hk (by rw [e]))⟩
set_option maxHeartbeats 4000000 in
set_option maxRecDepth 100000 in
theorem law_FewT (t:Tr) (x:Value) (w:World) (B D:Nat) (hl:ListAt w B D t.kids x) (ho:OwnOk t.own) (hB:B≤w.heap.size) (hc:t.count≤1000000000) :
  Calls Tryz.prog 14 #[nodeV t.own x] w fun e w'=>(∃ y,e=.returned (nodeV (fewT t).own y)∧LAt w' (fun q=>w.heap.size≤q∧q<w'.heap.size) 17 (fewT t).kids y)∧Below w.heap.size w w':=by
 have hbx:=box2 w (cellsV t.own x) (cellsV ⟨0,false,false,⟨#[]⟩,0,0,0,⟨#[]⟩⟩ (.slice none 0 0)) 28 28
 have HC:=law_Cut 17 (by omega) t x _ B D (hl.below hbx.1 hB) ho (Nat.le_trans hB hbx.1.size)
 have hcc:(cutT 17 t).count≤1000000000:=Nat.le_trans (cut_count 17 t) hc
 have HN:=Lib.hid (fun y (w':World) (B:Nat) (h:LAt w' (fun q=>q<B) 17 (cutT 17 t).kids y) (hB:B≤w'.heap.size)=>ref_Count 17 (cutT 17 t) y w' B h hB (by omega))
 rw [cutT_own]at HN
 rw [fewT_own]
 have hfew:(fewT t).kids=if 400<(cutT 17 t).count then [] else (cutT 17 t).kids:=by
  unfold fewT
  split <;> rfl
 rw [hfew]
 obtain ⟨cl,hcl⟩:∃ cl,(cutT 17 t).kids=cl:=⟨_,rfl⟩
 obtain ⟨cn,hcn⟩:∃ cn,(cutT 17 t).count=cn:=⟨_,rfl⟩
 rw [hcl]at HC HN ⊢
 rw [hcn]at HN hcc ⊢
 obtain ⟨fl,hfl⟩:∃ fl,(if 400<cn then [] else cl)=fl:=⟨_,rfl⟩
 rw [hfl]
 have HFL:=Lib.hid hfl
 clear hfl
 obtain ⟨o2,ho2⟩:∃ o2,cutO t.own=o2:=⟨_,rfl⟩
 rw [ho2]at HC HN ⊢
 obtain ⟨kind2,b2,neg2,dg2,ex2,u2,wd2,s2⟩:=o2
 obtain ⟨⟨kind,b,neg,dg,ex,u,wd,s⟩,ho'⟩:∃ o,t.own=o:=⟨_,rfl⟩
 rw [ho']at HC hbx ⊢
 unfold cellsV at hbx HC
 unfold nodeV at HC HN ⊢
 simp only []at HC HN hbx ⊢
 have HC:=Lib.hid HC
 obtain ⟨h1,h2,h3⟩:=hbx
 have H1:=Lib.hid h1
 have H2:=Lib.hid h2
 have H3:=Lib.hid h3
 clear hl ho hc hfew ho2 ho' h1 h2 h3 hcl hcn
 go_enter Tryz.func14,Tryz.ntmps14
 go_wp2_with fail
 refine HC.out.mono ?_
 rintro e w1 ⟨⟨y,rfl,hly⟩,hb⟩
 obtain ⟨_,A,c,rfl⟩:=hly.slice
 obtain ⟨n,hn⟩:∃ n,cl.length=n:=⟨_,rfl⟩
 rw [hn]at hly ⊢
 have hz:=hb.size
 simp only [World.size_alloc]at hz
 have hbw:=H1.out.trans (hb.mono H1.out.size)
 have hk1:=H2.out.below hb H2.out.lt
 have hk2:=H3.out.below hb H3.out.lt
 have hly2:LAt w1 (fun q=>w.heap.size+2≤q∧q<w1.heap.size) 17 cl (.slice A n c):=hly.mono (fun q hq=>by
  have:=hq.1
  simp only [World.size_alloc]at this
  exact ⟨by omega,hq.2⟩)
 clear H1 H2 H3 HC hb hly
 have hbw2:Below w.heap.size w (w1.setRow w.heap.size #[.int .i64 kind2,.bool b2,.bool neg2,.string dg2,.int .i64 ex2,.int .u64 u2,.int .i64 wd2,.string s2,.slice A n c]):=hbw.grown (grown_row w1 w.heap.size _) hbw.size (fun q e=>by cases e; exact Nat.le_refl _)
 have hk3:=blk_row hk1 #[.int .i64 kind2,.bool b2,.bool neg2,.string dg2,.int .i64 ex2,.int .u64 u2,.int .i64 wd2,.string s2,.slice A n c]
 have hk4:=blk_row_other hk2 (by omega:w.heap.size+1≠w.heap.size) #[.int .i64 kind2,.bool b2,.bool neg2,.string dg2,.int .i64 ex2,.int .u64 u2,.int .i64 wd2,.string s2,.slice A n c]
 have hly3:LAt (w1.setRow w.heap.size #[.int .i64 kind2,.bool b2,.bool neg2,.string dg2,.int .i64 ex2,.int .u64 u2,.int .i64 wd2,.string s2,.slice A n c]) (fun q=>w.heap.size+2≤q∧q<w1.heap.size) 17 cl (.slice A n c):=hly2.keep (fun q hq=>setRow_other _ _ _ _ (by omega))
 have hz3:(w1.setRow w.heap.size #[.int .i64 kind2,.bool b2,.bool neg2,.string dg2,.int .i64 ex2,.int .u64 u2,.int .i64 wd2,.string s2,.slice A n c]).heap.size=w1.heap.size:=setRow_size _ _ _
 have HK1:=Lib.hid hk1
 clear hk2 hly2 hbw hk1
 have HK3:=Lib.hid hk3
 clear hk3
 go_wp2_with (first | (refine wpList_store_row rfl 28 (.tmp 1) (.tmp 4) rfl w.heap.size #[.int .i64 kind2,.bool b2,.bool neg2,.string dg2,.int .i64 ex2,.int .u64 u2,.int .i64 wd2,.string s2,.slice A n c] rfl rfl 28 _ HK1.out (by kernel_rfl) rfl (by simp [Value.oneCell']) ?_) | (refine wpList_load_row rfl 28 (.tmp 1) rfl w.heap.size rfl 28 _ (0,0) _ HK3.out Tryz.underlying28 rfl (by kernel_rfl) ?_))
 clear HK1
 generalize w1.setRow w.heap.size #[.int .i64 kind2,.bool b2,.bool neg2,.string dg2,.int .i64 ex2,.int .u64 u2,.int .i64 wd2,.string s2,.slice A n c]=w2 at *
 refine (HN.out _ w2 w2.heap.size (hly3.mono (fun q hq=>by omega)) (Nat.le_refl _)).mono ?_
 rintro e w3 ⟨rfl,hb⟩
 have hz5:=hb.size
 have hbw3:=hbw2.trans (hb.mono hbw2.size)
 have hk5:=HK3.out.below hb HK3.out.lt
 have hk6:=hk4.below hb hk4.lt
 have hly5:LAt w3 (fun q=>w.heap.size+2≤q∧q<w1.heap.size) 17 cl (.slice A n c):=hly3.keep (fun q hq=>hb.block q (by omega))
 clear hb hly3 hk4 HK3 hbw2 HN
 by_cases h400:400<cn
 ·obtain rfl:[]=fl:=by rw [← HFL.out,if_pos h400]
  have y1:(400:Int)<cn:=by omega
  have f8:=hk5.frozen 8
  have k8:=hk5.cell 8
  have hs1:Blk (w3.setCell ⟨w.heap.size,8,none⟩ (.slice none 0 0)) w.heap.size #[.int .i64 kind2,.bool b2,.bool neg2,.string dg2,.int .i64 ex2,.int .u64 u2,.int .i64 wd2,.string s2,.slice none 0 0] 28:=hk5.set 8 _
  have hs2:Blk (w3.setCell ⟨w.heap.size,8,none⟩ (.slice none 0 0)) (w.heap.size+1) _ 28:=blk_keep hk6 (Below.heap_setCell w3 ⟨w.heap.size,8,none⟩ _ _ (fun e=>by have e:w.heap.size+1=w.heap.size:=e; omega))
  have hb3:Below w.heap.size w (w3.setCell ⟨w.heap.size,8,none⟩ (.slice none 0 0)):=hbw3.grown (grown_setT w3 w.heap.size 8 _) hbw3.size (fun q e=>by cases e; exact Nat.le_refl _)
  have hs3:=blk_row hs2 #[.int .i64 kind2,.bool b2,.bool neg2,.string dg2,.int .i64 ex2,.int .u64 u2,.int .i64 wd2,.string s2,.slice none 0 0]
  have hb4:Below w.heap.size w ((w3.setCell ⟨w.heap.size,8,none⟩ (.slice none 0 0)).setRow (w.heap.size+1) #[.int .i64 kind2,.bool b2,.bool neg2,.string dg2,.int .i64 ex2,.int .u64 u2,.int .i64 wd2,.string s2,.slice none 0 0]):=hb3.grown (grown_row _ (w.heap.size+1) _) hb3.size (fun q e=>by cases e; omega)
  have HS1:=Lib.hid hs1
  have HS2:=Lib.hid hs2
  have HS3:=Lib.hid hs3
  have HB4:=Lib.hid hb4
  clear hs1 hs2 hb3 hs3 hb4 hly5 h400 hk5 hk6
  go_wp2_with (first | (refine wpList_load_row rfl 28 (.tmp 1) rfl w.heap.size rfl 28 _ (0,0) _ HS1.out Tryz.underlying28 rfl (by kernel_rfl) ?_) | (refine wpList_store_row rfl 28 (.tmp 2) (.tmp 9) rfl (w.heap.size+1) #[.int .i64 kind2,.bool b2,.bool neg2,.string dg2,.int .i64 ex2,.int .u64 u2,.int .i64 wd2,.string s2,.slice none 0 0] rfl rfl 28 _ HS2.out (by kernel_rfl) rfl (by simp [Value.oneCell']) ?_))
  refine bodyPost_ret (v:=.agg #[.int .i64 kind2,.bool b2,.bool neg2,.string dg2,.int .i64 ex2,.int .u64 u2,.int .i64 wd2,.string s2,.slice none 0 0]) (results_cell_row rfl _ _ (w.heap.size+1) 28 _ (0,0) _ rfl HS3.out Tryz.underlying28 rfl (by kernel_rfl)) rfl ?_
  exact ⟨⟨_,rfl,LAt.nil _ _ _ _ _⟩,HB4.out⟩
 ·obtain rfl:cl=fl:=by rw [← HFL.out,if_neg h400]
  have y1:¬ (400:Int)<cn:=by omega
  have hs3:=blk_row hk6 #[.int .i64 kind2,.bool b2,.bool neg2,.string dg2,.int .i64 ex2,.int .u64 u2,.int .i64 wd2,.string s2,.slice A n c]
  have hb4:Below w.heap.size w (w3.setRow (w.heap.size+1) #[.int .i64 kind2,.bool b2,.bool neg2,.string dg2,.int .i64 ex2,.int .u64 u2,.int .i64 wd2,.string s2,.slice A n c]):=hbw3.grown (grown_row _ (w.heap.size+1) _) hbw3.size (fun q e=>by cases e; omega)
  have hly6:LAt (w3.setRow (w.heap.size+1) #[.int .i64 kind2,.bool b2,.bool neg2,.string dg2,.int .i64 ex2,.int .u64 u2,.int .i64 wd2,.string s2,.slice A n c]) (fun q=>w.heap.size≤q∧q<(w3.setRow (w.heap.size+1) #[.int .i64 kind2,.bool b2,.bool neg2,.string dg2,.int .i64 ex2,.int .u64 u2,.int .i64 wd2,.string s2,.slice A n c]).heap.size) 17 cl (.slice A n c):=(hly5.keep (fun q hq=>setRow_other _ _ _ _ (by omega))).mono (fun q hq=>⟨by omega,by rw [setRow_size]; omega⟩)
  have HS1:=Lib.hid hk5
  have HS2:=Lib.hid hk6
  have HS3:=Lib.hid hs3
  have HB4:=Lib.hid hb4
  have HL6:=Lib.hid hly6
  clear hs3 hb4 hly5 h400 hk5 hk6 hly6
  go_wp2_with (first | (refine wpList_load_row rfl 28 (.tmp 1) rfl w.heap.size rfl 28 _ (0,0) _ HS1.out Tryz.underlying28 rfl (by kernel_rfl) ?_) | (refine wpList_store_row rfl 28 (.tmp 2) (.tmp 9) rfl (w.heap.size+1) #[.int .i64 kind2,.bool b2,.bool neg2,.string dg2,.int .i64 ex2,.int .u64 u2,.int .i64 wd2,.string s2,.slice A n c] rfl rfl 28 _ HS2.out (by kernel_rfl) rfl (by simp [Value.oneCell']) ?_))
  refine bodyPost_ret (v:=.agg #[.int .i64 kind2,.bool b2,.bool neg2,.string dg2,.int .i64 ex2,.int .u64 u2,.int .i64 wd2,.string s2,.slice A n c]) (results_cell_row rfl _ _ (w.heap.size+1) 28 _ (0,0) _ rfl HS3.out Tryz.underlying28 rfl (by kernel_rfl)) rfl ?_
  exact ⟨⟨_,rfl,HL6.out⟩,HB4.out⟩
def cmpS (x y:ByteArray):Int:=if Op.bytesLess x.toList y.toList=true then -1 else if (x.toList == y.toList)=true then 0 else 1
theorem cmp_isNaN (x:ByteArray) (w:World):Calls Tryz.prog 195 #[.string x] w fun e w'=>e=.returned (.bool false)∧w'=w:=by
 go_enter Tryz.func195,Tryz.ntmps195
 go_wp2_with fail
 go_ret
 exact ⟨by simp,rfl⟩
set_option maxHeartbeats 4000000 in
set_option maxRecDepth 100000 in
theorem cmp_Compare (x y:ByteArray) (w:World):Calls Tryz.prog 137 #[.string x,.string y] w fun e w'=>e=.returned (.int .i64 (cmpS x y))∧w'=w:=by
 have HX:=Lib.hid (cmp_isNaN x)
 have HY:=Lib.hid (cmp_isNaN y)
 unfold cmpS
 obtain ⟨b,hb⟩:∃ b,Op.bytesLess x.toList y.toList=b:=⟨_,rfl⟩
 obtain ⟨c,hc⟩:∃ c,(x.toList == y.toList)=c:=⟨_,rfl⟩
 rw [hb,hc]
 go_enter Tryz.func137,Tryz.ntmps137
 go_wp2_with fail
 refine (HX.out _).mono ?_
 rintro e w1 ⟨rfl,rfl⟩
 go_wp2_with fail
 refine (HY.out _).mono ?_
 rintro e w1 ⟨rfl,rfl⟩
 clear HX HY
 cases b <;> cases c <;> (go_wp2_with fail; go_ret; exact ⟨by simp,rfl⟩)
structure PairM where
 k:Own
 kA:Option Addr
 kn:Nat
 kc:Nat
 it:ByteArray
 h:Own
 hA:Option Addr
 hn:Nat
 hc:Nat
def encP (p:PairM):List Value:=nodeCells p.k (.slice p.kA p.kn p.kc)++(.string p.it::nodeCells p.h (.slice p.hA p.hn p.hc))
theorem encP_one (p:PairM):∀ v∈encP p,v.oneCell'=true:=by
 intro v hv
 simp only [encP,nodeCells,List.cons_append,List.nil_append,List.mem_cons,List.not_mem_nil,or_false]at hv
 rcases hv with rfl|rfl|rfl|rfl|rfl|rfl|rfl|rfl|rfl|rfl|rfl|rfl|rfl|rfl|rfl|rfl|rfl|rfl|rfl <;> simp [Value.oneCell']
set_option maxHeartbeats 4000000 in
set_option maxRecDepth 100000 in
theorem pair_compare (p q:PairM) (w:World):Calls Tryz.prog 95 #[.agg (encP p).toArray,.agg (encP q).toArray] w fun e w'=>e=.returned (.int .i64 (cmpS p.it q.it))∧w'=(w.alloc (.cells (encP p).toArray 124)).alloc (.cells (encP q).toArray 124):=by
 obtain ⟨⟨k1,k2,k3,k4,k5,k6,k7,k8⟩,kA,kn,kc,it,⟨h1,h2,h3,h4,h5,h6,h7,h8⟩,hA,hn,hc⟩:=p
 obtain ⟨⟨k1',k2',k3',k4',k5',k6',k7',k8'⟩,kA',kn',kc',it',⟨h1',h2',h3',h4',h5',h6',h7',h8'⟩,hA',hn',hc'⟩:=q
 have HC:=Lib.hid (cmp_Compare it it')
 unfold encP nodeCells
 simp only [List.cons_append,List.nil_append]
 obtain ⟨r,hr⟩:∃ r,cmpS it it'=r:=⟨_,rfl⟩
 rw [hr]at HC ⊢
 clear hr
 go_enter Tryz.func95,Tryz.ntmps95
 go_wp2_with fail
 refine (HC.out _).mono ?_
 rintro e w1 ⟨rfl,rfl⟩
 go_wp2_with fail
 go_ret
 exact ⟨rfl,rfl⟩
def isDig (b:UInt8):Bool:=decide (48≤b.toNat) && decide (b.toNat≤57)
def dval:Nat→List UInt8→Nat
 | acc,[]=>acc
 | acc,c::r=>dval (acc*10+(c.toNat - 48)) r
theorem dval_ge:∀ (l:List UInt8) (acc:Nat),acc≤dval acc l
 | [],acc=>Nat.le_refl _
 | c::r,acc=>by
  have:=dval_ge r (acc*10+(c.toNat - 48))
  show acc≤dval (acc*10+(c.toNat - 48)) r
  omega
theorem parse_digits:∀ (l:List UInt8) (acc:Nat),acc<18446744073709551616→(∀ c∈l,isDig c=true)→Lib.parseUint10 acc l=if dval acc l<18446744073709551616 then .ok (dval acc l) else .range
 | [],acc,ha,_=>by
  show Lib.NumEnd.ok acc=_
  rw [if_pos (show dval acc []<_ from ha)]
  rfl
 | c::r,acc,ha,h=>by
  have hc:=h c List.mem_cons_self
  unfold isDig at hc
  rw [Bool.and_eq_true,decide_eq_true_iff,decide_eq_true_iff]at hc
  have hge:=dval_ge r (acc*10+(c.toNat - 48))
  have hd:dval acc (c::r)=dval (acc*10+(c.toNat - 48)) r:=rfl
  rw [hd]
  unfold Lib.parseUint10
  rw [if_pos hc]
  by_cases h1:1844674407370955162≤acc
  ·rw [if_pos h1,if_neg (by omega)]
  ·rw [if_neg h1]
   by_cases h2:18446744073709551616≤acc*10+(c.toNat - 48)
   ·rw [if_pos h2,if_neg (by omega)]
   ·rw [if_neg h2]
    exact parse_digits r _ (by omega) (fun x hx=>h x (List.mem_cons_of_mem _ hx))
theorem dval_append:∀ (l:List UInt8) (acc:Nat) (c:UInt8),dval acc (l++[c])=dval acc l*10+(c.toNat - 48)
 | [],_,_=>rfl
 | b::l,acc,c=>dval_append l (acc*10+(b.toNat - 48)) c
theorem digit_byte (d:Nat) (h:d<10):(UInt8.ofNat (48+d)).toNat=48+d:=by
 rw [UInt8.toNat_ofNat']
 omega
theorem dec_facts (u:Nat):dval 0 (Lib.decDigits u)=u∧(∀ c∈Lib.decDigits u,isDig c=true)∧Lib.decDigits u≠[]:=by
 induction u using Nat.strongRecOn with
 | _ u ih =>
  by_cases h:u<10
  ·rw [Lib.decDigits_one h]
   refine ⟨?_,?_,by simp⟩
   ·show 0*10+((UInt8.ofNat (48+u)).toNat - 48)=u
    rw [digit_byte u h]
    omega
   ·intro c hc
    rw [List.mem_singleton.1 hc]
    unfold isDig
    rw [digit_byte u h,Bool.and_eq_true,decide_eq_true_iff,decide_eq_true_iff]
    omega
  ·obtain ⟨h1,h2,h3⟩:=ih (u / 10) (by omega)
   rw [Lib.decDigits,dif_neg h]
   refine ⟨?_,?_,by simp⟩
   ·rw [dval_append,h1,digit_byte _ (by omega)]
    omega
   ·intro c hc
    rcases List.mem_append.1 hc with q | q
    ·exact h2 c q
    ·rw [List.mem_singleton.1 q]
     unfold isDig
     rw [digit_byte _ (by omega),Bool.and_eq_true,decide_eq_true_iff,decide_eq_true_iff]
     omega
theorem head_append {l t:List UInt8} (h:l≠[]):(l++t).head? = l.head? := by
 cases l with
 | nil=>exact absurd rfl h
 | cons c l=>rfl
theorem dec_head0:∀ (n u:Nat),u≤n→0<u→(Lib.decDigits u).head?≠some 48
 | 0,u,h0,h1=>by omega
 | n+1,u,h0,h1=>by
  by_cases h:u<10
  ·rw [Lib.decDigits_one h,List.head?_cons]
   intro e
   have:=congrArg UInt8.toNat (Option.some.inj e)
   rw [digit_byte u h]at this
   have h48:(48:UInt8).toNat=48:=rfl
   omega
  ·rw [Lib.decDigits,dif_neg h,head_append (dec_facts (u / 10)).2.2]
   exact dec_head0 n (u / 10) (by omega) (by omega)
theorem grown_below {n p:Nat} {w w':World} (h:w.grownBy w' (some p)) (hn:n≤p) (hp:p<w.heap.size):Below n w w':=
 ⟨h.os,h.tape,h.output,h.size,fun k hk=>h.block k (by omega) (fun e=>by cases e; omega)⟩
theorem below_grown {w w':World} (h:Below w.heap.size w w') (r:Option Nat):w.grownBy w' r:=⟨h.os,h.tape,h.output,h.size,fun k hk _=>h.block k hk⟩
theorem grown_trans {a b c:World} {r:Option Nat} (h:a.grownBy b r) (k:b.grownBy c r):a.grownBy c r:=
 ⟨k.os.trans h.os,k.tape.trans h.tape,k.output.trans h.output,Nat.le_trans h.size k.size,fun i hi hr=>(k.block i (Nat.lt_of_lt_of_le hi h.size) hr).trans (h.block i hi hr)⟩
theorem grown_set (w:World) (p i:Nat) (v:Value):w.grownBy (w.setCell ⟨p,i,none⟩ v) (some p):=
 ⟨rfl,rfl,rfl,by simp [World.setCell],fun k _ hk=>Below.heap_setCell w ⟨p,i,none⟩ v k (fun e=>hk (by rw [e]))⟩
theorem extract_list (s:ByteArray) (k:Nat):(s.extract k s.size).data.toList=s.data.toList.drop k:=by
 rw [ByteArray.data_extract,Array.toList_extract]
 simp [List.extract]
 rw [List.take_of_length_le (by simp)]
theorem str_ext {s t:ByteArray} (h:s.data.toList=t.data.toList):s=t:=by
 apply ByteArray.ext
 exact Array.toList_inj.1 h
theorem str_empty {s:ByteArray} (h:s.size=0):s=⟨#[]⟩:=by
 apply ByteArray.ext
 apply Array.eq_empty_of_size_eq_zero
 exact h
theorem cell_below {w w':World} (hb:Below w.heap.size w w') {b i:Nat} {v:Value} (h:w.cell? ⟨b,i,none⟩=some v):w'.cell? ⟨b,i,none⟩=some v:=by
 have hlt:b<w.heap.size:=by
  apply Decidable.byContradiction
  intro hn
  have:w.heap[b]? = none:=Array.getElem?_eq_none (by omega)
  simp [World.cell?,this]at h
 rw [← h]
 simp only [World.cell?,hb.block b hlt]
theorem block_below {w w':World} (hb:Below w.heap.size w w') {b:Nat} {o:Obj} (h:w.heap[b]? = some o):w'.heap[b]? = some o:=
 (hb.block b (Array.getElem?_eq_some_iff.1 h).1).trans h
theorem var_below {w w':World} {n:String} {cs:Array Value} (h:w.var? Tryz.prog n=some cs) (hb:Below w.heap.size w w'):w'.var? Tryz.prog n=some cs:=by
 unfold World.var? at h ⊢
 cases hg:Tryz.prog.globalNamed n with
 | none=>rw [hg]at h; cases h
 | some g =>
  rw [hg]at h
  simp only [Option.bind_some]at h ⊢
  cases hh:w.heap[g]? with
  | none=>rw [hh]at h; cases h
  | some o=>rw [block_below hb hh]; rw [hh]at h; exact h
mutual
def Tr.depth:Tr→Nat
 | .nd _ l=>depthL l+1
def depthL:List Tr→Nat
 | []=>0
 | t::l=>max t.depth (depthL l)
end
theorem Tr.depth_eq (t:Tr):t.depth=depthL t.kids+1:=by
 cases t
 rw [Tr.depth]
 rfl
theorem depthL_append:∀ a b:List Tr,depthL (a++b)=max (depthL a) (depthL b)
 | [],b=>by simp [depthL]
 | t::a,b=>by
  show max t.depth (depthL (a++b))=max (max t.depth (depthL a)) (depthL b)
  rw [depthL_append a b]
  omega
theorem depthL_take (l:List Tr) (k:Nat) (hk:k<l.length):depthL (l.take (k+1))=max (depthL (l.take k)) l[k].depth:=by
 rw [List.take_succ_eq_append_getElem hk,depthL_append]
 simp [depthL]
mutual
theorem depth_count:∀ t:Tr,t.depth≤t.count
 | .nd _ l=>by
  rw [Tr.depth,Tr.count]
  have:=depthL_count l
  omega
theorem depthL_count:∀ l:List Tr,depthL l≤countL l
 | []=>by simp [depthL]
 | t::l=>by
  rw [depthL,countL]
  have:=depth_count t
  have:=depthL_count l
  omega
end
def onlyB (o x:Own):Bool:=decide (o={ x with kind:=o.kind })
def natOk (s:ByteArray):Bool:=decide (1≤s.size) && (decide (s.size≤400) && (!(decide (1<s.size) && decide (s.data.toList.head? = some 48)) && s.data.toList.all isDig))
theorem head_at0 (s:ByteArray) (h:0<s.size):s.data.toList.head? = some s[0]:=by
 rw [List.head?_eq_getElem?,List.getElem?_eq_getElem (by simpa using h)]
 simp [ByteArray.getElem_eq_getElem_data]
def decOk (neg:Bool) (dg:ByteArray) (ex:Int):Bool:=
 natOk dg && (decide (dg.size≤100) && (if dg.toList=[48] then decide (ex=0) && !neg else decide (-100≤ex) && (decide (ex≤100) && !decide (dg.data.toList.getLast? = some 48))))
def wideOk (u:Int) (wd:Int):Bool:=if wd=64 then true else if wd=16 then decide (u<65536) else if wd=32 then decide (u<4294967296) else false
def KeysApart (l:List Tr):Prop:=∀ (i k:Nat) (hi:i<l.length) (hk:k<i),i % 2=0→k % 2=0→sameT l[i] (l[k]'(by omega))=false
noncomputable def keysB (l:List Tr):Bool:=@decide (KeysApart l) (Classical.propDecidable _)
noncomputable def ownB (o:Own) (l:List Tr):Bool:=
 if o.kind=1 then decide (l.length=0) && onlyB o zeroO
 else if o.kind=2 then decide (l.length=0) && onlyB o { zeroO with b:=o.b }
 else if o.kind=3 then decide (l.length=0) && (onlyB o { zeroO with neg:=o.neg,dg:=o.dg,ex:=o.ex } && decOk o.neg o.dg o.ex)
 else if o.kind=4 then decide (l.length=0) && (onlyB o { zeroO with u:=o.u,wd:=o.wd } && wideOk o.u o.wd)
 else if o.kind=5 then decide (l.length=0) && (onlyB o { zeroO with s:=o.s } && (decide (o.s.size≤400) && Lib.validD o.s.data.toList))
 else if o.kind=6 then decide (l.length=0) && (onlyB o { zeroO with s:=o.s } && decide (o.s.size≤400))
 else if o.kind=7 then onlyB o zeroO
 else if o.kind=8 then onlyB o zeroO && (decide (l.length % 2=0) && keysB l)
 else if o.kind=9 then decide (l.length=1) && onlyB o { zeroO with u:=o.u }
 else if o.kind=10 then decide (l.length=0) && (onlyB o { zeroO with u:=o.u } && (decide (o.u≤19) || (decide (o.u=23) || (decide (32≤o.u) && decide (o.u≤255)))))
 else if o.kind=11 then decide (l.length=0) && (onlyB o { zeroO with u:=o.u,s:=o.s } && (decide (o.u≤255) && decide (o.s.size≤400)))
 else false
mutual
noncomputable def allB:Tr→Bool
 | .nd o l=>ownB o l && allL l
noncomputable def allL:List Tr→Bool
 | []=>true
 | t::l=>allB t && allL l
end
theorem allB_eq (t:Tr):allB t=(ownB t.own t.kids && allL t.kids):=by
 cases t
 rw [allB]
 rfl
noncomputable def rightT (t:Tr):Bool:=decide (t.count≤300) && (decide (t.depth≤16) && allB t)
end Go.Proofs.YtonihophanmaaaaGreatDoor
namespace Go.Proofs.YtonihophanmaaaaGreatDoor
theorem isDig_iff {c:UInt8} (h:isDig c=true):48≤c.toNat∧c.toNat≤57:=by
 simpa [isDig] using h
theorem dval_lt:∀ (l:List UInt8) (acc:Nat),(∀ c∈l,isDig c=true)→dval acc l<(acc+1)*10 ^ l.length
 | [],acc,_=>by
  rw [List.length_nil,Nat.pow_zero,Nat.mul_one]
  exact Nat.lt_succ_self acc
 | c::l,acc,h=>by
  have hc:=isDig_iff (h c List.mem_cons_self)
  have:=dval_lt l (acc*10+(c.toNat - 48)) (fun x hx=>h x (List.mem_cons_of_mem _ hx))
  show dval (acc*10+(c.toNat - 48)) l<_
  rw [List.length_cons,Nat.pow_succ,Nat.mul_comm (10 ^ _) 10,← Nat.mul_assoc]
  exact Nat.lt_of_lt_of_le this (Nat.mul_le_mul_right _ (by omega))
theorem dval_le:∀ (l:List UInt8) (acc:Nat),acc*10 ^ l.length≤dval acc l
 | [],acc=>by
  rw [List.length_nil,Nat.pow_zero,Nat.mul_one]
  exact Nat.le_refl acc
 | c::l,acc=>by
  have:=dval_le l (acc*10+(c.toNat - 48))
  show _≤dval (acc*10+(c.toNat - 48)) l
  rw [List.length_cons,Nat.pow_succ,Nat.mul_comm (10 ^ _) 10,← Nat.mul_assoc]
  exact Nat.le_trans (Nat.mul_le_mul_right _ (by omega)) this
end Go.Proofs.YtonihophanmaaaaGreatDoor
namespace Go.Proofs.YtonihophanmaaaaGreatDoor
open Go.RowKit Go.Shelf
def wholeN (dg:ByteArray) (ex:Int):Nat:=dval 0 dg.data.toList*10 ^ ex.toNat
def toIntD (neg:Bool) (dg:ByteArray) (ex:Int):Option (Bool×Nat):=
 if decOk neg dg ex=true∧0≤ex∧ex≤20∧wholeN dg ex<18446744073709551616 then some (neg,wholeN dg ex) else none
theorem dig_eq {c d:UInt8} (hc:isDig c=true) (hd:isDig d=true) (h:c.toNat - 48=d.toNat - 48):c=d:=by
 have h1:=isDig_iff hc
 have h2:=isDig_iff hd
 exact UInt8.toNat_inj.1 (by omega)
theorem dval_inj:∀ (n:Nat) (a b:List UInt8),a.length=n→b.length=n→(∀ c∈a,isDig c=true)→(∀ c∈b,isDig c=true)→dval 0 a=dval 0 b→a=b
 | 0,a,b,ha,hb,_,_,_=>by
  rw [List.eq_nil_of_length_eq_zero ha,List.eq_nil_of_length_eq_zero hb]
 | n+1,a,b,ha,hb,da,db,h=>by
  have na:a≠[]:=fun e=>by rw [e]at ha; cases ha
  have nb:b≠[]:=fun e=>by rw [e]at hb; cases hb
  have ea:=List.dropLast_concat_getLast na
  have eb:=List.dropLast_concat_getLast nb
  rw [← ea,← eb,dval_append,dval_append]at h
  have ca:=isDig_iff (da _ (List.getLast_mem na))
  have cb:=isDig_iff (db _ (List.getLast_mem nb))
  have h1:a.dropLast=b.dropLast:=dval_inj n _ _ (by rw [List.length_dropLast]; omega) (by rw [List.length_dropLast]; omega) (fun c hc=>da c (List.dropLast_subset _ hc)) (fun c hc=>db c (List.dropLast_subset _ hc)) (by omega)
  have h2:a.getLast na=b.getLast nb:=dig_eq (da _ (List.getLast_mem na)) (db _ (List.getLast_mem nb)) (by omega)
  rw [← ea,← eb,h1,h2]
theorem dval_head {l:List UInt8} (hl:l≠[]) (hd:∀ c∈l,isDig c=true) (h0:l.head?≠some 48):10 ^ (l.length - 1)≤dval 0 l:=by
 cases l with
 | nil=>exact absurd rfl hl
 | cons c r =>
  have hc:=isDig_iff (hd c List.mem_cons_self)
  have hne:c.toNat≠48:=fun e=>h0 (by rw [List.head?_cons,show c=48 from UInt8.toNat_inj.1 e])
  have h1:=dval_le r (0*10+(c.toNat - 48))
  show 10 ^ r.length≤dval (0*10+(c.toNat - 48)) r
  refine Nat.le_trans ?_ h1
  have:1≤0*10+(c.toNat - 48):=by omega
  exact Nat.le_mul_of_pos_left _ this
theorem dval_up {l:List UInt8} (hd:∀ c∈l,isDig c=true):dval 0 l<10 ^ l.length:=by
 have:=dval_lt l 0 hd
 rwa [Nat.zero_add,Nat.one_mul]at this
theorem dval_inj' {a b:List UInt8} (na:a≠[]) (nb:b≠[]) (da:∀ c∈a,isDig c=true) (db:∀ c∈b,isDig c=true) (ha:a.head?≠some 48) (hb:b.head?≠some 48) (h:dval 0 a=dval 0 b):a=b:=by
 have a1:=dval_head na da ha
 have b1:=dval_head nb db hb
 have a2:=dval_up da
 have b2:=dval_up db
 have la:1≤a.length:=by
  rcases Nat.eq_zero_or_pos a.length with e | e
  ·exact absurd (List.eq_nil_of_length_eq_zero e) na
  ·exact e
 have lb:1≤b.length:=by
  rcases Nat.eq_zero_or_pos b.length with e | e
  ·exact absurd (List.eq_nil_of_length_eq_zero e) nb
  ·exact e
 have e1:¬ a.length<b.length:=fun hlt=>by
  have:=Nat.pow_le_pow_right (show 0<10 by decide) (show a.length≤b.length - 1 by omega)
  omega
 have e2:¬ b.length<a.length:=fun hlt=>by
  have:=Nat.pow_le_pow_right (show 0<10 by decide) (show b.length≤a.length - 1 by omega)
  omega
 exact dval_inj b.length a b (by omega) rfl da db h
theorem dec_parts {neg:Bool} {dg:ByteArray} {ex:Int} (h:decOk neg dg ex=true) :
  (dg.data.toList=[48]∧ex=0∧neg=false)∨(dg.data.toList≠[]∧(∀ c∈dg.data.toList,isDig c=true)∧dg.data.toList.head?≠some 48∧dg.data.toList.getLast?≠some 48):=by
 unfold decOk at h
 rw [Bool.and_eq_true,Bool.and_eq_true]at h
 obtain ⟨h1,h2,h3⟩:=h
 have hsz:dg.data.toList.length=dg.size:=by simp
 by_cases h0:dg.toList=[48]
 ·rw [if_pos h0,Bool.and_eq_true,decide_eq_true_iff]at h3
  refine .inl ⟨?_,h3.1,by simpa using h3.2⟩
  rw [← ByteArray.toList_eq]
  exact h0
 ·rw [if_neg h0,Bool.and_eq_true,Bool.and_eq_true]at h3
  have hl:=h3.2.2
  rw [Bool.not_eq_true',decide_eq_false_iff_not]at hl
  unfold natOk at h1
  rw [Bool.and_eq_true,Bool.and_eq_true,Bool.and_eq_true,decide_eq_true_iff]at h1
  obtain ⟨g1,g2,g3,g4⟩:=h1
  rw [Bool.not_eq_true',Bool.and_eq_false_iff,decide_eq_false_iff_not,decide_eq_false_iff_not]at g3
  refine .inr ⟨fun e=>by rw [e]at hsz; simp at hsz; omega,fun c hc=>List.all_eq_true.1 g4 c hc,?_,hl⟩
  rcases g3 with g | g
  ·intro e
   apply h0
   rw [ByteArray.toList_eq]
   cases hq:dg.data.toList with
   | nil=>rw [hq]at e; cases e
   | cons c r =>
    rw [hq]at e hsz
    rw [List.length_cons]at hsz
    have:r=[]:=List.eq_nil_of_length_eq_zero (by omega)
    rw [this]
    rw [List.head?_cons]at e
    rw [Option.some.inj e]
  ·exact g
theorem dval_last {l:List UInt8} (hl:l≠[]) (hd:∀ c∈l,isDig c=true) (h0:l.getLast?≠some 48):dval 0 l % 10≠0:=by
 have e:=List.dropLast_concat_getLast hl
 have hc:=isDig_iff (hd _ (List.getLast_mem hl))
 have hne:(l.getLast hl).toNat≠48:=fun q=>h0 (by rw [List.getLast?_eq_some_getLast hl,show l.getLast hl=48 from UInt8.toNat_inj.1 q])
 rw [← e,dval_append]
 omega
theorem pow_ten {a b m n:Nat} (ha:a % 10≠0) (hb:b % 10≠0) (h:a*10 ^ m=b*10 ^ n):m=n∧a=b:=by
 have key:∀ {a b m n:Nat},b % 10≠0→m≤n→a*10 ^ m=b*10 ^ n→a % 10≠0→m=n∧a=b:=fun {a b m n} _ hmn h ha=>by
  obtain ⟨k,rfl⟩:∃ k,n=m+k:=⟨n - m,by omega⟩
  rw [Nat.pow_add,Nat.mul_comm (10 ^ m),← Nat.mul_assoc]at h
  have h2:=Nat.eq_of_mul_eq_mul_right (Nat.pow_pos (by decide)) h
  cases k with
  | zero=>exact ⟨rfl,by rw [h2,Nat.pow_zero,Nat.mul_one]⟩
  | succ k =>
   exfalso
   apply ha
   rw [h2,Nat.pow_succ,← Nat.mul_assoc]
   exact Nat.mul_mod_left _ _
 rcases Nat.le_total m n with hmn | hmn
 ·exact key hb hmn h ha
 ·obtain ⟨h1,h2⟩:=key ha hmn h.symm hb
  exact ⟨h1.symm,h2.symm⟩
theorem toInt_inj {n1 n2:Bool} {d1 d2:ByteArray} {e1 e2:Int} {r:Bool×Nat} (h1:toIntD n1 d1 e1=some r) (h2:toIntD n2 d2 e2=some r):n1=n2∧d1=d2∧e1=e2:=by
 unfold toIntD at h1 h2
 split at h1
 ·rename_i c1
  split at h2
  ·rename_i c2
   have h1:=Option.some.inj h1
   have h2:=Option.some.inj h2
   rw [← h2]at h1
   have en:n1=n2:=congrArg Prod.fst h1
   have ev:wholeN d1 e1=wholeN d2 e2:=congrArg Prod.snd h1
   obtain ⟨k1,p1,q1,_⟩:=c1
   obtain ⟨k2,p2,q2,_⟩:=c2
   unfold wholeN at ev
   have fin:d1.data.toList=d2.data.toList→e1=e2→n1=n2∧d1=d2∧e1=e2:=fun hd he=>⟨en,str_ext hd,he⟩
   have z:dval 0 [48]=0:=by decide
   have nz:∀ {d:ByteArray} {e:Int},d.data.toList≠[]→(∀ c∈d.data.toList,isDig c=true)→d.data.toList.getLast?≠some 48→0<dval 0 d.data.toList*10 ^ e.toNat:=fun ha hb hc=>by
    have:=dval_last ha hb hc
    exact Nat.mul_pos (by omega) (Nat.pow_pos (by decide))
   rcases dec_parts k1 with ⟨a1,a2,a3⟩ | ⟨a1,a2,a3,a4⟩ <;> rcases dec_parts k2 with ⟨b1,b2,b3⟩ | ⟨b1,b2,b3,b4⟩
   ·exact fin (by rw [a1,b1]) (by rw [a2,b2])
   ·exfalso
    have:=nz (e:=e2) b1 b2 b4
    rw [a1,z]at ev
    omega
   ·exfalso
    have:=nz (e:=e1) a1 a2 a4
    rw [b1,z]at ev
    omega
   ·obtain ⟨m,hv⟩:=pow_ten (dval_last a1 a2 a4) (dval_last b1 b2 b4) ev
    exact fin (dval_inj' a1 b1 a2 b2 a3 b3 hv) (by omega)
  ·cases h2
 ·cases h1
theorem toInt_lt {n:Bool} {d:ByteArray} {e:Int} {neg:Bool} {k:Nat} (h:toIntD n d e=some (neg,k)):k<18446744073709551616∧(neg=true→0<k):=by
 unfold toIntD at h
 split at h
 ·rename_i c
  obtain ⟨k1,p1,q1,hlt⟩:=c
  have h:=Option.some.inj h
  have en:n=neg:=congrArg Prod.fst h
  have ev:wholeN d e=k:=congrArg Prod.snd h
  rw [← ev]
  refine ⟨hlt,fun hn=>?_⟩
  unfold wholeN
  rcases dec_parts k1 with ⟨a1,a2,a3⟩ | ⟨a1,a2,a3,a4⟩
  ·rw [en,hn]at a3
   cases a3
  ·have:=dval_last a1 a2 a4
   exact Nat.mul_pos (by omega) (Nat.pow_pos (by decide))
 ·cases h
def keyO (f:Int) (o:Own):Bool:=
 if o.kind=5 then true else if f=1 then false else if o.kind=3 then (toIntD o.neg o.dg o.ex).isSome else decide (o.kind=6) || (decide (o.kind=2) || decide (o.kind=1))
def keysFit (f:Int):List Tr→Bool
 | []=>true
 | [k]=>keyO f k.own
 | k::_::r=>keyO f k.own && keysFit f r
def whole63 (r:Option (Bool×Nat)):Bool:=match r with
 | some (neg,k)=>!neg || decide (k≤9223372036854775808)
 | none=>false
def fitO (f:Int) (fl:Own→Bool) (o:Own) (l:List Tr):Bool:=
 if o.kind=4 then fl o
 else if o.kind=3 then decide (f=1) || (((decide (f=2) || decide (f=3)) && (toIntD o.neg o.dg o.ex).isSome) || (decide (f=4) && whole63 (toIntD o.neg o.dg o.ex)))
 else if o.kind=6 then decide (f=2) || (decide (f=3) || decide (f=4))
 else if o.kind=9∨o.kind=10 then decide (f=2) || decide (f=3)
 else if o.kind=11 then decide (f=4)
 else if o.kind=8 then (decide (f=1) || (decide (f=2) || (decide (f=3) || decide (f=4)))) && keysFit f l
 else decide (f=1) || (decide (f=2) || (decide (f=3) || decide (f=4)))
mutual
def fitT (f:Int) (fl:Own→Bool):Tr→Bool
 | .nd o l=>fitO f fl o l && fitL f fl l
def fitL (f:Int) (fl:Own→Bool):List Tr→Bool
 | []=>true
 | t::l=>fitT f fl t && fitL f fl l
end
theorem fitT_eq (f:Int) (fl:Own→Bool) (t:Tr):fitT f fl t=(fitO f fl t.own t.kids && fitL f fl t.kids):=by
 cases t
 rw [fitT]
 rfl
noncomputable def checkT (f:Int) (fl:Own→Bool) (t:Tr):Int:=if rightT t=true then (if fitT f fl t=true then 0 else 61) else 60
def flC (_:Own):Bool:=true
end Go.Proofs.YtonihophanmaaaaGreatDoor
