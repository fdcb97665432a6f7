/- The texts TreeD, UtfA, Str, UtfIs, UtfW, put together. -/
import Derived.Test.YtfckekaegjjmkaaGreatDoorPh02
import Derived.Test.YtfckekaegjjmkaaGreatDoorPh01
import Derived.Test.YtfckekaegjjmkaaGreatDoorChecked
import Derived.IntWalk
import Derived.Laws.BitsLemmas
import Derived.Outline
import Derived.WalkKit
import Derived.LaidEql
import Derived.Stop.Asserts
import Derived.RowKitTokens
import Derived.Shelf.Unicode.ValidAny
namespace Go.Proofs.YtfckekaegjjmkaaGreatDoor
open Go.RowKit Go.Shelf

mutual
theorem cut_count:∀ (d:Nat) (t:Tr),(cutT d t).count ≤ t.count
 | 0,t=>by
  rw [Tr.count_eq,Tr.count_eq t]
  show 1 + countL [] ≤ _
  rw [countL]
  omega
 | d + 1,.nd o l=>by
  rw [Tr.count_eq,Tr.count_eq (.nd o l)]
  show 1 + countL ((l.take 40).map (cutT d)) ≤ 1 + countL l
  have h1:=cut_countL d (l.take 40)
  have h2:=countL_mono l 40
  omega
theorem cut_countL:∀ (d:Nat) (l:List Tr),countL (l.map (cutT d)) ≤ countL l
 | _,[]=>by simp
 | d,t :: l=>by
  show (cutT d t).count + countL (l.map (cutT d)) ≤ t.count + countL l
  have h1:=cut_count d t
  have h2:=cut_countL d l
  omega
end
def fewT (t:Tr):Tr:=if 400 < (cutT 17 t).count then .nd (cutO t.own) [] else cutT 17 t
theorem fewT_own (t:Tr):(fewT t).own=cutO t.own:=by
 unfold fewT
 split
 ·rfl
 ·exact cutT_own 17 t
theorem few_count (t:Tr):(fewT t).count ≤ 400:=by
 unfold fewT
 split
 ·rw [Tr.count_eq]
  show 1 + countL [] ≤ 400
  rw [countL]
  omega
 ·omega
theorem blk_row {W:World} {p:Nat} {cs:Array Value} {t:TypeId} (h:Blk W p cs t) (cs':Array Value):Blk (W.setRow p cs') p cs' t:=setRow_heap _ _ _ _ _ _ h
theorem blk_row_other {W:World} {p q:Nat} {cs:Array Value} {t:TypeId} (h:Blk W q cs t) (hne:q ≠ p) (cs':Array Value):Blk (W.setRow p cs') q cs t:=(setRow_other _ _ _ _ hne).trans h
theorem grown_row (w:World) (p:Nat) (cs:Array Value):w.grownBy (w.setRow p cs) (some p):=
 ⟨rfl,rfl,rfl,by simp,fun k _ hk=>setRow_other _ _ _ _ (fun e=>hk (by rw [e]))⟩

set_option maxHeartbeats 4000000 in
set_option maxRecDepth 100000 in
theorem law_FewT (t:Tr) (x:Value) (w:World) (B D:Nat) (hl:ListAt w B D t.kids x) (ho:OwnOk t.own) (hB:B ≤ w.heap.size) (hc:t.count ≤ 1000000000) :
  Calls Tryz.prog 15 #[nodeV t.own x] w fun e w'=>(∃ y,e=.returned (nodeV (fewT t).own y) ∧ LAt w' (fun q=>w.heap.size ≤ q ∧ q < w'.heap.size) 17 (fewT t).kids y) ∧ Below w.heap.size w w':=by
 have hbx:=box2 w (cellsV t.own x) (cellsV ⟨0,false,false,⟨#[]⟩,0,0,0,⟨#[]⟩⟩ (.slice none 0 0)) 27 27
 have HC:=law_Cut 17 (by omega) t x _ B D (hl.below hbx.1 hB) ho (Nat.le_trans hB hbx.1.size)
 have hcc:(cutT 17 t).count ≤ 1000000000:=Nat.le_trans (cut_count 17 t) hc
 have HN:=Lib.hid (fun y (w':World) (B:Nat) (h:LAt w' (fun q=>q < B) 17 (cutT 17 t).kids y) (hB:B ≤ w'.heap.size)=>ref_Count 17 (cutT 17 t) y w' B h hB (by omega))
 rw [cutT_own] at HN
 rw [fewT_own]
 have hfew:(fewT t).kids=if 400 < (cutT 17 t).count then [] else (cutT 17 t).kids:=by
  unfold fewT
  split <;> rfl
 rw [hfew]
 obtain ⟨cl,hcl⟩:∃ cl,(cutT 17 t).kids=cl:=⟨_,rfl⟩
 obtain ⟨cn,hcn⟩:∃ cn,(cutT 17 t).count=cn:=⟨_,rfl⟩
 rw [hcl] at HC HN ⊢
 rw [hcn] at HN hcc ⊢
 obtain ⟨fl,hfl⟩:∃ fl,(if 400 < cn then [] else cl)=fl:=⟨_,rfl⟩
 rw [hfl]
 have HFL:=Lib.hid hfl
 clear hfl
 obtain ⟨o2,ho2⟩:∃ o2,cutO t.own=o2:=⟨_,rfl⟩
 rw [ho2] at HC HN ⊢
 obtain ⟨kind2,b2,neg2,dg2,ex2,u2,wd2,s2⟩:=o2
 obtain ⟨⟨kind,b,neg,dg,ex,u,wd,s⟩,ho'⟩:∃ o,t.own=o:=⟨_,rfl⟩
 rw [ho'] at HC hbx ⊢
 unfold cellsV at hbx HC
 unfold nodeV at HC HN ⊢
 simp only [] at HC HN hbx ⊢
 have HC:=Lib.hid HC
 obtain ⟨h1,h2,h3⟩:=hbx
 have H1:=Lib.hid h1
 have H2:=Lib.hid h2
 have H3:=Lib.hid h3
 clear hl ho hc hfew ho2 ho' h1 h2 h3 hcl hcn
 go_enter Tryz.func15,Tryz.ntmps15
 go_wp2_with fail
 refine HC.out.mono ?_
 rintro e w1 ⟨⟨y,rfl,hly⟩,hb⟩
 obtain ⟨_,A,c,rfl⟩:=hly.slice
 obtain ⟨n,hn⟩:∃ n,cl.length=n:=⟨_,rfl⟩
 rw [hn] at hly ⊢
 have hz:=hb.size
 simp only [World.size_alloc] at hz
 have hbw:=H1.out.trans (hb.mono H1.out.size)
 have hk1:=H2.out.below hb H2.out.lt
 have hk2:=H3.out.below hb H3.out.lt
 have hly2:LAt w1 (fun q=>w.heap.size + 2 ≤ q ∧ q < w1.heap.size) 17 cl (.slice A n c):=hly.mono (fun q hq=>by
  have:=hq.1
  simp only [World.size_alloc] at this
  exact ⟨by omega,hq.2⟩)
 clear H1 H2 H3 HC hb hly
 have hbw2:Below w.heap.size w (w1.setRow w.heap.size #[.int .i64 kind2,.bool b2,.bool neg2,.string dg2,.int .i64 ex2,.int .u64 u2,.int .i64 wd2,.string s2,.slice A n c]):=hbw.grown (grown_row w1 w.heap.size _) hbw.size (fun q e=>by cases e; exact Nat.le_refl _)
 have hk3:=blk_row hk1 #[.int .i64 kind2,.bool b2,.bool neg2,.string dg2,.int .i64 ex2,.int .u64 u2,.int .i64 wd2,.string s2,.slice A n c]
 have hk4:=blk_row_other hk2 (by omega:w.heap.size + 1 ≠ w.heap.size) #[.int .i64 kind2,.bool b2,.bool neg2,.string dg2,.int .i64 ex2,.int .u64 u2,.int .i64 wd2,.string s2,.slice A n c]
 have hly3:LAt (w1.setRow w.heap.size #[.int .i64 kind2,.bool b2,.bool neg2,.string dg2,.int .i64 ex2,.int .u64 u2,.int .i64 wd2,.string s2,.slice A n c]) (fun q=>w.heap.size + 2 ≤ q ∧ q < w1.heap.size) 17 cl (.slice A n c):=hly2.keep (fun q hq=>setRow_other _ _ _ _ (by omega))
 have hz3:(w1.setRow w.heap.size #[.int .i64 kind2,.bool b2,.bool neg2,.string dg2,.int .i64 ex2,.int .u64 u2,.int .i64 wd2,.string s2,.slice A n c]).heap.size=w1.heap.size:=setRow_size _ _ _
 have HK1:=Lib.hid hk1
 clear hk2 hly2 hbw hk1
 have HK3:=Lib.hid hk3
 clear hk3
 go_wp2_with (first | (refine wpList_store_row rfl 27 (.tmp 1) (.tmp 4) rfl w.heap.size #[.int .i64 kind2,.bool b2,.bool neg2,.string dg2,.int .i64 ex2,.int .u64 u2,.int .i64 wd2,.string s2,.slice A n c] rfl rfl 27 _ HK1.out (by kernel_rfl) rfl (by simp [Value.oneCell']) ?_) | (refine wpList_load_row rfl 27 (.tmp 1) rfl w.heap.size rfl 27 _ (0,0) _ HK3.out Tryz.underlying27 rfl (by kernel_rfl) ?_))
 clear HK1
 generalize w1.setRow w.heap.size #[.int .i64 kind2,.bool b2,.bool neg2,.string dg2,.int .i64 ex2,.int .u64 u2,.int .i64 wd2,.string s2,.slice A n c]=w2 at *
 refine (HN.out _ w2 w2.heap.size (hly3.mono (fun q hq=>by omega)) (Nat.le_refl _)).mono ?_
 rintro e w3 ⟨rfl,hb⟩
 have hz5:=hb.size
 have hbw3:=hbw2.trans (hb.mono hbw2.size)
 have hk5:=HK3.out.below hb HK3.out.lt
 have hk6:=hk4.below hb hk4.lt
 have hly5:LAt w3 (fun q=>w.heap.size + 2 ≤ q ∧ q < w1.heap.size) 17 cl (.slice A n c):=hly3.keep (fun q hq=>hb.block q (by omega))
 clear hb hly3 hk4 HK3 hbw2 HN
 by_cases h400:400 < cn
 ·obtain rfl:[]=fl:=by rw [← HFL.out,if_pos h400]
  have y1:(400:Int) < cn:=by omega
  have f8:=hk5.frozen 8
  have k8:=hk5.cell 8
  have hs1:Blk (w3.setCell ⟨w.heap.size,8,none⟩ (.slice none 0 0)) w.heap.size #[.int .i64 kind2,.bool b2,.bool neg2,.string dg2,.int .i64 ex2,.int .u64 u2,.int .i64 wd2,.string s2,.slice none 0 0] 27:=hk5.set 8 _
  have hs2:Blk (w3.setCell ⟨w.heap.size,8,none⟩ (.slice none 0 0)) (w.heap.size + 1) _ 27:=blk_keep hk6 (Below.heap_setCell w3 ⟨w.heap.size,8,none⟩ _ _ (fun e=>by have e:w.heap.size + 1=w.heap.size:=e; omega))
  have hb3:Below w.heap.size w (w3.setCell ⟨w.heap.size,8,none⟩ (.slice none 0 0)):=hbw3.grown (grown_setT w3 w.heap.size 8 _) hbw3.size (fun q e=>by cases e; exact Nat.le_refl _)
  have hs3:=blk_row hs2 #[.int .i64 kind2,.bool b2,.bool neg2,.string dg2,.int .i64 ex2,.int .u64 u2,.int .i64 wd2,.string s2,.slice none 0 0]
  have hb4:Below w.heap.size w ((w3.setCell ⟨w.heap.size,8,none⟩ (.slice none 0 0)).setRow (w.heap.size + 1) #[.int .i64 kind2,.bool b2,.bool neg2,.string dg2,.int .i64 ex2,.int .u64 u2,.int .i64 wd2,.string s2,.slice none 0 0]):=hb3.grown (grown_row _ (w.heap.size + 1) _) hb3.size (fun q e=>by cases e; omega)
  have HS1:=Lib.hid hs1
  have HS2:=Lib.hid hs2
  have HS3:=Lib.hid hs3
  have HB4:=Lib.hid hb4
  clear hs1 hs2 hb3 hs3 hb4 hly5 h400 hk5 hk6
  go_wp2_with (first | (refine wpList_load_row rfl 27 (.tmp 1) rfl w.heap.size rfl 27 _ (0,0) _ HS1.out Tryz.underlying27 rfl (by kernel_rfl) ?_) | (refine wpList_store_row rfl 27 (.tmp 2) (.tmp 9) rfl (w.heap.size + 1) #[.int .i64 kind2,.bool b2,.bool neg2,.string dg2,.int .i64 ex2,.int .u64 u2,.int .i64 wd2,.string s2,.slice none 0 0] rfl rfl 27 _ HS2.out (by kernel_rfl) rfl (by simp [Value.oneCell']) ?_))
  refine bodyPost_ret (v:=.agg #[.int .i64 kind2,.bool b2,.bool neg2,.string dg2,.int .i64 ex2,.int .u64 u2,.int .i64 wd2,.string s2,.slice none 0 0]) (results_cell_row rfl _ _ (w.heap.size + 1) 27 _ (0,0) _ rfl HS3.out Tryz.underlying27 rfl (by kernel_rfl)) rfl ?_
  exact ⟨⟨_,rfl,LAt.nil _ _ _ _ _⟩,HB4.out⟩
 ·obtain rfl:cl=fl:=by rw [← HFL.out,if_neg h400]
  have y1:¬ (400:Int) < cn:=by omega
  have hs3:=blk_row hk6 #[.int .i64 kind2,.bool b2,.bool neg2,.string dg2,.int .i64 ex2,.int .u64 u2,.int .i64 wd2,.string s2,.slice A n c]
  have hb4:Below w.heap.size w (w3.setRow (w.heap.size + 1) #[.int .i64 kind2,.bool b2,.bool neg2,.string dg2,.int .i64 ex2,.int .u64 u2,.int .i64 wd2,.string s2,.slice A n c]):=hbw3.grown (grown_row _ (w.heap.size + 1) _) hbw3.size (fun q e=>by cases e; omega)
  have hly6:LAt (w3.setRow (w.heap.size + 1) #[.int .i64 kind2,.bool b2,.bool neg2,.string dg2,.int .i64 ex2,.int .u64 u2,.int .i64 wd2,.string s2,.slice A n c]) (fun q=>w.heap.size ≤ q ∧ q < (w3.setRow (w.heap.size + 1) #[.int .i64 kind2,.bool b2,.bool neg2,.string dg2,.int .i64 ex2,.int .u64 u2,.int .i64 wd2,.string s2,.slice A n c]).heap.size) 17 cl (.slice A n c):=(hly5.keep (fun q hq=>setRow_other _ _ _ _ (by omega))).mono (fun q hq=>⟨by omega,by rw [setRow_size]; omega⟩)
  have HS1:=Lib.hid hk5
  have HS2:=Lib.hid hk6
  have HS3:=Lib.hid hs3
  have HB4:=Lib.hid hb4
  have HL6:=Lib.hid hly6
  clear hs3 hb4 hly5 h400 hk5 hk6 hly6
  go_wp2_with (first | (refine wpList_load_row rfl 27 (.tmp 1) rfl w.heap.size rfl 27 _ (0,0) _ HS1.out Tryz.underlying27 rfl (by kernel_rfl) ?_) | (refine wpList_store_row rfl 27 (.tmp 2) (.tmp 9) rfl (w.heap.size + 1) #[.int .i64 kind2,.bool b2,.bool neg2,.string dg2,.int .i64 ex2,.int .u64 u2,.int .i64 wd2,.string s2,.slice A n c] rfl rfl 27 _ HS2.out (by kernel_rfl) rfl (by simp [Value.oneCell']) ?_))
  refine bodyPost_ret (v:=.agg #[.int .i64 kind2,.bool b2,.bool neg2,.string dg2,.int .i64 ex2,.int .u64 u2,.int .i64 wd2,.string s2,.slice A n c]) (results_cell_row rfl _ _ (w.heap.size + 1) 27 _ (0,0) _ rfl HS3.out Tryz.underlying27 rfl (by kernel_rfl)) rfl ?_
  exact ⟨⟨_,rfl,HL6.out⟩,HB4.out⟩
end Go.Proofs.YtfckekaegjjmkaaGreatDoor
namespace Go.Proofs.YtfckekaegjjmkaaGreatDoor
open Go.RowKit Go.Shelf

def pairOk (hi lo:Int):Bool:=decide (55296 ≤ hi ∧ hi < 56320 ∧ 56320 ≤ lo ∧ lo ≤ 57343)
def pairOf (hi lo:Int):Int:=if pairOk hi lo then 65536 + (hi - 55296) * 1024 + lo - 56320 else 0

theorem wraps_i32:∀ n:Int,0 ≤ n → n < 2 ^ 31 → IntKind.i32.wrap n=n:=fun n h0 h1=>IntWalk.i32_in n (by omega)
theorem i32_and15 (x:Int) (h0:0 ≤ x) (h1:x < 2147483648):bits .and .i32 x 15=x % 16:=bits_mask .i32 31 (by decide) wraps_i32 4 (by decide) x h0 h1

set_option maxRecDepth 100000 in
set_option maxHeartbeats 1000000 in
theorem utf_Pair (hi lo:Int) (h0:0 ≤ hi ∧ hi < 65536) (l0:0 ≤ lo ∧ lo < 65536) (w:World) :
  Calls Tryz.prog 246 #[.int .u16 hi,.int .u16 lo] w fun e w'=>e=.returned (.tuple #[.int .i32 (pairOf hi lo),.bool (pairOk hi lo)]) ∧ w=w':=by
 unfold pairOf
 by_cases h:pairOk hi lo=true
 ·rw [if_pos h,h]
  simp only [pairOk,decide_eq_true_eq] at h
  obtain ⟨h1,h2,h3,h4⟩:=h
  go_enter Tryz.func246,Tryz.ntmps246
  go_wp2
  go_ret2
  exact ⟨rfl,rfl⟩
 ·rw [if_neg h,Bool.eq_false_iff.2 h]
  simp only [pairOk,decide_eq_true_eq] at h
  by_cases h1:hi < 55296
  ·clear h
   go_enter Tryz.func246,Tryz.ntmps246
   go_wp2
   go_ret2
   exact ⟨rfl,rfl⟩
  ·by_cases h2:56320 ≤ hi
   ·clear h
    go_enter Tryz.func246,Tryz.ntmps246
    go_wp2
    go_ret2
    exact ⟨rfl,rfl⟩
   ·by_cases h3:lo < 56320
    ·clear h
     go_enter Tryz.func246,Tryz.ntmps246
     go_wp2
     go_ret2
     exact ⟨rfl,rfl⟩
    ·have h4:57343 < lo:=by omega
     clear h
     go_enter Tryz.func246,Tryz.ntmps246
     go_wp2
     go_ret2
     exact ⟨rfl,rfl⟩
end Go.Proofs.YtfckekaegjjmkaaGreatDoor
namespace Go.Proofs.YtfckekaegjjmkaaGreatDoor
open Go.RowKit Go.Shelf

theorem grown_below {n p:Nat} {w w':World} (h:w.grownBy w' (some p)) (hn:n ≤ p) (hp:p < w.heap.size):Below n w w':=
 ⟨h.os,h.tape,h.output,h.size,fun k hk=>h.block k (by omega) (fun e=>by cases e; omega)⟩
theorem below_grown {w w':World} (h:Below w.heap.size w w') (r:Option Nat):w.grownBy w' r:=⟨h.os,h.tape,h.output,h.size,fun k hk _=>h.block k hk⟩
theorem grown_trans {a b c:World} {r:Option Nat} (h:a.grownBy b r) (k:b.grownBy c r):a.grownBy c r:=
 ⟨k.os.trans h.os,k.tape.trans h.tape,k.output.trans h.output,Nat.le_trans h.size k.size,fun i hi hr=>(k.block i (Nat.lt_of_lt_of_le hi h.size) hr).trans (h.block i hi hr)⟩
theorem grown_set (w:World) (p i:Nat) (v:Value):w.grownBy (w.setCell ⟨p,i,none⟩ v) (some p):=
 ⟨rfl,rfl,rfl,by simp [World.setCell],fun k _ hk=>Below.heap_setCell w ⟨p,i,none⟩ v k (fun e=>hk (by rw [e]))⟩
theorem extract_list (s:ByteArray) (k:Nat):(s.extract k s.size).data.toList=s.data.toList.drop k:=by
 rw [ByteArray.data_extract,Array.toList_extract]
 simp [List.extract]
 rw [List.take_of_length_le (by simp)]
theorem str_ext {s t:ByteArray} (h:s.data.toList=t.data.toList):s=t:=by
 apply ByteArray.ext
 exact Array.toList_inj.1 h
theorem str_empty {s:ByteArray} (h:s.size=0):s=⟨#[]⟩:=by
 apply ByteArray.ext
 apply Array.eq_empty_of_size_eq_zero
 exact h
theorem cell_below {w w':World} (hb:Below w.heap.size w w') {b i:Nat} {v:Value} (h:w.cell? ⟨b,i,none⟩=some v):w'.cell? ⟨b,i,none⟩=some v:=by
 have hlt:b < w.heap.size:=by
  apply Decidable.byContradiction
  intro hn
  have:w.heap[b]? = none:=Array.getElem?_eq_none (by omega)
  simp [World.cell?,this] at h
 rw [← h]
 simp only [World.cell?,hb.block b hlt]

theorem block_below {w w':World} (hb:Below w.heap.size w w') {b:Nat} {o:Obj} (h:w.heap[b]? = some o):w'.heap[b]? = some o:=
 (hb.block b (Array.getElem?_eq_some_iff.1 h).1).trans h

theorem var_below {w w':World} {n:String} {cs:Array Value} (h:w.var? Tryz.prog n=some cs) (hb:Below w.heap.size w w'):w'.var? Tryz.prog n=some cs:=by
 unfold World.var? at h ⊢
 cases hg:Tryz.prog.globalNamed n with
 | none=>rw [hg] at h; cases h
 | some g =>
  rw [hg] at h
  simp only [Option.bind_some] at h ⊢
  cases hh:w.heap[g]? with
  | none=>rw [hh] at h; cases h
  | some o=>rw [block_below hb hh]; rw [hh] at h; exact h

end Go.Proofs.YtfckekaegjjmkaaGreatDoor
namespace Go.Proofs.YtfckekaegjjmkaaGreatDoor
open Go.RowKit Go.Stop Go.Extern

theorem isTypeOf (v:Value) (w:World):(callFunc 59 #[.iface 289 v]).run Tryz.prog w=.ok (.value (.iface 134 (.agg #[.pointer (some ⟨Tryz.prog.globals.size,289,none⟩)]))) w:=by
 rw [@run_callFunc_extern Tryz.prog 59 _ Extern.ReflectliteType.typeOf Tryz.func59 (by kernel_rfl) (by kernel_rfl) (by kernel_rfl) (by kernel_rfl)]
 kernel_rfl
theorem isComparable (w:World):(callFunc 283 #[.agg #[.pointer (some ⟨Tryz.prog.globals.size,289,none⟩)]]).run Tryz.prog w=.ok (.value (.bool true)) w:=by
 rw [@run_callFunc_extern Tryz.prog 283 _ (Extern.ReflectliteType.method fun t=>do Extern.Rtype.noPackHeld "Comparable" t; pure (.bool (← typeInfo t).comparable)) Tryz.func283 (by kernel_rfl) (by kernel_rfl) (by kernel_rfl) (by kernel_rfl)]
 kernel_rfl
theorem isMethodComparable (n:Nat) (v:Value) (w:World):(Go.method (n + 1) 134 v "Comparable").run Tryz.prog w=.ok (283,v) w:=by kernel_rfl
theorem isComp:(Tryz.prog.info? 289).map (·.comparable)=some true:=by kernel_rfl
theorem isSize:(Tryz.prog.info? 291).map (·.size)=some 1:=by kernel_rfl
theorem noIsE (v:Value) (xT:TypeId) (w:World):(Instr.typeAssert (.iface 289 v) xT 136 true).run Tryz.prog w=.ok (.tuple #[.nilIface,.bool false]) w:=run_typeAssert_lacksB Tryz.underlying136 (by kernel_rfl) (by kernel_rfl) v xT w
theorem noUnwrapE (v:Value) (xT:TypeId) (w:World):(Instr.typeAssert (.iface 289 v) xT 139 true).run Tryz.prog w=.ok (.tuple #[.nilIface,.bool false]) w:=run_typeAssert_lacksB Tryz.underlying139 (by kernel_rfl) (by kernel_rfl) v xT w
theorem noUnwrapsE (v:Value) (xT:TypeId) (w:World):(Instr.typeAssert (.iface 289 v) xT 140 true).run Tryz.prog w=.ok (.tuple #[.nilIface,.bool false]) w:=run_typeAssert_lacksB Tryz.underlying140 (by kernel_rfl) (by kernel_rfl) v xT w

set_option maxRecDepth 100000 in
theorem is_same (a:Addr) (w:World) :
  Calls Tryz.prog 42 #[.iface 289 (.pointer (some a)),.iface 289 (.pointer (some a))] w fun e w'=>e=.returned (.bool true) ∧ w'=w:=by
 obtain ⟨i,hi,hcmp⟩:=Option.map_eq_some_iff.1 isComp
 obtain ⟨j,hj,hjs⟩:=Option.map_eq_some_iff.1 isSize
 have tT:=isTypeOf
 have cT:=isComparable
 have mR:=isMethodComparable
 obtain ⟨G,hG⟩:∃ G,Tryz.prog.globals.size=G:=⟨_,rfl⟩
 rw [hG] at tT cT
 clear hG
 have heq:=run_eql_iface_ptr_same (P:=Tryz.prog) w a Tryz.underlying62 Tryz.underlying289 hi hcmp hj
 go_enter Tryz.func42,Tryz.ntmps42
 go_wp2
 refine wp_loop_rounds 1 ?_
 rw [rounds_succ]
 go_wp2
 go_ret
 exact ⟨rfl,rfl⟩

theorem is_nil (b:Addr) (w:World) :
  Calls Tryz.prog 42 #[.nilIface,.iface 289 (.pointer (some b))] w fun e w'=>e=.returned (.bool false) ∧ w'=w:=by
 have hn:=run_eql_iface_nil_left (P:=Tryz.prog) w 289 (.pointer (some b)) Tryz.underlying62
 go_enter Tryz.func42,Tryz.ntmps42
 go_wp2
 go_ret
 exact ⟨rfl,rfl⟩

set_option maxRecDepth 100000 in
theorem is_other (a b:Addr) (ca cb:Array Value) (ta tb:TypeId) (w:World) (hne:a ≠ b) (ha:w.heap[a.block]? = some (.cells ca ta (0,0))) (hb:w.heap[b.block]? = some (.cells cb tb (0,0))) :
  Calls Tryz.prog 42 #[.iface 289 (.pointer (some a)),.iface 289 (.pointer (some b))] w fun e w'=>e=.returned (.bool false) ∧ w'=w:=by
 obtain ⟨i,hi,hcmp⟩:=Option.map_eq_some_iff.1 isComp
 obtain ⟨j,hj,hjs⟩:=Option.map_eq_some_iff.1 isSize
 have tT:=isTypeOf
 have cT:=isComparable
 have mR:=isMethodComparable
 obtain ⟨G,hG⟩:∃ G,Tryz.prog.globals.size=G:=⟨_,rfl⟩
 rw [hG] at tT cT
 clear hG
 have nE:=noIsE
 have uE:=noUnwrapE
 have vE:=noUnwrapsE
 have heq:=run_eql_iface_ptr_other (P:=Tryz.prog) w Tryz.underlying62 Tryz.underlying289 hi hcmp hj (by rw [hjs]; decide) hne ha hb
 go_enter Tryz.func42,Tryz.ntmps42
 go_wp2
 refine wp_loop_rounds 1 ?_
 rw [rounds_succ]
 go_wp2
 go_ret
 exact ⟨rfl,rfl⟩
end Go.Proofs.YtfckekaegjjmkaaGreatDoor
namespace Go.Proofs.YtfckekaegjjmkaaGreatDoor
open Go.RowKit Go.Shelf

structure UW (w:World) (aT aQ:Addr):Prop where
 hT:w.cell? ⟨6,0,none⟩=some (.iface 289 (.pointer (some aT)))
 hQ:w.cell? ⟨3,0,none⟩=some (.iface 289 (.pointer (some aQ)))
 ne:aT ≠ aQ
 bT:∃ c t,w.heap[aT.block]? = some (.cells c t (0,0))
 bQ:∃ c t,w.heap[aQ.block]? = some (.cells c t (0,0))
 tabs:Lib.Utf8Tabs 4 5 w

theorem UW.below {w w':World} {aT aQ:Addr} (h:UW w aT aQ) (hb:Below w.heap.size w w'):UW w' aT aQ where
 hT:=cell_below hb h.hT
 hQ:=cell_below hb h.hQ
 ne:=h.ne
 bT:=let ⟨c,t,e⟩:=h.bT; ⟨c,t,block_below hb e⟩
 bQ:=let ⟨c,t,e⟩:=h.bQ; ⟨c,t,block_below hb e⟩
 tabs:=Utf8Tabs_below h.tabs hb


set_option maxRecDepth 100000 in
theorem told_text {aT aQ:Addr} (w:World) (h:UW w aT aQ):Calls Tryz.prog 185 #[.iface 289 (.pointer (some aT))] w fun e w'=>e=.returned (.int .i64 20) ∧ w=w':=by
 have hT:=h.hT
 have H1:=Lib.hid (is_same aT)
 clear h
 go_enter Tryz.func185,Tryz.ntmps185
 go_wp2_with fail
 refine (H1.out _).mono ?_
 rintro e w1 ⟨rfl,rfl⟩
 go_wp2_with fail
 go_ret
 exact ⟨rfl,rfl⟩

set_option maxRecDepth 100000 in
theorem told_quote {aT aQ:Addr} (w:World) (h:UW w aT aQ):Calls Tryz.prog 185 #[.iface 289 (.pointer (some aQ))] w fun e w'=>e=.returned (.int .i64 21) ∧ w=w':=by
 have hT:=h.hT
 have hQ:=h.hQ
 obtain ⟨c1,t1,e1⟩:=h.bT
 obtain ⟨c2,t2,e2⟩:=h.bQ
 have H1:=Lib.hid (is_other aQ aT c2 c1 t2 t1 w h.ne.symm e2 e1)
 have H2:=Lib.hid (is_same aQ)
 clear h e1 e2
 go_enter Tryz.func185,Tryz.ntmps185
 go_wp2_with fail
 refine H1.out.mono ?_
 rintro e w1 ⟨rfl,rfl⟩
 go_wp2_with fail
 refine (H2.out _).mono ?_
 rintro e w1 ⟨rfl,rfl⟩
 go_wp2_with fail
 go_ret
 exact ⟨rfl,rfl⟩
end Go.Proofs.YtfckekaegjjmkaaGreatDoor
