/- The texts JwE, put together. -/
import Derived.Test.YtfckekaegjjmkaaGreatDoorPh44
import Derived.Test.YtfckekaegjjmkaaGreatDoorPh19
import Derived.Test.YtfckekaegjjmkaaGreatDoorPh40
namespace Go.Proofs.YtfckekaegjjmkaaGreatDoor
open Go.RowKit Go.Shelf

def restJ (pr:Bool) (dp:Nat) (body:List UInt8) (l:List Tr):List UInt8:=if l.length=0 then [] else body ++ lineL pr dp
def ListJ (sz op en:Nat) (body:Bool → Nat → List Tr → List UInt8) (l:List Tr):Prop:=∀ (B0 B p d:Nat) (pr:Bool) (dp:Nat) (bs:List UInt8) (A:Option Addr) (n c:Nat) (w0 W:World) (aT aF:Addr),ListAt w0 B0 d l (.slice A n c) → B0 ≤ w0.heap.size → w0.heap.size ≤ B → Below w0.heap.size w0 W → IsJ B p pr dp (Lib.byteCells bs) W → SW w0 aT aF → okJL l → allL l=true → bs.length + (restJ pr dp (body pr (dp + 1) l) l).length + 2 ≤ 900000000 → l.length=n → n % sz=0 → countL l ≤ 1000000000 → dp + 1 + depthL l ≤ 900 →
  Calls Tryz.prog 146 #[.pointer (some ⟨p,0,none⟩),.slice A n c,.int .i64 sz,.string ⟨#[UInt8.ofNat op]⟩,.string ⟨#[UInt8.ofNat en]⟩] W fun e W'=>e=.returned (.tuple #[]) ∧ JP B p pr dp (bs ++ (UInt8.ofNat op :: (restJ pr dp (body pr (dp + 1) l) l ++ [UInt8.ofNat en]))) W W'
abbrev ListJ1 (l:List Tr):Prop:=ListJ 1 91 93 (fun pr k l=>jsA quoteL pr k true l) l
abbrev ListJ2 (l:List Tr):Prop:=ListJ 2 123 125 (fun pr k l=>jsM quoteL pr k true l) l

theorem jp_grown {B p:Nat} {pr:Bool} {dp:Int} {bs:List UInt8} {W A A':World} {row:Option Nat} (hB:B ≤ W.heap.size) (h:JP B p pr dp bs W A) (hg:A.grownBy A' row) (hr:∀ r,row=some r → W.heap.size ≤ r ∧ ∃ o:Obj,A.heap[r]? = some o ∧ o.isCells=false):JP B p pr dp bs W A':=
 ⟨isJ_grown h.is hg (fun r e=>.inr (hr r e).2),h.below.grown hg (Nat.le_trans hB h.below.size) (fun k e=>Nat.le_trans hB (hr k e).1),
  fun k o hk h1 h2=>(hg.block k (Nat.lt_of_lt_of_le (Array.getElem?_eq_some_iff.1 hk).1 h.below.size) (fun e=>by have:=(hr k e.symm).1; have:=(Array.getElem?_eq_some_iff.1 hk).1; omega)).trans (h.others k o hk h1 h2)⟩
theorem allL_memJ:∀ {l:List Tr} {t:Tr},allL l=true → t ∈ l → allB t=true
 | [],_,_,h=>absurd h (by simp)
 | s :: l,t,h,hm=>by
  rw [allL,Bool.and_eq_true] at h
  rcases List.mem_cons.1 hm with rfl | hm
  ·exact h.1
  ·exact allL_memJ h.2 hm
theorem depthL_mem:∀ {l:List Tr} {t:Tr},t ∈ l → t.depth ≤ depthL l
 | [],_,h=>absurd h (by simp)
 | s :: l,t,hm=>by
  rw [depthL]
  rcases List.mem_cons.1 hm with rfl | hm
  ·omega
  ·have:=depthL_mem hm
   omega
theorem leave_mdn {fn:Func} {R:Ending → World → Prop} {a:Act} {w:World} {D:Nat} {f:FuncId} {args:Array Value} {v:Value}
  (hK:w.heap[D]? = some (.deferred (some []))) (hd:a.defers=[{ target:=.collected D,args:=#[] },{ target:=.fn (.func f) #[],args:=args }]) (hi:∀ w,(invoke (.fn (.func f) #[]) args).run Tryz.prog w=.ok (.enter f args) w)
  (h:BodyC f args (w.putObj D (.deferred none)) fun e w'=>∃ u,e=.returned u ∧ (results fn a.tmps).run Tryz.prog w'=.ok v w' ∧ R (.returned v) w'):BodyM Tryz.prog fn R .normal a w:=leave_md hK hd hi h
theorem addr_two (a:Addr) (m k:Nat):(a.add m).add k=a.add (m + k):=by
 unfold Addr.add
 cases m with
 | zero=>simp
 | succ m=>cases k <;> simp <;> omega
section
variable (Q:List UInt8 → List UInt8)
theorem rowsA_pre (p:Bool) (k:Nat):∀ (l r:List Tr) (b:Bool),(jsA Q p k b l).length ≤ (jsA Q p k b (l ++ r)).length
 | [],r,b=>by
  rw [jsA]
  exact Nat.zero_le _
 | t :: l,r,b=>by
  have h:=rowsA_pre p k l r false
  rw [List.cons_append,jsA,jsA]
  simp only [List.length_append]
  omega
theorem rowsM_pre (p:Bool) (k:Nat):∀ (n:Nat) (l r:List Tr) (b:Bool),l.length=2 * n → (jsM Q p k b l).length ≤ (jsM Q p k b (l ++ r)).length
 | 0,l,r,b,h=>by
  have:l=[]:=len_nil (by omega)
  subst this
  rw [jsM]
  exact Nat.zero_le _
 | n + 1,l,r,b,h=>by
  match l,h with
  | x :: y :: l,h =>
   have h:=rowsM_pre p k n l r false (by simp at h; omega)
   rw [List.cons_append,List.cons_append,jsM,jsM]
   simp only [List.length_append,List.length_cons]
   omega
  | [x],h=>simp at h; omega
  | [],h=>simp at h
end
theorem countL_mem:∀ {l:List Tr} {t:Tr},t ∈ l → t.count ≤ countL l
 | [],_,h=>absurd h (by simp)
 | s :: l,t,hm=>by
  rw [countL]
  rcases List.mem_cons.1 hm with rfl | hm
  ·omega
  ·have:=countL_mem hm
   omega
theorem at_node {W0:World} {B0 d n c k:Nat} {l:List Tr} {ad:Addr} {t:Tr} (h:ListAt W0 B0 d l (.slice (some ad) n c)) (ht:l[k]? = some t) :
  ∃ d' A2 n2 c2,t.kids.length=n2 ∧ ad.block < B0 ∧ NodeAt W0 (ad.add (k * 9)) t.own (.slice A2 n2 c2) ∧ ListAt W0 B0 d' t.kids (.slice A2 n2 c2):=by
 obtain ⟨hk,rfl⟩:=List.getElem?_eq_some_iff.1 ht
 obtain ⟨d',ad',x',_,had,hab,_,hna,hkk⟩:=h.at_ hk
 obtain rfl:ad=ad':=by injection had
 obtain ⟨_,A2,c2,rfl⟩:=hkk.slice
 exact ⟨d',A2,_,c2,rfl,hab,hna,hkk⟩
theorem words_inv (args:Array Value) (w:World):(invoke (.fn (.func 143) #[]) args).run Tryz.prog w=.ok (.enter 143 args) w:=by
 have h:=enters_of Tryz.func143 (by kernel_rfl) rfl args w
 simp [invoke,h]

set_option maxHeartbeats 8000000 in
set_option maxRecDepth 100000 in
theorem j_list1_nil:ListJ1 []:=by
 intro B0 B p d pr dp bs A n c w0 W aT aF hl hB0 hB hb hI hG hok hall hlen hn _ hn2 hdp
 obtain rfl:n=0:=hn.symm
 clear hl hok hall hdp hG hb hn hn2
 have hbA:Below W.heap.size W (((W.alloc (.cells #[.pointer (some ⟨p,0,none⟩)] 78)).alloc (.cells #[.int .i64 1] 3)).alloc (.cells #[.string ⟨#[91]⟩] 9)):=(((Below.refl _ W).alloc (Nat.le_refl _) _).alloc (by simp) _).alloc (by simp; omega) _
 obtain ⟨Wb,hWb⟩:∃ Wb,((W.alloc (.cells #[.pointer (some ⟨p,0,none⟩)] 78)).alloc (.cells #[.int .i64 1] 3)).alloc (.cells #[.string ⟨#[91]⟩] 9)=Wb:=⟨_,rfl⟩
 have hk0:Blk Wb W.heap.size #[.pointer (some ⟨p,0,none⟩)] 78:=by
  rw [← hWb]
  exact ((Blk.new _ _ _).alloc _).alloc _
 have hk2:Blk Wb (W.heap.size + 1 + 1) #[.string ⟨#[91]⟩] 9:=by
  rw [← hWb]
  have:=Blk.new ((W.alloc (.cells #[.pointer (some ⟨p,0,none⟩)] 78)).alloc (.cells #[.int .i64 1] 3)) #[.string ⟨#[91]⟩] 9
  rw [World.size_alloc,World.size_alloc] at this
  exact this
 rw [hWb] at hbA
 have hs:=JP.step hI hbA
 have hlen0:bs.length + 2 ≤ 900000000:=by
  have:(restJ pr dp (jsA quoteL pr (dp + 1) true []) []).length=0:=rfl
  omega
 have HW:=Lib.hid (j_words1 B p (W.heap.size + 1 + 1) pr dp bs ⟨#[91]⟩ Wb hs.is (by show bs.length + 1 ≤ _; omega) hk2).calls
 rw [show (⟨#[91]⟩:ByteArray).data.toList=[91] from rfl] at HW
 have HWB:=Lib.hid hWb
 have z0:=hk0.cell 0
 have hp0:p < W.heap.size:=hI.lt
 refine calls_of_marks Tryz.func146 rfl ?_
 simp only [Tryz.ntmps146,List.size_toArray,List.length_cons,List.length_nil,Nat.reduceAdd,Nat.reduceSub,Array.replicate_succ,Array.replicate_zero,List.push_toArray,List.append_toArray,List.nil_append,List.cons_append]
 clear hWb hI hbA hk2
 go_wp2_with fail
 go_step3
 go_wp2_with fail
 rw [HWB.out]
 refine HW.out.mono ?_
 rintro e W1 ⟨rfl,h1⟩
 have hs1:=hs.trans h1
 have hk1:=h1.blk hk0 (by omega) (by decide)
 clear z0 hk0 h1 hs HW HWB
 have z0:=hk1.cell 0
 go_wp2_with fail
 rw [Exit.noGoto_ret]
 refine leave_d (v:=.tuple #[]) rfl (words_inv _ _) ?_
 refine bodyC_mono (j_words1 B p W1.heap.size pr dp (bs ++ [91]) ⟨#[93]⟩ _ (JP.step hs1.is ((Below.refl W1.heap.size W1).alloc (Nat.le_refl _) (.cells #[.string ⟨#[93]⟩] 9))).is (by show (bs ++ [91]).length + 1 ≤ _; rw [List.length_append]; show bs.length + 1 + 1 ≤ _; omega) (Blk.new _ _ _)) ?_
 rintro e w' ⟨rfl,h2⟩
 have h3:=(hs1.trans (JP.step hs1.is ((Below.refl W1.heap.size W1).alloc (Nat.le_refl _) (.cells #[.string ⟨#[93]⟩] 9)))).trans h2
 refine ⟨_,rfl,results_none rfl _ _ _,rfl,?_⟩
 have e:bs ++ [91] ++ (⟨#[93]⟩:ByteArray).data.toList=bs ++ (UInt8.ofNat 91 :: (restJ pr dp (jsA quoteL pr (dp + 1) true []) [] ++ [UInt8.ofNat 93])):=by
  rw [List.append_assoc]
  rfl
 rw [e] at h3
 exact h3

set_option maxHeartbeats 8000000 in
set_option maxRecDepth 100000 in
theorem j_list2_nil:ListJ2 []:=by
 intro B0 B p d pr dp bs A n c w0 W aT aF hl hB0 hB hb hI hG hok hall hlen hn _ hn2 hdp
 obtain rfl:n=0:=hn.symm
 clear hl hok hall hdp hG hb hn hn2
 have hbA:Below W.heap.size W (((W.alloc (.cells #[.pointer (some ⟨p,0,none⟩)] 78)).alloc (.cells #[.int .i64 2] 3)).alloc (.cells #[.string ⟨#[123]⟩] 9)):=(((Below.refl _ W).alloc (Nat.le_refl _) _).alloc (by simp) _).alloc (by simp; omega) _
 obtain ⟨Wb,hWb⟩:∃ Wb,((W.alloc (.cells #[.pointer (some ⟨p,0,none⟩)] 78)).alloc (.cells #[.int .i64 2] 3)).alloc (.cells #[.string ⟨#[123]⟩] 9)=Wb:=⟨_,rfl⟩
 have hk0:Blk Wb W.heap.size #[.pointer (some ⟨p,0,none⟩)] 78:=by
  rw [← hWb]
  exact ((Blk.new _ _ _).alloc _).alloc _
 have hk2:Blk Wb (W.heap.size + 1 + 1) #[.string ⟨#[123]⟩] 9:=by
  rw [← hWb]
  have:=Blk.new ((W.alloc (.cells #[.pointer (some ⟨p,0,none⟩)] 78)).alloc (.cells #[.int .i64 2] 3)) #[.string ⟨#[123]⟩] 9
  rw [World.size_alloc,World.size_alloc] at this
  exact this
 rw [hWb] at hbA
 have hs:=JP.step hI hbA
 have hlen0:bs.length + 2 ≤ 900000000:=by
  have:(restJ pr dp (jsM quoteL pr (dp + 1) true []) []).length=0:=rfl
  omega
 have HW:=Lib.hid (j_words1 B p (W.heap.size + 1 + 1) pr dp bs ⟨#[123]⟩ Wb hs.is (by show bs.length + 1 ≤ _; omega) hk2).calls
 rw [show (⟨#[123]⟩:ByteArray).data.toList=[123] from rfl] at HW
 have HWB:=Lib.hid hWb
 have z0:=hk0.cell 0
 have hp0:p < W.heap.size:=hI.lt
 refine calls_of_marks Tryz.func146 rfl ?_
 simp only [Tryz.ntmps146,List.size_toArray,List.length_cons,List.length_nil,Nat.reduceAdd,Nat.reduceSub,Array.replicate_succ,Array.replicate_zero,List.push_toArray,List.append_toArray,List.nil_append,List.cons_append]
 clear hWb hI hbA hk2
 go_wp2_with fail
 go_step3
 go_wp2_with fail
 rw [HWB.out]
 refine HW.out.mono ?_
 rintro e W1 ⟨rfl,h1⟩
 have hs1:=hs.trans h1
 have hk1:=h1.blk hk0 (by omega) (by decide)
 clear z0 hk0 h1 hs HW HWB
 have z0:=hk1.cell 0
 go_wp2_with fail
 rw [Exit.noGoto_ret]
 refine leave_d (v:=.tuple #[]) rfl (words_inv _ _) ?_
 refine bodyC_mono (j_words1 B p W1.heap.size pr dp (bs ++ [123]) ⟨#[125]⟩ _ (JP.step hs1.is ((Below.refl W1.heap.size W1).alloc (Nat.le_refl _) (.cells #[.string ⟨#[125]⟩] 9))).is (by show (bs ++ [123]).length + 1 ≤ _; rw [List.length_append]; show bs.length + 1 + 1 ≤ _; omega) (Blk.new _ _ _)) ?_
 rintro e w' ⟨rfl,h2⟩
 have h3:=(hs1.trans (JP.step hs1.is ((Below.refl W1.heap.size W1).alloc (Nat.le_refl _) (.cells #[.string ⟨#[125]⟩] 9)))).trans h2
 refine ⟨_,rfl,results_none rfl _ _ _,rfl,?_⟩
 have e:bs ++ [123] ++ (⟨#[125]⟩:ByteArray).data.toList=bs ++ (UInt8.ofNat 123 :: (restJ pr dp (jsM quoteL pr (dp + 1) true []) [] ++ [UInt8.ofNat 125])):=by
  rw [List.append_assoc]
  rfl
 rw [e] at h3
 exact h3

theorem okJ_node {t:Tr} (h:okJ t):ShapeJ t.own t.kids ∧ okJL t.kids:=by
 cases t
 rw [okJ] at h
 exact h
theorem allB_node {t:Tr} (h:allB t=true):ownB t.own t.kids=true ∧ allL t.kids=true:=by
 cases t
 rw [allB,Bool.and_eq_true] at h
 exact h
theorem depth_node (t:Tr):t.depth=1 + depthL t.kids:=by
 cases t with
 | nd o l =>
  rw [Tr.depth]
  show depthL l + 1=1 + depthL l
  omega
theorem jsT_node (pr:Bool) (k:Nat) (t:Tr):jsT quoteL pr k t=jsT quoteL pr k (.nd t.own t.kids):=by
 cases t
 rfl
theorem ownB_text {o:Own} {l:List Tr} (h:ownB o l=true) (h5:o.kind=5):o.s.size ≤ 400:=by
 unfold ownB at h
 rw [if_neg (by omega),if_neg (by omega),if_neg (by omega),if_neg (by omega),if_pos h5] at h
 simp only [Bool.and_eq_true,decide_eq_true_iff] at h
 exact h.2.2.1
set_option maxHeartbeats 4000000 in
set_option maxRecDepth 100000 in
theorem j_write (t:Tr) (h1:ListJ1 t.kids) (h2:ListJ2 t.kids) (B0 B p d:Nat) (pr:Bool) (dp:Nat) (bs:List UInt8) (A:Option Addr) (n c:Nat) (w0 W:World) (aT aF:Addr) (hl:ListAt w0 B0 d t.kids (.slice A n c)) (hB0:B0 ≤ w0.heap.size) (hB:w0.heap.size ≤ B) (hb:Below w0.heap.size w0 W) (hI:IsJ B p pr dp (Lib.byteCells bs) W) (hG:SW w0 aT aF) (hok:okJ t) (hall:allB t=true) (hlen:bs.length + (jsT quoteL pr dp t).length ≤ 900000000) (hn:t.kids.length=n) (hn2:t.count ≤ 1000000000) (hdp:dp + t.depth ≤ 900) :
  Calls Tryz.prog 46 #[.pointer (some ⟨p,0,none⟩),nodeV t.own (.slice A n c)] W fun e W'=>e=.returned (.tuple #[]) ∧ JP B p pr dp (bs ++ jsT quoteL pr dp t) W W':=by
 obtain ⟨hsh,hkok⟩:=okJ_node hok
 obtain ⟨hown,hkall⟩:=allB_node hall
 have hdep:=depth_node t
 have hcn:=Tr.count_eq t
 have hle:bs.length ≤ 900000000:=by omega
 have hBW:=(isJ_size hI).1
 rw [jsT_node] at hlen ⊢
 rcases hsh with ⟨h,h0⟩ | ⟨h,h0⟩ | ⟨h,hd,h0⟩ | ⟨h,hv,h0⟩ | ⟨h⟩ | ⟨h,he,_⟩
 ·have e:t.own.kind=1:=by rw [h]
  refine j_node B p pr dp bs _ _ _ _ _ _ _ _ _ _ W hI (.inl e) (fun W2 h2=>?_)
  have hj:jsT quoteL pr dp (.nd t.own t.kids)=[110,117,108,108]:=by rw [jsT,if_pos e]
  have hf:wjF t.own.kind=101:=by rw [e]; rfl
  rw [hj,hf]
  exact jn_null B p pr dp bs _ _ _ _ _ _ _ _ _ W2 h2.is hle
 ·have e:t.own.kind=2:=by rw [h]
  refine j_node B p pr dp bs _ _ _ _ _ _ _ _ _ _ W hI (.inr (.inl e)) (fun W2 h2=>?_)
  have hj:jsT quoteL pr dp (.nd t.own t.kids)=if t.own.b=true then [116,114,117,101] else [102,97,108,115,101]:=by rw [jsT,if_neg (by omega),if_pos e]
  have hf:wjF t.own.kind=102:=by rw [e]; rfl
  rw [hj,hf]
  exact jn_truth B p pr dp bs _ _ _ _ _ _ _ _ _ W2 h2.is hle
 ·have e:t.own.kind=3:=by rw [h]
  refine j_node B p pr dp bs _ _ _ _ _ _ _ _ _ _ W hI (.inr (.inr (.inl e))) (fun W2 h2=>?_)
  have hj:jsT quoteL pr dp (.nd t.own t.kids)=fmtD t.own.neg t.own.dg.data.toList t.own.ex:=by rw [jsT,if_neg (by omega),if_neg (by omega),if_pos e]
  have hf:wjF t.own.kind=103:=by rw [e]; rfl
  rw [hj,hf]
  exact jn_num B p pr dp bs _ _ _ _ _ _ _ _ _ W2 h2.is hle hd (hG.below (hb.trans (h2.below.mono hB)))
 ·have e:t.own.kind=5:=by rw [h]
  refine j_node B p pr dp bs _ _ _ _ _ _ _ _ _ _ W hI (.inr (.inr (.inr (.inl e)))) (fun W2 h2=>?_)
  have hj:jsT quoteL pr dp (.nd t.own t.kids)=quoteL t.own.s.data.toList:=by rw [jsT,if_neg (by omega),if_neg (by omega),if_neg (by omega),if_pos e]
  have hf:wjF t.own.kind=104:=by rw [e]; rfl
  rw [hj,hf]
  exact jn_text B p pr dp bs _ _ _ _ _ _ _ _ _ W2 h2.is hle hv (by have:=ownB_text hown e; omega) (hG.below (hb.trans (h2.below.mono hB)))
 ·have e:t.own.kind=7:=by rw [h]
  have hj:jsT quoteL pr dp (.nd t.own t.kids)=91 :: (restJ pr dp (jsA quoteL pr (dp + 1) true t.kids) t.kids ++ [93]):=by
   rw [jsT,if_neg (by omega),if_neg (by omega),if_neg (by omega),if_neg (by omega),if_pos e]
   rfl
  rw [hj] at hlen ⊢
  refine j_node B p pr dp bs _ _ _ _ _ _ _ _ _ _ W hI (.inr (.inr (.inr (.inr (.inl e))))) (fun W2 h2=>?_)
  have hf:wjF t.own.kind=105:=by rw [e]; rfl
  rw [hf]
  refine jn_array B p pr dp bs _ _ _ _ _ _ _ _ A n c _ W2 h2.is (fun W3 h3=>?_)
  exact h1 B0 B p d pr dp bs A n c w0 W3 aT aF hl hB0 hB (hb.trans ((h2.trans h3).below.mono hB)) h3.is hG hkok hkall (by
   rw [List.length_cons,List.length_append] at hlen
   simp only [List.length_singleton] at hlen
   omega) hn (Nat.mod_one n) (by omega) (by omega)
 ·have e:t.own.kind=8:=by rw [h]
  have hj:jsT quoteL pr dp (.nd t.own t.kids)=123 :: (restJ pr dp (jsM quoteL pr (dp + 1) true t.kids) t.kids ++ [125]):=by
   rw [jsT,if_neg (by omega),if_neg (by omega),if_neg (by omega),if_neg (by omega),if_neg (by omega),if_pos e]
   rfl
  rw [hj] at hlen ⊢
  refine j_node B p pr dp bs _ _ _ _ _ _ _ _ _ _ W hI (.inr (.inr (.inr (.inr (.inr e))))) (fun W2 h2'=>?_)
  have hf:wjF t.own.kind=106:=by rw [e]; rfl
  rw [hf]
  refine jn_members B p pr dp bs _ _ _ _ _ _ _ _ A n c _ W2 h2'.is (fun W3 h3=>?_)
  exact h2 B0 B p d pr dp bs A n c w0 W3 aT aF hl hB0 hB (hb.trans ((h2'.trans h3).below.mono hB)) h3.is hG hkok hkall (by
   rw [List.length_cons,List.length_append] at hlen
   simp only [List.length_singleton] at hlen
   omega) hn (by rw [← hn]; exact he) (by omega) (by omega)

section
attribute [local go_sem] Oper.semAt_some wide_fn wide_depth

set_option maxHeartbeats 8000000 in
set_option maxRecDepth 100000 in
theorem j_list1_more (t0:Tr) (lr:List Tr) (ih:∀ t ∈ t0 :: lr,ListJ1 t.kids ∧ ListJ2 t.kids):ListJ1 (t0 :: lr):=by
 intro B0 B p d pr dp bs A n c w0 W aT aF hl hB0 hB hb hI hG hok hall hlen hn hmod hn2 hdp
 obtain ⟨l,hle⟩:∃ l,t0 :: lr=l:=⟨_,rfl⟩
 have hn1:1 ≤ n:=by rw [← hn]; simp
 have hcount:=hn2
 have hn2:n ≤ 1000000000000:=by have:=countL_len (t0 :: lr); omega
 rw [hle] at hl hok hall hlen hn hdp ih hcount ⊢
 clear hle
 have hl0:0 < l.length:=by omega
 obtain ⟨ad,rfl⟩:∃ ad,A=some ad:=by
  obtain ⟨_,ad,_,_,hA,_⟩:=hl.at_ hl0
  exact ⟨ad,hA⟩
 have hcap:=hl.cap
 rw [hn] at hcap
 show Calls _ _ #[.pointer (some ⟨p,0,none⟩),.slice (some ad) n c,.int .i64 1,.string ⟨#[91]⟩,.string ⟨#[93]⟩] W _
 have hre:restJ pr dp (jsA quoteL pr (dp + 1) true l) l=jsA quoteL pr (dp + 1) true l ++ lineL pr dp:=by
  unfold restJ
  rw [if_neg (by omega)]
 simp only [hre] at hlen ⊢
 clear hre
 have hbA:Below W.heap.size W (((W.alloc (.cells #[.pointer (some ⟨p,0,none⟩)] 78)).alloc (.cells #[.int .i64 1] 3)).alloc (.cells #[.string ⟨#[91]⟩] 9)):=(((Below.refl _ W).alloc (Nat.le_refl _) _).alloc (by simp) _).alloc (by simp; omega) _
 obtain ⟨Wb,hWb⟩:∃ Wb,((W.alloc (.cells #[.pointer (some ⟨p,0,none⟩)] 78)).alloc (.cells #[.int .i64 1] 3)).alloc (.cells #[.string ⟨#[91]⟩] 9)=Wb:=⟨_,rfl⟩
 have hk0:Blk Wb W.heap.size #[.pointer (some ⟨p,0,none⟩)] 78:=by
  rw [← hWb]
  exact ((Blk.new _ _ _).alloc _).alloc _
 have hk1:Blk Wb (W.heap.size + 1) #[.int .i64 1] 3:=by
  rw [← hWb]
  have:=Blk.new (W.alloc (.cells #[.pointer (some ⟨p,0,none⟩)] 78)) #[.int .i64 1] 3
  rw [World.size_alloc] at this
  exact this.alloc _
 have hk2:Blk Wb (W.heap.size + 1 + 1) #[.string ⟨#[91]⟩] 9:=by
  rw [← hWb]
  have:=Blk.new ((W.alloc (.cells #[.pointer (some ⟨p,0,none⟩)] 78)).alloc (.cells #[.int .i64 1] 3)) #[.string ⟨#[91]⟩] 9
  rw [World.size_alloc,World.size_alloc] at this
  exact this
 rw [hWb] at hbA
 have hs:=JP.step hI hbA
 have HW:=Lib.hid (j_words1 B p (W.heap.size + 1 + 1) pr dp bs ⟨#[91]⟩ Wb hs.is (by show bs.length + 1 ≤ _; omega) hk2).calls
 rw [show (⟨#[91]⟩:ByteArray).data.toList=[91] from rfl] at HW
 have HWB:=Lib.hid hWb
 have z0:=hk0.cell 0
 have hp0:p < W.heap.size:=hI.lt
 have HL:=Lib.hid hl
 have HOK:=Lib.hid hok
 have HALL:=Lib.hid hall
 have HIH:=Lib.hid ih
 have HG:=Lib.hid hG
 have HB:=Lib.hid hb
 have HLEN:=Lib.hid hlen
 have HN:=Lib.hid hn
 have HDP:=Lib.hid hdp
 have HCN:=Lib.hid hcount
 have y0:¬ ((n:Int) == 0)=true:=by simp; omega
 have y1:¬ (n:Int)=0:=by omega
 have y2:wrap64 ((dp:Int) + 1)=(dp:Int) + 1:=by unfold wrap64; omega
 have HBW:=Lib.hid (isJ_size hI).1
 refine calls_of_marks Tryz.func146 rfl ?_
 simp only [Tryz.ntmps146,List.size_toArray,List.length_cons,List.length_nil,Nat.reduceAdd,Nat.reduceSub,Array.replicate_succ,Array.replicate_zero,List.push_toArray,List.append_toArray,List.nil_append,List.cons_append]
 clear hWb hI hbA hk2 hl hok hall ih hG hb hlen hn hdp hcount
 go_wp2_with fail
 go_step3
 go_wp2_with fail
 rw [HWB.out]
 refine HW.out.mono ?_
 rintro e W1 ⟨rfl,h1⟩
 have hs1:=hs.trans h1
 have hk3:=h1.blk hk0 (by omega) (by decide)
 have hk4:=h1.blk hk1 (by omega) (by decide)
 have x0:=hk3.cell 0
 have z0:=(hk3.alloc (.cells #[.string ⟨#[93]⟩] 9)).cell 0
 have z1:=(hk4.alloc (.cells #[.string ⟨#[93]⟩] 9)).cell 0
 obtain ⟨qp,qv,hkp⟩:=hs1.is.blk
 have zp:=(hkp.alloc (.cells #[.string ⟨#[93]⟩] 9)).cell 3
 have fp:=(hkp.alloc (.cells #[.string ⟨#[93]⟩] 9)).frozen 3
 have hd1:=hs1.trans (JP.deep hs1.is ((dp:Int) + 1))
 have hs3:=hd1.trans (JP.step hd1.is ((Below.refl _ _).alloc (Nat.le_refl _) (.cells #[.string ⟨#[93]⟩] 9)))
 have hk5:=(hk3.other (b':=p) (by omega) 3 (.int .i64 ((dp:Int) + 1))).alloc (.cells #[.string ⟨#[93]⟩] 9)
 have hk6:=(hk4.other (b':=p) (by omega) 3 (.int .i64 ((dp:Int) + 1))).alloc (.cells #[.string ⟨#[93]⟩] 9)
 have hzs:(W1.setCell ⟨p,3,none⟩ (.int .i64 ((dp:Int) + 1))).heap.size=W1.heap.size:=by simp [World.setCell]
 have hk7:=Blk.new (W1.setCell ⟨p,3,none⟩ (.int .i64 ((dp:Int) + 1))) #[.string ⟨#[93]⟩] 9
 rw [hzs] at hk7
 have hpW1:=hs1.is.lt
 have hzW1:W.heap.size + 1 < W1.heap.size:=hk4.lt
 clear hk0 hk1 h1 hs HW HWB hk3 hk4 hs1 hkp hd1
 obtain ⟨W3,hW3⟩:∃ W3,(W1.setCell ⟨p,3,none⟩ (.int .i64 ((dp:Int) + 1))).alloc (.cells #[.string ⟨#[93]⟩] 9)=W3:=⟨_,rfl⟩
 have hz3:W3.heap.size=W1.heap.size + 1:=by rw [← hW3,World.size_alloc,hzs]
 rw [hW3] at hs3 hk5 hk6 hk7
 have HW3:=Lib.hid hW3
 have HS3:=Lib.hid hs3
 have HK5:=Lib.hid hk5
 have HK6:=Lib.hid hk6
 have HK7:=Lib.hid hk7
 have HZ3:=Lib.hid hz3
 clear hs3 hk5 hk6 hk7 hz3 hW3 hzs
 go_wp2_with fail
 rw [HW3.out]
 clear x0 z0 z1 zp fp HW3
 have z0:=HK5.out.cell 0
 have z1:=HK6.out.cell 0
 have HP:=Lib.hid (j_pairs (some ad) n c 1 W3)
 go_step3
 go_wp2_with fail
 refine HP.out.mono ?_
 rintro e Wn ⟨rfl,hWn⟩
 have hbn:Below W3.heap.size W3 Wn:=by
  rw [hWn]
  exact ((Below.refl _ W3).alloc (Nat.le_refl _) _).alloc (by simp) _
 have hzn:Wn.heap.size=W3.heap.size + 2:=by rw [hWn]; simp
 have hkl:Blk Wn W3.heap.size #[.slice (some ad) n c] 25:=by
  rw [hWn]
  exact (Blk.new _ _ _).alloc _
 have hkz:Blk Wn (W3.heap.size + 1) #[.int .i64 1] 3:=by
  rw [hWn]
  have:=Blk.new (W3.alloc (.cells #[.slice (some ad) n c] 25)) #[.int .i64 1] 3
  rw [World.size_alloc] at this
  exact this
 have hsn:=HS3.out.trans (JP.step HS3.out.is hbn)
 have hk5:=HK5.out.below hbn HK5.out.lt
 have hk6:=HK6.out.below hbn HK6.out.lt
 have hk7:=HK7.out.below hbn HK7.out.lt
 have HSN:=Lib.hid hsn
 have HK5:=Lib.hid hk5
 have HK6:=Lib.hid hk6
 have HK7:=Lib.hid hk7
 have HZN:=Lib.hid hzn
 clear hWn hbn HS3 HP z0 z1 hsn hk5 hk6 hk7 hzn
 go_wp2_with fail
 have q1:W3.heap.size + 1 ≠ p:=by have:=HZ3.out; omega
 have q2:W3.heap.size ≠ p:=by have:=HZ3.out; omega
 have q3:B ≤ Wn.heap.size:=by have:=HBW.out; have:=HZ3.out; have:=HZN.out; omega
 have q4:W.heap.size ≤ Wn.heap.size:=by have:=HZ3.out; have:=HZN.out; omega


 refine wp_rangeFuncW (gf:=211) (lb:=#[.pointer (some ⟨W3.heap.size + 1,0,none⟩),.pointer (some ⟨W3.heap.size,0,none⟩)]) rfl (enters_of Tryz.func211 (by kernel_rfl) rfl)
  (jpairs1_seq (W3.heap.size + 1) W3.heap.size p B ad n c Wn hkz hkl hcap hn2 q1 q2)
  ?hMv ?hA0 ?hKt ?hKb ?hps
  (fun pre V=>JP B p pr ((dp:Int) + 1) (bs ++ [91] ++ jsA quoteL pr (dp + 1) true (l.take (pre.length * 1))) Wn V)
  (fun _ _ _=>False)
  ?hI ?hIx ?hIM ?hIxM ?h0 ?hCt
  (fun tm pre x a' _=>SoFar 1 n (pre ++ [x]) Wn ∧ ∃ i,x * 1=i ∧ a'={ tmps:=(((tm.setIfInBounds 32 (.int .i64 (i:Nat))).setIfInBounds 33 (.slice (some (ad.add (i * 9))) 1 (c - i))).setIfInBounds 10 (.int .i64 (i:Nat))).setIfInBounds 11 (.slice (some (ad.add (i * 9))) 1 (c - i)),defers:=[] })
  ?hAx ?assign ?body ?hS ?hSp ?done ?stop
 case hMv=>exact fun A B k o hM _ ho _=>hM ▸ ho
 case hA0=>exact fun o o'=>((Below.refl _ Wn).alloc (Nat.le_refl _) o).alloc (by simp) o'
 case hKt=>exact fun h1 h2=>h1.trans h2
 case hKb=>exact fun V l o o' hl h ho=>KpJ.putObj V l o o' (Nat.le_trans q3 hl) h ho
 case hps=>exact fun _=>rfl
 case hI=>exact fun s A A' row h hg hr=>jp_grown q3 h hg hr
 case hIx=>exact fun _ _ _ _ _ h _ _=>h.elim
 case hIM=>exact fun s A A' h hM=>hM ▸ h
 case hIxM=>exact fun _ _ _ _ h _=>h.elim
 case h0 =>
  show JP B p pr ((dp:Int) + 1) (bs ++ [91] ++ jsA quoteL pr (dp + 1) true (l.take (0 * 1))) Wn Wn
  rw [Nat.zero_mul,List.take_zero,jsA,List.append_nil]
  exact ⟨HSN.out.is,Below.refl _ _,Lib.OthersKept.refl _ _ _⟩
 case hCt=>exact fun _ _ _ _=>trivial
 case hAx=>exact fun pre x a' _ A B' row h _ _=>h
 case assign =>
  rintro l1 pre x V K hI hT hK
  have HKK:=Lib.hid hK
  have HT:=Lib.hid (show SoFar 1 n (pre ++ [x]) Wn from hT)
  have HI:=Lib.hid hI
  unfold encJ
  obtain ⟨i,hi⟩:∃ i,x * 1=i:=⟨_,rfl⟩
  rw [hi]
  have HIE:=Lib.hid hi
  clear hK hT hI hi
  gi_wp2
  exact HKK.out _ _ (KeepsFrom.refl _ _) (KpJ.refl _ _ _) HI.out ⟨HT.out,i,HIE.out,rfl⟩
 case body =>
  rintro l1 pre x a' V hl1 hlo hI ⟨⟨hx1,hx2⟩,i,hi,rfl⟩
  have hpx:pre.length=x:=by
   rw [List.length_append,List.length_singleton,List.range_succ] at hx1
   have:=(List.append_inj' hx1 rfl).2
   simpa using this.symm
  rw [List.length_append,List.length_singleton,Nat.add_mul,hpx,hi] at hx2
  rw [hpx,hi] at hI
  have hil:i < l.length:=by have:=HN.out; omega
  have hpl:(l.take i).length=i:=by rw [List.length_take]; omega
  clear hx1
  obtain ⟨t1,ht1⟩:∃ t,l[i]? = some t:=⟨_,List.getElem?_eq_getElem (by omega)⟩
  have HT0:=Lib.hid ht1
  have HM0:=Lib.hid (List.mem_of_getElem? ht1)
  have hstep:jsA quoteL pr (dp + 1) true (l.take (i + 1))=jsA quoteL pr (dp + 1) true (l.take i) ++ ((if i=0 then [] else [44]) ++ (lineL pr (dp + 1) ++ jsT quoteL pr (dp + 1) t1)):=by
   rw [List.take_add_one,ht1]
   show jsA quoteL pr (dp + 1) true (l.take i ++ [t1])=_
   rw [rowsA_snoc]
   by_cases h0:i=0
   ·rw [if_pos ⟨rfl,List.length_eq_zero_iff.1 (hpl.trans h0)⟩,if_pos h0]
   ·rw [if_neg (fun h=>h0 (by rw [← hpl,h.2]; rfl)),if_neg h0]
  have hpart:(jsA quoteL pr (dp + 1) true (l.take (i + 1))).length ≤ (jsA quoteL pr (dp + 1) true l).length:=by
   have h:=rowsA_pre quoteL pr (dp + 1) (l.take (i + 1)) (l.drop (i + 1)) true
   rw [List.take_append_drop] at h
   exact h
  clear ht1
  have hlen:=HLEN.out
  rw [List.length_append] at hlen
  have hdp:=HDP.out
  have hcast:((dp + 1:Nat):Int)=(dp:Int) + 1:=by omega
  rw [hstep] at hpart
  simp only [List.length_append] at hpart
  have hgoal:jsA quoteL pr (dp + 1) true (l.take ((pre ++ [x]).length * 1))=jsA quoteL pr (dp + 1) true (l.take (i + 1)):=by
   rw [List.length_append,List.length_singleton,Nat.add_mul,hpx,hi]
  obtain ⟨cur,hcur⟩:∃ cur,bs ++ [91] ++ jsA quoteL pr (dp + 1) true (l.take i)=cur:=⟨_,rfl⟩
  have hcl:cur.length=bs.length + 1 + (jsA quoteL pr (dp + 1) true (l.take i)).length:=by
   rw [← hcur,List.length_append,List.length_append]
   rfl
  rw [hcur] at hI
  have hend:bs ++ [91] ++ jsA quoteL pr (dp + 1) true (l.take ((pre ++ [x]).length * 1))=cur ++ ((if i=0 then [] else [44]) ++ (lineL pr (dp + 1) ++ jsT quoteL pr (dp + 1) t1)):=by
   rw [hgoal,hstep,← hcur]
   (simp only [List.append_assoc]) <;> rfl
  have HEND:=Lib.hid hend
  have hk5:=hI.blk HK5.out (by omega) (by decide)
  have hk6:=hI.blk HK6.out (by omega) (by decide)
  have HI:=Lib.hid hI
  have hpV:=hI.is.lt
  have hzV:=hk6.lt
  clear hI hstep hgoal hcur hend hpl hi hpx
  by_cases h0:i=0
  ·skip
   have z0:=hk5.cell 0
   subst h0
   have he0:=HEND.out
   rw [if_pos rfl] at hpart he0
   have HENE:=Lib.hid he0
   clear he0 HEND
   simp only [List.length_nil] at hpart
   have hv:JP B p pr ((dp:Int) + 1) cur V V:=⟨HI.out.is,Below.refl _ _,Lib.OthersKept.refl _ _ _⟩
   gi_wp2_with fail
   have hk5a:=hv.blk hk5 (by omega) (by decide)
   clear z0
   have z0:=hk5a.cell 0
   have HLI:=j_line B p pr (dp + 1) cur V (by rw [hcast]; exact hv.is) (by omega) (by omega)
   rw [hcast] at HLI
   have HLI:=Lib.hid HLI
   have HVV:=Lib.hid hv
   clear hk5a hv
   gi_wp2_with fail
   refine (show CallsIn (Fence.wide.inRound l1) 6 _ _ _ _ _ from (callsIn_wide.2 HLI.out:CallsIn Fence.wide 6 _ _ _ _ _)).mono ?_
   rintro e V2 ⟨rfl,h2⟩
   have hv:=HVV.out.trans h2
   clear h2 HLI HVV z0
   gi_wp2_with fail
   have hbV:=HB.out.trans ((HSN.out.below.trans (HI.out.trans hv).below).mono hB)
   obtain ⟨d0,A2,n2,c2,hn2',hab0,hna0,hkk0⟩:=at_node HL.out HT0.out
   have hnaV:=hna0.keep (W':=V2) (by rw [add_block]; exact hbV.block _ (by omega))
   rw [show ad.add (0 * 9)=ad from rfl] at hnaV
   have hvd:JP B p pr ((dp:Int) + 1) (cur ++ lineL pr (dp + 1)) V V2.drew:=⟨hv.is,hv.below.drew,fun k o hk h1 h2=>hv.others k o hk h1 h2⟩
   have HND:=j_write t1 (HIH.out _ HM0.out).1 (HIH.out _ HM0.out).2 B0 B p d0 pr (dp + 1) (cur ++ lineL pr (dp + 1)) A2 n2 c2 w0 V2.drew aT aF hkk0 hB0 hB hbV.drew (by rw [hcast]; exact hvd.is) HG.out (okJL_mem HOK.out _ HM0.out) (allL_memJ HALL.out HM0.out) (by (repeat rw [List.length_append]); omega) hn2' (Nat.le_trans (countL_mem HM0.out) HCN.out) (by have:=depthL_mem HM0.out; omega)
   rw [hcast] at HND
   obtain ⟨⟨kind2,b2,neg2,dg2,ex2,u2,wd2,s2⟩,ho2⟩:∃ o,t1.own=o:=⟨_,rfl⟩
   rw [ho2] at HND hnaV
   have HND:=Lib.hid HND
   have HNA:=Lib.hid hnaV
   have hk5b:=hv.blk hk5 (by omega) (by decide)
   have HK5V:=Lib.hid hk5b
   clear hnaV hbV hkk0 hna0 hab0 ho2 hn2' hk5b
   refine wpIn_region_tail (R:=fun A A'=>A=A') 4 (by kernel_rfl) (by kernel_rfl) (fun _=>rfl) (by kernel_rfl) (by kernel_rfl) (by kernel_rfl) (fun A=>A=V2.drew)
    [fun v _=>v=.pointer (some ⟨p,0,none⟩),fun v _=>v=.slice (some ad) 1 c,fun v _=>v=.pointer (some ad),fun v _=>v=nodeV ⟨kind2,b2,neg2,dg2,ex2,u2,wd2,s2⟩ (.slice A2 n2 c2)] rfl (fun _ _ he hr=>hr ▸ he) ?_ ?_ ?_
   ·intro q hq v A A' _ hv' hr
    exact hr ▸ hv'
   ·refine flow_cons (flow_op rfl rfl (by kernel_rfl) (by kernel_rfl) ?_) ?_
    ·intro env A hE hn' ρ hρ hc hf hg K hK
     have r5:ρ (.tmp 5)=.pointer (some ⟨W.heap.size,0,none⟩):=by rw [hρ]; kernel_rfl
     clear hρ hn' hg
     subst hE
     have q0:=HK5V.out.drew.cell 0
     simp [opLands,go_sem,r5,q0]
     exact hK _ _ rfl rfl
    refine flow_cons (flow_op rfl rfl (by kernel_rfl) (by kernel_rfl) ?_) ?_
    ·intro env A hE hn' ρ hρ hc hf hg K hK
     have r11:ρ (.tmp 11)=.slice (some ad) 1 c:=by rw [hρ]; kernel_rfl
     clear hρ hn' hg
     simp [opLands,go_sem,r11]
     exact hK _ _ rfl rfl
    refine flow_cons (flow_op rfl rfl (by kernel_rfl) (by kernel_rfl) ?_) ?_
    ·intro env A hE hn' ρ hρ hc hf hg K hK
     have r42:=(show ρ (.tmp 42)=env 1 by rw [hρ]; kernel_rfl).trans (hn' 1 (by kernel_rfl))
     clear hρ hn' hg
     simp [opLands,go_sem,hc,r42]
     exact hK _ _ rfl rfl
    refine flow_cons (flow_op rfl rfl (by kernel_rfl) (by kernel_rfl) ?_) flow_nil
    ·intro env A hE hn' ρ hρ hc hf hg K hK
     have r43:=(show ρ (.tmp 43)=env 2 by rw [hρ]; kernel_rfl).trans (hn' 2 (by kernel_rfl))
     clear hρ hn' hg
     subst hE
     obtain ⟨q0,q1,q2,q3,q4,q5,q6,q7,q8⟩:=HNA.out
     obtain ⟨ai,hai⟩:∃ ai,ad=ai:=⟨_,rfl⟩
     simp only [hai] at q0 q1 q2 q3 q4 q5 q6 q7 q8 r43
     have q0:V2.drew.cell? ai=_:=q0
     have q1:V2.drew.cell? _=_:=q1
     have q2:V2.drew.cell? _=_:=q2
     have q3:V2.drew.cell? _=_:=q3
     have q4:V2.drew.cell? _=_:=q4
     have q5:V2.drew.cell? _=_:=q5
     have q6:V2.drew.cell? _=_:=q6
     have q7:V2.drew.cell? _=_:=q7
     have q8:V2.drew.cell? _=_:=q8
     simp [opLands,go_sem,r43,q0,q1,q2,q3,q4,q5,q6,q7,q8]
     exact hK _ _ rfl rfl
   intro env A hE hn'
   have e0:env 0=.pointer (some ⟨p,0,none⟩):=hn' 0 (by decide)
   have e3:env 3=nodeV ⟨kind2,b2,neg2,dg2,ex2,u2,wd2,s2⟩ (.slice A2 n2 c2):=hn' 3 (by decide)
   have e1:env 1=.slice (some ad) 1 c:=hn' 1 (by decide)
   have e2:env 2=.pointer (some ad):=hn' 2 (by decide)
   clear hn'
   subst hE
   simp only [List.take_succ_cons,List.take_zero,List.drop_succ_cons,List.drop_zero,frameAll,e0,e1,e2,e3]
   clear e0 e1 e2 e3 HNA
   have HVD:=Lib.hid hvd
   clear hv hvd HK5V
   unfold nodeV at HND ⊢
   go_simp
   gi_wp2_with fail
   refine (show CallsIn (Fence.wide.inRound l1) 6 _ _ _ _ _ from (callsIn_wide.2 HND.out:CallsIn Fence.wide 6 _ _ _ _ _)).mono ?_
   rintro e V3 ⟨rfl,h3⟩
   have hv:=HVD.out.trans h3
   clear h3 HND HVD
   have hk6a:=hv.blk hk6 (by omega) (by decide)
   have z1:=hk6a.cell 0
   have HV:=Lib.hid hv
   clear hk6a hv
   gi_wp2_with fail
   refine ⟨othersJ_from HV.out.others HV.out.below.size HI.out.is,KpJ.of HV.out HV.out.below.size,?_⟩
   have hfin:=HI.out.trans HV.out
   have he:=HENE.out
   show JP B p pr ((dp:Int) + 1) (bs ++ [91] ++ jsA quoteL pr (dp + 1) true (l.take ((pre ++ [x]).length * 1))) Wn V3
   rw [he]
   have e:cur ++ ([] ++ (lineL pr (dp + 1) ++ jsT quoteL pr (dp + 1) t1))=((cur ++ lineL pr (dp + 1)) ++ jsT quoteL pr (dp + 1) t1):=by simp
   rw [e]
   exact hfin
  ·skip
   have z0:=hk5.cell 0
   have he0:=HEND.out
   rw [if_neg h0] at hpart he0
   have HENE:=Lib.hid he0
   clear he0 HEND
   simp only [List.length_cons,List.length_nil] at hpart
   have y5:(0:Int) < i:=by omega
   have hba:Below V.heap.size V (V.alloc (.cells #[.string ⟨#[44]⟩] 9)):=(Below.refl _ V).alloc (Nat.le_refl _) _
   have HC:=Lib.hid (j_words1 B p V.heap.size pr ((dp:Int) + 1) cur ⟨#[44]⟩ _ (isJ_below HI.out.is hba) (by show cur.length + 1 ≤ _; omega) (Blk.new _ _ _)).calls
   have HJA:=Lib.hid (JP.step HI.out.is hba)
   clear hba
   gi_wp2_with fail
   refine (show CallsIn (Fence.wide.inRound l1) 6 _ _ _ _ _ from (callsIn_wide.2 HC.out:CallsIn Fence.wide 6 _ _ _ _ _)).mono ?_
   rintro e V1 ⟨rfl,h1⟩
   have hv:=HJA.out.trans h1
   rw [show cur ++ (⟨#[44]⟩:ByteArray).data.toList=cur ++ [44] from rfl] at hv
   clear h1 HC HJA z0
   have hk5a:=hv.blk hk5 (by omega) (by decide)

   have z0:=hk5a.cell 0
   have HLI:=j_line B p pr (dp + 1) (cur ++ [44]) V1 (by rw [hcast]; exact hv.is) (by rw [List.length_append]; show _ + 1 ≤ _; omega) (by omega)
   rw [hcast] at HLI
   have HLI:=Lib.hid HLI
   have HVV:=Lib.hid hv
   clear hk5a hv
   gi_wp2_with fail
   refine (show CallsIn (Fence.wide.inRound l1) 6 _ _ _ _ _ from (callsIn_wide.2 HLI.out:CallsIn Fence.wide 6 _ _ _ _ _)).mono ?_
   rintro e V2 ⟨rfl,h2⟩
   have hv:=HVV.out.trans h2
   clear h2 HLI HVV z0
   gi_wp2_with fail
   have hbV:=HB.out.trans ((HSN.out.below.trans (HI.out.trans hv).below).mono hB)
   obtain ⟨d0,A2,n2,c2,hn2',hab0,hna0,hkk0⟩:=at_node HL.out HT0.out
   have hnaV:=hna0.keep (W':=V2) (by rw [add_block]; exact hbV.block _ (by omega))

   have hvd:JP B p pr ((dp:Int) + 1) ((cur ++ [44]) ++ lineL pr (dp + 1)) V V2.drew:=⟨hv.is,hv.below.drew,fun k o hk h1 h2=>hv.others k o hk h1 h2⟩
   have HND:=j_write t1 (HIH.out _ HM0.out).1 (HIH.out _ HM0.out).2 B0 B p d0 pr (dp + 1) ((cur ++ [44]) ++ lineL pr (dp + 1)) A2 n2 c2 w0 V2.drew aT aF hkk0 hB0 hB hbV.drew (by rw [hcast]; exact hvd.is) HG.out (okJL_mem HOK.out _ HM0.out) (allL_memJ HALL.out HM0.out) (by (repeat rw [List.length_append]); rw [show ([44]:List UInt8).length=1 from rfl]; omega) hn2' (Nat.le_trans (countL_mem HM0.out) HCN.out) (by have:=depthL_mem HM0.out; omega)
   rw [hcast] at HND
   obtain ⟨⟨kind2,b2,neg2,dg2,ex2,u2,wd2,s2⟩,ho2⟩:∃ o,t1.own=o:=⟨_,rfl⟩
   rw [ho2] at HND hnaV
   have HND:=Lib.hid HND
   have HNA:=Lib.hid hnaV
   have hk5b:=hv.blk hk5 (by omega) (by decide)
   have HK5V:=Lib.hid hk5b
   clear hnaV hbV hkk0 hna0 hab0 ho2 hn2' hk5b
   refine wpIn_region_tail (R:=fun A A'=>A=A') 4 (by kernel_rfl) (by kernel_rfl) (fun _=>rfl) (by kernel_rfl) (by kernel_rfl) (by kernel_rfl) (fun A=>A=V2.drew)
    [fun v _=>v=.pointer (some ⟨p,0,none⟩),fun v _=>v=.slice (some (ad.add (i * 9))) 1 (c - i),fun v _=>v=.pointer (some (ad.add (i * 9))),fun v _=>v=nodeV ⟨kind2,b2,neg2,dg2,ex2,u2,wd2,s2⟩ (.slice A2 n2 c2)] rfl (fun _ _ he hr=>hr ▸ he) ?_ ?_ ?_
   ·intro q hq v A A' _ hv' hr
    exact hr ▸ hv'
   ·refine flow_cons (flow_op rfl rfl (by kernel_rfl) (by kernel_rfl) ?_) ?_
    ·intro env A hE hn' ρ hρ hc hf hg K hK
     have r5:ρ (.tmp 5)=.pointer (some ⟨W.heap.size,0,none⟩):=by rw [hρ]; kernel_rfl
     clear hρ hn' hg
     subst hE
     have q0:=HK5V.out.drew.cell 0
     simp [opLands,go_sem,r5,q0]
     exact hK _ _ rfl rfl
    refine flow_cons (flow_op rfl rfl (by kernel_rfl) (by kernel_rfl) ?_) ?_
    ·intro env A hE hn' ρ hρ hc hf hg K hK
     have r11:ρ (.tmp 11)=.slice (some (ad.add (i * 9))) 1 (c - i):=by rw [hρ]; kernel_rfl
     clear hρ hn' hg
     simp [opLands,go_sem,r11]
     exact hK _ _ rfl rfl
    refine flow_cons (flow_op rfl rfl (by kernel_rfl) (by kernel_rfl) ?_) ?_
    ·intro env A hE hn' ρ hρ hc hf hg K hK
     have r42:=(show ρ (.tmp 42)=env 1 by rw [hρ]; kernel_rfl).trans (hn' 1 (by kernel_rfl))
     clear hρ hn' hg
     simp [opLands,go_sem,hc,r42]
     exact hK _ _ rfl rfl
    refine flow_cons (flow_op rfl rfl (by kernel_rfl) (by kernel_rfl) ?_) flow_nil
    ·intro env A hE hn' ρ hρ hc hf hg K hK
     have r43:=(show ρ (.tmp 43)=env 2 by rw [hρ]; kernel_rfl).trans (hn' 2 (by kernel_rfl))
     clear hρ hn' hg
     subst hE
     obtain ⟨q0,q1,q2,q3,q4,q5,q6,q7,q8⟩:=HNA.out
     obtain ⟨ai,hai⟩:∃ ai,(ad.add (i * 9))=ai:=⟨_,rfl⟩
     simp only [hai] at q0 q1 q2 q3 q4 q5 q6 q7 q8 r43
     have q0:V2.drew.cell? ai=_:=q0
     have q1:V2.drew.cell? _=_:=q1
     have q2:V2.drew.cell? _=_:=q2
     have q3:V2.drew.cell? _=_:=q3
     have q4:V2.drew.cell? _=_:=q4
     have q5:V2.drew.cell? _=_:=q5
     have q6:V2.drew.cell? _=_:=q6
     have q7:V2.drew.cell? _=_:=q7
     have q8:V2.drew.cell? _=_:=q8
     simp [opLands,go_sem,r43,q0,q1,q2,q3,q4,q5,q6,q7,q8]
     exact hK _ _ rfl rfl
   intro env A hE hn'
   have e0:env 0=.pointer (some ⟨p,0,none⟩):=hn' 0 (by decide)
   have e3:env 3=nodeV ⟨kind2,b2,neg2,dg2,ex2,u2,wd2,s2⟩ (.slice A2 n2 c2):=hn' 3 (by decide)
   have e1:env 1=.slice (some (ad.add (i * 9))) 1 (c - i):=hn' 1 (by decide)
   have e2:env 2=.pointer (some (ad.add (i * 9))):=hn' 2 (by decide)
   clear hn'
   subst hE
   simp only [List.take_succ_cons,List.take_zero,List.drop_succ_cons,List.drop_zero,frameAll,e0,e1,e2,e3]
   clear e0 e1 e2 e3 HNA
   have HVD:=Lib.hid hvd
   clear hv hvd HK5V
   unfold nodeV at HND ⊢
   go_simp
   gi_wp2_with fail
   refine (show CallsIn (Fence.wide.inRound l1) 6 _ _ _ _ _ from (callsIn_wide.2 HND.out:CallsIn Fence.wide 6 _ _ _ _ _)).mono ?_
   rintro e V3 ⟨rfl,h3⟩
   have hv:=HVD.out.trans h3
   clear h3 HND HVD
   have hk6a:=hv.blk hk6 (by omega) (by decide)
   have z1:=hk6a.cell 0
   have HV:=Lib.hid hv
   clear hk6a hv
   gi_wp2_with fail
   refine ⟨othersJ_from HV.out.others HV.out.below.size HI.out.is,KpJ.of HV.out HV.out.below.size,?_⟩
   have hfin:=HI.out.trans HV.out
   have he:=HENE.out
   show JP B p pr ((dp:Int) + 1) (bs ++ [91] ++ jsA quoteL pr (dp + 1) true (l.take ((pre ++ [x]).length * 1))) Wn V3
   rw [he]
   have e:cur ++ ([44] ++ (lineL pr (dp + 1) ++ jsT quoteL pr (dp + 1) t1))=(((cur ++ [44]) ++ lineL pr (dp + 1)) ++ jsT quoteL pr (dp + 1) t1):=by simp
   rw [e]
   exact hfin
 case hS=>exact fun _ _ _ _ h _ _=>h
 case hSp=>exact fun _ _ _ _ h _ _=>h
 case done =>
  rintro D xs V hD ⟨_,hS2,hS3⟩ hI hdf
  have hfull:l.take (xs.length * 1)=l:=by
   have:=HN.out
   exact List.take_of_length_le (by omega)
  rw [hfull] at hI
  have hk5:=hI.blk HK5.out (by omega) (by decide)
  have hk7:=hI.blk HK7.out (by omega) (by decide)
  obtain ⟨qp,qv,hkp⟩:=hI.is.blk
  have z0:=hk5.cell 0
  have zp:=hkp.cell 3
  have fp:=hkp.frozen 3
  have y4:wrap64 (dp:Int)=dp:=by have:=HDP.out; unfold wrap64; omega
  have hd2:=JP.deep hI.is (dp:Int)
  have hlen:=HLEN.out
  rw [List.length_append] at hlen
  have hq1:(bs ++ [91] ++ jsA quoteL pr (dp + 1) true l).length ≤ 900000000:=by
   rw [List.length_append,List.length_append]
   have:([91]:List UInt8).length=1:=rfl
   omega
  have hq2:dp ≤ 1000:=Nat.le_trans (Nat.le_trans (Nat.le_trans (Nat.le_add_right _ 1) (Nat.le_add_right _ _)) HDP.out) (by decide)
  have HL:=Lib.hid (j_line B p pr dp _ _ hd2.is hq1 hq2)
  have hdd:(V.setCell ⟨p,3,none⟩ (.int .i64 (dp:Int))).heap[D]? = some (.deferred (some [])):=(Below.heap_setCell V ⟨p,3,none⟩ _ D (by show D ≠ p; omega)).trans hdf
  have HALLJ:=Lib.hid ((HSN.out.trans hI).trans hd2)
  have hk8:=hk7.other (b':=p) (by omega) 3 (.int .i64 (dp:Int))
  have HDD:=Lib.hid hdd
  have HK8:=Lib.hid hk8
  have HLN:=Lib.hid hlen
  clear hI hk5 hk7 hkp hd2 hlen hdd hk8 hfull hS2 hS3 hq1 hq2
  go_wp2_with fail
  refine HL.out.mono ?_
  rintro e W5 ⟨rfl,h5⟩
  have hd5:=h5.others D _ HDD.out (fun e=>by injection e with e; omega) (fun c fz e=>by cases e)
  have hk9:=h5.blk HK8.out (by omega) (by decide)
  have ha5:=HALLJ.out.trans h5
  clear HL HDD HK8 HALLJ h5 z0 zp fp hdf
  go_wp2_with fail
  refine leave_mdn (v:=.tuple #[]) hd5 rfl (words_inv _) ?_
  have hBD:B ≤ W.heap.size:=HBW.out
  have hshut:=jp_grown hBD ha5 (grownBy_putObj' W5 D (.deferred none)) (fun r e=>by
   cases e
   exact ⟨by omega,_,hd5,rfl⟩)
  refine bodyC_mono (j_words1 B p W1.heap.size pr dp _ ⟨#[93]⟩ _ hshut.is (by
   simp only [List.length_append,List.length_cons,List.length_nil]
   have:=HLN.out
   have e1:(⟨#[93]⟩:ByteArray).size=1:=rfl
   omega) (hk9.shut hd5 rfl _)) ?_
  rintro e w' ⟨rfl,h6⟩
  have h7:=hshut.trans h6
  refine ⟨_,rfl,results_none rfl _ _ _,rfl,?_⟩
  have e:bs ++ [91] ++ jsA quoteL pr (dp + 1) true l ++ lineL pr dp ++ (⟨#[93]⟩:ByteArray).data.toList=bs ++ (UInt8.ofNat 91 :: (jsA quoteL pr (dp + 1) true l ++ lineL pr dp ++ [UInt8.ofNat 93])):=by
   simp
  rw [e] at h7
  exact h7
 case stop=>exact fun _ _ _ _ _ _ h _=>h.elim

set_option maxHeartbeats 8000000 in
set_option maxRecDepth 100000 in
theorem j_list2_more (t0:Tr) (lr:List Tr) (ih:∀ t ∈ t0 :: lr,ListJ1 t.kids ∧ ListJ2 t.kids):ListJ2 (t0 :: lr):=by
 intro B0 B p d pr dp bs A n c w0 W aT aF hl hB0 hB hb hI hG hok hall hlen hn hmod hn2 hdp
 obtain ⟨l,hle⟩:∃ l,t0 :: lr=l:=⟨_,rfl⟩
 have hn1:1 ≤ n:=by rw [← hn]; simp
 have hcount:=hn2
 have hn2:n ≤ 1000000000000:=by have:=countL_len (t0 :: lr); omega
 rw [hle] at hl hok hall hlen hn hdp ih hcount ⊢
 clear hle
 have hl0:0 < l.length:=by omega
 obtain ⟨ad,rfl⟩:∃ ad,A=some ad:=by
  obtain ⟨_,ad,_,_,hA,_⟩:=hl.at_ hl0
  exact ⟨ad,hA⟩
 have hcap:=hl.cap
 rw [hn] at hcap
 show Calls _ _ #[.pointer (some ⟨p,0,none⟩),.slice (some ad) n c,.int .i64 2,.string ⟨#[123]⟩,.string ⟨#[125]⟩] W _
 have hre:restJ pr dp (jsM quoteL pr (dp + 1) true l) l=jsM quoteL pr (dp + 1) true l ++ lineL pr dp:=by
  unfold restJ
  rw [if_neg (by omega)]
 simp only [hre] at hlen ⊢
 clear hre
 have hbA:Below W.heap.size W (((W.alloc (.cells #[.pointer (some ⟨p,0,none⟩)] 78)).alloc (.cells #[.int .i64 2] 3)).alloc (.cells #[.string ⟨#[123]⟩] 9)):=(((Below.refl _ W).alloc (Nat.le_refl _) _).alloc (by simp) _).alloc (by simp; omega) _
 obtain ⟨Wb,hWb⟩:∃ Wb,((W.alloc (.cells #[.pointer (some ⟨p,0,none⟩)] 78)).alloc (.cells #[.int .i64 2] 3)).alloc (.cells #[.string ⟨#[123]⟩] 9)=Wb:=⟨_,rfl⟩
 have hk0:Blk Wb W.heap.size #[.pointer (some ⟨p,0,none⟩)] 78:=by
  rw [← hWb]
  exact ((Blk.new _ _ _).alloc _).alloc _
 have hk1:Blk Wb (W.heap.size + 1) #[.int .i64 2] 3:=by
  rw [← hWb]
  have:=Blk.new (W.alloc (.cells #[.pointer (some ⟨p,0,none⟩)] 78)) #[.int .i64 2] 3
  rw [World.size_alloc] at this
  exact this.alloc _
 have hk2:Blk Wb (W.heap.size + 1 + 1) #[.string ⟨#[123]⟩] 9:=by
  rw [← hWb]
  have:=Blk.new ((W.alloc (.cells #[.pointer (some ⟨p,0,none⟩)] 78)).alloc (.cells #[.int .i64 2] 3)) #[.string ⟨#[123]⟩] 9
  rw [World.size_alloc,World.size_alloc] at this
  exact this
 rw [hWb] at hbA
 have hs:=JP.step hI hbA
 have HW:=Lib.hid (j_words1 B p (W.heap.size + 1 + 1) pr dp bs ⟨#[123]⟩ Wb hs.is (by show bs.length + 1 ≤ _; omega) hk2).calls
 rw [show (⟨#[123]⟩:ByteArray).data.toList=[123] from rfl] at HW
 have HWB:=Lib.hid hWb
 have z0:=hk0.cell 0
 have hp0:p < W.heap.size:=hI.lt
 have HL:=Lib.hid hl
 have HOK:=Lib.hid hok
 have HALL:=Lib.hid hall
 have HIH:=Lib.hid ih
 have HG:=Lib.hid hG
 have HB:=Lib.hid hb
 have HLEN:=Lib.hid hlen
 have HN:=Lib.hid hn
 have HDP:=Lib.hid hdp
 have HCN:=Lib.hid hcount
 have y0:¬ ((n:Int) == 0)=true:=by simp; omega
 have y1:¬ (n:Int)=0:=by omega
 have y2:wrap64 ((dp:Int) + 1)=(dp:Int) + 1:=by unfold wrap64; omega
 have HBW:=Lib.hid (isJ_size hI).1
 refine calls_of_marks Tryz.func146 rfl ?_
 simp only [Tryz.ntmps146,List.size_toArray,List.length_cons,List.length_nil,Nat.reduceAdd,Nat.reduceSub,Array.replicate_succ,Array.replicate_zero,List.push_toArray,List.append_toArray,List.nil_append,List.cons_append]
 clear hWb hI hbA hk2 hl hok hall ih hG hb hlen hn hdp hcount
 go_wp2_with fail
 go_step3
 go_wp2_with fail
 rw [HWB.out]
 refine HW.out.mono ?_
 rintro e W1 ⟨rfl,h1⟩
 have hs1:=hs.trans h1
 have hk3:=h1.blk hk0 (by omega) (by decide)
 have hk4:=h1.blk hk1 (by omega) (by decide)
 have x0:=hk3.cell 0
 have z0:=(hk3.alloc (.cells #[.string ⟨#[125]⟩] 9)).cell 0
 have z1:=(hk4.alloc (.cells #[.string ⟨#[125]⟩] 9)).cell 0
 obtain ⟨qp,qv,hkp⟩:=hs1.is.blk
 have zp:=(hkp.alloc (.cells #[.string ⟨#[125]⟩] 9)).cell 3
 have fp:=(hkp.alloc (.cells #[.string ⟨#[125]⟩] 9)).frozen 3
 have hd1:=hs1.trans (JP.deep hs1.is ((dp:Int) + 1))
 have hs3:=hd1.trans (JP.step hd1.is ((Below.refl _ _).alloc (Nat.le_refl _) (.cells #[.string ⟨#[125]⟩] 9)))
 have hk5:=(hk3.other (b':=p) (by omega) 3 (.int .i64 ((dp:Int) + 1))).alloc (.cells #[.string ⟨#[125]⟩] 9)
 have hk6:=(hk4.other (b':=p) (by omega) 3 (.int .i64 ((dp:Int) + 1))).alloc (.cells #[.string ⟨#[125]⟩] 9)
 have hzs:(W1.setCell ⟨p,3,none⟩ (.int .i64 ((dp:Int) + 1))).heap.size=W1.heap.size:=by simp [World.setCell]
 have hk7:=Blk.new (W1.setCell ⟨p,3,none⟩ (.int .i64 ((dp:Int) + 1))) #[.string ⟨#[125]⟩] 9
 rw [hzs] at hk7
 have hpW1:=hs1.is.lt
 have hzW1:W.heap.size + 1 < W1.heap.size:=hk4.lt
 clear hk0 hk1 h1 hs HW HWB hk3 hk4 hs1 hkp hd1
 obtain ⟨W3,hW3⟩:∃ W3,(W1.setCell ⟨p,3,none⟩ (.int .i64 ((dp:Int) + 1))).alloc (.cells #[.string ⟨#[125]⟩] 9)=W3:=⟨_,rfl⟩
 have hz3:W3.heap.size=W1.heap.size + 1:=by rw [← hW3,World.size_alloc,hzs]
 rw [hW3] at hs3 hk5 hk6 hk7
 have HW3:=Lib.hid hW3
 have HS3:=Lib.hid hs3
 have HK5:=Lib.hid hk5
 have HK6:=Lib.hid hk6
 have HK7:=Lib.hid hk7
 have HZ3:=Lib.hid hz3
 clear hs3 hk5 hk6 hk7 hz3 hW3 hzs
 go_wp2_with fail
 rw [HW3.out]
 clear x0 z0 z1 zp fp HW3
 have z0:=HK5.out.cell 0
 have z1:=HK6.out.cell 0
 have HP:=Lib.hid (j_pairs (some ad) n c 2 W3)
 go_step3
 go_wp2_with fail
 refine HP.out.mono ?_
 rintro e Wn ⟨rfl,hWn⟩
 have hbn:Below W3.heap.size W3 Wn:=by
  rw [hWn]
  exact ((Below.refl _ W3).alloc (Nat.le_refl _) _).alloc (by simp) _
 have hzn:Wn.heap.size=W3.heap.size + 2:=by rw [hWn]; simp
 have hkl:Blk Wn W3.heap.size #[.slice (some ad) n c] 25:=by
  rw [hWn]
  exact (Blk.new _ _ _).alloc _
 have hkz:Blk Wn (W3.heap.size + 1) #[.int .i64 2] 3:=by
  rw [hWn]
  have:=Blk.new (W3.alloc (.cells #[.slice (some ad) n c] 25)) #[.int .i64 2] 3
  rw [World.size_alloc] at this
  exact this
 have hsn:=HS3.out.trans (JP.step HS3.out.is hbn)
 have hk5:=HK5.out.below hbn HK5.out.lt
 have hk6:=HK6.out.below hbn HK6.out.lt
 have hk7:=HK7.out.below hbn HK7.out.lt
 have HSN:=Lib.hid hsn
 have HK5:=Lib.hid hk5
 have HK6:=Lib.hid hk6
 have HK7:=Lib.hid hk7
 have HZN:=Lib.hid hzn
 clear hWn hbn HS3 HP z0 z1 hsn hk5 hk6 hk7 hzn
 go_wp2_with fail
 have q1:W3.heap.size + 1 ≠ p:=by have:=HZ3.out; omega
 have q2:W3.heap.size ≠ p:=by have:=HZ3.out; omega
 have q3:B ≤ Wn.heap.size:=by have:=HBW.out; have:=HZ3.out; have:=HZN.out; omega
 have q4:W.heap.size ≤ Wn.heap.size:=by have:=HZ3.out; have:=HZN.out; omega


 refine wp_rangeFuncW (gf:=211) (lb:=#[.pointer (some ⟨W3.heap.size + 1,0,none⟩),.pointer (some ⟨W3.heap.size,0,none⟩)]) rfl (enters_of Tryz.func211 (by kernel_rfl) rfl)
  (jpairs2_seq (W3.heap.size + 1) W3.heap.size p B ad n c Wn hkz hkl hcap hn2 q1 q2)
  ?hMv ?hA0 ?hKt ?hKb ?hps
  (fun pre V=>JP B p pr ((dp:Int) + 1) (bs ++ [123] ++ jsM quoteL pr (dp + 1) true (l.take (pre.length * 2))) Wn V)
  (fun _ _ _=>False)
  ?hI ?hIx ?hIM ?hIxM ?h0 ?hCt
  (fun tm pre x a' _=>SoFar 2 n (pre ++ [x]) Wn ∧ ∃ i,x * 2=i ∧ a'={ tmps:=(((tm.setIfInBounds 32 (.int .i64 (i:Nat))).setIfInBounds 33 (.slice (some (ad.add (i * 9))) 2 (c - i))).setIfInBounds 10 (.int .i64 (i:Nat))).setIfInBounds 11 (.slice (some (ad.add (i * 9))) 2 (c - i)),defers:=[] })
  ?hAx ?assign ?body ?hS ?hSp ?done ?stop
 case hMv=>exact fun A B k o hM _ ho _=>hM ▸ ho
 case hA0=>exact fun o o'=>((Below.refl _ Wn).alloc (Nat.le_refl _) o).alloc (by simp) o'
 case hKt=>exact fun h1 h2=>h1.trans h2
 case hKb=>exact fun V l o o' hl h ho=>KpJ.putObj V l o o' (Nat.le_trans q3 hl) h ho
 case hps=>exact fun _=>rfl
 case hI=>exact fun s A A' row h hg hr=>jp_grown q3 h hg hr
 case hIx=>exact fun _ _ _ _ _ h _ _=>h.elim
 case hIM=>exact fun s A A' h hM=>hM ▸ h
 case hIxM=>exact fun _ _ _ _ h _=>h.elim
 case h0 =>
  show JP B p pr ((dp:Int) + 1) (bs ++ [123] ++ jsM quoteL pr (dp + 1) true (l.take (0 * 2))) Wn Wn
  rw [Nat.zero_mul,List.take_zero,jsM,List.append_nil]
  exact ⟨HSN.out.is,Below.refl _ _,Lib.OthersKept.refl _ _ _⟩
 case hCt=>exact fun _ _ _ _=>trivial
 case hAx=>exact fun pre x a' _ A B' row h _ _=>h
 case assign =>
  rintro l1 pre x V K hI hT hK
  have HKK:=Lib.hid hK
  have HT:=Lib.hid (show SoFar 2 n (pre ++ [x]) Wn from hT)
  have HI:=Lib.hid hI
  unfold encJ
  obtain ⟨i,hi⟩:∃ i,x * 2=i:=⟨_,rfl⟩
  rw [hi]
  have HIE:=Lib.hid hi
  clear hK hT hI hi
  gi_wp2
  exact HKK.out _ _ (KeepsFrom.refl _ _) (KpJ.refl _ _ _) HI.out ⟨HT.out,i,HIE.out,rfl⟩
 case body =>
  rintro l1 pre x a' V hl1 hlo hI ⟨⟨hx1,hx2⟩,i,hi,rfl⟩
  have hpx:pre.length=x:=by
   rw [List.length_append,List.length_singleton,List.range_succ] at hx1
   have:=(List.append_inj' hx1 rfl).2
   simpa using this.symm
  rw [List.length_append,List.length_singleton,Nat.add_mul,hpx,hi] at hx2
  rw [hpx,hi] at hI
  have hil:i + 1 < l.length:=by have:=HN.out; omega
  have hpl:(l.take i).length=i:=by rw [List.length_take]; omega
  clear hx1
  obtain ⟨t1,ht1⟩:∃ t,l[i]? = some t:=⟨_,List.getElem?_eq_getElem (by omega)⟩
  have HT0:=Lib.hid ht1
  have HM0:=Lib.hid (List.mem_of_getElem? ht1)
  obtain ⟨t2,ht2⟩:∃ t,l[i + 1]? = some t:=⟨_,List.getElem?_eq_getElem (by omega)⟩
  have HT1:=Lib.hid ht2
  have HM1:=Lib.hid (List.mem_of_getElem? ht2)
  have hev:i % 2=0:=by omega
  have hstep:jsM quoteL pr (dp + 1) true (l.take (i + 2))=jsM quoteL pr (dp + 1) true (l.take i) ++ ((if i=0 then [] else [44]) ++ (lineL pr (dp + 1) ++ (jsT quoteL pr (dp + 1) t1 ++ (58 :: (gapL pr ++ jsT quoteL pr (dp + 1) t2))))):=by
   have e2:l.take (i + 2)=l.take i ++ [t1,t2]:=by
    rw [show i + 2=(i + 1) + 1 by omega,List.take_add_one,List.take_add_one,ht1,ht2,List.append_assoc]
    rfl
   rw [e2,rowsM_snoc quoteL pr (dp + 1) t1 t2 (i / 2) (l.take i) true (by rw [hpl]; omega)]
   by_cases h0:i=0
   ·rw [if_pos ⟨rfl,List.length_eq_zero_iff.1 (hpl.trans h0)⟩,if_pos h0]
   ·rw [if_neg (fun h=>h0 (by rw [← hpl,h.2]; rfl)),if_neg h0]
  have hpart:(jsM quoteL pr (dp + 1) true (l.take (i + 2))).length ≤ (jsM quoteL pr (dp + 1) true l).length:=by
   have h:=rowsM_pre quoteL pr (dp + 1) (i / 2 + 1) (l.take (i + 2)) (l.drop (i + 2)) true (by rw [List.length_take]; omega)
   rw [List.take_append_drop] at h
   exact h
  clear ht1 ht2
  have hlen:=HLEN.out
  rw [List.length_append] at hlen
  have hdp:=HDP.out
  have hcast:((dp + 1:Nat):Int)=(dp:Int) + 1:=by omega
  rw [hstep] at hpart
  simp only [List.length_append,List.length_cons] at hpart
  have hgoal:jsM quoteL pr (dp + 1) true (l.take ((pre ++ [x]).length * 2))=jsM quoteL pr (dp + 1) true (l.take (i + 2)):=by
   rw [List.length_append,List.length_singleton,Nat.add_mul,hpx,hi]
  obtain ⟨cur,hcur⟩:∃ cur,bs ++ [123] ++ jsM quoteL pr (dp + 1) true (l.take i)=cur:=⟨_,rfl⟩
  have hcl:cur.length=bs.length + 1 + (jsM quoteL pr (dp + 1) true (l.take i)).length:=by
   rw [← hcur,List.length_append,List.length_append]
   rfl
  rw [hcur] at hI
  have hend:bs ++ [123] ++ jsM quoteL pr (dp + 1) true (l.take ((pre ++ [x]).length * 2))=cur ++ ((if i=0 then [] else [44]) ++ (lineL pr (dp + 1) ++ (jsT quoteL pr (dp + 1) t1 ++ (58 :: (gapL pr ++ jsT quoteL pr (dp + 1) t2))))):=by
   rw [hgoal,hstep,← hcur]
   (simp only [List.append_assoc]) <;> rfl
  have HEND:=Lib.hid hend
  have hk5:=hI.blk HK5.out (by omega) (by decide)
  have hk6:=hI.blk HK6.out (by omega) (by decide)
  have HI:=Lib.hid hI
  have hpV:=hI.is.lt
  have hzV:=hk6.lt
  clear hI hstep hgoal hcur hend hpl hi hpx
  have hgt:(gapL true).length=1:=rfl
  have hgf:(gapL false).length=0:=rfl
  cases pr with
  | true =>
   by_cases h0:i=0
   ·skip
    have z0:=hk5.cell 0
    subst h0
    have he0:=HEND.out
    rw [if_pos rfl] at hpart he0
    have HENE:=Lib.hid he0
    clear he0 HEND
    simp only [List.length_nil] at hpart
    have hv:JP B p true ((dp:Int) + 1) cur V V:=⟨HI.out.is,Below.refl _ _,Lib.OthersKept.refl _ _ _⟩
    gi_wp2_with fail
    have hk5a:=hv.blk hk5 (by omega) (by decide)
    clear z0
    have z0:=hk5a.cell 0
    have HLI:=j_line B p true (dp + 1) cur V (by rw [hcast]; exact hv.is) (by omega) (by omega)
    rw [hcast] at HLI
    have HLI:=Lib.hid HLI
    have HVV:=Lib.hid hv
    clear hk5a hv
    gi_wp2_with fail
    refine (show CallsIn (Fence.wide.inRound l1) 6 _ _ _ _ _ from (callsIn_wide.2 HLI.out:CallsIn Fence.wide 6 _ _ _ _ _)).mono ?_
    rintro e V2 ⟨rfl,h2⟩
    have hv:=HVV.out.trans h2
    clear h2 HLI HVV z0
    gi_wp2_with fail
    have hbV:=HB.out.trans ((HSN.out.below.trans (HI.out.trans hv).below).mono hB)
    obtain ⟨d0,A2,n2,c2,hn2',hab0,hna0,hkk0⟩:=at_node HL.out HT0.out
    have hnaV:=hna0.keep (W':=V2) (by rw [add_block]; exact hbV.block _ (by omega))
    rw [show ad.add (0 * 9)=ad from rfl] at hnaV
    have hvd:JP B p true ((dp:Int) + 1) (cur ++ lineL true (dp + 1)) V V2.drew:=⟨hv.is,hv.below.drew,fun k o hk h1 h2=>hv.others k o hk h1 h2⟩
    have HND:=j_write t1 (HIH.out _ HM0.out).1 (HIH.out _ HM0.out).2 B0 B p d0 true (dp + 1) (cur ++ lineL true (dp + 1)) A2 n2 c2 w0 V2.drew aT aF hkk0 hB0 hB hbV.drew (by rw [hcast]; exact hvd.is) HG.out (okJL_mem HOK.out _ HM0.out) (allL_memJ HALL.out HM0.out) (by (repeat rw [List.length_append]); omega) hn2' (Nat.le_trans (countL_mem HM0.out) HCN.out) (by have:=depthL_mem HM0.out; omega)
    rw [hcast] at HND
    obtain ⟨⟨kind2,b2,neg2,dg2,ex2,u2,wd2,s2⟩,ho2⟩:∃ o,t1.own=o:=⟨_,rfl⟩
    rw [ho2] at HND hnaV
    have HND:=Lib.hid HND
    have HNA:=Lib.hid hnaV
    have hk5b:=hv.blk hk5 (by omega) (by decide)
    have HK5V:=Lib.hid hk5b
    clear hnaV hbV hkk0 hna0 hab0 ho2 hn2' hk5b
    refine wpIn_region_tail (R:=fun A A'=>A=A') 4 (by kernel_rfl) (by kernel_rfl) (fun _=>rfl) (by kernel_rfl) (by kernel_rfl) (by kernel_rfl) (fun A=>A=V2.drew)
     [fun v _=>v=.pointer (some ⟨p,0,none⟩),fun v _=>v=.slice (some ad) 2 c,fun v _=>v=.pointer (some ad),fun v _=>v=nodeV ⟨kind2,b2,neg2,dg2,ex2,u2,wd2,s2⟩ (.slice A2 n2 c2)] rfl (fun _ _ he hr=>hr ▸ he) ?_ ?_ ?_
    ·intro q hq v A A' _ hv' hr
     exact hr ▸ hv'
    ·refine flow_cons (flow_op rfl rfl (by kernel_rfl) (by kernel_rfl) ?_) ?_
     ·intro env A hE hn' ρ hρ hc hf hg K hK
      have r5:ρ (.tmp 5)=.pointer (some ⟨W.heap.size,0,none⟩):=by rw [hρ]; kernel_rfl
      clear hρ hn' hg
      subst hE
      have q0:=HK5V.out.drew.cell 0
      simp [opLands,go_sem,r5,q0]
      exact hK _ _ rfl rfl
     refine flow_cons (flow_op rfl rfl (by kernel_rfl) (by kernel_rfl) ?_) ?_
     ·intro env A hE hn' ρ hρ hc hf hg K hK
      have r11:ρ (.tmp 11)=.slice (some ad) 2 c:=by rw [hρ]; kernel_rfl
      clear hρ hn' hg
      simp [opLands,go_sem,r11]
      exact hK _ _ rfl rfl
     refine flow_cons (flow_op rfl rfl (by kernel_rfl) (by kernel_rfl) ?_) ?_
     ·intro env A hE hn' ρ hρ hc hf hg K hK
      have r42:=(show ρ (.tmp 42)=env 1 by rw [hρ]; kernel_rfl).trans (hn' 1 (by kernel_rfl))
      clear hρ hn' hg
      simp [opLands,go_sem,hc,r42]
      exact hK _ _ rfl rfl
     refine flow_cons (flow_op rfl rfl (by kernel_rfl) (by kernel_rfl) ?_) flow_nil
     ·intro env A hE hn' ρ hρ hc hf hg K hK
      have r43:=(show ρ (.tmp 43)=env 2 by rw [hρ]; kernel_rfl).trans (hn' 2 (by kernel_rfl))
      clear hρ hn' hg
      subst hE
      obtain ⟨q0,q1,q2,q3,q4,q5,q6,q7,q8⟩:=HNA.out
      obtain ⟨ai,hai⟩:∃ ai,ad=ai:=⟨_,rfl⟩
      simp only [hai] at q0 q1 q2 q3 q4 q5 q6 q7 q8 r43
      have q0:V2.drew.cell? ai=_:=q0
      have q1:V2.drew.cell? _=_:=q1
      have q2:V2.drew.cell? _=_:=q2
      have q3:V2.drew.cell? _=_:=q3
      have q4:V2.drew.cell? _=_:=q4
      have q5:V2.drew.cell? _=_:=q5
      have q6:V2.drew.cell? _=_:=q6
      have q7:V2.drew.cell? _=_:=q7
      have q8:V2.drew.cell? _=_:=q8
      simp [opLands,go_sem,r43,q0,q1,q2,q3,q4,q5,q6,q7,q8]
      exact hK _ _ rfl rfl
    intro env A hE hn'
    have e0:env 0=.pointer (some ⟨p,0,none⟩):=hn' 0 (by decide)
    have e3:env 3=nodeV ⟨kind2,b2,neg2,dg2,ex2,u2,wd2,s2⟩ (.slice A2 n2 c2):=hn' 3 (by decide)
    have e1:env 1=.slice (some ad) 2 c:=hn' 1 (by decide)
    have e2:env 2=.pointer (some ad):=hn' 2 (by decide)
    clear hn'
    subst hE
    simp only [List.take_succ_cons,List.take_zero,List.drop_succ_cons,List.drop_zero,frameAll,e0,e1,e2,e3]
    clear e0 e1 e2 e3 HNA
    have HVD:=Lib.hid hvd
    clear hv hvd HK5V
    unfold nodeV at HND ⊢
    go_simp
    gi_wp2_with fail
    refine (show CallsIn (Fence.wide.inRound l1) 6 _ _ _ _ _ from (callsIn_wide.2 HND.out:CallsIn Fence.wide 6 _ _ _ _ _)).mono ?_
    rintro e V3 ⟨rfl,h3⟩
    have hv:=HVD.out.trans h3
    clear h3 HND HVD
    have hk5a:=hv.blk hk5 (by omega) (by decide)
    have hk6a:=hv.blk hk6 (by omega) (by decide)
    have z0:=hk5a.cell 0
    have z1:=hk6a.cell 0
    have hba:Below V3.heap.size V3 (V3.alloc (.cells #[.string ⟨#[58]⟩] 9)):=(Below.refl _ V3).alloc (Nat.le_refl _) _
    have HC:=Lib.hid (j_words1 B p V3.heap.size true ((dp:Int) + 1) ((cur ++ lineL true (dp + 1)) ++ jsT quoteL true (dp + 1) t1) ⟨#[58]⟩ _ (isJ_below hv.is hba) (by (repeat rw [List.length_append]); show _ + 1 ≤ _; omega) (Blk.new _ _ _)).calls
    have HJA:=Lib.hid (hv.trans (JP.step hv.is hba))
    clear hba hk5a hk6a hv
    gi_wp2_with fail
    refine (show CallsIn (Fence.wide.inRound l1) 6 _ _ _ _ _ from (callsIn_wide.2 HC.out:CallsIn Fence.wide 6 _ _ _ _ _)).mono ?_
    rintro e V4 ⟨rfl,h1⟩
    have hv:=HJA.out.trans h1
    rw [show ((cur ++ lineL true (dp + 1)) ++ jsT quoteL true (dp + 1) t1) ++ (⟨#[58]⟩:ByteArray).data.toList=(((cur ++ lineL true (dp + 1)) ++ jsT quoteL true (dp + 1) t1) ++ [58]) from rfl] at hv
    clear h1 HC HJA z0 z1
    have hk5a:=hv.blk hk5 (by omega) (by decide)
    have z0:=hk5a.cell 0
    obtain ⟨qp4,qv4,hkp⟩:=hv.is.blk
    have zp:=hkp.cell 2
    have hba:Below V4.heap.size V4 (V4.alloc (.cells #[.string ⟨#[32]⟩] 9)):=(Below.refl _ V4).alloc (Nat.le_refl _) _
    have HC:=Lib.hid (j_words1 B p V4.heap.size true ((dp:Int) + 1) (((cur ++ lineL true (dp + 1)) ++ jsT quoteL true (dp + 1) t1) ++ [58]) ⟨#[32]⟩ _ (isJ_below hv.is hba) (by (repeat rw [List.length_append]); rw [show ([58]:List UInt8).length=1 from rfl]; show _ + 1 ≤ _; omega) (Blk.new _ _ _)).calls
    have HJA:=Lib.hid (hv.trans (JP.step hv.is hba))
    clear hba hk5a hkp hv
    gi_wp2_with fail
    refine (show CallsIn (Fence.wide.inRound l1) 6 _ _ _ _ _ from (callsIn_wide.2 HC.out:CallsIn Fence.wide 6 _ _ _ _ _)).mono ?_
    rintro e V5 ⟨rfl,h1⟩
    have hv:=HJA.out.trans h1
    rw [show (((cur ++ lineL true (dp + 1)) ++ jsT quoteL true (dp + 1) t1) ++ [58]) ++ (⟨#[32]⟩:ByteArray).data.toList=((((cur ++ lineL true (dp + 1)) ++ jsT quoteL true (dp + 1) t1) ++ [58]) ++ [32]) from rfl] at hv
    clear h1 HC HJA z0 zp
    gi_wp2_with fail
    have hbV:=HB.out.trans ((HSN.out.below.trans (HI.out.trans hv).below).mono hB)
    obtain ⟨d0,A2,n2,c2,hn2',hab0,hna0,hkk0⟩:=at_node HL.out HT1.out
    have hnaV:=hna0.keep (W':=V5) (by rw [add_block]; exact hbV.block _ (by omega))
    rw [show (0 + 1) * 9=9 from rfl] at hnaV
    have hvd:JP B p true ((dp:Int) + 1) ((((cur ++ lineL true (dp + 1)) ++ jsT quoteL true (dp + 1) t1) ++ [58]) ++ [32]) V V5.drew:=⟨hv.is,hv.below.drew,fun k o hk h1 h2=>hv.others k o hk h1 h2⟩
    have HND:=j_write t2 (HIH.out _ HM1.out).1 (HIH.out _ HM1.out).2 B0 B p d0 true (dp + 1) ((((cur ++ lineL true (dp + 1)) ++ jsT quoteL true (dp + 1) t1) ++ [58]) ++ [32]) A2 n2 c2 w0 V5.drew aT aF hkk0 hB0 hB hbV.drew (by rw [hcast]; exact hvd.is) HG.out (okJL_mem HOK.out _ HM1.out) (allL_memJ HALL.out HM1.out) (by (repeat rw [List.length_append]); rw [show ([58]:List UInt8).length=1 from rfl]; rw [show ([32]:List UInt8).length=1 from rfl]; omega) hn2' (Nat.le_trans (countL_mem HM1.out) HCN.out) (by have:=depthL_mem HM1.out; omega)
    rw [hcast] at HND
    obtain ⟨⟨kind2,b2,neg2,dg2,ex2,u2,wd2,s2⟩,ho2⟩:∃ o,t2.own=o:=⟨_,rfl⟩
    rw [ho2] at HND hnaV
    have HND:=Lib.hid HND
    have HNA:=Lib.hid hnaV
    have hk5b:=hv.blk hk5 (by omega) (by decide)
    have HK5V:=Lib.hid hk5b
    clear hnaV hbV hkk0 hna0 hab0 ho2 hn2' hk5b
    refine wpIn_region_tail (R:=fun A A'=>A=A') 4 (by kernel_rfl) (by kernel_rfl) (fun _=>rfl) (by kernel_rfl) (by kernel_rfl) (by kernel_rfl) (fun A=>A=V5.drew)
     [fun v _=>v=.pointer (some ⟨p,0,none⟩),fun v _=>v=.slice (some ad) 2 c,fun v _=>v=.pointer (some (ad.add 9)),fun v _=>v=nodeV ⟨kind2,b2,neg2,dg2,ex2,u2,wd2,s2⟩ (.slice A2 n2 c2)] rfl (fun _ _ he hr=>hr ▸ he) ?_ ?_ ?_
    ·intro q hq v A A' _ hv' hr
     exact hr ▸ hv'
    ·refine flow_cons (flow_op rfl rfl (by kernel_rfl) (by kernel_rfl) ?_) ?_
     ·intro env A hE hn' ρ hρ hc hf hg K hK
      have r5:ρ (.tmp 5)=.pointer (some ⟨W.heap.size,0,none⟩):=by rw [hρ]; kernel_rfl
      clear hρ hn' hg
      subst hE
      have q0:=HK5V.out.drew.cell 0
      simp [opLands,go_sem,r5,q0]
      exact hK _ _ rfl rfl
     refine flow_cons (flow_op rfl rfl (by kernel_rfl) (by kernel_rfl) ?_) ?_
     ·intro env A hE hn' ρ hρ hc hf hg K hK
      have r11:ρ (.tmp 11)=.slice (some ad) 2 c:=by rw [hρ]; kernel_rfl
      clear hρ hn' hg
      simp [opLands,go_sem,r11]
      exact hK _ _ rfl rfl
     refine flow_cons (flow_op rfl rfl (by kernel_rfl) (by kernel_rfl) ?_) ?_
     ·intro env A hE hn' ρ hρ hc hf hg K hK
      have r59:=(show ρ (.tmp 59)=env 1 by rw [hρ]; kernel_rfl).trans (hn' 1 (by kernel_rfl))
      clear hρ hn' hg
      simp [opLands,go_sem,hc,r59]
      exact hK _ _ rfl rfl
     refine flow_cons (flow_op rfl rfl (by kernel_rfl) (by kernel_rfl) ?_) flow_nil
     ·intro env A hE hn' ρ hρ hc hf hg K hK
      have r60:=(show ρ (.tmp 60)=env 2 by rw [hρ]; kernel_rfl).trans (hn' 2 (by kernel_rfl))
      clear hρ hn' hg
      subst hE
      obtain ⟨q0,q1,q2,q3,q4,q5,q6,q7,q8⟩:=HNA.out
      obtain ⟨ai,hai⟩:∃ ai,(ad.add 9)=ai:=⟨_,rfl⟩
      simp only [hai] at q0 q1 q2 q3 q4 q5 q6 q7 q8 r60
      have q0:V5.drew.cell? ai=_:=q0
      have q1:V5.drew.cell? _=_:=q1
      have q2:V5.drew.cell? _=_:=q2
      have q3:V5.drew.cell? _=_:=q3
      have q4:V5.drew.cell? _=_:=q4
      have q5:V5.drew.cell? _=_:=q5
      have q6:V5.drew.cell? _=_:=q6
      have q7:V5.drew.cell? _=_:=q7
      have q8:V5.drew.cell? _=_:=q8
      simp [opLands,go_sem,r60,q0,q1,q2,q3,q4,q5,q6,q7,q8]
      exact hK _ _ rfl rfl
    intro env A hE hn'
    have e0:env 0=.pointer (some ⟨p,0,none⟩):=hn' 0 (by decide)
    have e3:env 3=nodeV ⟨kind2,b2,neg2,dg2,ex2,u2,wd2,s2⟩ (.slice A2 n2 c2):=hn' 3 (by decide)
    have e1:env 1=.slice (some ad) 2 c:=hn' 1 (by decide)
    have e2:env 2=.pointer (some (ad.add 9)):=hn' 2 (by decide)
    clear hn'
    subst hE
    simp only [List.take_succ_cons,List.take_zero,List.drop_succ_cons,List.drop_zero,frameAll,e0,e1,e2,e3]
    clear e0 e1 e2 e3 HNA
    have HVD:=Lib.hid hvd
    clear hv hvd HK5V
    unfold nodeV at HND ⊢
    go_simp
    gi_wp2_with fail
    refine (show CallsIn (Fence.wide.inRound l1) 6 _ _ _ _ _ from (callsIn_wide.2 HND.out:CallsIn Fence.wide 6 _ _ _ _ _)).mono ?_
    rintro e V6 ⟨rfl,h3⟩
    have hv:=HVD.out.trans h3
    clear h3 HND HVD
    have HV:=Lib.hid hv
    clear hv
    gi_wp2_with fail
    refine ⟨othersJ_from HV.out.others HV.out.below.size HI.out.is,KpJ.of HV.out HV.out.below.size,?_⟩
    have hfin:=HI.out.trans HV.out
    have he:=HENE.out
    show JP B p true ((dp:Int) + 1) (bs ++ [123] ++ jsM quoteL true (dp + 1) true (l.take ((pre ++ [x]).length * 2))) Wn V6
    rw [he]
    have e:cur ++ ([] ++ (lineL true (dp + 1) ++ (jsT quoteL true (dp + 1) t1 ++ (58 :: (gapL true ++ jsT quoteL true (dp + 1) t2)))))=(((((cur ++ lineL true (dp + 1)) ++ jsT quoteL true (dp + 1) t1) ++ [58]) ++ [32]) ++ jsT quoteL true (dp + 1) t2):=by
     rw [show gapL true=[32] from rfl]
     simp
    rw [e]
    exact hfin
   ·skip
    have z0:=hk5.cell 0
    have he0:=HEND.out
    rw [if_neg h0] at hpart he0
    have HENE:=Lib.hid he0
    clear he0 HEND
    simp only [List.length_cons,List.length_nil] at hpart
    have y5:(0:Int) < i:=by omega
    have hba:Below V.heap.size V (V.alloc (.cells #[.string ⟨#[44]⟩] 9)):=(Below.refl _ V).alloc (Nat.le_refl _) _
    have HC:=Lib.hid (j_words1 B p V.heap.size true ((dp:Int) + 1) cur ⟨#[44]⟩ _ (isJ_below HI.out.is hba) (by show cur.length + 1 ≤ _; omega) (Blk.new _ _ _)).calls
    have HJA:=Lib.hid (JP.step HI.out.is hba)
    clear hba
    gi_wp2_with fail
    refine (show CallsIn (Fence.wide.inRound l1) 6 _ _ _ _ _ from (callsIn_wide.2 HC.out:CallsIn Fence.wide 6 _ _ _ _ _)).mono ?_
    rintro e V1 ⟨rfl,h1⟩
    have hv:=HJA.out.trans h1
    rw [show cur ++ (⟨#[44]⟩:ByteArray).data.toList=cur ++ [44] from rfl] at hv
    clear h1 HC HJA z0
    have hk5a:=hv.blk hk5 (by omega) (by decide)

    have z0:=hk5a.cell 0
    have HLI:=j_line B p true (dp + 1) (cur ++ [44]) V1 (by rw [hcast]; exact hv.is) (by rw [List.length_append]; show _ + 1 ≤ _; omega) (by omega)
    rw [hcast] at HLI
    have HLI:=Lib.hid HLI
    have HVV:=Lib.hid hv
    clear hk5a hv
    gi_wp2_with fail
    refine (show CallsIn (Fence.wide.inRound l1) 6 _ _ _ _ _ from (callsIn_wide.2 HLI.out:CallsIn Fence.wide 6 _ _ _ _ _)).mono ?_
    rintro e V2 ⟨rfl,h2⟩
    have hv:=HVV.out.trans h2
    clear h2 HLI HVV z0
    gi_wp2_with fail
    have hbV:=HB.out.trans ((HSN.out.below.trans (HI.out.trans hv).below).mono hB)
    obtain ⟨d0,A2,n2,c2,hn2',hab0,hna0,hkk0⟩:=at_node HL.out HT0.out
    have hnaV:=hna0.keep (W':=V2) (by rw [add_block]; exact hbV.block _ (by omega))

    have hvd:JP B p true ((dp:Int) + 1) ((cur ++ [44]) ++ lineL true (dp + 1)) V V2.drew:=⟨hv.is,hv.below.drew,fun k o hk h1 h2=>hv.others k o hk h1 h2⟩
    have HND:=j_write t1 (HIH.out _ HM0.out).1 (HIH.out _ HM0.out).2 B0 B p d0 true (dp + 1) ((cur ++ [44]) ++ lineL true (dp + 1)) A2 n2 c2 w0 V2.drew aT aF hkk0 hB0 hB hbV.drew (by rw [hcast]; exact hvd.is) HG.out (okJL_mem HOK.out _ HM0.out) (allL_memJ HALL.out HM0.out) (by (repeat rw [List.length_append]); rw [show ([44]:List UInt8).length=1 from rfl]; omega) hn2' (Nat.le_trans (countL_mem HM0.out) HCN.out) (by have:=depthL_mem HM0.out; omega)
    rw [hcast] at HND
    obtain ⟨⟨kind2,b2,neg2,dg2,ex2,u2,wd2,s2⟩,ho2⟩:∃ o,t1.own=o:=⟨_,rfl⟩
    rw [ho2] at HND hnaV
    have HND:=Lib.hid HND
    have HNA:=Lib.hid hnaV
    have hk5b:=hv.blk hk5 (by omega) (by decide)
    have HK5V:=Lib.hid hk5b
    clear hnaV hbV hkk0 hna0 hab0 ho2 hn2' hk5b
    refine wpIn_region_tail (R:=fun A A'=>A=A') 4 (by kernel_rfl) (by kernel_rfl) (fun _=>rfl) (by kernel_rfl) (by kernel_rfl) (by kernel_rfl) (fun A=>A=V2.drew)
     [fun v _=>v=.pointer (some ⟨p,0,none⟩),fun v _=>v=.slice (some (ad.add (i * 9))) 2 (c - i),fun v _=>v=.pointer (some (ad.add (i * 9))),fun v _=>v=nodeV ⟨kind2,b2,neg2,dg2,ex2,u2,wd2,s2⟩ (.slice A2 n2 c2)] rfl (fun _ _ he hr=>hr ▸ he) ?_ ?_ ?_
    ·intro q hq v A A' _ hv' hr
     exact hr ▸ hv'
    ·refine flow_cons (flow_op rfl rfl (by kernel_rfl) (by kernel_rfl) ?_) ?_
     ·intro env A hE hn' ρ hρ hc hf hg K hK
      have r5:ρ (.tmp 5)=.pointer (some ⟨W.heap.size,0,none⟩):=by rw [hρ]; kernel_rfl
      clear hρ hn' hg
      subst hE
      have q0:=HK5V.out.drew.cell 0
      simp [opLands,go_sem,r5,q0]
      exact hK _ _ rfl rfl
     refine flow_cons (flow_op rfl rfl (by kernel_rfl) (by kernel_rfl) ?_) ?_
     ·intro env A hE hn' ρ hρ hc hf hg K hK
      have r11:ρ (.tmp 11)=.slice (some (ad.add (i * 9))) 2 (c - i):=by rw [hρ]; kernel_rfl
      clear hρ hn' hg
      simp [opLands,go_sem,r11]
      exact hK _ _ rfl rfl
     refine flow_cons (flow_op rfl rfl (by kernel_rfl) (by kernel_rfl) ?_) ?_
     ·intro env A hE hn' ρ hρ hc hf hg K hK
      have r42:=(show ρ (.tmp 42)=env 1 by rw [hρ]; kernel_rfl).trans (hn' 1 (by kernel_rfl))
      clear hρ hn' hg
      simp [opLands,go_sem,hc,r42]
      exact hK _ _ rfl rfl
     refine flow_cons (flow_op rfl rfl (by kernel_rfl) (by kernel_rfl) ?_) flow_nil
     ·intro env A hE hn' ρ hρ hc hf hg K hK
      have r43:=(show ρ (.tmp 43)=env 2 by rw [hρ]; kernel_rfl).trans (hn' 2 (by kernel_rfl))
      clear hρ hn' hg
      subst hE
      obtain ⟨q0,q1,q2,q3,q4,q5,q6,q7,q8⟩:=HNA.out
      obtain ⟨ai,hai⟩:∃ ai,(ad.add (i * 9))=ai:=⟨_,rfl⟩
      simp only [hai] at q0 q1 q2 q3 q4 q5 q6 q7 q8 r43
      have q0:V2.drew.cell? ai=_:=q0
      have q1:V2.drew.cell? _=_:=q1
      have q2:V2.drew.cell? _=_:=q2
      have q3:V2.drew.cell? _=_:=q3
      have q4:V2.drew.cell? _=_:=q4
      have q5:V2.drew.cell? _=_:=q5
      have q6:V2.drew.cell? _=_:=q6
      have q7:V2.drew.cell? _=_:=q7
      have q8:V2.drew.cell? _=_:=q8
      simp [opLands,go_sem,r43,q0,q1,q2,q3,q4,q5,q6,q7,q8]
      exact hK _ _ rfl rfl
    intro env A hE hn'
    have e0:env 0=.pointer (some ⟨p,0,none⟩):=hn' 0 (by decide)
    have e3:env 3=nodeV ⟨kind2,b2,neg2,dg2,ex2,u2,wd2,s2⟩ (.slice A2 n2 c2):=hn' 3 (by decide)
    have e1:env 1=.slice (some (ad.add (i * 9))) 2 (c - i):=hn' 1 (by decide)
    have e2:env 2=.pointer (some (ad.add (i * 9))):=hn' 2 (by decide)
    clear hn'
    subst hE
    simp only [List.take_succ_cons,List.take_zero,List.drop_succ_cons,List.drop_zero,frameAll,e0,e1,e2,e3]
    clear e0 e1 e2 e3 HNA
    have HVD:=Lib.hid hvd
    clear hv hvd HK5V
    unfold nodeV at HND ⊢
    go_simp
    gi_wp2_with fail
    refine (show CallsIn (Fence.wide.inRound l1) 6 _ _ _ _ _ from (callsIn_wide.2 HND.out:CallsIn Fence.wide 6 _ _ _ _ _)).mono ?_
    rintro e V3 ⟨rfl,h3⟩
    have hv:=HVD.out.trans h3
    clear h3 HND HVD
    have hk5a:=hv.blk hk5 (by omega) (by decide)
    have hk6a:=hv.blk hk6 (by omega) (by decide)
    have z0:=hk5a.cell 0
    have z1:=hk6a.cell 0
    have hba:Below V3.heap.size V3 (V3.alloc (.cells #[.string ⟨#[58]⟩] 9)):=(Below.refl _ V3).alloc (Nat.le_refl _) _
    have HC:=Lib.hid (j_words1 B p V3.heap.size true ((dp:Int) + 1) (((cur ++ [44]) ++ lineL true (dp + 1)) ++ jsT quoteL true (dp + 1) t1) ⟨#[58]⟩ _ (isJ_below hv.is hba) (by (repeat rw [List.length_append]); rw [show ([44]:List UInt8).length=1 from rfl]; show _ + 1 ≤ _; omega) (Blk.new _ _ _)).calls
    have HJA:=Lib.hid (hv.trans (JP.step hv.is hba))
    clear hba hk5a hk6a hv
    gi_wp2_with fail
    refine (show CallsIn (Fence.wide.inRound l1) 6 _ _ _ _ _ from (callsIn_wide.2 HC.out:CallsIn Fence.wide 6 _ _ _ _ _)).mono ?_
    rintro e V4 ⟨rfl,h1⟩
    have hv:=HJA.out.trans h1
    rw [show (((cur ++ [44]) ++ lineL true (dp + 1)) ++ jsT quoteL true (dp + 1) t1) ++ (⟨#[58]⟩:ByteArray).data.toList=((((cur ++ [44]) ++ lineL true (dp + 1)) ++ jsT quoteL true (dp + 1) t1) ++ [58]) from rfl] at hv
    clear h1 HC HJA z0 z1
    have hk5a:=hv.blk hk5 (by omega) (by decide)
    have z0:=hk5a.cell 0
    obtain ⟨qp4,qv4,hkp⟩:=hv.is.blk
    have zp:=hkp.cell 2
    have hba:Below V4.heap.size V4 (V4.alloc (.cells #[.string ⟨#[32]⟩] 9)):=(Below.refl _ V4).alloc (Nat.le_refl _) _
    have HC:=Lib.hid (j_words1 B p V4.heap.size true ((dp:Int) + 1) ((((cur ++ [44]) ++ lineL true (dp + 1)) ++ jsT quoteL true (dp + 1) t1) ++ [58]) ⟨#[32]⟩ _ (isJ_below hv.is hba) (by (repeat rw [List.length_append]); rw [show ([44]:List UInt8).length=1 from rfl]; rw [show ([58]:List UInt8).length=1 from rfl]; show _ + 1 ≤ _; omega) (Blk.new _ _ _)).calls
    have HJA:=Lib.hid (hv.trans (JP.step hv.is hba))
    clear hba hk5a hkp hv
    gi_wp2_with fail
    refine (show CallsIn (Fence.wide.inRound l1) 6 _ _ _ _ _ from (callsIn_wide.2 HC.out:CallsIn Fence.wide 6 _ _ _ _ _)).mono ?_
    rintro e V5 ⟨rfl,h1⟩
    have hv:=HJA.out.trans h1
    rw [show ((((cur ++ [44]) ++ lineL true (dp + 1)) ++ jsT quoteL true (dp + 1) t1) ++ [58]) ++ (⟨#[32]⟩:ByteArray).data.toList=(((((cur ++ [44]) ++ lineL true (dp + 1)) ++ jsT quoteL true (dp + 1) t1) ++ [58]) ++ [32]) from rfl] at hv
    clear h1 HC HJA z0 zp
    gi_wp2_with fail
    have hbV:=HB.out.trans ((HSN.out.below.trans (HI.out.trans hv).below).mono hB)
    obtain ⟨d0,A2,n2,c2,hn2',hab0,hna0,hkk0⟩:=at_node HL.out HT1.out
    have hnaV:=hna0.keep (W':=V5) (by rw [add_block]; exact hbV.block _ (by omega))
    rw [show (i + 1) * 9=i * 9 + 9 by omega,← addr_two] at hnaV
    have hvd:JP B p true ((dp:Int) + 1) (((((cur ++ [44]) ++ lineL true (dp + 1)) ++ jsT quoteL true (dp + 1) t1) ++ [58]) ++ [32]) V V5.drew:=⟨hv.is,hv.below.drew,fun k o hk h1 h2=>hv.others k o hk h1 h2⟩
    have HND:=j_write t2 (HIH.out _ HM1.out).1 (HIH.out _ HM1.out).2 B0 B p d0 true (dp + 1) (((((cur ++ [44]) ++ lineL true (dp + 1)) ++ jsT quoteL true (dp + 1) t1) ++ [58]) ++ [32]) A2 n2 c2 w0 V5.drew aT aF hkk0 hB0 hB hbV.drew (by rw [hcast]; exact hvd.is) HG.out (okJL_mem HOK.out _ HM1.out) (allL_memJ HALL.out HM1.out) (by (repeat rw [List.length_append]); rw [show ([44]:List UInt8).length=1 from rfl]; rw [show ([58]:List UInt8).length=1 from rfl]; rw [show ([32]:List UInt8).length=1 from rfl]; omega) hn2' (Nat.le_trans (countL_mem HM1.out) HCN.out) (by have:=depthL_mem HM1.out; omega)
    rw [hcast] at HND
    obtain ⟨⟨kind2,b2,neg2,dg2,ex2,u2,wd2,s2⟩,ho2⟩:∃ o,t2.own=o:=⟨_,rfl⟩
    rw [ho2] at HND hnaV
    have HND:=Lib.hid HND
    have HNA:=Lib.hid hnaV
    have hk5b:=hv.blk hk5 (by omega) (by decide)
    have HK5V:=Lib.hid hk5b
    clear hnaV hbV hkk0 hna0 hab0 ho2 hn2' hk5b
    refine wpIn_region_tail (R:=fun A A'=>A=A') 4 (by kernel_rfl) (by kernel_rfl) (fun _=>rfl) (by kernel_rfl) (by kernel_rfl) (by kernel_rfl) (fun A=>A=V5.drew)
     [fun v _=>v=.pointer (some ⟨p,0,none⟩),fun v _=>v=.slice (some (ad.add (i * 9))) 2 (c - i),fun v _=>v=.pointer (some ((ad.add (i * 9)).add 9)),fun v _=>v=nodeV ⟨kind2,b2,neg2,dg2,ex2,u2,wd2,s2⟩ (.slice A2 n2 c2)] rfl (fun _ _ he hr=>hr ▸ he) ?_ ?_ ?_
    ·intro q hq v A A' _ hv' hr
     exact hr ▸ hv'
    ·refine flow_cons (flow_op rfl rfl (by kernel_rfl) (by kernel_rfl) ?_) ?_
     ·intro env A hE hn' ρ hρ hc hf hg K hK
      have r5:ρ (.tmp 5)=.pointer (some ⟨W.heap.size,0,none⟩):=by rw [hρ]; kernel_rfl
      clear hρ hn' hg
      subst hE
      have q0:=HK5V.out.drew.cell 0
      simp [opLands,go_sem,r5,q0]
      exact hK _ _ rfl rfl
     refine flow_cons (flow_op rfl rfl (by kernel_rfl) (by kernel_rfl) ?_) ?_
     ·intro env A hE hn' ρ hρ hc hf hg K hK
      have r11:ρ (.tmp 11)=.slice (some (ad.add (i * 9))) 2 (c - i):=by rw [hρ]; kernel_rfl
      clear hρ hn' hg
      simp [opLands,go_sem,r11]
      exact hK _ _ rfl rfl
     refine flow_cons (flow_op rfl rfl (by kernel_rfl) (by kernel_rfl) ?_) ?_
     ·intro env A hE hn' ρ hρ hc hf hg K hK
      have r59:=(show ρ (.tmp 59)=env 1 by rw [hρ]; kernel_rfl).trans (hn' 1 (by kernel_rfl))
      clear hρ hn' hg
      simp [opLands,go_sem,hc,r59]
      exact hK _ _ rfl rfl
     refine flow_cons (flow_op rfl rfl (by kernel_rfl) (by kernel_rfl) ?_) flow_nil
     ·intro env A hE hn' ρ hρ hc hf hg K hK
      have r60:=(show ρ (.tmp 60)=env 2 by rw [hρ]; kernel_rfl).trans (hn' 2 (by kernel_rfl))
      clear hρ hn' hg
      subst hE
      obtain ⟨q0,q1,q2,q3,q4,q5,q6,q7,q8⟩:=HNA.out
      obtain ⟨ai,hai⟩:∃ ai,((ad.add (i * 9)).add 9)=ai:=⟨_,rfl⟩
      simp only [hai] at q0 q1 q2 q3 q4 q5 q6 q7 q8 r60
      have q0:V5.drew.cell? ai=_:=q0
      have q1:V5.drew.cell? _=_:=q1
      have q2:V5.drew.cell? _=_:=q2
      have q3:V5.drew.cell? _=_:=q3
      have q4:V5.drew.cell? _=_:=q4
      have q5:V5.drew.cell? _=_:=q5
      have q6:V5.drew.cell? _=_:=q6
      have q7:V5.drew.cell? _=_:=q7
      have q8:V5.drew.cell? _=_:=q8
      simp [opLands,go_sem,r60,q0,q1,q2,q3,q4,q5,q6,q7,q8]
      exact hK _ _ rfl rfl
    intro env A hE hn'
    have e0:env 0=.pointer (some ⟨p,0,none⟩):=hn' 0 (by decide)
    have e3:env 3=nodeV ⟨kind2,b2,neg2,dg2,ex2,u2,wd2,s2⟩ (.slice A2 n2 c2):=hn' 3 (by decide)
    have e1:env 1=.slice (some (ad.add (i * 9))) 2 (c - i):=hn' 1 (by decide)
    have e2:env 2=.pointer (some ((ad.add (i * 9)).add 9)):=hn' 2 (by decide)
    clear hn'
    subst hE
    simp only [List.take_succ_cons,List.take_zero,List.drop_succ_cons,List.drop_zero,frameAll,e0,e1,e2,e3]
    clear e0 e1 e2 e3 HNA
    have HVD:=Lib.hid hvd
    clear hv hvd HK5V
    unfold nodeV at HND ⊢
    go_simp
    gi_wp2_with fail
    refine (show CallsIn (Fence.wide.inRound l1) 6 _ _ _ _ _ from (callsIn_wide.2 HND.out:CallsIn Fence.wide 6 _ _ _ _ _)).mono ?_
    rintro e V6 ⟨rfl,h3⟩
    have hv:=HVD.out.trans h3
    clear h3 HND HVD
    have HV:=Lib.hid hv
    clear hv
    gi_wp2_with fail
    refine ⟨othersJ_from HV.out.others HV.out.below.size HI.out.is,KpJ.of HV.out HV.out.below.size,?_⟩
    have hfin:=HI.out.trans HV.out
    have he:=HENE.out
    show JP B p true ((dp:Int) + 1) (bs ++ [123] ++ jsM quoteL true (dp + 1) true (l.take ((pre ++ [x]).length * 2))) Wn V6
    rw [he]
    have e:cur ++ ([44] ++ (lineL true (dp + 1) ++ (jsT quoteL true (dp + 1) t1 ++ (58 :: (gapL true ++ jsT quoteL true (dp + 1) t2)))))=((((((cur ++ [44]) ++ lineL true (dp + 1)) ++ jsT quoteL true (dp + 1) t1) ++ [58]) ++ [32]) ++ jsT quoteL true (dp + 1) t2):=by
     rw [show gapL true=[32] from rfl]
     simp
    rw [e]
    exact hfin
  | false =>
   by_cases h0:i=0
   ·skip
    have z0:=hk5.cell 0
    subst h0
    have he0:=HEND.out
    rw [if_pos rfl] at hpart he0
    have HENE:=Lib.hid he0
    clear he0 HEND
    simp only [List.length_nil] at hpart
    have hv:JP B p false ((dp:Int) + 1) cur V V:=⟨HI.out.is,Below.refl _ _,Lib.OthersKept.refl _ _ _⟩
    gi_wp2_with fail
    have hk5a:=hv.blk hk5 (by omega) (by decide)
    clear z0
    have z0:=hk5a.cell 0
    have HLI:=j_line B p false (dp + 1) cur V (by rw [hcast]; exact hv.is) (by omega) (by omega)
    rw [hcast] at HLI
    have HLI:=Lib.hid HLI
    have HVV:=Lib.hid hv
    clear hk5a hv
    gi_wp2_with fail
    refine (show CallsIn (Fence.wide.inRound l1) 6 _ _ _ _ _ from (callsIn_wide.2 HLI.out:CallsIn Fence.wide 6 _ _ _ _ _)).mono ?_
    rintro e V2 ⟨rfl,h2⟩
    have hv:=HVV.out.trans h2
    clear h2 HLI HVV z0
    gi_wp2_with fail
    have hbV:=HB.out.trans ((HSN.out.below.trans (HI.out.trans hv).below).mono hB)
    obtain ⟨d0,A2,n2,c2,hn2',hab0,hna0,hkk0⟩:=at_node HL.out HT0.out
    have hnaV:=hna0.keep (W':=V2) (by rw [add_block]; exact hbV.block _ (by omega))
    rw [show ad.add (0 * 9)=ad from rfl] at hnaV
    have hvd:JP B p false ((dp:Int) + 1) (cur ++ lineL false (dp + 1)) V V2.drew:=⟨hv.is,hv.below.drew,fun k o hk h1 h2=>hv.others k o hk h1 h2⟩
    have HND:=j_write t1 (HIH.out _ HM0.out).1 (HIH.out _ HM0.out).2 B0 B p d0 false (dp + 1) (cur ++ lineL false (dp + 1)) A2 n2 c2 w0 V2.drew aT aF hkk0 hB0 hB hbV.drew (by rw [hcast]; exact hvd.is) HG.out (okJL_mem HOK.out _ HM0.out) (allL_memJ HALL.out HM0.out) (by (repeat rw [List.length_append]); omega) hn2' (Nat.le_trans (countL_mem HM0.out) HCN.out) (by have:=depthL_mem HM0.out; omega)
    rw [hcast] at HND
    obtain ⟨⟨kind2,b2,neg2,dg2,ex2,u2,wd2,s2⟩,ho2⟩:∃ o,t1.own=o:=⟨_,rfl⟩
    rw [ho2] at HND hnaV
    have HND:=Lib.hid HND
    have HNA:=Lib.hid hnaV
    have hk5b:=hv.blk hk5 (by omega) (by decide)
    have HK5V:=Lib.hid hk5b
    clear hnaV hbV hkk0 hna0 hab0 ho2 hn2' hk5b
    refine wpIn_region_tail (R:=fun A A'=>A=A') 4 (by kernel_rfl) (by kernel_rfl) (fun _=>rfl) (by kernel_rfl) (by kernel_rfl) (by kernel_rfl) (fun A=>A=V2.drew)
     [fun v _=>v=.pointer (some ⟨p,0,none⟩),fun v _=>v=.slice (some ad) 2 c,fun v _=>v=.pointer (some ad),fun v _=>v=nodeV ⟨kind2,b2,neg2,dg2,ex2,u2,wd2,s2⟩ (.slice A2 n2 c2)] rfl (fun _ _ he hr=>hr ▸ he) ?_ ?_ ?_
    ·intro q hq v A A' _ hv' hr
     exact hr ▸ hv'
    ·refine flow_cons (flow_op rfl rfl (by kernel_rfl) (by kernel_rfl) ?_) ?_
     ·intro env A hE hn' ρ hρ hc hf hg K hK
      have r5:ρ (.tmp 5)=.pointer (some ⟨W.heap.size,0,none⟩):=by rw [hρ]; kernel_rfl
      clear hρ hn' hg
      subst hE
      have q0:=HK5V.out.drew.cell 0
      simp [opLands,go_sem,r5,q0]
      exact hK _ _ rfl rfl
     refine flow_cons (flow_op rfl rfl (by kernel_rfl) (by kernel_rfl) ?_) ?_
     ·intro env A hE hn' ρ hρ hc hf hg K hK
      have r11:ρ (.tmp 11)=.slice (some ad) 2 c:=by rw [hρ]; kernel_rfl
      clear hρ hn' hg
      simp [opLands,go_sem,r11]
      exact hK _ _ rfl rfl
     refine flow_cons (flow_op rfl rfl (by kernel_rfl) (by kernel_rfl) ?_) ?_
     ·intro env A hE hn' ρ hρ hc hf hg K hK
      have r42:=(show ρ (.tmp 42)=env 1 by rw [hρ]; kernel_rfl).trans (hn' 1 (by kernel_rfl))
      clear hρ hn' hg
      simp [opLands,go_sem,hc,r42]
      exact hK _ _ rfl rfl
     refine flow_cons (flow_op rfl rfl (by kernel_rfl) (by kernel_rfl) ?_) flow_nil
     ·intro env A hE hn' ρ hρ hc hf hg K hK
      have r43:=(show ρ (.tmp 43)=env 2 by rw [hρ]; kernel_rfl).trans (hn' 2 (by kernel_rfl))
      clear hρ hn' hg
      subst hE
      obtain ⟨q0,q1,q2,q3,q4,q5,q6,q7,q8⟩:=HNA.out
      obtain ⟨ai,hai⟩:∃ ai,ad=ai:=⟨_,rfl⟩
      simp only [hai] at q0 q1 q2 q3 q4 q5 q6 q7 q8 r43
      have q0:V2.drew.cell? ai=_:=q0
      have q1:V2.drew.cell? _=_:=q1
      have q2:V2.drew.cell? _=_:=q2
      have q3:V2.drew.cell? _=_:=q3
      have q4:V2.drew.cell? _=_:=q4
      have q5:V2.drew.cell? _=_:=q5
      have q6:V2.drew.cell? _=_:=q6
      have q7:V2.drew.cell? _=_:=q7
      have q8:V2.drew.cell? _=_:=q8
      simp [opLands,go_sem,r43,q0,q1,q2,q3,q4,q5,q6,q7,q8]
      exact hK _ _ rfl rfl
    intro env A hE hn'
    have e0:env 0=.pointer (some ⟨p,0,none⟩):=hn' 0 (by decide)
    have e3:env 3=nodeV ⟨kind2,b2,neg2,dg2,ex2,u2,wd2,s2⟩ (.slice A2 n2 c2):=hn' 3 (by decide)
    have e1:env 1=.slice (some ad) 2 c:=hn' 1 (by decide)
    have e2:env 2=.pointer (some ad):=hn' 2 (by decide)
    clear hn'
    subst hE
    simp only [List.take_succ_cons,List.take_zero,List.drop_succ_cons,List.drop_zero,frameAll,e0,e1,e2,e3]
    clear e0 e1 e2 e3 HNA
    have HVD:=Lib.hid hvd
    clear hv hvd HK5V
    unfold nodeV at HND ⊢
    go_simp
    gi_wp2_with fail
    refine (show CallsIn (Fence.wide.inRound l1) 6 _ _ _ _ _ from (callsIn_wide.2 HND.out:CallsIn Fence.wide 6 _ _ _ _ _)).mono ?_
    rintro e V3 ⟨rfl,h3⟩
    have hv:=HVD.out.trans h3
    clear h3 HND HVD
    have hk5a:=hv.blk hk5 (by omega) (by decide)
    have hk6a:=hv.blk hk6 (by omega) (by decide)
    have z0:=hk5a.cell 0
    have z1:=hk6a.cell 0
    have hba:Below V3.heap.size V3 (V3.alloc (.cells #[.string ⟨#[58]⟩] 9)):=(Below.refl _ V3).alloc (Nat.le_refl _) _
    have HC:=Lib.hid (j_words1 B p V3.heap.size false ((dp:Int) + 1) ((cur ++ lineL false (dp + 1)) ++ jsT quoteL false (dp + 1) t1) ⟨#[58]⟩ _ (isJ_below hv.is hba) (by (repeat rw [List.length_append]); show _ + 1 ≤ _; omega) (Blk.new _ _ _)).calls
    have HJA:=Lib.hid (hv.trans (JP.step hv.is hba))
    clear hba hk5a hk6a hv
    gi_wp2_with fail
    refine (show CallsIn (Fence.wide.inRound l1) 6 _ _ _ _ _ from (callsIn_wide.2 HC.out:CallsIn Fence.wide 6 _ _ _ _ _)).mono ?_
    rintro e V4 ⟨rfl,h1⟩
    have hv:=HJA.out.trans h1
    rw [show ((cur ++ lineL false (dp + 1)) ++ jsT quoteL false (dp + 1) t1) ++ (⟨#[58]⟩:ByteArray).data.toList=(((cur ++ lineL false (dp + 1)) ++ jsT quoteL false (dp + 1) t1) ++ [58]) from rfl] at hv
    clear h1 HC HJA z0 z1
    have hk5a:=hv.blk hk5 (by omega) (by decide)
    have z0:=hk5a.cell 0
    obtain ⟨qp4,qv4,hkp⟩:=hv.is.blk
    have zp:=hkp.cell 2
    have HVV:=Lib.hid hv
    clear hv hk5a hkp
    gi_wp2_with fail
    have hv:=HVV.out
    clear HVV z0 zp
    have hbV:=HB.out.trans ((HSN.out.below.trans (HI.out.trans hv).below).mono hB)
    obtain ⟨d0,A2,n2,c2,hn2',hab0,hna0,hkk0⟩:=at_node HL.out HT1.out
    have hnaV:=hna0.keep (W':=V4) (by rw [add_block]; exact hbV.block _ (by omega))
    rw [show (0 + 1) * 9=9 from rfl] at hnaV
    have hvd:JP B p false ((dp:Int) + 1) (((cur ++ lineL false (dp + 1)) ++ jsT quoteL false (dp + 1) t1) ++ [58]) V V4.drew:=⟨hv.is,hv.below.drew,fun k o hk h1 h2=>hv.others k o hk h1 h2⟩
    have HND:=j_write t2 (HIH.out _ HM1.out).1 (HIH.out _ HM1.out).2 B0 B p d0 false (dp + 1) (((cur ++ lineL false (dp + 1)) ++ jsT quoteL false (dp + 1) t1) ++ [58]) A2 n2 c2 w0 V4.drew aT aF hkk0 hB0 hB hbV.drew (by rw [hcast]; exact hvd.is) HG.out (okJL_mem HOK.out _ HM1.out) (allL_memJ HALL.out HM1.out) (by (repeat rw [List.length_append]); rw [show ([58]:List UInt8).length=1 from rfl]; omega) hn2' (Nat.le_trans (countL_mem HM1.out) HCN.out) (by have:=depthL_mem HM1.out; omega)
    rw [hcast] at HND
    obtain ⟨⟨kind2,b2,neg2,dg2,ex2,u2,wd2,s2⟩,ho2⟩:∃ o,t2.own=o:=⟨_,rfl⟩
    rw [ho2] at HND hnaV
    have HND:=Lib.hid HND
    have HNA:=Lib.hid hnaV
    have hk5b:=hv.blk hk5 (by omega) (by decide)
    have HK5V:=Lib.hid hk5b
    clear hnaV hbV hkk0 hna0 hab0 ho2 hn2' hk5b
    refine wpIn_region_tail (R:=fun A A'=>A=A') 4 (by kernel_rfl) (by kernel_rfl) (fun _=>rfl) (by kernel_rfl) (by kernel_rfl) (by kernel_rfl) (fun A=>A=V4.drew)
     [fun v _=>v=.pointer (some ⟨p,0,none⟩),fun v _=>v=.slice (some ad) 2 c,fun v _=>v=.pointer (some (ad.add 9)),fun v _=>v=nodeV ⟨kind2,b2,neg2,dg2,ex2,u2,wd2,s2⟩ (.slice A2 n2 c2)] rfl (fun _ _ he hr=>hr ▸ he) ?_ ?_ ?_
    ·intro q hq v A A' _ hv' hr
     exact hr ▸ hv'
    ·refine flow_cons (flow_op rfl rfl (by kernel_rfl) (by kernel_rfl) ?_) ?_
     ·intro env A hE hn' ρ hρ hc hf hg K hK
      have r5:ρ (.tmp 5)=.pointer (some ⟨W.heap.size,0,none⟩):=by rw [hρ]; kernel_rfl
      clear hρ hn' hg
      subst hE
      have q0:=HK5V.out.drew.cell 0
      simp [opLands,go_sem,r5,q0]
      exact hK _ _ rfl rfl
     refine flow_cons (flow_op rfl rfl (by kernel_rfl) (by kernel_rfl) ?_) ?_
     ·intro env A hE hn' ρ hρ hc hf hg K hK
      have r11:ρ (.tmp 11)=.slice (some ad) 2 c:=by rw [hρ]; kernel_rfl
      clear hρ hn' hg
      simp [opLands,go_sem,r11]
      exact hK _ _ rfl rfl
     refine flow_cons (flow_op rfl rfl (by kernel_rfl) (by kernel_rfl) ?_) ?_
     ·intro env A hE hn' ρ hρ hc hf hg K hK
      have r59:=(show ρ (.tmp 59)=env 1 by rw [hρ]; kernel_rfl).trans (hn' 1 (by kernel_rfl))
      clear hρ hn' hg
      simp [opLands,go_sem,hc,r59]
      exact hK _ _ rfl rfl
     refine flow_cons (flow_op rfl rfl (by kernel_rfl) (by kernel_rfl) ?_) flow_nil
     ·intro env A hE hn' ρ hρ hc hf hg K hK
      have r60:=(show ρ (.tmp 60)=env 2 by rw [hρ]; kernel_rfl).trans (hn' 2 (by kernel_rfl))
      clear hρ hn' hg
      subst hE
      obtain ⟨q0,q1,q2,q3,q4,q5,q6,q7,q8⟩:=HNA.out
      obtain ⟨ai,hai⟩:∃ ai,(ad.add 9)=ai:=⟨_,rfl⟩
      simp only [hai] at q0 q1 q2 q3 q4 q5 q6 q7 q8 r60
      have q0:V4.drew.cell? ai=_:=q0
      have q1:V4.drew.cell? _=_:=q1
      have q2:V4.drew.cell? _=_:=q2
      have q3:V4.drew.cell? _=_:=q3
      have q4:V4.drew.cell? _=_:=q4
      have q5:V4.drew.cell? _=_:=q5
      have q6:V4.drew.cell? _=_:=q6
      have q7:V4.drew.cell? _=_:=q7
      have q8:V4.drew.cell? _=_:=q8
      simp [opLands,go_sem,r60,q0,q1,q2,q3,q4,q5,q6,q7,q8]
      exact hK _ _ rfl rfl
    intro env A hE hn'
    have e0:env 0=.pointer (some ⟨p,0,none⟩):=hn' 0 (by decide)
    have e3:env 3=nodeV ⟨kind2,b2,neg2,dg2,ex2,u2,wd2,s2⟩ (.slice A2 n2 c2):=hn' 3 (by decide)
    have e1:env 1=.slice (some ad) 2 c:=hn' 1 (by decide)
    have e2:env 2=.pointer (some (ad.add 9)):=hn' 2 (by decide)
    clear hn'
    subst hE
    simp only [List.take_succ_cons,List.take_zero,List.drop_succ_cons,List.drop_zero,frameAll,e0,e1,e2,e3]
    clear e0 e1 e2 e3 HNA
    have HVD:=Lib.hid hvd
    clear hv hvd HK5V
    unfold nodeV at HND ⊢
    go_simp
    gi_wp2_with fail
    refine (show CallsIn (Fence.wide.inRound l1) 6 _ _ _ _ _ from (callsIn_wide.2 HND.out:CallsIn Fence.wide 6 _ _ _ _ _)).mono ?_
    rintro e V6 ⟨rfl,h3⟩
    have hv:=HVD.out.trans h3
    clear h3 HND HVD
    have HV:=Lib.hid hv
    clear hv
    gi_wp2_with fail
    refine ⟨othersJ_from HV.out.others HV.out.below.size HI.out.is,KpJ.of HV.out HV.out.below.size,?_⟩
    have hfin:=HI.out.trans HV.out
    have he:=HENE.out
    show JP B p false ((dp:Int) + 1) (bs ++ [123] ++ jsM quoteL false (dp + 1) true (l.take ((pre ++ [x]).length * 2))) Wn V6
    rw [he]
    have e:cur ++ ([] ++ (lineL false (dp + 1) ++ (jsT quoteL false (dp + 1) t1 ++ (58 :: (gapL false ++ jsT quoteL false (dp + 1) t2)))))=((((cur ++ lineL false (dp + 1)) ++ jsT quoteL false (dp + 1) t1) ++ [58]) ++ jsT quoteL false (dp + 1) t2):=by
     rw [show gapL false=[] from rfl]
     simp
    rw [e]
    exact hfin
   ·skip
    have z0:=hk5.cell 0
    have he0:=HEND.out
    rw [if_neg h0] at hpart he0
    have HENE:=Lib.hid he0
    clear he0 HEND
    simp only [List.length_cons,List.length_nil] at hpart
    have y5:(0:Int) < i:=by omega
    have hba:Below V.heap.size V (V.alloc (.cells #[.string ⟨#[44]⟩] 9)):=(Below.refl _ V).alloc (Nat.le_refl _) _
    have HC:=Lib.hid (j_words1 B p V.heap.size false ((dp:Int) + 1) cur ⟨#[44]⟩ _ (isJ_below HI.out.is hba) (by show cur.length + 1 ≤ _; omega) (Blk.new _ _ _)).calls
    have HJA:=Lib.hid (JP.step HI.out.is hba)
    clear hba
    gi_wp2_with fail
    refine (show CallsIn (Fence.wide.inRound l1) 6 _ _ _ _ _ from (callsIn_wide.2 HC.out:CallsIn Fence.wide 6 _ _ _ _ _)).mono ?_
    rintro e V1 ⟨rfl,h1⟩
    have hv:=HJA.out.trans h1
    rw [show cur ++ (⟨#[44]⟩:ByteArray).data.toList=cur ++ [44] from rfl] at hv
    clear h1 HC HJA z0
    have hk5a:=hv.blk hk5 (by omega) (by decide)

    have z0:=hk5a.cell 0
    have HLI:=j_line B p false (dp + 1) (cur ++ [44]) V1 (by rw [hcast]; exact hv.is) (by rw [List.length_append]; show _ + 1 ≤ _; omega) (by omega)
    rw [hcast] at HLI
    have HLI:=Lib.hid HLI
    have HVV:=Lib.hid hv
    clear hk5a hv
    gi_wp2_with fail
    refine (show CallsIn (Fence.wide.inRound l1) 6 _ _ _ _ _ from (callsIn_wide.2 HLI.out:CallsIn Fence.wide 6 _ _ _ _ _)).mono ?_
    rintro e V2 ⟨rfl,h2⟩
    have hv:=HVV.out.trans h2
    clear h2 HLI HVV z0
    gi_wp2_with fail
    have hbV:=HB.out.trans ((HSN.out.below.trans (HI.out.trans hv).below).mono hB)
    obtain ⟨d0,A2,n2,c2,hn2',hab0,hna0,hkk0⟩:=at_node HL.out HT0.out
    have hnaV:=hna0.keep (W':=V2) (by rw [add_block]; exact hbV.block _ (by omega))

    have hvd:JP B p false ((dp:Int) + 1) ((cur ++ [44]) ++ lineL false (dp + 1)) V V2.drew:=⟨hv.is,hv.below.drew,fun k o hk h1 h2=>hv.others k o hk h1 h2⟩
    have HND:=j_write t1 (HIH.out _ HM0.out).1 (HIH.out _ HM0.out).2 B0 B p d0 false (dp + 1) ((cur ++ [44]) ++ lineL false (dp + 1)) A2 n2 c2 w0 V2.drew aT aF hkk0 hB0 hB hbV.drew (by rw [hcast]; exact hvd.is) HG.out (okJL_mem HOK.out _ HM0.out) (allL_memJ HALL.out HM0.out) (by (repeat rw [List.length_append]); rw [show ([44]:List UInt8).length=1 from rfl]; omega) hn2' (Nat.le_trans (countL_mem HM0.out) HCN.out) (by have:=depthL_mem HM0.out; omega)
    rw [hcast] at HND
    obtain ⟨⟨kind2,b2,neg2,dg2,ex2,u2,wd2,s2⟩,ho2⟩:∃ o,t1.own=o:=⟨_,rfl⟩
    rw [ho2] at HND hnaV
    have HND:=Lib.hid HND
    have HNA:=Lib.hid hnaV
    have hk5b:=hv.blk hk5 (by omega) (by decide)
    have HK5V:=Lib.hid hk5b
    clear hnaV hbV hkk0 hna0 hab0 ho2 hn2' hk5b
    refine wpIn_region_tail (R:=fun A A'=>A=A') 4 (by kernel_rfl) (by kernel_rfl) (fun _=>rfl) (by kernel_rfl) (by kernel_rfl) (by kernel_rfl) (fun A=>A=V2.drew)
     [fun v _=>v=.pointer (some ⟨p,0,none⟩),fun v _=>v=.slice (some (ad.add (i * 9))) 2 (c - i),fun v _=>v=.pointer (some (ad.add (i * 9))),fun v _=>v=nodeV ⟨kind2,b2,neg2,dg2,ex2,u2,wd2,s2⟩ (.slice A2 n2 c2)] rfl (fun _ _ he hr=>hr ▸ he) ?_ ?_ ?_
    ·intro q hq v A A' _ hv' hr
     exact hr ▸ hv'
    ·refine flow_cons (flow_op rfl rfl (by kernel_rfl) (by kernel_rfl) ?_) ?_
     ·intro env A hE hn' ρ hρ hc hf hg K hK
      have r5:ρ (.tmp 5)=.pointer (some ⟨W.heap.size,0,none⟩):=by rw [hρ]; kernel_rfl
      clear hρ hn' hg
      subst hE
      have q0:=HK5V.out.drew.cell 0
      simp [opLands,go_sem,r5,q0]
      exact hK _ _ rfl rfl
     refine flow_cons (flow_op rfl rfl (by kernel_rfl) (by kernel_rfl) ?_) ?_
     ·intro env A hE hn' ρ hρ hc hf hg K hK
      have r11:ρ (.tmp 11)=.slice (some (ad.add (i * 9))) 2 (c - i):=by rw [hρ]; kernel_rfl
      clear hρ hn' hg
      simp [opLands,go_sem,r11]
      exact hK _ _ rfl rfl
     refine flow_cons (flow_op rfl rfl (by kernel_rfl) (by kernel_rfl) ?_) ?_
     ·intro env A hE hn' ρ hρ hc hf hg K hK
      have r42:=(show ρ (.tmp 42)=env 1 by rw [hρ]; kernel_rfl).trans (hn' 1 (by kernel_rfl))
      clear hρ hn' hg
      simp [opLands,go_sem,hc,r42]
      exact hK _ _ rfl rfl
     refine flow_cons (flow_op rfl rfl (by kernel_rfl) (by kernel_rfl) ?_) flow_nil
     ·intro env A hE hn' ρ hρ hc hf hg K hK
      have r43:=(show ρ (.tmp 43)=env 2 by rw [hρ]; kernel_rfl).trans (hn' 2 (by kernel_rfl))
      clear hρ hn' hg
      subst hE
      obtain ⟨q0,q1,q2,q3,q4,q5,q6,q7,q8⟩:=HNA.out
      obtain ⟨ai,hai⟩:∃ ai,(ad.add (i * 9))=ai:=⟨_,rfl⟩
      simp only [hai] at q0 q1 q2 q3 q4 q5 q6 q7 q8 r43
      have q0:V2.drew.cell? ai=_:=q0
      have q1:V2.drew.cell? _=_:=q1
      have q2:V2.drew.cell? _=_:=q2
      have q3:V2.drew.cell? _=_:=q3
      have q4:V2.drew.cell? _=_:=q4
      have q5:V2.drew.cell? _=_:=q5
      have q6:V2.drew.cell? _=_:=q6
      have q7:V2.drew.cell? _=_:=q7
      have q8:V2.drew.cell? _=_:=q8
      simp [opLands,go_sem,r43,q0,q1,q2,q3,q4,q5,q6,q7,q8]
      exact hK _ _ rfl rfl
    intro env A hE hn'
    have e0:env 0=.pointer (some ⟨p,0,none⟩):=hn' 0 (by decide)
    have e3:env 3=nodeV ⟨kind2,b2,neg2,dg2,ex2,u2,wd2,s2⟩ (.slice A2 n2 c2):=hn' 3 (by decide)
    have e1:env 1=.slice (some (ad.add (i * 9))) 2 (c - i):=hn' 1 (by decide)
    have e2:env 2=.pointer (some (ad.add (i * 9))):=hn' 2 (by decide)
    clear hn'
    subst hE
    simp only [List.take_succ_cons,List.take_zero,List.drop_succ_cons,List.drop_zero,frameAll,e0,e1,e2,e3]
    clear e0 e1 e2 e3 HNA
    have HVD:=Lib.hid hvd
    clear hv hvd HK5V
    unfold nodeV at HND ⊢
    go_simp
    gi_wp2_with fail
    refine (show CallsIn (Fence.wide.inRound l1) 6 _ _ _ _ _ from (callsIn_wide.2 HND.out:CallsIn Fence.wide 6 _ _ _ _ _)).mono ?_
    rintro e V3 ⟨rfl,h3⟩
    have hv:=HVD.out.trans h3
    clear h3 HND HVD
    have hk5a:=hv.blk hk5 (by omega) (by decide)
    have hk6a:=hv.blk hk6 (by omega) (by decide)
    have z0:=hk5a.cell 0
    have z1:=hk6a.cell 0
    have hba:Below V3.heap.size V3 (V3.alloc (.cells #[.string ⟨#[58]⟩] 9)):=(Below.refl _ V3).alloc (Nat.le_refl _) _
    have HC:=Lib.hid (j_words1 B p V3.heap.size false ((dp:Int) + 1) (((cur ++ [44]) ++ lineL false (dp + 1)) ++ jsT quoteL false (dp + 1) t1) ⟨#[58]⟩ _ (isJ_below hv.is hba) (by (repeat rw [List.length_append]); rw [show ([44]:List UInt8).length=1 from rfl]; show _ + 1 ≤ _; omega) (Blk.new _ _ _)).calls
    have HJA:=Lib.hid (hv.trans (JP.step hv.is hba))
    clear hba hk5a hk6a hv
    gi_wp2_with fail
    refine (show CallsIn (Fence.wide.inRound l1) 6 _ _ _ _ _ from (callsIn_wide.2 HC.out:CallsIn Fence.wide 6 _ _ _ _ _)).mono ?_
    rintro e V4 ⟨rfl,h1⟩
    have hv:=HJA.out.trans h1
    rw [show (((cur ++ [44]) ++ lineL false (dp + 1)) ++ jsT quoteL false (dp + 1) t1) ++ (⟨#[58]⟩:ByteArray).data.toList=((((cur ++ [44]) ++ lineL false (dp + 1)) ++ jsT quoteL false (dp + 1) t1) ++ [58]) from rfl] at hv
    clear h1 HC HJA z0 z1
    have hk5a:=hv.blk hk5 (by omega) (by decide)
    have z0:=hk5a.cell 0
    obtain ⟨qp4,qv4,hkp⟩:=hv.is.blk
    have zp:=hkp.cell 2
    have HVV:=Lib.hid hv
    clear hv hk5a hkp
    gi_wp2_with fail
    have hv:=HVV.out
    clear HVV z0 zp
    have hbV:=HB.out.trans ((HSN.out.below.trans (HI.out.trans hv).below).mono hB)
    obtain ⟨d0,A2,n2,c2,hn2',hab0,hna0,hkk0⟩:=at_node HL.out HT1.out
    have hnaV:=hna0.keep (W':=V4) (by rw [add_block]; exact hbV.block _ (by omega))
    rw [show (i + 1) * 9=i * 9 + 9 by omega,← addr_two] at hnaV
    have hvd:JP B p false ((dp:Int) + 1) ((((cur ++ [44]) ++ lineL false (dp + 1)) ++ jsT quoteL false (dp + 1) t1) ++ [58]) V V4.drew:=⟨hv.is,hv.below.drew,fun k o hk h1 h2=>hv.others k o hk h1 h2⟩
    have HND:=j_write t2 (HIH.out _ HM1.out).1 (HIH.out _ HM1.out).2 B0 B p d0 false (dp + 1) ((((cur ++ [44]) ++ lineL false (dp + 1)) ++ jsT quoteL false (dp + 1) t1) ++ [58]) A2 n2 c2 w0 V4.drew aT aF hkk0 hB0 hB hbV.drew (by rw [hcast]; exact hvd.is) HG.out (okJL_mem HOK.out _ HM1.out) (allL_memJ HALL.out HM1.out) (by (repeat rw [List.length_append]); rw [show ([44]:List UInt8).length=1 from rfl]; rw [show ([58]:List UInt8).length=1 from rfl]; omega) hn2' (Nat.le_trans (countL_mem HM1.out) HCN.out) (by have:=depthL_mem HM1.out; omega)
    rw [hcast] at HND
    obtain ⟨⟨kind2,b2,neg2,dg2,ex2,u2,wd2,s2⟩,ho2⟩:∃ o,t2.own=o:=⟨_,rfl⟩
    rw [ho2] at HND hnaV
    have HND:=Lib.hid HND
    have HNA:=Lib.hid hnaV
    have hk5b:=hv.blk hk5 (by omega) (by decide)
    have HK5V:=Lib.hid hk5b
    clear hnaV hbV hkk0 hna0 hab0 ho2 hn2' hk5b
    refine wpIn_region_tail (R:=fun A A'=>A=A') 4 (by kernel_rfl) (by kernel_rfl) (fun _=>rfl) (by kernel_rfl) (by kernel_rfl) (by kernel_rfl) (fun A=>A=V4.drew)
     [fun v _=>v=.pointer (some ⟨p,0,none⟩),fun v _=>v=.slice (some (ad.add (i * 9))) 2 (c - i),fun v _=>v=.pointer (some ((ad.add (i * 9)).add 9)),fun v _=>v=nodeV ⟨kind2,b2,neg2,dg2,ex2,u2,wd2,s2⟩ (.slice A2 n2 c2)] rfl (fun _ _ he hr=>hr ▸ he) ?_ ?_ ?_
    ·intro q hq v A A' _ hv' hr
     exact hr ▸ hv'
    ·refine flow_cons (flow_op rfl rfl (by kernel_rfl) (by kernel_rfl) ?_) ?_
     ·intro env A hE hn' ρ hρ hc hf hg K hK
      have r5:ρ (.tmp 5)=.pointer (some ⟨W.heap.size,0,none⟩):=by rw [hρ]; kernel_rfl
      clear hρ hn' hg
      subst hE
      have q0:=HK5V.out.drew.cell 0
      simp [opLands,go_sem,r5,q0]
      exact hK _ _ rfl rfl
     refine flow_cons (flow_op rfl rfl (by kernel_rfl) (by kernel_rfl) ?_) ?_
     ·intro env A hE hn' ρ hρ hc hf hg K hK
      have r11:ρ (.tmp 11)=.slice (some (ad.add (i * 9))) 2 (c - i):=by rw [hρ]; kernel_rfl
      clear hρ hn' hg
      simp [opLands,go_sem,r11]
      exact hK _ _ rfl rfl
     refine flow_cons (flow_op rfl rfl (by kernel_rfl) (by kernel_rfl) ?_) ?_
     ·intro env A hE hn' ρ hρ hc hf hg K hK
      have r59:=(show ρ (.tmp 59)=env 1 by rw [hρ]; kernel_rfl).trans (hn' 1 (by kernel_rfl))
      clear hρ hn' hg
      simp [opLands,go_sem,hc,r59]
      exact hK _ _ rfl rfl
     refine flow_cons (flow_op rfl rfl (by kernel_rfl) (by kernel_rfl) ?_) flow_nil
     ·intro env A hE hn' ρ hρ hc hf hg K hK
      have r60:=(show ρ (.tmp 60)=env 2 by rw [hρ]; kernel_rfl).trans (hn' 2 (by kernel_rfl))
      clear hρ hn' hg
      subst hE
      obtain ⟨q0,q1,q2,q3,q4,q5,q6,q7,q8⟩:=HNA.out
      obtain ⟨ai,hai⟩:∃ ai,((ad.add (i * 9)).add 9)=ai:=⟨_,rfl⟩
      simp only [hai] at q0 q1 q2 q3 q4 q5 q6 q7 q8 r60
      have q0:V4.drew.cell? ai=_:=q0
      have q1:V4.drew.cell? _=_:=q1
      have q2:V4.drew.cell? _=_:=q2
      have q3:V4.drew.cell? _=_:=q3
      have q4:V4.drew.cell? _=_:=q4
      have q5:V4.drew.cell? _=_:=q5
      have q6:V4.drew.cell? _=_:=q6
      have q7:V4.drew.cell? _=_:=q7
      have q8:V4.drew.cell? _=_:=q8
      simp [opLands,go_sem,r60,q0,q1,q2,q3,q4,q5,q6,q7,q8]
      exact hK _ _ rfl rfl
    intro env A hE hn'
    have e0:env 0=.pointer (some ⟨p,0,none⟩):=hn' 0 (by decide)
    have e3:env 3=nodeV ⟨kind2,b2,neg2,dg2,ex2,u2,wd2,s2⟩ (.slice A2 n2 c2):=hn' 3 (by decide)
    have e1:env 1=.slice (some (ad.add (i * 9))) 2 (c - i):=hn' 1 (by decide)
    have e2:env 2=.pointer (some ((ad.add (i * 9)).add 9)):=hn' 2 (by decide)
    clear hn'
    subst hE
    simp only [List.take_succ_cons,List.take_zero,List.drop_succ_cons,List.drop_zero,frameAll,e0,e1,e2,e3]
    clear e0 e1 e2 e3 HNA
    have HVD:=Lib.hid hvd
    clear hv hvd HK5V
    unfold nodeV at HND ⊢
    go_simp
    gi_wp2_with fail
    refine (show CallsIn (Fence.wide.inRound l1) 6 _ _ _ _ _ from (callsIn_wide.2 HND.out:CallsIn Fence.wide 6 _ _ _ _ _)).mono ?_
    rintro e V6 ⟨rfl,h3⟩
    have hv:=HVD.out.trans h3
    clear h3 HND HVD
    have HV:=Lib.hid hv
    clear hv
    gi_wp2_with fail
    refine ⟨othersJ_from HV.out.others HV.out.below.size HI.out.is,KpJ.of HV.out HV.out.below.size,?_⟩
    have hfin:=HI.out.trans HV.out
    have he:=HENE.out
    show JP B p false ((dp:Int) + 1) (bs ++ [123] ++ jsM quoteL false (dp + 1) true (l.take ((pre ++ [x]).length * 2))) Wn V6
    rw [he]
    have e:cur ++ ([44] ++ (lineL false (dp + 1) ++ (jsT quoteL false (dp + 1) t1 ++ (58 :: (gapL false ++ jsT quoteL false (dp + 1) t2)))))=(((((cur ++ [44]) ++ lineL false (dp + 1)) ++ jsT quoteL false (dp + 1) t1) ++ [58]) ++ jsT quoteL false (dp + 1) t2):=by
     rw [show gapL false=[] from rfl]
     simp
    rw [e]
    exact hfin
 case hS=>exact fun _ _ _ _ h _ _=>h
 case hSp=>exact fun _ _ _ _ h _ _=>h
 case done =>
  rintro D xs V hD ⟨_,hS2,hS3⟩ hI hdf
  have hfull:l.take (xs.length * 2)=l:=by
   have:=HN.out
   exact List.take_of_length_le (by omega)
  rw [hfull] at hI
  have hk5:=hI.blk HK5.out (by omega) (by decide)
  have hk7:=hI.blk HK7.out (by omega) (by decide)
  obtain ⟨qp,qv,hkp⟩:=hI.is.blk
  have z0:=hk5.cell 0
  have zp:=hkp.cell 3
  have fp:=hkp.frozen 3
  have y4:wrap64 (dp:Int)=dp:=by have:=HDP.out; unfold wrap64; omega
  have hd2:=JP.deep hI.is (dp:Int)
  have hlen:=HLEN.out
  rw [List.length_append] at hlen
  have hq1:(bs ++ [123] ++ jsM quoteL pr (dp + 1) true l).length ≤ 900000000:=by
   rw [List.length_append,List.length_append]
   have:([123]:List UInt8).length=1:=rfl
   omega
  have hq2:dp ≤ 1000:=Nat.le_trans (Nat.le_trans (Nat.le_trans (Nat.le_add_right _ 1) (Nat.le_add_right _ _)) HDP.out) (by decide)
  have HL:=Lib.hid (j_line B p pr dp _ _ hd2.is hq1 hq2)
  have hdd:(V.setCell ⟨p,3,none⟩ (.int .i64 (dp:Int))).heap[D]? = some (.deferred (some [])):=(Below.heap_setCell V ⟨p,3,none⟩ _ D (by show D ≠ p; omega)).trans hdf
  have HALLJ:=Lib.hid ((HSN.out.trans hI).trans hd2)
  have hk8:=hk7.other (b':=p) (by omega) 3 (.int .i64 (dp:Int))
  have HDD:=Lib.hid hdd
  have HK8:=Lib.hid hk8
  have HLN:=Lib.hid hlen
  clear hI hk5 hk7 hkp hd2 hlen hdd hk8 hfull hS2 hS3 hq1 hq2
  go_wp2_with fail
  refine HL.out.mono ?_
  rintro e W5 ⟨rfl,h5⟩
  have hd5:=h5.others D _ HDD.out (fun e=>by injection e with e; omega) (fun c fz e=>by cases e)
  have hk9:=h5.blk HK8.out (by omega) (by decide)
  have ha5:=HALLJ.out.trans h5
  clear HL HDD HK8 HALLJ h5 z0 zp fp hdf
  go_wp2_with fail
  refine leave_mdn (v:=.tuple #[]) hd5 rfl (words_inv _) ?_
  have hBD:B ≤ W.heap.size:=HBW.out
  have hshut:=jp_grown hBD ha5 (grownBy_putObj' W5 D (.deferred none)) (fun r e=>by
   cases e
   exact ⟨by omega,_,hd5,rfl⟩)
  refine bodyC_mono (j_words1 B p W1.heap.size pr dp _ ⟨#[125]⟩ _ hshut.is (by
   simp only [List.length_append,List.length_cons,List.length_nil]
   have:=HLN.out
   have e1:(⟨#[125]⟩:ByteArray).size=1:=rfl
   omega) (hk9.shut hd5 rfl _)) ?_
  rintro e w' ⟨rfl,h6⟩
  have h7:=hshut.trans h6
  refine ⟨_,rfl,results_none rfl _ _ _,rfl,?_⟩
  have e:bs ++ [123] ++ jsM quoteL pr (dp + 1) true l ++ lineL pr dp ++ (⟨#[125]⟩:ByteArray).data.toList=bs ++ (UInt8.ofNat 123 :: (jsM quoteL pr (dp + 1) true l ++ lineL pr dp ++ [UInt8.ofNat 125])):=by
   simp
  rw [e] at h7
  exact h7
 case stop=>exact fun _ _ _ _ _ _ h _=>h.elim

end
theorem lists_J (l:List Tr):ListJ1 l ∧ ListJ2 l:=by
 have step:∀ l:List Tr,(∀ t ∈ l,ListJ1 t.kids ∧ ListJ2 t.kids) → ListJ1 l ∧ ListJ2 l:=fun l ih=>by
  cases l with
  | nil=>exact ⟨j_list1_nil,j_list2_nil⟩
  | cons t l=>exact ⟨j_list1_more t l ih,j_list2_more t l ih⟩
 exact step l (fun t _=>Tr.rec (motive_1:=fun t=>ListJ1 t.kids ∧ ListJ2 t.kids) (motive_2:=fun l=>∀ t ∈ l,ListJ1 t.kids ∧ ListJ2 t.kids)
  (fun _ l ih=>step l ih) (fun _ h=>absurd h (by simp)) (fun _ _ h1 h2 s hs=>(List.mem_cons.1 hs).elim (fun e=>by rw [e]; exact h1) (h2 s)) t)
end Go.Proofs.YtfckekaegjjmkaaGreatDoor
