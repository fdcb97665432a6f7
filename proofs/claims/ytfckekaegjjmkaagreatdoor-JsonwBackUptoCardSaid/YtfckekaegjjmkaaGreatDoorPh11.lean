/- The texts DrC, DrD, DrE, put together. -/
import Derived.Test.YtfckekaegjjmkaaGreatDoorPh10
import Derived.Lib.TrimUEq
import Derived.Lib.OthersKept
import Derived.Lib.TrimAscii
import Derived.BigQuiet
namespace Go.Proofs.YtfckekaegjjmkaaGreatDoor
open Go.RowKit Go.Shelf
attribute [local go_sem] Oper.semAt_some wide_fn wide_depth

theorem decodeL_highR {b:UInt8} (t:List UInt8) (h:128 ≤ b.toNat):128 ≤ (Lib.decodeL (b :: t)).1:=by
 rw [Lib.decodeL_N]
 have hb:((b :: t).getD 0 0).toNat=b.toNat:=rfl
 rw [hb]
 generalize (b :: t).length=n
 generalize (UInt8.toNat ((b :: t).getD 1 0))=b1
 generalize (UInt8.toNat ((b :: t).getD 2 0))=b2
 generalize (UInt8.toNat ((b :: t).getD 3 0))=b3
 unfold Lib.decodeN
 rw [if_neg (by omega)]
 repeat' split
 all_goals (simp only; omega)
theorem rune_dig (b:UInt8) (t:List UInt8) (h:isDig b=true):Lib.decodeL (b :: t)=(b.toNat,1) ∧ 48 ≤ b.toNat ∧ b.toNat ≤ 57:=by
 unfold isDig at h
 rw [Bool.and_eq_true,decide_eq_true_iff,decide_eq_true_iff] at h
 exact ⟨Lib.decodeL_ascii b t (by omega),h⟩
theorem rune_oth (b:UInt8) (t:List UInt8) (h:isDig b=false):(Lib.decodeL (b :: t)).1 < 48 ∨ 57 < (Lib.decodeL (b :: t)).1:=by
 unfold isDig at h
 rw [Bool.and_eq_false_iff,decide_eq_false_iff_not,decide_eq_false_iff_not] at h
 by_cases hb:b.toNat < 128
 ·rw [Lib.decodeL_ascii b t hb]
  simp only
  omega
 ·have:=decodeL_highR t (by omega:128 ≤ b.toNat)
  omega
structure MvS (n:Nat) (A B:World):Prop where
 os:B.os=A.os
 tape:B.tape=A.tape
 output:B.output=A.output
 size:A.heap.size ≤ B.heap.size
 below:∀ (k:Nat),k < n → k < A.heap.size → B.heap[k]? = A.heap[k]?
 kept:∀ (k:Nat) (o:Obj),A.heap[k]? = some o → (∀ s i,o ≠ Obj.stringIter s i) → B.heap[k]? = some o
theorem MvS.of_below {n:Nat} {A B:World} (h:Below A.heap.size A B):MvS n A B:=
 ⟨h.os,h.tape,h.output,h.size,fun k _ hk=>h.block k hk,fun k _ ho _=>(h.block k (Array.getElem?_eq_some_iff.1 ho).1).trans ho⟩
theorem MvS.blk {n:Nat} {A B:World} (h:MvS n A B) {k:Nat} {cs:Array Value} {t:TypeId} (hk:Blk A k cs t):Blk B k cs t:=h.kept k _ hk (fun s i e=>by cases e)
theorem MvS.under {n m:Nat} {w A B:World} (h:MvS n A B) (hb:Below m w A) (hm:m ≤ n) (hw:m ≤ w.heap.size):Below m w B:=by
 refine ⟨h.os.trans hb.os,h.tape.trans hb.tape,h.output.trans hb.output,Nat.le_trans hb.size h.size,fun k hk=>?_⟩
 have:=hb.size
 exact (h.below k (by omega) (by omega)).trans (hb.block k hk)
def KpS (A B:World):Prop:=∀ (k:Nat) (s:ByteArray) (i:Nat),A.heap[k]? = some (Obj.stringIter s i) → B.heap[k]? = some (Obj.stringIter s i)
theorem KpS.trans {A B C:World} (h:KpS A B) (k:KpS B C):KpS A C:=fun i s j e=>k i s j (h i s j e)
theorem KpS.put {W:World} {l:Nat} {o:Obj} (o':Obj) (ho:W.heap[l]? = some o) (hl:∃ r,o=.loop r):KpS W (W.putObj l o'):=fun k s i e=>by
 refine (World.putObj_heap_other (fun h=>?_)).trans e
 subst h
 obtain ⟨r,rfl⟩:=hl
 rw [ho] at e
 cases e
theorem KpS.below {A B:World} {n:Nat} (h:Below n A B) (hs:∀ (k:Nat) (s:ByteArray) (i:Nat),A.heap[k]? = some (Obj.stringIter s i) → k < n):KpS A B:=fun k s i e=>(h.block k (hs k s i e)).trans e

theorem mv_iter {n i k:Nat} {W:World} {s:ByteArray} (hn:n ≤ i) (h:W.heap[i]? = some (.stringIter s k)) (j:Nat):MvS n W (W.iterAt i s j):=by
 refine ⟨rfl,rfl,rfl,?_,fun m hm hl=>?_,fun m o ho hx=>?_⟩
 ·rw [Lib.iterAt_size]
  exact Nat.le_refl _
 ·exact Lib.iterAt_other W i m s j (by omega)
 ·refine (Lib.iterAt_other W i m s j (fun e=>?_)).trans ho
  subst e
  rw [h] at ho
  cases ho
  exact hx _ _ rfl

theorem dec_runes (s:ByteArray) (w:World) :
  Calls Tryz.prog 187 #[.string s] w fun e w'=>e=.returned (.func (.func 218) #[] #[.pointer (some ⟨w.heap.size,0,none⟩)]) ∧ w'=w.alloc (.cells #[.string s] 9):=by
 go_enter Tryz.func187,Tryz.ntmps187
 go_wp2
 go_ret
 exact ⟨rfl,rfl⟩
def rEnc (c:Nat):Array Value:=#[.int .i32 c]

set_option maxHeartbeats 4000000 in
set_option maxRecDepth 100000 in
theorem runes_seq (n b:Nat) (s:ByteArray) (hs:s.size ≤ 1000000000) :
  SeqW Tryz.prog 218 #[.pointer (some ⟨b,0,none⟩)] rEnc (MvS n) KpS (fun _=>True) (fun xs _=>xs.length ≤ digN s.data.toList)
   (fun xs _=>xs.length=digN s.data.toList) (fun _ _=>True) (fun W=>n ≤ W.heap.size ∧ Blk W b #[.string s] 9):=by
 intro l J Jx W hA hJ hJx hY h0
 obtain ⟨hn,hA⟩:=hA
 refine callsIn_of_wp Tryz.func218 rfl trivial ?_ rfl
 simp only [Tryz.ntmps218,List.size_toArray,List.length_cons,List.length_nil,Nat.reduceAdd,Nat.reduceSub,Array.replicate_succ,Array.replicate_zero,List.push_toArray,List.append_toArray,List.nil_append,List.cons_append]
 have HY:=Lib.hid hY
 have HJ:=Lib.hid hJ
 have HD:=Lib.hid dec_isDigit
 have z0:=hA.cell 0
 clear hY hJ hJx
 refine wpIn_wide.2 (wp_scope_straight ((wpIn_wide (n:=8)).1 ?_))
 refine wpIn_seq (wpIn_label ?_)
 show Code.wpIn Fence.wide 8 _ _ _ _ _
 gi_wp2_with fail
 gi_loopw [] (fun wr=>∃ (k:Nat) (pre:List Nat),k ≤ s.size ∧ wr.heap[W.heap.size]? = some (.stringIter s k) ∧ J pre wr ∧ Hid (digN s.data.toList=pre.length + digN (s.data.toList.drop k))) (fun wr=>s.size - wr.iterPos W.heap.size)
 case atStart=>exact ⟨0,[],by omega,World.iter_heap W s 0,HJ.out _ _ _ h0 (.of_below ((Below.refl _ W).alloc (Nat.le_refl _) _)),Lib.hid (by simp)⟩
 case round =>
  obtain ⟨k,pre,hk,hit,hj,hd⟩:=hrel
  have hsz:W.heap.size < wr.heap.size:=(Array.getElem?_eq_some_iff.1 hit).1
  have hlen:s.data.toList.length=s.size:=by simp
  have HN:=Lib.hid hn
  clear h0 hA z0 hn
  by_cases hp:k < s.size
  ·have hnx:∀ ty,(Instr.next (.pointer (some ⟨W.heap.size,0,none⟩)) true ty).run Tryz.prog wr=_:=fun ty=>Lib.run_next_any_at wr W.heap.size s k ty hit hp
   have hdl:=Lib.decodeL_drop s k
   rw [← hdl] at hnx
   have hdr:=List.drop_eq_getElem_cons (l:=s.data.toList) (i:=k) (by rw [hlen]; exact hp)
   obtain ⟨b',hb⟩:∃ b',s.data.toList[k]'(by rw [hlen]; exact hp)=b':=⟨_,rfl⟩
   rw [hb] at hdr
   rw [hdr] at hnx hd
   have hmv:∀ j,MvS n wr (wr.iterAt W.heap.size s j):=fun j=>mv_iter HN.out hit j
   have hit2:=Lib.iterAt_heap wr W.heap.size s k (k + (Lib.decodeL (b' :: s.data.toList.drop (k + 1))).2) hit
   have hj2:=HJ.out _ _ _ hj (hmv (k + (Lib.decodeL (b' :: s.data.toList.drop (k + 1))).2))
   cases hg:isDig b' with
   | true =>
    obtain ⟨h1,h2,h3⟩:=rune_dig b' (s.data.toList.drop (k + 1)) hg
    have hd2:=hd.out
    rw [digN_cons_yes hg] at hd2
    have hd3:digN s.data.toList=(pre.length + 1) + digN (s.data.toList.drop (k + 1)):=by omega
    rw [h1] at hnx hit2 hj2
    simp only [] at hnx hit2 hj2
    obtain ⟨c,hc⟩:∃ c,b'.toNat=c:=⟨_,rfl⟩
    rw [hc] at hnx h2 h3
    have HD3:=Lib.hid hd3
    have HDD:Hid (∀ w,Calls Tryz.prog 155 #[.int .i32 (c:Int)] w fun e w'=>e=.returned (.bool true) ∧ w'=w):=Lib.hid (fun w=>by
     have:=HD.out (c:Int) w
     rw [decide_eq_true (by omega),decide_eq_true (by omega)] at this
     exact this)
    obtain ⟨W2,hW2⟩:∃ W2,wr.iterAt W.heap.size s (k + 1)=W2:=⟨_,rfl⟩
    rw [hW2] at hnx hit2 hj2
    obtain ⟨fn,tmps,assign,body,hy,hR⟩:=HY.out pre c W2 hj2 (by rw [List.length_append,List.length_singleton]; omega)
    unfold rEnc at hy
    have HIT:=Lib.hid hit
    clear hdl hdr hb hg h1 hd hd2 hd3 hc h2 h3 hmv hj2 hW2 hit hj
    gi_wp2_with fail
    refine (callsIn_wide.2 (HDD.out _)).mono ?_
    rintro e w1 ⟨rfl,rfl⟩
    gi_wp2_with fail
    refine hR.mono ?_
    rintro e w2 (⟨rfl,_,hj3,hk3⟩ | ⟨rfl,hx2⟩)
    ·have hit3:=hk3 _ _ _ hit2
     gi_wp2_with fail
     go_roundw
     case rel=>exact ⟨k + 1,_,by omega,hit3,hj3,by
      rw [List.length_append,List.length_singleton]
      exact HD3⟩
     case measure =>
      simp only [World.iterPos,hit3,HIT.out]
      omega
    ·gi_wp2_with fail
     rw [Exit.noGoto_normal]
     refine bodyPost_end (results_none rfl _ _ _) rfl ?_
     exact ⟨⟨_,rfl⟩,.inr ⟨_,trivial,hx2⟩⟩
   | false =>
    have hr:=rune_oth b' (s.data.toList.drop (k + 1)) hg
    have hd2:=hd.out
    rw [digN_cons_no hg,Nat.add_zero] at hd2
    have HD3:=Lib.hid hd2
    obtain ⟨⟨c,wd⟩,hck⟩:∃ ck,Lib.decodeL (b' :: s.data.toList.drop (k + 1))=ck:=⟨_,rfl⟩
    rw [hck] at hnx hit2 hr hj2
    simp only [] at hnx hit2 hr hj2
    have HDD:Hid (∀ w,Calls Tryz.prog 155 #[.int .i32 (c:Int)] w fun e w'=>e=.returned (.bool false) ∧ w'=w):=Lib.hid (fun w=>by
     have:=HD.out (c:Int) w
     rcases hr with h | h
     ·rw [decide_eq_false (by omega),Bool.false_and] at this
      exact this
     ·rw [decide_eq_false (show ¬ (c:Int) ≤ 57 by omega),Bool.and_false] at this
      exact this)
    obtain ⟨W2,hW2⟩:∃ W2,wr.iterAt W.heap.size s (k + wd)=W2:=⟨_,rfl⟩
    rw [hW2] at hnx hit2 hj2
    clear hdl hdr hb hg hd hd2 hr hmv hW2 hit hj hck
    gi_wp2_with fail
    refine (callsIn_wide.2 (HDD.out _)).mono ?_
    rintro e w1 ⟨rfl,rfl⟩
    gi_wp2_with fail
    rw [Exit.noGoto_normal]
    refine bodyPost_end (results_none rfl _ _ _) rfl ?_
    exact ⟨⟨_,rfl⟩,.inl ⟨pre,HD3.out.symm,hj2⟩⟩
  ·have hnx:∀ ty,(Instr.next (.pointer (some ⟨W.heap.size,0,none⟩)) true ty).run Tryz.prog wr=_:=fun ty=>Lib.run_next_end_at wr W.heap.size s k ty hit hp
   have hd2:=hd.out
   rw [List.drop_eq_nil_of_le (by rw [hlen]; omega)] at hd2
   have HD3:=Lib.hid (show digN s.data.toList=pre.length from hd2)
   clear hd hd2 hlen
   gi_wp2_with fail
   rw [Exit.noGoto_normal]
   refine bodyPost_end (results_none rfl _ _ _) rfl ?_
   exact ⟨⟨_,rfl⟩,.inl ⟨pre,HD3.out.symm,hj⟩⟩
end Go.Proofs.YtfckekaegjjmkaaGreatDoor
namespace Go.Proofs.YtfckekaegjjmkaaGreatDoor
open Go.RowKit Go.Shelf
attribute [local go_sem] Oper.semAt_some wide_fn wide_depth

abbrev RdD (W:World) (p:Nat) (s:ByteArray):Prop:=Blk W p #[.string s] 154
def bsD (l:List UInt8):ByteArray:=⟨l.toArray⟩
def DigI (n:Nat) (w:World) (pre:List Nat) (W:World):Prop:=Blk W n #[.int .i64 pre.length] 3 ∧ Below n w W
def DigA (m:Nat) (T:Array Value) (pre:List Nat) (x:Nat) (a':Act) (_:World):Prop:=a'={ tmps:=T.setIfInBounds 11 (.int .i32 x),defers:=[] } ∧ pre.length + 1 ≤ m
theorem digI_own (n:Nat) (w:World) {m:Nat} (hm:n ≤ m) (hm2:n ≤ w.heap.size):OwnFrom m (DigI n w):=by
 refine fun s X Y row hs hg hr=>⟨?_,?_⟩
 ·exact blk_own _ _ (fun _:Unit=>_) () X Y row hs.1 hg (fun r e=>(hr r e).2)
 ·exact ownFrom_below (β:=Unit) hm2 hm () X Y row hs.2 hg hr
theorem grown_shut {w W:World} {p D:Nat} {o:Obj} (h:w.grownBy W (some p)) (hD:w.heap.size ≤ D):w.grownBy (W.putObj D o) (some p):=
 ⟨h.os,h.tape,h.output,Nat.le_trans h.size (by simp),fun i hi hr=>(World.putObj_heap_other (by omega)).trans (h.block i hi hr)⟩
theorem KpS.set {W:World} {b:Nat} {cs:Array Value} {t:TypeId} (h:Blk W b cs t) (i:Nat) (v:Value):KpS W (W.setCell ⟨b,i,none⟩ v):=fun k s j e=>by
 refine (Below.heap_setCell W ⟨b,i,none⟩ v k (fun q=>?_)).trans e
 have q:k=b:=q
 subst q
 rw [show W.heap[k]? = _ from h] at e
 cases e
theorem digN_le (l:List UInt8):digN l ≤ l.length:=by
 induction l with
 | nil=>exact Nat.le_refl _
 | cons c r ih =>
  cases h:isDig c with
  | true=>rw [digN_cons_yes h,List.length_cons]; omega
  | false=>rw [digN_cons_no h]; omega

set_option maxHeartbeats 4000000 in
set_option maxRecDepth 100000 in
theorem dec_digits (p:Nat) (s:ByteArray) (w:World) (hR:RdD w p s) (hz:s.size ≤ 1000000000) :
  Calls Tryz.prog 152 #[.pointer (some ⟨p,0,none⟩)] w fun e w'=>e=.returned (.string (bsD (digits s.data.toList).1)) ∧ w.grownBy w' (some p) ∧ RdD w' p (bsD (digits s.data.toList).2):=by
 have c0:=(hR.alloc (.cells #[.int .i64 0] 3)).cell 0
 have hplt:=hR.lt
 obtain ⟨n,hn⟩:∃ n,w.heap.size=n:=⟨_,rfl⟩
 have hB1:Below n w (w.alloc (.cells #[.int .i64 0] 3)):=(Below.refl _ w).alloc (by omega) _
 have hk1:Blk (w.alloc (.cells #[.int .i64 0] 3)) n #[.int .i64 0] 3:=by rw [← hn]; exact Blk.new _ _ _
 have hdn:=digN_le s.data.toList
 have hsl:s.data.toList.length=s.size:=by simp
 obtain ⟨k,hk⟩:∃ k,digN s.data.toList=k:=⟨_,rfl⟩
 have e1:s.extract 0 k=bsD (digits s.data.toList).1:=by
  unfold digits bsD
  rw [hk]
  apply ByteArray.ext
  apply Array.toList_inj.1
  simp [ByteArray.data_extract]
 have e2:s.extract k s.size=bsD (digits s.data.toList).2:=by
  unfold digits bsD
  rw [hk]
  apply ByteArray.ext
  apply Array.toList_inj.1
  have:(s.extract k s.size).data.toList=(s.data.toList.drop k).take (s.size - k):=by simp [ByteArray.data_extract]
  rw [this,List.take_of_length_le (by rw [List.length_drop]; omega)]
 obtain ⟨x1,hx1⟩:∃ x,bsD (digits s.data.toList).1=x:=⟨_,rfl⟩
 obtain ⟨x2,hx2⟩:∃ x,bsD (digits s.data.toList).2=x:=⟨_,rfl⟩
 rw [hx1] at e1 ⊢
 rw [hx2] at e2 ⊢
 rw [hk] at hdn
 have HDK:=Lib.hid hk
 have E1:=Lib.hid e1
 have E2:=Lib.hid e2
 clear hx1 hx2 e1 e2 hk
 refine calls_of_marks Tryz.func152 rfl ?_
 simp only [Tryz.ntmps152,List.size_toArray,List.length_cons,List.length_nil,Nat.reduceAdd,Nat.reduceSub,Array.replicate_succ,Array.replicate_zero,List.push_toArray,List.append_toArray,List.nil_append,List.cons_append]
 go_wp2_with fail
 refine (dec_runes s _).mono ?_
 rintro e w3 ⟨rfl,hw3⟩
 have hz3:w3.heap.size=n + 2:=by rw [hw3]; simp [hn]
 have hB3:Below n w w3:=by rw [hw3]; exact hB1.alloc (by simp; omega) _
 have hk3:Blk w3 n #[.int .i64 0] 3:=by rw [hw3]; exact hk1.alloc _
 have hb3:Blk w3 (n + 1) #[.string s] 9:=by
  have:=Blk.new (w.alloc (.cells #[.int .i64 0] 3)) #[.string s] 9
  rw [World.size_alloc,hn] at this
  rw [hw3]
  exact this
 rw [World.size_alloc,hn]
 clear hw3 hB1 hk1 c0
 go_wp2_with fail
 refine wp_rangeFuncI (gf:=218) (lb:=#[.pointer (some ⟨n + 1,0,none⟩)]) rfl (enters_of Tryz.func218 (by kernel_rfl) rfl)
  (runes_seq (n + 2) (n + 1) s hz) ?hMv ?hA0 ?hKt ?hKb ?hps (DigI n w) (fun _ _ _=>False) ?hI ?hIx ?hIM ?hIxM ?h0 ?hCt
  (DigA k) ?hAx ?assign ?body ?hS ?hSp ?done ?stop
 case hMv =>
  rintro A B k o hM hk ho (⟨r,rfl⟩ | ⟨d,rfl⟩)
  ·exact hM.kept _ _ ho (fun s i e=>by cases e)
  ·exact hM.kept _ _ ho (fun s i e=>by cases e)
 case hA0 =>
  intro o o'
  exact ⟨by simp; omega,(hb3.alloc o).alloc o'⟩
 case hKt=>exact fun h1 h2=>h1.trans h2
 case hKb=>exact fun W l o o' _ ho hl=>KpS.put o' ho hl
 case hps=>exact fun x=>rfl
 case hI=>exact digI_own n w (by omega) (by omega)
 case hIx=>exact fun c s X Y row h _ _=>h
 case hIM =>
  rintro s' X Y ⟨h1,h2⟩ hm
  exact ⟨hm.blk h1,hm.under h2 (by omega) (by omega)⟩
 case hIxM=>exact fun c s' X Y h _=>h
 case h0=>exact ⟨hk3,hB3⟩
 case hCt=>exact fun _ _ _ _=>trivial
 case hAx=>exact fun pre x a' _ X Y row hs _ _=>hs
 case hS=>exact fun s' X Y row hs _ _=>hs
 case hSp=>exact fun s' X Y row hs _ _=>hs
 case assign =>
  rintro l pre x W K hI hT hK
  have HK:=Lib.hid hK
  have HI:=Lib.hid hI
  rw [List.length_append,List.length_singleton,HDK.out] at hT
  have HT:=Lib.hid hT
  clear hK hI hT
  simp only [rEnc]
  gi_wp2
  exact HK.out _ _ (KeepsFrom.refl _ _) (fun _ _ _ e=>e) HI.out ⟨rfl,HT.out⟩
 case body =>
  rintro l pre x a' W hl _ ⟨h1,h2⟩ ⟨rfl,hT⟩
  simp only [List.setIfInBounds_toArray,List.set_cons_zero,List.set_cons_succ]
  have q0:=h1.cell 0
  have f0:=h1.frozen 0
  have hlen:(pre ++ [x]).length=pre.length + 1:=by simp
  generalize pre.length=g at *
  gi_wp2_with fail
  refine ⟨(KeepsOthers.setCell W _ _).from _,KpS.set h1 _ _,?_,h2.setCell (by simp) _⟩
  rw [hlen]
  exact h1.set 0 _
 case done =>
  rintro D xs W hD hs ⟨h1,h2⟩ hK
  rw [hs] at h1
  have hRW:RdD W p s:=hR.below h2 (by omega)
  have q0:=hRW.cell 0
  have f0:=hRW.frozen 0
  have q1:=h1.cell 0
  have hDW:=(Array.getElem?_eq_some_iff.1 hK).1
  rw [HDK.out] at q1
  have z1:(k:Int) ≤ s.size:=by omega
  have hDn:n + 2 ≤ D:=by omega
  have H1:=Lib.hid h1
  have H2:=Lib.hid h2
  have HK:=Lib.hid hK
  have HR:=Lib.hid hRW
  clear hR h1 h2 hK hRW hs hz3 hB3 hk3 hb3 hsl hdn
  go_wp2_with fail
  go_quiet (fail)
  go_wp2_with fail
  go_region
  go_wp2_with fail
  rw [E2.out]
  have hK2:((W.drewN (nq + 1)).setCell ⟨p,0,none⟩ (.string x2)).heap[D]? = some (.deferred (some [])):=(Below.heap_setCell _ _ _ _ (by show D ≠ p; omega)).trans HK.out
  refine leave1 (v:=.string (s.extract 0 k)) hK2 (by simp [results,Tryz.results152,go_sem]) rfl ?_
  rw [E1.out]
  have hR2:RdD ((W.drewN (nq + 1)).setCell ⟨p,0,none⟩ (.string x2)) p x2:=(show Blk (W.drewN (nq + 1)) p #[.string s] 154 from HR.out).set 0 _
  have hg:w.grownBy W (some p):=below_grown (by rw [hn]; exact H2.out) _
  have hg2:w.grownBy (W.drewN (nq + 1)) (some p):=⟨hg.os,hg.tape,hg.output,hg.size,hg.block⟩
  refine ⟨rfl,grown_shut (grown_trans hg2 (grown_set _ p 0 _)) (by omega),?_⟩
  exact (World.putObj_heap_other (by omega)).trans hR2
 case stop =>
  rintro D c pre W hD hsp h hK
  exact h.elim
end Go.Proofs.YtfckekaegjjmkaaGreatDoor
namespace Go.Proofs.YtfckekaegjjmkaaGreatDoor
open Go.RowKit Go.Shelf
attribute [local go_sem] Oper.semAt_some

def nextD (cs l:List UInt8):Bool × List UInt8:=match l with
 | []=>(false,[])
 | x :: r=>if x ∈ cs then (true,r) else (false,x :: r)
theorem bsD_of (s:ByteArray):bsD s.data.toList=s:=by
 apply ByteArray.ext
 unfold bsD
 simp
theorem bsD_size (l:List UInt8):(bsD l).size=l.length:=rfl
theorem bsD_list (l:List UInt8):(bsD l).data.toList=l:=rfl
theorem nextD_len (cs l:List UInt8):(nextD cs l).2.length ≤ l.length:=by
 cases l with
 | nil=>exact Nat.le_refl _
 | cons x r =>
  unfold nextD
  by_cases h:x ∈ cs
  ·simp [h]
  ·simp [h]
theorem rd_next (p q:Nat) (s:ByteArray) (cs:List UInt8) (cap:Nat) (w:World) (hR:RdD w p s) (hQ:∀ k (h:k < cs.length),w.cell? ⟨q,k,none⟩=some (.int .u8 (cs[k].toNat:Int))) (hz:s.size ≤ 1000000000) (hc:cs.length ≤ 10) :
  Calls Tryz.prog 119 #[.pointer (some ⟨p,0,none⟩),.slice (some ⟨q,0,none⟩) cs.length cap] w fun e w'=>e=.returned (.bool (nextD cs s.data.toList).1) ∧ w.grownBy w' (some p) ∧ RdD w' p (bsD (nextD cs s.data.toList).2):=by
 have hrefl:w.grownBy w (some p):=⟨rfl,rfl,rfl,Nat.le_refl _,fun _ _ _=>rfl⟩
 cases hl:s.data.toList with
 | nil =>
  refine (rd_next_no p q s cs cap w hR hQ hz hc (fun x r h=>by rw [hl] at h; cases h)).mono ?_
  rintro e w' ⟨rfl,rfl⟩
  refine ⟨rfl,hrefl,?_⟩
  have:bsD (nextD cs []).2=s:=by rw [← bsD_of s,hl]; rfl
  rw [this]
  exact hR
 | cons x r =>
  by_cases hx:x ∈ cs
  ·refine (rd_next_yes p q s cs cap w hR hQ hz hc x r hl hx).mono ?_
   rintro e w' ⟨rfl,rfl⟩
   rw [show nextD cs (x :: r)=(true,r) from if_pos hx]
   exact ⟨rfl,grown_set w p 0 _,hR.set 0 _⟩
  ·refine (rd_next_no p q s cs cap w hR hQ hz hc (fun y t h=>by rw [hl] at h; cases h; exact hx)).mono ?_
   rintro e w' ⟨rfl,rfl⟩
   rw [show nextD cs (x :: r)=(false,x :: r) from if_neg hx]
   refine ⟨rfl,hrefl,?_⟩
   have:bsD (x :: r)=s:=by rw [← bsD_of s,hl]
   rw [this]
   exact hR
theorem rd_next1 (p:Nat) (s:ByteArray) (c:UInt8) (ci:Int) (hci:(c.toNat:Int)=ci) (w:World) (hR:RdD w p s) (hz:s.size ≤ 1000000000) :
  Calls Tryz.prog 119 #[.pointer (some ⟨p,0,none⟩),.slice (some ⟨w.heap.size,0,none⟩) 1 1] (w.alloc (.cells #[.int .u8 ci] 5)) fun e w'=>e=.returned (.bool (nextD [c] s.data.toList).1) ∧ w.grownBy w' (some p) ∧ RdD w' p (bsD (nextD [c] s.data.toList).2):=by
 have hB:=Blk.new w #[.int .u8 ci] 5
 refine (rd_next p w.heap.size s [c] 1 _ (hR.alloc _) (fun k hk=>?_) hz (by simp)).mono ?_
 ·obtain rfl:k=0:=by simpa using hk
  rw [hB.cell 0]
  simp [hci]
 ·rintro e w' ⟨h1,h2,h3⟩
  exact ⟨h1,grown_trans (below_grown ((Below.refl _ w).alloc (Nat.le_refl _) _) _) h2,h3⟩
theorem rd_next2 (p:Nat) (s:ByteArray) (c d:UInt8) (ci di:Int) (hci:(c.toNat:Int)=ci) (hdi:(d.toNat:Int)=di) (w:World) (hR:RdD w p s) (hz:s.size ≤ 1000000000) :
  Calls Tryz.prog 119 #[.pointer (some ⟨p,0,none⟩),.slice (some ⟨w.heap.size,0,none⟩) 2 2] (w.alloc (.cells #[.int .u8 ci,.int .u8 di] 5)) fun e w'=>e=.returned (.bool (nextD [c,d] s.data.toList).1) ∧ w.grownBy w' (some p) ∧ RdD w' p (bsD (nextD [c,d] s.data.toList).2):=by
 have hB:=Blk.new w #[.int .u8 ci,.int .u8 di] 5
 refine (rd_next p w.heap.size s [c,d] 2 _ (hR.alloc _) (fun k hk=>?_) hz (by simp)).mono ?_
 ·rcases (by simp at hk; omega:k=0 ∨ k=1) with rfl | rfl
  ·rw [hB.cell 0]
   simp [hci]
  ·rw [hB.cell 1]
   simp [hdi]
 ·rintro e w' ⟨h1,h2,h3⟩
  exact ⟨h1,grown_trans (below_grown ((Below.refl _ w).alloc (Nat.le_refl _) _) _) h2,h3⟩

theorem whole_next (l:List UInt8):wholeP l=if (nextD [48] l).1=true then ([48],(nextD [48] l).2) else digits (nextD [48] l).2:=by
 unfold wholeP
 split
 ·simp [nextD]
 ·rename_i h
  cases l with
  | nil=>rfl
  | cons x r =>
   have:¬ x=48:=fun e=>h r (by rw [e])
   simp [nextD,this]
theorem part_next (l:List UInt8):partP l=if (nextD [46] l).1=true then (if (digits (nextD [46] l).2).1=[] then ([],l) else digits (nextD [46] l).2) else ([],l):=by
 unfold partP
 split
 ·simp [nextD]
 ·rename_i h
  cases l with
  | nil=>rfl
  | cons x r =>
   have:¬ x=46:=fun e=>h r (by rw [e])
   simp [nextD,this]

set_option maxHeartbeats 2000000 in
set_option maxRecDepth 100000 in
theorem dec_whole (p:Nat) (s:ByteArray) (w:World) (hR:RdD w p s) (hz:s.size ≤ 1000000000) :
  Calls Tryz.prog 120 #[.pointer (some ⟨p,0,none⟩)] w fun e w'=>e=.returned (.string (bsD (wholeP s.data.toList).1)) ∧ w.grownBy w' (some p) ∧ RdD w' p (bsD (wholeP s.data.toList).2):=by
 rw [whole_next]
 have HN:=Lib.hid (rd_next1 p s 48 48 rfl w hR hz)
 have hlen:=nextD_len [48] s.data.toList
 have hsl:s.data.toList.length=s.size:=by simp
 obtain ⟨⟨b,r⟩,hx⟩:∃ x,nextD [48] s.data.toList=x:=⟨_,rfl⟩
 rw [hx] at HN hlen ⊢
 simp only [] at HN hlen ⊢
 have HD:=Lib.hid (fun W h=>dec_digits p (bsD r) W h (by rw [bsD_size]; omega))
 rw [bsD_list] at HD
 clear hx hlen hsl
 cases b with
 | true =>
  simp only [if_true]
  go_enter Tryz.func120,Tryz.ntmps120
  go_wp2_with fail
  refine HN.out.mono ?_
  rintro e w1 ⟨rfl,hg,hr⟩
  go_wp2_with fail
  go_ret
  exact ⟨rfl,hg,hr⟩
 | false =>
  simp only [Bool.false_eq_true,if_false]
  obtain ⟨⟨a,t⟩,hd⟩:∃ x,digits r=x:=⟨_,rfl⟩
  rw [hd] at HD ⊢
  simp only [] at HD ⊢
  obtain ⟨av,has⟩:∃ x,bsD a=x:=⟨_,rfl⟩
  rw [has] at HD ⊢
  clear hd has
  go_enter Tryz.func120,Tryz.ntmps120
  go_wp2_with fail
  refine HN.out.mono ?_
  rintro e w1 ⟨rfl,hg,hr⟩
  go_wp2_with fail
  refine (HD.out _ hr).mono ?_
  rintro e w2 ⟨rfl,hg2,hr2⟩
  go_wp2_with fail
  go_ret
  exact ⟨rfl,grown_trans hg hg2,hr2⟩

theorem str_isE {l:List UInt8} (h:¬ l=[]):(bsD l).toList.isEmpty=false:=by
 rw [ByteArray.toList_eq,bsD_list]
 cases l with
 | nil=>exact absurd rfl h
 | cons a l=>rfl
set_option maxHeartbeats 2000000 in
set_option maxRecDepth 100000 in
theorem dec_part (p:Nat) (s:ByteArray) (w:World) (hR:RdD w p s) (hz:s.size ≤ 1000000000) :
  Calls Tryz.prog 121 #[.pointer (some ⟨p,0,none⟩)] w fun e w'=>e=.returned (.string (bsD (partP s.data.toList).1)) ∧ w.grownBy w' (some p) ∧ RdD w' p (bsD (partP s.data.toList).2):=by
 rw [part_next]
 have HN:=Lib.hid (rd_next1 p s 46 46 rfl w hR hz)
 have hlen:=nextD_len [46] s.data.toList
 have hsl:s.data.toList.length=s.size:=by simp
 obtain ⟨⟨b,r⟩,hx⟩:∃ x,nextD [46] s.data.toList=x:=⟨_,rfl⟩
 rw [hx] at HN hlen ⊢
 simp only [] at HN hlen ⊢
 have HD:=Lib.hid (fun W h=>dec_digits p (bsD r) W h (by rw [bsD_size]; omega))
 rw [bsD_list] at HD
 have hbs:=bsD_of s
 have q0:=hR.cell 0
 clear hx hlen hsl
 cases b with
 | true =>
  simp only [if_true]
  obtain ⟨⟨a,t⟩,hd⟩:∃ x,digits r=x:=⟨_,rfl⟩
  rw [hd] at HD ⊢
  simp only [] at HD ⊢
  by_cases ha:a=[]
  ·rw [if_pos ha]
   simp only [hbs]
   subst ha
   have HD:Hid (∀ (W:World),RdD W p (bsD r) → Calls Tryz.prog 152 #[.pointer (some ⟨p,0,none⟩)] W fun e w'=>e=.returned (.string ⟨#[]⟩) ∧ W.grownBy w' (some p) ∧ RdD w' p (bsD t)):=HD
   clear hd hbs
   go_enter Tryz.func121,Tryz.ntmps121
   go_wp2_with fail
   refine HN.out.mono ?_
   rintro e w1 ⟨rfl,hg,hr⟩
   clear q0
   go_wp2_with fail
   refine (HD.out _ hr).mono ?_
   rintro e w2 ⟨rfl,hg2,hr2⟩
   have f0:=hr2.frozen 0
   have q0:=hr2.cell 0
   have hr3:=hr2.set 0 (.string s)
   have hg3:=grown_trans (grown_trans hg hg2) (grown_set w2 p 0 (.string s))
   go_wp2_with fail
   go_ret
   exact ⟨rfl,hg3,hr3⟩
  ·rw [if_neg ha]
   have z:=str_isE ha
   obtain ⟨av,has⟩:∃ x,bsD a=x:=⟨_,rfl⟩
   simp only [has] at HD z ⊢
   clear hd has ha hbs
   go_enter Tryz.func121,Tryz.ntmps121
   go_wp2_with fail
   refine HN.out.mono ?_
   rintro e w1 ⟨rfl,hg,hr⟩
   clear q0
   go_wp2_with fail
   refine (HD.out _ hr).mono ?_
   rintro e w2 ⟨rfl,hg2,hr2⟩
   go_wp2_with fail
   go_ret
   exact ⟨rfl,grown_trans hg hg2,hr2⟩
 | false =>
  simp only [Bool.false_eq_true,if_false]
  simp only [hbs]
  clear HD hbs
  go_enter Tryz.func121,Tryz.ntmps121
  go_wp2_with fail
  refine HN.out.mono ?_
  rintro e w1 ⟨rfl,hg,hr⟩
  have f0:=hr.frozen 0
  have q1:=hr.cell 0
  have hr3:=hr.set 0 (.string s)
  have hg3:=grown_trans hg (grown_set w1 p 0 (.string s))
  clear q0
  go_wp2_with fail
  go_ret
  exact ⟨rfl,hg3,hr3⟩
end Go.Proofs.YtfckekaegjjmkaaGreatDoor
