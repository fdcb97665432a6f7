/- The texts UtfJ, BuildF, UtfK, UtfL, put together. -/
import Derived.Test.YtfckekaegjjmkaaGreatDoorPh07
import Derived.Test.YtfckekaegjjmkaaGreatDoorPh05
import Derived.Test.YtfckekaegjjmkaaGreatDoorPh03
import Derived.Outline
namespace Go.Proofs.YtfckekaegjjmkaaGreatDoor
open Go.RowKit Go.Shelf
attribute [local go_sem] Oper.semAt_some wide_fn wide_depth

abbrev Part:=Except Bool Nat
def partEnc (aT aQ:Addr):Part → Array Value
 | .ok x=>#[.int .i32 (x:Int),.nilIface]
 | .error b=>#[.int .i32 0,errV (if b then aT else aQ)]
def Steps:List UInt8 → List Part → List UInt8 → Prop
 | l,[],l'=>l=l'
 | l,.ok x :: xs,l'=>∃ r,nextL l=.ok (some x,r) ∧ Steps r xs l'
 | _,.error _ :: _,_=>False
theorem Steps.snoc:∀ {xs:List Part} {l l' r:List UInt8} {x:Nat},Steps l xs l' → nextL l'=.ok (some x,r) → Steps l (xs ++ [.ok x]) r
 | [],l,l',r,x,h,hn=>by
  cases h
  exact ⟨r,hn,rfl⟩
 | .ok y :: xs,l,l',r,x,⟨m,hm,h⟩,hn=>⟨m,hm,h.snoc hn⟩
 | .error b :: xs,l,l',r,x,h,hn=>h.elim
def strLen (W:World) (p:Nat):Nat:=match W.cell? ⟨p,0,none⟩ with
 | some (.string s)=>s.size
 | _=>0

theorem Steps.len:∀ {xs:List Part} {l0 l:List UInt8},Steps l0 xs l → xs.length + l.length ≤ l0.length
 | [],l0,l,h=>by
  cases h
  simp
 | .ok x :: xs,l0,l,⟨m,hm,h⟩=>by
  have hs:=nextL_shorter hm
  have:=h.len
  simp
  omega
 | .error _ :: _,_,_,h=>h.elim
theorem Steps.chars:∀ {xs:List Part} {l0 l:List UInt8},Steps l0 xs l → ∀ v,.ok v ∈ xs → charOk v
 | [],_,_,_=>by simp
 | .ok x :: xs,l0,l,⟨m,hm,h⟩=>by
  intro v hv
  rcases List.mem_cons.1 hv with h1 | h1
  ·cases h1
   exact nextL_char hm
  ·exact h.chars v h1
 | .error _ :: _,_,_,h=>h.elim
def PartsKp (n p bc:Nat) (A B:World):Prop:=Below n A B ∧ (p < A.heap.size → B.heap[p]? = A.heap[p]?) ∧ (bc < A.heap.size → B.heap[bc]? = A.heap[bc]?)
def PartsS (p:Nat) (l0:List UInt8) (xs:List Part) (W:World):Prop:=∃ l r,Steps l0 xs l ∧ nextL l=.ok (none,r) ∧ Rd W p ⟨r.toArray⟩
def PartsSp (l0:List UInt8) (pre:List Part) (_:World):Prop:=(∃ xs b l,pre=xs ++ [.error b] ∧ Steps l0 xs l ∧ nextL l=.error b) ∨ (∃ l,Steps l0 pre l)
def PartsA (n p bc:Nat) (aT aQ:Addr) (s:ByteArray) (W:World):Prop:=UWB n W aT aQ ∧ Rd W p s ∧ Blk W bc #[.pointer (some ⟨p,0,none⟩)] 219

theorem utf_parts (p:Nat) (w:World) :
  Calls Tryz.prog 186 #[.pointer (some ⟨p,0,none⟩)] w fun e w'=>e=.returned (.func (.func 216) #[] #[.pointer (some ⟨w.heap.size,0,none⟩)]) ∧ w.alloc (.cells #[.pointer (some ⟨p,0,none⟩)] 219)=w':=by
 go_enter Tryz.func186,Tryz.ntmps186
 go_wp2
 go_ret
 exact ⟨rfl,rfl⟩

set_option maxHeartbeats 4000000 in
set_option maxRecDepth 100000 in
theorem utf_parts_seq (n p bc:Nat) (aT aQ:Addr) (s0:ByteArray) (hn:n ≤ p) (hne:p ≠ bc) :
  SeqW Tryz.prog 216 #[.pointer (some ⟨bc,0,none⟩)] (partEnc aT aQ) (fun A B=>A.grownBy B (some p)) (PartsKp n p bc) (fun x=>∃ y,x=.ok y) (fun xs _=>xs.length ≤ s0.size + 1 ∧ ∀ v,.ok v ∈ xs → charOk v)
   (PartsS p s0.data.toList) (PartsSp s0.data.toList) (PartsA n p bc aT aQ s0):=by
 intro l J Jx W hA hJ hJx hY h0
 obtain ⟨hU,hp,hB⟩:=hA
 refine callsIn_of_wp Tryz.func216 rfl trivial ?_ rfl
 simp only [Tryz.ntmps216,List.size_toArray,List.length_cons,List.length_nil,Nat.reduceAdd,Nat.reduceSub,Array.replicate_succ,Array.replicate_zero,List.push_toArray,List.append_toArray,List.nil_append,List.cons_append]
 have HY:=Lib.hid hY
 have HJ:=Lib.hid hJ
 clear hY hJ hJx
 gi_wp2
 gi_loopw [] (fun wr=>∃ (pre:List Part) (sr:ByteArray),Steps s0.data.toList pre sr.data.toList ∧ J pre wr ∧ UWB n wr aT aQ ∧ Rd wr p sr ∧ Blk wr bc #[.pointer (some ⟨p,0,none⟩)] 219) (fun wr=>strLen wr p)
 case atStart=>exact ⟨[],s0,rfl,h0,hU,hp,hB⟩
 case round =>
  obtain ⟨pre,sr,hst,hj,hu,hr,hb⟩:=hrel
  have hc:=hb.cell 0
  have HN:=Lib.hid (utf_next sr p wr hu hn hr)
  have HST:=Lib.hid hst
  have hT:=hst.len
  have hs0:s0.data.toList.length=s0.size:=by simp
  have hch:=hst.chars
  have HT:=Lib.hid (show ∀ x:Part,(∀ v,x=.ok v → charOk v) → (pre ++ [x]).length ≤ s0.size + 1 ∧ ∀ v,.ok v ∈ pre ++ [x] → charOk v from fun x hx=>⟨by rw [List.length_append,List.length_singleton]; omega,fun v hv=>by
   rcases List.mem_append.1 hv with h1 | h1
   ·exact hch v h1
   ·exact hx v (List.mem_singleton.1 h1).symm⟩)
  clear hch
  clear hT hs0
  have hlen:strLen wr p=sr.size:=by
   unfold strLen
   rw [hr.cell 0]
   rfl
  have HL:=Lib.hid hlen
  clear hst hU hp hB h0 hlen
  gi_wp2_with fail
  refine (callsIn_wide.2 HN.out).mono ?_
  rintro e w1 ⟨hg,hm⟩
  have hj1:=HJ.out _ _ _ hj hg
  have hu1:UWB n w1 aT aQ:=hu.to (grown_below hg hn hr.lt)
  have hb1:Blk w1 bc #[.pointer (some ⟨p,0,none⟩)] 219:=hb.kept hg (by simpa using fun e=>hne e.symm)
  clear hj hu hr hb HN hg hc
  cases hnx:nextL sr.data.toList with
  | error b =>
   rw [hnx] at hm
   subst hm
   obtain ⟨fn,tmps,assign,body,hy,hR⟩:=HY.out pre (.error b) w1 hj1 (HT.out _ (fun v e=>by cases e))
   simp only [partEnc] at hy hR
   have hend:PartsSp s0.data.toList (pre ++ [.error b]) w1:=.inl ⟨pre,b,_,rfl,HST.out,hnx⟩
   have HE:=Lib.hid hend
   clear hnx hend hj1 HL
   generalize (if b=true then aT else aQ)=ev at hy hR ⊢
   gi_wp2_with fail
   refine hR.mono ?_
   rintro e w2 (⟨_,⟨y,hy⟩,_⟩ | ⟨rfl,hx2⟩)
   ·cases hy
   ·gi_wp2_with fail
    refine bodyPost_ret (results_none rfl _ _ _) rfl ?_
    exact ⟨⟨_,rfl⟩,.inr ⟨_,HE.out,hx2⟩⟩
  | ok q =>
   obtain ⟨x,r⟩:=q
   rw [hnx] at hm
   cases x with
   | none =>
    obtain ⟨rfl,hp1⟩:=hm
    have hend:PartsS p s0.data.toList pre w1:=⟨_,r,HST.out,hnx,hp1⟩
    have HE:=Lib.hid hend
    clear hnx hend HL
    gi_wp2_with fail
    refine bodyPost_ret (results_none rfl _ _ _) rfl ?_
    exact ⟨⟨_,rfl⟩,.inl ⟨_,HE.out,hj1⟩⟩
   | some x =>
    obtain ⟨rfl,hp1⟩:=hm
    have hst1:=Steps.snoc HST.out hnx
    have hsh:=nextL_shorter hnx
    obtain ⟨fn,tmps,assign,body,hy,hR⟩:=HY.out pre (.ok x) w1 hj1 (HT.out _ (fun v e=>by cases e; exact nextL_char hnx))
    simp only [partEnc] at hy hR
    have HST1:=Lib.hid hst1
    have HSH:=Lib.hid hsh
    clear hnx hst1 hsh hj1
    gi_wp2_with fail
    refine hR.mono ?_
    rintro e w2 (⟨rfl,_,hj2,hk1,hk2,hk3⟩ | ⟨rfl,hx2⟩)
    ·have hp2:Rd w2 p ⟨r.toArray⟩:=(hk2 hp1.lt).trans hp1
     have hb2:Blk w2 bc #[.pointer (some ⟨p,0,none⟩)] 219:=(hk3 hb1.lt).trans hb1
     have hu2:=hu1.to hk1
     clear hk1 hk2 hk3 hp1 hb1 hu1
     gi_wp2_with fail
     go_roundw
     case rel=>exact ⟨_,_,HST1.out,hj2,hu2,hp2,hb2⟩
     case measure =>
      rw [HL.out]
      have h2:strLen w2 p=r.length:=by
       unfold strLen
       rw [hp2.cell 0]
       rfl
      rw [h2]
      have:=HSH.out
      simpa using this
    ·gi_wp2_with fail
     refine bodyPost_ret (results_none rfl _ _ _) rfl ?_
     exact ⟨⟨_,rfl⟩,.inr ⟨_,.inr ⟨_,HST1.out⟩,hx2⟩⟩
end Go.Proofs.YtfckekaegjjmkaaGreatDoor
namespace Go.Proofs.YtfckekaegjjmkaaGreatDoor
open Go.RowKit Go.Shelf

theorem isB_grown {B b:Nat} {bs:List Value} {W W':World} (h:IsB B b bs W) {row:Option Nat} (hg:W.grownBy W' row) (hr:∀ r,row=some r → r < B ∨ ∃ o:Obj,W.heap[r]? = some o ∧ o.isCells=false):IsB B b bs W':=by
 have key:∀ p,Lib.BuilderAtF 81 5 B b p bs W → Lib.BuilderAtF 81 5 B b p bs W':=by
  rintro p ⟨hB,v,hb,hown,hne⟩
  refine ⟨hB,v,(hg.block b (Array.getElem?_eq_some_iff.1 hb).1 ?_).trans hb,hown.kept hg ?_,hne⟩
  ·intro e
   rcases hr b e.symm with h1 | ⟨o,ho,hc⟩
   ·omega
   ·rw [hb] at ho
    cases ho
    cases hc
  ·by_cases hv:v.ownBlock=none
   ·exact .inl hv
   ·right
    intro e
    obtain ⟨g,hvg⟩:∃ g,v.ownBlock=some g:=by
     cases hq:v.ownBlock with
     | none=>exact absurd hq hv
     | some g=>exact ⟨g,rfl⟩
    rcases hr g (by rw [← e,hvg]) with h1 | ⟨o,ho,hc⟩
    ·have:=(hown.lt g hvg).1
     omega
    ·rcases hown.2 with ⟨rfl,_⟩ | ⟨g',cap,cur,fz,rfl,_,hgc,_⟩
     ·simp [Value.ownBlock] at hvg
     ·simp [Value.ownBlock] at hvg
      subst hvg
      rw [hgc] at ho
      cases ho
      cases hc
 rcases h with h | h
 ·exact .inl (key _ h)
 ·exact .inr (key _ h)
theorem isB_set {B b:Nat} {bs:List Value} {W:World} (h:IsB B b bs W) {k:Nat} {cs:Array Value} {t:TypeId} (hk:Blk W k cs t) (hkb:k ≠ b) (ht:t ≠ 5) (i:Nat) (u:Value):IsB B b bs (W.setCell ⟨k,i,none⟩ u):=by
 have hg:=grown_set W k i u
 have key:∀ p,Lib.BuilderAtF 81 5 B b p bs W → Lib.BuilderAtF 81 5 B b p bs (W.setCell ⟨k,i,none⟩ u):=by
  rintro p ⟨hB,v,hb,hown,hne⟩
  refine ⟨hB,v,(hg.block b (Array.getElem?_eq_some_iff.1 hb).1 (fun e=>hkb (by cases e; rfl))).trans hb,hown.kept hg ?_,hne⟩
  by_cases hv:v.ownBlock=none
  ·exact .inl hv
  ·right
   intro e
   rcases hown.2 with ⟨rfl,_⟩ | ⟨g',cap,cur,fz,rfl,_,hgc,_⟩
   ·exact hv rfl
   ·simp [Value.ownBlock] at e
    subst e
    have hk':W.heap[g']? = some (.cells cs t (0,0)):=hk
    rw [hgc] at hk'
    cases hk'
    exact ht rfl
 rcases h with h | h
 ·exact .inl (key _ h)
 ·exact .inr (key _ h)
theorem others_blk {b:Nat} {W W':World} (h:Lib.OthersKept 5 (some b) W W') {k:Nat} {cs:Array Value} {t:TypeId} (hk:Blk W k cs t) (hkb:k ≠ b) (ht:t ≠ 5):Blk W' k cs t:=
 h k _ hk (fun e=>hkb (by cases e; rfl)) (fun c fz e=>by cases e; exact ht rfl)
theorem others_from {b B:Nat} {W W':World} (h:Lib.OthersKept 5 (some b) W W') (hz:W.heap.size ≤ W'.heap.size) {B':Nat} {bs:List Value} (hI:IsB B' b bs W):KeepsFrom B W W':=by
 obtain ⟨c,t,z,hb⟩:∃ c t z,W.heap[b]? = some (.cells c t z):=by
  rcases hI with ⟨_,v,hb,_⟩ | ⟨_,v,hb,_⟩
  ·exact ⟨_,_,_,hb⟩
  ·exact ⟨_,_,_,hb⟩
 refine ⟨hz,fun k o _ hk ho=>h k o hk (fun e=>?_) (fun c fz e=>?_)⟩
 ·cases e
  rw [hb] at hk
  cases hk
  cases ho
 ·subst e
  cases ho
end Go.Proofs.YtfckekaegjjmkaaGreatDoor
namespace Go.Proofs.YtfckekaegjjmkaaGreatDoor
open Go.RowKit Go.Shelf

def unqL:Nat → List UInt8 → Except Bool (List UInt8 × List UInt8)
 | 0,_=>.error false
 | f + 1,l=>match nextL l with
  | .error b=>.error b
  | .ok (none,r)=>.ok ([],r)
  | .ok (some x,r)=>match unqL f r with
   | .error b=>.error b
   | .ok (t,r')=>.ok (Lib.encodeRune x ++ t,r')
def unquoteL (l:List UInt8):Except Bool (List UInt8 × List UInt8):=
 if l=[] then .error false else if Lib.decodeL l=(65533,1) then .error true else if (Lib.decodeL l).1 ≠ 34 then .error false else unqL l.length (l.drop (Lib.decodeL l).2)
def partBytes:List Part → List UInt8
 | []=>[]
 | .ok x :: xs=>Lib.encodeRune x ++ partBytes xs
 | .error _ :: xs=>partBytes xs

theorem unqL_error {f:Nat} {l:List UInt8} {b:Bool} (h:nextL l=.error b):unqL (f + 1) l=.error b:=by
 show (match nextL l with | .error b=>_ | .ok (none,r)=>_ | .ok (some x,r)=>_)=_
 rw [h]
theorem unqL_end {f:Nat} {l r:List UInt8} (h:nextL l=.ok (none,r)):unqL (f + 1) l=.ok ([],r):=by
 show (match nextL l with | .error b=>_ | .ok (none,r)=>_ | .ok (some x,r)=>_)=_
 rw [h]
theorem unqL_part {f:Nat} {l r t r':List UInt8} {x:Nat} (h:nextL l=.ok (some x,r)) (hr:unqL f r=.ok (t,r')):unqL (f + 1) l=.ok (Lib.encodeRune x ++ t,r'):=by
 show (match nextL l with | .error b=>_ | .ok (none,r)=>_ | .ok (some x,r)=>_)=_
 rw [h]
 show (match unqL f r with | .error b=>_ | .ok (t,r')=>_)=_
 rw [hr]
theorem unqL_parte {f:Nat} {l r:List UInt8} {x:Nat} {b:Bool} (h:nextL l=.ok (some x,r)) (hr:unqL f r=.error b):unqL (f + 1) l=.error b:=by
 show (match nextL l with | .error b=>_ | .ok (none,r)=>_ | .ok (some x,r)=>_)=_
 rw [h]
 show (match unqL f r with | .error b=>_ | .ok (t,r')=>_)=_
 rw [hr]
theorem Steps.unq_end:∀ {xs:List Part} {l0 l r:List UInt8} {f:Nat},Steps l0 xs l → nextL l=.ok (none,r) → l0.length < f → unqL f l0=.ok (partBytes xs,r)
 | [],l0,l,r,f,h,hn,hf=>by
  cases h
  obtain ⟨f,rfl⟩:∃ g,f=g + 1:=⟨f - 1,by omega⟩
  exact unqL_end hn
 | .ok x :: xs,l0,l,r,f,⟨m,hm,h⟩,hn,hf=>by
  obtain ⟨f,rfl⟩:∃ g,f=g + 1:=⟨f - 1,by omega⟩
  have hs:=nextL_shorter hm
  exact unqL_part hm (h.unq_end hn (by omega))
 | .error _ :: _,_,_,_,_,h,_,_=>h.elim
theorem Steps.unq_error:∀ {xs:List Part} {l0 l:List UInt8} {b:Bool} {f:Nat},Steps l0 xs l → nextL l=.error b → l0.length < f → unqL f l0=.error b
 | [],l0,l,b,f,h,hn,hf=>by
  cases h
  obtain ⟨f,rfl⟩:∃ g,f=g + 1:=⟨f - 1,by omega⟩
  exact unqL_error hn
 | .ok x :: xs,l0,l,b,f,⟨m,hm,h⟩,hn,hf=>by
  obtain ⟨f,rfl⟩:∃ g,f=g + 1:=⟨f - 1,by omega⟩
  have hs:=nextL_shorter hm
  exact unqL_parte hm (h.unq_error hn (by omega))
 | .error _ :: _,_,_,_,_,h,_,_=>h.elim
theorem Steps.ok:∀ {xs:List Part} {l0 l:List UInt8},Steps l0 xs l → ∀ b,.error b ∉ xs
 | [],_,_,_=>by simp
 | .ok x :: xs,l0,l,⟨m,hm,h⟩=>by
  intro b hb
  rcases List.mem_cons.1 hb with h1 | h1
  ·cases h1
  ·exact h.ok b h1
 | .error _ :: _,_,_,h=>h.elim
theorem partBytes_snoc (x:Nat):∀ xs:List Part,partBytes (xs ++ [.ok x])=partBytes xs ++ Lib.encodeRune x
 | []=>by simp [partBytes]
 | .ok y :: xs=>by
  show Lib.encodeRune y ++ partBytes (xs ++ [.ok x])=Lib.encodeRune y ++ partBytes xs ++ Lib.encodeRune x
  rw [partBytes_snoc x xs,List.append_assoc]
 | .error b :: xs=>partBytes_snoc x xs
theorem encodeRune_len (x:Int):(Lib.encodeRune x).length ≤ 4:=by
 have:=Lib.encodeRuneZ_length x
 simpa [Lib.encodeRune] using this.2
theorem partBytes_len:∀ xs:List Part,(partBytes xs).length ≤ 4 * xs.length
 | []=>by simp [partBytes]
 | .ok y :: xs=>by
  have h1:=partBytes_len xs
  have h2:=encodeRune_len y
  show (Lib.encodeRune y ++ partBytes xs).length ≤ _
  simp
  omega
 | .error b :: xs=>by
  have h1:=partBytes_len xs
  show (partBytes xs).length ≤ _
  simp
  omega

end Go.Proofs.YtfckekaegjjmkaaGreatDoor
namespace Go.Proofs.YtfckekaegjjmkaaGreatDoor
open Go.RowKit Go.Shelf
attribute [local go_sem] Oper.semAt_some wide_fn wide_depth

def UnqPost (s:ByteArray) (w:World) (e:Ending) (w':World):Prop:=
 Below w.heap.size w w' ∧ match unquoteL s.data.toList with
  | .error b=>e=.returned (.tuple #[.string ⟨#[]⟩,.string s,.int .i64 (if b then 20 else 21)])
  | .ok (t,r)=>e=.returned (.tuple #[.string ⟨t.toArray⟩,.string ⟨r.toArray⟩,.int .i64 0])

theorem built_left (s:ByteArray) (w:World):(Instr.build 221 #[(0,.string s)]).run Tryz.prog w=.ok (.agg #[.string s]) w:=run_build w _ _ _ (by kernel_rfl)
theorem built_reader (s:ByteArray) (w:World):(Instr.build 223 #[(0,.agg #[.string s])]).run Tryz.prog w=.ok (.agg #[.string s]) w:=run_build w _ _ _ (by kernel_rfl)

set_option maxHeartbeats 4000000 in
set_option maxRecDepth 100000 in
theorem utf_Unquote_no {aT aQ:Addr} (s:ByteArray) (w:World) (h:UW w aT aQ) (b:Bool)
  (hf:firstV aT aQ s=.tuple #[.int .i32 0,.int .i64 0,errV (if b then aT else aQ)]) :
  Calls Tryz.prog 150 #[.string s] w fun e w'=>e=.returned (.tuple #[.string ⟨#[]⟩,.string s,.int .i64 (if b then 20 else 21)]) ∧ Below w.heap.size w w':=by
 have hU0:UWB w.heap.size (w.alloc (.cells #[.string s] 223)) aT aQ:=(UWB.of h).to ((Below.refl _ w).alloc (Nat.le_refl _) _)
 have hp0:Rd (w.alloc (.cells #[.string s] 223)) w.heap.size s:=Blk.new _ _ _
 have HF:=Lib.hid (utf_first s w.heap.size _ hU0.uw hp0)
 rw [hf] at HF
 have hb0:Below w.heap.size w (w.alloc (.cells #[.string s] 223)):=(Below.refl _ w).alloc (Nat.le_refl _) _
 have k1:=built_left s
 have k2:=built_reader s
 clear hf
 refine calls_of_marks Tryz.func150 rfl ?_
 simp only [Tryz.ntmps150,List.size_toArray,List.length_cons,List.length_nil,Nat.reduceAdd,Nat.reduceSub,Array.replicate_succ,Array.replicate_zero,List.push_toArray,List.append_toArray,List.nil_append,List.cons_append]
 go_wp2_with fail
 go_step3
 go_wp2_with fail
 refine HF.out.mono ?_
 rintro e w1 ⟨rfl,hb1⟩
 have hU1:UWB w.heap.size w1 aT aQ:=hU0.to (hb1.mono (by simp))
 have hb01:=hb0.trans (hb1.mono (by simp))
 clear hb0 hb1 hU0 hp0 HF h
 have hb2:∀ o,Below w.heap.size w (w1.alloc o):=fun o=>hb01.alloc hU1.le _
 cases b with
 | true =>
  have HT:=Lib.hid (fun o=>told_text (w1.alloc o) (hU1.uw.below ((Below.refl _ w1).alloc (Nat.le_refl _) o)))
  simp only [if_true]
  go_wp2_with fail
  refine (HT.out _).mono ?_
  rintro e w2 ⟨rfl,rfl⟩
  go_wp2_with fail
  rw [Exit.noGoto_ret]
  exact leave0 (v:=.tuple #[.string ⟨#[]⟩,.string s,.int .i64 20]) (by simp [results,Tryz.results150,go_sem]) rfl ⟨rfl,hb2 _⟩
 | false =>
  have HT:=Lib.hid (fun o=>told_quote (w1.alloc o) (hU1.uw.below ((Below.refl _ w1).alloc (Nat.le_refl _) o)))
  simp only [Bool.false_eq_true,if_false]
  go_wp2_with fail
  refine (HT.out _).mono ?_
  rintro e w2 ⟨rfl,rfl⟩
  go_wp2_with fail
  rw [Exit.noGoto_ret]
  exact leave0 (v:=.tuple #[.string ⟨#[]⟩,.string s,.int .i64 21]) (by simp [results,Tryz.results150,go_sem]) rfl ⟨rfl,hb2 _⟩

set_option maxHeartbeats 4000000 in
set_option maxRecDepth 100000 in
theorem utf_Unquote_else {aT aQ:Addr} (s:ByteArray) (w:World) (h:UW w aT aQ) (c k:Nat) (hc:c ≠ 34)
  (hf:firstV aT aQ s=.tuple #[.int .i32 c,.int .i64 k,.nilIface]) :
  Calls Tryz.prog 150 #[.string s] w fun e w'=>e=.returned (.tuple #[.string ⟨#[]⟩,.string s,.int .i64 21]) ∧ Below w.heap.size w w':=by
 have hU0:UWB w.heap.size (w.alloc (.cells #[.string s] 223)) aT aQ:=(UWB.of h).to ((Below.refl _ w).alloc (Nat.le_refl _) _)
 have hp0:Rd (w.alloc (.cells #[.string s] 223)) w.heap.size s:=Blk.new _ _ _
 have HF:=Lib.hid (utf_first s w.heap.size _ hU0.uw hp0)
 rw [hf] at HF
 have hb0:Below w.heap.size w (w.alloc (.cells #[.string s] 223)):=(Below.refl _ w).alloc (Nat.le_refl _) _
 have k1:=built_left s
 have k2:=built_reader s
 have hc2:((c:Int) != 34)=true:=by rw [bne_iff_ne]; omega
 clear hf hc
 refine calls_of_marks Tryz.func150 rfl ?_
 simp only [Tryz.ntmps150,List.size_toArray,List.length_cons,List.length_nil,Nat.reduceAdd,Nat.reduceSub,Array.replicate_succ,Array.replicate_zero,List.push_toArray,List.append_toArray,List.nil_append,List.cons_append]
 go_wp2_with fail
 go_step3
 go_wp2_with fail
 refine HF.out.mono ?_
 rintro e w1 ⟨rfl,hb1⟩
 have hU1:UWB w.heap.size w1 aT aQ:=hU0.to (hb1.mono (by simp))
 have hb01:=hb0.trans (hb1.mono (by simp))
 clear hb0 hb1 hU0 hp0 HF h
 have hQ:∀ o,(w1.alloc o).cell? ⟨3,0,none⟩=some (errV aQ):=fun o=>(hU1.uw.below ((Below.refl _ w1).alloc (Nat.le_refl _) o)).hQ
 have hb2:∀ o,Below w.heap.size w (w1.alloc o):=fun o=>hb01.alloc hU1.le _
 have HT:=Lib.hid (fun o=>told_quote (w1.alloc o) (hU1.uw.below ((Below.refl _ w1).alloc (Nat.le_refl _) o)))
 go_wp2_with fail
 refine (HT.out _).mono ?_
 rintro e w2 ⟨rfl,rfl⟩
 go_wp2_with fail
 rw [Exit.noGoto_ret]
 exact leave0 (v:=.tuple #[.string ⟨#[]⟩,.string s,.int .i64 21]) (by simp [results,Tryz.results150,go_sem]) rfl ⟨rfl,hb2 _⟩
end Go.Proofs.YtfckekaegjjmkaaGreatDoor
