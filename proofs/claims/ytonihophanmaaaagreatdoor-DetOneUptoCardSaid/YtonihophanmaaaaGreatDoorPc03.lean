/- The texts TreeD, DsC, DsD, Dig, Str, Spec, RefB, Num, Fit, put together. -/
import Derived.Test.YtonihophanmaaaaGreatDoorPc02
import Derived.Test.YtonihophanmaaaaGreatDoorPc01
import Derived.Sort.Walk0
import Derived.Lib.SmallJoins
import Derived.Lib.Strings
import Derived.Lib.AtoiAll
import Derived.Lib.ItoaNum
import Derived.Lib.ValidU
set_option maxHeartbeats 4000000
set_option maxRecDepth 100000
namespace Go.Proofs.YtonihophanmaaaaGreatDoor
open Go.RowKit Go.Shelf
mutual
theorem zd8:∀ (d:Nat) (t:Tr),(qb d t).count≤t.count
 | 0,t=>by
  rw [Tr.count_eq,Tr.count_eq t]
  show 1+zm []≤_
  rw [zm]
  omega
 | d+1,.nd o l=>by
  rw [Tr.count_eq,Tr.count_eq (.nd o l)]
  show 1+zm ((l.take 40).map (qb d))≤1+zm l
  have a:=zcX d (l.take 40)
  have b:=vN l 40
  omega
theorem zcX:∀ (d:Nat) (l:List Tr),zm (l.map (qb d))≤zm l
 | _,[]=>by simp
 | d,t::l=>by
  show (qb d t).count+zm (l.map (qb d))≤t.count+zm l
  have a:=zd8 d t
  have b:=zcX d l
  omega
end
def yD (t:Tr):Tr:=if 400<(qb 17 t).count then .nd (wP t.own) [] else qb 17 t
theorem zfD (t:Tr):(yD t).own=wP t.own:=by
 unfold yD
 split
 ·rfl
 ·exact zck 17 t
theorem zjy (t:Tr):(yD t).count≤400:=by
 unfold yD
 split
 ·rw [Tr.count_eq]
  show 1+zm []≤400
  rw [zm]
  omega
 ·omega
theorem zB {W:World} {p:Nat} {b:Array Value} {t:TypeId} (h:Blk W p b t) (a:Array Value):Blk (W.setRow p a) p a t:=setRow_heap _ _ _ _ _ _ h
theorem zH {W:World} {p q:Nat} {a:Array Value} {t:TypeId} (h:Blk W q a t) (c:q≠p) (b:Array Value):Blk (W.setRow p b) q a t:=(setRow_other _ _ _ _ c).trans h
theorem zx (w:World) (p:Nat) (a:Array Value):w.grownBy (w.setRow p a) (some p):=
 ⟨rfl,rfl,rfl,by simp,fun k _ b=>setRow_other _ _ _ _ (fun e=>b (by rw [e]))⟩
theorem zll (t:Tr) (x:Value) (w:World) (B D:Nat) (hl:zq w B D t.kids x) (ho:zt t.own) (hB:B≤w.heap.size) (hc:t.count≤1000000000) :
  Calls Tryz.prog 14 #[ze t.own x] w fun e w'=>(∃ y,e=.returned (ze (yD t).own y)∧LAt w' (fun q=>w.heap.size≤q∧q<w'.heap.size) 17 (yD t).kids y)∧Below w.heap.size w w':=by
 have z:=qa w (zf t.own x) (zf ⟨0,false,false,⟨#[]⟩,0,0,0,⟨#[]⟩⟩ (.slice none 0 0)) 28 28
 have m:=zmP 17 (by omega) t x _ B D (hl.below z.1 hB) ho (Nat.le_trans hB z.1.size)
 have av:(qb 17 t).count≤1000000000:=Nat.le_trans (zd8 17 t) hc
 have G:=Lib.hid (fun y (w':World) (B:Nat) (h:LAt w' (fun q=>q<B) 17 (qb 17 t).kids y) (hB:B≤w'.heap.size)=>zki 17 (qb 17 t) y w' B h hB (by omega))
 rw [zck]at G
 rw [zfD]
 have W:(yD t).kids=if 400<(qb 17 t).count then [] else (qb 17 t).kids:=by
  unfold yD
  split <;> rfl
 rw [W]
 obtain ⟨cl,ag⟩:∃ cl,(qb 17 t).kids=cl:=⟨_,rfl⟩
 obtain ⟨cn,ah⟩:∃ cn,(qb 17 t).count=cn:=⟨_,rfl⟩
 rw [ag]at m G ⊢
 rw [ah]at G av ⊢
 obtain ⟨fl,X⟩:∃ fl,(if 400<cn then [] else cl)=fl:=⟨_,rfl⟩
 rw [X]
 have ae:=Lib.hid X
 clear X
 obtain ⟨o2,al⟩:∃ o2,wP t.own=o2:=⟨_,rfl⟩
 rw [al]at m G ⊢
 obtain ⟨a,b2,d,f,g,k,i,j⟩:=o2
 obtain ⟨⟨kind,b,neg,dg,ex,u,wd,s⟩,ak⟩:∃ o,t.own=o:=⟨_,rfl⟩
 rw [ak]at m z ⊢
 unfold zf at z m
 unfold ze at m G ⊢
 simp only []at m G z ⊢
 have m:=Lib.hid m
 obtain ⟨h1,h2,h3⟩:=z
 have H1:=Lib.hid h1
 have H2:=Lib.hid h2
 have H3:=Lib.hid h3
 clear hl ho hc W al ak h1 h2 h3 ag ah
 go_enter Tryz.func14,Tryz.ntmps14
 go_wp2_with fail
 refine m.out.mono ?_
 rintro e p ⟨⟨y,rfl,P⟩,l⟩
 obtain ⟨_,A,c,rfl⟩:=P.slice
 obtain ⟨n,hn⟩:∃ n,cl.length=n:=⟨_,rfl⟩
 rw [hn]at P ⊢
 have hz:=l.size
 simp only [World.size_alloc]at hz
 have V:=H1.out.trans (l.mono H1.out.size)
 have Y:=H2.out.below l H2.out.lt
 have ai:=H3.out.below l H3.out.lt
 have aa:LAt p (fun q=>w.heap.size+2≤q∧q<p.heap.size) 17 cl (.slice A n c):=P.mono (fun q N=>by
  have:=N.1
  simp only [World.size_alloc]at this
  exact ⟨by omega,N.2⟩)
 clear H1 H2 H3 m l P
 have K:Below w.heap.size w (p.setRow w.heap.size #[.int .i64 a,.bool b2,.bool d,.string f,.int .i64 g,.int .u64 k,.int .i64 i,.string j,.slice A n c]):=V.grown (zx p w.heap.size _) V.size (fun q e=>by cases e; exact Nat.le_refl _)
 have aj:=zB Y #[.int .i64 a,.bool b2,.bool d,.string f,.int .i64 g,.int .u64 k,.int .i64 i,.string j,.slice A n c]
 have Z:=zH ai (by omega:w.heap.size+1≠w.heap.size) #[.int .i64 a,.bool b2,.bool d,.string f,.int .i64 g,.int .u64 k,.int .i64 i,.string j,.slice A n c]
 have L:LAt (p.setRow w.heap.size #[.int .i64 a,.bool b2,.bool d,.string f,.int .i64 g,.int .u64 k,.int .i64 i,.string j,.slice A n c]) (fun q=>w.heap.size+2≤q∧q<p.heap.size) 17 cl (.slice A n c):=aa.keep (fun q N=>setRow_other _ _ _ _ (by omega))
 have aB:(p.setRow w.heap.size #[.int .i64 a,.bool b2,.bool d,.string f,.int .i64 g,.int .u64 k,.int .i64 i,.string j,.slice A n c]).heap.size=p.heap.size:=setRow_size _ _ _
 have af:=Lib.hid Y
 clear ai aa V Y
 have O:=Lib.hid aj
 clear aj
 go_wp2_with (first | (refine wpList_store_row rfl 28 (.tmp 1) (.tmp 4) rfl w.heap.size #[.int .i64 a,.bool b2,.bool d,.string f,.int .i64 g,.int .u64 k,.int .i64 i,.string j,.slice A n c] rfl rfl 28 _ af.out (by kernel_rfl) rfl (by simp [Value.oneCell']) ?_) | (refine wpList_load_row rfl 28 (.tmp 1) rfl w.heap.size rfl 28 _ (0,0) _ O.out Tryz.underlying28 rfl (by kernel_rfl) ?_))
 clear af
 generalize p.setRow w.heap.size #[.int .i64 a,.bool b2,.bool d,.string f,.int .i64 g,.int .u64 k,.int .i64 i,.string j,.slice A n c]=w2 at *
 refine (G.out _ w2 w2.heap.size (L.mono (fun q N=>by omega)) (Nat.le_refl _)).mono ?_
 rintro e r ⟨rfl,l⟩
 have aC:=l.size
 have F:=K.trans (l.mono K.size)
 have C:=O.out.below l O.out.lt
 have I:=Z.below l Z.lt
 have M:LAt r (fun q=>w.heap.size+2≤q∧q<p.heap.size) 17 cl (.slice A n c):=L.keep (fun q N=>l.block q (by omega))
 clear l L Z O K G
 by_cases E:400<cn
 ·obtain rfl:[]=fl:=by rw [← ae.out,if_pos E]
  have y1:(400:Int)<cn:=by omega
  have f8:=C.frozen 8
  have k8:=C.cell 8
  have am:Blk (r.setCell ⟨w.heap.size,8,none⟩ (.slice none 0 0)) w.heap.size #[.int .i64 a,.bool b2,.bool d,.string f,.int .i64 g,.int .u64 k,.int .i64 i,.string j,.slice none 0 0] 28:=C.set 8 _
  have ac:Blk (r.setCell ⟨w.heap.size,8,none⟩ (.slice none 0 0)) (w.heap.size+1) _ 28:=zak I (Below.heap_setCell r ⟨w.heap.size,8,none⟩ _ _ (fun e=>by have e:w.heap.size+1=w.heap.size:=e; omega))
  have U:Below w.heap.size w (r.setCell ⟨w.heap.size,8,none⟩ (.slice none 0 0)):=F.grown (qq r w.heap.size 8 _) F.size (fun q e=>by cases e; exact Nat.le_refl _)
  have J:=zB ac #[.int .i64 a,.bool b2,.bool d,.string f,.int .i64 g,.int .u64 k,.int .i64 i,.string j,.slice none 0 0]
  have H:Below w.heap.size w ((r.setCell ⟨w.heap.size,8,none⟩ (.slice none 0 0)).setRow (w.heap.size+1) #[.int .i64 a,.bool b2,.bool d,.string f,.int .i64 g,.int .u64 k,.int .i64 i,.string j,.slice none 0 0]):=U.grown (zx _ (w.heap.size+1) _) U.size (fun q e=>by cases e; omega)
  have R:=Lib.hid am
  have S:=Lib.hid ac
  have T:=Lib.hid J
  have Q:=Lib.hid H
  clear am ac U J H M E C I
  go_wp2_with (first | (refine wpList_load_row rfl 28 (.tmp 1) rfl w.heap.size rfl 28 _ (0,0) _ R.out Tryz.underlying28 rfl (by kernel_rfl) ?_) | (refine wpList_store_row rfl 28 (.tmp 2) (.tmp 9) rfl (w.heap.size+1) #[.int .i64 a,.bool b2,.bool d,.string f,.int .i64 g,.int .u64 k,.int .i64 i,.string j,.slice none 0 0] rfl rfl 28 _ S.out (by kernel_rfl) rfl (by simp [Value.oneCell']) ?_))
  refine bodyPost_ret (v:=.agg #[.int .i64 a,.bool b2,.bool d,.string f,.int .i64 g,.int .u64 k,.int .i64 i,.string j,.slice none 0 0]) (results_cell_row rfl _ _ (w.heap.size+1) 28 _ (0,0) _ rfl T.out Tryz.underlying28 rfl (by kernel_rfl)) rfl ?_
  exact ⟨⟨_,rfl,LAt.nil _ _ _ _ _⟩,Q.out⟩
 ·obtain rfl:cl=fl:=by rw [← ae.out,if_neg E]
  have y1:¬ (400:Int)<cn:=by omega
  have J:=zB I #[.int .i64 a,.bool b2,.bool d,.string f,.int .i64 g,.int .u64 k,.int .i64 i,.string j,.slice A n c]
  have H:Below w.heap.size w (r.setRow (w.heap.size+1) #[.int .i64 a,.bool b2,.bool d,.string f,.int .i64 g,.int .u64 k,.int .i64 i,.string j,.slice A n c]):=F.grown (zx _ (w.heap.size+1) _) F.size (fun q e=>by cases e; omega)
  have ab:LAt (r.setRow (w.heap.size+1) #[.int .i64 a,.bool b2,.bool d,.string f,.int .i64 g,.int .u64 k,.int .i64 i,.string j,.slice A n c]) (fun q=>w.heap.size≤q∧q<(r.setRow (w.heap.size+1) #[.int .i64 a,.bool b2,.bool d,.string f,.int .i64 g,.int .u64 k,.int .i64 i,.string j,.slice A n c]).heap.size) 17 cl (.slice A n c):=(M.keep (fun q N=>setRow_other _ _ _ _ (by omega))).mono (fun q N=>⟨by omega,by rw [setRow_size]; omega⟩)
  have R:=Lib.hid C
  have S:=Lib.hid I
  have T:=Lib.hid J
  have Q:=Lib.hid H
  have aq:=Lib.hid ab
  clear J H M E C I ab
  go_wp2_with (first | (refine wpList_load_row rfl 28 (.tmp 1) rfl w.heap.size rfl 28 _ (0,0) _ R.out Tryz.underlying28 rfl (by kernel_rfl) ?_) | (refine wpList_store_row rfl 28 (.tmp 2) (.tmp 9) rfl (w.heap.size+1) #[.int .i64 a,.bool b2,.bool d,.string f,.int .i64 g,.int .u64 k,.int .i64 i,.string j,.slice A n c] rfl rfl 28 _ S.out (by kernel_rfl) rfl (by simp [Value.oneCell']) ?_))
  refine bodyPost_ret (v:=.agg #[.int .i64 a,.bool b2,.bool d,.string f,.int .i64 g,.int .u64 k,.int .i64 i,.string j,.slice A n c]) (results_cell_row rfl _ _ (w.heap.size+1) 28 _ (0,0) _ rfl T.out Tryz.underlying28 rfl (by kernel_rfl)) rfl ?_
  exact ⟨⟨_,rfl,aq.out⟩,Q.out⟩
def zdG (x y:ByteArray):Int:=if Op.bytesLess x.toList y.toList=true then -1 else if (x.toList == y.toList)=true then 0 else 1
theorem zd7 (x:ByteArray) (w:World):Calls Tryz.prog 195 #[.string x] w fun e a=>e=.returned (.bool false)∧a=w:=by
 go_enter Tryz.func195,Tryz.ntmps195
 go_wp2_with fail
 go_ret
 exact ⟨by simp,rfl⟩
theorem zgU (x y:ByteArray) (w:World):Calls Tryz.prog 137 #[.string x,.string y] w fun e g=>e=.returned (.int .i64 (zdG x y))∧g=w:=by
 have a:=Lib.hid (zd7 x)
 have d:=Lib.hid (zd7 y)
 unfold zdG
 obtain ⟨b,f⟩:∃ b,Op.bytesLess x.toList y.toList=b:=⟨_,rfl⟩
 obtain ⟨c,hc⟩:∃ c,(x.toList == y.toList)=c:=⟨_,rfl⟩
 rw [f,hc]
 go_enter Tryz.func137,Tryz.ntmps137
 go_wp2_with fail
 refine (a.out _).mono ?_
 rintro e h ⟨rfl,rfl⟩
 go_wp2_with fail
 refine (d.out _).mono ?_
 rintro e h ⟨rfl,rfl⟩
 clear a d
 cases b <;> cases c <;> (go_wp2_with fail; go_ret; exact ⟨by simp,rfl⟩)
structure ze1 where
 k:Own
 kA:Option Addr
 kn:Nat
 kc:Nat
 it:ByteArray
 h:Own
 hA:Option Addr
 hn:Nat
 hc:Nat
def yC (p:ze1):List Value:=zp p.k (.slice p.kA p.kn p.kc)++(.string p.it::zp p.h (.slice p.hA p.hn p.hc))
theorem zk5 (p:ze1):∀ v∈yC p,v.oneCell'=true:=by
 intro v a
 simp only [yC,zp,List.cons_append,List.nil_append,List.mem_cons,List.not_mem_nil,or_false]at a
 rcases a with rfl|rfl|rfl|rfl|rfl|rfl|rfl|rfl|rfl|rfl|rfl|rfl|rfl|rfl|rfl|rfl|rfl|rfl|rfl <;> simp [Value.oneCell']
theorem zge (p q:ze1) (w:World):Calls Tryz.prog 95 #[.agg (yC p).toArray,.agg (yC q).toArray] w fun e d=>e=.returned (.int .i64 (zdG p.it q.it))∧d=(w.alloc (.cells (yC p).toArray 124)).alloc (.cells (yC q).toArray 124):=by
 obtain ⟨⟨N,O,P,Q,R,S,T,U⟩,kA,kn,kc,it,⟨F,G,H,I,J,K,L,M⟩,hA,hn,hc⟩:=p
 obtain ⟨⟨t,u,v,x,y,z,A,B⟩,C,E,D,a,⟨f,g,h,i,j,k,l,m⟩,n,s,o⟩:=q
 have b:=Lib.hid (zgU it a)
 unfold yC zp
 simp only [List.cons_append,List.nil_append]
 obtain ⟨r,c⟩:∃ r,zdG it a=r:=⟨_,rfl⟩
 rw [c]at b ⊢
 clear c
 go_enter Tryz.func95,Tryz.ntmps95
 go_wp2_with fail
 refine (b.out _).mono ?_
 rintro e V ⟨rfl,rfl⟩
 go_wp2_with fail
 go_ret
 exact ⟨rfl,rfl⟩
def zy (b:UInt8):Bool:=decide (48≤b.toNat) && decide (b.toNat≤57)
def zK:Nat→List UInt8→Nat
 | acc,[]=>acc
 | acc,c::r=>zK (acc*10+(c.toNat - 48)) r
theorem zdI:∀ (l:List UInt8) (a:Nat),a≤zK a l
 | [],a=>Nat.le_refl _
 | c::r,a=>by
  have:=zdI r (a*10+(c.toNat - 48))
  show a≤zK (a*10+(c.toNat - 48)) r
  omega
theorem zbx:∀ (l:List UInt8) (a:Nat),a<18446744073709551616→(∀ c∈l,zy c=true)→Lib.parseUint10 a l=if zK a l<18446744073709551616 then .ok (zK a l) else .range
 | [],a,e,_=>by
  show Lib.NumEnd.ok a=_
  rw [if_pos (show zK a []<_ from e)]
  rfl
 | c::r,a,e,h=>by
  have hc:=h c List.mem_cons_self
  unfold zy at hc
  rw [Bool.and_eq_true,decide_eq_true_iff,decide_eq_true_iff]at hc
  have i:=zdI r (a*10+(c.toNat - 48))
  have f:zK a (c::r)=zK (a*10+(c.toNat - 48)) r:=rfl
  rw [f]
  unfold Lib.parseUint10
  rw [if_pos hc]
  by_cases b:1844674407370955162≤a
  ·rw [if_pos b,if_neg (by omega)]
  ·rw [if_neg b]
   by_cases d:18446744073709551616≤a*10+(c.toNat - 48)
   ·rw [if_pos d,if_neg (by omega)]
   ·rw [if_neg d]
    exact zbx r _ (by omega) (fun x g=>h x (List.mem_cons_of_mem _ g))
theorem kx:∀ (l:List UInt8) (a:Nat) (c:UInt8),zK a (l++[c])=zK a l*10+(c.toNat - 48)
 | [],_,_=>rfl
 | b::l,a,c=>kx l (a*10+(b.toNat - 48)) c
theorem vf (d:Nat) (h:d<10):(UInt8.ofNat (48+d)).toNat=48+d:=by
 rw [UInt8.toNat_ofNat']
 omega
theorem qg (u:Nat):zK 0 (Lib.decDigits u)=u∧(∀ c∈Lib.decDigits u,zy c=true)∧Lib.decDigits u≠[]:=by
 induction u using Nat.strongRecOn with
 | _ u d =>
  by_cases h:u<10
  ·rw [Lib.decDigits_one h]
   refine ⟨?_,?_,by simp⟩
   ·show 0*10+((UInt8.ofNat (48+u)).toNat - 48)=u
    rw [vf u h]
    omega
   ·intro c hc
    rw [List.mem_singleton.1 hc]
    unfold zy
    rw [vf u h,Bool.and_eq_true,decide_eq_true_iff,decide_eq_true_iff]
    omega
  ·obtain ⟨a,b,e⟩:=d (u / 10) (by omega)
   rw [Lib.decDigits,dif_neg h]
   refine ⟨?_,?_,by simp⟩
   ·rw [kx,a,vf _ (by omega)]
    omega
   ·intro c hc
    rcases List.mem_append.1 hc with q | q
    ·exact b c q
    ·rw [List.mem_singleton.1 q]
     unfold zy
     rw [vf _ (by omega),Bool.and_eq_true,decide_eq_true_iff,decide_eq_true_iff]
     omega
theorem yF {l t:List UInt8} (h:l≠[]):(l++t).head? = l.head? := by
 cases l with
 | nil=>exact absurd rfl h
 | cons c l=>rfl
theorem kj:∀ (n u:Nat),u≤n→0<u→(Lib.decDigits u).head?≠some 48
 | 0,u,a,b=>by omega
 | n+1,u,a,b=>by
  by_cases h:u<10
  ·rw [Lib.decDigits_one h,List.head?_cons]
   intro e
   have:=congrArg UInt8.toNat (Option.some.inj e)
   rw [vf u h]at this
   have c:(48:UInt8).toNat=48:=rfl
   omega
  ·rw [Lib.decDigits,dif_neg h,yF (qg (u / 10)).2.2]
   exact kj n (u / 10) (by omega) (by omega)
theorem zk2 (u:Nat) (h:1<(Lib.decDigits u).length):(Lib.decDigits u).head?≠some 48:=by
 refine kj u u (Nat.le_refl _) ?_
 rcases Nat.eq_zero_or_pos u with a | a
 ·subst a
  rw [Lib.decDigits_one (by omega)]at h
  simp at h
 ·exact a
theorem vP {n p:Nat} {w w':World} (h:w.grownBy w' (some p)) (hn:n≤p) (b:p<w.heap.size):Below n w w':=
 ⟨h.os,h.tape,h.output,h.size,fun k a=>h.block k (by omega) (fun e=>by cases e; omega)⟩
theorem below_grown {w a:World} (h:Below w.heap.size w a) (r:Option Nat):w.grownBy a r:=⟨h.os,h.tape,h.output,h.size,fun k b _=>h.block k b⟩
theorem zu {a b c:World} {r:Option Nat} (h:a.grownBy b r) (k:b.grownBy c r):a.grownBy c r:=
 ⟨k.os.trans h.os,k.tape.trans h.tape,k.output.trans h.output,Nat.le_trans h.size k.size,fun i d e=>(k.block i (Nat.lt_of_lt_of_le d h.size) e).trans (h.block i d e)⟩
theorem jm (w:World) (p i:Nat) (v:Value):w.grownBy (w.setCell ⟨p,i,none⟩ v) (some p):=
 ⟨rfl,rfl,rfl,by simp [World.setCell],fun k _ a=>Below.heap_setCell w ⟨p,i,none⟩ v k (fun e=>a (by rw [e]))⟩
theorem zbh (s:ByteArray) (k:Nat):(s.extract k s.size).data.toList=s.data.toList.drop k:=by
 rw [ByteArray.data_extract,Array.toList_extract]
 simp [List.extract]
 rw [List.take_of_length_le (by simp)]
theorem zae {s t:ByteArray} (h:s.data.toList=t.data.toList):s=t:=by
 apply ByteArray.ext
 exact Array.toList_inj.1 h
theorem wa {s:ByteArray} (h:s.size=0):s=⟨#[]⟩:=by
 apply ByteArray.ext
 apply Array.eq_empty_of_size_eq_zero
 exact h
theorem cell_below {w c:World} (d:Below w.heap.size w c) {b i:Nat} {v:Value} (h:w.cell? ⟨b,i,none⟩=some v):c.cell? ⟨b,i,none⟩=some v:=by
 have a:b<w.heap.size:=by
  apply Decidable.byContradiction
  intro hn
  have:w.heap[b]? = none:=Array.getElem?_eq_none (by omega)
  simp [World.cell?,this]at h
 rw [← h]
 simp only [World.cell?,d.block b a]
theorem yy {w a:World} (c:Below w.heap.size w a) {b:Nat} {o:Obj} (h:w.heap[b]? = some o):a.heap[b]? = some o:=
 (c.block b (Array.getElem?_eq_some_iff.1 h).1).trans h
theorem zeH {w a:World} {n:String} {cs:Array Value} (h:w.var? Tryz.prog n=some cs) (b:Below w.heap.size w a):a.var? Tryz.prog n=some cs:=by
 unfold World.var? at h ⊢
 cases hg:Tryz.prog.globalNamed n with
 | none=>rw [hg]at h; cases h
 | some g =>
  rw [hg]at h
  simp only [Option.bind_some]at h ⊢
  cases hh:w.heap[g]? with
  | none=>rw [hh]at h; cases h
  | some o=>rw [yy b hh]; rw [hh]at h; exact h
mutual
def Tr.depth:Tr→Nat
 | .nd _ l=>zW l+1
def zW:List Tr→Nat
 | []=>0
 | t::l=>max t.depth (zW l)
end
theorem Tr.depth_eq (t:Tr):t.depth=zW t.kids+1:=by
 cases t
 rw [Tr.depth]
 rfl
theorem zaT:∀ a b:List Tr,zW (a++b)=max (zW a) (zW b)
 | [],b=>by simp [zW]
 | t::a,b=>by
  show max t.depth (zW (a++b))=max (max t.depth (zW a)) (zW b)
  rw [zaT a b]
  omega
theorem zgV (l:List Tr) (k:Nat) (a:k<l.length):zW (l.take (k+1))=max (zW (l.take k)) l[k].depth:=by
 rw [List.take_succ_eq_append_getElem a,zaT]
 simp [zW]
mutual
theorem yB:∀ t:Tr,t.depth≤t.count
 | .nd _ l=>by
  rw [Tr.depth,Tr.count]
  have:=zba l
  omega
theorem zba:∀ l:List Tr,zW l≤zm l
 | []=>by simp [zW]
 | t::l=>by
  rw [zW,zm]
  have:=yB t
  have:=zba l
  omega
end
def zI (o x:Own):Bool:=decide (o={ x with kind:=o.kind })
def qR (s:ByteArray):Bool:=decide (1≤s.size) && (decide (s.size≤400) && (!(decide (1<s.size) && decide (s.data.toList.head? = some 48)) && s.data.toList.all zy))
theorem zfL (s:ByteArray) (h:0<s.size):s.data.toList.head? = some s[0]:=by
 rw [List.head?_eq_getElem?,List.getElem?_eq_getElem (by simpa using h)]
 simp [ByteArray.getElem_eq_getElem_data]
def qo (neg:Bool) (dg:ByteArray) (ex:Int):Bool:=
 qR dg && (decide (dg.size≤100) && (if dg.toList=[48] then decide (ex=0) && !neg else decide (-100≤ex) && (decide (ex≤100) && !decide (dg.data.toList.getLast? = some 48))))
def j5 (u:Int) (wd:Int):Bool:=if wd=64 then true else if wd=16 then decide (u<65536) else if wd=32 then decide (u<4294967296) else false
def kh (l:List Tr):Prop:=∀ (i k:Nat) (hi:i<l.length) (hk:k<i),i % 2=0→k % 2=0→j1 l[i] (l[k]'(by omega))=false
noncomputable def qP (l:List Tr):Bool:=@decide (kh l) (Classical.propDecidable _)
noncomputable def ownB (o:Own) (l:List Tr):Bool:=
 if o.kind=1 then decide (l.length=0) && zI o zv
 else if o.kind=2 then decide (l.length=0) && zI o { zv with b:=o.b }
 else if o.kind=3 then decide (l.length=0) && (zI o { zv with neg:=o.neg,dg:=o.dg,ex:=o.ex } && qo o.neg o.dg o.ex)
 else if o.kind=4 then decide (l.length=0) && (zI o { zv with u:=o.u,wd:=o.wd } && j5 o.u o.wd)
 else if o.kind=5 then decide (l.length=0) && (zI o { zv with s:=o.s } && (decide (o.s.size≤400) && Lib.validD o.s.data.toList))
 else if o.kind=6 then decide (l.length=0) && (zI o { zv with s:=o.s } && decide (o.s.size≤400))
 else if o.kind=7 then zI o zv
 else if o.kind=8 then zI o zv && (decide (l.length % 2=0) && qP l)
 else if o.kind=9 then decide (l.length=1) && zI o { zv with u:=o.u }
 else if o.kind=10 then decide (l.length=0) && (zI o { zv with u:=o.u } && (decide (o.u≤19) || (decide (o.u=23) || (decide (32≤o.u) && decide (o.u≤255)))))
 else if o.kind=11 then decide (l.length=0) && (zI o { zv with u:=o.u,s:=o.s } && (decide (o.u≤255) && decide (o.s.size≤400)))
 else false
mutual
noncomputable def jk:Tr→Bool
 | .nd o l=>ownB o l && jy l
noncomputable def jy:List Tr→Bool
 | []=>true
 | t::l=>jk t && jy l
end
theorem zms (t:Tr):jk t=(ownB t.own t.kids && jy t.kids):=by
 cases t
 rw [jk]
 rfl
noncomputable def xt (t:Tr):Bool:=decide (t.count≤300) && (decide (t.depth≤16) && jk t)
end Go.Proofs.YtonihophanmaaaaGreatDoor
namespace Go.Proofs.YtonihophanmaaaaGreatDoor
theorem kL {c:UInt8} (h:zy c=true):48≤c.toNat∧c.toNat≤57:=by
 simpa [zy] using h
theorem zht:∀ (l:List UInt8) (a:Nat),(∀ c∈l,zy c=true)→zK a l<(a+1)*10 ^ l.length
 | [],a,_=>by
  rw [List.length_nil,Nat.pow_zero,Nat.mul_one]
  exact Nat.lt_succ_self a
 | c::l,a,h=>by
  have hc:=kL (h c List.mem_cons_self)
  have:=zht l (a*10+(c.toNat - 48)) (fun x b=>h x (List.mem_cons_of_mem _ b))
  show zK (a*10+(c.toNat - 48)) l<_
  rw [List.length_cons,Nat.pow_succ,Nat.mul_comm (10 ^ _) 10,← Nat.mul_assoc]
  exact Nat.lt_of_lt_of_le this (Nat.mul_le_mul_right _ (by omega))
theorem zhs:∀ (l:List UInt8) (a:Nat),a*10 ^ l.length≤zK a l
 | [],a=>by
  rw [List.length_nil,Nat.pow_zero,Nat.mul_one]
  exact Nat.le_refl a
 | c::l,a=>by
  have:=zhs l (a*10+(c.toNat - 48))
  show _≤zK (a*10+(c.toNat - 48)) l
  rw [List.length_cons,Nat.pow_succ,Nat.mul_comm (10 ^ _) 10,← Nat.mul_assoc]
  exact Nat.le_trans (Nat.mul_le_mul_right _ (by omega)) this
end Go.Proofs.YtonihophanmaaaaGreatDoor
namespace Go.Proofs.YtonihophanmaaaaGreatDoor
open Go.RowKit Go.Shelf
def qX (dg:ByteArray) (ex:Int):Nat:=zK 0 dg.data.toList*10 ^ ex.toNat
def jv (neg:Bool) (dg:ByteArray) (ex:Int):Option (Bool×Nat):=
 if qo neg dg ex=true∧0≤ex∧ex≤20∧qX dg ex<18446744073709551616 then some (neg,qX dg ex) else none
theorem znh {c d:UInt8} (hc:zy c=true) (a:zy d=true) (h:c.toNat - 48=d.toNat - 48):c=d:=by
 have b:=kL hc
 have e:=kL a
 exact UInt8.toNat_inj.1 (by omega)
theorem zfx:∀ (n:Nat) (a b:List UInt8),a.length=n→b.length=n→(∀ c∈a,zy c=true)→(∀ c∈b,zy c=true)→zK 0 a=zK 0 b→a=b
 | 0,a,b,d,f,_,_,_=>by
  rw [List.eq_nil_of_length_eq_zero d,List.eq_nil_of_length_eq_zero f]
 | n+1,a,b,d,f,i,j,h=>by
  have g:a≠[]:=fun e=>by rw [e]at d; cases d
  have nb:b≠[]:=fun e=>by rw [e]at f; cases f
  have k:=List.dropLast_concat_getLast g
  have l:=List.dropLast_concat_getLast nb
  rw [← k,← l,kx,kx]at h
  have p:=kL (i _ (List.getLast_mem g))
  have q:=kL (j _ (List.getLast_mem nb))
  have m:a.dropLast=b.dropLast:=zfx n _ _ (by rw [List.length_dropLast]; omega) (by rw [List.length_dropLast]; omega) (fun c hc=>i c (List.dropLast_subset _ hc)) (fun c hc=>j c (List.dropLast_subset _ hc)) (by omega)
  have o:a.getLast g=b.getLast nb:=znh (i _ (List.getLast_mem g)) (j _ (List.getLast_mem nb)) (by omega)
  rw [← k,← l,m,o]
theorem xk {l:List UInt8} (f:l≠[]) (d:∀ c∈l,zy c=true) (a:l.head?≠some 48):10 ^ (l.length - 1)≤zK 0 l:=by
 cases l with
 | nil=>exact absurd rfl f
 | cons c r =>
  have hc:=kL (d c List.mem_cons_self)
  have g:c.toNat≠48:=fun e=>a (by rw [List.head?_cons,show c=48 from UInt8.toNat_inj.1 e])
  have b:=zhs r (0*10+(c.toNat - 48))
  show 10 ^ r.length≤zK (0*10+(c.toNat - 48)) r
  refine Nat.le_trans ?_ b
  have:1≤0*10+(c.toNat - 48):=by omega
  exact Nat.le_mul_of_pos_left _ this
theorem wG {l:List UInt8} (a:∀ c∈l,zy c=true):zK 0 l<10 ^ l.length:=by
 have:=zht l 0 a
 rwa [Nat.zero_add,Nat.one_mul]at this
theorem zeb {a b:List UInt8} (i:a≠[]) (j:b≠[]) (d:∀ c∈a,zy c=true) (f:∀ c∈b,zy c=true) (k:a.head?≠some 48) (l:b.head?≠some 48) (h:zK 0 a=zK 0 b):a=b:=by
 have m:=xk i d k
 have b1:=xk j f l
 have n:=wG d
 have b2:=wG f
 have q:1≤a.length:=by
  rcases Nat.eq_zero_or_pos a.length with e | e
  ·exact absurd (List.eq_nil_of_length_eq_zero e) i
  ·exact e
 have r:1≤b.length:=by
  rcases Nat.eq_zero_or_pos b.length with e | e
  ·exact absurd (List.eq_nil_of_length_eq_zero e) j
  ·exact e
 have o:¬ a.length<b.length:=fun g=>by
  have:=Nat.pow_le_pow_right (show 0<10 by decide) (show a.length≤b.length - 1 by omega)
  omega
 have p:¬ b.length<a.length:=fun g=>by
  have:=Nat.pow_le_pow_right (show 0<10 by decide) (show b.length≤a.length - 1 by omega)
  omega
 exact zfx b.length a b (by omega) rfl d f h
theorem yg {neg:Bool} {dg:ByteArray} {ex:Int} (h:qo neg dg ex=true) :
  (dg.data.toList=[48]∧ex=0∧neg=false)∨(dg.data.toList≠[]∧(∀ c∈dg.data.toList,zy c=true)∧dg.data.toList.head?≠some 48∧dg.data.toList.getLast?≠some 48):=by
 unfold qo at h
 rw [Bool.and_eq_true,Bool.and_eq_true]at h
 obtain ⟨f,n,b⟩:=h
 have a:dg.data.toList.length=dg.size:=by simp
 by_cases d:dg.toList=[48]
 ·rw [if_pos d,Bool.and_eq_true,decide_eq_true_iff]at b
  refine .inl ⟨?_,b.1,by simpa using b.2⟩
  rw [← ByteArray.toList_eq]
  exact d
 ·rw [if_neg d,Bool.and_eq_true,Bool.and_eq_true]at b
  have j:=b.2.2
  rw [Bool.not_eq_true',decide_eq_false_iff_not]at j
  unfold qR at f
  rw [Bool.and_eq_true,Bool.and_eq_true,Bool.and_eq_true,decide_eq_true_iff]at f
  obtain ⟨l,m,i,k⟩:=f
  rw [Bool.not_eq_true',Bool.and_eq_false_iff,decide_eq_false_iff_not,decide_eq_false_iff_not]at i
  refine .inr ⟨fun e=>by rw [e]at a; simp at a; omega,fun c hc=>List.all_eq_true.1 k c hc,?_,j⟩
  rcases i with g | g
  ·intro e
   apply d
   rw [ByteArray.toList_eq]
   cases hq:dg.data.toList with
   | nil=>rw [hq]at e; cases e
   | cons c r =>
    rw [hq]at e a
    rw [List.length_cons]at a
    have:r=[]:=List.eq_nil_of_length_eq_zero (by omega)
    rw [this]
    rw [List.head?_cons]at e
    rw [Option.some.inj e]
  ·exact g
theorem yi {l:List UInt8} (a:l≠[]) (d:∀ c∈l,zy c=true) (b:l.getLast?≠some 48):zK 0 l % 10≠0:=by
 have e:=List.dropLast_concat_getLast a
 have hc:=kL (d _ (List.getLast_mem a))
 have f:(l.getLast a).toNat≠48:=fun q=>b (by rw [List.getLast?_eq_some_getLast a,show l.getLast a=48 from UInt8.toNat_inj.1 q])
 rw [← e,kx]
 omega
theorem zmY {a b m n:Nat} (e:a % 10≠0) (f:b % 10≠0) (h:a*10 ^ m=b*10 ^ n):m=n∧a=b:=by
 have key:∀ {a b m n:Nat},b % 10≠0→m≤n→a*10 ^ m=b*10 ^ n→a % 10≠0→m=n∧a=b:=fun {a b m n} _ c h e=>by
  obtain ⟨k,rfl⟩:∃ k,n=m+k:=⟨n - m,by omega⟩
  rw [Nat.pow_add,Nat.mul_comm (10 ^ m),← Nat.mul_assoc]at h
  have d:=Nat.eq_of_mul_eq_mul_right (Nat.pow_pos (by decide)) h
  cases k with
  | zero=>exact ⟨rfl,by rw [d,Nat.pow_zero,Nat.mul_one]⟩
  | succ k =>
   exfalso
   apply e
   rw [d,Nat.pow_succ,← Nat.mul_assoc]
   exact Nat.mul_mod_left _ _
 rcases Nat.le_total m n with c | c
 ·exact key f c h e
 ·obtain ⟨g,d⟩:=key e c h.symm f
  exact ⟨g.symm,d.symm⟩
theorem zeC {l n2:Bool} {i j:ByteArray} {f e2:Int} {r:Bool×Nat} (a:jv l i f=some r) (g:jv n2 j e2=some r):l=n2∧i=j∧f=e2:=by
 unfold jv at a g
 split at a
 ·rename_i c1
  split at g
  ·rename_i c2
   have a:=Option.some.inj a
   have g:=Option.some.inj g
   rw [← g]at a
   have t:l=n2:=congrArg Prod.fst a
   have k:qX i f=qX j e2:=congrArg Prod.snd a
   obtain ⟨A,C,E,_⟩:=c1
   obtain ⟨B,D,F,_⟩:=c2
   unfold qX at k
   have n:i.data.toList=j.data.toList→f=e2→l=n2∧i=j∧f=e2:=fun w x=>⟨t,zae w,x⟩
   have z:zK 0 [48]=0:=by decide
   have s:∀ {d:ByteArray} {e:Int},d.data.toList≠[]→(∀ c∈d.data.toList,zy c=true)→d.data.toList.getLast?≠some 48→0<zK 0 d.data.toList*10 ^ e.toNat:=fun u v hc=>by
    have:=yi u v hc
    exact Nat.mul_pos (by omega) (Nat.pow_pos (by decide))
   rcases yg A with ⟨b,h,o⟩ | ⟨b,h,o,p⟩ <;> rcases yg B with ⟨b1,b2,b3⟩ | ⟨b1,b2,b3,q⟩
   ·exact n (by rw [b,b1]) (by rw [h,b2])
   ·exfalso
    have:=s (e:=e2) b1 b2 q
    rw [b,z]at k
    omega
   ·exfalso
    have:=s (e:=f) b h p
    rw [b1,z]at k
    omega
   ·obtain ⟨m,y⟩:=zmY (yi b h p) (yi b1 b2 q) k
    exact n (zeb b b1 h b2 o b3 y) (by omega)
  ·cases g
 ·cases a
theorem xv {n:Bool} {d:ByteArray} {e:Int} {neg:Bool} {k:Nat} (h:jv n d e=some (neg,k)):k<18446744073709551616∧(neg=true→0<k):=by
 unfold jv at h
 split at h
 ·rename_i c
  obtain ⟨m,o,p,g⟩:=c
  have h:=Option.some.inj h
  have j:n=neg:=congrArg Prod.fst h
  have l:qX d e=k:=congrArg Prod.snd h
  rw [← l]
  refine ⟨g,fun hn=>?_⟩
  unfold qX
  rcases yg m with ⟨b,f,a⟩ | ⟨b,f,a,i⟩
  ·rw [j,hn]at a
   cases a
  ·have:=yi b f i
   exact Nat.mul_pos (by omega) (Nat.pow_pos (by decide))
 ·cases h
def kg (f:Int) (o:Own):Bool:=
 if o.kind=5 then true else if f=1 then false else if o.kind=3 then (jv o.neg o.dg o.ex).isSome else decide (o.kind=6) || (decide (o.kind=2) || decide (o.kind=1))
def zG (f:Int):List Tr→Bool
 | []=>true
 | [k]=>kg f k.own
 | k::_::r=>kg f k.own && zG f r
def zm7 (r:Option (Bool×Nat)):Bool:=match r with
 | some (neg,k)=>!neg || decide (k≤9223372036854775808)
 | none=>false
def qc (f:Int) (fl:Own→Bool) (o:Own) (l:List Tr):Bool:=
 if o.kind=4 then fl o
 else if o.kind=3 then decide (f=1) || (((decide (f=2) || decide (f=3)) && (jv o.neg o.dg o.ex).isSome) || (decide (f=4) && zm7 (jv o.neg o.dg o.ex)))
 else if o.kind=6 then decide (f=2) || (decide (f=3) || decide (f=4))
 else if o.kind=9∨o.kind=10 then decide (f=2) || decide (f=3)
 else if o.kind=11 then decide (f=4)
 else if o.kind=8 then (decide (f=1) || (decide (f=2) || (decide (f=3) || decide (f=4)))) && zG f l
 else decide (f=1) || (decide (f=2) || (decide (f=3) || decide (f=4)))
mutual
def jf (f:Int) (fl:Own→Bool):Tr→Bool
 | .nd o l=>qc f fl o l && jp f fl l
def jp (f:Int) (fl:Own→Bool):List Tr→Bool
 | []=>true
 | t::l=>jf f fl t && jp f fl l
end
theorem zmE (f:Int) (fl:Own→Bool) (t:Tr):jf f fl t=(qc f fl t.own t.kids && jp f fl t.kids):=by
 cases t
 rw [jf]
 rfl
noncomputable def zj (f:Int) (fl:Own→Bool) (t:Tr):Int:=if xt t=true then (if jf f fl t=true then 0 else 61) else 60
def flC (_:Own):Bool:=true
end Go.Proofs.YtonihophanmaaaaGreatDoor
