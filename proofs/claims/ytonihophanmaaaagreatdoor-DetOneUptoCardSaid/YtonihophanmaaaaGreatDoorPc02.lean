/- The texts TreeB, TreeC, put together. -/
import Derived.Test.YtonihophanmaaaaGreatDoorPc01
import Derived.BigQuiet
import Derived.Deep.QuietTactic
import Derived.StillTailTactics
import Derived.Deep.AppendLies
import Derived.Laws.Rows
import Derived.Laws.Tables
set_option maxHeartbeats 8000000
set_option maxRecDepth 100000
namespace Go.Proofs.YtonihophanmaaaaGreatDoor
open Go.RowKit Go.Shelf
deriving instance DecidableEq for Own
mutual
def j1:Tr→Tr→Bool
 | .nd o l,.nd b a=>decide (o=b) && decide (l.length=a.length) && qt l a
def qt:List Tr→List Tr→Bool
 | [],_=>true
 | _::_,[]=>true
 | t::l,c::a=>j1 t c && qt l a
end
theorem zcz (t t':Tr):j1 t t'=(decide (t.own=t'.own) && decide (t.kids.length=t'.kids.length) && qt t.kids t'.kids):=by
 cases t
 cases t'
 rw [j1]
 rfl
mutual
theorem vv:∀ t:Tr,j1 t t=true
 | .nd o l=>by
  rw [j1,zds l]
  simp
theorem zds:∀ l:List Tr,qt l l=true
 | []=>by rw [qt]
 | t::l=>by
  rw [qt,vv t,zds l]
  rfl
end
theorem zdr:∀ (l a:List Tr) (k:Nat) (h:k<l.length) (b:k<a.length),qt (l.drop k) (a.drop k)=(j1 l[k] a[k] && qt (l.drop (k+1)) (a.drop (k+1))):=by
 intro l a k h b
 rw [List.drop_eq_getElem_cons h,List.drop_eq_getElem_cons b,qt]
abbrev zf (o:Own) (v:Value):Array Value:=#[.int .i64 o.kind,.bool o.b,.bool o.neg,.string o.dg,.int .i64 o.ex,.int .u64 o.u,.int .i64 o.wd,.string o.s,v]
theorem zlR (o o':Own) (A r:Option Addr) (n n' c c':Nat) (h:¬ (o=o'∧n=n')) (w:World) :
  Calls Tryz.prog 13 #[ze o (.slice A n c),ze o' (.slice r n' c')] w fun e w'=>e=.returned (.bool false)∧Below w.heap.size w w':=by
 obtain ⟨kind,b,neg,dg,ex,u,wd,s⟩:=o
 obtain ⟨g,p,j,m,k,q,l,E⟩:=o'
 have f:=((Below.refl w.heap.size w).alloc (Nat.le_refl _) (.cells #[.int .i64 kind,.bool b,.bool neg,.string dg,.int .i64 ex,.int .u64 u,.int .i64 wd,.string s,.slice A n c] 28)).alloc (by simp) (.cells #[.int .i64 g,.bool p,.bool j,.string m,.int .i64 k,.int .u64 q,.int .i64 l,.string E,.slice r n' c'] 28)
 unfold ze
 simp only []
 have d:∀ a b:ByteArray,a≠b→(a.toList == b.toList)=false:=fun a b h=>by
  rw [beq_eq_false_iff_ne,ByteArray.toList_eq,ByteArray.toList_eq]
  exact fun e=>h (by apply ByteArray.ext; exact Array.toList_inj.1 e)
 by_cases t:kind=g
 case neg =>
  have i:(kind == g)=false:=by rw [beq_eq_false_iff_ne]; exact t
  clear h d
  go_enter Tryz.func13,Tryz.ntmps13
  go_wp2_with fail
  go_ret
  exact ⟨rfl,f⟩
 subst t
 by_cases v:b=p
 case neg =>
  have i:(b == p)=false:=by rw [beq_eq_false_iff_ne]; exact v
  clear h d
  go_enter Tryz.func13,Tryz.ntmps13
  go_wp2_with fail
  go_ret
  exact ⟨rfl,f⟩
 subst v
 by_cases x:neg=j
 case neg =>
  have i:(neg == j)=false:=by rw [beq_eq_false_iff_ne]; exact x
  clear h d
  go_enter Tryz.func13,Tryz.ntmps13
  go_wp2_with fail
  go_ret
  exact ⟨rfl,f⟩
 subst x
 by_cases y:dg=m
 case neg =>
  have i:=d _ _ y
  clear h d
  go_enter Tryz.func13,Tryz.ntmps13
  go_wp2_with fail
  go_ret
  exact ⟨rfl,f⟩
 subst y
 by_cases z:ex=k
 case neg =>
  have i:(ex == k)=false:=by rw [beq_eq_false_iff_ne]; exact z
  clear h d
  go_enter Tryz.func13,Tryz.ntmps13
  go_wp2_with fail
  go_ret
  exact ⟨rfl,f⟩
 subst z
 by_cases B:u=q
 case neg =>
  have i:(u == q)=false:=by rw [beq_eq_false_iff_ne]; exact B
  clear h d
  go_enter Tryz.func13,Tryz.ntmps13
  go_wp2_with fail
  go_ret
  exact ⟨rfl,f⟩
 subst B
 by_cases C:wd=l
 case neg =>
  have i:(wd == l)=false:=by rw [beq_eq_false_iff_ne]; exact C
  clear h d
  go_enter Tryz.func13,Tryz.ntmps13
  go_wp2_with fail
  go_ret
  exact ⟨rfl,f⟩
 subst C
 by_cases D:s=E
 case neg =>
  have i:=d _ _ D
  clear h d
  go_enter Tryz.func13,Tryz.ntmps13
  go_wp2_with fail
  go_ret
  exact ⟨rfl,f⟩
 subst D
 have F:n≠n':=fun e=>h ⟨rfl,e⟩
 have i:((n:Int) == (n':Int))=false:=by rw [beq_eq_false_iff_ne]; omega
 clear h d F
 go_enter Tryz.func13,Tryz.ntmps13
 go_wp2_with fail
 go_ret
 exact ⟨rfl,f⟩
theorem qa (w:World) (b a:Array Value) (t t':TypeId):Below w.heap.size w ((w.alloc (.cells b t)).alloc (.cells a t'))∧Blk ((w.alloc (.cells b t)).alloc (.cells a t')) w.heap.size b t∧Blk ((w.alloc (.cells b t)).alloc (.cells a t')) (w.heap.size+1) a t':=by
 refine ⟨((Below.refl w.heap.size w).alloc (Nat.le_refl _) _).alloc (by simp) _,(Blk.new w _ _).alloc _,?_⟩
 have:=Blk.new (w.alloc (.cells b t)) a t'
 rw [World.size_alloc]at this
 exact this
theorem zeq (d:Nat):∀ (t r:Tr) (x x':Value) (w:World) (B d2:Nat),zq w B d t.kids x→zq w B d2 r.kids x'→B≤w.heap.size →
  Calls Tryz.prog 13 #[ze t.own x,ze r.own x'] w fun e w'=>e=.returned (.bool (j1 t r))∧Below w.heap.size w w':=by
 induction d using Nat.strongRecOn with
 | _ d ih =>
 intro t r x x' w B d2 K q H
 obtain ⟨L,A,c,rfl⟩:=K.slice
 obtain ⟨z,A',V,rfl⟩:=q.slice
 rw [zcz]
 by_cases N:t.own=r.own∧t.kids.length=r.kids.length
 case neg =>
  have hf:(decide (t.own=r.own) && decide (t.kids.length=r.kids.length) && qt t.kids r.kids)=false:=by
   rw [Bool.and_eq_false_iff,Bool.and_eq_false_iff,decide_eq_false_iff_not,decide_eq_false_iff_not]
   by_cases h1:t.own=r.own
   ·exact .inl (.inr fun h2=>N ⟨h1,h2⟩)
   ·exact .inl (.inl h1)
  rw [hf]
  exact zlR _ _ _ _ _ _ _ _ N w
 obtain ⟨Q,g⟩:=N
 rw [decide_eq_true Q,decide_eq_true g,Bool.true_and,Bool.true_and,← Q,← g]
 rw [← g]at q z
 obtain ⟨l,C⟩:∃ l,t.kids=l:=⟨_,rfl⟩
 obtain ⟨l',m⟩:∃ l',r.kids=l':=⟨_,rfl⟩
 rw [C]at K L g q z ⊢
 rw [m]at g q ⊢
 obtain ⟨n,hn⟩:∃ n,l.length=n:=⟨_,rfl⟩
 rw [hn]at K L q g ⊢
 obtain ⟨⟨kind,b,neg,dg,ex,u,wd,s⟩,ho⟩:∃ o,t.own=o:=⟨_,rfl⟩
 rw [ho]
 unfold ze
 obtain ⟨ans,D⟩:∃ ans,qt l l'=ans:=⟨_,rfl⟩
 rw [D]
 have G:=Lib.hid (show qt (l.drop 0) (l'.drop 0)=ans from D)
 have HL:=Lib.hid K
 have af:=Lib.hid q
 have IH:=Lib.hid ih
 simp only []
 have E:=Lib.hid (qa w #[.int .i64 kind,.bool b,.bool neg,.string dg,.int .i64 ex,.int .u64 u,.int .i64 wd,.string s,.slice A n c] #[.int .i64 kind,.bool b,.bool neg,.string dg,.int .i64 ex,.int .u64 u,.int .i64 wd,.string s,.slice A' n V] 28 28)
 have ag:=Lib.hid g
 clear K q ih ho C m Q D g z
 go_enter Tryz.func13,Tryz.ntmps13
 go_wp2_with fail
 go_loopw [5] (fun i wr=>∃ k:Nat,k≤n∧i=.int .i64 k∧Below w.heap.size w wr∧wr.cell? ⟨w.heap.size,8,none⟩=some (.slice A n c)∧wr.cell? ⟨w.heap.size+1,8,none⟩=some (.slice A' n V)∧w.heap.size+2≤wr.heap.size∧Hid (qt (l.drop k) (l'.drop k)=ans)) (fun i _=>n - (intOf i).toNat)
 case atStart=>exact ⟨0,by omega,rfl,E.out.1,E.out.2.1.cell 8,E.out.2.2.cell 8,by simp,G⟩
 case round =>
  obtain ⟨k,hk,rfl,a,R,S,hz,F⟩:=hrel
  clear E G
  by_cases a1:k<n
  ·have C:k<l.length:=by omega
   have m:k<l'.length:=by have:=ag.out; omega
   obtain ⟨d',ad,y,al,rfl,a0,an,U,T⟩:=(HL.out.below a H).at_ C
   obtain ⟨aj,ah,y',W,rfl,aQ,Z,M,J⟩:=(af.out.below a H).at_ m
   have f:=F.out
   rw [zdr l l' k C m]at f
   have v:=fun (w':World) (hw:Below wr.heap.size wr w')=>IH.out d' (by omega) l[k] l'[k] y y' w' B aj (T.below hw (Nat.le_trans H a.size)) (J.below hw (Nat.le_trans H a.size)) (Nat.le_trans (Nat.le_trans H a.size) hw.size)
   obtain ⟨⟨aI,b1,aS,aW,aY,u1,a4,s1⟩,O⟩:∃ o,l[k].own=o:=⟨_,rfl⟩
   obtain ⟨⟨aJ,b2,aT,aX,aZ,u2,a5,s2⟩,P⟩:∃ o,l'[k].own=o:=⟨_,rfl⟩
   rw [O]at U
   rw [P]at M
   rw [O,P]at v
   unfold ze at v
   obtain ⟨k0,k1,k2,k3,k4,k5,k6,k7,k8⟩:=U
   obtain ⟨m0,m1,m2,m3,m4,m5,m6,m7,m8⟩:=M
   simp only []at k0 k1 k2 k3 k4 k5 k6 k7 k8 m0 m1 m2 m3 m4 m5 m6 m7 m8 v
   have y1:(k:Int)<n:=by omega
   have y0:(0:Int)≤k:=by omega
   have v:=Lib.hid v
   have j:Below wr.heap.size wr wr.drew:=(Below.refl _ _).drew
   clear F O P T J an Z al W
   cases hs:j1 l[k] l'[k] with
   | false =>
    rw [hs]at f v
    have f:false=ans:=f
    subst f
    clear hs
    go_wp2_with fail
    go_still_tail 10,(by kernel_rfl)
    change wpList _ _ _ _ _ wr.drew
    go_wp2_with fail
    refine (v.out _ j).mono ?_
    rintro e w2 ⟨rfl,h⟩
    have I:=(a.trans (j.mono a.size)).trans (h.mono (Nat.le_trans a.size j.size))
    go_wp2_with fail
    go_ret
    exact ⟨rfl,I⟩
   | true =>
    rw [hs,Bool.true_and]at f
    rw [hs]at v
    have HD:=Lib.hid f
    clear hs f
    go_wp2_with fail
    go_still_tail 10,(by kernel_rfl)
    change wpList _ _ _ _ _ wr.drew
    go_wp2_with fail
    refine (v.out _ j).mono ?_
    rintro e w2 ⟨rfl,h⟩
    have I:=(a.trans (j.mono a.size)).trans (h.mono (Nat.le_trans a.size j.size))
    have a2:wr.drew.heap.size=wr.heap.size:=rfl
    have X:w2.cell? ⟨w.heap.size,8,none⟩=some (.slice (some ad) n c):=(h.cell (p:=⟨w.heap.size,8,none⟩) (by show w.heap.size<_; omega)).trans R
    have Y:w2.cell? ⟨w.heap.size+1,8,none⟩=some (.slice (some ah) n V):=(h.cell (p:=⟨w.heap.size+1,8,none⟩) (by show w.heap.size+1<_; omega)).trans S
    have a3:=h.size
    clear h k0 k1 k2 k3 k4 k5 k6 k7 k8 m0 m1 m2 m3 m4 m5 m6 m7 m8 R S a j v
    go_wp2_with fail
    go_roundw
    case rel=>exact ⟨k+1,by omega,by go_num,I,X,Y,by omega,HD⟩
    case measure=>simp [intOf]; omega
  ·obtain rfl:k=n:=by omega
   have y1:¬ (k:Int)<k:=by omega
   have f:=F.out
   rw [List.drop_eq_nil_of_le (by omega),qt]at f
   subst f
   clear F
   go_wp2_with fail
   go_ret
   exact ⟨rfl,a⟩
def wP (o:Own):Own:={ o with s:=o.s.extract 0 (min (o.s.size:Int) 410).toNat,dg:=o.dg.extract 0 (min (o.dg.size:Int) 200).toNat }
def qb:Nat→Tr→Tr
 | 0,t=>.nd (wP t.own) []
 | d+1,t=>.nd (wP t.own) ((t.kids.take 40).map (qb d))
theorem zck (d:Nat) (t:Tr):(qb d t).own=wP t.own:=by
 cases d <;> rfl
theorem xQ:(Tryz.prog.info? 28).map (fun i=>(i.zero,i.size,i.bytes))=some (some (.agg #[.int .i64 0,.bool false,.bool false,.string ⟨#[]⟩,.int .i64 0,.int .u64 0,.int .i64 0,.string ⟨#[]⟩,.slice none 0 0]),9,104):=by kernel_rfl
theorem xE {W:World} {base size n:Nat} {e:TypeId} {v:Value} {xs:List Value} (h:W.ownsRow base e size v n xs):∃ A c,v=.slice A n c:=by
 rcases h.2 with ⟨a,hn⟩ | ⟨g,b,d,a,_⟩
 ·exact ⟨none,0,by rw [a,hn]⟩
 ·exact ⟨_,_,a⟩
theorem zjo (d:Nat) (t:Tr):(qb d t).kids=if d=0 then [] else (t.kids.take 40).map (qb (d - 1)):=by
 cases d <;> rfl
theorem zjp {o:Own} (h:zt o):zt (wP o):=by
 refine ⟨?_,?_,h.kind,h.ex,h.u,h.wd⟩
 ·show (o.dg.extract 0 _).size≤_
  rw [ByteArray.size_extract]
  omega
 ·show (o.s.extract 0 _).size≤_
  rw [ByteArray.size_extract]
  omega
theorem zf3 (o:Own) (v:Value):ze o v=.agg (zp o v).toArray:=rfl
theorem zam (W:World) (a:List Value) (t:TypeId):∀ j u,a[j]? = some u→(W.alloc (.cells a.toArray t)).cell? ((⟨W.heap.size,0,none⟩:Addr).add j)=some u:=by
 intro j u d
 have b:(⟨W.heap.size,0,none⟩:Addr).add j=⟨W.heap.size,j,none⟩:=by
  unfold Addr.add
  split
  ·rename_i c
   rw [c]
  ·simp
 rw [b,(Blk.new W a.toArray t).cell j]
 simpa using d
theorem qq (w:World) (p i:Nat) (v:Value):w.grownBy (w.setCell ⟨p,i,none⟩ v) (some p):=
 ⟨rfl,rfl,rfl,by simp [World.setCell],fun k _ a=>Below.heap_setCell w ⟨p,i,none⟩ v k (fun e=>a (by rw [e]))⟩
theorem zgd {W W':World} {base size n:Nat} {e:TypeId} {v:Value} {xs:List Value} (h:W.ownsRow base e size v n xs) (k:∀ q,v.ownBlock=some q→W'.heap[q]? = W.heap[q]?):W'.ownsRow base e size v n xs:=by
 refine ⟨h.1,?_⟩
 rcases h.2 with d | ⟨g,a,b,c,i,j,f⟩
 ·exact .inl d
 ·exact .inr ⟨g,a,b,c,i,(k g (by rw [c]; rfl)).trans j,f⟩
theorem zak {W W':World} {p:Nat} {a:Array Value} {t:TypeId} (h:Blk W p a t) (b:W'.heap[p]? = W.heap[p]?):Blk W' p a t:=b.trans h
theorem zmP (d:Nat):d≤1000→∀ (t:Tr) (x:Value) (w:World) (B D:Nat),zq w B D t.kids x→zt t.own→B≤w.heap.size →
  Calls Tryz.prog 30 #[ze t.own x,.int .i64 ((d+1:Nat):Int)] w fun e w'=>(∃ y,e=.returned (ze (wP t.own) y)∧LAt w' (fun q=>w.heap.size≤q∧q<w'.heap.size) d (qb d t).kids y)∧Below w.heap.size w w':=by
 induction d using Nat.strongRecOn with
 | _ d ih =>
 intro b1 t x w B D hl ho hB
 obtain ⟨i0,hi,a8,a9,aJ⟩:=info_parts xQ
 have HI:=Lib.hid hi
 have bw:=Lib.hid a8
 have bx:=Lib.hid a9
 have bz:=Lib.hid aJ
 clear hi a8 a9 aJ
 obtain ⟨aB,A,c,rfl⟩:=hl.slice
 rw [zjo]
 obtain ⟨l,T⟩:∃ l,t.kids=l:=⟨_,rfl⟩
 rw [T]at hl aB ⊢
 obtain ⟨n,hn⟩:∃ n,l.length=n:=⟨_,rfl⟩
 rw [hn]at hl aB ⊢
 obtain ⟨⟨kind,b,neg,dg,ex,u,wd,s⟩,a4⟩:∃ o,t.own=o:=⟨_,rfl⟩
 rw [a4]at ho ⊢
 obtain ⟨a0,hs,_,_,_,_⟩:=ho
 unfold ze wP
 simp only []at a0 hs ⊢
 obtain ⟨m1,aC⟩:∃ m1:Nat,(if (410:Int)<s.size then 410 else (s.size:Int))=m1:=⟨(if (410:Int)<s.size then 410 else (s.size:Int)).toNat,by split <;> omega⟩
 obtain ⟨m2,aD⟩:∃ m2:Nat,(if (200:Int)<dg.size then 200 else (dg.size:Int))=m2:=⟨(if (200:Int)<dg.size then 200 else (dg.size:Int)).toNat,by split <;> omega⟩
 have e1:(min (s.size:Int) 410).toNat=m1:=by split at aC <;> omega
 have e2:(min (dg.size:Int) 200).toNat=m2:=by split at aD <;> omega
 have z1:(m1:Int)≤s.size:=by split at aC <;> omega
 have z2:(m2:Int)≤dg.size:=by split at aD <;> omega
 rw [e1,e2]
 obtain ⟨s1,J⟩:∃ s1,s.extract 0 m1=s1:=⟨_,rfl⟩
 obtain ⟨dg1,X⟩:∃ dg1,dg.extract 0 m2=dg1:=⟨_,rfl⟩
 rw [J,X]
 obtain ⟨fl,az⟩:∃ fl,(if d=0 then [] else (l.take 40).map (qb (d - 1)))=fl:=⟨_,rfl⟩
 rw [az]
 have bo:=Lib.hid az
 clear az
 have HL:=Lib.hid hl
 have IH:=Lib.hid ih
 have HN:=Lib.hid hn
 have r:=Lib.hid (qa w #[.int .i64 kind,.bool b,.bool neg,.string dg1,.int .i64 ex,.int .u64 u,.int .i64 wd,.string s1,.slice A n c] #[.int .i64 0,.bool false,.bool false,.string ⟨#[]⟩,.int .i64 0,.int .u64 0,.int .i64 0,.string ⟨#[]⟩,.slice none 0 0] 28 28)
 obtain ⟨dp,ay⟩:∃ dp:Int,((d+1:Nat):Int)=dp:=⟨_,rfl⟩
 have aV:=Lib.hid ay
 rw [ay]
 clear a0 hs hl ih hn T a4 ay
 go_enter Tryz.func30,Tryz.ntmps30
 go_wp2_with fail
 try simp only [e1,e2,J,X]
 clear e1 e2 J X aC aD z1 z2
 go_loopw [5,6] (fun v i wr=>∃ (k:Nat) (xs:List Value),k≤n∧k≤40∧(0<k→0<d)∧i=.int .i64 k∧wr.ownsRow w.heap.size 28 9 v k xs∧zV wr (fun q=>w.heap.size+2≤q∧q<wr.heap.size∧v.ownBlock≠some q) (d - 1) ((l.take k).map (qb (d - 1))) xs∧Below w.heap.size w wr∧Blk wr w.heap.size #[.int .i64 kind,.bool b,.bool neg,.string dg1,.int .i64 ex,.int .u64 u,.int .i64 wd,.string s1,.slice A n c] 28∧Blk wr (w.heap.size+1) #[.int .i64 0,.bool false,.bool false,.string ⟨#[]⟩,.int .i64 0,.int .u64 0,.int .i64 0,.string ⟨#[]⟩,.slice none 0 0] 28∧v.ownBlock≠some w.heap.size∧v.ownBlock≠some (w.heap.size+1)) (fun _ i _=>n - (intOf i).toNat)
 case atStart=>exact ⟨0,[],by omega,by omega,fun h=>absurd h (by omega),rfl,World.ownsRow_nil _ _ _ _,rfl,r.out.1,r.out.2.1,r.out.2.2,by simp [Value.ownBlock],by simp [Value.ownBlock]⟩
 case round =>
  obtain ⟨k,xs,hk,cd,cq,rfl,G,N,I,H,E,aH,aI⟩:=hrel
  clear r
  obtain ⟨f,j,rfl⟩:=xE G
  have bb:=I.size
  have bG:wr.cell? ⟨w.heap.size,8,none⟩=some (.slice A n c):=H.cell 8
  by_cases ae:k<n∧k<40∧0<d
  ·obtain ⟨bJ,b4,bh⟩:=ae
   have T:k<l.length:=by rw [HN.out]; exact bJ
   obtain ⟨d',ad,y,bF,rfl,co,aG,a3,S⟩:=(HL.out.below I hB).at_ T
   have Q:dp=(d:Int)+1:=by rw [← aV.out]; omega
   have K:=IH.out (d - 1) (by omega) (by omega) l[k] y wr B d' S aG (Nat.le_trans hB I.size)
   rw [show (d - 1+1:Nat)=d by omega]at K
   have a7:(l.take (k+1)).map (qb (d - 1))=(l.take k).map (qb (d - 1))++[qb (d - 1) l[k]]:=by
    rw [List.take_succ_eq_append_getElem T,List.map_append]
    rfl
   have M:=zjp aG
   obtain ⟨o1,aF⟩:∃ o,l[k].own=o:=⟨_,rfl⟩
   have ax:(qb (d - 1) l[k]).own=wP o1:=by rw [zck,aF]
   rw [aF]at a3 K M
   obtain ⟨aS,b2,bk,bB,bC,u2,bX,s2⟩:=o1
   obtain ⟨o3,a5⟩:∃ o3,wP ⟨aS,b2,bk,bB,bC,u2,bX,s2⟩=o3:=⟨_,rfl⟩
   rw [a5]at K M ax
   clear a5
   unfold ze at K
   obtain ⟨k0,k1,k2,k3,k4,k5,k6,k7,k8⟩:=a3
   simp only []at k0 k1 k2 k3 k4 k5 k6 k7 k8 K
   have K:=Lib.hid K
   have HT:=Lib.hid a7
   have bu:=Lib.hid M
   have aU:=Lib.hid ax
   have L:=Lib.hid N
   have p:=Lib.hid G
   have y1:(k:Int)<n:=by omega
   have y2:(k:Int)<40:=by omega
   have y3:(1:Int)<dp:=by omega
   have y4:dp - 1=(d:Int):=by omega
   have y5:(0:Int)≤(d:Int):=by omega
   have y6:(d:Int)≤1000:=by omega
   clear a7 S aG bF aF M ax Q N G
   go_wp2_with fail
   refine K.out.mono ?_
   rintro e P ⟨⟨y',rfl,ag⟩,F⟩
   obtain ⟨_,A1,c1,rfl⟩:=ag.slice
   obtain ⟨n1,aE⟩:∃ n1,(qb (d - 1) l[k]).kids.length=n1:=⟨_,rfl⟩
   rw [aE]at ag ⊢
   have aJ:=F.size
   have V:=I.trans (F.mono bb)
   have av:=H.below F H.lt
   have aw:=E.below F E.lt
   have aO:=E.lt
   have m:∀ q,(Value.slice f k j).ownBlock=some q→w.heap.size≤q∧q<wr.heap.size:=fun q e=>⟨(p.out.lt q e).1,(p.out.lt q e).2⟩
   have ai:P.ownsRow w.heap.size 28 9 (.slice f k j) k xs:=p.out.kept (xy F) (by cases f with | none=>exact .inl rfl | some a=>exact .inr (by simp [Value.ownBlock]))
   obtain ⟨O,b3,Y,ap,aq,u3,aK,s3⟩:=o3
   have cm:=Lib.hid aE
   have aW:=Lib.hid ag
   have HQ:=Lib.hid m
   have aT:=Lib.hid F
   have an:=Lib.hid av
   have r:=Lib.hid aw
   have c3:k+1≤maxLen:=by unfold maxLen; omega
   clear K k0 k1 k2 k3 k4 k5 k6 k7 k8 bG H E aE ag m F av aw
   simp only []
   go_wp2_with (at_builtin; refine wpList_append_lies _ rfl _ _ 26 rfl w.heap.size 28 i0 (.agg #[.int .i64 0,.bool false,.bool false,.string ⟨#[]⟩,.int .i64 0,.int .u64 0,.int .i64 0,.string ⟨#[]⟩,.slice none 0 0]) 9 104 Tryz.underlying26 HI.out bw.out bx.out bz.out rfl (by decide) _ _ _ rfl (ai.alloc _) ⟨P.heap.size,0,none⟩ 1 1 [.int .i64 O,.bool b3,.bool Y,.string ap,.int .i64 aq,.int .u64 u3,.int .i64 aK,.string s3,.slice A1 n1 c1] rfl rfl (zam _ [.int .i64 O,.bool b3,.bool Y,.string ap,.int .i64 aq,.int .u64 u3,.int .i64 aK,.string s3,.slice A1 n1 c1] _) (by intro u hu; simp at hu; rcases hu with rfl|rfl|rfl|rfl|rfl|rfl|rfl|rfl|rfl <;> rfl) (by decide) (by omega) (by omega) (by simp; omega) (P.heap.size+1) (by simp) ?_; intro g aa w4 aj C aY cp)
   have a1:(Value.slice f k j).ownBlock=some g→w.heap.size≤g∧g<wr.heap.size:=fun e=>HQ.out g e
   have ce:P.heap.size+1≤w4.heap.size:=by
    have:=C.size
    simpa using this
   have z:∀ q,q<P.heap.size→(Value.slice f k j).ownBlock≠some q→w4.heap[q]? = P.heap[q]? := fun q m ah=>by
    rw [C.block q (by simp; omega) (fun e=>ah e.symm)]
    exact ((Below.refl P.heap.size P).alloc (Nat.le_refl _) _).block q m
   have cf:=aO
   have R:g=P.heap.size+1∨(Value.slice f k j).ownBlock=some g:=aY.symm
   have ak:zV w4 (fun q=>w.heap.size+2≤q∧q<w4.heap.size∧(Value.slice (some ⟨g,0,none⟩) (k+1) aa).ownBlock≠some q) (d - 1) ((l.take (k+1)).map (qb (d - 1))) (xs++[.int .i64 O,.bool b3,.bool Y,.string ap,.int .i64 aq,.int .u64 u3,.int .i64 aK,.string s3,.slice A1 n1 c1]):=by
    rw [HT.out]
    refine zV.append ?_ (((L.out.keep (fun q m=>aT.out.block q m.2.1)).keep (fun q m=>z q (by omega) m.2.2)).mono (fun q m=>?_))
    ·have h1:LAt w4 (fun q=>w.heap.size+2≤q∧q<w4.heap.size∧(Value.slice (some ⟨g,0,none⟩) (k+1) aa).ownBlock≠some q) (d - 1) (qb (d - 1) l[k]).kids (.slice A1 n1 c1):=by
      refine (aW.out.keep (fun q m=>z q m.2 (fun e=>?_))).mono (fun q m=>⟨by omega,by omega,fun e=>?_⟩)
      ·have:=(HQ.out q e).2
       omega
      ·have e':g=q:=by simpa [Value.ownBlock] using e
       rcases R with h | h
       ·omega
       ·have:=(a1 h).2
        omega
     have h2:=zV.one (t:=qb (d - 1) l[k]) (y:=.slice A1 n1 c1) (by rw [aU.out]; exact bu.out) h1
     rw [aU.out]at h2
     exact h2
    ·refine ⟨m.1,by omega,fun e=>?_⟩
     have e':g=q:=by simpa [Value.ownBlock] using e
     subst e'
     rcases R with h | h
     ·omega
     ·exact m.2.2 h
   have bg:Below w.heap.size w w4:=(V.alloc V.size _).grown C (by simp; omega) (fun q e=>(HQ.out q e).1)
   have ab:Blk w4 w.heap.size #[.int .i64 kind,.bool b,.bool neg,.string dg1,.int .i64 ex,.int .u64 u,.int .i64 wd,.string s1,.slice (some ad) n c] 28:=zak an.out (z _ an.out.lt aH)
   have ac:Blk w4 (w.heap.size+1) #[.int .i64 0,.bool false,.bool false,.string ⟨#[]⟩,.int .i64 0,.int .u64 0,.int .i64 0,.string ⟨#[]⟩,.slice none 0 0] 28:=zak r.out (z _ r.out.lt aI)
   have bi:(Value.slice (some ⟨g,0,none⟩) (k+1) aa).ownBlock≠some w.heap.size:=by
    intro e
    have e':g=w.heap.size:=by simpa [Value.ownBlock] using e
    rcases R with h | h
    ·omega
    ·rw [e']at h
     exact aH h
   have bj:(Value.slice (some ⟨g,0,none⟩) (k+1) aa).ownBlock≠some (w.heap.size+1):=by
    intro e
    have e':g=w.heap.size+1:=by simpa [Value.ownBlock] using e
    rcases R with h | h
    ·have:=r.out.lt
     omega
    ·rw [e']at h
     exact aI h
   have bv:=Lib.hid ak
   have bt:=Lib.hid aj
   have bp:=Lib.hid ab
   have bq:=Lib.hid ac
   clear C aY R a1 z ak aj ab ac ai L p an r aT aW HQ I V
   go_wp2_with fail
   go_roundw
   case rel=>exact ⟨k+1,_,by omega,by omega,fun _=>bh,by go_num,bt.out,bv.out,bg,bp.out,bq.out,bi,bj⟩
   case measure=>simp [intOf]; omega
  ·have af:fl=(l.take k).map (qb (d - 1)):=by
    rw [← bo.out]
    have hn:=HN.out
    by_cases h0:d=0
    ·rw [if_pos h0]
     have:k=0:=by omega
     subst this
     rfl
    ·rw [if_neg h0]
     by_cases cn:k<40
     ·rw [List.take_of_length_le (by omega),List.take_of_length_le (by omega)]
     ·rw [show k=40 by omega]
   have Q:dp=(d:Int)+1:=by rw [← aV.out]; omega
   have f8:=H.frozen 8
   have J:Blk (wr.setCell ⟨w.heap.size,8,none⟩ (.slice f k j)) w.heap.size #[.int .i64 kind,.bool b,.bool neg,.string dg1,.int .i64 ex,.int .u64 u,.int .i64 wd,.string s1,.slice f k j] 28:=H.set 8 _
   have a6:Blk (wr.setCell ⟨w.heap.size,8,none⟩ (.slice f k j)) (w.heap.size+1) #[.int .i64 0,.bool false,.bool false,.string ⟨#[]⟩,.int .i64 0,.int .u64 0,.int .i64 0,.string ⟨#[]⟩,.slice none 0 0] 28:=zak E (Below.heap_setCell wr ⟨w.heap.size,8,none⟩ _ _ (fun e=>by have e:w.heap.size+1=w.heap.size:=e; omega))
   have aZ:Below w.heap.size w (wr.setCell ⟨w.heap.size,8,none⟩ (.slice f k j)):=I.grown (qq wr w.heap.size 8 _) bb (fun q e=>by cases e; exact Nat.le_refl _)
   have a2:∀ q,q≠w.heap.size→(wr.setCell ⟨w.heap.size,8,none⟩ (.slice f k j)).heap[q]? = wr.heap[q]? := fun q m=>Below.heap_setCell wr ⟨w.heap.size,8,none⟩ _ q m
   have ba:(wr.setCell ⟨w.heap.size,8,none⟩ (.slice f k j)).heap.size=wr.heap.size:=by simp [World.setCell]
   have bs:=Lib.hid af
   have L:=Lib.hid N
   have p:=Lib.hid G
   have ao:=Lib.hid J
   have Z:=Lib.hid a6
   have bn:=Lib.hid aZ
   have br:=Lib.hid a2
   have bA:=Lib.hid ba
   have cl:=Lib.hid E.lt
   clear N G af J a6 aZ a2 ba E
   have aX:∀ W:World,W=(wr.setCell ⟨w.heap.size,8,none⟩ (.slice f k j)).setRow (w.heap.size+1) #[.int .i64 kind,.bool b,.bool neg,.string dg1,.int .i64 ex,.int .u64 u,.int .i64 wd,.string s1,.slice f k j]→Blk W (w.heap.size+1) #[.int .i64 kind,.bool b,.bool neg,.string dg1,.int .i64 ex,.int .u64 u,.int .i64 wd,.string s1,.slice f k j] 28∧Below w.heap.size w W∧LAt W (fun q=>w.heap.size≤q∧q<W.heap.size) d fl (.slice f k j):=by
    intro W hW
    subst hW
    have S:∀ q,q≠w.heap.size→q≠w.heap.size+1→((wr.setCell ⟨w.heap.size,8,none⟩ (.slice f k j)).setRow (w.heap.size+1) #[.int .i64 kind,.bool b,.bool neg,.string dg1,.int .i64 ex,.int .u64 u,.int .i64 wd,.string s1,.slice f k j]).heap[q]? = wr.heap[q]? := fun q h1 h2=>(setRow_other _ _ _ _ h2).trans (br.out q h1)
    refine ⟨setRow_heap _ _ _ _ _ _ Z.out,?_,?_⟩
    ·refine bn.out.trans ⟨rfl,rfl,rfl,by simp,fun q m=>setRow_other _ _ _ _ (by omega)⟩
    ·rw [bs.out]
     rw [setRow_size,bA.out]
     have aP:((l.take k).map (qb (d - 1))).length=k:=by
      rw [List.length_map,List.length_take]
      have:=HN.out
      omega
     by_cases h0:d=0
     ·have bI:k=0:=by omega
      subst bI
      rw [h0]
      exact LAt.nil _ _ _ _ _
     ·have hd:d=(d - 1)+1:=by omega
      rw [hd]
      have ah:∀ q,(Value.slice f k j).ownBlock=some q→q≠w.heap.size∧q≠w.heap.size+1:=fun q e=>⟨fun h=>aH (by rw [← h]; exact e),fun h=>aI (by rw [← h]; exact e)⟩
      have aQ:=zgd (W':=(wr.setCell ⟨w.heap.size,8,none⟩ (.slice f k j)).setRow (w.heap.size+1) #[.int .i64 kind,.bool b,.bool neg,.string dg1,.int .i64 ex,.int .u64 u,.int .i64 wd,.string s1,.slice f k j]) p.out (fun q e=>S q (ah q e).1 (ah q e).2)
      have aR:zV ((wr.setCell ⟨w.heap.size,8,none⟩ (.slice f k j)).setRow (w.heap.size+1) #[.int .i64 kind,.bool b,.bool neg,.string dg1,.int .i64 ex,.int .u64 u,.int .i64 wd,.string s1,.slice f k j]) (fun q=>w.heap.size≤q∧q<wr.heap.size) (d - 1) ((l.take k).map (qb (d - 1))) xs:=by
       refine (L.out.mono (S':=fun q=>w.heap.size+2≤q∧q<wr.heap.size) ?_).keep ?_ |>.mono ?_
       ·exact fun q m=>⟨m.1,m.2.1⟩
       ·exact fun q m=>S q (by omega) (by omega)
       ·exact fun q m=>⟨by omega,m.2⟩
      rw [show d - 1+1 - 1=d - 1 by omega]
      exact aR.list aQ aP.symm (by omega) (fun q m=>m) (fun a e=>by
       subst e
       exact ⟨(p.out.lt a.block rfl).1,(p.out.lt a.block rfl).2⟩)
   have U:=Lib.hid aX
   clear aX
   by_cases c1:k<n
   ·have y1:(k:Int)<n:=by omega
    by_cases c2:k<40
    ·have bE:d=0:=by omega
     have y2:(k:Int)<40:=by omega
     have y3:dp=1:=by omega
     subst y3
     clear Q bE c1 c2 ae
     go_wp2_with (first | (refine wpList_load_row rfl 28 (.tmp 2) rfl w.heap.size rfl 28 _ (0,0) _ ao.out Tryz.underlying28 rfl (by kernel_rfl) ?_) | (refine wpList_store_row rfl 28 (.tmp 4) (.tmp 54) rfl (w.heap.size+1) #[.int .i64 kind,.bool b,.bool neg,.string dg1,.int .i64 ex,.int .u64 u,.int .i64 wd,.string s1,.slice f k j] rfl rfl 28 _ Z.out (by kernel_rfl) rfl (by simp [Value.oneCell']) ?_))
     obtain ⟨g1,g2,g3⟩:=U.out _ rfl
     refine bodyPost_ret (v:=.agg #[.int .i64 kind,.bool b,.bool neg,.string dg1,.int .i64 ex,.int .u64 u,.int .i64 wd,.string s1,.slice f k j]) (results_cell_row rfl _ _ (w.heap.size+1) 28 _ (0,0) _ rfl g1 Tryz.underlying28 rfl (by kernel_rfl)) rfl ?_
     exact ⟨⟨_,rfl,g3⟩,g2⟩
    ·have y2:¬ (k:Int)<40:=by omega
     clear Q c1 c2 ae
     go_wp2_with (first | (refine wpList_load_row rfl 28 (.tmp 2) rfl w.heap.size rfl 28 _ (0,0) _ ao.out Tryz.underlying28 rfl (by kernel_rfl) ?_) | (refine wpList_store_row rfl 28 (.tmp 4) (.tmp 54) rfl (w.heap.size+1) #[.int .i64 kind,.bool b,.bool neg,.string dg1,.int .i64 ex,.int .u64 u,.int .i64 wd,.string s1,.slice f k j] rfl rfl 28 _ Z.out (by kernel_rfl) rfl (by simp [Value.oneCell']) ?_))
     obtain ⟨g1,g2,g3⟩:=U.out _ rfl
     refine bodyPost_ret (v:=.agg #[.int .i64 kind,.bool b,.bool neg,.string dg1,.int .i64 ex,.int .u64 u,.int .i64 wd,.string s1,.slice f k j]) (results_cell_row rfl _ _ (w.heap.size+1) 28 _ (0,0) _ rfl g1 Tryz.underlying28 rfl (by kernel_rfl)) rfl ?_
     exact ⟨⟨_,rfl,g3⟩,g2⟩
   ·have y1:¬ (k:Int)<n:=by omega
    clear Q c1 ae
    go_wp2_with (first | (refine wpList_load_row rfl 28 (.tmp 2) rfl w.heap.size rfl 28 _ (0,0) _ ao.out Tryz.underlying28 rfl (by kernel_rfl) ?_) | (refine wpList_store_row rfl 28 (.tmp 4) (.tmp 54) rfl (w.heap.size+1) #[.int .i64 kind,.bool b,.bool neg,.string dg1,.int .i64 ex,.int .u64 u,.int .i64 wd,.string s1,.slice f k j] rfl rfl 28 _ Z.out (by kernel_rfl) rfl (by simp [Value.oneCell']) ?_))
    obtain ⟨g1,g2,g3⟩:=U.out _ rfl
    refine bodyPost_ret (v:=.agg #[.int .i64 kind,.bool b,.bool neg,.string dg1,.int .i64 ex,.int .u64 u,.int .i64 wd,.string s1,.slice f k j]) (results_cell_row rfl _ _ (w.heap.size+1) 28 _ (0,0) _ rfl g1 Tryz.underlying28 rfl (by kernel_rfl)) rfl ?_
    exact ⟨⟨_,rfl,g3⟩,g2⟩
end Go.Proofs.YtonihophanmaaaaGreatDoor
