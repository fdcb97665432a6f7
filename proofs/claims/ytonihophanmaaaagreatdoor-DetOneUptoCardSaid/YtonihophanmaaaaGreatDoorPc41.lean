/- The texts NatD, put together. -/
import Derived.Test.YtonihophanmaaaaGreatDoorPc40
import Derived.Test.YtonihophanmaaaaGreatDoorPc11
set_option maxHeartbeats 8000000
set_option maxRecDepth 100000
namespace Go.Proofs.YtonihophanmaaaaGreatDoor
open Go.RowKit Go.Shelf
attribute [local go_sem] Oper.semAt_some qi jA
theorem zhA:(Tryz.prog.info? 226).map (fun i=>(i.zero,i.size,i.bytes))=some (some (.int .u32 0),1,4):=by kernel_rfl
theorem zjK:(Tryz.prog.info? 268).map (fun i=>(i.zero,i.size,i.bytes))=some (some (.slice none 0 0),1,24):=by kernel_rfl
theorem znp {P:Program} {b:Func} {R:Ending→World→Prop} {a:Act} {w:World} {D E:Nat} {v:Value} (g:E≠D)
  (d:w.heap[E]? = some (.deferred (some []))) (c:w.heap[D]? = some (.deferred (some [])))
  (f:(results b a.tmps).run P ((w.putObj E (.deferred none)).putObj D (.deferred none))=.ok v ((w.putObj E (.deferred none)).putObj D (.deferred none))) (hd:a.defers=[{ target:=.collected E,args:=#[] },{ target:=.collected D,args:=#[] }])
  (e:R (.returned v) ((w.putObj E (.deferred none)).putObj D (.deferred none))):zcJ P b R .ret a w:=by
 show LeavesInM Fence.wide 9 P b a.tmps R a.defers .returning w
 rw [hd]
 exact ⟨by simp,.inl ⟨_,_,rfl,run_takeDeferred d,⟨by simp,.inl ⟨_,_,rfl,run_takeDeferred ((World.putObj_heap_other (by omega)).trans c),v,f,e⟩⟩⟩⟩
theorem zkw (g c:Nat) (w:World) (a:w.cell? ⟨g,0,none⟩=some (.int .u32 0)) :
  Calls Tryz.prog 262 #[.slice (some ⟨g,0,none⟩) 1 c] w fun e b=>e=.returned (.slice (some ⟨g,0,none⟩) 0 0)∧b=w:=by
 go_enter Tryz.func262,Tryz.ntmps262
 go_wp2_with fail
 refine wp_loop_rounds 2 ?_
 rw [rounds_succ]
 go_wp2_with fail
 rw [rounds_succ]
 go_wp2_with fail
 go_ret
 exact ⟨rfl,rfl⟩
def jq (n:Nat):Nat:=if n=0 then 0 else jN (Lib.decDigits n)
theorem zdP (n:Nat):n / 10 ^ (9*jq n)=0:=by
 unfold jq
 split
 ·rename_i h
  subst h
  simp
 ·obtain ⟨a,b,c⟩:=qg n
  have:=zk9 b
  rw [a]at this
  exact this
theorem zhF {n:Nat} (h:0<n):0<jq n∧n / 10 ^ (9*(jq n - 1))≠0:=by
 obtain ⟨c,d,a⟩:=qg n
 have b:=zla d a (kj n n (Nat.le_refl _) h)
 rw [c]at b
 have f:0<(Lib.decDigits n).length:=by
  rcases Nat.eq_zero_or_pos (Lib.decDigits n).length with e | e
  ·exact absurd (List.eq_nil_of_length_eq_zero e) a
  ·exact e
 unfold jq
 rw [if_neg (by omega)]
 exact ⟨by unfold jN; omega,b⟩
theorem kJ {n:Nat} (hn:n<18446744073709551616):(Lib.decDigits n).length≤20:=by
 obtain ⟨a,b,c⟩:=qg n
 rcases Nat.eq_zero_or_pos n with e | e
 ·subst e
  rw [Lib.decDigits_one (by decide)]
  decide
 ·have d:=xk c b (kj n n (Nat.le_refl _) e)
  rw [a]at d
  apply Decidable.byContradiction
  intro hc
  have f:10 ^ 20≤10 ^ ((Lib.decDigits n).length - 1):=Nat.pow_le_pow_right (by decide) (by omega)
  have g:(10:Nat) ^ 20=100000000000000000000:=by decide
  omega
theorem zea {n:Nat} (hn:n<18446744073709551616):qR (bs (Lib.decDigits n))=true:=by
 obtain ⟨f,a,b⟩:=qg n
 have g:=kJ hn
 have d:0<(Lib.decDigits n).length:=by
  rcases Nat.eq_zero_or_pos (Lib.decDigits n).length with e | e
  ·exact absurd (List.eq_nil_of_length_eq_zero e) b
  ·exact e
 have c:decide (1<(Lib.decDigits n).length)=true→(Lib.decDigits n).head?≠some 48:=fun h=>zk2 n (of_decide_eq_true h)
 unfold qR
 rw [jR,yW,List.all_eq_true.2 a,decide_eq_true (by omega:1≤(Lib.decDigits n).length),decide_eq_true (by omega:(Lib.decDigits n).length≤400)]
 cases hq:decide (1<(Lib.decDigits n).length) with
 | false=>simp
 | true=>simp [c hq]
abbrev qB (n j:Nat):List Value:=(List.range j).map fun i=>Value.int .u32 (lim n i)
theorem wV (n j:Nat):qB n j++[.int .u32 (lim n j)]=qB n (j+1):=by
 unfold qB
 rw [List.range_succ,List.map_append]
 rfl
theorem zet {W:World} {base n k:Nat} {v:Value} (h:W.ownsRow base 226 1 v k (qB n k)) (q:0<k) :
  ∃ g c a,v=.slice (some ⟨g,0,none⟩) k c∧k≤c∧base≤g∧W.heap[g]? = some (.cells a 226 (0,0))∧qw W g n k:=by
 rcases h.2 with ⟨_,p⟩ | ⟨g,b,a,o,j,e,hn,hc,r,m⟩
 ·omega
 ·refine ⟨g,b,a,o,hn,j,e,fun i l=>?_⟩
  have f:Blk W g a 226:=e
  rw [f.cell i]
  have d:(a.toList.take (k*1))[i]? = some (Value.int .u32 (lim n i)):=by
   rw [m,List.getElem?_map,List.getElem?_range l]
   rfl
  rw [List.getElem?_take_of_lt (by omega)]at d
  simpa using d
def zai (W:World) (S:Nat→Prop) (n:Nat) (v:Value):Prop:=∃ g c cur,v=.slice (some ⟨g,0,none⟩) (jq n) c∧S g∧W.heap[g]? = some (.cells cur 226 (0,0))∧qw W g n (jq n)
theorem zai.keep {W W':World} {S S':Nat→Prop} {n:Nat} {v:Value} (h:zai W S n v) (l:∀ g b,S g→W.heap[g]? = some (.cells b 226 (0,0))→W'.heap[g]? = W.heap[g]?∧S' g):zai W' S' n v:=by
 obtain ⟨g,c,b,rfl,j,e,m⟩:=h
 obtain ⟨d,f⟩:=l g b j e
 exact ⟨g,c,b,rfl,f,d.trans e,fun i k=>(World.cell?_of_block (a:=⟨g,i,none⟩) d).trans (m i k)⟩
def OfI (s n:Nat) (w:World) (pre:List Nat) (W:World):Prop:=
 (∃ v,Blk W s #[v] 268∧W.ownsRow (s+2) 226 1 v pre.length (qB n pre.length))∧Below s w W∧s+2≤W.heap.size
def OfX (_:Code) (_:List Nat) (_:World):Prop:=False
def OfA (D:List UInt8) (T:Array Value) (pre:List Nat) (x:Nat) (a':Act) (_:World):Prop:=
 (x=pre.length∧pre.length<jN D)∧a'={ tmps:=(T.setIfInBounds 22 (.string (bs (grp D x)))).setIfInBounds 8 (.string (bs (grp D x))),defers:=[] }
theorem zhJ (s n:Nat) (w:World) {m:Nat} (i:s≤m) (j:s≤w.heap.size):OwnFrom m (OfI s n w):=by
 rintro k X Y b ⟨⟨v,d,f⟩,g,h⟩ a c
 exact ⟨⟨v,jx _ _ (fun _:Unit=>_) () X Y b d a (fun r e=>(c r e).2),vZ f a (fun r e=>(c r e).2)⟩,ownFrom_below (β:=Unit) j i () X Y b g a c,Nat.le_trans h a.size⟩
theorem zhR {n base:Nat} {W:World} {v:Value} (hn:n<18446744073709551616) (h:W.ownsRow base 226 1 v (jN (Lib.decDigits n)) (qB n (jN (Lib.decDigits n)))) :
  ∃ g c b,v=.slice (some ⟨g,0,none⟩) (jN (Lib.decDigits n)) c∧base≤g∧W.heap[g]? = some (.cells b 226 (0,0))∧qw W g n (jq n) ∧
   Calls Tryz.prog 262 #[.slice (some ⟨g,0,none⟩) (jN (Lib.decDigits n)) c] W fun e u=>e=.returned (.slice (some ⟨g,0,none⟩) (jq n) (jq n))∧u=W:=by
 obtain ⟨x,y,p⟩:=qg n
 have w:0<(Lib.decDigits n).length:=by
  rcases Nat.eq_zero_or_pos (Lib.decDigits n).length with e | e
  ·exact absurd (List.eq_nil_of_length_eq_zero e) p
  ·exact e
 have z:=kJ hn
 have d:0<jN (Lib.decDigits n):=by unfold jN; omega
 have m:jN (Lib.decDigits n)≤1000000:=by unfold jN; omega
 obtain ⟨g,c,b,rfl,hc,q,r,l⟩:=zet h d
 refine ⟨g,c,b,rfl,q,r,?_,?_⟩
 ·by_cases a:n=0
  ·subst a
   intro i s
   exact absurd s (by unfold jq; rw [if_pos rfl]; omega)
  ·unfold jq
   rw [if_neg a]
   exact l
 ·by_cases a:n=0
  ·subst a
   have j:=l 0 d
   have f:jN (Lib.decDigits 0)=1:=by rw [Lib.decDigits_one (by decide)]; rfl
   rw [show lim 0 0=0 from rfl]at j
   rw [f]at hc ⊢
   rw [show jq 0=0 from rfl]
   exact zkw g c W j
  ·obtain ⟨o,k⟩:=zhF (Nat.pos_of_ne_zero a)
   have f:jq n=jN (Lib.decDigits n):=by unfold jq; rw [if_neg a]
   rw [f]at o k ⊢
   have t:lim n (jN (Lib.decDigits n) - 1)≠0:=by
    rw [zdQ (by rw [show jN (Lib.decDigits n) - 1+1=jN (Lib.decDigits n) from by omega,← f]; exact zdP n)]
    exact k
   exact zeE g _ c _ d m hc t W (l _ (by omega))
theorem zay (v:Value):v.ownBlock=none∨v.ownBlock≠none:=Decidable.em _
theorem zgk {w:World} {base size n g:Nat} {e:TypeId} {v:Value} {xs:List Value} (h:w.ownsRow base e size v n xs) (b:v.ownBlock=some g):∃ a,w.heap[g]? = some (.cells a e (0,0)):=by
 rcases h.2 with ⟨rfl,_⟩ | ⟨c,f,a,rfl,_,d,_⟩
 ·cases b
 ·have:c=g:=by simpa [Value.ownBlock] using b
  subst this
  exact ⟨a,d⟩
theorem zeu {w:World} {base size n:Nat} {e:TypeId} {v:Value} {xs:List Value} (h:w.ownsRow base e size v n xs):∃ A m c,v=.slice A m c:=by
 rcases h.2 with ⟨rfl,_⟩ | ⟨g,a,b,rfl,_⟩
 ·exact ⟨_,_,_,rfl⟩
 ·exact ⟨_,_,_,rfl⟩
theorem wC {w:World} {base size n k:Nat} {e:TypeId} {v:Value} {xs:List Value} (h:w.ownsRow base e size v n xs) (a:k<base) (u:Value):(w.setCell ⟨k,0,none⟩ u).ownsRow base e size v n xs:=
 h.kept (jm w k 0 u) (by
  cases hv:v.ownBlock with
  | none=>exact .inl rfl
  | some q=>exact .inr (fun e=>by have:=(h.lt q hv).1; simp only [Option.some.injEq]at e; omega))
theorem zbQ {W:World} {k D:Nat} {b:Array Value} {t:TypeId} {z:Nat×Nat} {l:Option (List Deferred)} (h:W.heap[k]? = some (.cells b t z)) (a:W.heap[D]? = some (.deferred l)):k≠D:=fun e=>by
 subst e
 rw [h]at a
 cases a
theorem zmV (n m:Nat) (hn:n<18446744073709551616) (hm:m<18446744073709551616) (B:Nat) (w:World) (hA0:w.cell? ⟨B,0,none⟩=some (.string (bs (Lib.decDigits n)))) (cs:w.cell? ⟨B,1,none⟩=some (.string (bs (Lib.decDigits m)))) :
  Calls Tryz.prog 230 #[.slice (some ⟨B,0,none⟩) 2 2] w fun e w'=>Below w.heap.size w w'∧∃ A c v0 v1,e=.returned (.tuple #[.slice (some ⟨A,0,none⟩) 2 c,.int .i64 0])∧A<w'.heap.size∧w'.cell? ⟨A,0,none⟩=some v0∧w'.cell? ⟨A,1,none⟩=some v1 ∧
   zai w' (fun q=>w.heap.size≤q∧q<w'.heap.size) n v0∧zai w' (fun q=>w.heap.size≤q∧q<w'.heap.size) m v1:=by
 obtain ⟨i0,hi,bZ,aW,aX⟩:=info_parts zhA
 obtain ⟨i1,hj,bW,bX,bY⟩:=info_parts zjK
 have HI:=Lib.hid hi
 have bH:=Lib.hid bZ
 have bI:=Lib.hid aW
 have bJ:=Lib.hid aX
 have HJ:=Lib.hid hj
 have bE:=Lib.hid bW
 have bF:=Lib.hid bX
 have bG:=Lib.hid bY
 clear hi bZ aW aX hj bW bX bY
 have HR:=Lib.hid (fun (x:Nat) (hx:x<18446744073709551616) W=>(show Calls _ _ _ _ _ from zbu (bs (Lib.decDigits x)) (by rw [jR]; have:=kJ hx; omega) W))
 have ce:=World.block_lt_of_cell? w ⟨B,0,none⟩ hA0
 have a1:=Lib.hid hn
 have a0:=Lib.hid hm
 have bA:=Lib.hid (HR.out m hm)
 have bB:=Lib.hid (HR.out n hn)
 rw [zea hn]at bB
 rw [zea hm]at bA
 clear hn hm HR
 refine jo Tryz.func230 rfl ?_
 simp only [Tryz.ntmps230,List.size_toArray,List.length_cons,List.length_nil,Nat.reduceAdd,Nat.reduceSub,Array.replicate_succ,Array.replicate_zero,List.push_toArray,List.append_toArray,List.nil_append,List.cons_append]
 go_wp2_with fail
 refine wp_loop_rounds 3 ?_
 rw [rounds_succ]
 go_wp2_with fail
 refine (bB.out w).mono ?_
 rintro e h ⟨rfl,bV⟩
 go_wp2_with fail
 refine (zdn _ _).mono ?_
 rintro e w3a ⟨rfl,af⟩
 have cD:w3a.heap.size=h.heap.size+2:=by rw [← af]; simp
 have bj:Blk w3a h.heap.size #[.slice none 0 0] 268:=by rw [← af]; exact (Blk.new _ _ _).alloc _
 have be:Blk w3a (h.heap.size+1) #[.string (bs (Lib.decDigits n))] 9:=by
  have:=Blk.new (h.alloc (.cells #[.slice none 0 0] 268)) #[.string (bs (Lib.decDigits n))] 9
  rw [World.size_alloc]at this
  rw [← af]
  exact this
 have ba:Below h.heap.size h w3a:=by rw [← af]; exact ((Below.refl _ h).alloc (Nat.le_refl _) _).alloc (by simp) _
 clear af
 rw [World.size_alloc]
 go_wp2_with fail
 refine qz (gf:=276) (lb:=#[.pointer (some ⟨h.heap.size+1,0,none⟩)]) rfl (enters_of Tryz.func276 (by kernel_rfl) rfl)
  (zc6 h.heap.size (h.heap.size+1) (Lib.decDigits n) (by have:=kJ a1.out; omega)) ?hMv ?hA0 ?hKt ?hKb ?hps (OfI h.heap.size n h) OfX ?hI ?hIx ?hIM ?hIxM ?h0 ?hCt
  (OfA (Lib.decDigits n)) ?hAx ?assign ?body ?hS ?hSp ?done ?stop
 case hMv =>
  intro A B' k o hM hk O _
  exact (hM.block k (Array.getElem?_eq_some_iff.1 O).1 (fun e=>by cases e; omega)).trans O
 case hA0 =>
  intro o o'
  exact (be.alloc o).alloc o'
 case hKt =>
  intro A B' C E G
  exact zbr E G
 case hKb =>
  intro W l o o' hl O hc
  exact zdO W l o o' (by omega:h.heap.size≤w3a.heap.size) (by omega) hl O
 case hps=>intro x; rfl
 case hI=>exact zhJ _ _ _ (by omega) (Nat.le_refl _)
 case hIx =>
  intro c' s' X Y ai F _ _
  exact F
 case hIM =>
  rintro s' X Y ⟨⟨v,E,G⟩,h3,h4⟩ hg
  exact ⟨⟨v,E.kept hg (fun e=>by simp only [Option.some.injEq]at e; omega),G.kept hg (by
   cases hv:v.ownBlock with
   | none=>exact .inl rfl
   | some q=>exact .inr (fun e=>by have:=(G.lt q hv).1; simp only [Option.some.injEq]at e; omega))⟩,h3.grown hg h3.size (fun k e=>by cases e; omega),Nat.le_trans h4 hg.size⟩
 case hIxM =>
  rintro c' s' X Y F _
  exact F
 case h0=>exact ⟨⟨_,bj,World.ownsRow_nil _ _ _ _⟩,ba,by omega⟩
 case hCt=>intros; trivial
 case hAx =>
  intro f x a' _ X Y ai F _ _
  exact F
 case hS =>
  intro s' X Y ai F _ _
  exact F
 case hSp =>
  intro s' X Y ai F _ _
  exact F
 case assign =>
  rintro l f x W K hI hT hK
  have HK:=Lib.hid hK
  have aY:=Lib.hid hI
  rw [List.length_append,List.length_singleton,List.range_succ]at hT
  obtain ⟨Z,bi⟩:=hT
  obtain ⟨Z,J⟩:=List.append_inj' Z rfl
  have J:x=f.length:=by injection J
  have a2:=Lib.hid (show f.length<jN (Lib.decDigits n) by omega)
  have a3:=Lib.hid J
  clear hK hI Z bi J
  simp only [zif]
  gi_wp2
  exact HK.out _ _ (KeepsFrom.refl _ _) ⟨Below.refl _ _,fun _=>rfl⟩ aY.out ⟨⟨a3.out,a2.out⟩,rfl⟩
 case body =>
  rintro l f x a' W hl _ ⟨⟨v,E,G⟩,h3,h4⟩ ⟨⟨hx,ac⟩,rfl⟩
  obtain ⟨f1,f2,f3⟩:=qg n
  have ae:grp (Lib.decDigits n) x≠[]:=zjE (by unfold jN at ac; omega)
  have I:=zgf ae (zhy f2 x) (zbS _ x)
  rw [zhz f2,f1]at I
  have aO:=kJ a1.out
  have aF:=vo n x
  have aM:f.length≤100:=by unfold jN at ac; omega
  have HP:=Lib.hid (fun W=>Tryz.strconv_ParseUint_10_at32_ok (bs (grp (Lib.decDigits n) x)) (by rw [jR]; have:=zbS (Lib.decDigits n) x; omega) _ I W)
  have R:=Lib.hid (show qB n f.length++[.int .u32 (lim n x)]=qB n (f.length+1) by rw [hx]; exact wV _ _)
  obtain ⟨r,hr⟩:∃ r,lim n x=r:=⟨_,rfl⟩
  rw [hr]at HP R aF
  obtain ⟨gs,aB⟩:∃ gs,bs (grp (Lib.decDigits n) x)=gs:=⟨_,rfl⟩
  rw [aB]at HP ⊢
  have y1:IntKind.u32.wrap (r:Int)=r:=by rw [IntKind.wrap_u32]; omega
  obtain ⟨j,hj⟩:∃ j,f.length=j:=⟨_,rfl⟩
  rw [hj]at G aM R
  have aZ:=Lib.hid hj
  clear aF hr aB I ae hx ac aO f1 f2 f3 hj
  simp only [List.setIfInBounds_toArray,List.set_cons_zero,List.set_cons_succ]
  gi_wp2_with fail
  refine (callsIn_wide.2 (HP.out _)).mono ?_
  rintro e w2 ⟨rfl,aG⟩
  have z:Below W.heap.size W w2:=by
   rcases aG with rfl|rfl
   ·exact Below.refl _ _
   ·exact Lib.bytesWorld_below _ _ _
  have aX:=z.size
  have S:=E.below z E.lt
  have H:=vZ G (below_grown z none) (fun r e=>nomatch e)
  have z1:=S.cell 0
  have q1:=S.frozen 0
  clear aG HP G
  gi_wp2_with (gi_at_builtin; refine wpListIn_append_own _ rfl _ _ 268 rfl (h.heap.size+2) 226 i0 (.int .u32 0) 1 4 Tryz.underlying268 HI.out bH.out bI.out bJ.out rfl (by decide) _ _ _ rfl (H.alloc _) ⟨w2.heap.size,0,none⟩ 1 1 [.int .u32 r] rfl rfl (cell_one_new _ _ _) (by simp [Value.oneCell']) (by unfold maxLen; omega) (by omega) (by simp; omega) ?_; intro v' P M b _; obtain ⟨A4,n4,c4,rfl⟩:=zeu M; have aa:Blk P h.heap.size #[v] 268:=(S.alloc (.cells #[.int .u32 r] 226)).kept b (fun e=>by have:=(H.lt h.heap.size e.symm).1; omega); have z4:=aa.cell 0; have q4:=aa.frozen 0)
  have br:=b.size
  have cj:w2.heap.size+1≤P.heap.size:=by simpa using br
  have bl:=aa.set 0 (.slice A4 n4 c4)
  have N:∀ q,v.ownBlock=some q→∃ o:Obj,(w2.alloc (.cells #[.int .u32 r] 226)).heap[q]? = some o∧o.isCells=true:=fun q d=>xu (H.alloc _) d
  have ad:Below h.heap.size W (P.setCell ⟨h.heap.size,0,none⟩ (.slice A4 n4 c4)):=by
   refine Below.setCell (p:=⟨h.heap.size,0,none⟩) ?_ (Nat.le_refl _) _
   exact ((z.mono (show h.heap.size≤W.heap.size by omega)).alloc (show h.heap.size≤w2.heap.size by omega) _).grown b (by simp; omega) (fun q e=>by have:=(H.lt q (by first | exact e.symm | exact e)).1; omega)
  have bn:KeepsFrom w3a.heap.size W (P.setCell ⟨h.heap.size,0,none⟩ (.slice A4 n4 c4)):=by
   refine ((KeepsFrom.of_grownBy (below_grown z none) (fun j e=>nomatch e)).trans ((KeepsOthers.alloc w2 (.cells #[.int .u32 r] 226)).from _)).trans ?_
   refine KeepsFrom.trans ?_ ((KeepsOthers.setCell P _ _).from _)
   exact ⟨b.size,fun q o d hk O=>(b.block q (Array.getElem?_eq_some_iff.1 hk).1 (fun e=>by
    obtain ⟨o',aD,t⟩:=N q e.symm
    rw [hk]at aD
    cases aD
    rw [O]at t
    cases t)).trans hk⟩
  refine ⟨bn,⟨ad,?_⟩,⟨⟨_,bl,?_⟩,(h3.trans ad),by have:=ad.size; omega⟩⟩
  ·intro hb
   refine (Below.heap_setCell P ⟨h.heap.size,0,none⟩ (.slice A4 n4 c4) _ (by show h.heap.size+1≠h.heap.size; omega)).trans ?_
   refine (b.block _ (by simp; omega) (fun e=>by have:=(H.lt _ e.symm).1; omega)).trans ?_
   exact (Below.heap_alloc w2 _ _ (by omega)).trans (z.block _ hb)
  ·rw [List.length_append,List.length_singleton,aZ.out,← R.out]
   exact wC M (by omega) _
 case stop =>
  rintro D c' f W hD _ hx hK
  exact hx.elim
 case done =>
  rintro D xs W hD rfl ⟨⟨va,bK,a5⟩,bc,ck⟩ bh
  rw [List.length_range]at a5
  obtain ⟨ga,ca,b8,rfl,cS,bm,bP,bR⟩:=zhR a1.out a5
  clear a5 bj be ba
  have z1:=bK.cell 0
  have bC:=Lib.hid bR
  clear bR
  go_wp2_with fail
  refine bC.out.mono ?_
  rintro e w5 ⟨rfl,rfl⟩
  have aW:=bV.size
  go_wp2_with (at_builtin; refine wpList_append_own _ rfl _ _ 263 rfl w.heap.size 268 i1 (.slice none 0 0) 1 24 Tryz.underlying263 HJ.out bE.out bF.out bG.out rfl (by decide) _ _ _ rfl (World.ownsRow_nil _ _ _ _) ⟨w5.heap.size,0,none⟩ 1 1 [.slice (some ⟨ga,0,none⟩) (jq n) (jq n)] rfl rfl (cell_one_new _ _ _) (by simp [Value.oneCell']) (by unfold maxLen; omega) (by omega) (by simp; omega) ?_; intro v0 w6 aV ab _)
  have b0:=ab.size
  have cG:w5.heap.size+1≤w6.heap.size:=by simpa using b0
  have ap:Below w5.heap.size w5 w6:=((Below.refl _ w5).alloc (Nat.le_refl _) _).grown ab (by simp) (fun k e=>by cases e)
  have bd:Below w.heap.size w w6:=bV.trans ((bc.mono aW).trans (ap.mono (by omega)))
  have aS:=(Array.getElem?_eq_some_iff.1 bm).1
  have bp:zai w6 (fun q=>w.heap.size≤q∧q<w6.heap.size) n (.slice (some ⟨ga,0,none⟩) (jq n) (jq n)):=⟨ga,_,b8,rfl,⟨by omega,by omega⟩,(ap.block _ aS).trans bm,bP.below ap aS⟩
  have aA:w6.heap[D]? = some (.deferred (some [])):=(ap.block _ (Array.getElem?_eq_some_iff.1 bh).1).trans bh
  have ct:w6.cell? ⟨B,1,none⟩=some (.string (bs (Lib.decDigits m))):=(bd.cell (p:=⟨B,1,none⟩) ce).trans cs
  have cC:=(Array.getElem?_eq_some_iff.1 aA).1
  clear ab b0 bP bh bm bK z1 bc ck bC
  rw [rounds_succ]
  go_wp2_with fail
  refine (bA.out w6).mono ?_
  rintro e g ⟨rfl,al⟩
  have bN:=bd.trans (al.mono bd.size)
  have cU:=al.size
  clear ct
  go_wp2_with fail
  refine (zdn _ _).mono ?_
  rintro e w3b ⟨rfl,ag⟩
  have cE:w3b.heap.size=g.heap.size+2:=by rw [← ag]; simp
  have bk:Blk w3b g.heap.size #[.slice none 0 0] 268:=by rw [← ag]; exact (Blk.new _ _ _).alloc _
  have bf:Blk w3b (g.heap.size+1) #[.string (bs (Lib.decDigits m))] 9:=by
   have:=Blk.new (g.alloc (.cells #[.slice none 0 0] 268)) #[.string (bs (Lib.decDigits m))] 9
   rw [World.size_alloc]at this
   rw [← ag]
   exact this
  have bb:Below g.heap.size g w3b:=by rw [← ag]; exact ((Below.refl _ g).alloc (Nat.le_refl _) _).alloc (by simp) _
  clear ag
  rw [World.size_alloc]
  go_wp2_with fail
  refine qz (gf:=276) (lb:=#[.pointer (some ⟨g.heap.size+1,0,none⟩)]) rfl (enters_of Tryz.func276 (by kernel_rfl) rfl)
   (zc6 g.heap.size (g.heap.size+1) (Lib.decDigits m) (by have:=kJ a0.out; omega)) ?hMv ?hA0 ?hKt ?hKb ?hps (OfI g.heap.size m g) OfX ?hI ?hIx ?hIM ?hIxM ?h0 ?hCt
   (OfA (Lib.decDigits m)) ?hAx ?assign ?body ?hS ?hSp ?done ?stop
  case hMv =>
   intro A B' k o hM hk O _
   exact (hM.block k (Array.getElem?_eq_some_iff.1 O).1 (fun e=>by cases e; omega)).trans O
  case hA0 =>
   intro o o'
   exact (bf.alloc o).alloc o'
  case hKt =>
   intro A B' C E G
   exact zbr E G
  case hKb =>
   intro W l o o' hl O hc
   exact zdO W l o o' (by omega:g.heap.size≤w3b.heap.size) (by omega) hl O
  case hps=>intro x; rfl
  case hI=>exact zhJ _ _ _ (by omega) (Nat.le_refl _)
  case hIx =>
   intro c' s' X Y ai F _ _
   exact F
  case hIM =>
   rintro s' X Y ⟨⟨v,E,G⟩,h3,h4⟩ hg
   exact ⟨⟨v,E.kept hg (fun e=>by simp only [Option.some.injEq]at e; omega),G.kept hg (by
    cases hv:v.ownBlock with
    | none=>exact .inl rfl
    | some q=>exact .inr (fun e=>by have:=(G.lt q hv).1; simp only [Option.some.injEq]at e; omega))⟩,h3.grown hg h3.size (fun k e=>by cases e; omega),Nat.le_trans h4 hg.size⟩
  case hIxM =>
   rintro c' s' X Y F _
   exact F
  case h0=>exact ⟨⟨_,bk,World.ownsRow_nil _ _ _ _⟩,bb,by omega⟩
  case hCt=>intros; trivial
  case hAx =>
   intro f x a' _ X Y ai F _ _
   exact F
  case hS =>
   intro s' X Y ai F _ _
   exact F
  case hSp =>
   intro s' X Y ai F _ _
   exact F
  case assign =>
   rintro l f x W K hI hT hK
   have HK:=Lib.hid hK
   have aY:=Lib.hid hI
   rw [List.length_append,List.length_singleton,List.range_succ]at hT
   obtain ⟨Z,bi⟩:=hT
   obtain ⟨Z,J⟩:=List.append_inj' Z rfl
   have J:x=f.length:=by injection J
   have a2:=Lib.hid (show f.length<jN (Lib.decDigits m) by omega)
   have a3:=Lib.hid J
   clear hK hI Z bi J
   simp only [zif]
   gi_wp2
   exact HK.out _ _ (KeepsFrom.refl _ _) ⟨Below.refl _ _,fun _=>rfl⟩ aY.out ⟨⟨a3.out,a2.out⟩,rfl⟩
  case body =>
   rintro l f x a' W hl _ ⟨⟨v,E,G⟩,h3,h4⟩ ⟨⟨hx,ac⟩,rfl⟩
   obtain ⟨f1,f2,f3⟩:=qg m
   have ae:grp (Lib.decDigits m) x≠[]:=zjE (by unfold jN at ac; omega)
   have I:=zgf ae (zhy f2 x) (zbS _ x)
   rw [zhz f2,f1]at I
   have aO:=kJ a0.out
   have aF:=vo m x
   have aM:f.length≤100:=by unfold jN at ac; omega
   have HP:=Lib.hid (fun W=>Tryz.strconv_ParseUint_10_at32_ok (bs (grp (Lib.decDigits m) x)) (by rw [jR]; have:=zbS (Lib.decDigits m) x; omega) _ I W)
   have R:=Lib.hid (show qB m f.length++[.int .u32 (lim m x)]=qB m (f.length+1) by rw [hx]; exact wV _ _)
   obtain ⟨r,hr⟩:∃ r,lim m x=r:=⟨_,rfl⟩
   rw [hr]at HP R aF
   obtain ⟨gs,aB⟩:∃ gs,bs (grp (Lib.decDigits m) x)=gs:=⟨_,rfl⟩
   rw [aB]at HP ⊢
   have y1:IntKind.u32.wrap (r:Int)=r:=by rw [IntKind.wrap_u32]; omega
   obtain ⟨j,hj⟩:∃ j,f.length=j:=⟨_,rfl⟩
   rw [hj]at G aM R
   have aZ:=Lib.hid hj
   clear aF hr aB I ae hx ac aO f1 f2 f3 hj
   simp only [List.setIfInBounds_toArray,List.set_cons_zero,List.set_cons_succ]
   gi_wp2_with fail
   refine (callsIn_wide.2 (HP.out _)).mono ?_
   rintro e w2 ⟨rfl,aG⟩
   have z:Below W.heap.size W w2:=by
    rcases aG with rfl|rfl
    ·exact Below.refl _ _
    ·exact Lib.bytesWorld_below _ _ _
   have aX:=z.size
   have S:=E.below z E.lt
   have H:=vZ G (below_grown z none) (fun r e=>nomatch e)
   have z1:=S.cell 0
   have q1:=S.frozen 0
   clear aG HP G
   gi_wp2_with (gi_at_builtin; refine wpListIn_append_own _ rfl _ _ 268 rfl (g.heap.size+2) 226 i0 (.int .u32 0) 1 4 Tryz.underlying268 HI.out bH.out bI.out bJ.out rfl (by decide) _ _ _ rfl (H.alloc _) ⟨w2.heap.size,0,none⟩ 1 1 [.int .u32 r] rfl rfl (cell_one_new _ _ _) (by simp [Value.oneCell']) (by unfold maxLen; omega) (by omega) (by simp; omega) ?_; intro v' P M b _; obtain ⟨A4,n4,c4,rfl⟩:=zeu M; have aa:Blk P g.heap.size #[v] 268:=(S.alloc (.cells #[.int .u32 r] 226)).kept b (fun e=>by have:=(H.lt g.heap.size e.symm).1; omega); have z4:=aa.cell 0; have q4:=aa.frozen 0)
   have br:=b.size
   have cj:w2.heap.size+1≤P.heap.size:=by simpa using br
   have bl:=aa.set 0 (.slice A4 n4 c4)
   have N:∀ q,v.ownBlock=some q→∃ o:Obj,(w2.alloc (.cells #[.int .u32 r] 226)).heap[q]? = some o∧o.isCells=true:=fun q d=>xu (H.alloc _) d
   have ad:Below g.heap.size W (P.setCell ⟨g.heap.size,0,none⟩ (.slice A4 n4 c4)):=by
    refine Below.setCell (p:=⟨g.heap.size,0,none⟩) ?_ (Nat.le_refl _) _
    exact ((z.mono (show g.heap.size≤W.heap.size by omega)).alloc (show g.heap.size≤w2.heap.size by omega) _).grown b (by simp; omega) (fun q e=>by have:=(H.lt q (by first | exact e.symm | exact e)).1; omega)
   have bn:KeepsFrom w3b.heap.size W (P.setCell ⟨g.heap.size,0,none⟩ (.slice A4 n4 c4)):=by
    refine ((KeepsFrom.of_grownBy (below_grown z none) (fun j e=>nomatch e)).trans ((KeepsOthers.alloc w2 (.cells #[.int .u32 r] 226)).from _)).trans ?_
    refine KeepsFrom.trans ?_ ((KeepsOthers.setCell P _ _).from _)
    exact ⟨b.size,fun q o d hk O=>(b.block q (Array.getElem?_eq_some_iff.1 hk).1 (fun e=>by
     obtain ⟨o',aD,t⟩:=N q e.symm
     rw [hk]at aD
     cases aD
     rw [O]at t
     cases t)).trans hk⟩
   refine ⟨bn,⟨ad,?_⟩,⟨⟨_,bl,?_⟩,(h3.trans ad),by have:=ad.size; omega⟩⟩
   ·intro hb
    refine (Below.heap_setCell P ⟨g.heap.size,0,none⟩ (.slice A4 n4 c4) _ (by show g.heap.size+1≠g.heap.size; omega)).trans ?_
    refine (b.block _ (by simp; omega) (fun e=>by have:=(H.lt _ e.symm).1; omega)).trans ?_
    exact (Below.heap_alloc w2 _ _ (by omega)).trans (z.block _ hb)
   ·rw [List.length_append,List.length_singleton,aZ.out,← R.out]
    exact wC M (by omega) _
  case stop =>
   rintro D c' f W hD _ hx hK
   exact hx.elim
  case done =>
   rintro D2 xs W2 bO rfl ⟨⟨vb,bL,a6⟩,T,cF⟩ hKb
   rw [List.length_range]at a6
   obtain ⟨gb,cb,b9,rfl,cT,aC,bQ,bS⟩:=zhR a0.out a6
   clear a6 bk bf bb
   have z2:=bL.cell 0
   have bD:=Lib.hid bS
   clear bS
   have a9:=bN.trans (T.mono bN.size)
   have u:=aV.kept (below_grown al none) (zay _)
   have u:=u.kept (below_grown T none) (zay _)
   have ch:=a9.size
   have Q:=(bp.keep (W':=g) (S':=fun q=>w.heap.size≤q∧q<g.heap.size) (fun q y d _=>⟨al.block q d.2,d.1,Nat.lt_of_lt_of_le d.2 al.size⟩))
   have Q:=(Q.keep (W':=W2) (S':=fun q=>w.heap.size≤q∧q<W2.heap.size) (fun q y d _=>⟨T.block q d.2,d.1,Nat.lt_of_lt_of_le d.2 T.size⟩))
   have bg:W2.heap[D]? = some (.deferred (some [])):=(T.block D (by have:=(Array.getElem?_eq_some_iff.1 aA).1; omega)).trans ((al.block D (Array.getElem?_eq_some_iff.1 aA).1).trans aA)
   have bz:=Lib.hid Q
   have aI:=Lib.hid bg
   clear aA bg bp Q aV
   go_wp2_with fail
   refine bD.out.mono ?_
   rintro e aj ⟨rfl,rfl⟩
   go_wp2_with (at_builtin; refine wpList_append_own _ rfl _ _ 263 rfl w.heap.size 268 i1 (.slice none 0 0) 1 24 Tryz.underlying263 HJ.out bE.out bF.out bG.out rfl (by decide) _ _ _ rfl (u.alloc _) ⟨aj.heap.size,0,none⟩ 1 1 [.slice (some ⟨gb,0,none⟩) (jq m) (jq m)] rfl rfl (cell_one_new _ _ _) (by simp [Value.oneCell']) (by unfold maxLen; omega) (by omega) (by simp; omega) ?_; intro v1 w11 aE s _)
   have s:(aj.alloc (.cells #[.slice (some ⟨gb,0,none⟩) (jq m) (jq m)] 268)).grownBy w11 v0.ownBlock:=s
   have ci:=s.size
   have cB:aj.heap.size+1≤w11.heap.size:=by simpa using ci
   have cd:Below w.heap.size w w11:=(a9.alloc ch _).grown s (by simp; omega) (fun q e=>by have:=(u.lt q (by first | exact e.symm | exact e)).1; omega)
   have L:∀ q o,aj.heap[q]? = some o→some q≠v0.ownBlock→w11.heap[q]? = some o:=fun q o d cx=>(s.block q (by have:=(Array.getElem?_eq_some_iff.1 d).1; simp; omega) cx).trans ((Below.heap_alloc aj _ _ (Array.getElem?_eq_some_iff.1 d).1).trans d)
   have aQ:∀ q y,aj.heap[q]? = some (.cells y 226 (0,0))→some q≠v0.ownBlock:=fun q y d e=>by
    obtain ⟨c',t⟩:=zgk u e.symm
    rw [d]at t
    injection t with t
    injection t with _ t
    exact absurd t (by decide)
   have aP:∀ q l,aj.heap[q]? = some (.deferred l)→some q≠v0.ownBlock:=fun q l d e=>by
    obtain ⟨c',t⟩:=zgk u e.symm
    rw [d]at t
    cases t
   have U:=L D _ aI.out (aP D _ aI.out)
   have V:=L D2 _ hKb (aP D2 _ hKb)
   have aT:=bz.out.keep (W':=w11) (S':=fun q=>w.heap.size≤q∧q<w11.heap.size) (fun q y d hc=>⟨(L q _ hc (aQ q _ hc)).trans hc.symm,d.1,by have:=d.2; omega⟩)
   have cA:=(Array.getElem?_eq_some_iff.1 aC).1
   have aN:=L gb _ aC (aQ gb _ aC)
   have aU:zai w11 (fun q=>w.heap.size≤q∧q<w11.heap.size) m (.slice (some ⟨gb,0,none⟩) (jq m) (jq m)):=⟨gb,_,b9,rfl,⟨by omega,by omega⟩,aN,fun i hi=>(World.cell?_of_block (a:=⟨gb,i,none⟩) (aN.trans aC.symm)).trans (bQ i hi)⟩
   rcases aE.2 with ⟨_,h0⟩ | ⟨A,cap,y,rfl,cO,az,cQ,cP,cv,a8⟩
   ·exact absurd h0 (by decide)
   have bO:D2≠D:=by omega
   have cq:=Lib.hid (show zai ((w11.putObj D2 (.deferred none)).putObj D (.deferred none)) (fun q=>w.heap.size≤q∧q<((w11.putObj D2 (.deferred none)).putObj D (.deferred none)).heap.size) m _ from aU.keep (fun q y d hc=>⟨(World.putObj_heap_other (zbQ hc U)).trans (World.putObj_heap_other (zbQ hc V)),d.1,by simpa [World.putObj] using d.2⟩))
   have cr:=Lib.hid (show zai ((w11.putObj D2 (.deferred none)).putObj D (.deferred none)) (fun q=>w.heap.size≤q∧q<((w11.putObj D2 (.deferred none)).putObj D (.deferred none)).heap.size) n _ from aT.keep (fun q y d hc=>⟨(World.putObj_heap_other (zbQ hc U)).trans (World.putObj_heap_other (zbQ hc V)),d.1,by simpa [World.putObj] using d.2⟩))
   have cu:=(Array.getElem?_eq_some_iff.1 az).1
   have bM:Blk ((w11.putObj D2 (.deferred none)).putObj D (.deferred none)) A y 268:=(World.putObj_heap_other (zbQ az U)).trans ((World.putObj_heap_other (zbQ az V)).trans az)
   have cR:y.size=cap:=by simpa using cv
   have bT:y[0]? = some (.slice (some ⟨ga,0,none⟩) (jq n) (jq n)):=by
    have E:(y.toList.take ((0+1+1)*1))[0]? = _:=congrArg (fun l=>l[0]?) a8
    rw [List.getElem?_take_of_lt (by decide)]at E
    simpa using E
   have bU:y[1]? = some (.slice (some ⟨gb,0,none⟩) (jq m) (jq m)):=by
    have E:(y.toList.take ((0+1+1)*1))[1]? = _:=congrArg (fun l=>l[1]?) a8
    rw [List.getElem?_take_of_lt (by decide)]at E
    simpa using E
   have bx:=Lib.hid bM
   have cm:=Lib.hid bT
   have cn:=Lib.hid bU
   have b3:=Lib.hid U
   have b4:=Lib.hid V
   clear s aE L aQ aP U V aT aU a8 az bM bT bU u aN aC bQ bL hKb z2 bD bz aI
   rw [rounds_succ]
   go_wp2_with fail
   refine znp (v:=.tuple #[.slice (some ⟨A,0,none⟩) 2 cap,.int .i64 0]) bO b4.out b3.out (by simp [results,Tryz.results230,go_sem]) rfl ⟨jX (jX cd (by omega) (by omega) _) (by omega) (by simp [World.putObj]; omega) _,A,cap,_,_,rfl,by simpa [World.putObj] using cu,(bx.out.cell 0).trans cm.out,(bx.out.cell 1).trans cn.out,cr.out,cq.out⟩
end Go.Proofs.YtonihophanmaaaaGreatDoor
