/- The texts NatC, put together. -/
import Derived.Test.YtonihophanmaaaaGreatDoorPc39
set_option maxHeartbeats 4000000
set_option maxRecDepth 100000
namespace Go.Proofs.YtonihophanmaaaaGreatDoor
open Go.RowKit Go.Shelf
attribute [local go_sem] Oper.semAt_some qi jA
theorem zk8 (u:Nat) (b:u<18446744073709551616) (w:World) (a:Lib.TabIs Tryz.prog w "internal/strconv.uint64pow10" .u64 Lib.pow10Tab) :
  Calls Tryz.prog 233 #[.int .u64 u,.int .i64 10] w fun e w'=>e=.returned (.string (bs (Lib.decDigits u)))∧Below w.heap.size w w':=by
 go_enter Tryz.func233,Tryz.ntmps233
 go_wp2_with fail
 refine (zhw u b _ a).mono ?_
 rintro e w' ⟨rfl,k,os,rfl⟩
 go_wp2_with fail
 go_ret
 exact ⟨rfl,(show Below w.heap.size w (w.drewN k) from ⟨rfl,rfl,rfl,Nat.le_refl _,fun _ _=>rfl⟩).trans (za4 (w.drewN k) os)⟩
def xS (N k j:Nat):List UInt8:=if j=0 then [] else Lib.decDigits (N / 10 ^ (9*(k - j)))
theorem zeG {N k:Nat} (b:0<k) (a:N / 10 ^ (9*k)=0):xS N k 1=Lib.decDigits (lim N (k - 1)):=by
 unfold xS
 rw [if_neg (by decide),zdQ (by rw [show k - 1+1=k from by omega]; exact a)]
theorem zgE {N k j:Nat} (f:0<j) (b:j<k) (a:N / 10 ^ (9*(k - 1))≠0):xS N k (j+1)=xS N k j++ziI (lim N (k - (j+1))):=by
 unfold xS
 rw [if_neg (by omega),if_neg (by omega),zkr (i:=k - (j+1)),show k - (j+1)+1=k - j from by omega]
 intro e
 apply a
 rw [show k - (j+1)+1=k - j from by omega]at e
 have c:N<10 ^ (9*(k - j)):=(Nat.div_eq_zero_iff_lt (Nat.pow_pos (by decide))).1 e
 have d:10 ^ (9*(k - j))≤10 ^ (9*(k - 1)):=Nat.pow_le_pow_right (by decide) (by omega)
 exact Nat.div_eq_of_lt (by omega)
theorem zbz:∀ n:Nat,Lib.repeatL [48] n=List.replicate n 48
 | 0=>rfl
 | n+1=>by
  rw [List.replicate_succ,← zbz n]
  rfl
theorem zlN (n:Nat):(⟨(Lib.repeatL [48] n).toArray⟩:ByteArray).size=n:=by
 rw [zbz]
 simp [ByteArray.size]
theorem zcl {r:Nat} (d:r<1000000000):(Lib.decDigits r).length≤9:=by
 obtain ⟨c1,c2,c3⟩:=qg r
 rcases Nat.eq_zero_or_pos r with e | e
 ·subst e
  rw [Lib.decDigits_one (by decide)]
  decide
 ·have a:=xk c3 c2 (kj r r (Nat.le_refl _) e)
  rw [c1]at a
  apply Decidable.byContradiction
  intro hc
  have b:10 ^ 9≤10 ^ ((Lib.decDigits r).length - 1):=Nat.pow_le_pow_right (by decide) (by omega)
  have c:(10:Nat) ^ 9=1000000000:=by decide
  omega
theorem zd2 {N k:Nat} (b:N / 10 ^ (9*(k - 1))≠0):∀ {j:Nat},j≤k→(a:N / 10 ^ (9*k)=0)→(xS N k j).length≤9*j
 | 0,_,_=>by simp [xS]
 | 1,c,a=>by
  rw [zeG (by omega) a]
  exact zcl (vo _ _)
 | j+2,c,a=>by
  rw [zgE (by omega) (by omega) b]
  have:=zd2 b (j:=j+1) (by omega) a
  have d:=zcl (vo N (k - (j+1+1)))
  unfold ziI
  simp only [List.length_append,List.length_replicate]
  omega
def znc (n N k c g:Nat) (w:World) (pre:List Nat) (W:World):Prop:=
 (IsB (n+1) (n+1) (Lib.byteCells (xS N k pre.length)) W∧Blk W n #[.slice (some ⟨g,0,none⟩) k c] 268∧Blk W (n+2) #[.slice (some ⟨g,0,none⟩) k c] 268)∧Below n w W
def zn6 (_:Code) (_:List Nat) (_:World):Prop:=False
def zn5 (N k:Nat) (T:Array Value) (pre:List Nat) (x:Nat) (a':Act) (_:World):Prop:=
 (pre=List.range pre.length∧x=pre.length∧pre.length<k)∧a'={ tmps:=(((T.setIfInBounds 12 (.int .i64 ((k - 1 - x:Nat):Int))).setIfInBounds 13 (.int .u32 (lim N (k - 1 - x)))).setIfInBounds 4 (.int .i64 ((k - 1 - x:Nat):Int))).setIfInBounds 5 (.int .u32 (lim N (k - 1 - x))),defers:=[] }
theorem zl5 (n N k c g:Nat) (w:World) {m:Nat} (i:n≤m) (h:n≤w.heap.size):OwnFrom m (znc n N k c g w):=by
 refine fun s X Y a f b d=>⟨⟨?_,?_,?_⟩,?_⟩
 ·exact zbn f.1.1 b (fun r e=>.inr (d r e).2)
 ·exact jx _ _ (fun _:Unit=>_) () X Y a f.1.2.1 b (fun r e=>(d r e).2)
 ·exact jx _ _ (fun _:Unit=>_) () X Y a f.1.2.2 b (fun r e=>(d r e).2)
 ·exact ownFrom_below (β:=Unit) h i () X Y a f.2 b d
theorem zly (g k c N:Nat) (aE:0<k) (bk:k≤1000) (w:World) (hg:g<w.heap.size) (hL:qw w g N k) (h0:N / 10 ^ (9*k)=0) (ht:N / 10 ^ (9*(k - 1))≠0) (ah:Lib.TabIs Tryz.prog w "internal/strconv.uint64pow10" .u64 Lib.pow10Tab) :
  Calls Tryz.prog 263 #[.slice (some ⟨g,0,none⟩) k c] w fun e w'=>e=.returned (.string (bs (Lib.decDigits N)))∧Below w.heap.size w w':=by
 have a4:=Lib.hid (Lib.tabBelow_of_tabIs ah)
 have aa:Below w.heap.size w (w.alloc (.cells #[.slice (some ⟨g,0,none⟩) k c] 268)):=(Below.refl _ w).alloc (Nat.le_refl _) _
 have E:=Blk.new w #[.slice (some ⟨g,0,none⟩) k c] 268
 have ab:=aa.alloc aa.size (.cells #[.pointer none,.slice none 0 0] 97)
 have F:=E.alloc (.cells #[.pointer none,.slice none 0 0] 97)
 have z0:=E.cell 0
 have z1:=F.cell 0
 have y0:((k:Int) == 0)=false:=by rw [beq_eq_false_iff_ne]; omega
 have HL:=Lib.hid hL
 have HT:=Lib.hid ht
 have H0:=Lib.hid h0
 have aW:=Lib.hid aE
 clear ah hL ht h0
 refine jo Tryz.func263 rfl ?_
 simp only [Tryz.ntmps263,List.size_toArray,List.length_cons,List.length_nil,Nat.reduceAdd,Nat.reduceSub,Array.replicate_succ,Array.replicate_zero,List.push_toArray,List.append_toArray,List.nil_append,List.cons_append]
 go_wp2_with fail
 refine (zkR _ _ _ _).mono ?_
 rintro e w3 ⟨rfl,p⟩
 have bK:w3.heap.size=w.heap.size+3:=by rw [← p]; simp
 have aG:Blk w3 w.heap.size #[.slice (some ⟨g,0,none⟩) k c] 268:=by rw [← p]; exact F.alloc _
 have aA:IsB (w.heap.size+1) (w.heap.size+1) [] w3:=by
  refine .inl ⟨by omega,.slice none 0 0,?_,World.ownsRowF_nil _ _ _ _,by simp [Value.ownBlock]⟩
  have:=(Blk.new (w.alloc (.cells #[.slice (some ⟨g,0,none⟩) k c] 268)) #[.pointer none,.slice none 0 0] 97).alloc (.cells #[.slice (some ⟨g,0,none⟩) k c] 268)
  rw [World.size_alloc]at this
  rw [← p]
  exact this
 have V:Blk w3 (w.heap.size+2) #[.slice (some ⟨g,0,none⟩) k c] 268:=by
  have:=Blk.new ((w.alloc (.cells #[.slice (some ⟨g,0,none⟩) k c] 268)).alloc (.cells #[.pointer none,.slice none 0 0] 97)) #[.slice (some ⟨g,0,none⟩) k c] 268
  rw [World.size_alloc,World.size_alloc]at this
  rw [← p]
  exact this
 have ay:Below w.heap.size w w3:=by rw [← p]; exact ab.alloc ab.size _
 clear aa ab E F z0 z1 p
 rw [World.size_alloc,World.size_alloc]
 go_wp2_with fail
 refine qz (gf:=287) (lb:=#[.pointer (some ⟨w.heap.size+1+1,0,none⟩)]) rfl (enters_of Tryz.func287 (by kernel_rfl) rfl)
  (zfh (w.heap.size+1) (w.heap.size+2) g k c N (by omega) (by omega)) ?hMv ?hA0 ?hKt ?hKb ?hps (znc w.heap.size N k c g w) zn6 ?hI ?hIx ?hIM ?hIxM ?h0 ?hCt
  (zn5 N k) ?hAx ?assign ?body ?hS ?hSp ?done ?stop
 case hMv =>
  rintro A B k o rfl hk ho _
  exact ho
 case hA0 =>
  intro o o'
  exact ⟨(V.alloc o).alloc o',(HL.out.below ay hg).below (((Below.refl w3.heap.size w3).alloc (Nat.le_refl _) o).alloc (by simp) o') (by omega)⟩
 case hKt =>
  intro A B C m n
  exact zbr m n
 case hKb =>
  intro W l o o' hl ho hc
  exact zdO W l o o' (by omega:w.heap.size+1≤w3.heap.size) (by omega) hl ho
 case hps=>intro x; rfl
 case hI=>exact zl5 _ _ _ _ _ _ (by omega) (Nat.le_refl _)
 case hIx =>
  intro c' s' X Y al h _ _
  exact h
 case hIM =>
  rintro s' X Y h rfl
  exact h
 case hIxM =>
  rintro c' s' X Y h rfl
  exact h
 case h0=>exact ⟨⟨aA,aG,V⟩,ay⟩
 case hCt=>intros; trivial
 case hAx =>
  intro q x a' _ X Y al h _ _
  exact h
 case hS =>
  intro s' X Y al h _ _
  exact h
 case hSp =>
  intro s' X Y al h _ _
  exact h
 case assign =>
  rintro l q x W K hI hT Q
  have HK:=Lib.hid Q
  have HI:=Lib.hid hI
  rw [List.length_append,List.length_singleton,List.range_succ]at hT
  obtain ⟨J,bh⟩:=hT
  obtain ⟨J,L⟩:=List.append_inj' J rfl
  have L:x=q.length:=by injection L
  have a1:=Lib.hid J
  have a2:=Lib.hid (show q.length<k by omega)
  have a3:=Lib.hid L
  clear Q hI J bh L
  simp only [zkQ]
  gi_wp2
  exact HK.out _ _ (KeepsFrom.refl _ _) ⟨Below.refl _ _,fun _=>rfl⟩ HI.out ⟨⟨a1.out,a3.out,a2.out⟩,rfl⟩
 case body =>
  rintro l q x a' W hl _ ⟨⟨m,n,s⟩,z⟩ ⟨⟨hp,hx,af⟩,rfl⟩
  have hz:=z.size
  have z0:=n.cell 0
  obtain ⟨j,hj⟩:∃ j,q.length=j:=⟨_,rfl⟩
  rw [hj]at hx m af
  subst hx
  obtain ⟨i,hi⟩:∃ i,k - 1 - x=i:=⟨_,rfl⟩
  rw [hi]
  obtain ⟨r,hr⟩:∃ r,lim N i=r:=⟨_,rfl⟩
  have ag:=vo N i
  rw [hr]at ag ⊢
  have bj:=zcl ag
  have ai:=zd2 HT.out (j:=x) (by omega) H0.out
  have HF:=Lib.hid (zk8 r (by omega) W (a4.out W z))
  have HR:=Lib.hid hr
  have y1:IntKind.u64.wrap (r:Int)=r:=by rw [IntKind.wrap_u64]; omega
  have y2:(r:Int)<1000000000:=by omega
  clear hr hp
  simp only [List.setIfInBounds_toArray,List.set_cons_zero,List.set_cons_succ]
  obtain ⟨ds,O⟩:∃ ds,bs (Lib.decDigits r)=ds:=⟨_,rfl⟩
  have ad:ds.size=(Lib.decDigits r).length:=by rw [← O]; rfl
  rw [O]at HF
  have av:=Lib.hid O
  have y3:ds.size≤9:=by omega
  obtain ⟨cz,aD⟩:∃ cz,9 - ds.size=cz:=⟨_,rfl⟩
  have y5:(9:Int) - (ds.size:Int)=(cz:Int):=by omega
  have y6:cz≤9:=by omega
  have hZ:=Lib.hid (fun (W:World)=>Tryz.strings_Repeat ⟨#[48]⟩ cz W (by omega) (by show 1*cz≤140737488355328; omega))
  have aT:=Lib.hid aD
  have aU:=Lib.hid ad
  clear O ad bj ag aD
  gi_wp2_with fail
  refine (callsIn_wide.2 HF.out).mono ?_
  rintro e w4 ⟨rfl,a⟩
  have bq:=a.size
  have t:=zbn m (below_grown a none) (fun r e=>nomatch e)
  have H:=n.below a n.lt
  have I:=s.below a s.lt
  have az:=z.trans (a.mono (by omega))
  have z4:=H.cell 0
  have bz:=n.lt
  have aJ:=s.lt
  clear m HF z0
  obtain ⟨tx,aj⟩:∃ tx,xS N k x=tx:=⟨_,rfl⟩
  rw [aj]at t ai
  have aw:=Lib.hid aj
  have HI:=Lib.hid hi
  have ap:(x=0∧(k:Int) - 1=i)∨(x≠0∧(i:Int)<(k:Int) - 1):=by omega
  have R:=Lib.hid ai
  have G:=Lib.hid af
  have HJ:=Lib.hid hj
  clear aj hi ai af hj
  rcases ap with ⟨u,y4⟩ | ⟨u,y4⟩
  ·have S:=Lib.hid u
   have hW:=Lib.hid (wi (w.heap.size+1) (w.heap.size+1) _ ds w4 t (by rw [Lib.byteCells_length]; have:=R.out; have:=G.out; omega) (by omega))
   clear u hZ
   gi_wp2_with fail
   refine (callsIn_wide.2 hW.out).mono ?_
   rintro e w5 ⟨rfl,U,f,b⟩
   have y:=Lib.hid (show Lib.byteCells (xS N k (x+1))=Lib.byteCells tx++Lib.strCells ds from by
    have e1:=S.out
    have e2:=HI.out
    have e3:=aw.out
    subst e1
    rw [zeG aW.out H0.out,show k - 1=i from e2,HR.out,← av.out,← e3]
    rfl)
   gi_wp2_with fail
   have be:=az.trans (f.mono (by omega))
   refine ⟨(KeepsFrom.of_grownBy (below_grown a none) (fun j e=>nomatch e)).trans (yK b f.size t),⟨?_,?_⟩,⟨⟨?_,?_,?_⟩,be⟩⟩
   ·exact (a.mono (by omega)).trans f
   ·intro _
    exact (kp b I (by omega) (by decide)).trans s.symm
   ·rw [List.length_append,List.length_singleton,HJ.out,y.out]
    exact U.is
   ·exact kp b H (by omega) (by decide)
   ·exact kp b I (by omega) (by decide)
  ·have S:=Lib.hid u
   clear u
   gi_wp2_with fail
   refine (callsIn_wide.2 (hZ.out _)).mono ?_
   rintro e w5 ⟨rfl,d⟩
   have br:=d.size
   have aB:=zbn t (below_grown d none) (fun r e=>nomatch e)
   have ba:=H.below d H.lt
   have bc:=I.below d I.lt
   have bd:=az.trans (d.mono (by omega))
   have ac:=a.trans (d.mono a.size)
   obtain ⟨zs,P⟩:∃ zs:ByteArray,⟨(Lib.repeatL [48] cz).toArray⟩=zs:=⟨_,rfl⟩
   have ak:=zlN cz
   rw [P]at ak
   have a5:=Lib.hid ak
   rw [P]
   have a6:=Lib.hid P
   have hW:=Lib.hid (wi (w.heap.size+1) (w.heap.size+1) _ zs w5 aB (by rw [Lib.byteCells_length]; have:=R.out; have:=G.out; omega) (by omega))
   clear P ak hZ t z4 d y5
   gi_wp2_with fail
   refine (callsIn_wide.2 hW.out).mono ?_
   rintro e w6 ⟨rfl,T,M,ae⟩
   have bL:=M.size
   have bb:=kp ae ba (by omega) (by decide)
   have ax:=kp ae bc (by omega) (by decide)
   have bi:=Lib.hid (wi (w.heap.size+1) (w.heap.size+1) _ ds w6 T.is (by rw [List.length_append,Lib.byteCells_length,Lib.strCells_length]; have:=R.out; have:=G.out; have:=a5.out; omega) (by omega))
   have aK:=T.is
   clear hW T
   gi_wp2_with fail
   refine (callsIn_wide.2 bi.out).mono ?_
   rintro e w7 ⟨rfl,U,f,b⟩
   have y:=Lib.hid (show Lib.byteCells (xS N k (x+1))=Lib.byteCells tx++Lib.strCells zs++Lib.strCells ds from by
    have e1:=S.out
    have e2:=HI.out
    have e3:=aw.out
    have e4:=G.out
    rw [zgE (by omega) e4 HT.out,e3,show k - (x+1)=i from by omega,HR.out,← av.out,← a6.out,zbz,Lib.byteCells_append,← aT.out,aU.out]
    unfold ziI
    rw [Lib.byteCells_append,List.append_assoc]
    rfl)
   gi_wp2_with fail
   have bf:=bd.trans ((M.trans f).mono (by omega))
   refine ⟨((KeepsFrom.of_grownBy (below_grown ac none) (fun j e=>nomatch e)).trans (yK ae M.size aB)).trans (yK b f.size aK),⟨?_,?_⟩,⟨⟨?_,?_,?_⟩,bf⟩⟩
   ·exact (ac.mono (by omega)).trans (M.trans f)
   ·intro _
    exact (kp b ax (by omega) (by decide)).trans s.symm
   ·rw [List.length_append,List.length_singleton,HJ.out,y.out]
    exact U.is
   ·exact kp b bb (by omega) (by decide)
   ·exact kp b ax (by omega) (by decide)
 case done =>
  rintro D xs W hD rfl ⟨⟨m,n,s⟩,z⟩ Q
  rw [List.length_range]at m
  have hq:xS N k k=Lib.decDigits N:=by
   unfold xS
   rw [if_neg (by omega),Nat.sub_self,Nat.mul_zero,Nat.pow_zero,Nat.div_one]
  rw [hq]at m
  have HS:=Lib.hid (fun (W:World) n hz=>Tryz.Builder_String_any_k (w.heap.size+1) (w.heap.size+1) (Lib.decDigits N) W n hz)
  have H1:=Lib.hid m
  have HK:=Lib.hid Q
  have bq:=z.size
  have aJ:=s.lt
  obtain ⟨ans,Z⟩:∃ ans,bs (Lib.decDigits N)=ans:=⟨_,rfl⟩
  have bu:=Lib.hid Z
  clear hq m Q Z n s y0 aE bk aG aA V
  go_wp2_with fail
  refine (HS.out W H1.out (by omega)).mono ?_
  rintro e w4 ⟨rfl,bJ,a,aF⟩
  have aC:w4.heap[D]? = some (.deferred (some [])):=aF D _ HK.out (fun e=>by simp only [Option.some.injEq]at e; omega) (fun c fz e=>by cases e)
  have aX:=Lib.hid aC
  have br:=a.size
  have bo:Below w.heap.size w w4:=z.trans (a.mono (by omega))
  clear HK HS H1 a aF aC z
  go_wp2_with fail
  refine zhE (v:=.string (bs (Lib.decDigits N))) aX.out (by simp [results,Tryz.results263,go_sem]; rfl) rfl ⟨rfl,jX bo (by omega) (by omega) _⟩
 case stop =>
  rintro D c' q W hD _ hx Q
  exact hx.elim
end Go.Proofs.YtonihophanmaaaaGreatDoor
