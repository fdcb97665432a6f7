/- The texts NatE, NatF, put together. -/
import Derived.Test.YtonihophanmaaaaGreatDoorPc41
import Derived.Test.YtonihophanmaaaaGreatDoorPc17
set_option maxHeartbeats 8000000
set_option maxRecDepth 100000
namespace Go.Proofs.YtonihophanmaaaaGreatDoor
open Go.RowKit Go.Shelf
attribute [local go_sem] Oper.semAt_some
theorem zhG (g c k i x:Nat) (b:x<4294967296) (w:World) (hc:i<k→w.cell? ⟨g,i,none⟩=some (.int .u32 x)) (a:k≤i→x=0) :
  Calls Tryz.prog 264 #[.slice (some ⟨g,0,none⟩) k c,.int .i64 i] w fun e d=>e=.returned (.int .u64 x)∧d=w:=by
 by_cases h:i<k
 ·exact zmS g k c i x h b w (hc h)
 ·have:=a (by omega)
  subst this
  exact zlr _ k c i (by omega) w
theorem zmT {W:World} {g n k:Nat} (c i:Nat) (b:qw W g n k) (a:n / 10 ^ (9*k)=0) :
  Calls Tryz.prog 264 #[.slice (some ⟨g,0,none⟩) k c,.int .i64 i] W fun e d=>e=.returned (.int .u64 (lim n i))∧d=W:=
 zhG g c k i (lim n i) (by have:=vo n i; omega) W (fun h=>b i h) (fun h=>zf2 a h)
theorem znR:jq 1=1:=by
 unfold jq
 rw [if_neg (by decide),Lib.decDigits_one (by decide)]
 rfl
theorem zmW:1 / 10 ^ (9*1)=0:=Nat.div_eq_of_lt (by rw [Nat.mul_one,show (10:Nat) ^ 9=1000000000 from by decide]; omega)
theorem znT (i:Nat):lim 1 i=one i:=by
 unfold one
 split
 ·rename_i h
  subst h
  rw [znS]
 ·exact zf2 (k:=1) zmW (by omega)
theorem znq {W:World} {g k:Nat} (c i:Nat) (j:k=1) (d:qw W g 1 k) :
  Calls Tryz.prog 264 #[.slice (some ⟨g,0,none⟩) k c,.int .i64 i] W fun e f=>e=.returned (.int .u64 (one i))∧f=W:=by
 have a:=znT i
 have b:one i<4294967296:=by unfold one; split <;> omega
 refine zhG g c k i (one i) b W (fun h=>?_) (fun h=>?_)
 ·have:=d i h
  rw [a]at this
  exact this
 ·unfold one
  rw [if_neg (by omega)]
theorem zaG {w:World} {n k:Nat} {e:TypeId} {v:Value} {xs:List Value} (h:w.ownsRow (k+1) e 1 v n xs) (j:Nat) (u:Value):(w.setCell ⟨k,j,none⟩ u).ownsRow (k+1) e 1 v n xs:=
 h.kept (jm w k j u) (by
  cases hv:v.ownBlock with
  | none=>exact .inl rfl
  | some q=>exact .inr (fun e=>by have:=(h.lt q hv).1; simp only [Option.some.injEq]at e; omega))
theorem zjj {n i:Nat} (h:0<car n i) (hn:n / 10 ^ (9*(i - 1))=0) (d:1<i):False:=by
 have a:=wX n (i - 1)
 have b:=wX (n+1) (i - 1)
 have c:=(za5 n (i - 1)).2
 rw [show i - 1+1=i from by omega]at a b
 unfold car at h
 rw [if_neg (by omega),a,b]at h
 generalize (n+1) / 10 ^ (9*(i - 1))=x at c h
 generalize n / 10 ^ (9*(i - 1))=y at c h hn
 omega
theorem zhQ {n k:Nat} (h:n / 10 ^ (9*k)=0) {j:Nat} (c:k≤j):n / 10 ^ (9*j)=0:=by
 have a:n<10 ^ (9*k):=(Nat.div_eq_zero_iff_lt (Nat.pow_pos (by decide))).1 h
 have b:10 ^ (9*k)≤10 ^ (9*j):=Nat.pow_le_pow_right (by decide) (by omega)
 exact Nat.div_eq_of_lt (by omega)
def atN (W:World) (b:Nat):Nat:=match W.cell? ⟨b,1,none⟩ with
 | some (.int _ x)=>x.toNat
 | _=>0
theorem zlw (n J ca L cb x H:Nat) (bQ:x≤1000) (ao:H=1) (w:World) (bo:J<w.heap.size) (bp:L<w.heap.size) (hA:qw w J n x) (ai:n / 10 ^ (9*x)=0) (hB:qw w L 1 H) :
  Calls Tryz.prog 232 #[.slice (some ⟨J,0,none⟩) x ca,.slice (some ⟨L,0,none⟩) H cb] w fun e w'=>Below w.heap.size w w'∧∃ g k c,e=.returned (.slice (some ⟨g,0,none⟩) k c)∧w.heap.size≤g∧g<w'.heap.size∧0<k∧k≤max x 1+1∧k≤c∧qw w' g (n+1) k∧car n k=0∧max x 1≤k∧(max x 1<k→0<car n (k - 1)):=by
 obtain ⟨i0,hi,a1,a2,a3⟩:=info_parts zhA
 have HI:=Lib.hid hi
 have aQ:=Lib.hid a1
 have aR:=Lib.hid a2
 have aS:=Lib.hid a3
 have bL:=Lib.hid ao
 clear hi a1 a2 a3
 have bm:=(Below.refl w.heap.size w).alloc (Nat.le_refl _) (.cells #[.int .u64 0,.int .i64 0] 299)
 have br:=Blk.new w #[.int .u64 0,.int .i64 0] 299
 have a4:=Lib.hid (fun i W (hb:Below w.heap.size w W)=>zmT ca i (hA.below hb bo) ai)
 have a5:=Lib.hid (fun i W (hb:Below w.heap.size w W)=>znq cb i ao (hB.below hb bp))
 have bh:=Lib.hid ai
 obtain ⟨M,hM⟩:∃ M,max x 1=M:=⟨_,rfl⟩
 have y0:max (x:Int) (H:Int)=(M:Int):=by omega
 have HM:=Lib.hid hM
 have bN:M≤1000:=by omega
 rw [hM]
 clear hA ai hB hM ao
 go_enter Tryz.func232,Tryz.ntmps232
 go_wp2_with fail
 go_loopw [5] (fun v wr=>∃ i:Nat,i≤M+1∧(M<i→0<car n (i - 1))∧wr.ownsRow (w.heap.size+1) 226 1 v i (qB (n+1) i)∧Blk wr w.heap.size #[.int .u64 (car n i),.int .i64 i] 299∧Below w.heap.size w wr) (fun _ wr=>M+1 - atN wr w.heap.size)
 case atStart=>exact ⟨0,by omega,fun h=>by omega,World.ownsRow_nil _ _ _ _,br,bm⟩
 case round =>
  obtain ⟨i,aV,Y,N,Q,V⟩:=hrel
  have aT:=zjk n i
  obtain ⟨c,hc⟩:∃ c,car n i=c:=⟨_,rfl⟩
  rw [hc]at Q aT
  have z0:wr.cell? ⟨w.heap.size,0,none⟩=some (.int .u64 c):=Q.cell 0
  have z1:wr.cell? ⟨w.heap.size,1,none⟩=some (.int .i64 i):=Q.cell 1
  have Z:atN wr w.heap.size=i:=by
   unfold atN
   rw [z1]
   simp
  have aO:=Lib.hid Z
  have HC:=Lib.hid hc
  clear Z hc
  by_cases am:i<M∨0<c
  ·have an:i≤M:=by
    rcases am with h | h
    ·omega
    ·apply Decidable.byContradiction
     intro bR
     have h1:1<i:=by have:=HM.out; omega
     exact zjj (n:=n) (i:=i) (by rw [HC.out]; exact h) (zhQ bh.out (by have:=HM.out; omega)) h1
   have aW:=vo n i
   have t:=zkH n i
   have u:=zja n i
   have au:one i≤1:=by unfold one; split <;> omega
   have ae:=Lib.hid (a4.out i)
   have af:=Lib.hid (a5.out i)
   rw [HC.out]at t u
   obtain ⟨la,ap⟩:∃ la,lim n i=la:=⟨_,rfl⟩
   obtain ⟨lb,aq⟩:∃ lb,one i=lb:=⟨_,rfl⟩
   rw [ap]at aW t u ae
   rw [aq]at t u au af
   obtain ⟨s1,aZ⟩:∃ s1,la+lb=s1:=⟨_,rfl⟩
   rw [aZ]at t u
   obtain ⟨s2,a0⟩:∃ s2,c+s1=s2:=⟨_,rfl⟩
   rw [a0]at t u
   have aX:=vo (n+1) i
   obtain ⟨r,hr⟩:∃ r,lim (n+1) i=r:=⟨_,rfl⟩
   rw [hr]at t aX
   obtain ⟨c2,X⟩:∃ c2,car n (i+1)=c2:=⟨_,rfl⟩
   rw [X]at u
   have y1:(la:Int)+(lb:Int)=s1:=by omega
   have y2:(c:Int)+(s1:Int)=s2:=by omega
   have ab:IntKind.u64.wrap (s1:Int)=s1:=by rw [IntKind.wrap_u64]; omega
   have ac:IntKind.u64.wrap (s2:Int)=s2:=by rw [IntKind.wrap_u64]; omega
   have y3:(s2:Int) % 1000000000=r:=by omega
   have y4:(s2:Int) / 1000000000=c2:=by omega
   have y5:IntKind.u32.wrap (r:Int)=r:=by rw [IntKind.wrap_u32]; omega
   have aN:=Lib.hid (show qB (n+1) i++[.int .u32 r]=qB (n+1) (i+1) by rw [← hr]; exact wV _ _)
   have aa:M<i+1→0<car n i:=fun h=>by
    rw [HC.out]
    omega
   have aP:=Lib.hid aa
   have aM:=Lib.hid X
   have y6:c2≤1:=by rw [← X]; exact zjk _ _
   have bP:i≤1001:=by omega
   have U:=Lib.hid an
   have HK:=Lib.hid Q
   have ag:=Lib.hid N
   have bJ:=Lib.hid V
   have ba:(i<M)∨(¬ (i:Int)<(M:Int)∧(c:Int) > 0):=by omega
   clear ap aq aZ a0 hr X t u aW aX aa an aV Y am N au aT
   rcases ba with aY | ⟨aY,bO⟩
   ·have aY:(i:Int)<(M:Int):=by omega
    go_wp2_with fail
    refine qC (R:=fun W D=>W=D) 13 (by kernel_rfl) (by kernel_rfl) (fun _=>rfl) (by kernel_rfl) (by kernel_rfl) (fun W=>Blk W w.heap.size #[.int .u64 c,.int .i64 i] 299∧Below w.heap.size w W∧Below wr.heap.size wr W)
     [fun v _=>v=.pointer (some ⟨w.heap.size,0,none⟩),fun v _=>v=.int .u64 c,fun v _=>v=.slice (some ⟨J,0,none⟩) x ca,fun v _=>v=.pointer (some ⟨w.heap.size,1,none⟩),fun v _=>v=.int .i64 i,fun v _=>v=.int .u64 la,fun v _=>v=.slice (some ⟨L,0,none⟩) H cb,fun v _=>v=.pointer (some ⟨w.heap.size,1,none⟩),fun v _=>v=.int .i64 i,fun v _=>v=.int .u64 lb,fun v _=>v=.int .u64 s1,fun v _=>v=.int .u64 s2,fun v _=>v=.pointer (some ⟨w.heap.size,0,none⟩)] ?_ ?_ ?_ ?_ ?_
    case refine_1=>exact ⟨Q,V.drew,(Below.refl _ wr).drew⟩
    case refine_2 =>
     rintro W D he rfl
     exact he
    case refine_3 =>
     intro q hq v W D _ hv hr
     simp only [List.mem_cons,List.not_mem_nil,or_false]at hq
     rcases hq with rfl|rfl|rfl|rfl|rfl|rfl|rfl|rfl|rfl|rfl|rfl|rfl|rfl <;> exact hv
    case refine_4 =>
     refine za (zn rfl rfl (by kernel_rfl) (by kernel_rfl) ?_) ?_
     ·intro b W j hn ρ a hc l f K d
      have y:ρ (.tmp 6)=.pointer (some ⟨w.heap.size,0,none⟩):=by rw [a]; kernel_rfl
      clear a hn f
      simp [zd,go_sem,y]
      exact d _ _ rfl (rfl)
     refine za (zn rfl rfl (by kernel_rfl) (by kernel_rfl) ?_) ?_
     ·intro b W j hn ρ a hc l f K d
      have ay:=(show ρ (.tmp 25)=b 0 by rw [a]; kernel_rfl).trans (hn 0 (by kernel_rfl))
      clear a hn f
      have B:W.cell? ⟨w.heap.size,0,none⟩=some (.int .u64 c):=j.1.cell 0
      simp [zd,go_sem,ay,B]
      exact d _ _ rfl rfl
     refine za (zn rfl rfl (by kernel_rfl) (by kernel_rfl) ?_) ?_
     ·intro b W j hn ρ a hc l f K d
      have r0:ρ (.tmp 0)=.slice (some ⟨J,0,none⟩) x ca:=by rw [a]; kernel_rfl
      clear a hn f
      simp [zd,go_sem,r0]
      exact d _ _ rfl (rfl)
     refine za (zn rfl rfl (by kernel_rfl) (by kernel_rfl) ?_) ?_
     ·intro b W j hn ρ a hc l f K d
      have y:ρ (.tmp 6)=.pointer (some ⟨w.heap.size,0,none⟩):=by rw [a]; kernel_rfl
      clear a hn f
      simp [zd,go_sem,y]
      exact d _ _ rfl (rfl)
     refine za (zn rfl rfl (by kernel_rfl) (by kernel_rfl) ?_) ?_
     ·intro b W j hn ρ a hc l f K d
      have aB:=(show ρ (.tmp 28)=b 3 by rw [a]; kernel_rfl).trans (hn 3 (by kernel_rfl))
      clear a hn f
      have B:W.cell? ⟨w.heap.size,1,none⟩=some (.int .i64 i):=j.1.cell 1
      simp [zd,go_sem,aB,B]
      exact d _ _ rfl rfl
     refine za (zn rfl rfl (by kernel_rfl) (by kernel_rfl) ?_) ?_
     ·intro b W j hn ρ a hc l f K d
      have aA:=(show ρ (.tmp 27)=b 2 by rw [a]; kernel_rfl).trans (hn 2 (by kernel_rfl))
      have aC:=(show ρ (.tmp 29)=b 4 by rw [a]; kernel_rfl).trans (hn 4 (by kernel_rfl))
      clear a hn f
      refine jl rfl (by kernel_rfl) l ?_
      rw [show #[Operand.tmp 27,Operand.tmp 29].map ρ = #[.slice (some ⟨J,0,none⟩) x ca,.int .i64 i] by simp [aA,aC]]
      refine (ae.out W j.2.1).mono ?_
      rintro e D ⟨rfl,rfl⟩
      exact ⟨_,rfl,d _ _ rfl rfl⟩
     refine za (zn rfl rfl (by kernel_rfl) (by kernel_rfl) ?_) ?_
     ·intro b W j hn ρ a hc l f K d
      have r1:ρ (.tmp 1)=.slice (some ⟨L,0,none⟩) H cb:=by rw [a]; kernel_rfl
      clear a hn f
      simp [zd,go_sem,r1]
      exact d _ _ rfl (rfl)
     refine za (zn rfl rfl (by kernel_rfl) (by kernel_rfl) ?_) ?_
     ·intro b W j hn ρ a hc l f K d
      have y:ρ (.tmp 6)=.pointer (some ⟨w.heap.size,0,none⟩):=by rw [a]; kernel_rfl
      clear a hn f
      simp [zd,go_sem,y]
      exact d _ _ rfl (rfl)
     refine za (zn rfl rfl (by kernel_rfl) (by kernel_rfl) ?_) ?_
     ·intro b W j hn ρ a hc l f K d
      have aF:=(show ρ (.tmp 32)=b 7 by rw [a]; kernel_rfl).trans (hn 7 (by kernel_rfl))
      clear a hn f
      have B:W.cell? ⟨w.heap.size,1,none⟩=some (.int .i64 i):=j.1.cell 1
      simp [zd,go_sem,aF,B]
      exact d _ _ rfl rfl
     refine za (zn rfl rfl (by kernel_rfl) (by kernel_rfl) ?_) ?_
     ·intro b W j hn ρ a hc l f K d
      have aE:=(show ρ (.tmp 31)=b 6 by rw [a]; kernel_rfl).trans (hn 6 (by kernel_rfl))
      have aG:=(show ρ (.tmp 33)=b 8 by rw [a]; kernel_rfl).trans (hn 8 (by kernel_rfl))
      clear a hn f
      refine jl rfl (by kernel_rfl) l ?_
      rw [show #[Operand.tmp 31,Operand.tmp 33].map ρ = #[.slice (some ⟨L,0,none⟩) H cb,.int .i64 i] by simp [aE,aG]]
      refine (af.out W j.2.1).mono ?_
      rintro e D ⟨rfl,rfl⟩
      exact ⟨_,rfl,d _ _ rfl rfl⟩
     refine za (zn rfl rfl (by kernel_rfl) (by kernel_rfl) ?_) ?_
     ·intro b W j hn ρ a hc l f K d
      have aD:=(show ρ (.tmp 30)=b 5 by rw [a]; kernel_rfl).trans (hn 5 (by kernel_rfl))
      have aH:=(show ρ (.tmp 34)=b 9 by rw [a]; kernel_rfl).trans (hn 9 (by kernel_rfl))
      clear a hn f
      simp [zd,go_sem,aD,aH,y1,ab]
      exact d _ _ rfl (rfl)
     refine za (zn rfl rfl (by kernel_rfl) (by kernel_rfl) ?_) ?_
     ·intro b W j hn ρ a hc l f K d
      have az:=(show ρ (.tmp 26)=b 1 by rw [a]; kernel_rfl).trans (hn 1 (by kernel_rfl))
      have aI:=(show ρ (.tmp 35)=b 10 by rw [a]; kernel_rfl).trans (hn 10 (by kernel_rfl))
      clear a hn f
      simp [zd,go_sem,az,aI,y2,ac]
      exact d _ _ rfl (rfl)
     refine za (zn rfl rfl (by kernel_rfl) (by kernel_rfl) ?_) xn
     ·intro b W j hn ρ a hc l f K d
      have y:ρ (.tmp 6)=.pointer (some ⟨w.heap.size,0,none⟩):=by rw [a]; kernel_rfl
      clear a hn f
      simp [zd,go_sem,y]
      exact d _ _ rfl (rfl)
    case refine_5 =>
     intro b W j hn
     have E:=hn 11 (by decide)
     have F:=hn 12 (by decide)
     simp only [vu,List.getD_cons_zero,List.getD_cons_succ]at E F
     clear hn
     obtain ⟨G,al,ak⟩:=j
     have z:=G.set 0 (.int .u64 s2)
     have s:(W.setCell ⟨w.heap.size,0,none⟩ (.int .u64 s2)).ownsRow (w.heap.size+1) 226 1 u5 i (qB (n+1) i):=wC (ag.out.kept (below_grown ak none) (zay _)) (by omega) _
     have O:Below w.heap.size w (W.setCell ⟨w.heap.size,0,none⟩ (.int .u64 s2)):=al.setCell (p:=⟨w.heap.size,0,none⟩) (Nat.le_refl _) _
     have f0:=G.frozen 0
     have f1:=G.cell 0
     have ax:w.heap.size+1≤(W.setCell ⟨w.heap.size,0,none⟩ (.int .u64 s2)).heap.size:=by
      have:=z.lt
      omega
     simp only [List.take_succ_cons,List.take_zero,List.drop_succ_cons,List.drop_zero,jM,E,F]
     go_simp
     clear E F z0 z1 y1 y2 ab ac Q
     have B:=z.cell 0
     have q1:=z.cell 1
     have P:=cell_one_new (W.setCell ⟨w.heap.size,0,none⟩ (.int .u64 s2)) (.int .u32 r) 226
     rw [show (W.setCell ⟨w.heap.size,0,none⟩ (.int .u64 s2)).heap.size=W.heap.size from by simp [World.setCell]]at P ax
     go_wp2_with (at_builtin; refine wpList_append_own _ rfl _ _ 268 rfl (w.heap.size+1) 226 i0 (.int .u32 0) 1 4 Tryz.underlying268 HI.out aQ.out aR.out aS.out rfl (by decide) _ _ _ rfl (s.alloc _) ⟨W.heap.size,0,none⟩ 1 1 [.int .u32 r] rfl rfl P (by simp [Value.oneCell']) (by unfold maxLen; omega) (by omega) (by simp [World.setCell]; omega) ?_; intro v' w6 A m _; have o:=(z.alloc (.cells #[.int .u32 r] 226)).kept m (fun e=>by have:=(s.lt w.heap.size e.symm).1; omega); have q2:=o.cell 0; have q3:=o.cell 1; have q4:=o.frozen 0; have q5:=o.frozen 1)
     have ah:=Lib.hid (show Below w.heap.size w w6 from (O.alloc O.size _).grown m (by simp [World.setCell]; omega) (fun q e=>by have:=(s.lt q (by first | exact e.symm | exact e)).1; omega))
     have I:=Lib.hid A
     have ad:=Lib.hid o
     clear A o m
     have S:=((ad.out.set 0 (.int .u64 c2)).set 1 (.int .i64 ((i:Int)+1)))
     have T:=zaG (zaG I.out 0 (.int .u64 c2)) 1 (.int .i64 ((i:Int)+1))
     rw [aN.out]at T
     have aj:=(ah.out.setCell (p:=⟨w.heap.size,0,none⟩) (Nat.le_refl _) (.int .u64 c2)).setCell (p:=⟨w.heap.size,1,none⟩) (Nat.le_refl _) (.int .i64 ((i:Int)+1))
     have ar:=S.cell 1
     go_roundw
     case rel=>exact ⟨i+1,by have:=U.out; omega,fun h=>aP.out (by omega),T,by rw [aM.out]; exact S,aj⟩
     case measure =>
      rw [aO.out]
      unfold atN
      rw [ar]
      simp
      have:=U.out
      omega
   ·go_wp2_with fail
    refine qC (R:=fun W D=>W=D) 13 (by kernel_rfl) (by kernel_rfl) (fun _=>rfl) (by kernel_rfl) (by kernel_rfl) (fun W=>Blk W w.heap.size #[.int .u64 c,.int .i64 i] 299∧Below w.heap.size w W∧Below wr.heap.size wr W)
     [fun v _=>v=.pointer (some ⟨w.heap.size,0,none⟩),fun v _=>v=.int .u64 c,fun v _=>v=.slice (some ⟨J,0,none⟩) x ca,fun v _=>v=.pointer (some ⟨w.heap.size,1,none⟩),fun v _=>v=.int .i64 i,fun v _=>v=.int .u64 la,fun v _=>v=.slice (some ⟨L,0,none⟩) H cb,fun v _=>v=.pointer (some ⟨w.heap.size,1,none⟩),fun v _=>v=.int .i64 i,fun v _=>v=.int .u64 lb,fun v _=>v=.int .u64 s1,fun v _=>v=.int .u64 s2,fun v _=>v=.pointer (some ⟨w.heap.size,0,none⟩)] ?_ ?_ ?_ ?_ ?_
    case refine_1=>exact ⟨Q,V.drew,(Below.refl _ wr).drew⟩
    case refine_2 =>
     rintro W D he rfl
     exact he
    case refine_3 =>
     intro q hq v W D _ hv hr
     simp only [List.mem_cons,List.not_mem_nil,or_false]at hq
     rcases hq with rfl|rfl|rfl|rfl|rfl|rfl|rfl|rfl|rfl|rfl|rfl|rfl|rfl <;> exact hv
    case refine_4 =>
     refine za (zn rfl rfl (by kernel_rfl) (by kernel_rfl) ?_) ?_
     ·intro b W j hn ρ a hc l f K d
      have y:ρ (.tmp 6)=.pointer (some ⟨w.heap.size,0,none⟩):=by rw [a]; kernel_rfl
      clear a hn f
      simp [zd,go_sem,y]
      exact d _ _ rfl (rfl)
     refine za (zn rfl rfl (by kernel_rfl) (by kernel_rfl) ?_) ?_
     ·intro b W j hn ρ a hc l f K d
      have ay:=(show ρ (.tmp 25)=b 0 by rw [a]; kernel_rfl).trans (hn 0 (by kernel_rfl))
      clear a hn f
      have B:W.cell? ⟨w.heap.size,0,none⟩=some (.int .u64 c):=j.1.cell 0
      simp [zd,go_sem,ay,B]
      exact d _ _ rfl rfl
     refine za (zn rfl rfl (by kernel_rfl) (by kernel_rfl) ?_) ?_
     ·intro b W j hn ρ a hc l f K d
      have r0:ρ (.tmp 0)=.slice (some ⟨J,0,none⟩) x ca:=by rw [a]; kernel_rfl
      clear a hn f
      simp [zd,go_sem,r0]
      exact d _ _ rfl (rfl)
     refine za (zn rfl rfl (by kernel_rfl) (by kernel_rfl) ?_) ?_
     ·intro b W j hn ρ a hc l f K d
      have y:ρ (.tmp 6)=.pointer (some ⟨w.heap.size,0,none⟩):=by rw [a]; kernel_rfl
      clear a hn f
      simp [zd,go_sem,y]
      exact d _ _ rfl (rfl)
     refine za (zn rfl rfl (by kernel_rfl) (by kernel_rfl) ?_) ?_
     ·intro b W j hn ρ a hc l f K d
      have aB:=(show ρ (.tmp 28)=b 3 by rw [a]; kernel_rfl).trans (hn 3 (by kernel_rfl))
      clear a hn f
      have B:W.cell? ⟨w.heap.size,1,none⟩=some (.int .i64 i):=j.1.cell 1
      simp [zd,go_sem,aB,B]
      exact d _ _ rfl rfl
     refine za (zn rfl rfl (by kernel_rfl) (by kernel_rfl) ?_) ?_
     ·intro b W j hn ρ a hc l f K d
      have aA:=(show ρ (.tmp 27)=b 2 by rw [a]; kernel_rfl).trans (hn 2 (by kernel_rfl))
      have aC:=(show ρ (.tmp 29)=b 4 by rw [a]; kernel_rfl).trans (hn 4 (by kernel_rfl))
      clear a hn f
      refine jl rfl (by kernel_rfl) l ?_
      rw [show #[Operand.tmp 27,Operand.tmp 29].map ρ = #[.slice (some ⟨J,0,none⟩) x ca,.int .i64 i] by simp [aA,aC]]
      refine (ae.out W j.2.1).mono ?_
      rintro e D ⟨rfl,rfl⟩
      exact ⟨_,rfl,d _ _ rfl rfl⟩
     refine za (zn rfl rfl (by kernel_rfl) (by kernel_rfl) ?_) ?_
     ·intro b W j hn ρ a hc l f K d
      have r1:ρ (.tmp 1)=.slice (some ⟨L,0,none⟩) H cb:=by rw [a]; kernel_rfl
      clear a hn f
      simp [zd,go_sem,r1]
      exact d _ _ rfl (rfl)
     refine za (zn rfl rfl (by kernel_rfl) (by kernel_rfl) ?_) ?_
     ·intro b W j hn ρ a hc l f K d
      have y:ρ (.tmp 6)=.pointer (some ⟨w.heap.size,0,none⟩):=by rw [a]; kernel_rfl
      clear a hn f
      simp [zd,go_sem,y]
      exact d _ _ rfl (rfl)
     refine za (zn rfl rfl (by kernel_rfl) (by kernel_rfl) ?_) ?_
     ·intro b W j hn ρ a hc l f K d
      have aF:=(show ρ (.tmp 32)=b 7 by rw [a]; kernel_rfl).trans (hn 7 (by kernel_rfl))
      clear a hn f
      have B:W.cell? ⟨w.heap.size,1,none⟩=some (.int .i64 i):=j.1.cell 1
      simp [zd,go_sem,aF,B]
      exact d _ _ rfl rfl
     refine za (zn rfl rfl (by kernel_rfl) (by kernel_rfl) ?_) ?_
     ·intro b W j hn ρ a hc l f K d
      have aE:=(show ρ (.tmp 31)=b 6 by rw [a]; kernel_rfl).trans (hn 6 (by kernel_rfl))
      have aG:=(show ρ (.tmp 33)=b 8 by rw [a]; kernel_rfl).trans (hn 8 (by kernel_rfl))
      clear a hn f
      refine jl rfl (by kernel_rfl) l ?_
      rw [show #[Operand.tmp 31,Operand.tmp 33].map ρ = #[.slice (some ⟨L,0,none⟩) H cb,.int .i64 i] by simp [aE,aG]]
      refine (af.out W j.2.1).mono ?_
      rintro e D ⟨rfl,rfl⟩
      exact ⟨_,rfl,d _ _ rfl rfl⟩
     refine za (zn rfl rfl (by kernel_rfl) (by kernel_rfl) ?_) ?_
     ·intro b W j hn ρ a hc l f K d
      have aD:=(show ρ (.tmp 30)=b 5 by rw [a]; kernel_rfl).trans (hn 5 (by kernel_rfl))
      have aH:=(show ρ (.tmp 34)=b 9 by rw [a]; kernel_rfl).trans (hn 9 (by kernel_rfl))
      clear a hn f
      simp [zd,go_sem,aD,aH,y1,ab]
      exact d _ _ rfl (rfl)
     refine za (zn rfl rfl (by kernel_rfl) (by kernel_rfl) ?_) ?_
     ·intro b W j hn ρ a hc l f K d
      have az:=(show ρ (.tmp 26)=b 1 by rw [a]; kernel_rfl).trans (hn 1 (by kernel_rfl))
      have aI:=(show ρ (.tmp 35)=b 10 by rw [a]; kernel_rfl).trans (hn 10 (by kernel_rfl))
      clear a hn f
      simp [zd,go_sem,az,aI,y2,ac]
      exact d _ _ rfl (rfl)
     refine za (zn rfl rfl (by kernel_rfl) (by kernel_rfl) ?_) xn
     ·intro b W j hn ρ a hc l f K d
      have y:ρ (.tmp 6)=.pointer (some ⟨w.heap.size,0,none⟩):=by rw [a]; kernel_rfl
      clear a hn f
      simp [zd,go_sem,y]
      exact d _ _ rfl (rfl)
    case refine_5 =>
     intro b W j hn
     have E:=hn 11 (by decide)
     have F:=hn 12 (by decide)
     simp only [vu,List.getD_cons_zero,List.getD_cons_succ]at E F
     clear hn
     obtain ⟨G,al,ak⟩:=j
     have z:=G.set 0 (.int .u64 s2)
     have s:(W.setCell ⟨w.heap.size,0,none⟩ (.int .u64 s2)).ownsRow (w.heap.size+1) 226 1 u5 i (qB (n+1) i):=wC (ag.out.kept (below_grown ak none) (zay _)) (by omega) _
     have O:Below w.heap.size w (W.setCell ⟨w.heap.size,0,none⟩ (.int .u64 s2)):=al.setCell (p:=⟨w.heap.size,0,none⟩) (Nat.le_refl _) _
     have f0:=G.frozen 0
     have f1:=G.cell 0
     have ax:w.heap.size+1≤(W.setCell ⟨w.heap.size,0,none⟩ (.int .u64 s2)).heap.size:=by
      have:=z.lt
      omega
     simp only [List.take_succ_cons,List.take_zero,List.drop_succ_cons,List.drop_zero,jM,E,F]
     go_simp
     clear E F z0 z1 y1 y2 ab ac Q
     have B:=z.cell 0
     have q1:=z.cell 1
     have P:=cell_one_new (W.setCell ⟨w.heap.size,0,none⟩ (.int .u64 s2)) (.int .u32 r) 226
     rw [show (W.setCell ⟨w.heap.size,0,none⟩ (.int .u64 s2)).heap.size=W.heap.size from by simp [World.setCell]]at P ax
     go_wp2_with (at_builtin; refine wpList_append_own _ rfl _ _ 268 rfl (w.heap.size+1) 226 i0 (.int .u32 0) 1 4 Tryz.underlying268 HI.out aQ.out aR.out aS.out rfl (by decide) _ _ _ rfl (s.alloc _) ⟨W.heap.size,0,none⟩ 1 1 [.int .u32 r] rfl rfl P (by simp [Value.oneCell']) (by unfold maxLen; omega) (by omega) (by simp [World.setCell]; omega) ?_; intro v' w6 A m _; have o:=(z.alloc (.cells #[.int .u32 r] 226)).kept m (fun e=>by have:=(s.lt w.heap.size e.symm).1; omega); have q2:=o.cell 0; have q3:=o.cell 1; have q4:=o.frozen 0; have q5:=o.frozen 1)
     have ah:=Lib.hid (show Below w.heap.size w w6 from (O.alloc O.size _).grown m (by simp [World.setCell]; omega) (fun q e=>by have:=(s.lt q (by first | exact e.symm | exact e)).1; omega))
     have I:=Lib.hid A
     have ad:=Lib.hid o
     clear A o m
     have S:=((ad.out.set 0 (.int .u64 c2)).set 1 (.int .i64 ((i:Int)+1)))
     have T:=zaG (zaG I.out 0 (.int .u64 c2)) 1 (.int .i64 ((i:Int)+1))
     rw [aN.out]at T
     have aj:=(ah.out.setCell (p:=⟨w.heap.size,0,none⟩) (Nat.le_refl _) (.int .u64 c2)).setCell (p:=⟨w.heap.size,1,none⟩) (Nat.le_refl _) (.int .i64 ((i:Int)+1))
     have ar:=S.cell 1
     go_roundw
     case rel=>exact ⟨i+1,by have:=U.out; omega,fun h=>aP.out (by omega),T,by rw [aM.out]; exact S,aj⟩
     case measure =>
      rw [aO.out]
      unfold atN
      rw [ar]
      simp
      have:=U.out
      omega
  ·have bs:c=0:=by omega
   subst bs
   have bS:¬ (i:Int)<(M:Int):=by omega
   have bC:i≤1001:=by omega
   have C:=Lib.hid (show 0<i∧i≤M+1∧M≤i∧(M<i→0<car n (i - 1)) from ⟨by have:=HM.out; omega,by omega,by omega,Y⟩)
   obtain ⟨g,cc,bM,rfl,bn,bB,aU,hL⟩:=zet N C.out.1
   have bi:=Lib.hid aU
   have HL:=Lib.hid hL
   have bK:=Lib.hid Y
   clear am Y N aU hL aV
   go_wp2_with fail
   go_ret
   exact ⟨V,g,i,cc,rfl,by omega,(Array.getElem?_eq_some_iff.1 bi.out).1,C.out.1,C.out.2.1,bn,HL.out,HC.out,C.out.2.2.1,C.out.2.2.2⟩
end Go.Proofs.YtonihophanmaaaaGreatDoor
namespace Go.Proofs.YtonihophanmaaaaGreatDoor
open Go.RowKit Go.Shelf
attribute [local go_sem] Oper.semAt_some
theorem zlx (g k c N:Nat) (h:0<k) (u:k≤20) (m:k≤c) (w:World) (t:g<w.heap.size) (j:qw w g N k) (d:N / 10 ^ (9*k)=0) (f:N / 10 ^ (9*(k - 1))≠0) (b:Lib.TabIs Tryz.prog w "internal/strconv.uint64pow10" .u64 Lib.pow10Tab) :
  Calls Tryz.prog 231 #[.slice (some ⟨g,0,none⟩) k c] w fun e w'=>e=.returned (.tuple #[.string (bs (Lib.decDigits N)),.int .i64 0])∧Below w.heap.size w w':=by
 have p:lim N (k - 1)≠0:=by
  rw [zdQ (by rw [show k - 1+1=k from by omega]; exact d)]
  exact f
 have q:=Lib.hid (zeE g k c (lim N (k - 1)) h (by omega) m p w (j _ (by omega)))
 have l:=Lib.hid (zly g k k N h (by omega) w t j d f b)
 have a:=zd2 (N:=N) (k:=k) f (Nat.le_refl k) d
 have n:xS N k k=Lib.decDigits N:=by
  unfold xS
  rw [if_neg (by omega),Nat.sub_self,Nat.mul_zero,Nat.pow_zero,Nat.div_one]
 rw [n]at a
 have i:(bs (Lib.decDigits N)).size=(Lib.decDigits N).length:=rfl
 obtain ⟨s,o⟩:∃ s,bs (Lib.decDigits N)=s:=⟨_,rfl⟩
 rw [o]at l i ⊢
 have y:¬ (s.size:Int) > 400:=by omega
 clear n a o i p f d j b
 go_enter Tryz.func231,Tryz.ntmps231
 go_wp2_with fail
 refine q.out.mono ?_
 rintro e v ⟨rfl,rfl⟩
 go_wp2_with fail
 refine l.out.mono ?_
 rintro e x ⟨rfl,r⟩
 go_wp2_with fail
 go_ret2
 exact ⟨rfl,r⟩
def zbN (n:Nat) (W:World) (g k c:Nat):Prop:=g<W.heap.size∧0<k∧k≤10∧k≤c∧qw W g (n+1) k∧(n+1) / 10 ^ (9*k)=0∧(n+1) / 10 ^ (9*(k - 1))≠0
theorem zbN.below {n g k c:Nat} {W W':World} (h:zbN n W g k c) (a:Below W.heap.size W W'):zbN n W' g k c:=
 ⟨Nat.lt_of_lt_of_le h.1 a.size,h.2.1,h.2.2.1,h.2.2.2.1,h.2.2.2.2.1.below a h.1,h.2.2.2.2.2⟩
theorem zmr {n k:Nat} (c:0<k) (d:car n k=0) (l:max (jq n) 1≤k) (f:max (jq n) 1<k→0<car n (k - 1)):(n+1) / 10 ^ (9*k)=0∧(n+1) / 10 ^ (9*(k - 1))≠0:=by
 have g:=zhQ (zdP n) (j:=k) (by omega)
 refine ⟨zmq c g d,?_⟩
 by_cases h:max (jq n) 1<k
 ·have a:=f h
  intro e
  unfold car at a
  split at a
  ·omega
  ·rw [e,Nat.zero_sub]at a
   exact absurd a (by decide)
 ·by_cases b:n=0
  ·subst b
   have:k=1:=by
    have:jq 0=0:=rfl
    omega
   subst this
   simp
  ·obtain ⟨m,i⟩:=zhF (Nat.pos_of_ne_zero b)
   have:k=jq n:=by omega
   subst this
   intro e
   have:=(za5 n (jq n - 1)).1
   rw [e]at this
   exact i (Nat.le_zero.1 this)
theorem zmQ {n:Nat} (hn:n<18446744073709551616):jq n≤3:=by
 unfold jq
 split
 ·omega
 ·have:=kJ hn
  unfold jN
  omega
theorem zlv (n:Nat) (hn:n<18446744073709551616) (w:World) (B:Lib.TabIs Tryz.prog w "internal/strconv.uint64pow10" .u64 Lib.pow10Tab) :
  Calls Tryz.prog 203 #[.string (bs (Lib.decDigits n)),.string ⟨#[49]⟩] w fun e w'=>e=.returned (.tuple #[.string (bs (Lib.decDigits (n+1))),.int .i64 0])∧Below w.heap.size w w':=by
 have T:=Lib.hid (Lib.tabBelow_of_tabIs B)
 have U:(⟨#[49]⟩:ByteArray)=bs (Lib.decDigits 1):=by rw [Lib.decDigits_one (by decide)]; rfl
 rw [U]
 obtain ⟨sn,z⟩:∃ sn,bs (Lib.decDigits n)=sn:=⟨_,rfl⟩
 obtain ⟨s1,x⟩:∃ s1,bs (Lib.decDigits 1)=s1:=⟨_,rfl⟩
 obtain ⟨sd,y⟩:∃ sd,bs (Lib.decDigits (n+1))=sd:=⟨_,rfl⟩
 have L:=(Below.refl w.heap.size w).alloc (Nat.le_refl _) (.cells #[.string sn,.string s1] 9)
 have u:=Blk.new w #[.string sn,.string s1] 9
 have H:=Lib.hid (zmV n 1 hn (by decide) w.heap.size (w.alloc (.cells #[.string sn,.string s1] 9)) (by rw [z]; exact u.cell 0) (by rw [x]; exact u.cell 1))
 have aG:=zmQ hn
 rw [z,x,y]
 have S:=Lib.hid y
 clear z x y B hn U u
 go_enter Tryz.func203,Tryz.ntmps203
 go_wp2_with fail
 refine H.out.mono ?_
 rintro e r ⟨Z,A,cl,v0,v1,rfl,hA,aa,ab,⟨F,D,au,rfl,M,ae,I⟩,⟨G,E,av,rfl,N,af,J⟩⟩
 have o:=L.trans (Z.mono L.size)
 have s:=Lib.hid (fun W (l:Below r.heap.size r W)=>(zlw n F D G E (jq n) (jq 1) (by omega) znR W (Nat.lt_of_lt_of_le M.2 l.size) (Nat.lt_of_lt_of_le N.2 l.size) (I.below l M.2) (zdP n) (J.below l N.2)).mono (R':=fun e m=>Below W.heap.size W m∧∃ g k c,e=.returned (.slice (some ⟨g,0,none⟩) k c)∧zbN n m g k c) (by
  rintro e m ⟨q1,g,k,c,q2,q3,q4,q5,q6,q7,q8,q9,ai,aj⟩
  obtain ⟨t1,t2⟩:=zmr q5 q9 ai aj
  exact ⟨q1,g,k,c,q2,q4,q5,by omega,q7,q8,t1,t2⟩))
 have t:=Lib.hid (fun W (l:Below r.heap.size r W) g k c (h:zbN n W g k c)=>(show Calls Tryz.prog 231 #[.slice (some ⟨g,0,none⟩) k c] W fun e w'=>e=.returned (.tuple #[.string sd,.int .i64 0])∧Below W.heap.size W w' from by
  have:=zlx g k c (n+1) h.2.1 (by have:=h.2.2.1; omega) h.2.2.2.1 W h.1 h.2.2.2.2.1 h.2.2.2.2.2.1 h.2.2.2.2.2.2 (T.out W (o.trans (l.mono o.size)))
  rw [S.out]at this
  exact this))
 clear H I J ae af
 go_wp2_with fail
 refine qC (R:=fun W m=>Below W.heap.size W m) 10 (by kernel_rfl) (by kernel_rfl) (fun _=>Below.refl _ _) (by kernel_rfl) (by kernel_rfl) (fun W=>Below r.heap.size r W)
  [fun v _=>v=.slice (some ⟨A,0,none⟩) 2 cl,fun v _=>v=.pointer (some ⟨A,0,none⟩),fun v _=>v=.slice (some ⟨F,0,none⟩) (jq n) D,fun v _=>v=.slice (some ⟨A,0,none⟩) 2 cl,fun v _=>v=.pointer (some ⟨A,1,none⟩),fun v _=>v=.slice (some ⟨G,0,none⟩) (jq 1) E,fun v W=>∃ g k c,v=.slice (some ⟨g,0,none⟩) k c∧zbN n W g k c,fun v _=>v=.tuple #[.string sd,.int .i64 0],fun v _=>v=.string sd,fun v _=>v=.int .i64 0] ?_ ?_ ?_ ?_ ?_
 case refine_1=>exact (Below.refl _ _).drew
 case refine_2=>exact fun W m he O=>he.trans (O.mono he.size)
 case refine_3 =>
  intro q hq v W m _ hv O
  simp only [List.mem_cons,List.not_mem_nil,or_false]at hq
  rcases hq with rfl|rfl|rfl|rfl|rfl|rfl|rfl|rfl|rfl|rfl
  all_goals first | exact hv | exact (let ⟨g,k,c,h1,h2⟩:=hv; ⟨g,k,c,h1,h2.below O⟩)
 case refine_4 =>
  refine za (zn rfl rfl (by kernel_rfl) (by kernel_rfl) ?_) ?_
  ·intro b W i hn ρ a hc j d K f
   have Q:ρ (.tmp 6)=.slice (some ⟨A,0,none⟩) 2 cl:=by rw [a]; kernel_rfl
   clear a hn d
   simp [zd,go_sem,Q]
   exact f _ _ rfl (Below.refl _ _)
  refine za (zn rfl rfl (by kernel_rfl) (by kernel_rfl) ?_) ?_
  ·intro b W i hn ρ a hc j d K f
   have al:=(show ρ (.tmp 18)=b 0 by rw [a]; kernel_rfl).trans (hn 0 (by kernel_rfl))
   clear a hn d
   simp [zd,go_sem,hc,al]
   exact f _ _ rfl (Below.refl _ _)
  refine za (zn rfl rfl (by kernel_rfl) (by kernel_rfl) ?_) ?_
  ·intro b W i hn ρ a hc j d K f
   have am:=(show ρ (.tmp 19)=b 1 by rw [a]; kernel_rfl).trans (hn 1 (by kernel_rfl))
   clear a hn d
   have P:W.cell? ⟨A,0,none⟩=some (.slice (some ⟨F,0,none⟩) (jq n) D):=(i.cell (p:=⟨A,0,none⟩) hA).trans aa
   simp [zd,go_sem,am,P]
   exact f _ _ rfl (Below.refl _ _)
  refine za (zn rfl rfl (by kernel_rfl) (by kernel_rfl) ?_) ?_
  ·intro b W i hn ρ a hc j d K f
   have Q:ρ (.tmp 6)=.slice (some ⟨A,0,none⟩) 2 cl:=by rw [a]; kernel_rfl
   clear a hn d
   simp [zd,go_sem,Q]
   exact f _ _ rfl (Below.refl _ _)
  refine za (zn rfl rfl (by kernel_rfl) (by kernel_rfl) ?_) ?_
  ·intro b W i hn ρ a hc j d K f
   have ao:=(show ρ (.tmp 21)=b 3 by rw [a]; kernel_rfl).trans (hn 3 (by kernel_rfl))
   clear a hn d
   simp [zd,go_sem,hc,ao]
   exact f _ _ rfl (Below.refl _ _)
  refine za (zn rfl rfl (by kernel_rfl) (by kernel_rfl) ?_) ?_
  ·intro b W i hn ρ a hc j d K f
   have ap:=(show ρ (.tmp 22)=b 4 by rw [a]; kernel_rfl).trans (hn 4 (by kernel_rfl))
   clear a hn d
   have P:W.cell? ⟨A,1,none⟩=some (.slice (some ⟨G,0,none⟩) (jq 1) E):=(i.cell (p:=⟨A,1,none⟩) hA).trans ab
   simp [zd,go_sem,ap,P]
   exact f _ _ rfl (Below.refl _ _)
  refine za (zn rfl rfl (by kernel_rfl) (by kernel_rfl) ?_) ?_
  ·intro b W i hn ρ a hc j d K f
   have an:=(show ρ (.tmp 20)=b 2 by rw [a]; kernel_rfl).trans (hn 2 (by kernel_rfl))
   have aq:=(show ρ (.tmp 23)=b 5 by rw [a]; kernel_rfl).trans (hn 5 (by kernel_rfl))
   clear a hn d
   refine jl rfl (by kernel_rfl) j ?_
   rw [show #[Operand.tmp 20,Operand.tmp 23].map ρ = #[.slice (some ⟨F,0,none⟩) (jq n) D,.slice (some ⟨G,0,none⟩) (jq 1) E] by simp [an,aq]]
   refine (s.out W i).mono ?_
   rintro e m ⟨l,g,k,c,rfl,d,j⟩
   exact ⟨_,rfl,f _ _ ⟨g,k,c,rfl,d,j⟩ l⟩
  refine za (zn rfl rfl (by kernel_rfl) (by kernel_rfl) ?_) ?_
  ·intro b W i hn ρ a hc j d K f
   obtain ⟨g,k,c,V,ad⟩:=hn 6 (by kernel_rfl)
   have ar:=(show ρ (.tmp 24)=b 6 by rw [a]; kernel_rfl).trans V
   clear a hn d
   refine jl rfl (by kernel_rfl) j ?_
   rw [show #[Operand.tmp 24].map ρ = #[.slice (some ⟨g,0,none⟩) k c] by simp [ar]]
   refine (t.out W i g k c ad).mono ?_
   rintro e m ⟨rfl,l⟩
   exact ⟨_,rfl,f _ _ rfl l⟩
  refine za (zn rfl rfl (by kernel_rfl) (by kernel_rfl) ?_) ?_
  ·intro b W i hn ρ a hc j d K f
   have C:=(show ρ (.tmp 25)=b 7 by rw [a]; kernel_rfl).trans (hn 7 (by kernel_rfl))
   clear a hn d
   simp [zd,go_sem,C]
   exact f _ _ rfl (Below.refl _ _)
  refine za (zn rfl rfl (by kernel_rfl) (by kernel_rfl) ?_) xn
  ·intro b W i hn ρ a hc j d K f
   have C:=(show ρ (.tmp 25)=b 7 by rw [a]; kernel_rfl).trans (hn 7 (by kernel_rfl))
   clear a hn d
   simp [zd,go_sem,C]
   exact f _ _ rfl (Below.refl _ _)
 case refine_5 =>
  intro b W i hn
  have X:=hn 8 (by decide)
  have Y:=hn 9 (by decide)
  simp only [vu,List.getD_cons_zero,List.getD_cons_succ]at X Y
  clear hn s t
  simp only [List.take_succ_cons,List.take_zero,List.drop_succ_cons,List.drop_zero,jM,X,Y]
  go_simp
  go_wp2_with fail
  go_ret2
  exact ⟨rfl,o.trans (i.mono o.size)⟩
end Go.Proofs.YtonihophanmaaaaGreatDoor
