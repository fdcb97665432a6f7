/- The texts DsK, put together. -/
import Derived.Test.YtonihophanmaaaaGreatDoorPc08
import Derived.Test.YtonihophanmaaaaGreatDoorPc22
import Derived.Test.YtonihophanmaaaaGreatDoorPc28
set_option maxHeartbeats 8000000
set_option maxRecDepth 100000
namespace Go.Proofs.YtonihophanmaaaaGreatDoor
open Go.RowKit Go.Shelf
attribute [local go_sem] Oper.semAt_some qi jA
def xU (S:Nat→Prop) (d:Nat) (t:Tr) (w:World) (e:Ending) (w':World):Prop:=
 (∃ A c,e=.returned (ze (zz cbT zD t).own (.slice A (zz cbT zD t).kids.length c))∧LAt w' (fun q=>(S q∨w.heap.size≤q)∧q<w'.heap.size) d (zz cbT zD t).kids (.slice A (zz cbT zD t).kids.length c))∧Below w.heap.size w w'
theorem zbE {t:Tr} (h:zt t.own):zt (zz cbT zD t).own:=by
 cases t with
 | nd o l =>
  rw [zm2]
  split
  ·rw [show zD o=jw o from zdT h]
   exact zdl h
  ·exact h
theorem zld:(Tryz.prog.info? 124).map (fun i=>(i.zero,i.size,i.bytes))=some (some (.agg #[.int .i64 0,.bool false,.bool false,.string ⟨#[]⟩,.int .i64 0,.int .u64 0,.int .i64 0,.string ⟨#[]⟩,.slice none 0 0,.string ⟨#[]⟩,.int .i64 0,.bool false,.bool false,.string ⟨#[]⟩,.int .i64 0,.int .u64 0,.int .i64 0,.string ⟨#[]⟩,.slice none 0 0]),19,224):=by kernel_rfl
theorem zia (l:List Tr) (A:Option Addr) (n c:Nat) (w:World) (S:Nat→Prop) (d:Nat) (aT aF:Addr) (hl:LAt w S (d+1) l (.slice A n c)) (hn:l.length=n) (hS:∀ q,S q→q<w.heap.size) (hc:∀ t∈l,t.count≤1000000) (h:GW w aT aF) (hn1:n≤1000000)
  (hkeys:∀ (i:Nat) (k:Tr),2*i+1<l.length→l[2*i]? = some k→zj 2 flC (keyOf k)=0) (hap:jP cbT (zM cbT zD l))
  (hset:∀ (k:Nat) (hk:k<l.length) (x:Value) (W:World),Below w.heap.size w W→LAt W S d l[k].kids x→zt l[k].own→Calls Tryz.prog 38 #[ze l[k].own x] W (xU S d l[k] W)) :
  Calls Tryz.prog 57 #[.slice A n c] w fun e w'=>(∃ A' c',e=.returned (.slice A' (2*(n / 2)) c')∧LAt w' (fun q=>(S q∨w.heap.size≤q)∧q<w'.heap.size) (d+1) (unp (j8 cbT (zM cbT zD l))) (.slice A' (2*(n / 2)) c'))∧Below w.heap.size w w':=by
 have hnc:=hl.cap
 have hA:0<n→∃ a,A=some a:=fun h0=>by
  obtain ⟨_,ad,_,_,hd,_⟩:=hl.at_ (k:=0) (by omega)
  exact ⟨ad,hd⟩
 have hlq:=xR (it:=cbT) (nar:=zD) l
 rw [hn]at hlq
 obtain ⟨q,hq⟩:∃ q,zM cbT zD l=q:=⟨_,rfl⟩
 have hkq:∀ (i:Nat) (hi:i<q.length),l[2*i]? = some q[i].1∧∃ v,l[2*i+1]? = some v∧q[i].2=zz cbT zD v:=by
  intro i hi
  subst hq
  exact zaJ l i hi
 rw [hq]at hlq hap ⊢
 have HQ:=Lib.hid hkq
 have HAP:=Lib.hid hap
 have HLQ:=Lib.hid hlq
 obtain ⟨N,hN⟩:∃ N,w.heap.size=N:=⟨_,rfl⟩
 have HL:=Lib.hid hl
 have HG:=Lib.hid h
 have HN:=Lib.hid hn
 have HC:=Lib.hid hc
 have HS:=Lib.hid hS
 have HKEY:=Lib.hid hkeys
 have HST:=Lib.hid hset
 obtain ⟨i0,hi,hz0,hz1,hz2⟩:=info_parts zld
 have HI:=Lib.hid hi
 have HZ0:=Lib.hid hz0
 have HZ1:=Lib.hid hz1
 have HZ2:=Lib.hid hz2
 have hb0:Below N w (w.alloc (.cells #[.slice none 0 0] 117)):=(Below.refl _ w).alloc (by omega) _
 clear hl h hn hc hS hkeys hset hq hkq hap hlq hi hz0 hz1 hz2
 refine jo Tryz.func57 rfl ?_
 simp only [Tryz.ntmps57,List.size_toArray,List.length_cons,List.length_nil,Nat.reduceAdd,Nat.reduceSub,Array.replicate_succ,Array.replicate_zero,List.push_toArray,List.append_toArray,List.nil_append,List.cons_append]
 go_wp2_with fail
 refine (zc0 A n c _).mono ?_
 rintro e w5 ⟨rfl,hw5⟩
 simp only [World.size_alloc]at hw5 ⊢
 rw [hN]
 have hz5:w5.heap.size=N+3:=by rw [← hw5]; simp [hN]
 have hB5:Below N w w5:=by
  rw [← hw5]
  exact (hb0.alloc (by simp; omega) _).alloc (by simp; omega) _
 have hK0:Blk w5 N #[.slice none 0 0] 117:=by
  rw [← hw5]
  exact ((j3 hN _ _).alloc _).alloc _
 have hK2:Blk w5 (N+1) #[.slice A n c] 26:=by
  rw [← hw5]
  exact (j3 (by simp [hN]) _ _).alloc _
 have hK3:Blk w5 (N+2) #[.int .i64 2] 3:=by
  rw [← hw5]
  exact j3 (by simp [hN]) _ _
 clear hw5 hb0
 go_wp2_with fail
 refine qz (gf:=134) (lb:=#[.pointer (some ⟨N+1,0,none⟩),.pointer (some ⟨N+2,0,none⟩)]) rfl (enters_of Tryz.func134 (by kernel_rfl) rfl)
  (zcV N (N+1) (N+2) n c A (by omega) (by have:=HN.out; omega) hA (by omega)) ?hMv ?hA0 ?hKt ?hKb ?hps (zff N S d q w) zn4 ?hI ?hIx ?hIM ?hIxM ?h0 ?hCt
  (zn3 A n) ?hAx ?assign ?body ?hS ?hSp ?done ?stop
 case hMv =>
  intro X Y k o hM hk ho _
  exact (hM.block k (Array.getElem?_eq_some_iff.1 ho).1 (fun e=>by cases e; omega)).trans ho
 case hA0 =>
  intro o o'
  exact ⟨(hK2.alloc o).alloc o',(hK3.alloc o).alloc o'⟩
 case hKt =>
  intro X Y Z h1 h2
  exact zei h1 h2
 case hKb =>
  intro W k o o' hl ho hc
  exact zhD W k o o' (by omega:N≤w5.heap.size) (by omega) (by omega) hl ho
 case hps=>intro x; rfl
 case hI=>exact zlY _ _ _ _ _ (by omega) (by omega)
 case hIx =>
  intro c' s' X Y row hs _ _
  exact hs
 case hIM =>
  intro s X Y hs hg
  exact zkq (fun r hr=>by have:=HS.out r hr; omega) hN hs hg
 case hIxM =>
  rintro c' s X Y hs _
  exact hs
 case h0=>exact ⟨⟨.slice none 0 0,[],⟨hK0,World.ownsRow_nil _ _ _ _⟩,(fun p hp=>nomatch hp),by simp,rfl⟩,hB5⟩
 case hCt=>intros; trivial
 case hAx =>
  intro pre x a' _ X Y row hs _ _
  exact hs
 case hS =>
  intro s' X Y row hs _ _
  exact hs
 case hSp =>
  intro s' X Y row hs _ _
  exact hs
 case stop =>
  rintro D c' pre W hD _ hs
  exact hs.elim
 case assign =>
  rintro k pre x W K hI hT hK
  have HK:=Lib.hid hK
  have HI:=Lib.hid hI
  rw [List.length_append,List.length_singleton,List.range_succ]at hT
  obtain ⟨hT1,hT2⟩:=hT
  obtain ⟨hT1,hT3⟩:=List.append_inj' hT1 rfl
  have hT3:x=pre.length:=by injection hT3
  have HT2:=Lib.hid (show pre.length<n / 2 by omega)
  have HT3:=Lib.hid hT3
  clear hK hI hT1 hT2 hT3
  simp only [zh1]
  gi_wp2
  exact HK.out _ _ (KeepsFrom.refl _ _) ⟨Below.refl _ _,fun _=>rfl,fun _=>rfl⟩ HI.out ⟨⟨HT3.out,HT2.out⟩,rfl⟩
 case body =>
  rintro k pre x a' W hk ⟨rr,hrr⟩ ⟨⟨V,ps,⟨h1,hown⟩,hpa,hpk,hpl⟩,h4⟩ ⟨⟨hx,hlt⟩,rfl⟩
  have hap:(pre++[x]).length=pre.length+1:=by simp
  obtain ⟨j,hj⟩:∃ j,pre.length=j:=⟨_,rfl⟩
  rw [hj]at hx hown hpk hpl hlt hap
  have HAPL:=Lib.hid hap
  clear hj hap
  subst hx
  obtain ⟨a,rfl⟩:=hA (by omega)
  have hb4:Below w.heap.size w W:=by rw [hN]; exact h4
  have hkl:2*x+1<l.length:=by have:=HN.out; omega
  have hk2:2*x<l.length:=Nat.lt_of_succ_lt hkl
  have hlW:LAt W S (d+1) l (.slice (some a) n c):=HL.out.keep (fun r hr=>hb4.block r (HS.out r hr))
  obtain ⟨d1,ad,y,hd1,had,hab,hok,hna,hkk⟩:=hlW.at_ hk2
  obtain ⟨d2,ad2,y2,hd2,had2,hab2,hok2,hna2,hkk2⟩:=hlW.at_ hkl
  obtain rfl:a=ad:=by injection had
  obtain rfl:a=ad2:=by injection had2
  obtain rfl:d=d1:=by omega
  obtain rfl:d=d2:=by omega
  obtain ⟨hsl1,A2,c2,rfl⟩:=hkk.slice
  obtain ⟨hsl2,A3,c3,rfl⟩:=hkk2.slice
  have hxq:x<q.length:=by rw [HLQ.out]; exact hlt
  obtain ⟨hq1,vt,hq2,hq3⟩:=HQ.out x hxq
  rw [List.getElem?_eq_getElem hk2]at hq1
  rw [List.getElem?_eq_getElem hkl]at hq2
  have hq1:=Option.some.inj hq1
  have hq2:=Option.some.inj hq2
  have hkc:=HKEY.out x _ hkl (List.getElem?_eq_getElem hk2)
  have HK:=fun W2 (hW2:Below W.heap.size W W2)=>zcS l[2*x] (.slice A2 l[2*x].kids.length c2) W2 W.heap.size d aT aF ((hkk.mono (fun r hr=>by have:=HS.out r hr; have:=hb4.size; omega):zq W W.heap.size d l[2*x].kids _).below hW2 (Nat.le_refl _)) hok hW2.size (HC.out _ (List.getElem_mem _)) (HG.out.below (hb4.trans (hW2.mono hb4.size)))
  have hset:=fun W2 (hW2:Below W.heap.size W W2)=>HST.out (2*x+1) hkl (.slice A3 l[2*x+1].kids.length c3) W2 (hb4.trans (hW2.mono hb4.size)) (hkk2.keep (fun r hr=>hW2.block r (by have:=HS.out r hr; have:=hb4.size; omega))) hok2
  have hvo:=zbE hok2
  unfold xU at hset
  simp only [hkc,if_true,hq2]at HK hset hvo
  rw [← hq3]at hset hvo
  have hlt0:=h1.lt
  have hW4:N+3≤W.heap.size:=by
   have:=(Array.getElem?_eq_some_iff.1 hrr).1
   omega
  obtain ⟨n2,hn2⟩:∃ n2,l[2*x].kids.length=n2:=⟨_,rfl⟩
  obtain ⟨n3,hn3⟩:∃ n3,vt.kids.length=n3:=⟨_,rfl⟩
  obtain ⟨zk,hzk⟩:∃ zk,q[x].2.kids=zk:=⟨_,rfl⟩
  obtain ⟨n4,hn4⟩:∃ n4,zk.length=n4:=⟨_,rfl⟩
  obtain ⟨⟨kind4,b4,neg4,dg4,ex4,u4,wd4,s4⟩,ho4⟩:∃ o,q[x].2.own=o:=⟨_,rfl⟩
  obtain ⟨⟨kind,b,neg,dg,ex,u,wd,s⟩,ho1⟩:∃ o,l[2*x].own=o:=⟨_,rfl⟩
  obtain ⟨⟨kind3,b3,neg3,dg3,ex3,u3,wd3,s3⟩,ho3⟩:∃ o,vt.own=o:=⟨_,rfl⟩
  obtain ⟨s2,hs2⟩:∃ s2,kr l[2*x] 0=s2:=⟨_,rfl⟩
  have hs2':bs (cbT l[2*x])=s2:=by rw [← hs2]; rfl
  simp only [hq2]at hna2
  simp only [hn2,ho1,hs2]at HK hna hok
  simp only [hn3,ho3,hzk,hn4,ho4]at hset hna2
  rw [hn2]at hkk
  unfold ze at HK hset
  simp only []at HK hset
  have hab0:(a.add (x*18)).block<w.heap.size:=by rw [add_block]; exact HS.out _ hab
  have hadd:a.add ((2*x+1)*9)=⟨(a.add (x*18)).block,(a.add (x*18)).off+9,none⟩:=by rw [show (2*x+1)*9=x*18+(8+1) from by omega,qS]
  rw [hadd]at hna2
  rw [show 2*x*9=x*18 from by omega]at hna
  unfold xN
  rw [Option.map_some]
  obtain ⟨a0,ha0⟩:∃ a0,a.add (x*18)=a0:=⟨_,rfl⟩
  rw [ha0]at hna hna2 hab0 ⊢
  obtain ⟨k0,k1,k2,k3,k4,k5,k6,k7,k8⟩:=hna
  obtain ⟨g0,g1,g2,g3,g4,g5,g6,g7,g8⟩:=hna2
  simp only [Nat.add_assoc,Nat.reduceAdd]at k0 k1 k2 k3 k4 k5 k6 k7 k8 g0 g1 g2 g3 g4 g5 g6 g7 g8
  simp only [List.setIfInBounds_toArray,List.set_cons_zero,List.set_cons_succ]
  have HK:=Lib.hid HK
  have HSETW:=Lib.hid hset
  have HKK:=Lib.hid hkk
  have HOK:=Lib.hid hok
  have HPA:=Lib.hid hpa
  have HPK:=Lib.hid hpk
  have HPL:=Lib.hid hpl
  have HOWN:=Lib.hid hown
  have H1:=Lib.hid h1
  have H4:=Lib.hid h4
  have HZK:=Lib.hid hzk
  have HO4:=Lib.hid ho4
  have HN4:=Lib.hid hn4
  have HO1:=Lib.hid ho1
  have HN2:=Lib.hid hn2
  have HS2:=Lib.hid hs2'
  have HQ1:=Lib.hid hq1
  have hz4:=hb4.size
  have hbW:=Below.refl W.heap.size W
  have hlta0:a0.block<W.heap.size:=by omega
  have hplx:x≤1000000:=by omega
  clear hset hkk hok hpa hpk hpl hown h1 h4 hzk ho4 hn4 ho1 hn2 ho3 hn3 hs2 hs2' hq1 hq2 hq3 hkk2 hok2 hadd ha0 hab hab2 hsl1 hsl2 hkc hlW
  gi_wp2_with fail
  refine (callsIn_wide.2 (HK.out _ hbW)).mono ?_
  rintro e w6 ⟨rfl,hb6⟩
  have hz6:=hb6.size
  have hkp:w6.heap[a0.block]? = W.heap[a0.block]? := hb6.block _ hlta0
  have mk0:∀ o,w6.cell? ⟨a0.block,o,none⟩=W.cell? ⟨a0.block,o,none⟩:=fun o=>jd (a:=⟨a0.block,o,none⟩) hkp
  have m0:=(jd (a:=a0) hkp).trans k0
  have m1:=(mk0 _).trans k1
  have m2:=(mk0 _).trans k2
  have m3:=(mk0 _).trans k3
  have m4:=(mk0 _).trans k4
  have m5:=(mk0 _).trans k5
  have m6:=(mk0 _).trans k6
  have m7:=(mk0 _).trans k7
  have m8:=(mk0 _).trans k8
  have p0:=(mk0 _).trans g0
  have p1:=(mk0 _).trans g1
  have p2:=(mk0 _).trans g2
  have p3:=(mk0 _).trans g3
  have p4:=(mk0 _).trans g4
  have p5:=(mk0 _).trans g5
  have p6:=(mk0 _).trans g6
  have p7:=(mk0 _).trans g7
  have p8:=(mk0 _).trans g8
  have mk:∀ X:World,X.heap[a0.block]? = w6.heap[a0.block]?→∀ o,X.cell? ⟨a0.block,o,none⟩=w6.cell? ⟨a0.block,o,none⟩:=fun X h o=>jd (a:=⟨a0.block,o,none⟩) h
  have hlta:a0.block<w6.heap.size:=by omega
  have hlt06:N<w6.heap.size:=by omega
  have c06:w6.cell? ⟨N,0,none⟩=some V:=(jd (a:=⟨N,0,none⟩) (hb6.block N hlt0)).trans (H1.out.cell 0)
  have HSET:=Lib.hid (fun X (hX:Below w6.heap.size w6 X)=>HSETW.out X (hb6.trans (hX.mono hz6)))
  have HB6:=Lib.hid hb6
  clear k0 k1 k2 k3 k4 k5 k6 k7 k8 g0 g1 g2 g3 g4 g5 g6 g7 g8 HK hbW hkp mk0 hb6 HSETW
  gi_wp2_with fail
  refine zcF (R:=fun A B=>Below A.heap.size A B) 12 (by kernel_rfl) (by kernel_rfl) (fun _=>Below.refl _ _) (by kernel_rfl) (by kernel_rfl) (by kernel_rfl) (fun X=>Below w6.heap.size w6 X)
   [fun v _=>v=V,fun v _=>v=.slice (some a0) 2 2,fun v _=>v=.pointer (some a0),fun v _=>v=.agg #[.int .i64 kind,.bool b,.bool neg,.string dg,.int .i64 ex,.int .u64 u,.int .i64 wd,.string s,.slice A2 n2 c2],fun v _=>v=.string s2,fun v _=>v=.agg #[.int .i64 kind,.bool b,.bool neg,.string dg,.int .i64 ex,.int .u64 u,.int .i64 wd,.string s,.slice A2 n2 c2,.string s2],fun v _=>v=.slice (some a0) 2 2,fun v _=>v=.pointer (some ⟨a0.block,a0.off+9,none⟩),fun v _=>v=.agg #[.int .i64 kind3,.bool b3,.bool neg3,.string dg3,.int .i64 ex3,.int .u64 u3,.int .i64 wd3,.string s3,.slice A3 n3 c3],fun v W=>∃ zA zc,v=.agg #[.int .i64 kind4,.bool b4,.bool neg4,.string dg4,.int .i64 ex4,.int .u64 u4,.int .i64 wd4,.string s4,.slice zA n4 zc]∧LAt W (fun r=>(S r∨w6.heap.size≤r)∧r<W.heap.size) d zk (.slice zA n4 zc),fun v W=>∃ zA zc,v=.agg #[.int .i64 kind,.bool b,.bool neg,.string dg,.int .i64 ex,.int .u64 u,.int .i64 wd,.string s,.slice A2 n2 c2,.string s2,.int .i64 kind4,.bool b4,.bool neg4,.string dg4,.int .i64 ex4,.int .u64 u4,.int .i64 wd4,.string s4,.slice zA n4 zc]∧LAt W (fun r=>(S r∨w6.heap.size≤r)∧r<W.heap.size) d zk (.slice zA n4 zc),fun v W=>∃ zA zc zb,v=.slice (some ⟨zb,0,none⟩) 1 1∧Blk W zb #[.int .i64 kind,.bool b,.bool neg,.string dg,.int .i64 ex,.int .u64 u,.int .i64 wd,.string s,.slice A2 n2 c2,.string s2,.int .i64 kind4,.bool b4,.bool neg4,.string dg4,.int .i64 ex4,.int .u64 u4,.int .i64 wd4,.string s4,.slice zA n4 zc] 124∧LAt W (fun r=>(S r∨w6.heap.size≤r)∧r<W.heap.size) d zk (.slice zA n4 zc)] (Below.drew (Below.refl _ _)) (fun _ _ he hr=>he.trans (hr.mono he.size)) ?_ ?_ ?_
  ·intro p hp v X Y hE hv hr
   simp only [List.mem_cons,List.not_mem_nil,or_false]at hp
   rcases hp with rfl|rfl|rfl|rfl|rfl|rfl|rfl|rfl|rfl|rfl|rfl|rfl
   ·exact hv
   ·exact hv
   ·exact hv
   ·exact hv
   ·exact hv
   ·exact hv
   ·exact hv
   ·exact hv
   ·exact hv
   ·obtain ⟨zA,zc,h1,h2⟩:=hv
    exact ⟨zA,zc,h1,(h2.keep (fun r hx=>hr.block r hx.2)).mono (fun r hx=>⟨hx.1,Nat.lt_of_lt_of_le hx.2 hr.size⟩)⟩
   ·obtain ⟨zA,zc,h1,h2⟩:=hv
    exact ⟨zA,zc,h1,(h2.keep (fun r hx=>hr.block r hx.2)).mono (fun r hx=>⟨hx.1,Nat.lt_of_lt_of_le hx.2 hr.size⟩)⟩
   ·obtain ⟨zA,zc,zb,h1,h3,h2⟩:=hv
    exact ⟨zA,zc,zb,h1,h3.below hr h3.lt,(h2.keep (fun r hx=>hr.block r hx.2)).mono (fun r hx=>⟨hx.1,Nat.lt_of_lt_of_le hx.2 hr.size⟩)⟩
  ·refine za (zn rfl rfl (by kernel_rfl) (by kernel_rfl) ?_) ?_
   ·intro env W hE hn ρ hρ hc hf hg K hK
    have r3:ρ (.tmp 3)=.pointer (some ⟨N,0,none⟩):=by rw [hρ]; kernel_rfl
    clear hρ hn hg
    have q0:=(jd (a:=⟨N,0,none⟩) (hE.block N hlt06)).trans c06
    simp [zd,go_sem,r3,q0]
    exact hK _ _ rfl (Below.refl _ _)
   refine za (zn rfl rfl (by kernel_rfl) (by kernel_rfl) ?_) ?_
   ·intro env W hE hn ρ hρ hc hf hg K hK
    have r4:ρ (.tmp 4)=.slice (some a0) 2 2:=by rw [hρ]; kernel_rfl
    clear hρ hn hg
    simp [zd,go_sem,r4]
    exact hK _ _ rfl (Below.refl _ _)
   refine za (zn rfl rfl (by kernel_rfl) (by kernel_rfl) ?_) ?_
   ·intro env W hE hn ρ hρ hc hf hg K hK
    have r21:=(show ρ (.tmp 21)=env 1 by rw [hρ]; kernel_rfl).trans (hn 1 (by kernel_rfl))
    clear hρ hn hg
    simp [zd,go_sem,hc,r21]
    exact hK _ _ rfl (Below.refl _ _)
   refine za (zn rfl rfl (by kernel_rfl) (by kernel_rfl) ?_) ?_
   ·intro env W hE hn ρ hρ hc hf hg K hK
    have r22:=(show ρ (.tmp 22)=env 2 by rw [hρ]; kernel_rfl).trans (hn 2 (by kernel_rfl))
    clear hρ hn hg
    have hh:=hE.block a0.block hlta
    simp [zd,go_sem,r22,(jd (a:=a0) hh).trans m0,(mk W hh _).trans m1,(mk W hh _).trans m2,(mk W hh _).trans m3,(mk W hh _).trans m4,(mk W hh _).trans m5,(mk W hh _).trans m6,(mk W hh _).trans m7,(mk W hh _).trans m8]
    exact hK _ _ rfl (Below.refl _ _)
   refine za (zn rfl rfl (by kernel_rfl) (by kernel_rfl) ?_) ?_
   ·intro env W hE hn ρ hρ hc hf hg K hK
    have r5:ρ (.tmp 5)=.string s2:=by rw [hρ]; kernel_rfl
    clear hρ hn hg
    simp [zd,go_sem,r5]
    exact hK _ _ rfl (Below.refl _ _)
   refine za (zn rfl rfl (by kernel_rfl) (by kernel_rfl) ?_) ?_
   ·intro env W hE hn ρ hρ hc hf hg K hK
    have r23:=(show ρ (.tmp 23)=env 3 by rw [hρ]; kernel_rfl).trans (hn 3 (by kernel_rfl))
    have r24:=(show ρ (.tmp 24)=env 4 by rw [hρ]; kernel_rfl).trans (hn 4 (by kernel_rfl))
    clear hρ hn hg
    simp [zd,go_sem,r23,r24]
    exact hK _ _ rfl (Below.refl _ _)
   refine za (zn rfl rfl (by kernel_rfl) (by kernel_rfl) ?_) ?_
   ·intro env W hE hn ρ hρ hc hf hg K hK
    have r4:ρ (.tmp 4)=.slice (some a0) 2 2:=by rw [hρ]; kernel_rfl
    clear hρ hn hg
    simp [zd,go_sem,r4]
    exact hK _ _ rfl (Below.refl _ _)
   refine za (zn rfl rfl (by kernel_rfl) (by kernel_rfl) ?_) ?_
   ·intro env W hE hn ρ hρ hc hf hg K hK
    have r26:=(show ρ (.tmp 26)=env 6 by rw [hρ]; kernel_rfl).trans (hn 6 (by kernel_rfl))
    clear hρ hn hg
    simp [zd,go_sem,hc,r26]
    exact hK _ _ rfl (Below.refl _ _)
   refine za (zn rfl rfl (by kernel_rfl) (by kernel_rfl) ?_) ?_
   ·intro env W hE hn ρ hρ hc hf hg K hK
    have r27:=(show ρ (.tmp 27)=env 7 by rw [hρ]; kernel_rfl).trans (hn 7 (by kernel_rfl))
    clear hρ hn hg
    have hh:=hE.block a0.block hlta
    simp [zd,go_sem,r27,(mk W hh _).trans p0,(mk W hh _).trans p1,(mk W hh _).trans p2,(mk W hh _).trans p3,(mk W hh _).trans p4,(mk W hh _).trans p5,(mk W hh _).trans p6,(mk W hh _).trans p7,(mk W hh _).trans p8]
    exact hK _ _ rfl (Below.refl _ _)
   refine za (zn rfl rfl (by kernel_rfl) (by kernel_rfl) ?_) ?_
   ·intro env W hE hn ρ hρ hc hf hg K hK
    have r28:=(show ρ (.tmp 28)=env 8 by rw [hρ]; kernel_rfl).trans (hn 8 (by kernel_rfl))
    clear hρ hn hg
    refine jl rfl (by kernel_rfl) hf ?_
    rw [show #[Operand.tmp 28].map ρ = #[.agg #[.int .i64 kind3,.bool b3,.bool neg3,.string dg3,.int .i64 ex3,.int .u64 u3,.int .i64 wd3,.string s3,.slice A3 n3 c3]] by simp [r28]]
    refine (HSET.out W hE).mono ?_
    rintro e W' ⟨⟨zA,zc,rfl,hly⟩,hbb⟩
    exact ⟨_,rfl,hK _ _ ⟨zA,zc,rfl,hly.mono (fun r hr=>⟨hr.1.imp id (fun h=>Nat.le_trans hE.size h),hr.2⟩)⟩ hbb⟩
   refine za (zn rfl rfl (by kernel_rfl) (by kernel_rfl) ?_) ?_
   ·intro env W hE hn ρ hρ hc hf hg K hK
    have r25:=(show ρ (.tmp 25)=env 5 by rw [hρ]; kernel_rfl).trans (hn 5 (by kernel_rfl))
    obtain ⟨zA,zc,e29,hval⟩:=hn 9 (by kernel_rfl)
    have r29:=(show ρ (.tmp 29)=env 9 by rw [hρ]; kernel_rfl).trans e29
    clear hρ hn hg
    simp [zd,go_sem,r25,r29]
    exact hK _ _ ⟨zA,zc,rfl,hval⟩ (Below.refl _ _)
   refine za (zn rfl rfl (by kernel_rfl) (by kernel_rfl) ?_) xn
   ·intro env W hE hn ρ hρ hc hf hg K hK
    obtain ⟨zA,zc,e30,hval⟩:=hn 10 (by kernel_rfl)
    have r30:=(show ρ (.tmp 30)=env 10 by rw [hρ]; kernel_rfl).trans e30
    clear hρ hn hg
    have hal:=(Below.refl W.heap.size W).alloc (Nat.le_refl _) (.cells #[.int .i64 kind,.bool b,.bool neg,.string dg,.int .i64 ex,.int .u64 u,.int .i64 wd,.string s,.slice A2 n2 c2,.string s2,.int .i64 kind4,.bool b4,.bool neg4,.string dg4,.int .i64 ex4,.int .u64 u4,.int .i64 wd4,.string s4,.slice zA n4 zc] 124)
    simp [zd,go_sem,r30]
    exact hK _ _ ⟨zA,zc,W.heap.size,rfl,Blk.new _ _ _,(hval.keep (fun r hr=>hal.block r hr.2)).mono (fun r hr=>⟨hr.1,Nat.lt_of_lt_of_le hr.2 hal.size⟩)⟩ hal
  intro env X hE hn
  have e0:env 0=V:=hn 0 (by decide)
  obtain ⟨zA,zc,zb,e11,hzb,hval⟩:=hn 11 (by decide)
  have hown7:X.ownsRow (N+3) 124 19 V x (ps.flatMap qp):=HOWN.out.kept (xy (HB6.out.trans (hE.mono hz6))) (by cases hv:V.ownBlock with | none=>exact .inl rfl | some g=>exact .inr (by simp))
  obtain ⟨g,cap,W8,hrun,hown8,hgr,hat,hlt8⟩:=run_append_lies (P:=Tryz.prog) X 117 117 (N+3) 124 i0 _ 19 224 Tryz.underlying117 HI.out HZ0.out HZ1.out HZ2.out rfl (by decide) V x (ps.flatMap qp) hown7 ⟨zb,0,none⟩ 1 1 [.int .i64 kind,.bool b,.bool neg,.string dg,.int .i64 ex,.int .u64 u,.int .i64 wd,.string s,.slice A2 n2 c2,.string s2,.int .i64 kind4,.bool b4,.bool neg4,.string dg4,.int .i64 ex4,.int .u64 u4,.int .i64 wd4,.string s4,.slice zA n4 zc] rfl (fun j u hu=>by
   rw [zhX,hzb.cell,← hu]
   simp) (by intro u hu; simp at hu; rcases hu with rfl|rfl|rfl|rfl|rfl|rfl|rfl|rfl|rfl|rfl|rfl|rfl|rfl|rfl|rfl|rfl|rfl|rfl|rfl <;> simp [Value.oneCell']) (by decide) (by unfold maxLen; omega) (by omega) (by have:=hE.size; omega) X.heap.size rfl
  simp only [List.take_succ_cons,List.take_zero,List.drop_succ_cons,List.drop_zero,jM,e0,e11]
  have HE:=Lib.hid hE
  have HVAL:=Lib.hid hval
  have HOWN8:=Lib.hid hown8
  have HGR:=Lib.hid hgr
  have HAT:=Lib.hid hat
  have HRUN:=Lib.hid hrun
  clear hn e0 e11 hzb hval hown7 hown8 hgr hat hrun hE
  have hN8:Blk W8 N #[V] 117:=by
   have hz:=HE.out.size
   refine (HGR.out.block N (by omega) (fun e=>?_)).trans ((HE.out.block N hlt06).trans ((HB6.out.block N hlt0).trans H1.out))
   have:=(HOWN.out.lt N (by first | exact e | exact e.symm)).1
   omega
  have c8:=hN8.cell 0
  have f8:=hN8.frozen 0
  have henc:qp ⟨l[2*x],A2,n2,c2,q[x].2,zA,n4,zc⟩=[.int .i64 kind,.bool b,.bool neg,.string dg,.int .i64 ex,.int .u64 u,.int .i64 wd,.string s,.slice A2 n2 c2,.string s2,.int .i64 kind4,.bool b4,.bool neg4,.string dg4,.int .i64 ex4,.int .u64 u4,.int .i64 wd4,.string s4,.slice zA n4 zc]:=by
   unfold qp jb.m yC zp
   simp only [HO1.out,HO4.out,HS2.out]
   rfl
  have HENC:=Lib.hid henc
  have HN8:=Lib.hid hN8
  clear henc hN8
  go_simp
  gi_wp2_with (refine zaX _ rfl (.tmp 20) (.tmp 31) 117 rfl V (.slice (some ⟨zb,0,none⟩) 1 1) (.slice (some ⟨g,0,none⟩) (x+1) cap) W8 rfl rfl HRUN.out ?_)
  refine zlZ (p:=⟨l[2*x],A2,n2,c2,q[x].2,zA,n4,zc⟩) (W7:=X) (fun r hr=>by have:=HS.out r hr; omega) hW4 H4.out hN H1.out HOWN.out HPA.out HB6.out HE.out ?_ HGR.out HAT.out HKK.out ?_ ?_ hvo ?_ HAPL.out HPL.out
  ·rw [HENC.out]
   exact HOWN8.out
  ·exact (by rw [HO1.out]; exact HOK.out:zt l[2*x].own)
  ·exact (by rw [HZK.out]; exact HVAL.out:LAt X _ d q[x].2.kids (.slice zA n4 zc))
  ·rw [HPK.out,List.take_succ_eq_append_getElem hxq]
   have e:(⟨l[2*x],A2,n2,c2,q[x].2,zA,n4,zc⟩:jb).key=q[x]:=by
    show (l[2*x],q[x].2)=q[x]
    rw [HQ1.out]
   rw [e]
 case done =>
  rintro D xs W hD rfl ⟨⟨V,ps,⟨h1,hown⟩,hpa,hpk,hpl⟩,h4⟩ hK
  rw [List.length_range]at hown hpk hpl
  obtain ⟨m,hm⟩:∃ m,n / 2=m:=⟨_,rfl⟩
  have hlq2:=HLQ.out
  rw [hm]at hown hpk hpl hlq2
  have HM:=Lib.hid hm
  rw [← hlq2,List.take_length]at hpk
  have hm1:m≤1000000:=by omega
  have hap:=HAP.out
  rw [← hpk]at hap
  have hso:=zlX V m (N+3) 124 ps W hown hpl hm1 hap
  rw [hpk]at hso
  have c1:=h1.cell 0
  have hvb:∀ r,V.ownBlock=some r→N+3≤r:=fun r e=>(hown.lt r e).1
  have hvr:∀ g,V.ownBlock=some g→∃ o:Obj,W.heap[g]? = some o∧o.isCells=true:=fun g e=>xu hown e
  have HSO:=Lib.hid hso
  have HPA:=Lib.hid hpa
  have HVB:=Lib.hid hvb
  have HVR:=Lib.hid hvr
  have H4:=Lib.hid h4
  have HKD:=Lib.hid hK
  have H1:=Lib.hid h1
  have hz4:=h4.size
  clear hso hpa hvb hvr h4 hK hap hpk hpl hown h1 hA hm
  go_wp2_with fail
  refine HSO.out.mono ?_
  rintro x W1 ⟨rfl,hg1,ps',hperm,hkey',hrp⟩
  obtain ⟨hpl',AP,cP,rfl,hcell⟩:=hrp
  have hz1:=hg1.size
  have hN1:Blk W1 N #[.slice AP m cP] 117:=H1.out.kept hg1 (by
   cases hv:(Value.slice AP m cP).ownBlock with
   | none=>simp
   | some g=>exact fun e=>by have:=HVB.out g hv; have:=Option.some.inj e; omega)
  have cN1:=hN1.cell 0
  have hK1:W1.heap[D]? = some (.deferred (some [])):=(hg1.block D (Array.getElem?_eq_some_iff.1 HKD.out).1 (fun e=>by
   obtain ⟨o,ho,hc⟩:=HVR.out D e.symm
   rw [HKD.out]at ho
   cases ho
   cases hc)).trans HKD.out
  have hB1:Below N w W1:=H4.out.grown hg1 (by omega) (fun r e=>by have:=HVB.out r e; omega)
  have hpa1:qx W1 (fun r=>(S r∨N+3≤r)∧r<W1.heap.size) d ps':=fun p hp=>by
   have hp1:=(HPA.out.keep (fun r hr=>hg1.block r hr.2.1 (fun e=>hr.2.2 e.symm))) p (hperm.mem_iff.1 hp)
   exact ⟨⟨hp1.1.1.mono (fun r hr=>⟨hr.1,by omega⟩),hp1.1.2⟩,hp1.2.1.mono (fun r hr=>⟨hr.1,by omega⟩),hp1.2.2⟩
  have HPL:=Lib.hid hpl'
  have HPA1:=Lib.hid hpa1
  have HKEY1:=Lib.hid hkey'
  have HCELL:=Lib.hid hcell
  have HB1:=Lib.hid hB1
  have HK1:=Lib.hid hK1
  obtain ⟨j0,hj0,hy0,hy1,hy2⟩:=info_parts xQ
  have HJ:=Lib.hid hj0
  have HY0:=Lib.hid hy0
  have HY1:=Lib.hid hy1
  have HY2:=Lib.hid hy2
  clear hg1 hperm hkey' hpl' hcell hN1 hK1 hB1 hpa1 HSO HPA HVB HVR H4 HKD H1 hj0 hy0 hy1 hy2
  go_wp2_with fail
  go_loopw [7,37] (fun v i wr=>∃ (k:Nat) (ys:List Value),k≤m∧i=.int .i64 k∧Below W1.heap.size W1 wr∧wr.ownsRow W1.heap.size 28 9 v (2*k) ys∧zV wr (fun r=>(S r∨N+3≤r)∧r<W1.heap.size) d (unp ((ps'.map jb.key).take k)) ys) (fun _ i _=>m - (intOf i).toNat)
  case atStart=>exact ⟨0,[],Nat.zero_le _,rfl,Below.refl _ _,World.ownsRow_nil _ _ _ _,by rw [List.take_zero]; rfl⟩
  case round =>
   obtain ⟨k,ys,hk,rfl,hbw,hown,hrow⟩:=hrel
   obtain ⟨A',c',rfl⟩:=xE hown
   have hzw:=hbw.size
   by_cases hlt:k<m
   ·have hkl:k<ps'.length:=by rw [HPL.out]; exact hlt
    obtain ⟨g,hAP,hgl,hcell⟩:=HCELL.out k hkl
    have hpk:=HPA1.out ps'[k] (List.getElem_mem hkl)
    obtain ⟨⟨hk1,hk2⟩,hk3,hk4⟩:=hpk
    have hkeyk:(ps'.map jb.key).take (k+1)=(ps'.map jb.key).take k++[ps'[k].key]:=by
     rw [List.take_succ_eq_append_getElem (by simpa using hkl),List.getElem_map]
    obtain ⟨⟨kt,kA,kn,kc,vt,hA,hn',hc'⟩,hpe⟩:∃ p,ps'[k]=p:=⟨_,rfl⟩
    rw [hpe]at hcell hk1 hk2 hk3 hk4 hkeyk
    simp only [jb.key]at hk1 hk2 hk3 hk4 hkeyk
    unfold qp jb.m yC zp at hcell
    simp only [List.cons_append,List.nil_append]at hcell
    have hrk:=zV.one hk2 (hk1.keep (fun r hr=>hbw.block r hr.2))
    have hrv:=zV.one hk4 (hk3.keep (fun r hr=>hbw.block r hr.2))
    have hrow2:=zV.append (zV.append hrv hrk) hrow
    rw [show unp ((ps'.map jb.key).take k)++([kt]++[vt])=unp ((ps'.map jb.key).take (k+1)) from by rw [hkeyk,zdy]; rfl]at hrow2
    obtain ⟨⟨kind,b,neg,dg,ex,u,wd,s⟩,ho1⟩:∃ o,kt.own=o:=⟨_,rfl⟩
    obtain ⟨⟨kind3,b3,neg3,dg3,ex3,u3,wd3,s3⟩,ho3⟩:∃ o,vt.own=o:=⟨_,rfl⟩
    obtain ⟨s2,hs2⟩:∃ s2,bs (cbT kt)=s2:=⟨_,rfl⟩
    rw [ho1,ho3,hs2]at hcell
    rw [ho1,ho3]at hrow2
    unfold zp at hrow2
    simp only [List.cons_append,List.nil_append]at hrow2 hcell
    subst hAP
    obtain ⟨ad,had⟩:∃ ad:Addr,(⟨g,0,none⟩:Addr)=ad:=⟨_,rfl⟩
    have hadk:ad.add (k*19)=⟨g,k*19,none⟩:=by rw [← had,zhX]
    have hcw:∀ (j:Nat) (z:Value),([.int .i64 kind,.bool b,.bool neg,.string dg,.int .i64 ex,.int .u64 u,.int .i64 wd,.string s,.slice kA kn kc,.string s2,.int .i64 kind3,.bool b3,.bool neg3,.string dg3,.int .i64 ex3,.int .u64 u3,.int .i64 wd3,.string s3,.slice hA hn' hc']:List Value)[j]? = some z→wr.cell? ⟨g,k*19+j,none⟩=some z:=fun j z hu=>(jd (a:=⟨g,k*19+j,none⟩) (hbw.block g hgl)).trans (hcell j z hu)
    have hrg:wr.rangeAt g (k*19) [.int .i64 kind,.bool b,.bool neg,.string dg,.int .i64 ex,.int .u64 u,.int .i64 wd,.string s,.slice kA kn kc,.string s2,.int .i64 kind3,.bool b3,.bool neg3,.string dg3,.int .i64 ex3,.int .u64 u3,.int .i64 wd3,.string s3,.slice hA hn' hc']:=hcw
    have hbl:=zB (Blk.new wr #[.int .i64 0,.bool false,.bool false,.string ⟨#[]⟩,.int .i64 0,.int .u64 0,.int .i64 0,.string ⟨#[]⟩,.slice none 0 0,.string ⟨#[]⟩,.int .i64 0,.bool false,.bool false,.string ⟨#[]⟩,.int .i64 0,.int .u64 0,.int .i64 0,.string ⟨#[]⟩,.slice none 0 0] 124) #[.int .i64 kind,.bool b,.bool neg,.string dg,.int .i64 ex,.int .u64 u,.int .i64 wd,.string s,.slice kA kn kc,.string s2,.int .i64 kind3,.bool b3,.bool neg3,.string dg3,.int .i64 ex3,.int .u64 u3,.int .i64 wd3,.string s3,.slice hA hn' hc']
    have hgr19:=zx (wr.alloc (.cells #[.int .i64 0,.bool false,.bool false,.string ⟨#[]⟩,.int .i64 0,.int .u64 0,.int .i64 0,.string ⟨#[]⟩,.slice none 0 0,.string ⟨#[]⟩,.int .i64 0,.bool false,.bool false,.string ⟨#[]⟩,.int .i64 0,.int .u64 0,.int .i64 0,.string ⟨#[]⟩,.slice none 0 0] 124)) wr.heap.size #[.int .i64 kind,.bool b,.bool neg,.string dg,.int .i64 ex,.int .u64 u,.int .i64 wd,.string s,.slice kA kn kc,.string s2,.int .i64 kind3,.bool b3,.bool neg3,.string dg3,.int .i64 ex3,.int .u64 u3,.int .i64 wd3,.string s3,.slice hA hn' hc']
    obtain ⟨W2,hW2⟩:∃ W2,(wr.alloc (.cells #[.int .i64 0,.bool false,.bool false,.string ⟨#[]⟩,.int .i64 0,.int .u64 0,.int .i64 0,.string ⟨#[]⟩,.slice none 0 0,.string ⟨#[]⟩,.int .i64 0,.bool false,.bool false,.string ⟨#[]⟩,.int .i64 0,.int .u64 0,.int .i64 0,.string ⟨#[]⟩,.slice none 0 0] 124)).setRow wr.heap.size #[.int .i64 kind,.bool b,.bool neg,.string dg,.int .i64 ex,.int .u64 u,.int .i64 wd,.string s,.slice kA kn kc,.string s2,.int .i64 kind3,.bool b3,.bool neg3,.string dg3,.int .i64 ex3,.int .u64 u3,.int .i64 wd3,.string s3,.slice hA hn' hc']=W2:=⟨_,rfl⟩
    have hz2:W2.heap.size=wr.heap.size+1:=by rw [← hW2,setRow_size,World.size_alloc]
    have hwr2:Below wr.heap.size wr W2:=by
     rw [← hW2]
     exact ((Below.refl _ wr).alloc (Nat.le_refl _) _).grown hgr19 (by simp) (fun q e=>by cases e; exact Nat.le_refl _)
    rw [had]
    rw [hW2]at hbl
    have hown2:=(hown.kept (xy hwr2) (by cases hv:(Value.slice A' (2*k) c').ownBlock with | none=>exact .inl rfl | some g=>exact .inr (by simp))).alloc (.cells #[.int .i64 kind,.bool b,.bool neg,.string dg,.int .i64 ex,.int .u64 u,.int .i64 wd,.string s,.slice kA kn kc,.int .i64 kind3,.bool b3,.bool neg3,.string dg3,.int .i64 ex3,.int .u64 u3,.int .i64 wd3,.string s3,.slice hA hn' hc'] 28)
    have HRG:=Lib.hid hrg
    have HBL:=Lib.hid hbl
    have HW2:=Lib.hid hW2
    have HADK:=Lib.hid hadk
    have HBN:=Lib.hid (Blk.new wr #[.int .i64 0,.bool false,.bool false,.string ⟨#[]⟩,.int .i64 0,.int .u64 0,.int .i64 0,.string ⟨#[]⟩,.slice none 0 0,.string ⟨#[]⟩,.int .i64 0,.bool false,.bool false,.string ⟨#[]⟩,.int .i64 0,.int .u64 0,.int .i64 0,.string ⟨#[]⟩,.slice none 0 0] 124)
    have y1:(k:Int)<m:=by omega
    have HR2:=Lib.hid hrow2
    have HBW:=Lib.hid hbw
    have HOWN:=Lib.hid hown
    clear hcell hcw hrg hbl hgr19 hW2 hk1 hk2 hk3 hk4 hkeyk hpe hrk hrv hrow hrow2 hown hadk had hbw hs2 ho1 ho3
    have HQ:=Lib.hid (show ∀ q,(Value.slice A' (2*k) c').ownBlock=some q→W1.heap.size≤q from fun q e=>(HOWN.out.lt q e).1)
    have hal:Below wr.heap.size wr (W2.alloc (.cells #[.int .i64 kind,.bool b,.bool neg,.string dg,.int .i64 ex,.int .u64 u,.int .i64 wd,.string s,.slice kA kn kc,.int .i64 kind3,.bool b3,.bool neg3,.string dg3,.int .i64 ex3,.int .u64 u3,.int .i64 wd3,.string s3,.slice hA hn' hc'] 28)):=hwr2.alloc (by omega) _
    have HAL:=Lib.hid hal
    have hnw:=zam W2 [.int .i64 kind,.bool b,.bool neg,.string dg,.int .i64 ex,.int .u64 u,.int .i64 wd,.string s,.slice kA kn kc,.int .i64 kind3,.bool b3,.bool neg3,.string dg3,.int .i64 ex3,.int .u64 u3,.int .i64 wd3,.string s3,.slice hA hn' hc'] 28
    have HNW:=Lib.hid hnw
    have HQ1:=Lib.hid (show 2*k+2≤maxLen from by unfold maxLen; omega)
    have HQ2:=Lib.hid (show (2*k+2)*104≤140737488355328 from by omega)
    have HQ3:=Lib.hid (show W1.heap.size≤(W2.alloc (.cells #[.int .i64 kind,.bool b,.bool neg,.string dg,.int .i64 ex,.int .u64 u,.int .i64 wd,.string s,.slice kA kn kc,.int .i64 kind3,.bool b3,.bool neg3,.string dg3,.int .i64 ex3,.int .u64 u3,.int .i64 wd3,.string s3,.slice hA hn' hc'] 28)).heap.size from by rw [World.size_alloc]; omega)
    have HQ4:=Lib.hid (show (W2.alloc (.cells #[.int .i64 kind,.bool b,.bool neg,.string dg,.int .i64 ex,.int .u64 u,.int .i64 wd,.string s,.slice kA kn kc,.int .i64 kind3,.bool b3,.bool neg3,.string dg3,.int .i64 ex3,.int .u64 u3,.int .i64 wd3,.string s3,.slice hA hn' hc'] 28)).heap.size=W2.heap.size+1 from by rw [World.size_alloc])
    clear hnw
    clear hal
    go_upto_region 11 with (first | (refine wpList_load_mid rfl 124 (.tmp 39) rfl g (k*19) (congrArg (fun z=>Value.pointer (some z)) HADK.out) [.int .i64 kind,.bool b,.bool neg,.string dg,.int .i64 ex,.int .u64 u,.int .i64 wd,.string s,.slice kA kn kc,.string s2,.int .i64 kind3,.bool b3,.bool neg3,.string dg3,.int .i64 ex3,.int .u64 u3,.int .i64 wd3,.string s3,.slice hA hn' hc'] _ HRG.out Tryz.underlying124 rfl (by kernel_rfl) ?_) | (refine wpList_store_row rfl 124 (.tmp 9) (.tmp 40) rfl wr.heap.size #[.int .i64 kind,.bool b,.bool neg,.string dg,.int .i64 ex,.int .u64 u,.int .i64 wd,.string s,.slice kA kn kc,.string s2,.int .i64 kind3,.bool b3,.bool neg3,.string dg3,.int .i64 ex3,.int .u64 u3,.int .i64 wd3,.string s3,.slice hA hn' hc'] rfl rfl 124 _ HBN.out (by kernel_rfl) rfl (by simp [Value.oneCell']) ?_))
    rw [HW2.out]
    have hra:W2.rangeAt wr.heap.size 0 [.int .i64 kind,.bool b,.bool neg,.string dg,.int .i64 ex,.int .u64 u,.int .i64 wd,.string s,.slice kA kn kc]:=fun j z hz=>by
     rw [Nat.zero_add,HBL.out.cell,← hz]
     have hj:j<9:=(List.getElem?_eq_some_iff.1 hz).1
     rcases (by omega:j=0∨j=1∨j=2∨j=3∨j=4∨j=5∨j=6∨j=7∨j=8) with rfl|rfl|rfl|rfl|rfl|rfl|rfl|rfl|rfl <;> rfl
    have hrb:W2.rangeAt wr.heap.size 10 [.int .i64 kind3,.bool b3,.bool neg3,.string dg3,.int .i64 ex3,.int .u64 u3,.int .i64 wd3,.string s3,.slice hA hn' hc']:=fun j z hz=>by
     rw [HBL.out.cell,← hz]
     have hj:j<9:=(List.getElem?_eq_some_iff.1 hz).1
     rcases (by omega:j=0∨j=1∨j=2∨j=3∨j=4∨j=5∨j=6∨j=7∨j=8) with rfl|rfl|rfl|rfl|rfl|rfl|rfl|rfl|rfl <;> rfl
    have HRA:=Lib.hid hra
    have HRB:=Lib.hid hrb
    clear hra hrb HBN HRG HADK HW2 HBL hz2
    go_wp2_with (first | (refine wpList_load_mid rfl 28 (.tmp 43) rfl wr.heap.size 0 rfl [.int .i64 kind,.bool b,.bool neg,.string dg,.int .i64 ex,.int .u64 u,.int .i64 wd,.string s,.slice kA kn kc] _ HRA.out Tryz.underlying28 rfl (by kernel_rfl) ?_) | (refine wpList_load_mid rfl 28 (.tmp 45) rfl wr.heap.size 10 rfl [.int .i64 kind3,.bool b3,.bool neg3,.string dg3,.int .i64 ex3,.int .u64 u3,.int .i64 wd3,.string s3,.slice hA hn' hc'] _ HRB.out Tryz.underlying28 rfl (by kernel_rfl) ?_) | (at_builtin; refine wpList_append_lies _ rfl _ _ 26 rfl W1.heap.size 28 j0 (.agg #[.int .i64 0,.bool false,.bool false,.string ⟨#[]⟩,.int .i64 0,.int .u64 0,.int .i64 0,.string ⟨#[]⟩,.slice none 0 0]) 9 104 Tryz.underlying26 HJ.out HY0.out HY1.out HY2.out rfl (by decide) _ _ _ rfl hown2 ⟨W2.heap.size,0,none⟩ 2 2 [.int .i64 kind,.bool b,.bool neg,.string dg,.int .i64 ex,.int .u64 u,.int .i64 wd,.string s,.slice kA kn kc,.int .i64 kind3,.bool b3,.bool neg3,.string dg3,.int .i64 ex3,.int .u64 u3,.int .i64 wd3,.string s3,.slice hA hn' hc'] rfl rfl HNW.out (by intro u hu; simp at hu; rcases hu with rfl|rfl|rfl|rfl|rfl|rfl|rfl|rfl|rfl|rfl|rfl|rfl|rfl|rfl|rfl|rfl|rfl|rfl <;> rfl) (by decide) HQ1.out HQ2.out HQ3.out (W2.heap.size+1) HQ4.out ?_; intro g2 cap w4 hown4 hgrow hat hg4))
    have hbw4:Below W1.heap.size W1 w4:=(HBW.out.trans (HAL.out.mono hzw)).grown hgrow (Nat.le_trans hzw HAL.out.size) (fun q e=>HQ.out q e)
    have hkp:∀ q,q<W1.heap.size→w4.heap[q]? = wr.heap[q]? := fun q hq=>(hbw4.block q hq).trans (HBW.out.block q hq).symm
    have hrow4:=HR2.out.keep (W':=w4) (fun q hq=>hkp q hq.2)
    have HR4:=Lib.hid hrow4
    have HO4:=Lib.hid hown4
    clear hgrow hat hg4 hkp hrow4 hown4 hown2 HR2 HOWN HQ HAL HBW
    go_wp2_with fail
    go_roundw
    case rel=>exact ⟨k+1,_,by omega,by go_num,hbw4,HO4.out,HR4.out⟩
    case measure =>
     simp only [intOf]
     omega
   ·obtain rfl:k=m:=by omega
    have y1:¬ (k:Int)<k:=by omega
    have hlen1:(ps'.map jb.key).length=k:=by rw [List.length_map,HPL.out]
    rw [show (ps'.map jb.key).take k=ps'.map jb.key from by rw [← hlen1,List.take_length],HKEY1.out]at hrow
    have hlen2:(unp (j8 cbT q)).length=2*k:=by rw [vK,(qI cbT q).length_eq,hlq2]
    have hli:LAt wr (fun r=>(S r∨N≤r)∧r<wr.heap.size) (d+1) (unp (j8 cbT q)) (.slice A' (2*k) c'):=hrow.list hown hlen2.symm (by omega) (fun r hr=>⟨hr.1.imp id (by omega),by omega⟩) (fun a e=>by
     subst e
     have:=hown.lt a.block rfl
     exact ⟨.inr (by omega),this.2⟩)
    have hKD:wr.heap[D]? = some (.deferred (some [])):=(hbw.block D (Array.getElem?_eq_some_iff.1 HK1.out).1).trans HK1.out
    have hBw:Below N w wr:=HB1.out.trans (hbw.mono (by have:=HB1.out.size; omega))
    have HLI:=Lib.hid hli
    have HKD:=Lib.hid hKD
    have HBW:=Lib.hid hBw
    clear hrow hown hlen2 hlen1 hli hKD hBw hbw
    go_wp2_with fail
    refine leave1 (v:=.slice A' (2*k) c') HKD.out (by simp [results,Tryz.results57,go_sem]) rfl ⟨⟨A',c',?_,?_⟩,?_⟩
    ·rw [HM.out]
    ·rw [HM.out]
     exact (HLI.out.keptC (grownBy_putObj' wr D (.deferred none)) (fun r e=>⟨_,by cases e; exact HKD.out,rfl⟩)).mono (fun r hr=>⟨hr.1,by simpa using hr.2⟩)
    ·exact jX HBW.out (by omega) (by have:=HBW.out.size; omega) _
end Go.Proofs.YtonihophanmaaaaGreatDoor
