/- The texts CrU, CrL, CrV, put together. -/
import Derived.Test.YtonihophanmaaaaGreatDoorPc42
import Derived.Test.YtonihophanmaaaaGreatDoorPc36
import Derived.Test.YtonihophanmaaaaGreatDoorPc21
import Derived.Test.YtonihophanmaaaaGreatDoorPc39
import Derived.Test.YtonihophanmaaaaGreatDoorPc37
set_option maxHeartbeats 4000000
set_option maxRecDepth 100000
namespace Go.Proofs.YtonihophanmaaaaGreatDoor
open Go.RowKit Go.Shelf
attribute [local go_sem] Oper.semAt_some
theorem zkX (p d H a:Nat) (s:ByteArray) (w:World) (z:RdB w p s d) (G:a<18446744073709551616) (U:Lib.TabIs Tryz.prog w "internal/strconv.uint64pow10" .u64 Lib.pow10Tab) :
  Calls Tryz.prog 145 #[.pointer (some ⟨p,0,none⟩),qu (1,H,a)] w (jc p d 0 w s (.good (wl true (a+1)) s.data.toList)):=by
 have af:=zal s
 have Y:=Lib.hid (Lib.tabBelow_of_tabIs U)
 have h:=zf8 true (a+1) (by omega)
 have L:=h.1
 have h:=h.2
 unfold wl
 obtain ⟨⟨n,g,e⟩,hx⟩:∃ x,ofN true (a+1)=x:=⟨_,rfl⟩
 rw [hx]at h L ⊢
 have HO:=Lib.hid (fun W (hb:Below w.heap.size w W)=>zj8 a G W (Y.out W hb))
 have HA:=Lib.hid (fun W (hb:Below w.heap.size w W)=>zlv a G W (Y.out W hb))
 have HM:=Lib.hid (fun W=>zfq true (bs (Lib.decDigits (a+1))) 0 n g e L W)
 have HK:=Lib.hid (zmk h)
 have HF:=Lib.hid (fun (W:World) (b:Nat) (hk:Blk W b #[.int .i64 0] 29)=>(show Calls Tryz.prog 104 #[.slice (some ⟨b,0,none⟩) 1 1] W fun x w'=>x=.returned .nilIface∧w'=W from xj b 0 W hk))
 obtain ⟨sa,P⟩:∃ sa,bs (Lib.decDigits a)=sa:=⟨_,rfl⟩
 obtain ⟨sc,S⟩:∃ sc,bs (Lib.decDigits (a+1))=sc:=⟨_,rfl⟩
 have Q:(⟨(Lib.decDigits a).toArray⟩:ByteArray)=sa:=P
 rw [Q]at HO
 rw [P,S]at HA
 rw [S]at HM
 have C:=(Below.refl w.heap.size w).alloc (Nat.le_refl _) (.cells #[.int .i64 1,.int .i64 H,.int .u64 a] 137)
 have l:=C.alloc C.size (.cells #[.int .i64 0,.bool false,.bool false,.string ⟨#[]⟩,.int .i64 0,.int .u64 0,.int .i64 0,.string ⟨#[]⟩,.slice none 0 0] 28)
 have u:=(Blk.new w #[.int .i64 1,.int .i64 H,.int .u64 a] 137).alloc (.cells #[.int .i64 0,.bool false,.bool false,.string ⟨#[]⟩,.int .i64 0,.int .u64 0,.int .i64 0,.string ⟨#[]⟩,.slice none 0 0] 28)
 have y:=Blk.new (w.alloc (.cells #[.int .i64 1,.int .i64 H,.int .u64 a] 137)) #[.int .i64 0,.bool false,.bool false,.string ⟨#[]⟩,.int .i64 0,.int .u64 0,.int .i64 0,.string ⟨#[]⟩,.slice none 0 0] 28
 have M:=(z.alloc (.cells #[.int .i64 1,.int .i64 H,.int .u64 a] 137)).alloc (.cells #[.int .i64 0,.bool false,.bool false,.string ⟨#[]⟩,.int .i64 0,.int .u64 0,.int .i64 0,.string ⟨#[]⟩,.slice none 0 0] 28)
 rw [World.size_alloc]at y
 have z0:=u.cell 0
 have z1:=u.cell 1
 have z2:=u.cell 2
 have aE:=z.lt
 clear C hx h L U P Q S G
 go_enter Tryz.func145,Tryz.ntmps145
 go_wp2_with fail
 refine (HO.out _ l).mono ?_
 rintro x w3 ⟨rfl,m⟩
 have t:=l.trans (m.mono l.size)
 have I:=y.below m y.lt
 have N:=M.below m M.lt
 clear y M l m z0 z1 z2 u HO
 go_wp2_with fail
 refine (HA.out _ t).mono ?_
 rintro x w4 ⟨rfl,o⟩
 have D:=t.trans (o.mono t.size)
 have J:=I.below o I.lt
 have O:=N.below o N.lt
 clear I N t o HA
 go_wp2_with fail
 refine (HM.out _).mono ?_
 rintro x V ⟨rfl,r⟩
 have E:=D.trans (r.mono D.size)
 have aa:=J.below r J.lt
 have ad:=O.below r O.lt
 clear J O D r HM
 have A:=Lib.hid (Blk.new V #[.bool n,.string g,.int .i64 e] 24)
 have ab:=aa.alloc (.cells #[.bool n,.string g,.int .i64 e] 24)
 have ae:=ad.alloc (.cells #[.bool n,.string g,.int .i64 e] 24)
 have Z:=E.alloc E.size (.cells #[.bool n,.string g,.int .i64 e] 24)
 clear aa ad E
 go_wp2_with fail
 refine qC (R:=fun W X=>Below W.heap.size W X) 5 (by kernel_rfl) (by kernel_rfl) (fun _=>Below.refl _ _) (by kernel_rfl) (by kernel_rfl) (fun W=>Below (V.alloc (.cells #[.bool n,.string g,.int .i64 e] 24)).heap.size (V.alloc (.cells #[.bool n,.string g,.int .i64 e] 24)) W)
  [fun v _=>v=.agg #[.bool n,.string g,.int .i64 e],fun v _=>v=.agg #[.int .i64 3,.bool false,.bool n,.string g,.int .i64 e,.int .u64 0,.int .i64 0,.string ⟨#[]⟩,.slice none 0 0],fun v _=>v=.int .i64 0,fun v W=>∃ B,v=.slice (some ⟨B,0,none⟩) 1 1∧Blk W B #[.int .i64 0] 29,fun v _=>v=.nilIface] ?_ ?_ ?_ ?_ ?_
 case refine_1=>exact (Below.refl _ _).drew
 case refine_2=>exact fun W X he z=>he.trans (z.mono he.size)
 case refine_3 =>
  intro q hq v W X _ hv z
  simp only [List.mem_cons,List.not_mem_nil,or_false]at hq
  rcases hq with rfl|rfl|rfl|rfl|rfl
  all_goals first | exact hv | exact (let ⟨g,h1,h2⟩:=hv; ⟨g,h1,h2.below z h2.lt⟩)
 case refine_4 =>
  refine za (zn rfl rfl (by kernel_rfl) (by kernel_rfl) ?_) ?_
  ·intro f W i hn ρ c hc F k K j
   have r8:ρ (.tmp 8)=.pointer (some ⟨V.heap.size,0,none⟩):=by rw [c]; kernel_rfl
   clear c hn k
   exact jh 24 (.tmp 8) rfl V.heap.size r8 24 _ (0,0) _ (A.out.below i A.out.lt) Tryz.underlying24 rfl (by kernel_rfl) (j _ _ rfl (Below.refl _ _))
  refine za (zn rfl rfl (by kernel_rfl) (by kernel_rfl) ?_) ?_
  ·intro f W i hn ρ c hc F k K j
   have ay:=(show ρ (.tmp 22)=f 0 by rw [c]; kernel_rfl).trans (hn 0 (by kernel_rfl))
   clear c hn k
   simp [zd,go_sem,hc,ay]
   exact j _ _ rfl (Below.refl _ _)
  refine za (zn rfl rfl (by kernel_rfl) (by kernel_rfl) ?_) ?_
  ·intro f W i hn ρ c hc F k K j
   have r9:ρ (.tmp 9)=.int .i64 0:=by rw [c]; kernel_rfl
   clear c hn k
   simp [zd,go_sem,r9]
   exact j _ _ rfl (Below.refl _ _)
  refine za (zn rfl rfl (by kernel_rfl) (by kernel_rfl) ?_) ?_
  ·intro f W i hn ρ c hc F k K j
   have az:=(show ρ (.tmp 24)=f 2 by rw [c]; kernel_rfl).trans (hn 2 (by kernel_rfl))
   clear c hn k
   simp [zd,go_sem,az]
   exact j _ _ ⟨W.heap.size,rfl,Blk.new _ _ _⟩ ((Below.refl _ W).alloc (Nat.le_refl _) _)
  refine za (zn rfl rfl (by kernel_rfl) (by kernel_rfl) ?_) xn
  ·intro f W i hn ρ c hc F k K j
   obtain ⟨B,am,aq⟩:=hn 3 (by kernel_rfl)
   have aA:=(show ρ (.tmp 25)=f 3 by rw [c]; kernel_rfl).trans am
   clear c hn k
   refine jl rfl (by kernel_rfl) F ?_
   rw [show #[Operand.tmp 25].map ρ = #[.slice (some ⟨B,0,none⟩) 1 1] by simp [aA]]
   refine (HF.out W B aq).mono ?_
   rintro x X ⟨rfl,rfl⟩
   exact ⟨_,rfl,j _ _ rfl (Below.refl _ _)⟩
 case refine_5 =>
  intro f W i hn
  have e1:=hn 1 (by decide)
  have e4:=hn 4 (by decide)
  simp only [vu,List.getD_cons_zero,List.getD_cons_succ]at e1 e4
  clear hn HF A
  have ac:=ab.below i ab.lt
  have av:=ae.below i ae.lt
  have ap:=Z.trans (i.mono Z.size)
  simp only [List.take_succ_cons,List.take_zero,List.drop_succ_cons,List.drop_zero,jM,e1,e4]
  go_simp
  go_wp2_with (refine wpList_store_row rfl 28 (.tmp 4) (.tmp 23) rfl (w.heap.size+1) #[.int .i64 3,.bool false,.bool n,.string g,.int .i64 e,.int .u64 0,.int .i64 0,.string ⟨#[]⟩,.slice none 0 0] rfl rfl 28 _ ac (by kernel_rfl) rfl (by simp [Value.oneCell']) ?_)
  refine bodyPost_ret (zo (T:=28) (b:=w.heap.size+1) rfl rfl rfl (zB ac _) Tryz.underlying28 rfl (by kernel_rfl)) rfl ?_
  exact ⟨xK ap (by omega) _,⟨none,0,0,rfl,LAt.nil _ _ _ _ _⟩,HK.out,by rw [af]; exact zH av (by omega) _,by rw [af]; exact Nat.le_refl _⟩
end Go.Proofs.YtonihophanmaaaaGreatDoor
namespace Go.Proofs.YtonihophanmaaaaGreatDoor
open Go.RowKit Go.Shelf
theorem zng {w0:World} (F d p:Nat) (h:Nat×Nat×Nat) (hI:wm w0 F d) (s:ByteArray) (w:World) (G:Below w0.heap.size w0 w) (hp:w0.heap.size≤p) (hr:RdB w p s (16 - d)) (hs:s.size≤1000000000) (hF:s.size<F) (B:OkS s) (hu:h.2.2<18446744073709551616) :
  Calls Tryz.prog 148 #[.pointer (some ⟨p,0,none⟩),qu h] w (jc p (16 - d) (d+1) w s (zS (zE F d) (fun t=>jC (zaM h.2.2 t)) s.data.toList)):=by
 obtain ⟨N,K,v⟩:=h
 simp only []at hu
 obtain ⟨dp,Y⟩:∃ dp,16 - d=dp:=⟨_,rfl⟩
 have y:=Lib.hid (fun W (hb:Below w0.heap.size w0 W) (hR:RdB W p s (16 - d))=>hI p s W hb hp hR hs hF B)
 rw [Y]at y hr ⊢
 have H:=(Below.refl w.heap.size w).alloc (Nat.le_refl _) (.cells #[.int .i64 N,.int .i64 K,.int .u64 v] 137)
 have V:=H.alloc H.size (.cells #[.int .i64 0,.bool false,.bool false,.string ⟨#[]⟩,.int .i64 0,.int .u64 0,.int .i64 0,.string ⟨#[]⟩,.slice none 0 0] 28)
 have Z:=(Blk.new w #[.int .i64 N,.int .i64 K,.int .u64 v] 137).alloc (.cells #[.int .i64 0,.bool false,.bool false,.string ⟨#[]⟩,.int .i64 0,.int .u64 0,.int .i64 0,.string ⟨#[]⟩,.slice none 0 0] 28)
 have L:=Blk.new (w.alloc (.cells #[.int .i64 N,.int .i64 K,.int .u64 v] 137)) #[.int .i64 0,.bool false,.bool false,.string ⟨#[]⟩,.int .i64 0,.int .u64 0,.int .i64 0,.string ⟨#[]⟩,.slice none 0 0] 28
 have ab:=(hr.alloc (.cells #[.int .i64 N,.int .i64 K,.int .u64 v] 137)).alloc (.cells #[.int .i64 0,.bool false,.bool false,.string ⟨#[]⟩,.int .i64 0,.int .u64 0,.int .i64 0,.string ⟨#[]⟩,.slice none 0 0] 28)
 rw [World.size_alloc]at L
 have au:=hr.lt
 have X:=(G.alloc G.size (.cells #[.int .i64 N,.int .i64 K,.int .u64 v] 137)).alloc (by have:=G.size; simp; omega) (.cells #[.int .i64 0,.bool false,.bool false,.string ⟨#[]⟩,.int .i64 0,.int .u64 0,.int .i64 0,.string ⟨#[]⟩,.slice none 0 0] 28)
 obtain ⟨res,R⟩:∃ res,zE F d s.data.toList=res:=⟨_,rfl⟩
 have I:=yd (zE F d) (zaM v) s.data.toList
 rw [R]at I y
 show Calls _ _ _ _ (jc p dp (d+1) w s (zS (zE F d) (fun t=>jC (zaM v t)) s.data.toList))
 rw [I]
 have y3:(v:Int)<18446744073709551616:=by omega
 clear R I H hI Y B
 cases res with
 | bad e =>
  have y:Hid (∀ W:World,Below w0.heap.size w0 W→RdB W p s dp→Calls Tryz.prog 68 #[.pointer (some ⟨p,0,none⟩)] W fun x E=>W.grownBy E (some p)∧(∃ o A n c,x=.returned (.tuple #[ze o (.slice A n c),jD e]))∧e≠0∧∃ U,RdB E p U dp∧U.size≤s.size):=y
  show Calls _ _ _ _ (jc p dp (d+1) w s (.bad e))
  go_enter Tryz.func148,Tryz.ntmps148
  go_wp2_with fail
  refine (y.out _ X ab).mono ?_
  rintro e1 k ⟨z,⟨⟨a,b3,b,f,g,m,i,l⟩,A,n,c,rfl⟩,he,U,P,S⟩
  unfold ze
  simp only []
  have M:=(RdB.grown L z (by omega)).alloc (.cells #[.int .i64 a,.bool b3,.bool b,.string f,.int .i64 g,.int .u64 m,.int .i64 i,.string l,.slice A n c] 28)
  have D:=(RdB.grown Z z (by omega)).alloc (.cells #[.int .i64 a,.bool b3,.bool b,.string f,.int .i64 g,.int .u64 m,.int .i64 i,.string l,.slice A n c] 28)
  have j:=Blk.new k #[.int .i64 a,.bool b3,.bool b,.string f,.int .i64 g,.int .u64 m,.int .i64 i,.string l,.slice A n c] 28
  have C:=M.alloc (.cells #[.int .i64 a,.bool b3,.bool b,.string f,.int .i64 g,.int .u64 m,.int .i64 i,.string l,.slice A n c] 28)
  have Q:=(P.alloc (.cells #[.int .i64 a,.bool b3,.bool b,.string f,.int .i64 g,.int .u64 m,.int .i64 i,.string l,.slice A n c] 28)).alloc (.cells #[.int .i64 a,.bool b3,.bool b,.string f,.int .i64 g,.int .u64 m,.int .i64 i,.string l,.slice A n c] 28)
  have z2:=D.cell 2
  have q0:=j.cell 0
  have q1:=j.cell 1
  have q2:=j.cell 2
  have q3:=j.cell 3
  have q4:=j.cell 4
  have q5:=j.cell 5
  have q6:=j.cell 6
  have q7:=j.cell 7
  have q8:=j.cell 8
  go_wp2_with (refine wpList_store_row rfl 28 (.tmp 4) (.tmp 17) rfl (w.heap.size+1) #[.int .i64 9,.bool false,.bool false,.string ⟨#[]⟩,.int .i64 0,.int .u64 v,.int .i64 0,.string ⟨#[]⟩,.slice (some ⟨k.heap.size+1,0,none⟩) 1 1] rfl rfl 28 _ C (by kernel_rfl) rfl (by simp [Value.oneCell']) ?_)
  have J:w.grownBy ((k.alloc (.cells #[.int .i64 a,.bool b3,.bool b,.string f,.int .i64 g,.int .u64 m,.int .i64 i,.string l,.slice A n c] 28)).alloc (.cells #[.int .i64 a,.bool b3,.bool b,.string f,.int .i64 g,.int .u64 m,.int .i64 i,.string l,.slice A n c] 28)) (some p):=grown_of (zu (below_grown V (some p)) z) (((Below.refl k.heap.size k).alloc (Nat.le_refl _) _).alloc (by simp) _)
  have hg:=jE J (zx _ (w.heap.size+1) #[.int .i64 9,.bool false,.bool false,.string ⟨#[]⟩,.int .i64 0,.int .u64 v,.int .i64 0,.string ⟨#[]⟩,.slice (some ⟨k.heap.size+1,0,none⟩) 1 1]) (Nat.le_succ w.heap.size)
  refine bodyPost_ret (zo (T:=28) rfl rfl rfl (zB C #[.int .i64 9,.bool false,.bool false,.string ⟨#[]⟩,.int .i64 0,.int .u64 v,.int .i64 0,.string ⟨#[]⟩,.slice (some ⟨k.heap.size+1,0,none⟩) 1 1]) Tryz.underlying28 rfl (by kernel_rfl)) rfl ?_
  exact ⟨hg,⟨{ zv with kind:=9,u:=v },_,_,_,rfl⟩,he,U,zH Q (by omega) _,S⟩
 | good t r =>
  have y:Hid (∀ W:World,Below w0.heap.size w0 W→RdB W p s dp→Calls Tryz.prog 68 #[.pointer (some ⟨p,0,none⟩)] W fun x E=>W.grownBy E (some p)∧(∃ A n c,x=.returned (.tuple #[ze t.own (.slice A n c),.nilIface])∧LAt E (fun q=>W.heap.size≤q∧q<E.heap.size) d t.kids (.slice A n c))∧zt t.own∧RdB E p (bs r) dp∧(bs r).size≤s.size):=y
  show Calls _ _ _ _ (jc p dp (d+1) w s (.good (zaM v t) r))
  go_enter Tryz.func148,Tryz.ntmps148
  go_wp2_with fail
  refine (y.out _ X ab).mono ?_
  rintro e1 k ⟨z,⟨A,n,c,rfl,aa⟩,ak,P,S⟩
  obtain ⟨⟨a,b3,b,f,g,m,i,l⟩,O⟩:∃ o,t.own=o:=⟨_,rfl⟩
  have ag:=Lib.hid O
  rw [O]
  unfold ze
  simp only []
  have M:=(RdB.grown L z (by omega)).alloc (.cells #[.int .i64 a,.bool b3,.bool b,.string f,.int .i64 g,.int .u64 m,.int .i64 i,.string l,.slice A n c] 28)
  have D:=(RdB.grown Z z (by omega)).alloc (.cells #[.int .i64 a,.bool b3,.bool b,.string f,.int .i64 g,.int .u64 m,.int .i64 i,.string l,.slice A n c] 28)
  have j:=Blk.new k #[.int .i64 a,.bool b3,.bool b,.string f,.int .i64 g,.int .u64 m,.int .i64 i,.string l,.slice A n c] 28
  have ac:=Blk.new (k.alloc (.cells #[.int .i64 a,.bool b3,.bool b,.string f,.int .i64 g,.int .u64 m,.int .i64 i,.string l,.slice A n c] 28)) #[.int .i64 a,.bool b3,.bool b,.string f,.int .i64 g,.int .u64 m,.int .i64 i,.string l,.slice A n c] 28
  rw [World.size_alloc]at ac
  have C:=M.alloc (.cells #[.int .i64 a,.bool b3,.bool b,.string f,.int .i64 g,.int .u64 m,.int .i64 i,.string l,.slice A n c] 28)
  have Q:=(P.alloc (.cells #[.int .i64 a,.bool b3,.bool b,.string f,.int .i64 g,.int .u64 m,.int .i64 i,.string l,.slice A n c] 28)).alloc (.cells #[.int .i64 a,.bool b3,.bool b,.string f,.int .i64 g,.int .u64 m,.int .i64 i,.string l,.slice A n c] 28)
  have z2:=D.cell 2
  have af:=Lib.hid aa
  clear aa O
  have q0:=j.cell 0
  have q1:=j.cell 1
  have q2:=j.cell 2
  have q3:=j.cell 3
  have q4:=j.cell 4
  have q5:=j.cell 5
  have q6:=j.cell 6
  have q7:=j.cell 7
  have q8:=j.cell 8
  go_wp2_with (refine wpList_store_row rfl 28 (.tmp 4) (.tmp 17) rfl (w.heap.size+1) #[.int .i64 9,.bool false,.bool false,.string ⟨#[]⟩,.int .i64 0,.int .u64 v,.int .i64 0,.string ⟨#[]⟩,.slice (some ⟨k.heap.size+1,0,none⟩) 1 1] rfl rfl 28 _ C (by kernel_rfl) rfl (by simp [Value.oneCell']) ?_)
  have aG:w.heap.size+1+1≤k.heap.size:=by
   have:=z.size
   simpa using this
  have J:w.grownBy ((k.alloc (.cells #[.int .i64 a,.bool b3,.bool b,.string f,.int .i64 g,.int .u64 m,.int .i64 i,.string l,.slice A n c] 28)).alloc (.cells #[.int .i64 a,.bool b3,.bool b,.string f,.int .i64 g,.int .u64 m,.int .i64 i,.string l,.slice A n c] 28)) (some p):=grown_of (zu (below_grown V (some p)) z) (((Below.refl k.heap.size k).alloc (Nat.le_refl _) _).alloc (by simp) _)
  have hg:=jE J (zx _ (w.heap.size+1) #[.int .i64 9,.bool false,.bool false,.string ⟨#[]⟩,.int .i64 0,.int .u64 v,.int .i64 0,.string ⟨#[]⟩,.slice (some ⟨k.heap.size+1,0,none⟩) 1 1]) (Nat.le_succ w.heap.size)
  refine bodyPost_ret (zo (T:=28) rfl rfl rfl (zB C #[.int .i64 9,.bool false,.bool false,.string ⟨#[]⟩,.int .i64 0,.int .u64 v,.int .i64 0,.string ⟨#[]⟩,.slice (some ⟨k.heap.size+1,0,none⟩) 1 1]) Tryz.underlying28 rfl (by kernel_rfl)) rfl ?_
  refine ⟨hg,⟨_,_,_,rfl,?_⟩,zaz 9 v 0 (by decide) hu (by decide),zH Q (by omega) _,S⟩
  have ai:Below k.heap.size k ((k.alloc (.cells #[.int .i64 a,.bool b3,.bool b,.string f,.int .i64 g,.int .u64 m,.int .i64 i,.string l,.slice A n c] 28)).alloc (.cells #[.int .i64 a,.bool b3,.bool b,.string f,.int .i64 g,.int .u64 m,.int .i64 i,.string l,.slice A n c] 28)):=((Below.refl k.heap.size k).alloc (Nat.le_refl _) _).alloc (by simp) _
  have aj:=(af.out.keep (fun q B=>ai.block q B.2)).keep (W':=((k.alloc (.cells #[.int .i64 a,.bool b3,.bool b,.string f,.int .i64 g,.int .u64 m,.int .i64 i,.string l,.slice A n c] 28)).alloc (.cells #[.int .i64 a,.bool b3,.bool b,.string f,.int .i64 g,.int .u64 m,.int .i64 i,.string l,.slice A n c] 28)).setRow (w.heap.size+1) #[.int .i64 9,.bool false,.bool false,.string ⟨#[]⟩,.int .i64 0,.int .u64 v,.int .i64 0,.string ⟨#[]⟩,.slice (some ⟨k.heap.size+1,0,none⟩) 1 1]) (fun q B=>setRow_other _ _ _ _ (by have:=B.1; simp only [World.size_alloc]at this; omega))
  refine zmo (t:=t) (aj.mono (fun q B=>?_)) ak ?_ ?_
  ·have h1:=B.1
   have h2:=B.2
   simp only [World.size_alloc]at h1
   refine ⟨by omega,?_⟩
   rw [setRow_size]
   simp only [World.size_alloc]
   omega
  ·rw [ag.out]
   exact zH ac (by omega) _
  ·refine ⟨by omega,?_⟩
   rw [setRow_size]
   simp only [World.size_alloc]
   omega
end Go.Proofs.YtonihophanmaaaaGreatDoor
namespace Go.Proofs.YtonihophanmaaaaGreatDoor
open Go.RowKit Go.Shelf
attribute [local go_sem] Oper.semAt_some
def rdF (m:Nat):FuncId:=if m=0 then 144 else if m=1 then 145 else if m≤3 then 146 else if m≤5 then 147 else if m=6 then 148 else 149
def rdV (p m:Nat):Value:=.func (.func (rdF m)) #[.pointer (some ⟨p,0,none⟩)] #[]
abbrev zbW (p:Nat):Array Value:=#[rdV p 0,rdV p 1,rdV p 2,rdV p 3,rdV p 4,rdV p 5,rdV p 6,rdV p 7]
theorem zaC (m:Nat) (h:m≤7):yX Tryz.prog (rdF m)=true:=by
 rcases (by omega:m=0∨m=1∨m=2∨m=3∨m=4∨m=5∨m=6∨m=7) with rfl|rfl|rfl|rfl|rfl|rfl|rfl|rfl <;> kernel_rfl
theorem zan (p:Nat) (w:World) :
  Calls Tryz.prog 107 #[.pointer (some ⟨p,0,none⟩)] w fun x w'=>x=.returned (.agg (zbW p))∧Below w.heap.size w w':=by
 have c:=Blk.new w (Array.replicate 8 .nilFunc) 141
 have a:=(Below.refl w.heap.size w).alloc (Nat.le_refl _) (.cells (Array.replicate 8 .nilFunc) 141)
 go_enter Tryz.func107,Tryz.ntmps107
 go_wp2_with (refine wpList_store_row rfl 141 (.tmp 2) (.tmp 19) rfl (w.heap.size) (zbW p) rfl rfl 141 _ c (by kernel_rfl) rfl (by simp [Value.oneCell',rdV]) ?_)
 exact bodyPost_ret (zb7 (T:=141) (b:=w.heap.size) rfl rfl (zB c _) Tryz.underlying141 rfl (by kernel_rfl)) rfl ⟨rfl,a.grown (zx _ _ _) a.size (fun q e=>by cases e; omega)⟩
theorem jc.up {p d D a:Nat} {w:World} {s:ByteArray} {r:PR Tr} {x:Ending} {w':World} (j:D≤a) (h:jc p d D w s r x w'):jc p d a w s r x w':=by
 unfold jc at h ⊢
 cases r with
 | bad e=>exact h
 | good t r =>
  obtain ⟨b,⟨A,n,c,f,g⟩,i⟩:=h
  exact ⟨b,⟨A,n,c,f,g.deeper j⟩,i⟩
theorem zmy {w0:World} (r:Lib.TabIs Tryz.prog w0 "internal/strconv.uint64pow10" .u64 Lib.pow10Tab) (F d p:Nat) (h:Nat×Nat×Nat) (m:wm w0 F d) (s:ByteArray) (w:World) (g:Below w0.heap.size w0 w) (n:w0.heap.size≤p)
  (e:RdB w p s (16 - d)) (j:s.size≤1000000000) (hF:s.size<F) (o:OkS s) (v:zhT h.1) (u:h.1≤7) (t:h.2.1≤31) (f:h.2.2<18446744073709551616) (i:¬ ((h.1<2∨h.1=6)∧h.2.1=31)) :
  Calls Tryz.prog (rdF h.1) #[.pointer (some ⟨p,0,none⟩),qu h] w (jc p (16 - d) (d+1) w s (ql F (zE F d) h s.data.toList)):=by
 have l:=Lib.tabBelow_of_tabIs r w g
 obtain ⟨c,b,a⟩:=h
 simp only []at u t f i
 unfold ql
 simp only []
 rw [if_neg i]
 rcases (by omega:c=0∨c=1∨c=2∨c=3∨c=4∨c=5∨c=6∨c=7) with rfl|rfl|rfl|rfl|rfl|rfl|rfl|rfl
 ·exact (zmz p (16 - d) b a s w e f l).mono fun x k q=>q.up (Nat.zero_le _)
 ·exact (zkX p (16 - d) b a s w e f l).mono fun x k q=>q.up (Nat.zero_le _)
 ·exact (zjn F p (16 - d) 2 b a (.inl rfl) s w e j hF).mono fun x k q=>q.up (Nat.zero_le _)
 ·exact (zjn F p (16 - d) 3 b a (.inr rfl) s w e j hF).mono fun x k q=>q.up (Nat.zero_le _)
 ·exact zfp F d p b a 4 1 7 (.inl ⟨rfl,rfl,rfl⟩) m s w g n e j hF o f
 ·exact zfp F d p b a 5 2 8 (.inr ⟨rfl,rfl,rfl⟩) m s w g n e j hF o f
 ·exact zng F d p (6,b,a) m s w g n e j hF o f
 ·exact (zkY p (16 - d) (7,b,a) s w e t f).mono fun x k q=>q.up (Nat.zero_le _)
theorem yH {P:Program} {o:Oper} {ρ:Operand→Value} {w:World} {R:Value→World→Prop} {f:FuncId} {t:Tmp} {args:Array Operand} {d:Array TypeId} {b:Value}
  (i:o.op=.call { callee:=.value (.tmp t),args,argTypes:=d }) (a:yX P f=true) (l:ρ (.tmp t)=.func (.func f) #[b] #[])
  (h:Calls P f (#[b]++args.map ρ) w fun e j=>∃ v,e=.returned v∧R v j):zd P o ρ w R:=by
 have c:(execOp ρ o).run P w=.ok (.enter f (#[b]++args.map ρ)) w:=by
  unfold yX at a
  cases hq:P.funcs[f]? with
  | none=>rw [hq]at a; cases a
  | some g =>
   rw [hq]at a
   simp only [Bool.and_eq_true,Bool.not_eq_true',beq_eq_false_iff_ne,ne_eq]at a
   have k:¬ g.body=none:=by cases hx:g.body <;> simp_all
   unfold execOp
   simp [i,resolve,Deferred.ofValue,invoke,callFunc,hq,a.1,k,l]
 unfold zd
 rw [c]
 exact h
structure zR (lo p:Nat) (A B:World):Prop where
 os:B.os=A.os
 tape:B.tape=A.tape
 output:B.output=A.output
 size:A.heap.size≤B.heap.size
 block:∀ k,k<lo→k≠p→B.heap[k]? = A.heap[k]?
theorem zR.refl (a p:Nat) (A:World):zR a p A A:=⟨rfl,rfl,rfl,Nat.le_refl _,fun _ _ _=>rfl⟩
theorem zR.trans {a p:Nat} {A B C:World} (h:zR a p A B) (k:zR a p B C):zR a p A C:=
 ⟨k.os.trans h.os,k.tape.trans h.tape,k.output.trans h.output,Nat.le_trans h.size k.size,fun i b c=>(k.block i b c).trans (h.block i b c)⟩
theorem zR.of_grown {a p:Nat} {A B:World} (h:A.grownBy B (some p)) (d:a≤A.heap.size):zR a p A B:=
 ⟨h.os,h.tape,h.output,h.size,fun k c b=>h.block k (by omega) (fun e=>b (by injection e))⟩
theorem zR.of_below {a p:Nat} {A B:World} (h:Below A.heap.size A B) (b:a≤A.heap.size):zR a p A B:=.of_grown (below_grown h _) b
theorem zR.of_row {a p g:Nat} (A:World) (b:Array Value) (c:a≤g):zR a p A (A.setRow g b):=
 ⟨rfl,rfl,rfl,by rw [setRow_size]; exact Nat.le_refl _,fun k d _=>setRow_other _ _ _ _ (by omega)⟩
def j9 (lo p dp D sz:Nat) (res:PR Tr) (X:Nat→Prop) (v:Value) (W:World):Prop:=match res with
 | .good t r=>(∃ A n c,v=.tuple #[ze t.own (.slice A n c),.nilIface]∧LAt W (fun q=>(lo≤q∧q<W.heap.size)∧X q) D t.kids (.slice A n c))∧zt t.own∧RdB W p (bs r) dp∧(bs r).size≤sz
 | .bad e=>(∃ o A n c,v=.tuple #[ze o (.slice A n c),jD e])∧e≠0∧∃ s',RdB W p s' dp∧s'.size≤sz
theorem j9.keep {k p m D sz:Nat} {b:PR Tr} {X l:Nat→Prop} {v:Value} {W W':World} (h:j9 k p m D sz b X v W) (u:W.heap.size≤W'.heap.size)
  (j:∀ q,q<W.heap.size→(q=p∨(k≤q∧X q))→W'.heap[q]? = W.heap[q]?) (s:∀ q,q<W.heap.size→X q→l q):j9 k p m D sz b l v W':=by
 unfold j9 at h ⊢
 cases b with
 | bad e =>
  obtain ⟨g,i,w,d,f⟩:=h
  exact ⟨g,i,w,(j p d.lt (.inl rfl)).trans d,f⟩
 | good t r =>
  obtain ⟨⟨A,n,c,g,i⟩,d,f,o⟩:=h
  exact ⟨⟨A,n,c,g,(i.keep (fun q a=>j q a.1.2 (.inr ⟨a.1.1,a.2⟩))).mono (fun q a=>⟨⟨a.1.1,Nat.lt_of_lt_of_le a.1.2 u⟩,s q a.1.2 a.2⟩)⟩,d,(j p f.lt (.inl rfl)).trans f,o⟩
theorem j9.of_read {j p i D:Nat} {w:World} {s:ByteArray} {a:PR Tr} {v:Value} {w':World} {X:Nat→Prop} (h:jc p i D w s a (.returned v) w') (u:j≤w.heap.size) (m:∀ q,w.heap.size≤q→q<w'.heap.size→X q):j9 j p i D s.size a X v w':=by
 unfold jc at h
 unfold j9
 cases a with
 | bad e =>
  obtain ⟨_,⟨o,A,n,c,d⟩,f,g⟩:=h
  exact ⟨⟨o,A,n,c,by injection d⟩,f,g⟩
 | good t r =>
  obtain ⟨_,⟨A,n,c,d,f⟩,g,k,l⟩:=h
  exact ⟨⟨A,n,c,by injection d,f.mono (fun q b=>⟨⟨by have:=b.1; omega,b.2⟩,m q b.1 b.2⟩)⟩,g,k,l⟩
theorem j9.shape {f p d D sz:Nat} {a:PR Tr} {X:Nat→Prop} {v:Value} {W:World} (h:j9 f p d D sz a X v W):∃ o A n c e,v=.tuple #[ze o (.slice A n c),e]:=by
 unfold j9 at h
 cases a with
 | bad e =>
  obtain ⟨⟨o,A,n,c,b⟩,_⟩:=h
  exact ⟨o,A,n,c,_,b⟩
 | good t r =>
  obtain ⟨⟨A,n,c,b,_⟩,_⟩:=h
  exact ⟨_,A,n,c,_,b⟩
end Go.Proofs.YtonihophanmaaaaGreatDoor
