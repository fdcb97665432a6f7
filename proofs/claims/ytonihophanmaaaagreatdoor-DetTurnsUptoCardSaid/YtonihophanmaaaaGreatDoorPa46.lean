/- The texts CrZ, CsA, RcP, DsQ, DtG, DsR, put together. -/
import Derived.Test.YtonihophanmaaaaGreatDoorPa34
import Derived.Test.YtonihophanmaaaaGreatDoorPa45
import Derived.Test.YtonihophanmaaaaGreatDoorPa22
import Derived.Test.YtonihophanmaaaaGreatDoorPa33
import Derived.Test.YtonihophanmaaaaGreatDoorPa08
namespace Go.Proofs.YtonihophanmaaaaGreatDoor
open Go.RowKit Go.Shelf
theorem good_le {α:Type} {p:Psr α} (hp:GoodP p) {l r:List UInt8} {a:α} (h:p l=.good a r):r.length≤l.length:=by
 obtain ⟨own,e,_⟩:=hp l a r h
 rw [e,List.length_append]
 omega
def CountP (p:Psr Tr):Prop:=∀ l t r,p l=.good t r→t.count+r.length≤l.length
theorem times_count {p:Psr Tr} (hp:CountP p):∀ (n:Nat) (acc:List Tr) (l:List UInt8) (L:List Tr) (r:List UInt8),timesP p n acc l=.good L r→∃ new,L=acc++new∧countL new+r.length≤l.length
 | 0,acc,l,L,r,h=>by
  have h:PR.good acc l=.good L r:=h
  injection h with e1 e2
  subst e1 e2
  exact ⟨[],by simp,by simp [countL]⟩
 | n+1,acc,l,L,r,h=>by
  obtain ⟨t,s,h1,h2⟩:=bindP_good h
  obtain ⟨new,e,h3⟩:=times_count hp n _ _ _ _ h2
  refine ⟨t::new,by rw [e,List.append_assoc]; rfl,?_⟩
  have h4:=hp _ _ _ h1
  rw [countL]
  omega
theorem open_count {p:Psr Tr} (hp:CountP p) (hw:WantP p) (size:Nat):∀ (f:Nat) (acc:List Tr) (l:List UInt8) (L:List Tr) (r:List UInt8),openP p (size+1) f acc l=.good L r→∃ new,L=acc++new∧countL new+r.length≤l.length
 | 0,_,_,_,_,h=>by cases h
 | f+1,acc,l,L,r,h=>by
  cases l with
  | nil =>
   have h:bindP (timesP p (size+1) acc) _ []=.good L r:=h
   rw [bindP_bad (wantP_times hw _ _)]at h
   cases h
  | cons c t =>
   by_cases hc:c=255
   ·subst hc
    have h:PR.good acc t=.good L r:=h
    injection h with e1 e2
    subst e1 e2
    exact ⟨[],by simp,by simp [countL]⟩
   ·have h':bindP (timesP p (size+1) acc) (fun l=>openP p (size+1) f l) (c::t)=.good L r:=by
     have:endP acc (bindP (timesP p (size+1) acc) fun l=>openP p (size+1) f l) (c::t)=.good L r:=h
     unfold endP at this
     simpa [hc] using this
    obtain ⟨L1,r1,h1,h2⟩:=bindP_good h'
    obtain ⟨n1,e1,g1⟩:=times_count hp _ _ _ _ _ h1
    obtain ⟨n2,e2,g2⟩:=open_count hp hw size f _ _ _ _ h2
    refine ⟨n1++n2,by rw [e2,e1,List.append_assoc],?_⟩
    rw [countL_append]
    omega
theorem list_count {F:Nat} {p:Psr Tr} (hp:CountP p) (hw:WantP p) (size:Nat) {h:Nat×Nat×Nat} {l:List UInt8} {L:List Tr} {r:List UInt8} (hl:listP F p (size+1) h l=.good L r):countL L+r.length≤l.length:=by
 unfold listP at hl
 split at hl
 ·obtain ⟨new,e,g⟩:=open_count hp hw size _ _ _ _ _ hl
  rw [e,List.nil_append]
  exact g
 ·obtain ⟨new,e,g⟩:=times_count hp _ _ _ _ _ hl
  rw [e,List.nil_append]
  exact g
theorem leaf_count (o:Own):(Tr.nd o []).count=1:=by rw [Tr.count,countL]
theorem other_leaf {h:Nat×Nat×Nat} {l r:List UInt8} {t:Tr} (hp:otherP h l=.good t r):t.count=1∧r=l:=by
 have key:∀ {x:Tr} {o:Own},x=.nd o []→pureP x l=.good t r→t.count=1∧r=l:=fun {x o} hx h=>by
  have h:PR.good x l=.good t r:=h
  injection h with e1 e2
  subst e1
  exact ⟨by rw [hx,leaf_count],e2.symm⟩
 unfold otherP at hp
 repeat' split at hp
 all_goals first | exact key rfl hp | cases hp
theorem item_count (F:Nat):∀ d,CountP (itemP F d)
 | 0=>fun l t r h=>by
  unfold itemP at h
  split at h <;> cases h
 | d+1=>fun l t r h=>by
  obtain ⟨hd,s,h1,h2⟩:=bindP_good h
  have q:s.length+1≤l.length:=by
   obtain ⟨own,e,g,_⟩:=goodP_head _ _ _ h1
   have:=own_pos wantP_head g
   rw [e,List.length_append]
   omega
  have hpu:∀ {x:Tr} {m:List UInt8},pureP x m=.good t r→x=t∧m=r:=fun {x m} hx=>by
   have hx:PR.good x m=.good t r:=hx
   injection hx with e1 e2
   exact ⟨e1,e2⟩
  have ih:=item_count F d
  unfold bodyP at h2
  by_cases c0:(hd.1<2∨hd.1=6)∧hd.2.1=31
  ·rw [if_pos c0]at h2
   cases h2
  rw [if_neg c0]at h2
  by_cases c1:hd.1=0
  ·rw [if_pos c1]at h2
   obtain ⟨e1,e2⟩:=hpu h2
   rw [← e1,← e2]
   unfold numT
   rw [leaf_count]
   omega
  rw [if_neg c1]at h2
  by_cases c2:hd.1=1
  ·rw [if_pos c2]at h2
   obtain ⟨e1,e2⟩:=hpu h2
   rw [← e1,← e2]
   unfold numT
   rw [leaf_count]
   omega
  rw [if_neg c2]at h2
  by_cases c3:hd.1=2
  ·rw [if_pos c3]at h2
   obtain ⟨x,r1,g1,g2⟩:=bindP_good h2
   obtain ⟨e1,e2⟩:=hpu g2
   have:=good_le (goodP_text _ _) g1
   rw [← e1,← e2]
   unfold strT
   rw [leaf_count]
   omega
  rw [if_neg c3]at h2
  by_cases c4:hd.1=3
  ·rw [if_pos c4]at h2
   obtain ⟨x,r1,g1,g2⟩:=bindP_good h2
   obtain ⟨e1,e2⟩:=hpu g2
   have:=good_le (goodP_text _ _) g1
   rw [← e1,← e2]
   unfold strT
   rw [leaf_count]
   omega
  rw [if_neg c4]at h2
  by_cases c5:hd.1=4
  ·rw [if_pos c5]at h2
   obtain ⟨x,r1,g1,g2⟩:=bindP_good h2
   obtain ⟨e1,e2⟩:=hpu g2
   have:=list_count ih (wantP_item F d) 0 g1
   rw [← e1,← e2]
   unfold listT
   rw [Tr.count]
   omega
  rw [if_neg c5]at h2
  by_cases c6:hd.1=5
  ·rw [if_pos c6]at h2
   obtain ⟨x,r1,g1,g2⟩:=bindP_good h2
   obtain ⟨e1,e2⟩:=hpu g2
   have:=list_count ih (wantP_item F d) 1 g1
   rw [← e1,← e2]
   unfold listT
   rw [Tr.count]
   omega
  rw [if_neg c6]at h2
  by_cases c7:hd.1=6
  ·rw [if_pos c7]at h2
   obtain ⟨x,r1,g1,g2⟩:=bindP_good h2
   obtain ⟨e1,e2⟩:=hpu g2
   have:=ih _ _ _ g1
   rw [← e1,← e2]
   unfold tagT
   rw [Tr.count,countL,countL]
   omega
  rw [if_neg c7]at h2
  obtain ⟨e1,e2⟩:=other_leaf h2
  rw [e1,e2]
  omega
end Go.Proofs.YtonihophanmaaaaGreatDoor
namespace Go.Proofs.YtonihophanmaaaaGreatDoor
open Go.RowKit Go.Shelf
attribute [local go_sem] Oper.semAt_some
theorem zeroO_ok:OwnOk zeroO:=⟨by decide,by decide,by decide,by decide,by decide,by decide⟩
noncomputable def RC (s:ByteArray):Int×Tr:=readC (s.size+1) s.data.toList
def ReadPost (w:World) (r:Int×Tr) (x:Ending) (w':World):Prop:=Below w.heap.size w w'∧∃ A n c,x=.returned (.tuple #[nodeV r.2.own (.slice A n c),.int .i64 r.1])∧LAt w' (fun q=>w.heap.size≤q∧q<w'.heap.size) 16 r.2.kids (.slice A n c)∧OwnOk r.2.own
set_option maxHeartbeats 8000000 in
set_option maxRecDepth 100000 in
theorem cr_Read {aT aF:Addr} (s:ByteArray) (hs:s.size≤1000000000) (w:World) (h:RW w aT aF) (hq:OkS s:=by exact okS_all _) :
  Calls Tryz.prog 28 #[.string s] w (ReadPost w (RC s)):=by
 have hlen:s.data.toList.length=s.size:=by simp
 have hb1:=(Below.refl w.heap.size w).alloc (Nat.le_refl _) (.cells #[.int .i64 0,.bool false,.bool false,.string ⟨#[]⟩,.int .i64 0,.int .u64 0,.int .i64 0,.string ⟨#[]⟩,.slice none 0 0] 28)
 have hk1:=Blk.new w #[.int .i64 0,.bool false,.bool false,.string ⟨#[]⟩,.int .i64 0,.int .u64 0,.int .i64 0,.string ⟨#[]⟩,.slice none 0 0] 28
 unfold RC readC
 rw [hlen]
 by_cases hbig:4000<s.size
 ·rw [if_pos hbig]
  have y0:(s.size:Int) > 4000:=by omega
  clear hbig h hlen hq
  go_enter Tryz.func28,Tryz.ntmps28
  go_wp2_with (refine wpList_store_row rfl 28 (.tmp 2) (.tmp 10) rfl (w.heap.size) #[.int .i64 0,.bool false,.bool false,.string ⟨#[]⟩,.int .i64 0,.int .u64 0,.int .i64 0,.string ⟨#[]⟩,.slice none 0 0] rfl rfl 28 _ hk1 (by kernel_rfl) rfl (by simp [Value.oneCell']) ?_)
  refine bodyPost_ret (results_cell (T:=28) rfl rfl rfl (blk_row hk1 #[.int .i64 0,.bool false,.bool false,.string ⟨#[]⟩,.int .i64 0,.int .u64 0,.int .i64 0,.string ⟨#[]⟩,.slice none 0 0]) Tryz.underlying28 rfl (by kernel_rfl)) rfl ?_
  refine ⟨(hb1).grown (grown_row _ w.heap.size _) (hb1).size (fun q e=>by cases e; omega),?_⟩
  exact ⟨none,0,0,rfl,LAt.nil _ _ _ _ _,zeroO_ok⟩
 ·rw [if_neg hbig]
  have y0:¬ (s.size:Int) > 4000:=by omega
  have HIT:=Lib.hid (cr_Item s hs _ (h.below hb1).tab (h.below hb1).ty hq)
  have HG:=Lib.hid (fun W (hb:Below w.heap.size w W)=>(h.below hb).g)
  have hnc:=item_count (s.size+1) 16 s.data.toList
  rw [hlen]at hnc
  unfold itemC at HIT
  clear hbig h hlen hq
  cases hres:itemP (s.size+1) 16 s.data.toList with
  | bad e =>
   rw [hres]at HIT
   have he:=errP_item _ _ _ _ hres
   have HIT:Hid (Calls Tryz.prog 45 #[.string s] (w.alloc (.cells #[.int .i64 0,.bool false,.bool false,.string ⟨#[]⟩,.int .i64 0,.int .u64 0,.int .i64 0,.string ⟨#[]⟩,.slice none 0 0] 28)) fun x w'=>Below (w.alloc (.cells #[.int .i64 0,.bool false,.bool false,.string ⟨#[]⟩,.int .i64 0,.int .u64 0,.int .i64 0,.string ⟨#[]⟩,.slice none 0 0] 28)).heap.size (w.alloc (.cells #[.int .i64 0,.bool false,.bool false,.string ⟨#[]⟩,.int .i64 0,.int .u64 0,.int .i64 0,.string ⟨#[]⟩,.slice none 0 0] 28)) w'∧x=.returned (.tuple #[zeroN,.string s,.int .i64 e])∧e≠0):=HIT
   show Calls _ _ _ _ (ReadPost w (e,.nd zeroO []))
   have y1:(e == 0)=false:=by rw [beq_eq_false_iff_ne]; exact he
   have y2:(e != 0)=true:=by rw [bne_iff_ne]; exact he
   clear hres he HG hnc
   go_enter Tryz.func28,Tryz.ntmps28
   go_wp2_with fail
   refine HIT.out.mono ?_
   rintro x w3 ⟨hb3,rfl,_⟩
   unfold zeroN nodeV zeroO
   simp only []
   have hk4:=(hk1.below hb3 hk1.lt).alloc (.cells #[.int .i64 0,.bool false,.bool false,.string ⟨#[]⟩,.int .i64 0,.int .u64 0,.int .i64 0,.string ⟨#[]⟩,.slice none 0 0] 28)
   have hbX:=hb1.trans (hb3.mono hb1.size)
   have hb4:=hbX.alloc hbX.size (.cells #[.int .i64 0,.bool false,.bool false,.string ⟨#[]⟩,.int .i64 0,.int .u64 0,.int .i64 0,.string ⟨#[]⟩,.slice none 0 0] 28)
   go_wp2_with (refine wpList_store_row rfl 28 (.tmp 2) (.tmp 29) rfl (w.heap.size) #[.int .i64 0,.bool false,.bool false,.string ⟨#[]⟩,.int .i64 0,.int .u64 0,.int .i64 0,.string ⟨#[]⟩,.slice none 0 0] rfl rfl 28 _ hk4 (by kernel_rfl) rfl (by simp [Value.oneCell']) ?_)
   refine bodyPost_ret (results_cell (T:=28) rfl rfl rfl (blk_row hk4 #[.int .i64 0,.bool false,.bool false,.string ⟨#[]⟩,.int .i64 0,.int .u64 0,.int .i64 0,.string ⟨#[]⟩,.slice none 0 0]) Tryz.underlying28 rfl (by kernel_rfl)) rfl ?_
   refine ⟨(hb4).grown (grown_row _ w.heap.size _) (hb4).size (fun q e=>by cases e; omega),?_⟩
   exact ⟨none,0,0,rfl,LAt.nil _ _ _ _ _,zeroO_ok⟩
  | good t r =>
   rw [hres]at HIT
   have HIT:Hid (Calls Tryz.prog 45 #[.string s] (w.alloc (.cells #[.int .i64 0,.bool false,.bool false,.string ⟨#[]⟩,.int .i64 0,.int .u64 0,.int .i64 0,.string ⟨#[]⟩,.slice none 0 0] 28)) fun x w'=>Below (w.alloc (.cells #[.int .i64 0,.bool false,.bool false,.string ⟨#[]⟩,.int .i64 0,.int .u64 0,.int .i64 0,.string ⟨#[]⟩,.slice none 0 0] 28)).heap.size (w.alloc (.cells #[.int .i64 0,.bool false,.bool false,.string ⟨#[]⟩,.int .i64 0,.int .u64 0,.int .i64 0,.string ⟨#[]⟩,.slice none 0 0] 28)) w'∧(∃ A n c,x=.returned (.tuple #[nodeV t.own (.slice A n c),.string (bs r),.int .i64 0])∧LAt w' (fun q=>(w.alloc (.cells #[.int .i64 0,.bool false,.bool false,.string ⟨#[]⟩,.int .i64 0,.int .u64 0,.int .i64 0,.string ⟨#[]⟩,.slice none 0 0] 28)).heap.size≤q∧q<w'.heap.size) 16 t.kids (.slice A n c))∧OwnOk t.own∧r.length+1≤s.size):=HIT
   have hct:=hnc t r hres
   have HCT:=Lib.hid (show t.count≤1000000000 by omega)
   clear hres hnc hct
   show Calls _ _ _ _ (ReadPost w (if r≠[] then (110,.nd zeroO []) else if checkT 2 flC t=0 then (0,t) else (checkT 2 flC t,.nd zeroO [])))
   by_cases hr:r=[]
   ·subst hr
    rw [if_neg (fun h=>h rfl)]
    have HCK:=Lib.hid (fun W A n c (hb:Below w.heap.size w W) (hl:ListAt W W.heap.size 16 t.kids (.slice A n c)) (ho:OwnOk t.own)=>tree_Check 2 flC (fits_at_C aT aF) t (.slice A n c) W W.heap.size 16 hl ho (Nat.le_refl _) HCT.out (HG.out W hb))
    obtain ⟨ck,hck⟩:∃ ck,checkT 2 flC t=ck:=⟨_,rfl⟩
    rw [hck]at HCK ⊢
    obtain ⟨RR,hRR⟩:∃ RR,(if ck=0 then ((0:Int),t) else (ck,.nd zeroO []))=RR:=⟨_,rfl⟩
    rw [hRR]
    have HR0:=Lib.hid (fun (q:ck=0)=>(show RR=(0,t) by rw [← hRR,if_pos q]))
    have HR1:=Lib.hid (fun (q:¬ ck=0)=>(show RR=(ck,.nd zeroO []) by rw [← hRR,if_neg q]))
    clear hRR
    have HIT:Hid (Calls Tryz.prog 45 #[.string s] (w.alloc (.cells #[.int .i64 0,.bool false,.bool false,.string ⟨#[]⟩,.int .i64 0,.int .u64 0,.int .i64 0,.string ⟨#[]⟩,.slice none 0 0] 28)) fun x w'=>Below (w.alloc (.cells #[.int .i64 0,.bool false,.bool false,.string ⟨#[]⟩,.int .i64 0,.int .u64 0,.int .i64 0,.string ⟨#[]⟩,.slice none 0 0] 28)).heap.size (w.alloc (.cells #[.int .i64 0,.bool false,.bool false,.string ⟨#[]⟩,.int .i64 0,.int .u64 0,.int .i64 0,.string ⟨#[]⟩,.slice none 0 0] 28)) w'∧(∃ A n c,x=.returned (.tuple #[nodeV t.own (.slice A n c),.string ⟨#[]⟩,.int .i64 0])∧LAt w' (fun q=>(w.alloc (.cells #[.int .i64 0,.bool false,.bool false,.string ⟨#[]⟩,.int .i64 0,.int .u64 0,.int .i64 0,.string ⟨#[]⟩,.slice none 0 0] 28)).heap.size≤q∧q<w'.heap.size) 16 t.kids (.slice A n c))∧OwnOk t.own∧([]:List UInt8).length+1≤s.size):=HIT
    clear hck HG HCT
    go_enter Tryz.func28,Tryz.ntmps28
    go_wp2_with fail
    refine HIT.out.mono ?_
    rintro x w3 ⟨hb3,⟨A,n,c,rfl,hly⟩,hot,_⟩
    obtain ⟨⟨kind3,b3,neg3,dg3,ex3,u3,wd3,s3⟩,ho3⟩:∃ o,t.own=o:=⟨_,rfl⟩
    have HO3:=Lib.hid ho3
    have HOT:=Lib.hid hot
    rw [ho3]at HCK ⊢
    unfold nodeV at HCK ⊢
    simp only []at HCK ⊢
    rw [World.size_alloc]at hly
    have hz3:=hb3.size
    rw [World.size_alloc]at hz3
    have hk4:=(hk1.below hb3 hk1.lt).alloc (.cells #[.int .i64 kind3,.bool b3,.bool neg3,.string dg3,.int .i64 ex3,.int .u64 u3,.int .i64 wd3,.string s3,.slice A n c] 28)
    have hx4:=Blk.new w3 #[.int .i64 kind3,.bool b3,.bool neg3,.string dg3,.int .i64 ex3,.int .u64 u3,.int .i64 wd3,.string s3,.slice A n c] 28
    have hbX:=hb1.trans (hb3.mono hb1.size)
    have hb4:=hbX.alloc hbX.size (.cells #[.int .i64 kind3,.bool b3,.bool neg3,.string dg3,.int .i64 ex3,.int .u64 u3,.int .i64 wd3,.string s3,.slice A n c] 28)
    have hl4:LAt (w3.alloc (.cells #[.int .i64 kind3,.bool b3,.bool neg3,.string dg3,.int .i64 ex3,.int .u64 u3,.int .i64 wd3,.string s3,.slice A n c] 28)) (fun q=>w.heap.size+1≤q∧q<w3.heap.size) 16 t.kids (.slice A n c):=hly.keep (fun q hq=>Below.heap_alloc w3 _ q hq.2)
    have HL4:=Lib.hid hl4
    have HC4:=Lib.hid (HCK.out _ A n c hb4 (hl4.mono (fun q hq=>by rw [World.size_alloc]; omega)) (by rw [← ho3]; exact hot))
    have c0:=hx4.cell 0
    have c1:=hx4.cell 1
    have c2:=hx4.cell 2
    have c3:=hx4.cell 3
    have c4:=hx4.cell 4
    have c5:=hx4.cell 5
    have c6:=hx4.cell 6
    have c7:=hx4.cell 7
    have c8:=hx4.cell 8
    clear hly hl4 ho3 hot HCK
    go_wp2_with fail
    refine HC4.out.mono ?_
    rintro x w5 ⟨rfl,hb5⟩
    have hk5:=hk4.below hb5 hk4.lt
    have hx5:=hx4.below hb5 hx4.lt
    have hb6:=hb4.trans (hb5.mono hb4.size)
    have hz5:=hb5.size
    rw [World.size_alloc]at hz5
    clear c0 c1 c2 c3 c4 c5 c6 c7 c8
    by_cases hck0:ck=0
    ·have e0:=HR0.out hck0
     subst hck0
     subst e0
     clear HR0 HR1 HC4
     go_wp2_with (first | (refine wpList_load_row rfl 28 (.tmp 4) rfl w3.heap.size rfl 28 _ (0,0) _ hx5 Tryz.underlying28 rfl (by kernel_rfl) ?_) | (refine wpList_store_row rfl 28 (.tmp 2) (.tmp 31) rfl (w.heap.size) #[.int .i64 kind3,.bool b3,.bool neg3,.string dg3,.int .i64 ex3,.int .u64 u3,.int .i64 wd3,.string s3,.slice A n c] rfl rfl 28 _ hk5 (by kernel_rfl) rfl (by simp [Value.oneCell']) ?_))
     refine bodyPost_ret (results_cell (T:=28) rfl rfl rfl (blk_row hk5 #[.int .i64 kind3,.bool b3,.bool neg3,.string dg3,.int .i64 ex3,.int .u64 u3,.int .i64 wd3,.string s3,.slice A n c]) Tryz.underlying28 rfl (by kernel_rfl)) rfl ?_
     refine ⟨hb6.grown (grown_row _ w.heap.size _) hb6.size (fun q e=>by cases e; omega),A,n,c,by rw [HO3.out]; rfl,?_,HOT.out⟩
     exact ((HL4.out.keep (fun q hq=>hb5.block q (by rw [World.size_alloc]; omega))).keep (fun q hq=>setRow_other _ _ _ _ (by omega))).mono (fun q hq=>⟨by omega,by rw [setRow_size]; omega⟩)
    ·have e0:=HR1.out hck0
     subst e0
     clear HR0 HR1
     have y1:(ck != 0)=true:=by rw [bne_iff_ne]; exact hck0
     clear hck0
     go_wp2_with (refine wpList_store_row rfl 28 (.tmp 2) (.tmp 29) rfl (w.heap.size) #[.int .i64 0,.bool false,.bool false,.string ⟨#[]⟩,.int .i64 0,.int .u64 0,.int .i64 0,.string ⟨#[]⟩,.slice none 0 0] rfl rfl 28 _ hk5 (by kernel_rfl) rfl (by simp [Value.oneCell']) ?_)
     refine bodyPost_ret (results_cell (T:=28) rfl rfl rfl (blk_row hk5 #[.int .i64 0,.bool false,.bool false,.string ⟨#[]⟩,.int .i64 0,.int .u64 0,.int .i64 0,.string ⟨#[]⟩,.slice none 0 0]) Tryz.underlying28 rfl (by kernel_rfl)) rfl ?_
     refine ⟨(hb6).grown (grown_row _ w.heap.size _) (hb6).size (fun q e=>by cases e; omega),?_⟩
     exact ⟨none,0,0,rfl,LAt.nil _ _ _ _ _,zeroO_ok⟩
   ·rw [if_pos hr]
    have hne:=str_noneQ (s:=bs r) (by rw [bs_size]; intro e; exact hr (List.eq_nil_of_length_eq_zero e))
    obtain ⟨rb,hrb⟩:∃ rb,bs r=rb:=⟨_,rfl⟩
    rw [hrb]at HIT hne
    clear hrb hr HG HCT
    go_enter Tryz.func28,Tryz.ntmps28
    go_wp2_with fail
    refine HIT.out.mono ?_
    rintro x w3 ⟨hb3,⟨A,n,c,rfl,hly⟩,hot,_⟩
    obtain ⟨⟨kind3,b3,neg3,dg3,ex3,u3,wd3,s3⟩,ho3⟩:∃ o,t.own=o:=⟨_,rfl⟩
    rw [ho3]
    unfold nodeV
    simp only []
    have hk4:=(hk1.below hb3 hk1.lt).alloc (.cells #[.int .i64 kind3,.bool b3,.bool neg3,.string dg3,.int .i64 ex3,.int .u64 u3,.int .i64 wd3,.string s3,.slice A n c] 28)
    have hbX:=hb1.trans (hb3.mono hb1.size)
    have hb4:=hbX.alloc hbX.size (.cells #[.int .i64 kind3,.bool b3,.bool neg3,.string dg3,.int .i64 ex3,.int .u64 u3,.int .i64 wd3,.string s3,.slice A n c] 28)
    clear hly hot ho3
    go_wp2_with (refine wpList_store_row rfl 28 (.tmp 2) (.tmp 29) rfl (w.heap.size) #[.int .i64 0,.bool false,.bool false,.string ⟨#[]⟩,.int .i64 0,.int .u64 0,.int .i64 0,.string ⟨#[]⟩,.slice none 0 0] rfl rfl 28 _ hk4 (by kernel_rfl) rfl (by simp [Value.oneCell']) ?_)
    refine bodyPost_ret (results_cell (T:=28) rfl rfl rfl (blk_row hk4 #[.int .i64 0,.bool false,.bool false,.string ⟨#[]⟩,.int .i64 0,.int .u64 0,.int .i64 0,.string ⟨#[]⟩,.slice none 0 0]) Tryz.underlying28 rfl (by kernel_rfl)) rfl ?_
    refine ⟨(hb4).grown (grown_row _ w.heap.size _) (hb4).size (fun q e=>by cases e; omega),?_⟩
    exact ⟨none,0,0,rfl,LAt.nil _ _ _ _ _,zeroO_ok⟩
end Go.Proofs.YtonihophanmaaaaGreatDoor
namespace Go.Proofs.YtonihophanmaaaaGreatDoor
open Go.RowKit Go.Shelf
theorem data_len (s:ByteArray):s.data.toList.length=s.size:=by simp
theorem rc_cases (s:ByteArray):((RC s).1≠0∧(RC s).2=.nd zeroO [])∨((RC s).1=0∧checkT 2 flC (RC s).2=0∧0<s.size∧s.size≤4000∧itemC s=.good (RC s).2 []∧(RC s).2.count≤s.size):=by
 have hlen:s.data.toList.length=s.size:=by simp
 unfold RC readC
 rw [hlen]
 by_cases hb:4000<s.size
 ·rw [if_pos hb]
  exact .inl ⟨by decide,rfl⟩
 ·rw [if_neg hb]
  cases hr:itemP (s.size+1) 16 s.data.toList with
  | bad e=>exact .inl ⟨errP_item _ _ _ _ hr,rfl⟩
  | good t r =>
   simp only []
   by_cases hr0:r≠[]
   ·rw [if_pos hr0]
    exact .inl ⟨by decide,rfl⟩
   ·rw [if_neg hr0]
    have e:r=[]:=Decidable.not_not.1 hr0
    subst e
    by_cases hc:checkT 2 flC t=0
    ·rw [if_pos hc]
     have h1:=item_less hr
     have h2:=item_count _ _ _ _ _ hr
     rw [hlen]at h1 h2
     refine .inr ⟨rfl,hc,by simp at h1; omega,by omega,hr,by simp at h2; exact h2⟩
    ·rw [if_neg hc]
     exact .inl ⟨hc,rfl⟩
theorem rc_of {s:ByteArray} {t:Tr} (h:itemC s=.good t []) (hs:s.size≤4000) (hc:checkT 2 flC t=0):RC s=(0,t):=by
 unfold RC readC
 rw [data_len,if_neg (by omega)]
 unfold itemC at h
 rw [h]
 simp only [ne_eq,not_true_eq_false,if_false]
 rw [if_pos hc]
theorem itemC_back (t:Tr) (m:ByteArray) (hok:okC t) (hd:t.depth≤16):itemC (bs (cbT t)++m)=.good t m.data.toList:=by
 unfold itemC
 rw [ByteArray.data_append,Array.toList_append,bs_list]
 exact write_back _ t 16 _ hok hd
noncomputable def RD (s:ByteArray):Int×Tr:=if (RC s).1=0 then (if checkT 2 flC (RC s).2=0∧detW (RC s).2=s then (0,(RC s).2) else (130,.nd zeroO [])) else ((RC s).1,.nd zeroO [])
theorem toList_beqD (a b:ByteArray):(a.toList == b.toList)=decide (a=b):=by
 by_cases h:a=b
 ·subst h
  simp
 ·rw [decide_eq_false h,beq_eq_false_iff_ne,ByteArray.toList_eq,ByteArray.toList_eq]
  exact fun e=>h (by apply ByteArray.ext; exact Array.toList_inj.1 e)
set_option maxHeartbeats 8000000 in
set_option maxRecDepth 100000 in
theorem det_Read {aT aF:Addr} (s0:ByteArray) (hs:s0.size≤1000000000) (w:World) (h:RW w aT aF) (hq:OkS s0:=by exact okS_all _) :
  Calls Tryz.prog 11 #[.string s0] w (ReadPost w (RD s0)):=by
 have HR:=fun (W:World) (hW:Below w.heap.size w W)=>cr_Read s0 hs W (h.below hW) hq
 have hcs:=rc_cases s0
 have HW:=fun (W:World) (hW:Below w.heap.size w W) (B:Nat) (x:Value) (hx:LAt W (fun q=>B≤q∧q<W.heap.size) 16 (RC s0).2.kids x) (ho:OwnOk (RC s0).2.own)=>det_Write (RC s0).2 x W (fun q=>B≤q∧q<W.heap.size) 16 aT aF hx ho (fun q hq=>hq.2) (by
  rcases hcs with ⟨_,e⟩ | ⟨_,e,_⟩
  ·rw [e]; decide
  ·have:=(check_zero.1 e).1; omega) (h.below hW).g
 unfold RD
 unfold ReadPost at HR
 obtain ⟨⟨e0,t⟩,hrc⟩:∃ x,RC s0=x:=⟨_,rfl⟩
 simp only [hrc]at HR HW hcs ⊢
 have hcs2:e0=0→checkT 2 flC t=0:=fun h0=>by
  rcases hcs with ⟨h1,_⟩ | ⟨_,h1,_⟩
  ·exact absurd h0 h1
  ·exact h1
 obtain ⟨ck,hck⟩:∃ ck,checkT 2 flC t=ck:=⟨_,rfl⟩
 obtain ⟨ws,hws⟩:∃ ws,detW t=ws:=⟨_,rfl⟩
 simp only [hck,hws]at HW hcs2 ⊢
 obtain ⟨rd,hrd⟩:∃ rd:Int×Tr,(if e0=0 then (if ck=0∧ws=s0 then ((0:Int),t) else (130,.nd zeroO [])) else (e0,.nd zeroO []))=rd:=⟨_,rfl⟩
 rw [hrd]
 have HRD:=Lib.hid hrd
 clear hrd
 have hb1:Below w.heap.size w (w.alloc (.cells #[.int .i64 0,.bool false,.bool false,.string ⟨#[]⟩,.int .i64 0,.int .u64 0,.int .i64 0,.string ⟨#[]⟩,.slice none 0 0] 28)):=(Below.refl _ _).alloc (Nat.le_refl _) _
 have hk1:=Blk.new w #[.int .i64 0,.bool false,.bool false,.string ⟨#[]⟩,.int .i64 0,.int .u64 0,.int .i64 0,.string ⟨#[]⟩,.slice none 0 0] 28
 have HK1:=Lib.hid hk1
 have HB:=Lib.hid hb1
 have HR:=Lib.hid HR
 have HW:=Lib.hid HW
 have HCS:=Lib.hid hcs2
 clear hcs hcs2 hck hws hrc h hb1 hk1 hq
 go_enter Tryz.func11,Tryz.ntmps11
 go_wp2_with fail
 refine (HR.out _ HB.out).mono ?_
 rintro x w3 ⟨hb3,A,n,c,rfl,hly,hot⟩
 have hbw:=HB.out.trans (hb3.mono HB.out.size)
 have hk3:=HK1.out.below hb3 HK1.out.lt
 have hz3:=hb3.size
 rw [World.size_alloc]at hz3
 have HOT0:=Lib.hid hot
 obtain ⟨⟨kind,b,neg,dg,ex,u,wd,s⟩,ho'⟩:∃ o,t.own=o:=⟨_,rfl⟩
 rw [ho']at HW ⊢
 unfold nodeV at HW ⊢
 simp only []at HW ⊢
 have hbn:=Blk.new w3 #[.int .i64 0,.bool false,.bool false,.string ⟨#[]⟩,.int .i64 0,.int .u64 0,.int .i64 0,.string ⟨#[]⟩,.slice none 0 0] 28
 have hbl:=blk_row hbn #[.int .i64 kind,.bool b,.bool neg,.string dg,.int .i64 ex,.int .u64 u,.int .i64 wd,.string s,.slice A n c]
 obtain ⟨W5,hW5⟩:∃ W5,(w3.alloc (.cells #[.int .i64 0,.bool false,.bool false,.string ⟨#[]⟩,.int .i64 0,.int .u64 0,.int .i64 0,.string ⟨#[]⟩,.slice none 0 0] 28)).setRow w3.heap.size #[.int .i64 kind,.bool b,.bool neg,.string dg,.int .i64 ex,.int .u64 u,.int .i64 wd,.string s,.slice A n c]=W5:=⟨_,rfl⟩
 have hb35:Below w3.heap.size w3 W5:=by
  rw [← hW5]
  exact ((Below.refl _ w3).alloc (Nat.le_refl _) _).grown (grown_row _ w3.heap.size #[.int .i64 kind,.bool b,.bool neg,.string dg,.int .i64 ex,.int .u64 u,.int .i64 wd,.string s,.slice A n c]) (by simp) (fun q e=>by cases e; exact Nat.le_refl _)
 have hl5:LAt W5 (fun q=>w.heap.size+1≤q∧q<W5.heap.size) 16 t.kids (.slice A n c):=(hly.keep (fun q hq=>hb35.block q hq.2)).mono (fun q hq=>⟨by have:=hq.1; rw [World.size_alloc]at this; exact this,Nat.lt_of_lt_of_le hq.2 hb35.size⟩)
 have hbw5:=hbw.trans (hb35.mono hbw.size)
 have hk5:=hk3.below hb35 hk3.lt
 rw [hW5]at hbl
 have HBN:=Lib.hid hbn
 have HBL:=Lib.hid hbl
 have HW5:=Lib.hid hW5
 have HL5:=Lib.hid hl5
 have HBW5:=Lib.hid hbw5
 have HK5:=Lib.hid hk5
 have HO':=Lib.hid ho'
 have hlt5:w3.heap.size<W5.heap.size:=hbl.lt
 clear hbw hb35 hl5 hbw5 hW5 hbn hbl hly hb3 HB HK1 HR hot ho' hk3 hk5
 go_upto_region 2 with (refine wpList_store_row rfl 28 (.tmp 4) (.tmp 11) rfl w3.heap.size #[.int .i64 kind,.bool b,.bool neg,.string dg,.int .i64 ex,.int .u64 u,.int .i64 wd,.string s,.slice A n c] rfl rfl 28 _ HBN.out (by kernel_rfl) rfl (by simp [Value.oneCell']) ?_)
 rw [HW5.out]
 clear HW5 HBN
 have hzero:∀ (W:World),Below w.heap.size w W→LAt (W.setRow w.heap.size #[.int .i64 0,.bool false,.bool false,.string ⟨#[]⟩,.int .i64 0,.int .u64 0,.int .i64 0,.string ⟨#[]⟩,.slice none 0 0]) (fun q=>w.heap.size≤q∧q<(W.setRow w.heap.size #[.int .i64 0,.bool false,.bool false,.string ⟨#[]⟩,.int .i64 0,.int .u64 0,.int .i64 0,.string ⟨#[]⟩,.slice none 0 0]).heap.size) 16 [] (.slice none 0 0):=fun W _=>LAt.nil _ _ _ _ _
 have hbz:∀ (W:World) (cs:Array Value),Below w.heap.size w W→Below w.heap.size w (W.setRow w.heap.size cs):=fun W cs hW=>hW.grown (grown_row W w.heap.size cs) hW.size (fun q e=>by cases e; exact Nat.le_refl _)
 have HZ:=Lib.hid hzero
 have HBZ:=Lib.hid hbz
 clear hzero hbz
 by_cases h0:e0=0
 ·subst h0
  have hot1:=HOT0.out
  rw [HO'.out]at hot1
  have hcw:=HW.out W5 HBW5.out (w.heap.size+1) (.slice A n c) HL5.out hot1
  clear hot1
  have hck0:=HCS.out (by trivial)
  subst hck0
  have HCW:=Lib.hid hcw
  clear hcw HW HCS
  go_wp2_with (refine wpList_load_row rfl 28 (.tmp 4) rfl w3.heap.size rfl 28 _ (0,0) _ HBL.out Tryz.underlying28 rfl (by kernel_rfl) ?_)
  refine HCW.out.mono ?_
  rintro x w6 ⟨rfl,hb6⟩
  have hz6:=hb6.size
  have hbw6:=HBW5.out.trans (hb6.mono HBW5.out.size)
  have hk6:=HK5.out.below hb6 HK5.out.lt
  have hbl6:=HBL.out.below hb6 HBL.out.lt
  have hl6:=HL5.out.keep (W':=w6) (fun q hq=>hb6.block q hq.2)
  have HBW6:=Lib.hid hbw6
  have HK6:=Lib.hid hk6
  have HBL6:=Lib.hid hbl6
  have HL6:=Lib.hid hl6
  have hlt6:w3.heap.size<w6.heap.size:=by omega
  clear hb6 hbw6 hk6 hbl6 hl6 HCW HBW5 HK5 HL5 HBL
  by_cases hst:ws=s0
  ·have hrd:((0:Int),t)=rd:=by
    have:=HRD.out
    simpa [hst] using this
   have hb:=toList_beqD ws s0
   rw [decide_eq_true hst]at hb
   have HRD:=Lib.hid hrd
   have HLZ:Hid (LAt (w6.setRow w.heap.size #[.int .i64 kind,.bool b,.bool neg,.string dg,.int .i64 ex,.int .u64 u,.int .i64 wd,.string s,.slice A n c]) (fun q=>w.heap.size≤q∧q<(w6.setRow w.heap.size #[.int .i64 kind,.bool b,.bool neg,.string dg,.int .i64 ex,.int .u64 u,.int .i64 wd,.string s,.slice A n c]).heap.size) 16 t.kids (.slice A n c)):=Lib.hid ((HL6.out.keep (fun q hq=>setRow_other _ _ _ _ (by have:=hq.1; omega))).mono (fun q hq=>⟨by have:=hq.1; omega,by rw [setRow_size]; have:=hq.2; omega⟩))
   clear hst hrd
   go_wp2_with (first | (refine wpList_load_row rfl 28 (.tmp 4) rfl w3.heap.size rfl 28 _ (0,0) _ HBL6.out Tryz.underlying28 rfl (by kernel_rfl) ?_) | (refine wpList_store_row rfl 28 (.tmp 2) (.tmp 30) rfl w.heap.size #[.int .i64 kind,.bool b,.bool neg,.string dg,.int .i64 ex,.int .u64 u,.int .i64 wd,.string s,.slice A n c] rfl rfl 28 _ HK6.out (by kernel_rfl) rfl (by simp [Value.oneCell']) ?_))
   refine bodyPost_ret (results_cell (T:=28) (u:=.int .i64 0) rfl rfl rfl (blk_row HK6.out #[.int .i64 kind,.bool b,.bool neg,.string dg,.int .i64 ex,.int .u64 u,.int .i64 wd,.string s,.slice A n c]) Tryz.underlying28 rfl (by kernel_rfl)) rfl ?_
   rw [← HRD.out]
   exact ⟨HBZ.out _ _ HBW6.out,A,n,c,by simp only [HO'.out]; rfl,HLZ.out,HOT0.out⟩
  ·have hrd:((130:Int),Tr.nd zeroO [])=rd:=by
    have:=HRD.out
    simpa [hst] using this
   have hb:=toList_beqD ws s0
   rw [decide_eq_false hst]at hb
   have HRD:=Lib.hid hrd
   clear hst hrd
   go_wp2_with (refine wpList_store_row rfl 28 (.tmp 2) (.tmp 29) rfl w.heap.size #[.int .i64 0,.bool false,.bool false,.string ⟨#[]⟩,.int .i64 0,.int .u64 0,.int .i64 0,.string ⟨#[]⟩,.slice none 0 0] rfl rfl 28 _ HK6.out (by kernel_rfl) rfl (by simp [Value.oneCell']) ?_)
   refine bodyPost_ret (results_cell (T:=28) (u:=.int .i64 130) rfl rfl rfl (blk_row HK6.out #[.int .i64 0,.bool false,.bool false,.string ⟨#[]⟩,.int .i64 0,.int .u64 0,.int .i64 0,.string ⟨#[]⟩,.slice none 0 0]) Tryz.underlying28 rfl (by kernel_rfl)) rfl ?_
   rw [← HRD.out]
   exact ⟨HBZ.out _ _ HBW6.out,none,0,0,rfl,HZ.out _ HBW6.out,zeroO_ok⟩
 ·have y0:(e0 == 0)=false:=by rw [beq_eq_false_iff_ne]; exact h0
  clear HW HCS
  go_wp2_with (refine wpList_store_row rfl 28 (.tmp 2) (.tmp 15) rfl w.heap.size #[.int .i64 0,.bool false,.bool false,.string ⟨#[]⟩,.int .i64 0,.int .u64 0,.int .i64 0,.string ⟨#[]⟩,.slice none 0 0] rfl rfl 28 _ HK5.out (by kernel_rfl) rfl (by simp [Value.oneCell']) ?_)
  refine bodyPost_ret (results_cell (T:=28) (u:=.int .i64 e0) rfl rfl rfl (blk_row HK5.out #[.int .i64 0,.bool false,.bool false,.string ⟨#[]⟩,.int .i64 0,.int .u64 0,.int .i64 0,.string ⟨#[]⟩,.slice none 0 0]) Tryz.underlying28 rfl (by kernel_rfl)) rfl ?_
  have hrd:=HRD.out
  rw [if_neg h0]at hrd
  rw [← hrd]
  exact ⟨HBZ.out _ _ HBW5.out,none,0,0,rfl,HZ.out _ HBW5.out,zeroO_ok⟩
end Go.Proofs.YtonihophanmaaaaGreatDoor
namespace Go.Proofs.YtonihophanmaaaaGreatDoor
open Go.RowKit Go.Shelf
abbrev txT (k:ByteArray):Tr:=.nd { zeroO with kind:=5,s:=k } []
structure MemOk (ks:List ByteArray):Prop where
 ok:∀ k∈ks,k.size≤20∧Lib.validD k.data.toList=true
 one:ks.Nodup
 len:ks.length≤20
theorem MemOk.reverse {ks:List ByteArray} (h:MemOk ks):MemOk ks.reverse:=
 ⟨fun k hk=>h.ok k (List.mem_reverse.1 hk),List.pairwise_reverse.2 (List.Pairwise.imp Ne.symm h.one),by rw [List.length_reverse]; exact h.len⟩
theorem tx_all {k:ByteArray} (h:k.size≤20) (hv:Lib.validD k.data.toList=true):allB (txT k)=true:=by
 have h4:k.size≤400:=by omega
 rw [allB,allL]
 simp [ownB,onlyB,hv,h4]
section
variable {it:Tr→List UInt8} {nar:Own→Own} {G:Tr→Prop}
end
end Go.Proofs.YtonihophanmaaaaGreatDoor
namespace Go.Proofs.YtonihophanmaaaaGreatDoor
open Go.RowKit Go.Shelf
theorem RowT.blkD {W:World} {S:Nat→Prop} {d k n:Nat} {l:List Tr} {xs:List Value} {cs:Array Value} (h:RowT W S d l xs) (hk:Blk W k cs 28) (hc:cs=xs.toArray) (hn:l.length=n) (hl:n≤9223372036854775807) (hS:∀ q,S q→q<k+1):ListAt W (k+1) (d+1) l (.slice (some ⟨k,0,none⟩) n n):=by
 subst hn hc
 refine ⟨_,_,rfl,⟨hl,Nat.le_refl _⟩,fun i hi=>?_⟩
 obtain ⟨y,ho,hg,hkk⟩:=h.get i hi
 refine ⟨_,y,rfl,Nat.lt_succ_self k,ho,fun j u hu=>?_,hkk.mono hS⟩
 have ha:(⟨k,0,none⟩:Addr).add (i*9+j)=⟨k,i*9+j,none⟩:=by
  unfold Addr.add
  split
  ·rename_i e
   rw [e]
  ·simp
 rw [ha,hk.cell,List.getElem?_toArray]
 exact hg j u hu
abbrev tenT:Tr:=.nd { zeroO with kind:=3,dg:=⟨#[49]⟩,ex:=1 } []
abbrev kaT:Tr:=txT ⟨#[97]⟩
abbrev kbT:Tr:=txT ⟨#[98]⟩
abbrev shU:List (Tr×Tr):=[(kbT,nulT),(kaT,nulT),(tenT,nulT)]
abbrev shQ:List (Tr×Tr):=[(kbT,nulT),(kaT,nulT)]
theorem ka_all:allB kaT=true:=tx_all (by decide) (by decide +kernel)
theorem kb_all:allB kbT=true:=tx_all (by decide) (by decide +kernel)
theorem ten_all:allB tenT=true:=by
 have hd:decOk false ⟨#[49]⟩ 1=true:=by decide +kernel
 rw [allB,allL]
 simp [ownB,onlyB,hd]
theorem shU_check:checkT 2 flC (.nd mpO (unp shU))=0:=by
 refine check_zero.2 ⟨by decide +kernel,by decide +kernel,?_,by decide +kernel⟩
 have hk:keysB (unp shU)=true:=by
  rw [keysB_iff,apart_unp]
  refine List.pairwise_cons.2 ⟨fun b hb=>?_,List.pairwise_cons.2 ⟨fun b hb=>?_,List.pairwise_singleton _ _⟩⟩
  ·rcases List.mem_cons.1 hb with rfl | hb
   ·decide +kernel
   ·rw [List.mem_singleton.1 hb]; decide +kernel
  ·rw [List.mem_singleton.1 hb]; decide +kernel
 rw [allB,ownB_mp,hk]
 simp only [unp,allL,ka_all,kb_all,ten_all,nul_facts.1]
 rfl
theorem shQ_check:checkT 2 flC (.nd mpO (unp shQ))=0:=by
 refine check_zero.2 ⟨by decide +kernel,by decide +kernel,?_,by decide +kernel⟩
 have hk:keysB (unp shQ)=true:=by
  rw [keysB_iff,apart_unp]
  refine List.pairwise_cons.2 ⟨fun b hb=>?_,List.pairwise_singleton _ _⟩
  rw [List.mem_singleton.1 hb]; decide +kernel
 rw [allB,ownB_mp,hk]
 simp only [unp,allL,ka_all,kb_all,nul_facts.1]
 rfl
theorem set_nul:setT cbT narR nulT=nulT:=by
 rw [setT,if_neg (by decide),if_neg (by decide),setL]
theorem shU_detW:detW (.nd mpO (unp shU))=⟨#[163,10,246,97,97,246,97,98,246]⟩:=by
 unfold detW
 rw [if_pos shU_check]
 have e:setT cbT narR (.nd mpO (unp shU))=.nd mpO (unp (sortP cbT shU)):=by
  rw [setT,if_neg (by decide),if_pos rfl,setP_unp]
  simp only [List.map_cons,List.map_nil,set_nul]
 rw [e]
 have h:cbT (.nd mpO (unp (sortP cbT shU)))=[163,10,246,97,97,246,97,98,246]:=by decide +kernel
 rw [h]
 rfl
theorem shQ_detW:detW (.nd mpO (unp shQ))=⟨#[162,97,97,246,97,98,246]⟩:=by
 unfold detW
 rw [if_pos shQ_check]
 have e:setT cbT narR (.nd mpO (unp shQ))=.nd mpO (unp (sortP cbT shQ)):=by
  rw [setT,if_neg (by decide),if_pos rfl,setP_unp]
  simp only [List.map_cons,List.map_nil,set_nul]
 rw [e]
 have h:cbT (.nd mpO (unp (sortP cbT shQ)))=[162,97,97,246,97,98,246]:=by decide +kernel
 rw [h]
 rfl
theorem okO2 (o:Own) (h1:o.dg.size≤100) (h2:o.s.size≤100) (h3:0≤o.kind∧o.kind≤100) (h4:0≤o.ex∧o.ex≤100) (h5:o.u=0) (h6:o.wd=0):OwnOk o:=⟨by omega,by omega,by omega,by omega,by omega,by omega⟩
theorem ok_leaf {o:Own} (ha:allB (.nd o [])=true) (hf:fitT 2 flC (.nd o [])=true) (ho:OwnOk o):okC (.nd o []):=by
 rw [okC]
 exact ⟨⟨(own_of_all ha).1,(fit_parts hf).1,ho,by decide⟩,trivial⟩
theorem sh_ok:okC (.nd mpO (unp shQ)):=by
 have h:=check_zero.1 shQ_check
 have o5:∀ k:ByteArray,k.size≤100→OwnOk { zeroO with kind:=5,s:=k }:=fun k hk=>okO2 _ (by show (⟨#[]⟩:ByteArray).size≤100; decide) hk (by show (0:Int)≤5∧(5:Int)≤100; decide) (by show (0:Int)≤0∧(0:Int)≤100; decide) rfl rfl
 have on:OwnOk { zeroO with kind:=1 }:=okO2 _ (by decide) (by decide) (by decide) (by decide) rfl rfl
 have hn:=ok_leaf nul_facts.1 nul_facts.2.1 on
 rw [okC]
 refine ⟨⟨(own_of_all h.2.2.1).1,(fit_parts h.2.2.2).1,okO2 _ (by decide) (by decide) (by decide) (by decide) rfl rfl,by decide⟩,?_⟩
 simp only [unp,okCL]
 exact ⟨ok_leaf kb_all (by decide +kernel) (o5 _ (by decide)),hn,ok_leaf ka_all (by decide +kernel) (o5 _ (by decide)),hn,trivial⟩
theorem sh_RD:RD ⟨#[162,97,98,246,97,97,246]⟩=(130,.nd zeroO []):=by
 have e:bs (cbT (.nd mpO (unp shQ)))=⟨#[162,97,98,246,97,97,246]⟩:=by
  have h:cbT (.nd mpO (unp shQ))=[162,97,98,246,97,97,246]:=by decide +kernel
  rw [h]
  rfl
 have h1:=itemC_back (.nd mpO (unp shQ)) ⟨#[]⟩ sh_ok (by decide +kernel)
 rw [e]at h1
 have h2:RC ⟨#[162,97,98,246,97,97,246]⟩=(0,.nd mpO (unp shQ)):=rc_of h1 (by decide) shQ_check
 unfold RD
 rw [h2]
 simp only [if_true]
 rw [if_neg (fun h=>?_)]
 rw [shQ_detW]at h
 exact absurd h.2 (by decide +kernel)
theorem less_ten:lessT cbT tenT kaT=true:=by
 rw [less_iff,key1_check,key1_check]
 exact ⟨⟨ten_all,by decide +kernel,by decide +kernel⟩,⟨ka_all,by decide +kernel,by decide +kernel⟩,by decide +kernel⟩
theorem less_ba:lessT cbT kbT kaT=false:=by
 cases h:lessT cbT kbT kaT with
 | false=>rfl
 | true =>
  have:=(less_iff.1 h).2.2
  exact absurd this (by decide +kernel)
end Go.Proofs.YtonihophanmaaaaGreatDoor
