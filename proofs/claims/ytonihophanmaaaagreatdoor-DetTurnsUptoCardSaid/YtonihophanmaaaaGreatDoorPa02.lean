/- The texts TreeB, TreeC, put together. -/
import Derived.Test.YtonihophanmaaaaGreatDoorPa01
import Derived.BigQuiet
import Derived.Deep.QuietTactic
import Derived.StillTailTactics
import Derived.Deep.AppendLies
import Derived.Laws.Rows
import Derived.Laws.Tables
namespace Go.Proofs.YtonihophanmaaaaGreatDoor
open Go.RowKit Go.Shelf
deriving instance DecidableEq for Own
mutual
def sameT:Tr→Tr→Bool
 | .nd o l,.nd o' l'=>decide (o=o') && decide (l.length=l'.length) && sameL l l'
def sameL:List Tr→List Tr→Bool
 | [],_=>true
 | _::_,[]=>true
 | t::l,t'::l'=>sameT t t' && sameL l l'
end
theorem sameT_eq (t t':Tr):sameT t t'=(decide (t.own=t'.own) && decide (t.kids.length=t'.kids.length) && sameL t.kids t'.kids):=by
 cases t
 cases t'
 rw [sameT]
 rfl
mutual
theorem sameT_refl:∀ t:Tr,sameT t t=true
 | .nd o l=>by
  rw [sameT,sameL_refl l]
  simp
theorem sameL_refl:∀ l:List Tr,sameL l l=true
 | []=>by rw [sameL]
 | t::l=>by
  rw [sameL,sameT_refl t,sameL_refl l]
  rfl
end
theorem sameL_drop:∀ (l l':List Tr) (k:Nat) (h:k<l.length) (h':k<l'.length),sameL (l.drop k) (l'.drop k)=(sameT l[k] l'[k] && sameL (l.drop (k+1)) (l'.drop (k+1))):=by
 intro l l' k h h'
 rw [List.drop_eq_getElem_cons h,List.drop_eq_getElem_cons h',sameL]
abbrev cellsV (o:Own) (v:Value):Array Value:=#[.int .i64 o.kind,.bool o.b,.bool o.neg,.string o.dg,.int .i64 o.ex,.int .u64 o.u,.int .i64 o.wd,.string o.s,v]
set_option maxHeartbeats 4000000 in
set_option maxRecDepth 100000 in
theorem same_not (o o':Own) (A A':Option Addr) (n n' c c':Nat) (h:¬ (o=o'∧n=n')) (w:World) :
  Calls Tryz.prog 13 #[nodeV o (.slice A n c),nodeV o' (.slice A' n' c')] w fun e w'=>e=.returned (.bool false)∧Below w.heap.size w w':=by
 obtain ⟨kind,b,neg,dg,ex,u,wd,s⟩:=o
 obtain ⟨kind',b',neg',dg',ex',u',wd',s'⟩:=o'
 have hb2:=((Below.refl w.heap.size w).alloc (Nat.le_refl _) (.cells #[.int .i64 kind,.bool b,.bool neg,.string dg,.int .i64 ex,.int .u64 u,.int .i64 wd,.string s,.slice A n c] 28)).alloc (by simp) (.cells #[.int .i64 kind',.bool b',.bool neg',.string dg',.int .i64 ex',.int .u64 u',.int .i64 wd',.string s',.slice A' n' c'] 28)
 unfold nodeV
 simp only []
 have sne:∀ a b:ByteArray,a≠b→(a.toList == b.toList)=false:=fun a b h=>by
  rw [beq_eq_false_iff_ne,ByteArray.toList_eq,ByteArray.toList_eq]
  exact fun e=>h (by apply ByteArray.ext; exact Array.toList_inj.1 e)
 by_cases h1:kind=kind'
 case neg =>
  have e1:(kind == kind')=false:=by rw [beq_eq_false_iff_ne]; exact h1
  clear h sne
  go_enter Tryz.func13,Tryz.ntmps13
  go_wp2_with fail
  go_ret
  exact ⟨rfl,hb2⟩
 subst h1
 by_cases h2:b=b'
 case neg =>
  have e1:(b == b')=false:=by rw [beq_eq_false_iff_ne]; exact h2
  clear h sne
  go_enter Tryz.func13,Tryz.ntmps13
  go_wp2_with fail
  go_ret
  exact ⟨rfl,hb2⟩
 subst h2
 by_cases h3:neg=neg'
 case neg =>
  have e1:(neg == neg')=false:=by rw [beq_eq_false_iff_ne]; exact h3
  clear h sne
  go_enter Tryz.func13,Tryz.ntmps13
  go_wp2_with fail
  go_ret
  exact ⟨rfl,hb2⟩
 subst h3
 by_cases h4:dg=dg'
 case neg =>
  have e1:=sne _ _ h4
  clear h sne
  go_enter Tryz.func13,Tryz.ntmps13
  go_wp2_with fail
  go_ret
  exact ⟨rfl,hb2⟩
 subst h4
 by_cases h5:ex=ex'
 case neg =>
  have e1:(ex == ex')=false:=by rw [beq_eq_false_iff_ne]; exact h5
  clear h sne
  go_enter Tryz.func13,Tryz.ntmps13
  go_wp2_with fail
  go_ret
  exact ⟨rfl,hb2⟩
 subst h5
 by_cases h6:u=u'
 case neg =>
  have e1:(u == u')=false:=by rw [beq_eq_false_iff_ne]; exact h6
  clear h sne
  go_enter Tryz.func13,Tryz.ntmps13
  go_wp2_with fail
  go_ret
  exact ⟨rfl,hb2⟩
 subst h6
 by_cases h7:wd=wd'
 case neg =>
  have e1:(wd == wd')=false:=by rw [beq_eq_false_iff_ne]; exact h7
  clear h sne
  go_enter Tryz.func13,Tryz.ntmps13
  go_wp2_with fail
  go_ret
  exact ⟨rfl,hb2⟩
 subst h7
 by_cases h8:s=s'
 case neg =>
  have e1:=sne _ _ h8
  clear h sne
  go_enter Tryz.func13,Tryz.ntmps13
  go_wp2_with fail
  go_ret
  exact ⟨rfl,hb2⟩
 subst h8
 have h9:n≠n':=fun e=>h ⟨rfl,e⟩
 have e1:((n:Int) == (n':Int))=false:=by rw [beq_eq_false_iff_ne]; omega
 clear h sne h9
 go_enter Tryz.func13,Tryz.ntmps13
 go_wp2_with fail
 go_ret
 exact ⟨rfl,hb2⟩
theorem box2 (w:World) (cs cs':Array Value) (t t':TypeId):Below w.heap.size w ((w.alloc (.cells cs t)).alloc (.cells cs' t'))∧Blk ((w.alloc (.cells cs t)).alloc (.cells cs' t')) w.heap.size cs t∧Blk ((w.alloc (.cells cs t)).alloc (.cells cs' t')) (w.heap.size+1) cs' t':=by
 refine ⟨((Below.refl w.heap.size w).alloc (Nat.le_refl _) _).alloc (by simp) _,(Blk.new w _ _).alloc _,?_⟩
 have:=Blk.new (w.alloc (.cells cs t)) cs' t'
 rw [World.size_alloc]at this
 exact this
set_option maxHeartbeats 4000000 in
set_option maxRecDepth 100000 in
theorem ref_SameT (d:Nat):∀ (t t':Tr) (x x':Value) (w:World) (B d2:Nat),ListAt w B d t.kids x→ListAt w B d2 t'.kids x'→B≤w.heap.size →
  Calls Tryz.prog 13 #[nodeV t.own x,nodeV t'.own x'] w fun e w'=>e=.returned (.bool (sameT t t'))∧Below w.heap.size w w':=by
 induction d using Nat.strongRecOn with
 | _ d ih =>
 intro t t' x x' w B d2 hl hl' hB
 obtain ⟨hlen,A,c,rfl⟩:=hl.slice
 obtain ⟨hlen',A',c',rfl⟩:=hl'.slice
 rw [sameT_eq]
 by_cases hne:t.own=t'.own∧t.kids.length=t'.kids.length
 case neg =>
  have hf:(decide (t.own=t'.own) && decide (t.kids.length=t'.kids.length) && sameL t.kids t'.kids)=false:=by
   rw [Bool.and_eq_false_iff,Bool.and_eq_false_iff,decide_eq_false_iff_not,decide_eq_false_iff_not]
   by_cases h1:t.own=t'.own
   ·exact .inl (.inr fun h2=>hne ⟨h1,h2⟩)
   ·exact .inl (.inl h1)
  rw [hf]
  exact same_not _ _ _ _ _ _ _ _ hne w
 obtain ⟨hoo,hnn⟩:=hne
 rw [decide_eq_true hoo,decide_eq_true hnn,Bool.true_and,Bool.true_and,← hoo,← hnn]
 rw [← hnn]at hl' hlen'
 obtain ⟨l,hkl⟩:∃ l,t.kids=l:=⟨_,rfl⟩
 obtain ⟨l',hkl'⟩:∃ l',t'.kids=l':=⟨_,rfl⟩
 rw [hkl]at hl hlen hnn hl' hlen' ⊢
 rw [hkl']at hnn hl' ⊢
 obtain ⟨n,hn⟩:∃ n,l.length=n:=⟨_,rfl⟩
 rw [hn]at hl hlen hl' hnn ⊢
 obtain ⟨⟨kind,b,neg,dg,ex,u,wd,s⟩,ho⟩:∃ o,t.own=o:=⟨_,rfl⟩
 rw [ho]
 unfold nodeV
 obtain ⟨ans,hans⟩:∃ ans,sameL l l'=ans:=⟨_,rfl⟩
 rw [hans]
 have HANS:=Lib.hid (show sameL (l.drop 0) (l'.drop 0)=ans from hans)
 have HL:=Lib.hid hl
 have HL':=Lib.hid hl'
 have IH:=Lib.hid ih
 simp only []
 have HB2:=Lib.hid (box2 w #[.int .i64 kind,.bool b,.bool neg,.string dg,.int .i64 ex,.int .u64 u,.int .i64 wd,.string s,.slice A n c] #[.int .i64 kind,.bool b,.bool neg,.string dg,.int .i64 ex,.int .u64 u,.int .i64 wd,.string s,.slice A' n c'] 28 28)
 have HNN:=Lib.hid hnn
 clear hl hl' ih ho hkl hkl' hoo hans hnn hlen'
 go_enter Tryz.func13,Tryz.ntmps13
 go_wp2_with fail
 go_loopw [5] (fun i wr=>∃ k:Nat,k≤n∧i=.int .i64 k∧Below w.heap.size w wr∧wr.cell? ⟨w.heap.size,8,none⟩=some (.slice A n c)∧wr.cell? ⟨w.heap.size+1,8,none⟩=some (.slice A' n c')∧w.heap.size+2≤wr.heap.size∧Hid (sameL (l.drop k) (l'.drop k)=ans)) (fun i _=>n - (intOf i).toNat)
 case atStart=>exact ⟨0,by omega,rfl,HB2.out.1,HB2.out.2.1.cell 8,HB2.out.2.2.cell 8,by simp,HANS⟩
 case round =>
  obtain ⟨k,hk,rfl,hbw,hf1,hf2,hz,hac⟩:=hrel
  clear HB2 HANS
  by_cases hlt:k<n
  ·have hkl:k<l.length:=by omega
   have hkl':k<l'.length:=by have:=HNN.out; omega
   obtain ⟨d',ad,y,hdd,rfl,hab,hok,hna,hkk⟩:=(HL.out.below hbw hB).at_ hkl
   obtain ⟨d2',ad',y',hdd2,rfl,hab',hok',hna',hkk'⟩:=(HL'.out.below hbw hB).at_ hkl'
   have hdr:=hac.out
   rw [sameL_drop l l' k hkl hkl']at hdr
   have HC:=fun (w':World) (hw:Below wr.heap.size wr w')=>IH.out d' (by omega) l[k] l'[k] y y' w' B d2' (hkk.below hw (Nat.le_trans hB hbw.size)) (hkk'.below hw (Nat.le_trans hB hbw.size)) (Nat.le_trans (Nat.le_trans hB hbw.size) hw.size)
   obtain ⟨⟨kind1,b1,neg1,dg1,ex1,u1,wd1,s1⟩,ho1⟩:∃ o,l[k].own=o:=⟨_,rfl⟩
   obtain ⟨⟨kind2,b2,neg2,dg2,ex2,u2,wd2,s2⟩,ho2⟩:∃ o,l'[k].own=o:=⟨_,rfl⟩
   rw [ho1]at hna
   rw [ho2]at hna'
   rw [ho1,ho2]at HC
   unfold nodeV at HC
   obtain ⟨k0,k1,k2,k3,k4,k5,k6,k7,k8⟩:=hna
   obtain ⟨m0,m1,m2,m3,m4,m5,m6,m7,m8⟩:=hna'
   simp only []at k0 k1 k2 k3 k4 k5 k6 k7 k8 m0 m1 m2 m3 m4 m5 m6 m7 m8 HC
   have y1:(k:Int)<n:=by omega
   have y0:(0:Int)≤k:=by omega
   have HC:=Lib.hid HC
   have hdb:Below wr.heap.size wr wr.drew:=(Below.refl _ _).drew
   clear hac ho1 ho2 hkk hkk' hok hok' hdd hdd2
   cases hs:sameT l[k] l'[k] with
   | false =>
    rw [hs]at hdr HC
    have hdr:false=ans:=hdr
    subst hdr
    clear hs
    go_wp2_with fail
    go_still_tail 10,(by kernel_rfl)
    change wpList _ _ _ _ _ wr.drew
    go_wp2_with fail
    refine (HC.out _ hdb).mono ?_
    rintro e w2 ⟨rfl,hb2⟩
    have hb3:=(hbw.trans (hdb.mono hbw.size)).trans (hb2.mono (Nat.le_trans hbw.size hdb.size))
    go_wp2_with fail
    go_ret
    exact ⟨rfl,hb3⟩
   | true =>
    rw [hs,Bool.true_and]at hdr
    rw [hs]at HC
    have HD:=Lib.hid hdr
    clear hs hdr
    go_wp2_with fail
    go_still_tail 10,(by kernel_rfl)
    change wpList _ _ _ _ _ wr.drew
    go_wp2_with fail
    refine (HC.out _ hdb).mono ?_
    rintro e w2 ⟨rfl,hb2⟩
    have hb3:=(hbw.trans (hdb.mono hbw.size)).trans (hb2.mono (Nat.le_trans hbw.size hdb.size))
    have hz1:wr.drew.heap.size=wr.heap.size:=rfl
    have hf1':w2.cell? ⟨w.heap.size,8,none⟩=some (.slice (some ad) n c):=(hb2.cell (p:=⟨w.heap.size,8,none⟩) (by show w.heap.size<_; omega)).trans hf1
    have hf2':w2.cell? ⟨w.heap.size+1,8,none⟩=some (.slice (some ad') n c'):=(hb2.cell (p:=⟨w.heap.size+1,8,none⟩) (by show w.heap.size+1<_; omega)).trans hf2
    have hz2:=hb2.size
    clear hb2 k0 k1 k2 k3 k4 k5 k6 k7 k8 m0 m1 m2 m3 m4 m5 m6 m7 m8 hf1 hf2 hbw hdb HC
    go_wp2_with fail
    go_roundw
    case rel=>exact ⟨k+1,by omega,by go_num,hb3,hf1',hf2',by omega,HD⟩
    case measure=>simp [intOf]; omega
  ·obtain rfl:k=n:=by omega
   have y1:¬ (k:Int)<k:=by omega
   have hdr:=hac.out
   rw [List.drop_eq_nil_of_le (by omega),sameL]at hdr
   subst hdr
   clear hac
   go_wp2_with fail
   go_ret
   exact ⟨rfl,hbw⟩
def cutO (o:Own):Own:={ o with s:=o.s.extract 0 (min (o.s.size:Int) 410).toNat,dg:=o.dg.extract 0 (min (o.dg.size:Int) 200).toNat }
def cutT:Nat→Tr→Tr
 | 0,t=>.nd (cutO t.own) []
 | d+1,t=>.nd (cutO t.own) ((t.kids.take 40).map (cutT d))
theorem cutT_own (d:Nat) (t:Tr):(cutT d t).own=cutO t.own:=by
 cases d <;> rfl
theorem infoNode:(Tryz.prog.info? 28).map (fun i=>(i.zero,i.size,i.bytes))=some (some (.agg #[.int .i64 0,.bool false,.bool false,.string ⟨#[]⟩,.int .i64 0,.int .u64 0,.int .i64 0,.string ⟨#[]⟩,.slice none 0 0]),9,104):=by kernel_rfl
theorem own_sliceT {W:World} {base size n:Nat} {e:TypeId} {v:Value} {xs:List Value} (h:W.ownsRow base e size v n xs):∃ A c,v=.slice A n c:=by
 rcases h.2 with ⟨hv,hn⟩ | ⟨g,cap,cur,hv,_⟩
 ·exact ⟨none,0,by rw [hv,hn]⟩
 ·exact ⟨_,_,hv⟩
theorem cutT_kids (d:Nat) (t:Tr):(cutT d t).kids=if d=0 then [] else (t.kids.take 40).map (cutT (d - 1)):=by
 cases d <;> rfl
theorem cut_ok {o:Own} (h:OwnOk o):OwnOk (cutO o):=by
 refine ⟨?_,?_,h.kind,h.ex,h.u,h.wd⟩
 ·show (o.dg.extract 0 _).size≤_
  rw [ByteArray.size_extract]
  omega
 ·show (o.s.extract 0 _).size≤_
  rw [ByteArray.size_extract]
  omega
theorem nodeCells_eq (o:Own) (v:Value):nodeV o v=.agg (nodeCells o v).toArray:=rfl
theorem cells_newT (W:World) (cs:List Value) (t:TypeId):∀ j u,cs[j]? = some u→(W.alloc (.cells cs.toArray t)).cell? ((⟨W.heap.size,0,none⟩:Addr).add j)=some u:=by
 intro j u hj
 have ea:(⟨W.heap.size,0,none⟩:Addr).add j=⟨W.heap.size,j,none⟩:=by
  unfold Addr.add
  split
  ·rename_i h0
   rw [h0]
  ·simp
 rw [ea,(Blk.new W cs.toArray t).cell j]
 simpa using hj
theorem grown_setT (w:World) (p i:Nat) (v:Value):w.grownBy (w.setCell ⟨p,i,none⟩ v) (some p):=
 ⟨rfl,rfl,rfl,by simp [World.setCell],fun k _ hk=>Below.heap_setCell w ⟨p,i,none⟩ v k (fun e=>hk (by rw [e]))⟩
theorem ownsRow_keep {W W':World} {base size n:Nat} {e:TypeId} {v:Value} {xs:List Value} (h:W.ownsRow base e size v n xs) (hk:∀ q,v.ownBlock=some q→W'.heap[q]? = W.heap[q]?):W'.ownsRow base e size v n xs:=by
 refine ⟨h.1,?_⟩
 rcases h.2 with h2 | ⟨g,cap,cur,hv,hb,hh,h3⟩
 ·exact .inl h2
 ·exact .inr ⟨g,cap,cur,hv,hb,(hk g (by rw [hv]; rfl)).trans hh,h3⟩
theorem blk_keep {W W':World} {p:Nat} {cs:Array Value} {t:TypeId} (h:Blk W p cs t) (hk:W'.heap[p]? = W.heap[p]?):Blk W' p cs t:=hk.trans h
set_option maxHeartbeats 8000000 in
set_option maxRecDepth 100000 in
theorem law_Cut (deep:Nat):deep≤1000→∀ (t:Tr) (x:Value) (w:World) (B D:Nat),ListAt w B D t.kids x→OwnOk t.own→B≤w.heap.size →
  Calls Tryz.prog 30 #[nodeV t.own x,.int .i64 ((deep+1:Nat):Int)] w fun e w'=>(∃ y,e=.returned (nodeV (cutO t.own) y)∧LAt w' (fun q=>w.heap.size≤q∧q<w'.heap.size) deep (cutT deep t).kids y)∧Below w.heap.size w w':=by
 induction deep using Nat.strongRecOn with
 | _ deep ih =>
 intro hdeep t x w B D hl ho hB
 obtain ⟨i0,hi,hz0,hz1,hz2⟩:=info_parts infoNode
 have HI:=Lib.hid hi
 have HZ0:=Lib.hid hz0
 have HZ1:=Lib.hid hz1
 have HZ2:=Lib.hid hz2
 clear hi hz0 hz1 hz2
 obtain ⟨hlen,A,c,rfl⟩:=hl.slice
 rw [cutT_kids]
 obtain ⟨l,hkl⟩:∃ l,t.kids=l:=⟨_,rfl⟩
 rw [hkl]at hl hlen ⊢
 obtain ⟨n,hn⟩:∃ n,l.length=n:=⟨_,rfl⟩
 rw [hn]at hl hlen ⊢
 obtain ⟨⟨kind,b,neg,dg,ex,u,wd,s⟩,ho'⟩:∃ o,t.own=o:=⟨_,rfl⟩
 rw [ho']at ho ⊢
 obtain ⟨hdg,hs,_,_,_,_⟩:=ho
 unfold nodeV cutO
 simp only []at hdg hs ⊢
 obtain ⟨m1,hm1⟩:∃ m1:Nat,(if (410:Int)<s.size then 410 else (s.size:Int))=m1:=⟨(if (410:Int)<s.size then 410 else (s.size:Int)).toNat,by split <;> omega⟩
 obtain ⟨m2,hm2⟩:∃ m2:Nat,(if (200:Int)<dg.size then 200 else (dg.size:Int))=m2:=⟨(if (200:Int)<dg.size then 200 else (dg.size:Int)).toNat,by split <;> omega⟩
 have e1:(min (s.size:Int) 410).toNat=m1:=by split at hm1 <;> omega
 have e2:(min (dg.size:Int) 200).toNat=m2:=by split at hm2 <;> omega
 have z1:(m1:Int)≤s.size:=by split at hm1 <;> omega
 have z2:(m2:Int)≤dg.size:=by split at hm2 <;> omega
 rw [e1,e2]
 obtain ⟨s1,hs1⟩:∃ s1,s.extract 0 m1=s1:=⟨_,rfl⟩
 obtain ⟨dg1,hdg1⟩:∃ dg1,dg.extract 0 m2=dg1:=⟨_,rfl⟩
 rw [hs1,hdg1]
 obtain ⟨fl,hfl⟩:∃ fl,(if deep=0 then [] else (l.take 40).map (cutT (deep - 1)))=fl:=⟨_,rfl⟩
 rw [hfl]
 have HFL:=Lib.hid hfl
 clear hfl
 have HL:=Lib.hid hl
 have IH:=Lib.hid ih
 have HN:=Lib.hid hn
 have HB2:=Lib.hid (box2 w #[.int .i64 kind,.bool b,.bool neg,.string dg1,.int .i64 ex,.int .u64 u,.int .i64 wd,.string s1,.slice A n c] #[.int .i64 0,.bool false,.bool false,.string ⟨#[]⟩,.int .i64 0,.int .u64 0,.int .i64 0,.string ⟨#[]⟩,.slice none 0 0] 28 28)
 obtain ⟨dp,hdp⟩:∃ dp:Int,((deep+1:Nat):Int)=dp:=⟨_,rfl⟩
 have HDP:=Lib.hid hdp
 rw [hdp]
 clear hdg hs hl ih hn hkl ho' hdp
 go_enter Tryz.func30,Tryz.ntmps30
 go_wp2_with fail
 try simp only [e1,e2,hs1,hdg1]
 clear e1 e2 hs1 hdg1 hm1 hm2 z1 z2
 go_loopw [5,6] (fun v i wr=>∃ (k:Nat) (xs:List Value),k≤n∧k≤40∧(0<k→0<deep)∧i=.int .i64 k∧wr.ownsRow w.heap.size 28 9 v k xs∧RowT wr (fun q=>w.heap.size+2≤q∧q<wr.heap.size∧v.ownBlock≠some q) (deep - 1) ((l.take k).map (cutT (deep - 1))) xs∧Below w.heap.size w wr∧Blk wr w.heap.size #[.int .i64 kind,.bool b,.bool neg,.string dg1,.int .i64 ex,.int .u64 u,.int .i64 wd,.string s1,.slice A n c] 28∧Blk wr (w.heap.size+1) #[.int .i64 0,.bool false,.bool false,.string ⟨#[]⟩,.int .i64 0,.int .u64 0,.int .i64 0,.string ⟨#[]⟩,.slice none 0 0] 28∧v.ownBlock≠some w.heap.size∧v.ownBlock≠some (w.heap.size+1)) (fun _ i _=>n - (intOf i).toNat)
 case atStart=>exact ⟨0,[],by omega,by omega,fun h=>absurd h (by omega),rfl,World.ownsRow_nil _ _ _ _,rfl,HB2.out.1,HB2.out.2.1,HB2.out.2.2,by simp [Value.ownBlock],by simp [Value.ownBlock]⟩
 case round =>
  obtain ⟨k,xs,hk,hk40,hkd,rfl,hown,hrow,hbw,hb1,hb2,hv1,hv2⟩:=hrel
  clear HB2
  obtain ⟨A',c',rfl⟩:=own_sliceT hown
  have hzw:=hbw.size
  have hf8:wr.cell? ⟨w.heap.size,8,none⟩=some (.slice A n c):=hb1.cell 8
  by_cases hgo:k<n∧k<40∧0<deep
  ·obtain ⟨hlt,hlt40,hdp0⟩:=hgo
   have hkl:k<l.length:=by rw [HN.out]; exact hlt
   obtain ⟨d',ad,y,hdd,rfl,hab,hok,hna,hkk⟩:=(HL.out.below hbw hB).at_ hkl
   have hd1:dp=(deep:Int)+1:=by rw [← HDP.out]; omega
   have HC:=IH.out (deep - 1) (by omega) (by omega) l[k] y wr B d' hkk hok (Nat.le_trans hB hbw.size)
   rw [show (deep - 1+1:Nat)=deep by omega]at HC
   have htk:(l.take (k+1)).map (cutT (deep - 1))=(l.take k).map (cutT (deep - 1))++[cutT (deep - 1) l[k]]:=by
    rw [List.take_succ_eq_append_getElem hkl,List.map_append]
    rfl
   have hcok:=cut_ok hok
   obtain ⟨o1,ho1⟩:∃ o,l[k].own=o:=⟨_,rfl⟩
   have hco:(cutT (deep - 1) l[k]).own=cutO o1:=by rw [cutT_own,ho1]
   rw [ho1]at hna HC hcok
   obtain ⟨kind2,b2,neg2,dg2,ex2,u2,wd2,s2⟩:=o1
   obtain ⟨o3,ho3⟩:∃ o3,cutO ⟨kind2,b2,neg2,dg2,ex2,u2,wd2,s2⟩=o3:=⟨_,rfl⟩
   rw [ho3]at HC hcok hco
   clear ho3
   unfold nodeV at HC
   obtain ⟨k0,k1,k2,k3,k4,k5,k6,k7,k8⟩:=hna
   simp only []at k0 k1 k2 k3 k4 k5 k6 k7 k8 HC
   have HC:=Lib.hid HC
   have HT:=Lib.hid htk
   have HOK:=Lib.hid hcok
   have HCO:=Lib.hid hco
   have HROW:=Lib.hid hrow
   have HOWN:=Lib.hid hown
   have y1:(k:Int)<n:=by omega
   have y2:(k:Int)<40:=by omega
   have y3:(1:Int)<dp:=by omega
   have y4:dp - 1=(deep:Int):=by omega
   have y5:(0:Int)≤(deep:Int):=by omega
   have y6:(deep:Int)≤1000:=by omega
   clear htk hkk hok hdd ho1 hcok hco hd1 hrow hown
   go_wp2_with fail
   refine HC.out.mono ?_
   rintro e w2 ⟨⟨y',rfl,hly⟩,hbb⟩
   obtain ⟨_,A1,c1,rfl⟩:=hly.slice
   obtain ⟨n1,hn1⟩:∃ n1,(cutT (deep - 1) l[k]).kids.length=n1:=⟨_,rfl⟩
   rw [hn1]at hly ⊢
   have hz2:=hbb.size
   have hbw2:=hbw.trans (hbb.mono hzw)
   have hb1':=hb1.below hbb hb1.lt
   have hb2':=hb2.below hbb hb2.lt
   have hb2lt:=hb2.lt
   have hq:∀ q,(Value.slice A' k c').ownBlock=some q→w.heap.size≤q∧q<wr.heap.size:=fun q e=>⟨(HOWN.out.lt q e).1,(HOWN.out.lt q e).2⟩
   have hown2:w2.ownsRow w.heap.size 28 9 (.slice A' k c') k xs:=HOWN.out.kept (below_none hbb) (by cases A' with | none=>exact .inl rfl | some a=>exact .inr (by simp [Value.ownBlock]))
   obtain ⟨kind3,b3,neg3,dg3,ex3,u3,wd3,s3⟩:=o3
   have HN1:=Lib.hid hn1
   have HLY:=Lib.hid hly
   have HQ:=Lib.hid hq
   have HBB:=Lib.hid hbb
   have HB1:=Lib.hid hb1'
   have HB2:=Lib.hid hb2'
   have c3:k+1≤maxLen:=by unfold maxLen; omega
   clear HC k0 k1 k2 k3 k4 k5 k6 k7 k8 hf8 hb1 hb2 hn1 hly hq hbb hb1' hb2'
   simp only []
   go_wp2_with (at_builtin; refine wpList_append_lies _ rfl _ _ 26 rfl w.heap.size 28 i0 (.agg #[.int .i64 0,.bool false,.bool false,.string ⟨#[]⟩,.int .i64 0,.int .u64 0,.int .i64 0,.string ⟨#[]⟩,.slice none 0 0]) 9 104 Tryz.underlying26 HI.out HZ0.out HZ1.out HZ2.out rfl (by decide) _ _ _ rfl (hown2.alloc _) ⟨w2.heap.size,0,none⟩ 1 1 [.int .i64 kind3,.bool b3,.bool neg3,.string dg3,.int .i64 ex3,.int .u64 u3,.int .i64 wd3,.string s3,.slice A1 n1 c1] rfl rfl (cells_newT _ [.int .i64 kind3,.bool b3,.bool neg3,.string dg3,.int .i64 ex3,.int .u64 u3,.int .i64 wd3,.string s3,.slice A1 n1 c1] _) (by intro u hu; simp at hu; rcases hu with rfl|rfl|rfl|rfl|rfl|rfl|rfl|rfl|rfl <;> rfl) (by decide) (by omega) (by omega) (by simp; omega) (w2.heap.size+1) (by simp) ?_; intro g cap w4 hown4 hgrow hat hg4)
   have hg0:(Value.slice A' k c').ownBlock=some g→w.heap.size≤g∧g<wr.heap.size:=fun e=>HQ.out g e
   have hsz4:w2.heap.size+1≤w4.heap.size:=by
    have:=hgrow.size
    simpa using this
   have hkeep:∀ q,q<w2.heap.size→(Value.slice A' k c').ownBlock≠some q→w4.heap[q]? = w2.heap[q]? := fun q hq hne=>by
    rw [hgrow.block q (by simp; omega) (fun e=>hne e.symm)]
    exact ((Below.refl w2.heap.size w2).alloc (Nat.le_refl _) _).block q hq
   have hwr2:=hb2lt
   have hgl:g=w2.heap.size+1∨(Value.slice A' k c').ownBlock=some g:=hat.symm
   have hrow4:RowT w4 (fun q=>w.heap.size+2≤q∧q<w4.heap.size∧(Value.slice (some ⟨g,0,none⟩) (k+1) cap).ownBlock≠some q) (deep - 1) ((l.take (k+1)).map (cutT (deep - 1))) (xs++[.int .i64 kind3,.bool b3,.bool neg3,.string dg3,.int .i64 ex3,.int .u64 u3,.int .i64 wd3,.string s3,.slice A1 n1 c1]):=by
    rw [HT.out]
    refine RowT.append ?_ (((HROW.out.keep (fun q hq=>HBB.out.block q hq.2.1)).keep (fun q hq=>hkeep q (by omega) hq.2.2)).mono (fun q hq=>?_))
    ·have h1:LAt w4 (fun q=>w.heap.size+2≤q∧q<w4.heap.size∧(Value.slice (some ⟨g,0,none⟩) (k+1) cap).ownBlock≠some q) (deep - 1) (cutT (deep - 1) l[k]).kids (.slice A1 n1 c1):=by
      refine (HLY.out.keep (fun q hq=>hkeep q hq.2 (fun e=>?_))).mono (fun q hq=>⟨by omega,by omega,fun e=>?_⟩)
      ·have:=(HQ.out q e).2
       omega
      ·have e':g=q:=by simpa [Value.ownBlock] using e
       rcases hgl with h | h
       ·omega
       ·have:=(hg0 h).2
        omega
     have h2:=RowT.one (t:=cutT (deep - 1) l[k]) (y:=.slice A1 n1 c1) (by rw [HCO.out]; exact HOK.out) h1
     rw [HCO.out]at h2
     exact h2
    ·refine ⟨hq.1,by omega,fun e=>?_⟩
     have e':g=q:=by simpa [Value.ownBlock] using e
     subst e'
     rcases hgl with h | h
     ·omega
     ·exact hq.2.2 h
   have hbw4:Below w.heap.size w w4:=(hbw2.alloc hbw2.size _).grown hgrow (by simp; omega) (fun q e=>(HQ.out q e).1)
   have hblk1:Blk w4 w.heap.size #[.int .i64 kind,.bool b,.bool neg,.string dg1,.int .i64 ex,.int .u64 u,.int .i64 wd,.string s1,.slice (some ad) n c] 28:=blk_keep HB1.out (hkeep _ HB1.out.lt hv1)
   have hblk2:Blk w4 (w.heap.size+1) #[.int .i64 0,.bool false,.bool false,.string ⟨#[]⟩,.int .i64 0,.int .u64 0,.int .i64 0,.string ⟨#[]⟩,.slice none 0 0] 28:=blk_keep HB2.out (hkeep _ HB2.out.lt hv2)
   have hn1':(Value.slice (some ⟨g,0,none⟩) (k+1) cap).ownBlock≠some w.heap.size:=by
    intro e
    have e':g=w.heap.size:=by simpa [Value.ownBlock] using e
    rcases hgl with h | h
    ·omega
    ·rw [e']at h
     exact hv1 h
   have hn2':(Value.slice (some ⟨g,0,none⟩) (k+1) cap).ownBlock≠some (w.heap.size+1):=by
    intro e
    have e':g=w.heap.size+1:=by simpa [Value.ownBlock] using e
    rcases hgl with h | h
    ·have:=HB2.out.lt
     omega
    ·rw [e']at h
     exact hv2 h
   have HR4:=Lib.hid hrow4
   have HO4:=Lib.hid hown4
   have HK1:=Lib.hid hblk1
   have HK2:=Lib.hid hblk2
   clear hgrow hat hgl hg0 hkeep hrow4 hown4 hblk1 hblk2 hown2 HROW HOWN HB1 HB2 HBB HLY HQ hbw hbw2
   go_wp2_with fail
   go_roundw
   case rel=>exact ⟨k+1,_,by omega,by omega,fun _=>hdp0,by go_num,HO4.out,HR4.out,hbw4,HK1.out,HK2.out,hn1',hn2'⟩
   case measure=>simp [intOf]; omega
  ·have hlist:fl=(l.take k).map (cutT (deep - 1)):=by
    rw [← HFL.out]
    have hn:=HN.out
    by_cases h0:deep=0
    ·rw [if_pos h0]
     have:k=0:=by omega
     subst this
     rfl
    ·rw [if_neg h0]
     by_cases h40:k<40
     ·rw [List.take_of_length_le (by omega),List.take_of_length_le (by omega)]
     ·rw [show k=40 by omega]
   have hd1:dp=(deep:Int)+1:=by rw [← HDP.out]; omega
   have f8:=hb1.frozen 8
   have hs1:Blk (wr.setCell ⟨w.heap.size,8,none⟩ (.slice A' k c')) w.heap.size #[.int .i64 kind,.bool b,.bool neg,.string dg1,.int .i64 ex,.int .u64 u,.int .i64 wd,.string s1,.slice A' k c'] 28:=hb1.set 8 _
   have hs2:Blk (wr.setCell ⟨w.heap.size,8,none⟩ (.slice A' k c')) (w.heap.size+1) #[.int .i64 0,.bool false,.bool false,.string ⟨#[]⟩,.int .i64 0,.int .u64 0,.int .i64 0,.string ⟨#[]⟩,.slice none 0 0] 28:=blk_keep hb2 (Below.heap_setCell wr ⟨w.heap.size,8,none⟩ _ _ (fun e=>by have e:w.heap.size+1=w.heap.size:=e; omega))
   have hb3:Below w.heap.size w (wr.setCell ⟨w.heap.size,8,none⟩ (.slice A' k c')):=hbw.grown (grown_setT wr w.heap.size 8 _) hzw (fun q e=>by cases e; exact Nat.le_refl _)
   have hk3:∀ q,q≠w.heap.size→(wr.setCell ⟨w.heap.size,8,none⟩ (.slice A' k c')).heap[q]? = wr.heap[q]? := fun q hq=>Below.heap_setCell wr ⟨w.heap.size,8,none⟩ _ q hq
   have hz3:(wr.setCell ⟨w.heap.size,8,none⟩ (.slice A' k c')).heap.size=wr.heap.size:=by simp [World.setCell]
   have HLI:=Lib.hid hlist
   have HROW:=Lib.hid hrow
   have HOWN:=Lib.hid hown
   have HS1:=Lib.hid hs1
   have HS2:=Lib.hid hs2
   have HB3:=Lib.hid hb3
   have HK3:=Lib.hid hk3
   have HZ3:=Lib.hid hz3
   have HLT:=Lib.hid hb2.lt
   clear hrow hown hlist hs1 hs2 hb3 hk3 hz3 hb2
   have fin:∀ W:World,W=(wr.setCell ⟨w.heap.size,8,none⟩ (.slice A' k c')).setRow (w.heap.size+1) #[.int .i64 kind,.bool b,.bool neg,.string dg1,.int .i64 ex,.int .u64 u,.int .i64 wd,.string s1,.slice A' k c']→Blk W (w.heap.size+1) #[.int .i64 kind,.bool b,.bool neg,.string dg1,.int .i64 ex,.int .u64 u,.int .i64 wd,.string s1,.slice A' k c'] 28∧Below w.heap.size w W∧LAt W (fun q=>w.heap.size≤q∧q<W.heap.size) deep fl (.slice A' k c'):=by
    intro W hW
    subst hW
    have hkk:∀ q,q≠w.heap.size→q≠w.heap.size+1→((wr.setCell ⟨w.heap.size,8,none⟩ (.slice A' k c')).setRow (w.heap.size+1) #[.int .i64 kind,.bool b,.bool neg,.string dg1,.int .i64 ex,.int .u64 u,.int .i64 wd,.string s1,.slice A' k c']).heap[q]? = wr.heap[q]? := fun q h1 h2=>(setRow_other _ _ _ _ h2).trans (HK3.out q h1)
    refine ⟨setRow_heap _ _ _ _ _ _ HS2.out,?_,?_⟩
    ·refine HB3.out.trans ⟨rfl,rfl,rfl,by simp,fun q hq=>setRow_other _ _ _ _ (by omega)⟩
    ·rw [HLI.out]
     rw [setRow_size,HZ3.out]
     have hlenk:((l.take k).map (cutT (deep - 1))).length=k:=by
      rw [List.length_map,List.length_take]
      have:=HN.out
      omega
     by_cases h0:deep=0
     ·have hk0:k=0:=by omega
      subst hk0
      rw [h0]
      exact LAt.nil _ _ _ _ _
     ·have hd:deep=(deep - 1)+1:=by omega
      rw [hd]
      have hne:∀ q,(Value.slice A' k c').ownBlock=some q→q≠w.heap.size∧q≠w.heap.size+1:=fun q e=>⟨fun h=>hv1 (by rw [← h]; exact e),fun h=>hv2 (by rw [← h]; exact e)⟩
      have hownW:=ownsRow_keep (W':=(wr.setCell ⟨w.heap.size,8,none⟩ (.slice A' k c')).setRow (w.heap.size+1) #[.int .i64 kind,.bool b,.bool neg,.string dg1,.int .i64 ex,.int .u64 u,.int .i64 wd,.string s1,.slice A' k c']) HOWN.out (fun q e=>hkk q (hne q e).1 (hne q e).2)
      have hrow2:RowT ((wr.setCell ⟨w.heap.size,8,none⟩ (.slice A' k c')).setRow (w.heap.size+1) #[.int .i64 kind,.bool b,.bool neg,.string dg1,.int .i64 ex,.int .u64 u,.int .i64 wd,.string s1,.slice A' k c']) (fun q=>w.heap.size≤q∧q<wr.heap.size) (deep - 1) ((l.take k).map (cutT (deep - 1))) xs:=by
       refine (HROW.out.mono (S':=fun q=>w.heap.size+2≤q∧q<wr.heap.size) ?_).keep ?_ |>.mono ?_
       ·exact fun q hq=>⟨hq.1,hq.2.1⟩
       ·exact fun q hq=>hkk q (by omega) (by omega)
       ·exact fun q hq=>⟨by omega,hq.2⟩
      rw [show deep - 1+1 - 1=deep - 1 by omega]
      exact hrow2.list hownW hlenk.symm (by omega) (fun q hq=>hq) (fun a e=>by
       subst e
       exact ⟨(HOWN.out.lt a.block rfl).1,(HOWN.out.lt a.block rfl).2⟩)
   have HFIN:=Lib.hid fin
   clear fin
   by_cases c1:k<n
   ·have y1:(k:Int)<n:=by omega
    by_cases c2:k<40
    ·have hd0:deep=0:=by omega
     have y2:(k:Int)<40:=by omega
     have y3:dp=1:=by omega
     subst y3
     clear hd1 hd0 c1 c2 hgo
     go_wp2_with (first | (refine wpList_load_row rfl 28 (.tmp 2) rfl w.heap.size rfl 28 _ (0,0) _ HS1.out Tryz.underlying28 rfl (by kernel_rfl) ?_) | (refine wpList_store_row rfl 28 (.tmp 4) (.tmp 54) rfl (w.heap.size+1) #[.int .i64 kind,.bool b,.bool neg,.string dg1,.int .i64 ex,.int .u64 u,.int .i64 wd,.string s1,.slice A' k c'] rfl rfl 28 _ HS2.out (by kernel_rfl) rfl (by simp [Value.oneCell']) ?_))
     obtain ⟨g1,g2,g3⟩:=HFIN.out _ rfl
     refine bodyPost_ret (v:=.agg #[.int .i64 kind,.bool b,.bool neg,.string dg1,.int .i64 ex,.int .u64 u,.int .i64 wd,.string s1,.slice A' k c']) (results_cell_row rfl _ _ (w.heap.size+1) 28 _ (0,0) _ rfl g1 Tryz.underlying28 rfl (by kernel_rfl)) rfl ?_
     exact ⟨⟨_,rfl,g3⟩,g2⟩
    ·have y2:¬ (k:Int)<40:=by omega
     clear hd1 c1 c2 hgo
     go_wp2_with (first | (refine wpList_load_row rfl 28 (.tmp 2) rfl w.heap.size rfl 28 _ (0,0) _ HS1.out Tryz.underlying28 rfl (by kernel_rfl) ?_) | (refine wpList_store_row rfl 28 (.tmp 4) (.tmp 54) rfl (w.heap.size+1) #[.int .i64 kind,.bool b,.bool neg,.string dg1,.int .i64 ex,.int .u64 u,.int .i64 wd,.string s1,.slice A' k c'] rfl rfl 28 _ HS2.out (by kernel_rfl) rfl (by simp [Value.oneCell']) ?_))
     obtain ⟨g1,g2,g3⟩:=HFIN.out _ rfl
     refine bodyPost_ret (v:=.agg #[.int .i64 kind,.bool b,.bool neg,.string dg1,.int .i64 ex,.int .u64 u,.int .i64 wd,.string s1,.slice A' k c']) (results_cell_row rfl _ _ (w.heap.size+1) 28 _ (0,0) _ rfl g1 Tryz.underlying28 rfl (by kernel_rfl)) rfl ?_
     exact ⟨⟨_,rfl,g3⟩,g2⟩
   ·have y1:¬ (k:Int)<n:=by omega
    clear hd1 c1 hgo
    go_wp2_with (first | (refine wpList_load_row rfl 28 (.tmp 2) rfl w.heap.size rfl 28 _ (0,0) _ HS1.out Tryz.underlying28 rfl (by kernel_rfl) ?_) | (refine wpList_store_row rfl 28 (.tmp 4) (.tmp 54) rfl (w.heap.size+1) #[.int .i64 kind,.bool b,.bool neg,.string dg1,.int .i64 ex,.int .u64 u,.int .i64 wd,.string s1,.slice A' k c'] rfl rfl 28 _ HS2.out (by kernel_rfl) rfl (by simp [Value.oneCell']) ?_))
    obtain ⟨g1,g2,g3⟩:=HFIN.out _ rfl
    refine bodyPost_ret (v:=.agg #[.int .i64 kind,.bool b,.bool neg,.string dg1,.int .i64 ex,.int .u64 u,.int .i64 wd,.string s1,.slice A' k c']) (results_cell_row rfl _ _ (w.heap.size+1) 28 _ (0,0) _ rfl g1 Tryz.underlying28 rfl (by kernel_rfl)) rfl ?_
    exact ⟨⟨_,rfl,g3⟩,g2⟩
end Go.Proofs.YtonihophanmaaaaGreatDoor
