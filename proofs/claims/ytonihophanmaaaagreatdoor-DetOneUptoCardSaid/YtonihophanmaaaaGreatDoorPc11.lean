/- The texts GateG, GateH, FloA, FloB, put together. -/
import Derived.Test.YtonihophanmaaaaGreatDoorPc10
import Derived.Test.YtonihophanmaaaaGreatDoorPc03
import Derived.Lib.ParseIntBCases
import Derived.Lib.AtoiErrMem
import Derived.Test.YtonihophanmaaaaGreatDoorPc01
import Derived.RegionTactic
import Derived.Test.YtonihophanmaaaaGreatDoorPc07
import Derived.Laws.BitsLemmas
import Derived.IntWalk
import Derived.BigRegion
import Derived.BigQuiet
import Derived.Deep.QuietTactic
import Derived.Laws.Bits64b
set_option maxHeartbeats 4000000
set_option maxRecDepth 100000
namespace Go.Proofs.YtonihophanmaaaaGreatDoor
open Go.RowKit Go.Shelf
structure GW (w:World) (aT aF:Addr):Prop where
 hT:w.cell? ⟨0,0,none⟩=some (.iface 321 (.pointer (some aT)))
 hF:w.cell? ⟨1,0,none⟩=some (.iface 321 (.pointer (some aF)))
 ne:aT≠aF
 bT:∃ c t,w.heap[aT.block]? = some (.cells c t (0,0))
 bF:∃ c t,w.heap[aF.block]? = some (.cells c t (0,0))
 tabs:Lib.Utf8Tabs 3 4 w
 rng:∃ tp p,w.var? Tryz.prog "strconv.ErrRange" = some #[.iface tp p]
theorem GW.below {w b:World} {aT aF:Addr} (h:GW w aT aF) (a:Below w.heap.size w b):GW b aT aF where
 hT:=cell_below a h.hT
 hF:=cell_below a h.hF
 ne:=h.ne
 bT:=let ⟨c,t,e⟩:=h.bT; ⟨c,t,yy a e⟩
 bF:=let ⟨c,t,e⟩:=h.bF; ⟨c,t,yy a e⟩
 tabs:=Utf8Tabs_below h.tabs a
 rng:=let ⟨d,p,e⟩:=h.rng; ⟨d,p,zeH e a⟩
def zdm (s:ByteArray):Option Nat:=if qR s=true∧zK 0 s.data.toList<18446744073709551616 then some (zK 0 s.data.toList) else none
def zj7:Option Nat→Value
 | some n=>.tuple #[.int .u64 (n:Nat),.bool true]
 | none=>.tuple #[.int .u64 0,.bool false]
theorem yI {s:ByteArray} (h:qR s=true):1≤s.size∧s.size≤400∧(∀ c∈s.data.toList,zy c=true):=by
 unfold qR at h
 rw [Bool.and_eq_true,Bool.and_eq_true,Bool.and_eq_true,decide_eq_true_iff,decide_eq_true_iff]at h
 exact ⟨h.1,h.2.1,fun c hc=>List.all_eq_true.1 h.2.2.2 c hc⟩
theorem zns {aT aF:Addr} (s:ByteArray) (B:s.size≤1000000000000) (w:World) (h:GW w aT aF) :
  Calls Tryz.prog 132 #[.string s] w fun e w'=>e=.returned (zj7 (zdm s))∧Below w.heap.size w w':=by
 obtain ⟨ans,a⟩:∃ ans,zdm s=ans:=⟨_,rfl⟩
 rw [a]
 unfold zdm at a
 have f:=Lib.hid (zbu s (by omega) w)
 cases hn:qR s with
 | false =>
  rw [hn]at f a
  rw [if_neg (fun q=>absurd q.1 (by decide))]at a
  subst a
  clear hn h
  go_enter Tryz.func132,Tryz.ntmps132
  go_wp2_with fail
  refine f.out.mono ?_
  rintro e u ⟨rfl,c⟩
  go_wp2_with fail
  go_ret2
  exact ⟨rfl,c⟩
 | true =>
  obtain ⟨z,A,l⟩:=yI hn
  have i:s.data.toList≠[]:=fun e=>by
   have:s.data.toList.length=s.size:=by simp
   rw [e]at this
   simp at this
   omega
  have d:Lib.parseUintB 64 s.data.toList=if zK 0 s.data.toList<18446744073709551616 then .ok (zK 0 s.data.toList) else .range:=by
   rw [Lib.parseUintB_64]
   unfold Lib.parseMag
   rw [if_neg i,zbx _ 0 (by decide) l]
  rw [hn]at f a
  by_cases b:zK 0 s.data.toList<18446744073709551616
  ·rw [if_pos ⟨rfl,b⟩]at a
   rw [if_pos b]at d
   subst a
   have j:=Lib.hid (fun w=>Tryz.strconv_ParseUint_10_at64_ok s (by omega) _ d w)
   obtain ⟨v,r⟩:∃ v,zK 0 s.data.toList=v:=⟨_,rfl⟩
   rw [r]at j ⊢
   clear hn h d b r l i
   go_enter Tryz.func132,Tryz.ntmps132
   go_wp2_with fail
   refine f.out.mono ?_
   rintro e u ⟨rfl,c⟩
   go_wp2_with fail
   refine (j.out _).mono ?_
   rintro e w2 ⟨rfl,k⟩
   have g:Below w.heap.size w w2:=by
    rcases k with rfl|rfl
    ·exact c
    ·exact c.trans ((Lib.bytesWorld_below _ _ _).mono c.size)
   clear k
   go_wp2_with fail
   go_ret2
   exact ⟨rfl,g⟩
  ·rw [if_neg (fun q=>b q.2)]at a
   rw [if_neg b]at d
   subst a
   obtain ⟨t,p,o⟩:=h.rng
   have j:=Lib.hid (fun w (y:w.var? Tryz.prog "strconv.ErrRange" = some #[.iface t p])=>Tryz.strconv_ParseUint_10_at64_range_var s (by omega) d t p w y)
   have x:=Lib.hid o
   clear hn h d b l i o
   go_enter Tryz.func132,Tryz.ntmps132
   go_wp2_with fail
   refine f.out.mono ?_
   rintro e u ⟨rfl,c⟩
   have m:=Lib.hid (zeH x.out c)
   go_wp2_with fail
   refine (j.out _ m.out).mono ?_
   rintro e w2 ⟨N,rfl,_,_,g⟩
   have n:=c.trans (g.mono c.size)
   go_wp2_with fail
   go_ret2
   exact ⟨rfl,n⟩
def zbK:Option (Bool×Nat)→Value
 | some (n,k)=>.tuple #[.bool n,.int .u64 (k:Nat),.bool true]
 | none=>.tuple #[.bool false,.int .u64 0,.bool false]
theorem zbA:∀ c:Nat,Lib.repeatL [48] c=List.replicate c 48
 | 0=>rfl
 | c+1=>by
  show 48::Lib.repeatL [48] c=_
  rw [zbA c]
  rfl
theorem zc1 (l:List UInt8):∀ c:Nat,zK 0 (l++List.replicate c 48)=zK 0 l*10 ^ c
 | 0=>by simp
 | c+1=>by
  rw [List.replicate_succ',← List.append_assoc,kx,zc1 l c]
  have:(48:UInt8).toNat=48:=rfl
  rw [this,Nat.pow_succ,← Nat.mul_assoc]
  omega
theorem zkB {neg:Bool} {dg s:ByteArray} {ex:Int} (h:qo neg dg ex=true) (m:0≤ex) (n:ex≤20) (a:s.data.toList=dg.data.toList++List.replicate ex.toNat 48) :
  qR s=true∧zK 0 s.data.toList=qX dg ex:=by
 have k:zK 0 s.data.toList=qX dg ex:=by
  rw [a,zc1]
  rfl
 refine ⟨?_,k⟩
 have j:=yg h
 unfold qo at h
 rw [Bool.and_eq_true,Bool.and_eq_true,decide_eq_true_iff]at h
 obtain ⟨hn,i,_⟩:=h
 obtain ⟨o,p,r⟩:=yI hn
 have l:s.size=dg.size+ex.toNat:=by
  have e:s.data.toList.length=s.size:=by simp
  have g:dg.data.toList.length=dg.size:=by simp
  rw [a,List.length_append,g,List.length_replicate]at e
  exact e.symm
 rcases j with ⟨d,b,_⟩ | ⟨d,b,f,_⟩
 ·have:s.data.toList=dg.data.toList:=by
   rw [a,b]
   simp
  rw [zae this]
  exact hn
 ·unfold qR
  rw [decide_eq_true (by omega:1≤s.size),decide_eq_true (by omega:s.size≤400),Bool.true_and,Bool.true_and,Bool.and_eq_true]
  constructor
  ·have:s.data.toList.head? = dg.data.toList.head? := by
    rw [a]
    exact yF d
   rw [this,decide_eq_false f,Bool.and_false]
   rfl
  ·rw [List.all_eq_true]
   intro c hc
   rw [a]at hc
   rcases List.mem_append.1 hc with q | q
   ·exact b c q
   ·rw [(List.mem_replicate.1 q).2]
    decide
theorem zgO (a b:ByteArray):(a++b).data.toList=a.data.toList++b.data.toList:=by
 rw [ByteArray.data_append,Array.toList_append]
theorem yf {aT aF:Addr} (neg:Bool) (dg:ByteArray) (ex:Int) (hs:dg.size≤9223372036854775807) (w:World) (h:GW w aT aF) :
  Calls Tryz.prog 90 #[.agg #[.bool neg,.string dg,.int .i64 ex]] w fun e w'=>e=.returned (zbK (jv neg dg ex))∧Below w.heap.size w w':=by
 obtain ⟨ans,a⟩:∃ ans,jv neg dg ex=ans:=⟨_,rfl⟩
 rw [a]
 unfold jv at a
 have j:=Lib.hid (za9 neg dg ex hs)
 have c:Below w.heap.size w (w.alloc (.cells #[.bool neg,.string dg,.int .i64 ex] 24)):=(Below.refl _ _).alloc (Nat.le_refl _) _
 have d:=Blk.new w #[.bool neg,.string dg,.int .i64 ex] 24
 have c0:=d.cell 0
 have c1:=d.cell 1
 have c2:=d.cell 2
 cases hd:qo neg dg ex with
 | false =>
  rw [hd]at j a
  rw [if_neg (fun q=>absurd q.1 (by decide))]at a
  subst a
  clear hd h
  go_enter Tryz.func90,Tryz.ntmps90
  go_wp2_with fail
  refine (j.out _).mono ?_
  rintro e A ⟨rfl,f⟩
  have g:=c.trans (f.mono c.size)
  clear f c
  go_wp2_with fail
  refine bodyPost_ret (v:=.tuple #[.bool false,.int .u64 0,.bool false]) (by simp [results,Tryz.results90,go_sem]) rfl ⟨rfl,g⟩
 | true =>
  by_cases y:0≤ex∧ex≤20
  ·obtain ⟨B,C⟩:=y
   have l:=hd
   rw [hd]at j a
   have P:dg.size≤100:=by
    unfold qo at l
    rw [Bool.and_eq_true,Bool.and_eq_true,decide_eq_true_iff]at l
    exact l.2.1
   obtain ⟨r,Q⟩:∃ r:ByteArray,(⟨(Lib.repeatL [48] ex.toNat).toArray⟩:ByteArray)=r:=⟨_,rfl⟩
   have p:r.data.toList=List.replicate ex.toNat 48:=by rw [← Q,← zbA]
   have y4:dg.size+r.size≤1000000:=by
    have Z:r.data.toList.length=r.size:=by simp
    rw [p,List.length_replicate]at Z
    omega
   have y5:¬ 9223372036854775807<dg.size+r.size:=by omega
   obtain ⟨s,t⟩:∃ s,dg++r=s:=⟨_,rfl⟩
   have H:s.data.toList=dg.data.toList++List.replicate ex.toNat 48:=by rw [← t,zgO,p]
   obtain ⟨O,X⟩:=zkB l B C H
   have Y:s.size≤400:=(yI O).2.1
   have G:zdm s=if qX dg ex<18446744073709551616 then some (qX dg ex) else none:=by
    unfold zdm
    rw [O,X]
    by_cases q:qX dg ex<18446744073709551616
    ·rw [if_pos ⟨rfl,q⟩,if_pos q]
    ·rw [if_neg (fun z=>q z.2),if_neg q]
   have F:((ex.toNat:Nat):Int)=ex:=by omega
   have S:Hid (∀ w,Calls Tryz.prog 133 #[.string ⟨#[48]⟩,.int .i64 ex] w fun e w'=>e=.returned (.string r)∧Below w.heap.size w w'):=Lib.hid (fun w=>by
    have:=Tryz.strings_Repeat ⟨#[48]⟩ ex.toNat w (by omega) (by show 1*ex.toNat≤_; omega)
    rw [F]at this
    rw [← Q]
    exact this)
   have m:=Lib.hid (fun w (h:GW w aT aF)=>zns s (by omega) w h)
   rw [G]at m
   obtain ⟨wn,K⟩:∃ wn,qX dg ex=wn:=⟨_,rfl⟩
   rw [K]at m a
   obtain ⟨x,u,I,J⟩:∃ (x:Int) (u:Bool),zj7 (if wn<18446744073709551616 then some wn else none)=.tuple #[.int .u64 x,.bool u]∧zbK ans=.tuple #[.bool (u && neg),.int .u64 x,.bool u]:=by
    rw [← a]
    by_cases q:wn<18446744073709551616
    ·rw [if_pos q,if_pos ⟨rfl,B,C,q⟩]
     exact ⟨wn,true,rfl,rfl⟩
    ·rw [if_neg q,if_neg (fun z=>q z.2.2.2)]
     exact ⟨0,false,rfl,rfl⟩
   rw [I]at m
   rw [J]
   have R:=Lib.hid (h.below c)
   have T:=Lib.hid t
   clear hd l a h H p Q O X G F K t Y P I J
   go_enter Tryz.func90,Tryz.ntmps90
   go_wp2_with fail
   refine (j.out _).mono ?_
   rintro e A ⟨rfl,f⟩
   have g:=c.trans (f.mono c.size)
   have b:=d.below f d.lt
   have D:=Lib.hid (R.out.below f)
   have L:=b.cell 0
   have M:=b.cell 1
   have N:=b.cell 2
   clear f c d c0 c1 c2 R j
   go_wp2_with fail
   go_region_held3 (fun w'=>w'.cell? ⟨w.heap.size,0,none⟩=some (.bool neg)∧w'.cell? ⟨w.heap.size,1,none⟩=some (.string dg)∧w'.cell? ⟨w.heap.size,2,none⟩=some (.int .i64 ex)) (go_keep)
    (first | (go_at_call 133; refine (S.out _).mono ?_; rintro e w4 ⟨rfl,k⟩; have i:=(Blk.drew b).below k (Blk.drew b).lt; have U:=i.cell 0; have V:=i.cell 1; have W:=i.cell 2) | (go_at_call 132; rw [T.out]; refine (m.out _ ((D.out.below (Go.below_drewN (Below.refl _ A) 1)).below k)).mono ?_; rintro e w5 ⟨rfl,n⟩; have o:=i.below n i.lt; have ab:=o.cell 0; have ac:=o.cell 1; have ad:=o.cell 2))
   have E:Below w.heap.size w w5:=(Go.below_drewN g 1).trans ((k.trans (n.mono k.size)).mono g.size)
   clear g k n b i U V W L M N m S D
   cases u with
   | true =>
    go_wp2_with fail
    refine bodyPost_ret (v:=.tuple #[.bool neg,.int .u64 x,.bool true]) (by simp [results,Tryz.results90,go_sem]) rfl ⟨rfl,E⟩
   | false =>
    go_wp2_with fail
    refine bodyPost_ret (v:=.tuple #[.bool false,.int .u64 x,.bool false]) (by simp [results,Tryz.results90,go_sem]) rfl ⟨rfl,E⟩
  ·rw [hd]at j a
   rw [if_neg (fun q=>y ⟨q.2.1,q.2.2.1⟩)]at a
   subst a
   clear hd h
   by_cases B:0≤ex
   ·have C:20<ex:=by omega
    clear y
    go_enter Tryz.func90,Tryz.ntmps90
    go_wp2_with fail
    refine (j.out _).mono ?_
    rintro e A ⟨rfl,f⟩
    have g:=c.trans (f.mono c.size)
    have b:=d.below f d.lt
    have L:=b.cell 0
    have M:=b.cell 1
    have N:=b.cell 2
    clear f c d c0 c1 c2
    go_wp2_with fail
    refine bodyPost_ret (v:=.tuple #[.bool false,.int .u64 0,.bool false]) (by simp [results,Tryz.results90,go_sem]) rfl ⟨rfl,g⟩
   ·have C:ex<0:=by omega
    clear y B
    go_enter Tryz.func90,Tryz.ntmps90
    go_wp2_with fail
    refine (j.out _).mono ?_
    rintro e A ⟨rfl,f⟩
    have g:=c.trans (f.mono c.size)
    have b:=d.below f d.lt
    have L:=b.cell 0
    have M:=b.cell 1
    have N:=b.cell 2
    clear f c d c0 c1 c2
    go_wp2_with fail
    refine bodyPost_ret (v:=.tuple #[.bool false,.int .u64 0,.bool false]) (by simp [results,Tryz.results90,go_sem]) rfl ⟨rfl,g⟩
end Go.Proofs.YtonihophanmaaaaGreatDoor
namespace Go.Proofs.YtonihophanmaaaaGreatDoor
open Go.RowKit Go.Shelf
abbrev Fm:=Int×Int×Int
def qA:List Fm:=[(10,5,16),(23,8,32),(52,11,64)]
abbrev fmV (f:Fm):Value:=.agg #[.int .i64 f.1,.int .i64 f.2.1,.int .i64 f.2.2]
theorem zb0 (w:World) :
  Calls Tryz.prog 177 #[] w fun e w'=>e=.returned (.agg #[.int .i64 10,.int .i64 5,.int .i64 16,.int .i64 23,.int .i64 8,.int .i64 32,.int .i64 52,.int .i64 11,.int .i64 64])∧Below w.heap.size w w':=by
 go_enter Tryz.func177,Tryz.ntmps177
 go_wp2
 exact bodyPost_ret (v:=.agg #[.int .i64 10,.int .i64 5,.int .i64 16,.int .i64 23,.int .i64 8,.int .i64 32,.int .i64 52,.int .i64 11,.int .i64 64]) (by simp [results,Tryz.results177,go_sem]) rfl ⟨rfl,(Below.refl _ _).alloc (Nat.le_refl _) _⟩
theorem zbj (w:World) :
  Calls Tryz.prog 131 #[] w fun e w'=>e=.returned (.func (.func 179) #[] #[])∧w=w':=by
 go_enter Tryz.func131,Tryz.ntmps131
 go_wp2
 go_ret
 exact ⟨rfl,rfl⟩
theorem zn7 (w:World):(Instr.index 206 (.agg #[.int .i64 10,.int .i64 5,.int .i64 16,.int .i64 23,.int .i64 8,.int .i64 32,.int .i64 52,.int .i64 11,.int .i64 64]) (.int .i64 0)).run Tryz.prog w=.ok (.agg #[.int .i64 10,.int .i64 5,.int .i64 16]) w:=by kernel_rfl
theorem zn8 (w:World):(Instr.index 206 (.agg #[.int .i64 10,.int .i64 5,.int .i64 16,.int .i64 23,.int .i64 8,.int .i64 32,.int .i64 52,.int .i64 11,.int .i64 64]) (.int .i64 1)).run Tryz.prog w=.ok (.agg #[.int .i64 23,.int .i64 8,.int .i64 32]) w:=by kernel_rfl
theorem znk (w:World):(Instr.index 206 (.agg #[.int .i64 10,.int .i64 5,.int .i64 16,.int .i64 23,.int .i64 8,.int .i64 32,.int .i64 52,.int .i64 11,.int .i64 64]) (.int .i64 2)).run Tryz.prog w=.ok (.agg #[.int .i64 52,.int .i64 11,.int .i64 64]) w:=by kernel_rfl
theorem kQ (w:World) :
  Calls Tryz.prog 125 #[] w fun e w'=>e=.returned (.agg #[.int .i64 52,.int .i64 11,.int .i64 64])∧Below w.heap.size w w':=by
 have h:=znk
 have f:=Lib.hid zb0
 go_enter Tryz.func125,Tryz.ntmps125
 go_wp2_with fail
 refine (f.out _).mono ?_
 rintro e w1 ⟨rfl,c⟩
 have a:=(Blk.new w #[.int .i64 0,.int .i64 0,.int .i64 0] 170).below c (by simp)
 have g:=a.frozen
 have i:=a.cell 0
 have j:=a.cell 1
 have k:=a.cell 2
 have d:Below w.heap.size w w1:=((Below.refl w.heap.size w).alloc (Nat.le_refl _) (.cells #[.int .i64 0,.int .i64 0,.int .i64 0] 170)).trans (c.mono (by simp))
 go_wp2_with fail
 have b:=((a.set 0 (.int .i64 52)).set 1 (.int .i64 11)).set 2 (.int .i64 64)
 have c0:=b.cell 0
 have c1:=b.cell 1
 have c2:=b.cell 2
 exact bodyPost_ret (v:=.agg #[.int .i64 52,.int .i64 11,.int .i64 64]) (by simp [results,Tryz.results125,go_sem,c0,c1,c2]) rfl ⟨rfl,((d.setCell (by simp) _).setCell (by simp) _).setCell (by simp) _⟩
section
attribute [local go_sem] Oper.semAt_some qi jA
theorem zeQ (m l G:Nat) (J t:List Fm→World→Prop) (y:∀ s (A B:World),J s A→A.grownBy B none→J s B)
  (r:∀ b x W,J b W→b.length<3→YieldAt Fence.wide (m - 1) Tryz.prog l #[fmV x] W fun e g =>
   (e=.returned (.bool true)∧J (b++[x]) g∧Below G W g)∨(e=.returned (.bool false)∧t (b++[x]) g))
  (W:World) (F:J [] W) :
  CallsIn Fence.wide m Tryz.prog 179 #[.func (.yield l) #[] #[]] W fun e g=>(∃ v,e=.returned v) ∧
   ((∃ E,E=qA∧J E g)∨(∃ b,b <+: qA∧t b g)):=by
 have H:=zn7
 have I:=zn8
 have K:=znk
 refine callsIn_of_wp Tryz.func179 rfl trivial ?_ rfl
 simp only [Tryz.ntmps179,List.size_toArray,List.length_cons,List.length_nil,Nat.reduceAdd,Nat.reduceSub,Array.replicate_succ,Array.replicate_zero,List.push_toArray,List.append_toArray,List.nil_append,List.cons_append]
 gi_wp2_with (gi_at_call 177; refine (callsIn_wide.2 (zb0 _)).mono ?_; rintro e L ⟨rfl,f⟩)
 gi_loopw [5] (fun i wr=>∃ k:Nat,k≤3∧i=.int .i64 k∧J (qA.take k) wr) (fun i _=>3 - (intOf i).toNat)
 case atStart=>exact ⟨0,by omega,rfl,y _ _ _ F ⟨f.os,f.tape,f.output,f.size,fun k C _=>f.block k C⟩⟩
 case round =>
  obtain ⟨k,C,rfl,z⟩:=hrel
  have n:∀ o,J (qA.take k) (wr.alloc o):=fun o=>y _ _ _ z (World.grownBy_alloc wr o none)
  obtain rfl|rfl|rfl|rfl:k=0∨k=1∨k=2∨k=3:=by omega
  ·obtain ⟨w,p,c,h,D,j⟩:=r (qA.take 0) (10,5,16) _ (n (.cells #[.int .i64 10,.int .i64 5,.int .i64 16] 170)) (by decide)
   gi_wp2
   refine j.mono ?_
   rintro e u (⟨rfl,d,q⟩ | ⟨rfl,a⟩)
   ·gi_wp2
    go_roundw
    case rel=>exact ⟨1,by omega,rfl,d⟩
    case measure=>simp [intOf]
   ·gi_wp2
    refine bodyPost_ret (results_none rfl _ _ _) rfl ?_
    exact ⟨⟨_,rfl⟩,.inr ⟨_,⟨[(23,8,32),(52,11,64)],rfl⟩,a⟩⟩
  ·obtain ⟨w,p,c,h,D,j⟩:=r (qA.take 1) (23,8,32) _ (n (.cells #[.int .i64 23,.int .i64 8,.int .i64 32] 170)) (by decide)
   gi_wp2
   refine j.mono ?_
   rintro e u (⟨rfl,d,q⟩ | ⟨rfl,a⟩)
   ·gi_wp2
    go_roundw
    case rel=>exact ⟨2,by omega,rfl,d⟩
    case measure=>simp [intOf]
   ·gi_wp2
    refine bodyPost_ret (results_none rfl _ _ _) rfl ?_
    exact ⟨⟨_,rfl⟩,.inr ⟨_,⟨[(52,11,64)],rfl⟩,a⟩⟩
  ·obtain ⟨w,p,c,h,D,j⟩:=r (qA.take 2) (52,11,64) _ (n (.cells #[.int .i64 52,.int .i64 11,.int .i64 64] 170)) (by decide)
   gi_wp2
   refine j.mono ?_
   rintro e u (⟨rfl,d,q⟩ | ⟨rfl,a⟩)
   ·gi_wp2
    go_roundw
    case rel=>exact ⟨3,by omega,rfl,d⟩
    case measure=>simp [intOf]
   ·gi_wp2
    refine bodyPost_ret (results_none rfl _ _ _) rfl ?_
    exact ⟨⟨_,rfl⟩,.inr ⟨_,⟨[],rfl⟩,a⟩⟩
  ·gi_wp2
   go_end0
   exact ⟨⟨_,rfl⟩,.inl ⟨_,rfl,z⟩⟩
theorem vS (m a:Nat) (w:World) :
  SeqStopsK Fence.wide m Tryz.prog 179 #[] (fun x:Fm=>#[fmV x]) (Below a) (fun j=>j=qA) (fun b=>b <+: qA) 3 w:=fun l J c W _ f _ g d =>
 zeQ m l a J c (fun s A B i h=>f s A B none i h (fun r e=>by cases e)) g W d
def ofW (wd:Int):Fm×Bool:=if wd=16 then ((10,5,16),true) else if wd=32 then ((23,8,32),true) else if wd=64 then ((52,11,64),true) else ((0,0,0),false)
theorem zlA {wd:Int} (h:∀ f∈qA,f.2.2≠wd):ofW wd=((0,0,0),false):=by
 have a:=h (10,5,16) (by simp [qA])
 have b:=h (23,8,32) (by simp [qA])
 have c:=h (52,11,64) (by simp [qA])
 unfold ofW
 rw [if_neg (fun e=>a e.symm),if_neg (fun e=>b e.symm),if_neg (fun e=>c e.symm)]
theorem zlB {f:Fm} (h:f∈qA):ofW f.2.2=(f,true):=by
 simp [qA]at h
 rcases h with rfl|rfl|rfl <;> rfl
theorem kB (wd:Int) (w:World) :
  Calls Tryz.prog 123 #[.int .i64 wd] w fun e w'=>e=.returned (.tuple #[fmV (ofW wd).1,.bool (ofW wd).2])∧Below w.heap.size w w':=by
 refine jo Tryz.func123 rfl ?_
 simp only [Tryz.ntmps123,List.size_toArray,List.length_cons,List.length_nil,Nat.reduceAdd,Nat.reduceSub,Array.replicate_succ,Array.replicate_zero,List.push_toArray,List.append_toArray,List.nil_append,List.cons_append]
 have U:=Lib.hid zbj
 go_wp2_with fail
 go_step3
 go_wp2_with fail
 go_step3
 go_wp2_with fail
 refine (U.out _).mono ?_
 rintro e w' ⟨rfl,rfl⟩
 go_wp2_with fail
 clear U
 have A:∀ W0,W0=(((w.alloc (Obj.cells #[Value.int IntKind.i64 wd] 3)).alloc (Obj.cells #[Value.int IntKind.i64 0,Value.int IntKind.i64 0,Value.int IntKind.i64 0] 170)).alloc (Obj.cells #[Value.int IntKind.i64 0,Value.int IntKind.i64 0,Value.int IntKind.i64 0] 170)).alloc (Obj.cells #[Value.bool false] 4)→Blk W0 w.heap.size #[.int .i64 wd] 3∧Blk W0 (w.heap.size+1) #[Value.int IntKind.i64 0,Value.int IntKind.i64 0,Value.int IntKind.i64 0] 170∧Blk W0 (w.heap.size+1+1) #[Value.int IntKind.i64 0,Value.int IntKind.i64 0,Value.int IntKind.i64 0] 170∧Blk W0 (w.heap.size+1+1+1) #[.bool false] 4∧Below w.heap.size w W0∧W0.heap.size=w.heap.size+4:=by
  rintro W0 rfl
  refine ⟨(((Blk.new w #[.int .i64 wd] 3).alloc _).alloc _).alloc _,?_,?_,?_,((((Below.refl _ w).alloc (Nat.le_refl _) _).alloc (by simp) _).alloc (by simp; omega) _).alloc (by simp; omega) _,by simp⟩
  ·have:=((Blk.new (w.alloc (Obj.cells #[Value.int IntKind.i64 wd] 3)) #[Value.int IntKind.i64 0,Value.int IntKind.i64 0,Value.int IntKind.i64 0] 170).alloc (Obj.cells #[Value.int IntKind.i64 0,Value.int IntKind.i64 0,Value.int IntKind.i64 0] 170)).alloc (Obj.cells #[Value.bool false] 4)
   simpa only [World.size_alloc] using this
  ·have:=(Blk.new ((w.alloc (Obj.cells #[Value.int IntKind.i64 wd] 3)).alloc (Obj.cells #[Value.int IntKind.i64 0,Value.int IntKind.i64 0,Value.int IntKind.i64 0] 170)) #[Value.int IntKind.i64 0,Value.int IntKind.i64 0,Value.int IntKind.i64 0] 170).alloc (Obj.cells #[Value.bool false] 4)
   simpa only [World.size_alloc] using this
  ·have:=Blk.new (((w.alloc (Obj.cells #[Value.int IntKind.i64 wd] 3)).alloc (Obj.cells #[Value.int IntKind.i64 0,Value.int IntKind.i64 0,Value.int IntKind.i64 0] 170)).alloc (Obj.cells #[Value.int IntKind.i64 0,Value.int IntKind.i64 0,Value.int IntKind.i64 0] 170)) #[.bool false] 4
   simpa only [World.size_alloc] using this
 obtain ⟨W0,z⟩:∃ W0,(((w.alloc (Obj.cells #[Value.int IntKind.i64 wd] 3)).alloc (Obj.cells #[Value.int IntKind.i64 0,Value.int IntKind.i64 0,Value.int IntKind.i64 0] 170)).alloc (Obj.cells #[Value.int IntKind.i64 0,Value.int IntKind.i64 0,Value.int IntKind.i64 0] 170)).alloc (Obj.cells #[Value.bool false] 4)=W0:=⟨_,rfl⟩
 obtain ⟨b0,b1,b2,b3,I,am⟩:=A W0 z.symm
 rw [z]
 clear z A
 refine wZ (gf:=179) (lb:=#[]) rfl (enters_of Tryz.func179 (by kernel_rfl) rfl)
  (vS 8 (w.heap.size+4) W0) (by omega) (Below.refl _ _) (fun _=>rfl)
  (fun n W=>((∀ f∈n,f.2.2≠wd)∧Blk W w.heap.size #[.int .i64 wd] 3∧Blk W (w.heap.size+1) #[Value.int IntKind.i64 0,Value.int IntKind.i64 0,Value.int IntKind.i64 0] 170∧Blk W (w.heap.size+1+1) #[Value.int IntKind.i64 0,Value.int IntKind.i64 0,Value.int IntKind.i64 0] 170∧Blk W (w.heap.size+1+1+1) #[.bool false] 4)∧Below w.heap.size W0 W)
  (fun c n W=>(c=.exit 0∧∃ x:Fm,x∈n∧x.2.2=wd∧Blk W (w.heap.size+1) #[Value.int IntKind.i64 0,Value.int IntKind.i64 0,Value.int IntKind.i64 0] 170∧Blk W (w.heap.size+1+1) #[.int .i64 x.1,.int .i64 x.2.1,.int .i64 x.2.2] 170∧Blk W (w.heap.size+1+1+1) #[.bool true] 4)∧Below w.heap.size W0 W)
  ?hI ?hIx ⟨⟨fun f h=>absurd h (by simp),b0,b1,b2,b3⟩,Below.refl _ _⟩
  (fun T x P W=>∃ q,w.heap.size+1+1+1<q∧Blk W q #[.int .i64 x.1,.int .i64 x.2.1,.int .i64 x.2.2] 170∧P={ tmps:=(T.setIfInBounds 8 (fmV x)).setIfInBounds 6 (.pointer (some ⟨q,0,none⟩)),defers:=[] })
  ?hAx ?assign ?body ?done ?stop
 case hI =>
  refine OwnFrom.and (Own.from ?_ _) (ownFrom_below (by omega) (by omega))
  rintro s X Y g ⟨a,b,d,R,h5⟩ m k
  exact ⟨a,jx _ _ (fun _:Unit=>_) () X Y g b m k,jx _ _ (fun _:Unit=>_) () X Y g d m k,jx _ _ (fun _:Unit=>_) () X Y g R m k,jx _ _ (fun _:Unit=>_) () X Y g h5 m k⟩
 case hIx =>
  intro c
  refine OwnFrom.and (Own.from ?_ _) (ownFrom_below (by omega) (by omega))
  rintro s X Y g ⟨a,x,H,G,b,d,R⟩ m k
  exact ⟨a,x,H,G,jx _ _ (fun _:Unit=>_) () X Y g b m k,jx _ _ (fun _:Unit=>_) () X Y g d m k,jx _ _ (fun _:Unit=>_) () X Y g R m k⟩
 case hAx =>
  rintro x P _ X Y g ⟨q,a,b,d⟩ m k
  exact ⟨q,a,jx _ _ (fun _:Unit=>_) () X Y g b m (fun r e=>(k r e).2),d⟩
 case assign =>
  rintro l n x W K ⟨⟨o,y,a,b,d⟩,j⟩ t
  have HK:=Lib.hid t
  clear t
  have hz:=j.size
  gi_wp2
  exact HK.out _ _ ((KeepsOthers.alloc _ _).from _) ((Below.refl _ _).alloc (by omega) _) ⟨⟨o,y.alloc _,a.alloc _,b.alloc _,d.alloc _⟩,j.alloc (by omega) _⟩ ⟨W.heap.size,d.lt,Blk.new _ _ _,rfl⟩
 case body =>
  rintro l n x P W hl ⟨r,k⟩ ⟨⟨o,y,a,b,d⟩,j⟩ ⟨q,ai,Q,rfl⟩ ak
  have ao:=Q.cell 0
  have ap:=Q.cell 1
  have aq:=Q.cell 2
  have an:=y.cell 0
  have J:=b.cell 0
  have L:=b.cell 1
  have M:=b.cell 2
  have N:=d.cell 0
  have V:=b.frozen
  have aj:=d.frozen
  simp only [List.setIfInBounds_toArray,List.set_cons_zero,List.set_cons_succ]
  by_cases S:x.2.2=wd
  ·subst S
   gi_wp2
   exact ⟨((((KeepsOthers.setCell _ _ _).trans (KeepsOthers.setCell _ _ _)).trans (KeepsOthers.setCell _ _ _)).trans (KeepsOthers.setCell _ _ _)).from _,⟨rfl,x,by simp,rfl,(((a.other (by omega) _ _).other (by omega) _ _).other (by omega) _ _).other (by omega) _ _,(((b.set 0 _).set 1 _).set 2 _).other (by omega) _ _,(((d.other (by omega) _ _).other (by omega) _ _).other (by omega) _ _).set 0 _⟩,(((j.setCell (by simp; omega) _).setCell (by simp; omega) _).setCell (by simp; omega) _).setCell (by simp; omega) _⟩
  ·have al:(x.2.2 == wd)=false:=by rw [beq_eq_false_iff_ne]; exact S
   gi_wp2
   exact ⟨KeepsFrom.refl _ _,Below.refl _ _,⟨fun f Z=>(List.mem_append.1 Z).elim (o f) (fun h=>by rw [List.mem_singleton.1 h]; exact S),y,a,b,d⟩,j⟩
 case done =>
  rintro D ys W hD rfl ⟨⟨o,y,a,b,d⟩,j⟩ t
  have O:=Lib.hid (zlA o)
  clear o
  have J:=b.cell 0
  have L:=b.cell 1
  have M:=b.cell 2
  have N:=d.cell 0
  have aa:=a.cell 0
  have ab:=a.cell 1
  have ac:=a.cell 2
  have V:=a.frozen
  go_wp2_with fail
  go_region
  go_wp2_with fail
  rw [Exit.noGoto_ret]
  have u:=((a.set 0 (Value.int IntKind.i64 0)).set 1 (Value.int IntKind.i64 0)).set 2 (Value.int IntKind.i64 0)
  have p:(((W.setCell { block:=w.heap.size+1,off:=0 } (Value.int IntKind.i64 0)).setCell { block:=w.heap.size+1,off:=1 } (Value.int IntKind.i64 0)).setCell { block:=w.heap.size+1,off:=2 } (Value.int IntKind.i64 0)).drew.heap[D]? = some (.deferred (some [])):=
   ((Below.heap_setCell _ _ _ D (by simp; omega)).trans ((Below.heap_setCell _ _ _ D (by simp; omega)).trans (Below.heap_setCell _ _ _ D (by simp; omega)))).trans t
  have i:=(Blk.drew u).shut p rfl (.deferred none)
  have C:=i.cell 0
  have E:=i.cell 1
  have F:=i.cell 2
  have hz:=j.size
  have B:Below w.heap.size w (((W.setCell { block:=w.heap.size+1,off:=0 } (Value.int IntKind.i64 0)).setCell { block:=w.heap.size+1,off:=1 } (Value.int IntKind.i64 0)).setCell { block:=w.heap.size+1,off:=2 } (Value.int IntKind.i64 0)).drew:=Go.below_drewN (I.trans (((j.setCell (by simp) _).setCell (by simp) _).setCell (by simp) _)) 1
  refine leave1 (v:=.tuple #[.agg #[.int .i64 0,.int .i64 0,.int .i64 0],.bool false]) p (by simp [results,Tryz.results123,go_sem,C,E,F]) rfl ⟨by rw [O.out],jX B (by omega) (by simp [World.setCell]; omega) _⟩
 case stop =>
  rintro D c n W hD o ⟨⟨rfl,x,H,G,a,b,d⟩,j⟩ t
  have O:=Lib.hid (show ofW wd=(x,true) by rw [← G]; exact zlB (o.subset H))
  have HX:=Lib.hid G
  clear G H o
  have J:=b.cell 0
  have L:=b.cell 1
  have M:=b.cell 2
  have N:=d.cell 0
  have aa:=a.cell 0
  have ab:=a.cell 1
  have ac:=a.cell 2
  have V:=a.frozen
  go_wp2_with fail
  go_region
  go_wp2_with fail
  rw [Exit.noGoto_ret]
  have u:=((a.set 0 (Value.int IntKind.i64 x.1)).set 1 (Value.int IntKind.i64 x.2.1)).set 2 (Value.int IntKind.i64 x.2.2)
  have p:(((W.setCell { block:=w.heap.size+1,off:=0 } (Value.int IntKind.i64 x.1)).setCell { block:=w.heap.size+1,off:=1 } (Value.int IntKind.i64 x.2.1)).setCell { block:=w.heap.size+1,off:=2 } (Value.int IntKind.i64 x.2.2)).drew.heap[D]? = some (.deferred (some [])):=
   ((Below.heap_setCell _ _ _ D (by simp; omega)).trans ((Below.heap_setCell _ _ _ D (by simp; omega)).trans (Below.heap_setCell _ _ _ D (by simp; omega)))).trans t
  have i:=(Blk.drew u).shut p rfl (.deferred none)
  have C:=i.cell 0
  have E:=i.cell 1
  have F:=i.cell 2
  have hz:=j.size
  have B:Below w.heap.size w (((W.setCell { block:=w.heap.size+1,off:=0 } (Value.int IntKind.i64 x.1)).setCell { block:=w.heap.size+1,off:=1 } (Value.int IntKind.i64 x.2.1)).setCell { block:=w.heap.size+1,off:=2 } (Value.int IntKind.i64 x.2.2)).drew:=Go.below_drewN (I.trans (((j.setCell (by simp) _).setCell (by simp) _).setCell (by simp) _)) 1
  refine leave1 (v:=.tuple #[.agg #[.int .i64 x.1,.int .i64 x.2.1,.int .i64 x.2.2],.bool true]) p (by simp [results,Tryz.results123,go_sem,C,E,F]) rfl ⟨by rw [O.out],jX B (by omega) (by simp [World.setCell]; omega) _⟩
end
end Go.Proofs.YtonihophanmaaaaGreatDoor
namespace Go.Proofs.YtonihophanmaaaaGreatDoor
open Go.RowKit Go.Shelf
theorem jQ:∀ (k x:Nat),x<18446744073709551616→(Lib.bitLen x≤k↔x<2 ^ k)
 | 0,x,b=>by
  by_cases a:x=0
  ·subst a
   decide
  ·rw [Lib.bitLen_half x a b]
   simp
   omega
 | k+1,x,b=>by
  by_cases a:x=0
  ·subst a
   have:Lib.bitLen 0=0:=by decide
   rw [this]
   exact iff_of_true (Nat.zero_le _) (Nat.pow_pos (by decide))
  ·rw [Lib.bitLen_half x a b]
   have:=jQ k (x / 2) (by omega)
   rw [Nat.pow_succ]
   omega
theorem jF (n:Nat) (hn:n≤63) (x:Int) (a:0≤x) (b:x<18446744073709551616):bits .and .u64 x (2 ^ n - 1)=x % 2 ^ n:=bits_mask .u64 64 (by decide) (fun n a b=>by rw [IntKind.wrap_u64]; omega) n (by omega) x a (by simpa using b)
theorem znu (w:World):Calls Tryz.prog 127 #[.int .i64 4] w fun e a=>e=.returned (.int .u64 15)∧a=w:=by
 go_enter Tryz.func127,Tryz.ntmps127
 go_wp2
 go_ret
 exact ⟨rfl,rfl⟩
theorem zbv (w:World):Calls Tryz.prog 127 #[.int .i64 5] w fun e a=>e=.returned (.int .u64 31)∧a=w:=by
 go_enter Tryz.func127,Tryz.ntmps127
 go_wp2
 go_ret
 exact ⟨rfl,rfl⟩
theorem znv (w:World):Calls Tryz.prog 127 #[.int .i64 7] w fun e a=>e=.returned (.int .u64 127)∧a=w:=by
 go_enter Tryz.func127,Tryz.ntmps127
 go_wp2
 go_ret
 exact ⟨rfl,rfl⟩
theorem zbw (w:World):Calls Tryz.prog 127 #[.int .i64 8] w fun e a=>e=.returned (.int .u64 255)∧a=w:=by
 go_enter Tryz.func127,Tryz.ntmps127
 go_wp2
 go_ret
 exact ⟨rfl,rfl⟩
theorem zdW (w:World):Calls Tryz.prog 127 #[.int .i64 10] w fun e a=>e=.returned (.int .u64 1023)∧a=w:=by
 go_enter Tryz.func127,Tryz.ntmps127
 go_wp2
 go_ret
 exact ⟨rfl,rfl⟩
theorem zab (w:World):Calls Tryz.prog 127 #[.int .i64 11] w fun e a=>e=.returned (.int .u64 2047)∧a=w:=by
 go_enter Tryz.func127,Tryz.ntmps127
 go_wp2
 go_ret
 exact ⟨rfl,rfl⟩
theorem zhL (w:World):Calls Tryz.prog 127 #[.int .i64 23] w fun e a=>e=.returned (.int .u64 8388607)∧a=w:=by
 go_enter Tryz.func127,Tryz.ntmps127
 go_wp2
 go_ret
 exact ⟨rfl,rfl⟩
theorem zmX (w:World):Calls Tryz.prog 127 #[.int .i64 52] w fun e a=>e=.returned (.int .u64 4503599627370495)∧a=w:=by
 go_enter Tryz.func127,Tryz.ntmps127
 go_wp2
 go_ret
 exact ⟨rfl,rfl⟩
theorem zdD (w:World):Calls Tryz.prog 129 #[fmV (10,5,16)] w fun e w'=>e=.returned (.int .i64 15)∧Below w.heap.size w w':=by
 have a:=(Below.refl w.heap.size w).alloc (Nat.le_refl _) (.cells #[.int .i64 10,.int .i64 5,.int .i64 16] 170)
 go_enter Tryz.func129,Tryz.ntmps129
 go_wp2_with fail
 refine (znu _).mono ?_
 rintro e b ⟨rfl,rfl⟩
 go_wp2_with fail
 go_ret
 exact ⟨rfl,a⟩
theorem zlG (b:Int) (l:0≤b) (m:b<18446744073709551616) (w:World):Calls Tryz.prog 126 #[fmV (10,5,16),.int .u64 b] w fun e w'=>e=.returned (.tuple #[.int .u64 (b / 32768 % 2),.int .i64 (b / 1024 % 32),.int .u64 (b % 1024)])∧Below w.heap.size w w':=by
 have g:=(Below.refl w.heap.size w).alloc (Nat.le_refl _) (.cells #[.int .i64 10,.int .i64 5,.int .i64 16] 170)
 have a:=jF 1 (by decide) (b / 32768) (by omega) (by omega)
 have c:=jF 5 (by decide) (b / 1024) (by omega) (by omega)
 have d:=jF 10 (by decide) b (by omega) (by omega)
 have f:wrap64 (b / 1024 % 32)=b / 1024 % 32:=by
  rw [← IntWalk.i64_left]
  exact IntWalk.i64_in _ (by omega)
 have h:=Lib.hid a
 have i:=Lib.hid c
 have j:=Lib.hid d
 have k:=Lib.hid f
 clear a c d f
 go_enter Tryz.func126,Tryz.ntmps126
 go_wp2_with fail
 go_quiet ((first | (go_at_call 127; exact Calls.quiet_of_same (zbv _)) | (go_at_call 127; exact Calls.quiet_of_same (zdW _))))
 go_wp2_with fail
 refine bodyPost_ret (v:=.tuple #[.int .u64 (bits .and .u64 (b / 32768) (2 ^ 1 - 1)),.int .i64 (wrap64 (bits .and .u64 (b / 1024) (2 ^ 5 - 1))),.int .u64 (bits .and .u64 b (2 ^ 10 - 1))]) (by simp [results,Tryz.results126,go_sem]) rfl ⟨?_,Go.below_drewN g _⟩
 rw [h.out,i.out,j.out]
 show Ending.returned (.tuple #[_,.int .i64 (wrap64 (b / 1024 % 32)),_])=_
 rw [k.out]
 rfl
theorem zdE (w:World):Calls Tryz.prog 129 #[fmV (23,8,32)] w fun e w'=>e=.returned (.int .i64 127)∧Below w.heap.size w w':=by
 have a:=(Below.refl w.heap.size w).alloc (Nat.le_refl _) (.cells #[.int .i64 23,.int .i64 8,.int .i64 32] 170)
 go_enter Tryz.func129,Tryz.ntmps129
 go_wp2_with fail
 refine (znv _).mono ?_
 rintro e b ⟨rfl,rfl⟩
 go_wp2_with fail
 go_ret
 exact ⟨rfl,a⟩
theorem zlH (b:Int) (l:0≤b) (m:b<18446744073709551616) (w:World):Calls Tryz.prog 126 #[fmV (23,8,32),.int .u64 b] w fun e w'=>e=.returned (.tuple #[.int .u64 (b / 2147483648 % 2),.int .i64 (b / 8388608 % 256),.int .u64 (b % 8388608)])∧Below w.heap.size w w':=by
 have g:=(Below.refl w.heap.size w).alloc (Nat.le_refl _) (.cells #[.int .i64 23,.int .i64 8,.int .i64 32] 170)
 have a:=jF 1 (by decide) (b / 2147483648) (by omega) (by omega)
 have c:=jF 8 (by decide) (b / 8388608) (by omega) (by omega)
 have d:=jF 23 (by decide) b (by omega) (by omega)
 have f:wrap64 (b / 8388608 % 256)=b / 8388608 % 256:=by
  rw [← IntWalk.i64_left]
  exact IntWalk.i64_in _ (by omega)
 have h:=Lib.hid a
 have i:=Lib.hid c
 have j:=Lib.hid d
 have k:=Lib.hid f
 clear a c d f
 go_enter Tryz.func126,Tryz.ntmps126
 go_wp2_with fail
 go_quiet ((first | (go_at_call 127; exact Calls.quiet_of_same (zbw _)) | (go_at_call 127; exact Calls.quiet_of_same (zhL _))))
 go_wp2_with fail
 refine bodyPost_ret (v:=.tuple #[.int .u64 (bits .and .u64 (b / 2147483648) (2 ^ 1 - 1)),.int .i64 (wrap64 (bits .and .u64 (b / 8388608) (2 ^ 8 - 1))),.int .u64 (bits .and .u64 b (2 ^ 23 - 1))]) (by simp [results,Tryz.results126,go_sem]) rfl ⟨?_,Go.below_drewN g _⟩
 rw [h.out,i.out,j.out]
 show Ending.returned (.tuple #[_,.int .i64 (wrap64 (b / 8388608 % 256)),_])=_
 rw [k.out]
 rfl
theorem wF (w:World):Calls Tryz.prog 129 #[fmV (52,11,64)] w fun e w'=>e=.returned (.int .i64 1023)∧Below w.heap.size w w':=by
 have a:=(Below.refl w.heap.size w).alloc (Nat.le_refl _) (.cells #[.int .i64 52,.int .i64 11,.int .i64 64] 170)
 go_enter Tryz.func129,Tryz.ntmps129
 go_wp2_with fail
 refine (zdW _).mono ?_
 rintro e b ⟨rfl,rfl⟩
 go_wp2_with fail
 go_ret
 exact ⟨rfl,a⟩
theorem zcw (b:Int) (l:0≤b) (m:b<18446744073709551616) (w:World):Calls Tryz.prog 126 #[fmV (52,11,64),.int .u64 b] w fun e w'=>e=.returned (.tuple #[.int .u64 (b / 9223372036854775808 % 2),.int .i64 (b / 4503599627370496 % 2048),.int .u64 (b % 4503599627370496)])∧Below w.heap.size w w':=by
 have g:=(Below.refl w.heap.size w).alloc (Nat.le_refl _) (.cells #[.int .i64 52,.int .i64 11,.int .i64 64] 170)
 have a:=jF 1 (by decide) (b / 9223372036854775808) (by omega) (by omega)
 have c:=jF 11 (by decide) (b / 4503599627370496) (by omega) (by omega)
 have d:=jF 52 (by decide) b (by omega) (by omega)
 have f:wrap64 (b / 4503599627370496 % 2048)=b / 4503599627370496 % 2048:=by
  rw [← IntWalk.i64_left]
  exact IntWalk.i64_in _ (by omega)
 have h:=Lib.hid a
 have i:=Lib.hid c
 have j:=Lib.hid d
 have k:=Lib.hid f
 clear a c d f
 go_enter Tryz.func126,Tryz.ntmps126
 go_wp2_with fail
 go_quiet ((first | (go_at_call 127; exact Calls.quiet_of_same (zab _)) | (go_at_call 127; exact Calls.quiet_of_same (zmX _))))
 go_wp2_with fail
 refine bodyPost_ret (v:=.tuple #[.int .u64 (bits .and .u64 (b / 9223372036854775808) (2 ^ 1 - 1)),.int .i64 (wrap64 (bits .and .u64 (b / 4503599627370496) (2 ^ 11 - 1))),.int .u64 (bits .and .u64 b (2 ^ 52 - 1))]) (by simp [results,Tryz.results126,go_sem]) rfl ⟨?_,Go.below_drewN g _⟩
 rw [h.out,i.out,j.out]
 show Ending.returned (.tuple #[_,.int .i64 (wrap64 (b / 4503599627370496 % 2048)),_])=_
 rw [k.out]
 rfl
end Go.Proofs.YtonihophanmaaaaGreatDoor
