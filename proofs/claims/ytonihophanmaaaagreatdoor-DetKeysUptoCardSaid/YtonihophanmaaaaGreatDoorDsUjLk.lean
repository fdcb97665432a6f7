/- DetKeys, where what it reads is of bulk at most 1048576: the law returns true and its arguments read as they did; the listed variables hold what the program's text lays (tied). No other condition. Printed by genlawch.py. -/
import Derived.Test.YtonihophanmaaaaGreatDoorPa01
import Derived.Test.YtonihophanmaaaaGreatDoorPa02
import Derived.Test.YtonihophanmaaaaGreatDoorPa03
import Derived.Test.YtonihophanmaaaaGreatDoorPa04
import Derived.Test.YtonihophanmaaaaGreatDoorPa05
import Derived.Test.YtonihophanmaaaaGreatDoorPa06
import Derived.Test.YtonihophanmaaaaGreatDoorPa07
import Derived.Test.YtonihophanmaaaaGreatDoorPa08
import Derived.Test.YtonihophanmaaaaGreatDoorPa09
import Derived.Test.YtonihophanmaaaaGreatDoorPa10
import Derived.Test.YtonihophanmaaaaGreatDoorPa11
import Derived.Test.YtonihophanmaaaaGreatDoorPa12
import Derived.Test.YtonihophanmaaaaGreatDoorPa13
import Derived.Test.YtonihophanmaaaaGreatDoorPa14
import Derived.Test.YtonihophanmaaaaGreatDoorPa15
import Derived.Test.YtonihophanmaaaaGreatDoorPa16
import Derived.Test.YtonihophanmaaaaGreatDoorPa17
import Derived.Test.YtonihophanmaaaaGreatDoorPa18
import Derived.Test.YtonihophanmaaaaGreatDoorPa19
import Derived.Test.YtonihophanmaaaaGreatDoorPa20
import Derived.Test.YtonihophanmaaaaGreatDoorPa21
import Derived.Test.YtonihophanmaaaaGreatDoorPa22
import Derived.Test.YtonihophanmaaaaGreatDoorPa23
import Derived.Test.YtonihophanmaaaaGreatDoorPa24
import Derived.Test.YtonihophanmaaaaGreatDoorPa25
import Derived.Test.YtonihophanmaaaaGreatDoorPa26
import Derived.Test.YtonihophanmaaaaGreatDoorPa27
import Derived.Test.YtonihophanmaaaaGreatDoorPa28
import Derived.Test.YtonihophanmaaaaGreatDoorPa29
import Derived.Test.YtonihophanmaaaaGreatDoorPa30
import Derived.Test.YtonihophanmaaaaGreatDoorPa31
import Derived.Test.YtonihophanmaaaaGreatDoorPa32
import Derived.Test.YtonihophanmaaaaGreatDoorPa33
import Derived.Test.YtonihophanmaaaaGreatDoorPa34
import Derived.Test.YtonihophanmaaaaGreatDoorPa35
import Derived.Test.YtonihophanmaaaaGreatDoorPa36
import Derived.Test.YtonihophanmaaaaGreatDoorPa37
import Derived.Test.YtonihophanmaaaaGreatDoorPa38
import Derived.Test.YtonihophanmaaaaGreatDoorPa39
import Derived.Test.YtonihophanmaaaaGreatDoorPa40
import Derived.Test.YtonihophanmaaaaGreatDoorPa41
import Derived.Test.YtonihophanmaaaaGreatDoorPa42
import Derived.Test.YtonihophanmaaaaGreatDoorPa43
import Derived.Test.YtonihophanmaaaaGreatDoorPa44
import Derived.Test.YtonihophanmaaaaGreatDoorPa45
import Derived.Test.YtonihophanmaaaaGreatDoorPa46
import Derived.Test.YtonihophanmaaaaGreatDoorPa47
import Derived.Test.YtonihophanmaaaaGreatDoorRows
import Derived.WalkKit
import Derived.WalkSpells
import Derived.WalkLawsBesides
import Derived.RangeFuncNested
import Derived.RangeFuncBound
import Derived.RangeFuncCalls
import Derived.RangeFuncLeaves
import Derived.Shelf.Abstract
import Derived.Shelf.RegionOpen
import Derived.OwnWalkIn
import Derived.TacticsInMore
import Derived.LoopNIn
import Derived.LoopIn
import Derived.Laws.BytesArg
import Derived.ScopeJumps
import Derived.ProofKit
import Derived.OpenShut
import Derived.ShutString
import Derived.WalkMore
import Derived.Lib.Hide
import Derived.Laws.IdiomStrings
import Derived.Sort.Walk0
import Derived.BigQuiet
import Derived.Deep.QuietTactic
import Derived.StillTailTactics
import Derived.Lib.SmallJoins
import Derived.Lib.Strings
import Derived.Lib.AtoiAll
import Derived.Lib.ItoaNum
import Derived.Lib.ValidU
import Derived.Sort.Statements
import Derived.Outline
import Derived.Deep.AppendLies
import Derived.Laws.Rows
import Derived.Laws.Tables
import Derived.Deep.MidRow
import Derived.Shelf.SlSortCmp.WholeK
import Derived.Ground.SlsfProg
import Derived.Ground.NamesProg
import Derived.Shelf.Strings.Builder1
import Derived.Shelf.Strings.Builder2
import Derived.Shelf.Strings.Trim
import Derived.Shelf.Small.Utf8
import Derived.Shelf.Small.Bits
import Derived.Shelf.Small.Strs
import Derived.Shelf.Strings.BuilderF
import Derived.Shelf.Strings.BuilderK
import Derived.Shelf.Strings.Builder2Cap
import Derived.Shelf.Strconv.Itoa0
import Derived.Shelf.Strconv.Itoa1
import Derived.Shelf.LaysM
import Derived.Shelf.Strconv.Itoa2
import Derived.Shelf.Strconv.Itoa3
import Derived.Shelf.Strconv.Clone
import Derived.Shelf.Strconv.SyntaxError
import Derived.Shelf.LaysC
import Derived.Shelf.Strconv.ToError
import Derived.Shelf.Strconv.Lower
import Derived.Shelf.Strconv.ParseUint10
import Derived.Shelf.Strconv.ParseUint10Empty
import Derived.Shelf.Strconv.ParseUint10Any
import Derived.Shelf.Strconv.RangeError
import Derived.Shelf.Strconv.ToErrorRange
import Derived.Shelf.Strconv.ParseUintEmpty
import Derived.Shelf.Strconv.ParseUint10b64
import Derived.Shelf.Strconv.ParseUint10b32
import Derived.Shelf.Strconv.ParseUint10b16
import Derived.Shelf.Strconv.ParseUint10b8
import Derived.Shelf.Strconv.ParseUint10At
import Derived.Ground.MpProg
import Derived.Shelf.Pu.ParseUintPublic10
import Derived.Shelf.Pu.ErrVarParseUint
import Derived.Shelf.Strings.Search1
import Derived.Shelf.Strings.Prefix
import Derived.Shelf.Unicode.Decode
import Derived.Shelf.Strings.Runes
import Derived.Shelf.Strings.AsciiSet
import Derived.Shelf.Bits.Mul64
import Derived.Shelf.Strings.Repeat
import Derived.Shelf.Unicode.DecodeSlow
import Derived.Shelf.Unicode.DecodeAny
import Derived.Shelf.Unicode.DecodeLast
import Derived.Shelf.Strings.BuilderCap
import Derived.Shelf.Slices.Turned
import Derived.Shelf.Unicode.ValidAny
import Derived.Sort.OwnSorted
import Derived.Lib.FrozenHead
import Derived.RegionCalls
import Derived.Lib.AsciiSet
import Derived.Deep.RegionHeld3
import Derived.Lib.ParseIntBCases
import Derived.Lib.AtoiErrMem
import Derived.RegionTactic
import Derived.Laws.BitsLemmas
import Derived.IntWalk
import Derived.BigRegion
import Derived.Laws.Bits64b
import Derived.RangeFuncWrites
import Derived.Carry
import Derived.Orders
import Derived.Still
import Derived.StillTail
import Derived.Great.Walk
import Derived.LaidEql
import Derived.Stop.Asserts
import Derived.RowKitTokens
import Derived.OrdersIn
import Derived.TacticsIn
import Derived.ArgAppend
import Derived.Lib.LazyBuf
import Derived.Laws.MakeOwn
import Derived.Laws.IdiomCopy
import Derived.Lib.AppendIntMem
import Derived.Lib.LaidU8T
import Derived.PinnedBridge
import Derived.Stop.LaidErr
import Derived.Stop.Joined
import Derived.LaidMore
import Derived.LaidLaws
import Derived.Lay
import Derived.SevenTiedAt
import Derived.Lib.LaidTab
import Derived.LaidHandle
import Derived.Deep.Slices
import Derived.ChangeArms
import Derived.WideShapes
import Derived.Deep.DeepHandedRow
import Derived.Test.YtonihophanmaaaaGreatDoorCards
import Derived.Test.YtonihophanmaaaaGreatDoorTie
namespace Go.Proofs.YtonihophanmaaaaGreatDoor
open Go.RowKit Go.Shelf
abbrev key2T (a b:Tr):Tr:=.nd mpO [a,nulT,b,nulT]
theorem key2_check (a b:Tr):checkT 2 flC (key2T a b)=0 ↔ checkT 2 flC (key1T a)=0 ∧ checkT 2 flC (key1T b)=0 ∧ sameT b a=false:=by
 obtain ⟨n1,n2,n3,n4⟩:=nul_facts
 rw [key1_check,key1_check,check_zero]
 have hk:keysB [a,nulT,b,nulT]=true ↔ sameT b a=false:=by
  rw [keysB_iff]
  constructor
  ·intro h
   exact h 2 0 (by simp) (by omega) (by omega) (by omega)
  ·intro h i k hi hk h1 h2
   simp only [List.length_cons,List.length_nil] at hi
   have:i=2 ∧ k=0:=by omega
   obtain ⟨rfl,rfl⟩:=this
   exact h
 have ha:allB (key2T a b)=(keysB [a,nulT,b,nulT] && (allB a && allB b)):=by
  rw [allB,ownB_mp,allL,allL,allL,allL,allL,n1]
  simp
 have hf:fitT 2 flC (key2T a b)=((keyO 2 a.own && keyO 2 b.own) && (fitT 2 flC a && fitT 2 flC b)):=by
  rw [fitT,fitO_mp,keysFit,keysFit,keysFit,fitL,fitL,fitL,fitL,fitL,n2]
  simp
 rw [ha,hf]
 simp only [Bool.and_eq_true]
 rw [hk]
 constructor
 ·rintro ⟨_,_,⟨h1,h2,h3⟩,⟨h4,h5⟩,h6,h7⟩
  exact ⟨⟨h2,h6,h4⟩,⟨h3,h7,h5⟩,h1⟩
 ·rintro ⟨⟨h2,h6,h4⟩,⟨h3,h7,h5⟩,h1⟩
  refine ⟨?_,?_,⟨h1,h2,h3⟩,⟨h4,h5⟩,h6,h7⟩
  ·cases a with
   | nd o l =>
    cases b with
    | nd o' l' =>
     obtain ⟨e,_⟩:=keyO_leaf h4 (own_of_all h2).1
     obtain ⟨e',_⟩:=keyO_leaf h5 (own_of_all h3).1
     subst e e'
     simp only [Tr.count,countL]
     decide
  ·cases a with
   | nd o l =>
    cases b with
    | nd o' l' =>
     obtain ⟨e,_⟩:=keyO_leaf h4 (own_of_all h2).1
     obtain ⟨e',_⟩:=keyO_leaf h5 (own_of_all h3).1
     subst e e'
     simp only [Tr.depth,depthL]
     decide
section
variable (it:Tr → List UInt8)
variable {it}
theorem less_irrefl (a:Tr):lessT it a a=false:=by
 cases h:lessT it a a with
 | false=>rfl
 | true=>exact absurd (less_iff.1 h).2.2 (List.lt_irrefl _)
theorem less_asymm {a b:Tr} (h:lessT it a b=true):lessT it b a=false:=by
 cases h1:lessT it b a with
 | false=>rfl
 | true=>exact absurd (List.lt_trans (less_iff.1 h).2.2 (less_iff.1 h1).2.2) (List.lt_irrefl _)
theorem less_trans {a b c:Tr} (h:lessT it a b=true) (h1:lessT it b c=true):lessT it a c=true:=by
 obtain ⟨p1,_,p3⟩:=less_iff.1 h
 obtain ⟨_,q2,q3⟩:=less_iff.1 h1
 exact less_iff.2 ⟨p1,q2,List.lt_trans p3 q3⟩
end
end Go.Proofs.YtonihophanmaaaaGreatDoor
namespace Go.Proofs.YtonihophanmaaaaGreatDoor
open Go.RowKit Go.Shelf

theorem few_okD {t:Tr} (h:OwnOk t.own):OwnOk (fewT t).own:=by
 rw [fewT_own]
 exact cut_ok h

end Go.Proofs.YtonihophanmaaaaGreatDoor
namespace Go.Proofs.YtonihophanmaaaaGreatDoor
open Go.RowKit Go.Shelf

theorem keys_facts {a b c:Tr} (ha:checkT 2 flC (key1T a)=0 → okC a) (hb:checkT 2 flC (key1T b)=0 → okC b) :
  (lessT cbT a b=true → lessT cbT b a=false) ∧ (lessT cbT a b=true → lessT cbT b c=true → lessT cbT a c=true) ∧ lessT cbT a a=false ∧ (checkT 2 flC (key2T a b)=0 → lessT cbT a b=true ∨ lessT cbT b a=true) ∧ (checkT 2 flC (key2T a b) ≠ 0 → lessT cbT a b=false ∧ lessT cbT b a=false):=by
 refine ⟨less_asymm,less_trans,less_irrefl a,fun h=>?_,fun h=>?_⟩
 ·obtain ⟨h1,h2,h3⟩:=(key2_check a b).1 h
  have hne:cbT a ≠ cbT b:=fun e=>by
   rw [items_okC.inj a b (ha h1) (hb h2) e,sameT_refl] at h3
   cases h3
  rcases lt_or hne with h4 | h4
  ·exact .inl (less_iff.2 ⟨h1,h2,h4⟩)
  ·exact .inr (less_iff.2 ⟨h2,h1,h4⟩)
 ·have key:∀ x y:Tr,lessT cbT x y=true → checkT 2 flC (key1T x)=0 ∧ checkT 2 flC (key1T y)=0 ∧ x ≠ y:=fun x y hl=>by
   obtain ⟨h1,h2,h3⟩:=less_iff.1 hl
   exact ⟨h1,h2,fun e=>by rw [e] at h3; exact List.lt_irrefl _ h3⟩
  have no:∀ x y:Tr,sameT y x=true → x=y:=fun x y hs=>(sameT_iff _ _ hs).symm
  constructor
  ·cases hl:lessT cbT a b with
   | false=>rfl
   | true =>
    obtain ⟨h1,h2,h3⟩:=key _ _ hl
    refine absurd ((key2_check a b).2 ⟨h1,h2,?_⟩) h
    cases hs:sameT b a with
    | false=>rfl
    | true=>exact absurd (no _ _ hs) h3
  ·cases hl:lessT cbT b a with
   | false=>rfl
   | true =>
    obtain ⟨h1,h2,h3⟩:=key _ _ hl
    refine absurd ((key2_check a b).2 ⟨h2,h1,?_⟩) h
    cases hs:sameT b a with
    | false=>rfl
    | true=>exact absurd (no _ _ hs).symm h3
theorem key_okC {W:World} {S:Nat → Prop} {d:Nat} {t:Tr} {x:Value} (hl:LAt W S d t.kids x) (ho:OwnOk t.own) (h:checkT 2 flC (key1T t)=0):okC t:=by
 obtain ⟨h1,h2,_⟩:=(key1_check t).1 h
 exact okC_of_at t d x hl ho h1 h2

set_option maxHeartbeats 8000000 in
set_option maxRecDepth 100000 in
theorem keys_walkD {aT aF:Addr} (ta0 tb0 tc0:Tr) (va vb vc:Value) (w:World) (h:RW w aT aF) (Da Db Dc:Nat) (hla:ListAt w w.heap.size Da ta0.kids va) (hoa:OwnOk ta0.own) (hca:ta0.count ≤ 1048576) (hlb:ListAt w w.heap.size Db tb0.kids vb) (hob:OwnOk tb0.own) (hcb:tb0.count ≤ 1048576) (hlc:ListAt w w.heap.size Dc tc0.kids vc) (hoc:OwnOk tc0.own) (hcc:tc0.count ≤ 1048576) :
  Calls Tryz.prog 4 #[nodeV ta0.own va,nodeV tb0.own vb,nodeV tc0.own vc] w fun e w'=>e=.returned (.bool true) ∧ Below w.heap.size w w':=by
 have H0:=Lib.hid (fun W (hW:Below w.heap.size w W)=>det_shown (aT:=aT) (aF:=aF) W (h.below hW))
 have HU:=Lib.hid (fun W (hW:Below w.heap.size w W)=>(h.below hW).g)
 have HFa:=Lib.hid (fun W (hW:Below w.heap.size w W)=>law_FewT ta0 va W w.heap.size Da (hla.below hW (Nat.le_refl _)) hoa hW.size (by omega))
 have htoa:=few_okD hoa
 have htca:=few_count ta0
 have hva:∃ A m c,va=.slice A m c:=by
  obtain ⟨_,A,c,e⟩:=hla.slice
  exact ⟨A,_,c,e⟩
 obtain ⟨oa0,hoa0⟩:∃ o,ta0.own=o:=⟨_,rfl⟩
 rw [hoa0] at HFa ⊢
 generalize fewT ta0=ta at HFa htoa htca
 obtain ⟨kinda0,ba0,nega0,dga0,exa0,ua0,wda0,sa0⟩:=oa0
 obtain ⟨Aa0,ma0,ca0,rfl⟩:=hva
 unfold nodeV at HFa
 simp only [] at HFa
 have HFb:=Lib.hid (fun W (hW:Below w.heap.size w W)=>law_FewT tb0 vb W w.heap.size Db (hlb.below hW (Nat.le_refl _)) hob hW.size (by omega))
 have htob:=few_okD hob
 have htcb:=few_count tb0
 have hvb:∃ A m c,vb=.slice A m c:=by
  obtain ⟨_,A,c,e⟩:=hlb.slice
  exact ⟨A,_,c,e⟩
 obtain ⟨ob0,hob0⟩:∃ o,tb0.own=o:=⟨_,rfl⟩
 rw [hob0] at HFb ⊢
 generalize fewT tb0=tb at HFb htob htcb
 obtain ⟨kindb0,bb0,negb0,dgb0,exb0,ub0,wdb0,sb0⟩:=ob0
 obtain ⟨Ab0,mb0,cb0,rfl⟩:=hvb
 unfold nodeV at HFb
 simp only [] at HFb
 have HFc:=Lib.hid (fun W (hW:Below w.heap.size w W)=>law_FewT tc0 vc W w.heap.size Dc (hlc.below hW (Nat.le_refl _)) hoc hW.size (by omega))
 have htoc:=few_okD hoc
 have htcc:=few_count tc0
 have hvc:∃ A m c,vc=.slice A m c:=by
  obtain ⟨_,A,c,e⟩:=hlc.slice
  exact ⟨A,_,c,e⟩
 obtain ⟨oc0,hoc0⟩:∃ o,tc0.own=o:=⟨_,rfl⟩
 rw [hoc0] at HFc ⊢
 generalize fewT tc0=tc at HFc htoc htcc
 obtain ⟨kindc0,bc0,negc0,dgc0,exc0,uc0,wdc0,sc0⟩:=oc0
 obtain ⟨Ac0,mc0,cc0,rfl⟩:=hvc
 unfold nodeV at HFc
 simp only [] at HFc
 unfold nodeV
 simp only []
 obtain ⟨W1,hW1⟩:∃ W1,((w.alloc (.cells #[.int .i64 kinda0,.bool ba0,.bool nega0,.string dga0,.int .i64 exa0,.int .u64 ua0,.int .i64 wda0,.string sa0,.slice Aa0 ma0 ca0] 28)).alloc (.cells #[.int .i64 kindb0,.bool bb0,.bool negb0,.string dgb0,.int .i64 exb0,.int .u64 ub0,.int .i64 wdb0,.string sb0,.slice Ab0 mb0 cb0] 28)).alloc (.cells #[.int .i64 kindc0,.bool bc0,.bool negc0,.string dgc0,.int .i64 exc0,.int .u64 uc0,.int .i64 wdc0,.string sc0,.slice Ac0 mc0 cc0] 28)=W1:=⟨_,rfl⟩
 have hb1:Below w.heap.size w W1:=by
  rw [← hW1]
  exact (((Below.refl _ w).alloc (Nat.le_refl _) _).alloc (by simp) _).alloc (by simp; omega) _
 have hka:Blk W1 w.heap.size #[.int .i64 kinda0,.bool ba0,.bool nega0,.string dga0,.int .i64 exa0,.int .u64 ua0,.int .i64 wda0,.string sa0,.slice Aa0 ma0 ca0] 28:=by rw [← hW1]; exact ((blk_at rfl _ _).alloc _).alloc _
 have hkb:Blk W1 (w.heap.size + 1) #[.int .i64 kindb0,.bool bb0,.bool negb0,.string dgb0,.int .i64 exb0,.int .u64 ub0,.int .i64 wdb0,.string sb0,.slice Ab0 mb0 cb0] 28:=by rw [← hW1]; exact (blk_at (by simp) _ _).alloc _
 have hkc:Blk W1 (w.heap.size + 2) #[.int .i64 kindc0,.bool bc0,.bool negc0,.string dgc0,.int .i64 exc0,.int .u64 uc0,.int .i64 wdc0,.string sc0,.slice Ac0 mc0 cc0] 28:=by rw [← hW1]; exact blk_at (by simp) _ _
 have hz1:W1.heap.size=w.heap.size + 3:=by rw [← hW1]; simp
 have HW1:=Lib.hid hW1
 have HB1:=Lib.hid hb1
 have HKa1:=Lib.hid hka
 have HKb1:=Lib.hid hkb
 have HKc1:=Lib.hid hkc
 have HTOa:=Lib.hid htoa
 have HTOb:=Lib.hid htob
 have HTOc:=Lib.hid htoc
 clear hla hlb hlc hoa hob hoc hca hcb hcc hoa0 hob0 hoc0 h hW1 hb1 hka hkb hkc htoa htob htoc
 go_enter Tryz.func4,Tryz.ntmps4
 go_upto_region 1 with fail
 rw [HW1.out]
 go_wp2_with fail
 refine (H0.out _ HB1.out).mono ?_
 rintro e W2 ⟨rfl,hb2⟩
 have hz2:=hb2.size
 have hbw2:=HB1.out.trans (hb2.mono HB1.out.size)
 have HKa2:=Lib.hid (HKa1.out.below hb2 HKa1.out.lt)
 have HKb2:=Lib.hid (HKb1.out.below hb2 HKb1.out.lt)
 have HKc2:=Lib.hid (HKc1.out.below hb2 HKc1.out.lt)
 have HB2:=Lib.hid hbw2
 clear hb2 hbw2 HB1 HKa1 HKb1 HKc1 HW1 H0
 go_wp2_with (refine wpList_load_row rfl 28 (.tmp 3) rfl w.heap.size rfl 28 _ (0,0) _ HKa2.out Tryz.underlying28 rfl (by kernel_rfl) ?_)
 refine (HFa.out _ HB2.out).mono ?_
 rintro e w3 ⟨⟨y,rfl,hly⟩,hb⟩
 obtain ⟨_,Aa,ca,rfl⟩:=hly.slice
 obtain ⟨na,hna⟩:∃ n,ta.kids.length=n:=⟨_,rfl⟩
 rw [hna] at hly ⊢
 obtain ⟨⟨kinda,ba,nega,dga,exa,ua,wda,sa⟩,hoa⟩:∃ o,ta.own=o:=⟨_,rfl⟩
 rw [hoa]
 simp only []
 have hzb:=hb.size
 have hg:=grown_row w3 w.heap.size #[.int .i64 kinda,.bool ba,.bool nega,.string dga,.int .i64 exa,.int .u64 ua,.int .i64 wda,.string sa,.slice Aa na ca]
 obtain ⟨W3,hW⟩:∃ W3,w3.setRow w.heap.size #[.int .i64 kinda,.bool ba,.bool nega,.string dga,.int .i64 exa,.int .u64 ua,.int .i64 wda,.string sa,.slice Aa na ca]=W3:=⟨_,rfl⟩
 rw [hW] at hg
 have hzw:W3.heap.size=w3.heap.size:=by rw [← hW,setRow_size]
 have hks:=HKa2.out.below hb HKa2.out.lt
 have hka:Blk W3 w.heap.size #[.int .i64 kinda,.bool ba,.bool nega,.string dga,.int .i64 exa,.int .u64 ua,.int .i64 wda,.string sa,.slice Aa na ca] 28:=by rw [← hW]; exact blk_row hks #[.int .i64 kinda,.bool ba,.bool nega,.string dga,.int .i64 exa,.int .u64 ua,.int .i64 wda,.string sa,.slice Aa na ca]
 have hkb:Blk W3 (w.heap.size + 1) #[.int .i64 kindb0,.bool bb0,.bool negb0,.string dgb0,.int .i64 exb0,.int .u64 ub0,.int .i64 wdb0,.string sb0,.slice Ab0 mb0 cb0] 28:=(HKb2.out.below hb HKb2.out.lt).kept hg (fun e=>absurd (Option.some.inj e) (by omega))
 have hkc:Blk W3 (w.heap.size + 2) #[.int .i64 kindc0,.bool bc0,.bool negc0,.string dgc0,.int .i64 exc0,.int .u64 uc0,.int .i64 wdc0,.string sc0,.slice Ac0 mc0 cc0] 28:=(HKc2.out.below hb HKc2.out.lt).kept hg (fun e=>absurd (Option.some.inj e) (by omega))
 have hla:LAt W3 (fun q=>w.heap.size + 3 ≤ q ∧ q < W3.heap.size) 17 ta.kids (.slice Aa na ca):=(hly.keep (fun q hq=>hg.block q hq.2 (fun e=>absurd (Option.some.inj e) (by omega)))).mono (fun q hq=>⟨by omega,by omega⟩)
 have hbw:Below w.heap.size w W3:=(HB2.out.trans (hb.mono HB2.out.size)).grown hg (by omega) (fun q e=>by cases e; omega)
 have hz3:W2.heap.size ≤ W3.heap.size:=by omega
 have HKS:=Lib.hid hks
 have HKa3:=Lib.hid hka
 have HKb3:=Lib.hid hkb
 have HKc3:=Lib.hid hkc
 have HLa3:=Lib.hid hla
 have HB3:=Lib.hid hbw
 have HW3:=Lib.hid hW
 have HOa:=Lib.hid hoa
 have HNa:=Lib.hid hna
 clear hly hb hzb hg hW hzw hks hka hkb hkc hla hbw hoa hna HKa2 HKb2 HKc2 HB2 HFa
 go_upto_region 3 with (refine wpList_store_row rfl 28 (.tmp 3) (.tmp 15) rfl w.heap.size #[.int .i64 kinda,.bool ba,.bool nega,.string dga,.int .i64 exa,.int .u64 ua,.int .i64 wda,.string sa,.slice Aa na ca] rfl rfl 28 _ HKS.out (by kernel_rfl) rfl (by simp [Value.oneCell']) ?_)
 rw [HW3.out]
 clear HW3 HKS
 go_wp2_with (refine wpList_load_row rfl 28 (.tmp 4) rfl (w.heap.size + 1) rfl 28 _ (0,0) _ HKb3.out Tryz.underlying28 rfl (by kernel_rfl) ?_)
 refine (HFb.out _ HB3.out).mono ?_
 rintro e w4 ⟨⟨y,rfl,hly⟩,hb⟩
 obtain ⟨_,Ab,cb,rfl⟩:=hly.slice
 obtain ⟨nb,hnb⟩:∃ n,tb.kids.length=n:=⟨_,rfl⟩
 rw [hnb] at hly ⊢
 obtain ⟨⟨kindb,bb,negb,dgb,exb,ub,wdb,sb⟩,hob⟩:∃ o,tb.own=o:=⟨_,rfl⟩
 rw [hob]
 simp only []
 have hzb:=hb.size
 have hg:=grown_row w4 (w.heap.size + 1) #[.int .i64 kindb,.bool bb,.bool negb,.string dgb,.int .i64 exb,.int .u64 ub,.int .i64 wdb,.string sb,.slice Ab nb cb]
 obtain ⟨W4,hW⟩:∃ W4,w4.setRow (w.heap.size + 1) #[.int .i64 kindb,.bool bb,.bool negb,.string dgb,.int .i64 exb,.int .u64 ub,.int .i64 wdb,.string sb,.slice Ab nb cb]=W4:=⟨_,rfl⟩
 rw [hW] at hg
 have hzw:W4.heap.size=w4.heap.size:=by rw [← hW,setRow_size]
 have hks:=HKb3.out.below hb HKb3.out.lt
 have hkb:Blk W4 (w.heap.size + 1) #[.int .i64 kindb,.bool bb,.bool negb,.string dgb,.int .i64 exb,.int .u64 ub,.int .i64 wdb,.string sb,.slice Ab nb cb] 28:=by rw [← hW]; exact blk_row hks #[.int .i64 kindb,.bool bb,.bool negb,.string dgb,.int .i64 exb,.int .u64 ub,.int .i64 wdb,.string sb,.slice Ab nb cb]
 have hka:Blk W4 w.heap.size #[.int .i64 kinda,.bool ba,.bool nega,.string dga,.int .i64 exa,.int .u64 ua,.int .i64 wda,.string sa,.slice Aa na ca] 28:=(HKa3.out.below hb HKa3.out.lt).kept hg (fun e=>absurd (Option.some.inj e) (by omega))
 have hkc:Blk W4 (w.heap.size + 2) #[.int .i64 kindc0,.bool bc0,.bool negc0,.string dgc0,.int .i64 exc0,.int .u64 uc0,.int .i64 wdc0,.string sc0,.slice Ac0 mc0 cc0] 28:=(HKc3.out.below hb HKc3.out.lt).kept hg (fun e=>absurd (Option.some.inj e) (by omega))
 have hla:LAt W4 (fun q=>w.heap.size + 3 ≤ q ∧ q < W4.heap.size) 17 ta.kids (.slice Aa na ca):=(HLa3.out.keep (fun q hq=>(hg.block q (by omega) (fun e=>absurd (Option.some.inj e) (by omega))).trans (hb.block q hq.2))).mono (fun q hq=>⟨hq.1,by omega⟩)
 have hlb:LAt W4 (fun q=>w.heap.size + 3 ≤ q ∧ q < W4.heap.size) 17 tb.kids (.slice Ab nb cb):=(hly.keep (fun q hq=>hg.block q hq.2 (fun e=>absurd (Option.some.inj e) (by omega)))).mono (fun q hq=>⟨by omega,by omega⟩)
 have hbw:Below w.heap.size w W4:=(HB3.out.trans (hb.mono HB3.out.size)).grown hg (by omega) (fun q e=>by cases e; omega)
 have hz4:W3.heap.size ≤ W4.heap.size:=by omega
 have HKS:=Lib.hid hks
 have HKa4:=Lib.hid hka
 have HKb4:=Lib.hid hkb
 have HKc4:=Lib.hid hkc
 have HLa4:=Lib.hid hla
 have HLb4:=Lib.hid hlb
 have HB4:=Lib.hid hbw
 have HW4:=Lib.hid hW
 have HOb:=Lib.hid hob
 have HNb:=Lib.hid hnb
 clear hly hb hzb hg hW hzw hks hka hkb hkc hla hlb hbw hob hnb HKa3 HKb3 HKc3 HB3 HFb HLa3
 go_upto_region 4 with (refine wpList_store_row rfl 28 (.tmp 4) (.tmp 17) rfl (w.heap.size + 1) #[.int .i64 kindb,.bool bb,.bool negb,.string dgb,.int .i64 exb,.int .u64 ub,.int .i64 wdb,.string sb,.slice Ab nb cb] rfl rfl 28 _ HKS.out (by kernel_rfl) rfl (by simp [Value.oneCell']) ?_)
 rw [HW4.out]
 clear HW4 HKS
 go_wp2_with (refine wpList_load_row rfl 28 (.tmp 5) rfl (w.heap.size + 2) rfl 28 _ (0,0) _ HKc4.out Tryz.underlying28 rfl (by kernel_rfl) ?_)
 refine (HFc.out _ HB4.out).mono ?_
 rintro e w5 ⟨⟨y,rfl,hly⟩,hb⟩
 obtain ⟨_,Ac,cc,rfl⟩:=hly.slice
 obtain ⟨nc,hnc⟩:∃ n,tc.kids.length=n:=⟨_,rfl⟩
 rw [hnc] at hly ⊢
 obtain ⟨⟨kindc,bc,negc,dgc,exc,uc,wdc,sc⟩,hoc⟩:∃ o,tc.own=o:=⟨_,rfl⟩
 rw [hoc]
 simp only []
 have hzb:=hb.size
 have hg:=grown_row w5 (w.heap.size + 2) #[.int .i64 kindc,.bool bc,.bool negc,.string dgc,.int .i64 exc,.int .u64 uc,.int .i64 wdc,.string sc,.slice Ac nc cc]
 obtain ⟨W5,hW⟩:∃ W5,w5.setRow (w.heap.size + 2) #[.int .i64 kindc,.bool bc,.bool negc,.string dgc,.int .i64 exc,.int .u64 uc,.int .i64 wdc,.string sc,.slice Ac nc cc]=W5:=⟨_,rfl⟩
 rw [hW] at hg
 have hzw:W5.heap.size=w5.heap.size:=by rw [← hW,setRow_size]
 have hks:=HKc4.out.below hb HKc4.out.lt
 have hkc:Blk W5 (w.heap.size + 2) #[.int .i64 kindc,.bool bc,.bool negc,.string dgc,.int .i64 exc,.int .u64 uc,.int .i64 wdc,.string sc,.slice Ac nc cc] 28:=by rw [← hW]; exact blk_row hks #[.int .i64 kindc,.bool bc,.bool negc,.string dgc,.int .i64 exc,.int .u64 uc,.int .i64 wdc,.string sc,.slice Ac nc cc]
 have hka:Blk W5 w.heap.size #[.int .i64 kinda,.bool ba,.bool nega,.string dga,.int .i64 exa,.int .u64 ua,.int .i64 wda,.string sa,.slice Aa na ca] 28:=(HKa4.out.below hb HKa4.out.lt).kept hg (fun e=>absurd (Option.some.inj e) (by omega))
 have hkb:Blk W5 (w.heap.size + 1) #[.int .i64 kindb,.bool bb,.bool negb,.string dgb,.int .i64 exb,.int .u64 ub,.int .i64 wdb,.string sb,.slice Ab nb cb] 28:=(HKb4.out.below hb HKb4.out.lt).kept hg (fun e=>absurd (Option.some.inj e) (by omega))
 have hla:LAt W5 (fun q=>w.heap.size + 3 ≤ q ∧ q < W5.heap.size) 17 ta.kids (.slice Aa na ca):=(HLa4.out.keep (fun q hq=>(hg.block q (by omega) (fun e=>absurd (Option.some.inj e) (by omega))).trans (hb.block q hq.2))).mono (fun q hq=>⟨hq.1,by omega⟩)
 have hlb:LAt W5 (fun q=>w.heap.size + 3 ≤ q ∧ q < W5.heap.size) 17 tb.kids (.slice Ab nb cb):=(HLb4.out.keep (fun q hq=>(hg.block q (by omega) (fun e=>absurd (Option.some.inj e) (by omega))).trans (hb.block q hq.2))).mono (fun q hq=>⟨hq.1,by omega⟩)
 have hlc:LAt W5 (fun q=>w.heap.size + 3 ≤ q ∧ q < W5.heap.size) 17 tc.kids (.slice Ac nc cc):=(hly.keep (fun q hq=>hg.block q hq.2 (fun e=>absurd (Option.some.inj e) (by omega)))).mono (fun q hq=>⟨by omega,by omega⟩)
 have hbw:Below w.heap.size w W5:=(HB4.out.trans (hb.mono HB4.out.size)).grown hg (by omega) (fun q e=>by cases e; omega)
 have hz5:W4.heap.size ≤ W5.heap.size:=by omega
 have HKS:=Lib.hid hks
 have HKa5:=Lib.hid hka
 have HKb5:=Lib.hid hkb
 have HKc5:=Lib.hid hkc
 have HLa5:=Lib.hid hla
 have HLb5:=Lib.hid hlb
 have HLc5:=Lib.hid hlc
 have HB5:=Lib.hid hbw
 have HW5:=Lib.hid hW
 have HOc:=Lib.hid hoc
 have HNc:=Lib.hid hnc
 clear hly hb hzb hg hW hzw hks hka hkb hkc hla hlb hlc hbw hoc hnc HKa4 HKb4 HKc4 HB4 HFc HLa4 HLb4
 go_upto_region 5 with (refine wpList_store_row rfl 28 (.tmp 5) (.tmp 19) rfl (w.heap.size + 2) #[.int .i64 kindc,.bool bc,.bool negc,.string dgc,.int .i64 exc,.int .u64 uc,.int .i64 wdc,.string sc,.slice Ac nc cc] rfl rfl 28 _ HKS.out (by kernel_rfl) rfl (by simp [Value.oneCell']) ?_)
 rw [HW5.out]
 clear HW5 HKS
 have hlsab:=fun (W:World) (hW:Below W5.heap.size W5 W)=>det_Less ta tb Aa Ab na nb ca cb W W5.heap.size 17 aT aF ((HLa5.out.keep (fun q hq=>hW.block q hq.2)).mono (fun q hq=>hq.2)) ((HLb5.out.keep (fun q hq=>hW.block q hq.2)).mono (fun q hq=>hq.2)) HTOa.out HTOb.out hW.size (by omega) (by omega) (HU.out W (HB5.out.trans (hW.mono HB5.out.size)))
 rw [HOa.out,HOb.out] at hlsab
 unfold nodeV at hlsab
 simp only [] at hlsab
 have hlsba:=fun (W:World) (hW:Below W5.heap.size W5 W)=>det_Less tb ta Ab Aa nb na cb ca W W5.heap.size 17 aT aF ((HLb5.out.keep (fun q hq=>hW.block q hq.2)).mono (fun q hq=>hq.2)) ((HLa5.out.keep (fun q hq=>hW.block q hq.2)).mono (fun q hq=>hq.2)) HTOb.out HTOa.out hW.size (by omega) (by omega) (HU.out W (HB5.out.trans (hW.mono HB5.out.size)))
 rw [HOb.out,HOa.out] at hlsba
 unfold nodeV at hlsba
 simp only [] at hlsba
 have hlsbc:=fun (W:World) (hW:Below W5.heap.size W5 W)=>det_Less tb tc Ab Ac nb nc cb cc W W5.heap.size 17 aT aF ((HLb5.out.keep (fun q hq=>hW.block q hq.2)).mono (fun q hq=>hq.2)) ((HLc5.out.keep (fun q hq=>hW.block q hq.2)).mono (fun q hq=>hq.2)) HTOb.out HTOc.out hW.size (by omega) (by omega) (HU.out W (HB5.out.trans (hW.mono HB5.out.size)))
 rw [HOb.out,HOc.out] at hlsbc
 unfold nodeV at hlsbc
 simp only [] at hlsbc
 have hlsac:=fun (W:World) (hW:Below W5.heap.size W5 W)=>det_Less ta tc Aa Ac na nc ca cc W W5.heap.size 17 aT aF ((HLa5.out.keep (fun q hq=>hW.block q hq.2)).mono (fun q hq=>hq.2)) ((HLc5.out.keep (fun q hq=>hW.block q hq.2)).mono (fun q hq=>hq.2)) HTOa.out HTOc.out hW.size (by omega) (by omega) (HU.out W (HB5.out.trans (hW.mono HB5.out.size)))
 rw [HOa.out,HOc.out] at hlsac
 unfold nodeV at hlsac
 simp only [] at hlsac
 have hlsaa:=fun (W:World) (hW:Below W5.heap.size W5 W)=>det_Less ta ta Aa Aa na na ca ca W W5.heap.size 17 aT aF ((HLa5.out.keep (fun q hq=>hW.block q hq.2)).mono (fun q hq=>hq.2)) ((HLa5.out.keep (fun q hq=>hW.block q hq.2)).mono (fun q hq=>hq.2)) HTOa.out HTOa.out hW.size (by omega) (by omega) (HU.out W (HB5.out.trans (hW.mono HB5.out.size)))
 rw [HOa.out] at hlsaa
 unfold nodeV at hlsaa
 simp only [] at hlsaa
 have hfx:=keys_facts (a:=ta) (b:=tb) (c:=tc) (key_okC HLa5.out HTOa.out) (key_okC HLb5.out HTOb.out)
 have hck:=fun (W:World) (B d:Nat) (x:Value) (hl:ListAt W B d [ta,nulT,tb,nulT] x) (hB:B ≤ W.heap.size) (hW:Below W5.heap.size W5 W)=>tree_Check 2 flC (fits_at_C aT aF) (key2T ta tb) x W B d hl (show OwnOk mpO from okO2 mpO (by decide) (by decide) (by decide) (by decide) rfl rfl) hB (by
  show (Tr.nd mpO [ta,nulT,tb,nulT]).count ≤ _
  rw [Tr.count,countL,countL,countL,countL,countL,nul_facts.2.2.1]
  omega) (HU.out W (HB5.out.trans (hW.mono HB5.out.size)))
 obtain ⟨x,hx⟩:∃ x,lessT cbT ta tb=x:=⟨_,rfl⟩
 obtain ⟨y,hy⟩:∃ x,lessT cbT tb ta=x:=⟨_,rfl⟩
 obtain ⟨z,hz⟩:∃ x,lessT cbT tb tc=x:=⟨_,rfl⟩
 obtain ⟨v,hv⟩:∃ x,lessT cbT ta tc=x:=⟨_,rfl⟩
 obtain ⟨ck,hck0⟩:∃ ck,checkT 2 flC (key2T ta tb)=ck:=⟨_,rfl⟩
 simp only [hx] at hlsab
 simp only [hy] at hlsba
 simp only [hz] at hlsbc
 simp only [hv] at hlsac
 rw [hfx.2.2.1] at hlsaa
 rw [hx,hy,hz,hv,hck0] at hfx
 simp only [hck0] at hck
 have HXY:=Lib.hid hlsab
 have HYX:=Lib.hid hlsba
 have HZ:=Lib.hid hlsbc
 have HV:=Lib.hid hlsac
 have HAA:=Lib.hid hlsaa
 have HCK:=Lib.hid hck
 have HFX:=Lib.hid hfx
 clear hlsab hlsba hlsbc hlsac hlsaa hck hfx hx hy hz hv hck0
 go_wp2_with (first | (refine wpList_load_row rfl 28 (.tmp 3) rfl w.heap.size rfl 28 _ (0,0) _ HKa5.out Tryz.underlying28 rfl (by kernel_rfl) ?_) | (refine wpList_load_row rfl 28 (.tmp 4) rfl (w.heap.size + 1) rfl 28 _ (0,0) _ HKb5.out Tryz.underlying28 rfl (by kernel_rfl) ?_) | (refine wpList_load_row rfl 28 (.tmp 5) rfl (w.heap.size + 2) rfl 28 _ (0,0) _ HKc5.out Tryz.underlying28 rfl (by kernel_rfl) ?_))
 refine (HXY.out _ (Below.refl _ _)).mono ?_
 rintro e W6 ⟨rfl,hb6⟩
 have hka6:=HKa5.out.below hb6 HKa5.out.lt
 have HKa6:=Lib.hid hka6
 have hkb6:=HKb5.out.below hb6 HKb5.out.lt
 have HKb6:=Lib.hid hkb6
 have hkc6:=HKc5.out.below hb6 HKc5.out.lt
 have HKc6:=Lib.hid hkc6
 clear hka6 HKa5 hkb6 HKb5 hkc6 HKc5
 go_wp2_with (first | (refine wpList_load_row rfl 28 (.tmp 3) rfl w.heap.size rfl 28 _ (0,0) _ HKa6.out Tryz.underlying28 rfl (by kernel_rfl) ?_) | (refine wpList_load_row rfl 28 (.tmp 4) rfl (w.heap.size + 1) rfl 28 _ (0,0) _ HKb6.out Tryz.underlying28 rfl (by kernel_rfl) ?_) | (refine wpList_load_row rfl 28 (.tmp 5) rfl (w.heap.size + 2) rfl 28 _ (0,0) _ HKc6.out Tryz.underlying28 rfl (by kernel_rfl) ?_))
 refine (HYX.out _ hb6).mono ?_
 rintro e W7 ⟨rfl,hb67⟩
 have hb7:=hb6.trans (hb67.mono hb6.size)
 have hka7:=HKa6.out.below hb67 HKa6.out.lt
 have HKa7:=Lib.hid hka7
 have hkb7:=HKb6.out.below hb67 HKb6.out.lt
 have HKb7:=Lib.hid hkb7
 have hkc7:=HKc6.out.below hb67 HKc6.out.lt
 have HKc7:=Lib.hid hkc7
 clear hka7 HKa6 hkb7 HKb6 hkc7 HKc6
 clear hb67 hb6
 go_wp2_with (first | (refine wpList_load_row rfl 28 (.tmp 3) rfl w.heap.size rfl 28 _ (0,0) _ HKa7.out Tryz.underlying28 rfl (by kernel_rfl) ?_) | (refine wpList_load_row rfl 28 (.tmp 4) rfl (w.heap.size + 1) rfl 28 _ (0,0) _ HKb7.out Tryz.underlying28 rfl (by kernel_rfl) ?_) | (refine wpList_load_row rfl 28 (.tmp 5) rfl (w.heap.size + 2) rfl 28 _ (0,0) _ HKc7.out Tryz.underlying28 rfl (by kernel_rfl) ?_))
 refine (HZ.out _ hb7).mono ?_
 rintro e W8 ⟨rfl,hb78⟩
 have hb8:=hb7.trans (hb78.mono hb7.size)
 have hka8:=HKa7.out.below hb78 HKa7.out.lt
 have HKa8:=Lib.hid hka8
 have hkb8:=HKb7.out.below hb78 HKb7.out.lt
 have HKb8:=Lib.hid hkb8
 have hkc8:=HKc7.out.below hb78 HKc7.out.lt
 have HKc8:=Lib.hid hkc8
 clear hka8 HKa7 hkb8 HKb7 hkc8 HKc7
 clear hb78 hb7 HXY HYX HZ
 have HB8:=Lib.hid hb8
 clear hb8
 have kka:=fun i=>HKa8.out.cell i
 have kkc:=fun i=>HKc8.out.cell i
 cases x
 ·go_wp2_with fail
  refine (HAA.out _ HB8.out).mono ?_
  rintro e W9 ⟨rfl,hb9⟩
  clear HAA HV
  have hbv:=HB8.out.trans (hb9.mono HB8.out.size)
  have hka9:=HKa8.out.below hb9 HKa8.out.lt
  have hkb9:=HKb8.out.below hb9 HKb8.out.lt
  clear hb9 kka kkc
  obtain ⟨W10,hW10⟩:∃ W10,W9.alloc (.cells #[.int .i64 1,.bool false,.bool false,.string ⟨#[]⟩,.int .i64 0,.int .u64 0,.int .i64 0,.string ⟨#[]⟩,.slice none 0 0] 28)=W10:=⟨_,rfl⟩
  have hal:Below W9.heap.size W9 W10:=by rw [← hW10]; exact (Below.refl _ _).alloc (Nat.le_refl _) _
  have hb10:=hbv.trans (hal.mono hbv.size)
  have hkO:Blk W10 W9.heap.size #[.int .i64 1,.bool false,.bool false,.string ⟨#[]⟩,.int .i64 0,.int .u64 0,.int .i64 0,.string ⟨#[]⟩,.slice none 0 0] 28:=by rw [← hW10]; exact Blk.new _ _ _
  have HKO:=Lib.hid hkO
  have HKa10:=Lib.hid (hka9.below hal hka9.lt)
  have HKb10:=Lib.hid (hkb9.below hal hkb9.lt)
  have HW10:=Lib.hid hW10
  have HB10:=Lib.hid hb10
  clear hW10 hal hb10 hkO hka9 hkb9 hbv HKa8 HKb8 HKc8 HB8
  go_upto_region 11 with fail
  rw [HW10.out]
  clear HW10
  obtain ⟨W12,hW12⟩:∃ W12,(W10.alloc (.cells #[.int .i64 kinda,.bool ba,.bool nega,.string dga,.int .i64 exa,.int .u64 ua,.int .i64 wda,.string sa,.slice Aa na ca,.int .i64 1,.bool false,.bool false,.string ⟨#[]⟩,.int .i64 0,.int .u64 0,.int .i64 0,.string ⟨#[]⟩,.slice none 0 0,.int .i64 kindb,.bool bb,.bool negb,.string dgb,.int .i64 exb,.int .u64 ub,.int .i64 wdb,.string sb,.slice Ab nb cb,.int .i64 1,.bool false,.bool false,.string ⟨#[]⟩,.int .i64 0,.int .u64 0,.int .i64 0,.string ⟨#[]⟩,.slice none 0 0] 28)).alloc (.cells #[.int .i64 8,.bool false,.bool false,.string ⟨#[]⟩,.int .i64 0,.int .u64 0,.int .i64 0,.string ⟨#[]⟩,.slice (some ⟨W10.heap.size,0,none⟩) 4 4] 28)=W12:=⟨_,rfl⟩
  have hkR:Blk W12 W10.heap.size #[.int .i64 kinda,.bool ba,.bool nega,.string dga,.int .i64 exa,.int .u64 ua,.int .i64 wda,.string sa,.slice Aa na ca,.int .i64 1,.bool false,.bool false,.string ⟨#[]⟩,.int .i64 0,.int .u64 0,.int .i64 0,.string ⟨#[]⟩,.slice none 0 0,.int .i64 kindb,.bool bb,.bool negb,.string dgb,.int .i64 exb,.int .u64 ub,.int .i64 wdb,.string sb,.slice Ab nb cb,.int .i64 1,.bool false,.bool false,.string ⟨#[]⟩,.int .i64 0,.int .u64 0,.int .i64 0,.string ⟨#[]⟩,.slice none 0 0] 28:=by rw [← hW12]; exact (Blk.new _ _ _).alloc _
  have hkM:Blk W12 (W10.heap.size + 1) #[.int .i64 8,.bool false,.bool false,.string ⟨#[]⟩,.int .i64 0,.int .u64 0,.int .i64 0,.string ⟨#[]⟩,.slice (some ⟨W10.heap.size,0,none⟩) 4 4] 28:=by rw [← hW12]; exact blk_at (by simp) _ _
  have hal:Below W10.heap.size W10 W12:=by rw [← hW12]; exact ((Below.refl _ _).alloc (Nat.le_refl _) _).alloc (by simp) _
  have hz12:W12.heap.size=W10.heap.size + 2:=by rw [← hW12]; simp
  have hb12:=HB10.out.trans (hal.mono HB10.out.size)
  have hz10:=HB10.out.size
  have hrow:RowT W12 (fun q=>q < W10.heap.size) 17 [ta,nulT,tb,nulT] [.int .i64 kinda,.bool ba,.bool nega,.string dga,.int .i64 exa,.int .u64 ua,.int .i64 wda,.string sa,.slice Aa na ca,.int .i64 1,.bool false,.bool false,.string ⟨#[]⟩,.int .i64 0,.int .u64 0,.int .i64 0,.string ⟨#[]⟩,.slice none 0 0,.int .i64 kindb,.bool bb,.bool negb,.string dgb,.int .i64 exb,.int .u64 ub,.int .i64 wdb,.string sb,.slice Ab nb cb,.int .i64 1,.bool false,.bool false,.string ⟨#[]⟩,.int .i64 0,.int .u64 0,.int .i64 0,.string ⟨#[]⟩,.slice none 0 0]:=
   ⟨.slice Aa na ca,[.int .i64 1,.bool false,.bool false,.string ⟨#[]⟩,.int .i64 0,.int .u64 0,.int .i64 0,.string ⟨#[]⟩,.slice none 0 0,.int .i64 kindb,.bool bb,.bool negb,.string dgb,.int .i64 exb,.int .u64 ub,.int .i64 wdb,.string sb,.slice Ab nb cb,.int .i64 1,.bool false,.bool false,.string ⟨#[]⟩,.int .i64 0,.int .u64 0,.int .i64 0,.string ⟨#[]⟩,.slice none 0 0],by rw [HOa.out]; rfl,HTOa.out,(HLa5.out.keep (fun q hq=>hb12.block q hq.2)).mono (fun q hq=>by omega),.slice none 0 0,[.int .i64 kindb,.bool bb,.bool negb,.string dgb,.int .i64 exb,.int .u64 ub,.int .i64 wdb,.string sb,.slice Ab nb cb,.int .i64 1,.bool false,.bool false,.string ⟨#[]⟩,.int .i64 0,.int .u64 0,.int .i64 0,.string ⟨#[]⟩,.slice none 0 0],rfl,(show OwnOk nulT.own from okO2 _ (by decide) (by decide) (by decide) (by decide) rfl rfl),LAt.nil _ _ _ _ _,.slice Ab nb cb,[.int .i64 1,.bool false,.bool false,.string ⟨#[]⟩,.int .i64 0,.int .u64 0,.int .i64 0,.string ⟨#[]⟩,.slice none 0 0],by rw [HOb.out]; rfl,HTOb.out,(HLb5.out.keep (fun q hq=>hb12.block q hq.2)).mono (fun q hq=>by omega),.slice none 0 0,[],rfl,(show OwnOk nulT.own from okO2 _ (by decide) (by decide) (by decide) (by decide) rfl rfl),LAt.nil _ _ _ _ _,rfl⟩
  have hlx:=hrow.blkD (n:=4) hkR rfl rfl (by decide) (fun q hq=>by omega)
  have hc:Calls Tryz.prog 16 #[.agg #[.int .i64 8,.bool false,.bool false,.string ⟨#[]⟩,.int .i64 0,.int .u64 0,.int .i64 0,.string ⟨#[]⟩,.slice (some ⟨W10.heap.size,0,none⟩) 4 4],.int .i64 2] W12 fun e w'=>e=.returned (.int .i64 ck) ∧ Below W12.heap.size W12 w':=HCK.out W12 _ _ _ hlx (by omega) hb12
  have HC:=Lib.hid hc
  have HKM:=Lib.hid hkM
  have HB12:=Lib.hid hb12
  have HW12:=Lib.hid hW12
  clear hc hkM hb12 hW12 hkR hal hz12 hz10 hrow hlx HCK HLa5 HLb5 HLc5 HTOa HTOb HTOc HOa HOb HOc
  go_upto_region 12 with (first | (refine wpList_load_row rfl 28 (.tmp 3) rfl w.heap.size rfl 28 _ (0,0) _ HKa10.out Tryz.underlying28 rfl (by kernel_rfl) ?_) | (refine wpList_load_row rfl 28 (.tmp 4) rfl (w.heap.size + 1) rfl 28 _ (0,0) _ HKb10.out Tryz.underlying28 rfl (by kernel_rfl) ?_) | (refine wpList_load_row rfl 28 (.tmp 11) rfl W9.heap.size rfl 28 _ (0,0) _ HKO.out Tryz.underlying28 rfl (by kernel_rfl) ?_))
  rw [HW12.out]
  clear HW12 HKa10 HKb10 HKO
  go_wp2_with (refine wpList_load_row rfl 28 (.tmp 12) rfl (W10.heap.size + 1) rfl 28 _ (0,0) _ HKM.out Tryz.underlying28 rfl (by kernel_rfl) ?_)
  refine HC.out.mono ?_
  rintro e W13 ⟨rfl,hb13⟩
  have hbX:=HB5.out.trans ((HB12.out.trans (hb13.mono HB12.out.size)).mono HB5.out.size)
  have hbX:Below w.heap.size w W13:=hbX
  clear hb13 HC HB12 HB10
  by_cases h0:ck=0
  ·have hy:y=true:=by
    rcases HFX.out.2.2.2.1 h0 with h | h
    ·cases h
    ·exact h
   subst h0 hy
   go_wp2_with fail
   go_ret
   exact ⟨by simp,hbX⟩
  ·have hy:=(HFX.out.2.2.2.2 h0).2
   subst hy
   have y0:(ck == 0)=false:=by rw [beq_eq_false_iff_ne]; exact h0
   have kkm:=fun i=>HKM.out.cell i
   go_wp2_with fail
   go_ret
   exact ⟨by simp,hbX⟩
 ·obtain rfl:y=false:=HFX.out.1 rfl
  cases z
  ·go_wp2_with fail
   refine (HAA.out _ HB8.out).mono ?_
   rintro e W9 ⟨rfl,hb9⟩
   clear HAA HV
   have hbv:=HB8.out.trans (hb9.mono HB8.out.size)
   have hka9:=HKa8.out.below hb9 HKa8.out.lt
   have hkb9:=HKb8.out.below hb9 HKb8.out.lt
   clear hb9 kka kkc
   obtain ⟨W10,hW10⟩:∃ W10,W9.alloc (.cells #[.int .i64 1,.bool false,.bool false,.string ⟨#[]⟩,.int .i64 0,.int .u64 0,.int .i64 0,.string ⟨#[]⟩,.slice none 0 0] 28)=W10:=⟨_,rfl⟩
   have hal:Below W9.heap.size W9 W10:=by rw [← hW10]; exact (Below.refl _ _).alloc (Nat.le_refl _) _
   have hb10:=hbv.trans (hal.mono hbv.size)
   have hkO:Blk W10 W9.heap.size #[.int .i64 1,.bool false,.bool false,.string ⟨#[]⟩,.int .i64 0,.int .u64 0,.int .i64 0,.string ⟨#[]⟩,.slice none 0 0] 28:=by rw [← hW10]; exact Blk.new _ _ _
   have HKO:=Lib.hid hkO
   have HKa10:=Lib.hid (hka9.below hal hka9.lt)
   have HKb10:=Lib.hid (hkb9.below hal hkb9.lt)
   have HW10:=Lib.hid hW10
   have HB10:=Lib.hid hb10
   clear hW10 hal hb10 hkO hka9 hkb9 hbv HKa8 HKb8 HKc8 HB8
   go_upto_region 11 with fail
   rw [HW10.out]
   clear HW10
   obtain ⟨W12,hW12⟩:∃ W12,(W10.alloc (.cells #[.int .i64 kinda,.bool ba,.bool nega,.string dga,.int .i64 exa,.int .u64 ua,.int .i64 wda,.string sa,.slice Aa na ca,.int .i64 1,.bool false,.bool false,.string ⟨#[]⟩,.int .i64 0,.int .u64 0,.int .i64 0,.string ⟨#[]⟩,.slice none 0 0,.int .i64 kindb,.bool bb,.bool negb,.string dgb,.int .i64 exb,.int .u64 ub,.int .i64 wdb,.string sb,.slice Ab nb cb,.int .i64 1,.bool false,.bool false,.string ⟨#[]⟩,.int .i64 0,.int .u64 0,.int .i64 0,.string ⟨#[]⟩,.slice none 0 0] 28)).alloc (.cells #[.int .i64 8,.bool false,.bool false,.string ⟨#[]⟩,.int .i64 0,.int .u64 0,.int .i64 0,.string ⟨#[]⟩,.slice (some ⟨W10.heap.size,0,none⟩) 4 4] 28)=W12:=⟨_,rfl⟩
   have hkR:Blk W12 W10.heap.size #[.int .i64 kinda,.bool ba,.bool nega,.string dga,.int .i64 exa,.int .u64 ua,.int .i64 wda,.string sa,.slice Aa na ca,.int .i64 1,.bool false,.bool false,.string ⟨#[]⟩,.int .i64 0,.int .u64 0,.int .i64 0,.string ⟨#[]⟩,.slice none 0 0,.int .i64 kindb,.bool bb,.bool negb,.string dgb,.int .i64 exb,.int .u64 ub,.int .i64 wdb,.string sb,.slice Ab nb cb,.int .i64 1,.bool false,.bool false,.string ⟨#[]⟩,.int .i64 0,.int .u64 0,.int .i64 0,.string ⟨#[]⟩,.slice none 0 0] 28:=by rw [← hW12]; exact (Blk.new _ _ _).alloc _
   have hkM:Blk W12 (W10.heap.size + 1) #[.int .i64 8,.bool false,.bool false,.string ⟨#[]⟩,.int .i64 0,.int .u64 0,.int .i64 0,.string ⟨#[]⟩,.slice (some ⟨W10.heap.size,0,none⟩) 4 4] 28:=by rw [← hW12]; exact blk_at (by simp) _ _
   have hal:Below W10.heap.size W10 W12:=by rw [← hW12]; exact ((Below.refl _ _).alloc (Nat.le_refl _) _).alloc (by simp) _
   have hz12:W12.heap.size=W10.heap.size + 2:=by rw [← hW12]; simp
   have hb12:=HB10.out.trans (hal.mono HB10.out.size)
   have hz10:=HB10.out.size
   have hrow:RowT W12 (fun q=>q < W10.heap.size) 17 [ta,nulT,tb,nulT] [.int .i64 kinda,.bool ba,.bool nega,.string dga,.int .i64 exa,.int .u64 ua,.int .i64 wda,.string sa,.slice Aa na ca,.int .i64 1,.bool false,.bool false,.string ⟨#[]⟩,.int .i64 0,.int .u64 0,.int .i64 0,.string ⟨#[]⟩,.slice none 0 0,.int .i64 kindb,.bool bb,.bool negb,.string dgb,.int .i64 exb,.int .u64 ub,.int .i64 wdb,.string sb,.slice Ab nb cb,.int .i64 1,.bool false,.bool false,.string ⟨#[]⟩,.int .i64 0,.int .u64 0,.int .i64 0,.string ⟨#[]⟩,.slice none 0 0]:=
    ⟨.slice Aa na ca,[.int .i64 1,.bool false,.bool false,.string ⟨#[]⟩,.int .i64 0,.int .u64 0,.int .i64 0,.string ⟨#[]⟩,.slice none 0 0,.int .i64 kindb,.bool bb,.bool negb,.string dgb,.int .i64 exb,.int .u64 ub,.int .i64 wdb,.string sb,.slice Ab nb cb,.int .i64 1,.bool false,.bool false,.string ⟨#[]⟩,.int .i64 0,.int .u64 0,.int .i64 0,.string ⟨#[]⟩,.slice none 0 0],by rw [HOa.out]; rfl,HTOa.out,(HLa5.out.keep (fun q hq=>hb12.block q hq.2)).mono (fun q hq=>by omega),.slice none 0 0,[.int .i64 kindb,.bool bb,.bool negb,.string dgb,.int .i64 exb,.int .u64 ub,.int .i64 wdb,.string sb,.slice Ab nb cb,.int .i64 1,.bool false,.bool false,.string ⟨#[]⟩,.int .i64 0,.int .u64 0,.int .i64 0,.string ⟨#[]⟩,.slice none 0 0],rfl,(show OwnOk nulT.own from okO2 _ (by decide) (by decide) (by decide) (by decide) rfl rfl),LAt.nil _ _ _ _ _,.slice Ab nb cb,[.int .i64 1,.bool false,.bool false,.string ⟨#[]⟩,.int .i64 0,.int .u64 0,.int .i64 0,.string ⟨#[]⟩,.slice none 0 0],by rw [HOb.out]; rfl,HTOb.out,(HLb5.out.keep (fun q hq=>hb12.block q hq.2)).mono (fun q hq=>by omega),.slice none 0 0,[],rfl,(show OwnOk nulT.own from okO2 _ (by decide) (by decide) (by decide) (by decide) rfl rfl),LAt.nil _ _ _ _ _,rfl⟩
   have hlx:=hrow.blkD (n:=4) hkR rfl rfl (by decide) (fun q hq=>by omega)
   have hc:Calls Tryz.prog 16 #[.agg #[.int .i64 8,.bool false,.bool false,.string ⟨#[]⟩,.int .i64 0,.int .u64 0,.int .i64 0,.string ⟨#[]⟩,.slice (some ⟨W10.heap.size,0,none⟩) 4 4],.int .i64 2] W12 fun e w'=>e=.returned (.int .i64 ck) ∧ Below W12.heap.size W12 w':=HCK.out W12 _ _ _ hlx (by omega) hb12
   have HC:=Lib.hid hc
   have HKM:=Lib.hid hkM
   have HB12:=Lib.hid hb12
   have HW12:=Lib.hid hW12
   clear hc hkM hb12 hW12 hkR hal hz12 hz10 hrow hlx HCK HLa5 HLb5 HLc5 HTOa HTOb HTOc HOa HOb HOc
   go_upto_region 12 with (first | (refine wpList_load_row rfl 28 (.tmp 3) rfl w.heap.size rfl 28 _ (0,0) _ HKa10.out Tryz.underlying28 rfl (by kernel_rfl) ?_) | (refine wpList_load_row rfl 28 (.tmp 4) rfl (w.heap.size + 1) rfl 28 _ (0,0) _ HKb10.out Tryz.underlying28 rfl (by kernel_rfl) ?_) | (refine wpList_load_row rfl 28 (.tmp 11) rfl W9.heap.size rfl 28 _ (0,0) _ HKO.out Tryz.underlying28 rfl (by kernel_rfl) ?_))
   rw [HW12.out]
   clear HW12 HKa10 HKb10 HKO
   go_wp2_with (refine wpList_load_row rfl 28 (.tmp 12) rfl (W10.heap.size + 1) rfl 28 _ (0,0) _ HKM.out Tryz.underlying28 rfl (by kernel_rfl) ?_)
   refine HC.out.mono ?_
   rintro e W13 ⟨rfl,hb13⟩
   have hbX:=HB5.out.trans ((HB12.out.trans (hb13.mono HB12.out.size)).mono HB5.out.size)
   have hbX:Below w.heap.size w W13:=hbX
   clear hb13 HC HB12 HB10
   have h0:ck=0:=by
    by_cases h0:ck=0
    ·exact h0
    ·have:=(HFX.out.2.2.2.2 h0).1
     cases this
   subst h0
   go_wp2_with fail
   go_ret
   exact ⟨by simp,hbX⟩
  ·obtain rfl:v=true:=HFX.out.2.1 rfl rfl
   go_wp2_with fail
   refine (HV.out _ HB8.out).mono ?_
   rintro e W8b ⟨rfl,hb8b⟩
   have kka8:=fun i=>(HKa8.out.below hb8b HKa8.out.lt).cell i
   clear kka
   have hb8c:=HB8.out.trans (hb8b.mono HB8.out.size)
   go_wp2_with fail
   refine (HAA.out _ hb8c).mono ?_
   rintro e W9 ⟨rfl,hb9b⟩
   have hb9:=hb8b.trans (hb9b.mono hb8b.size)
   have kka:=kka8
   clear HAA HV hb8b hb8c hb9b kka8
   have hbv:=HB8.out.trans (hb9.mono HB8.out.size)
   have hka9:=HKa8.out.below hb9 HKa8.out.lt
   have hkb9:=HKb8.out.below hb9 HKb8.out.lt
   clear hb9 kka kkc
   obtain ⟨W10,hW10⟩:∃ W10,W9.alloc (.cells #[.int .i64 1,.bool false,.bool false,.string ⟨#[]⟩,.int .i64 0,.int .u64 0,.int .i64 0,.string ⟨#[]⟩,.slice none 0 0] 28)=W10:=⟨_,rfl⟩
   have hal:Below W9.heap.size W9 W10:=by rw [← hW10]; exact (Below.refl _ _).alloc (Nat.le_refl _) _
   have hb10:=hbv.trans (hal.mono hbv.size)
   have hkO:Blk W10 W9.heap.size #[.int .i64 1,.bool false,.bool false,.string ⟨#[]⟩,.int .i64 0,.int .u64 0,.int .i64 0,.string ⟨#[]⟩,.slice none 0 0] 28:=by rw [← hW10]; exact Blk.new _ _ _
   have HKO:=Lib.hid hkO
   have HKa10:=Lib.hid (hka9.below hal hka9.lt)
   have HKb10:=Lib.hid (hkb9.below hal hkb9.lt)
   have HW10:=Lib.hid hW10
   have HB10:=Lib.hid hb10
   clear hW10 hal hb10 hkO hka9 hkb9 hbv HKa8 HKb8 HKc8 HB8
   go_upto_region 11 with fail
   rw [HW10.out]
   clear HW10
   obtain ⟨W12,hW12⟩:∃ W12,(W10.alloc (.cells #[.int .i64 kinda,.bool ba,.bool nega,.string dga,.int .i64 exa,.int .u64 ua,.int .i64 wda,.string sa,.slice Aa na ca,.int .i64 1,.bool false,.bool false,.string ⟨#[]⟩,.int .i64 0,.int .u64 0,.int .i64 0,.string ⟨#[]⟩,.slice none 0 0,.int .i64 kindb,.bool bb,.bool negb,.string dgb,.int .i64 exb,.int .u64 ub,.int .i64 wdb,.string sb,.slice Ab nb cb,.int .i64 1,.bool false,.bool false,.string ⟨#[]⟩,.int .i64 0,.int .u64 0,.int .i64 0,.string ⟨#[]⟩,.slice none 0 0] 28)).alloc (.cells #[.int .i64 8,.bool false,.bool false,.string ⟨#[]⟩,.int .i64 0,.int .u64 0,.int .i64 0,.string ⟨#[]⟩,.slice (some ⟨W10.heap.size,0,none⟩) 4 4] 28)=W12:=⟨_,rfl⟩
   have hkR:Blk W12 W10.heap.size #[.int .i64 kinda,.bool ba,.bool nega,.string dga,.int .i64 exa,.int .u64 ua,.int .i64 wda,.string sa,.slice Aa na ca,.int .i64 1,.bool false,.bool false,.string ⟨#[]⟩,.int .i64 0,.int .u64 0,.int .i64 0,.string ⟨#[]⟩,.slice none 0 0,.int .i64 kindb,.bool bb,.bool negb,.string dgb,.int .i64 exb,.int .u64 ub,.int .i64 wdb,.string sb,.slice Ab nb cb,.int .i64 1,.bool false,.bool false,.string ⟨#[]⟩,.int .i64 0,.int .u64 0,.int .i64 0,.string ⟨#[]⟩,.slice none 0 0] 28:=by rw [← hW12]; exact (Blk.new _ _ _).alloc _
   have hkM:Blk W12 (W10.heap.size + 1) #[.int .i64 8,.bool false,.bool false,.string ⟨#[]⟩,.int .i64 0,.int .u64 0,.int .i64 0,.string ⟨#[]⟩,.slice (some ⟨W10.heap.size,0,none⟩) 4 4] 28:=by rw [← hW12]; exact blk_at (by simp) _ _
   have hal:Below W10.heap.size W10 W12:=by rw [← hW12]; exact ((Below.refl _ _).alloc (Nat.le_refl _) _).alloc (by simp) _
   have hz12:W12.heap.size=W10.heap.size + 2:=by rw [← hW12]; simp
   have hb12:=HB10.out.trans (hal.mono HB10.out.size)
   have hz10:=HB10.out.size
   have hrow:RowT W12 (fun q=>q < W10.heap.size) 17 [ta,nulT,tb,nulT] [.int .i64 kinda,.bool ba,.bool nega,.string dga,.int .i64 exa,.int .u64 ua,.int .i64 wda,.string sa,.slice Aa na ca,.int .i64 1,.bool false,.bool false,.string ⟨#[]⟩,.int .i64 0,.int .u64 0,.int .i64 0,.string ⟨#[]⟩,.slice none 0 0,.int .i64 kindb,.bool bb,.bool negb,.string dgb,.int .i64 exb,.int .u64 ub,.int .i64 wdb,.string sb,.slice Ab nb cb,.int .i64 1,.bool false,.bool false,.string ⟨#[]⟩,.int .i64 0,.int .u64 0,.int .i64 0,.string ⟨#[]⟩,.slice none 0 0]:=
    ⟨.slice Aa na ca,[.int .i64 1,.bool false,.bool false,.string ⟨#[]⟩,.int .i64 0,.int .u64 0,.int .i64 0,.string ⟨#[]⟩,.slice none 0 0,.int .i64 kindb,.bool bb,.bool negb,.string dgb,.int .i64 exb,.int .u64 ub,.int .i64 wdb,.string sb,.slice Ab nb cb,.int .i64 1,.bool false,.bool false,.string ⟨#[]⟩,.int .i64 0,.int .u64 0,.int .i64 0,.string ⟨#[]⟩,.slice none 0 0],by rw [HOa.out]; rfl,HTOa.out,(HLa5.out.keep (fun q hq=>hb12.block q hq.2)).mono (fun q hq=>by omega),.slice none 0 0,[.int .i64 kindb,.bool bb,.bool negb,.string dgb,.int .i64 exb,.int .u64 ub,.int .i64 wdb,.string sb,.slice Ab nb cb,.int .i64 1,.bool false,.bool false,.string ⟨#[]⟩,.int .i64 0,.int .u64 0,.int .i64 0,.string ⟨#[]⟩,.slice none 0 0],rfl,(show OwnOk nulT.own from okO2 _ (by decide) (by decide) (by decide) (by decide) rfl rfl),LAt.nil _ _ _ _ _,.slice Ab nb cb,[.int .i64 1,.bool false,.bool false,.string ⟨#[]⟩,.int .i64 0,.int .u64 0,.int .i64 0,.string ⟨#[]⟩,.slice none 0 0],by rw [HOb.out]; rfl,HTOb.out,(HLb5.out.keep (fun q hq=>hb12.block q hq.2)).mono (fun q hq=>by omega),.slice none 0 0,[],rfl,(show OwnOk nulT.own from okO2 _ (by decide) (by decide) (by decide) (by decide) rfl rfl),LAt.nil _ _ _ _ _,rfl⟩
   have hlx:=hrow.blkD (n:=4) hkR rfl rfl (by decide) (fun q hq=>by omega)
   have hc:Calls Tryz.prog 16 #[.agg #[.int .i64 8,.bool false,.bool false,.string ⟨#[]⟩,.int .i64 0,.int .u64 0,.int .i64 0,.string ⟨#[]⟩,.slice (some ⟨W10.heap.size,0,none⟩) 4 4],.int .i64 2] W12 fun e w'=>e=.returned (.int .i64 ck) ∧ Below W12.heap.size W12 w':=HCK.out W12 _ _ _ hlx (by omega) hb12
   have HC:=Lib.hid hc
   have HKM:=Lib.hid hkM
   have HB12:=Lib.hid hb12
   have HW12:=Lib.hid hW12
   clear hc hkM hb12 hW12 hkR hal hz12 hz10 hrow hlx HCK HLa5 HLb5 HLc5 HTOa HTOb HTOc HOa HOb HOc
   go_upto_region 12 with (first | (refine wpList_load_row rfl 28 (.tmp 3) rfl w.heap.size rfl 28 _ (0,0) _ HKa10.out Tryz.underlying28 rfl (by kernel_rfl) ?_) | (refine wpList_load_row rfl 28 (.tmp 4) rfl (w.heap.size + 1) rfl 28 _ (0,0) _ HKb10.out Tryz.underlying28 rfl (by kernel_rfl) ?_) | (refine wpList_load_row rfl 28 (.tmp 11) rfl W9.heap.size rfl 28 _ (0,0) _ HKO.out Tryz.underlying28 rfl (by kernel_rfl) ?_))
   rw [HW12.out]
   clear HW12 HKa10 HKb10 HKO
   go_wp2_with (refine wpList_load_row rfl 28 (.tmp 12) rfl (W10.heap.size + 1) rfl 28 _ (0,0) _ HKM.out Tryz.underlying28 rfl (by kernel_rfl) ?_)
   refine HC.out.mono ?_
   rintro e W13 ⟨rfl,hb13⟩
   have hbX:=HB5.out.trans ((HB12.out.trans (hb13.mono HB12.out.size)).mono HB5.out.size)
   have hbX:Below w.heap.size w W13:=hbX
   clear hb13 HC HB12 HB10
   have h0:ck=0:=by
    by_cases h0:ck=0
    ·exact h0
    ·have:=(HFX.out.2.2.2.2 h0).1
     cases this
   subst h0
   go_wp2_with fail
   go_ret
   exact ⟨by simp,hbX⟩
end Go.Proofs.YtonihophanmaaaaGreatDoor
namespace Go.Proofs.YtonihophanmaaaaGreatDoor
open Go.RowKit Go.Shelf Go.Lib

theorem laidMet_drop {P:Program} {W:World}:∀ (k:Nat) {l:List (String × DataW Unit)},laidMet P l W → laidMet P (l.drop k) W
 | 0,_,h=>h
 | _ + 1,[],h=>h
 | k + 1,_ :: _,h=>laidMet_drop k h.tail

set_option maxRecDepth 100000 in
theorem sentinel_of {n:String} {g:Nat} {text:List UInt8} {r:List (String × DataW Unit)} {W:World} (h:laidMet Tryz.prog ((n,.iface "*errors.errorString" (.ptr (.agg [.lit (.string text)]))) :: r) W)
  (hg:Tryz.prog.globalNamed n=some g) (ht:(Tryz.prog.globals[g]?).map (·.type)=some 48)
  (hi:∃ ms,Tryz.prog.underlying 48=some (.interface ms)) (hrow:∀ u,Tryz.prog.typeName? 3 u=some "*errors.errorString" → u=321)
  (he:∃ f:Field,Tryz.prog.underlying 323=some (.struct #[f]) ∧ f.type=9 ∧ f.offset=0) (hc:Tryz.prog.cellsOf 323=1) (hcs:Tryz.prog.cellsOf 9=1) :
  ∃ a:Addr,W.cell? ⟨g,0,none⟩=some (.iface 321 (.pointer (some a))) ∧ (∃ c t,W.heap[a.block]? = some (.cells c t (0,0))) ∧ ∃ s:ByteArray,W.cell? a=some (.string s) ∧ s.data.toList=text:=by
 obtain ⟨ms,hi⟩:=hi
 obtain ⟨f,he,hft,hfo⟩:=he
 obtain ⟨ps,⟨g0,t0,cs0,f0,p0,q0,hg0,ht0,hv0,hd0,_,e0⟩,_,hrows⟩:=h
 obtain rfl:=Option.some.inj (hg.symm.trans hg0)
 obtain rfl:=Option.some.inj (ht.symm.trans ht0)
 subst e0
 obtain ⟨l0⟩:=cs0
 have ok0:∀ u v,l0=[.iface u v] → Value.okWide Tryz.prog W .any 0 u v:=fun u v e=>by
  subst e
  exact (hrows g 0 (by simp [MemPlace.row])).2 u v (by simpa using World.var?_cell hg0 hv0 0)
 obtain ⟨a0,s0,rfl,hc0,hs0,hz0,rfl⟩:=errorString_of_trod hi hrow Tryz.underlying321 he hft hfo Tryz.underlying9 hc hcs hd0 ok0
 obtain ⟨c0,t0,hb0⟩:=(hrows a0.block a0.off (by simp [MemPlace.row])).1
 refine ⟨a0,?_,⟨c0,t0,hb0⟩,s0,hc0,hs0⟩
 simpa using World.var?_cell hg0 hv0 0

set_option maxRecDepth 100000 in
theorem u8extra:U8Extra Tryz.prog Tryz.lays196_ren:={ n3:=by kernel_rfl,n4:=by kernel_rfl,y3:=by kernel_rfl,y4:=by kernel_rfl,c5:=by kernel_rfl,c119:=by kernel_rfl,c138:=by kernel_rfl }
theorem es_star : "*" ++ "errors.errorString" = "*errors.errorString" := by decide
set_option maxRecDepth 100000 in
theorem es_row (u:TypeId) (h:Tryz.prog.typeName? 3 u=some "*errors.errorString"):u=321:=
 typeName_ptr_named (nm := "errors.errorString") (by rw [es_star]; kernel_rfl) (by kernel_rfl) (by decide) u (by rw [es_star]; exact h)
theorem es_iface:∃ ms,Tryz.prog.underlying 48=some (.interface ms):=⟨_,Tryz.underlying48⟩
theorem es_struct:∃ f:Field,Tryz.prog.underlying 323=some (.struct #[f]) ∧ f.type=9 ∧ f.offset=0:=⟨_,Tryz.underlying323,rfl,rfl⟩
set_option maxRecDepth 100000 in
theorem es_cells:Tryz.prog.cellsOf 323=1:=by kernel_rfl
set_option maxRecDepth 100000 in
theorem es_string:Tryz.prog.cellsOf 9=1:=by kernel_rfl
theorem wf_i64 {a:Int} (h:(Lit.int .i64 a).wf=true) : -9223372036854775808 ≤ a ∧ a < 9223372036854775808:=by
 simp [Lit.wf,IntKind.min,IntKind.max,IntKind.signed,IntKind.bits] at h
 omega
theorem cell_block_lt {w:World} {a:Addr} {v:Value} (h:w.cell? a=some v):a.block < w.heap.size:=by
 unfold World.cell? at h
 cases hh:w.heap[a.block]? with
 | none=>rw [hh] at h; cases h
 | some o=>exact (Array.getElem?_eq_some_iff.1 hh).1
set_option maxRecDepth 100000 in
theorem sentinel_var {n:String} {g:Nat} {text:List UInt8} {r:List (String × DataW Unit)} {W:World} (h:laidMet Tryz.prog ((n,.iface "*errors.errorString" (.ptr (.agg [.lit (.string text)]))) :: r) W)
  (hg:Tryz.prog.globalNamed n=some g) (ht:(Tryz.prog.globals[g]?).map (·.type)=some 48):∃ tp p,W.var? Tryz.prog n=some #[.iface tp p]:=by
 obtain ⟨ms,hi⟩:=es_iface
 obtain ⟨f,he,hft,hfo⟩:=es_struct
 obtain ⟨ps,⟨g0,t0,cs0,f0,p0,q0,hg0,ht0,hv0,hd0,_,e0⟩,_,hrows⟩:=h
 obtain rfl:=Option.some.inj (hg.symm.trans hg0)
 obtain rfl:=Option.some.inj (ht.symm.trans ht0)
 subst e0
 obtain ⟨l0⟩:=cs0
 have ok0:∀ u v,l0=[.iface u v] → Value.okWide Tryz.prog W .any 0 u v:=fun u v e=>by
  subst e
  exact (hrows g 0 (by simp [MemPlace.row])).2 u v (by simpa using World.var?_cell hg0 hv0 0)
 obtain ⟨a0,s0,rfl,hc0,hs0,hz0,rfl⟩:=errorString_of_trod hi es_row Tryz.underlying321 he hft hfo Tryz.underlying9 es_cells es_string hd0 ok0
 exact ⟨_,_,hv0⟩
set_option maxRecDepth 100000 in
theorem gR:Tryz.prog.globalNamed "strconv.ErrRange" = some 6:=by kernel_rfl
set_option maxRecDepth 100000 in
theorem tR:(Tryz.prog.globals[6]?).map (·.type)=some 48:=by kernel_rfl
end Go.Proofs.YtonihophanmaaaaGreatDoor
namespace Go.Proofs.YtonihophanmaaaaGreatDoor
open Go.RowKit Go.Shelf Go.Lib

set_option maxRecDepth 100000 in
theorem gTr:Tryz.prog.globalNamed "targum/tree.errTree" = some 0:=by kernel_rfl
set_option maxRecDepth 100000 in
theorem gFo:Tryz.prog.globalNamed "targum/tree.errForm" = some 1:=by kernel_rfl
set_option maxRecDepth 100000 in
theorem tTr:(Tryz.prog.globals[0]?).map (·.type)=some 48:=by kernel_rfl
set_option maxRecDepth 100000 in
theorem tFo:(Tryz.prog.globals[1]?).map (·.type)=some 48:=by kernel_rfl

structure GateLaid (l:List (String × DataW Unit)):Prop where
 eT:∃ k r,l.drop k=("targum/tree.errTree",.iface "*errors.errorString" (.ptr (.agg [.lit (.string [110,111,32,116,114,101,101])]))) :: r
 eF:∃ k r,l.drop k=("targum/tree.errForm",.iface "*errors.errorString" (.ptr (.agg [.lit (.string [110,111,32,115,117,99,104,32,102,111,114,109])]))) :: r
 ra:("unicode/utf8.acceptRanges",acceptData) ∈ l
 fi:("unicode/utf8.first",firstData) ∈ l
 eR:∃ k r,l.drop k=("strconv.ErrRange",.iface "*errors.errorString" (.ptr (.agg [.lit (.string [118,97,108,117,101,32,111,117,116,32,111,102,32,114,97,110,103,101])]))) :: r

theorem gw_of_laid {l:List (String × DataW Unit)} (hl:GateLaid l) {W:World} (h:laidMet Tryz.prog l W):∃ aT aF,GW W aT aF:=by
 obtain ⟨kT,rT,eT⟩:=hl.eT
 obtain ⟨kF,rF,eF⟩:=hl.eF
 obtain ⟨kR,rR,eR⟩:=hl.eR
 have hT:=laidMet_drop kT h
 have hF:=laidMet_drop kF h
 have hR:=laidMet_drop kR h
 rw [eT] at hT
 rw [eF] at hF
 rw [eR] at hR
 obtain ⟨aT,cT,bT,sT,dT,xT⟩:=sentinel_of hT gTr tTr es_iface es_row es_struct es_cells es_string
 obtain ⟨aF,cF,bF,sF,dF,xF⟩:=sentinel_of hF gFo tFo es_iface es_row es_struct es_cells es_string
 refine ⟨aT,aF,cT,cF,?_,bT,bF,?_,sentinel_var hR gR tR⟩
 ·rintro rfl
  rw [dT] at dF
  cases dF
  rw [xT] at xF
  cases xF
 ·obtain ⟨ps,hv,_,_⟩:=h
  exact utf8Tabs_of_readsT (U8Types.of196 Tryz.lays196) u8extra (LaidVars_reads hv _ _ hl.fi) (LaidVars_reads hv _ _ hl.ra)
end Go.Proofs.YtonihophanmaaaaGreatDoor
namespace Go.Proofs.YtonihophanmaaaaGreatDoor
open Go.RowKit Go.Shelf Go.Lib

noncomputable abbrev plainL:List (String × DataW Unit):=[("math/bits.deBruijn32tab",Rows.laid_math_bits_deBruijn32tab),("math/bits.deBruijn64tab",Rows.laid_math_bits_deBruijn64tab),("internal/strconv.uint64pow10",Rows.laid_internal_strconv_uint64pow10),("unicode/utf8.acceptRanges",Rows.laid_unicode_utf8_acceptRanges),("strconv.ErrRange",Rows.laid_strconv_ErrRange),("strconv.ErrSyntax",Rows.laid_strconv_ErrSyntax),("targum/tree.errTree",Rows.laid_targum_tree_errTree),("targum/tree.errForm",Rows.laid_targum_tree_errForm),("unicode/utf8.first",Rows.laid_unicode_utf8_first)]
noncomputable abbrev allL10:List (String × DataW Unit):=[("math/bits.deBruijn32tab",Rows.laid_math_bits_deBruijn32tab),("math/bits.deBruijn64tab",Rows.laid_math_bits_deBruijn64tab),("internal/strconv.uint64pow10",Rows.laid_internal_strconv_uint64pow10),("unicode/utf8.acceptRanges",Rows.laid_unicode_utf8_acceptRanges),("errors.errorType",Rows.laid_errors_errorType),("strconv.ErrRange",Rows.laid_strconv_ErrRange),("strconv.ErrSyntax",Rows.laid_strconv_ErrSyntax),("targum/tree.errTree",Rows.laid_targum_tree_errTree),("targum/tree.errForm",Rows.laid_targum_tree_errForm),("unicode/utf8.first",Rows.laid_unicode_utf8_first)]
set_option maxRecDepth 100000 in
theorem hand_parts {W:World} (h:laidMetH Tryz.prog allL10 W):laidMet Tryz.prog plainL W ∧ handlesMet Tryz.prog [("errors.errorType",Rows.laid_errors_errorType)] W:=by
 have e1:(allL10.filter fun x=>x.2.handleName?.isSome)=[("errors.errorType",Rows.laid_errors_errorType)]:=by kernel_rfl
 have e2:(allL10.filter fun x=>x.2.handleName?.isNone)=plainL:=by kernel_rfl
 unfold laidMetH at h
 rw [e1,e2] at h
 exact h
set_option maxRecDepth 100000 in
theorem hand_et:Tryz.prog.globalNamed "errors.errorType" = some 2:=by kernel_rfl
set_option maxRecDepth 100000 in
theorem hand_rt:(Tryz.prog.cutTypes.find? (·.1 == "internal/reflectlite.rtype")).map (·.2)=some 107:=by kernel_rfl
set_option maxRecDepth 100000 in
theorem hand_size:Tryz.prog.types.size=359:=by kernel_rfl
set_option maxRecDepth 100000 in
theorem hand_row:((List.range 359).filter fun t=>Tryz.prog.rowNamed t [101,114,114,111,114])=[48]:=by kernel_rfl
set_option maxRecDepth 100000 in
theorem hand_ty {W:World} (h:handlesMet Tryz.prog [("errors.errorType",Rows.laid_errors_errorType)] W):ErrTy W:=by
 obtain ⟨name,u,ty,e1,e2,e3,e4,e5⟩:=h _ (List.mem_singleton.2 rfl)
 have en:name=[101,114,114,111,114]:=(Option.some.inj e1).symm
 subst en
 obtain rfl:=Option.some.inj (hand_rt.symm.trans e2)
 have hm:ty ∈ (List.range 359).filter fun t=>Tryz.prog.rowNamed t [101,114,114,111,114]:=List.mem_filter.2 ⟨List.mem_range.2 (by rw [← hand_size]; exact e3),e4⟩
 rw [hand_row] at hm
 obtain rfl:=List.mem_singleton.1 hm
 have hh:typeHandle Tryz.prog 48=.pointer (some ⟨11,48,none⟩):=by kernel_rfl
 rw [hh] at e5
 simpa using World.var?_cell hand_et e5 0
set_option maxRecDepth 100000 in
theorem plain_gate:GateLaid plainL where
 eT:=⟨6,_,rfl⟩
 eF:=⟨7,_,rfl⟩
 ra:=by
  rw [show (acceptData:DataW Unit)=Rows.laid_unicode_utf8_acceptRanges from by kernel_rfl]
  exact .tail _ (.tail _ (.tail _ (.head _)))
 fi:=by
  rw [show (firstData:DataW Unit)=Rows.laid_unicode_utf8_first from by kernel_rfl]
  exact .tail _ (.tail _ (.tail _ (.tail _ (.tail _ (.tail _ (.tail _ (.tail _ (.head _))))))))
 eR:=⟨4,_,rfl⟩
set_option maxRecDepth 100000 in
theorem pow_g:Tryz.prog.globalNamed "internal/strconv.uint64pow10" = some 8:=by kernel_rfl
set_option maxRecDepth 100000 in
theorem pow_t:(Tryz.prog.globals[8]?).map (·.type)=some 326:=by kernel_rfl
set_option maxRecDepth 100000 in
theorem pow_u:Tryz.prog.cellsOf 25=1:=by kernel_rfl
set_option maxRecDepth 100000 in
theorem pow_c:Tryz.prog.cellsOf 326=20:=by kernel_rfl
set_option maxRecDepth 100000 in
theorem rw_of_laid {W:World} (h:laidMetH Tryz.prog allL10 W):∃ aT aF,RW W aT aF:=by
 obtain ⟨h1,h2⟩:=hand_parts h
 obtain ⟨aT,aF,hg⟩:=gw_of_laid plain_gate h1
 have h3:=laidMet_drop 2 h1
 exact ⟨aT,aF,hg,tabIs_of_head pow_g pow_t Tryz.underlying326 Tryz.underlying25 pow_u pow_c h3,hand_ty h2⟩

noncomputable def handW (os:Os):World:=
 let w0:=World.holding Tryz.prog os ⟨#[],#[],[]⟩
 { w0 with heap:=w0.heap.modify 2 fun
   | .cells _ t frozen=>.cells #[.iface 107 (.agg #[.pointer (some ⟨11,48,none⟩)])] t frozen
   | o=>o }
noncomputable def laidH (os:Os):World:=(handW os).layVars Tryz.prog plainL
theorem laidH_os (os:Os):(laidH os).os=os:=World.layVars_os _ _ _
set_option maxRecDepth 100000 in
theorem laidH_met (os:Os) (args:Array Value):laidMetH Tryz.prog allL10 ((laidH os).forCall (fun _ _=>0) ⟨#[],args,[]⟩).memory:=by
 refine laidMetH_of_parts ?_ ?_
 ·have e2:(allL10.filter fun x=>x.2.handleName?.isNone)=plainL:=by kernel_rfl
  rw [e2]
  have e3:(plainL.filter fun x=>(plainL.map (·.1)).contains x.1)=plainL:=List.filter_eq_self.2 fun x hx=>List.contains_iff_mem.2 (List.mem_map.2 ⟨x,hx,rfl⟩)
  have e4:(plainL.filter fun x=>!(plainL.map (·.1)).contains x.1)=[]:=List.filter_eq_nil_iff.2 fun x hx=>by rw [List.contains_iff_mem.2 (List.mem_map.2 ⟨x,hx,rfl⟩)]; simp
  have h:laidMet Tryz.prog plainL (laidH os):=laidMet_layVars (w0:=handW os) (plainL.map (·.1)) [] (by rw [e3]; rfl) (by rw [e3]; kernel_rfl) (by rw [e3]; kernel_rfl) (by rw [e4]; exact LaidIn.none)
  exact h.of_heap (by simp [World.memory,World.forCall,Input.heap])
 ·kernel_rfl
set_option maxRecDepth 100000 in
theorem laidH_shaped (os:Os) (args:Array Value):((laidH os).forCall (fun _ _=>0) ⟨#[],args,[]⟩).Shaped Tryz.prog:=World.shaped_of_ZipB (by kernel_rfl) (by kernel_rfl)
end Go.Proofs.YtonihophanmaaaaGreatDoor
namespace Go.Proofs.YtonihophanmaaaaGreatDoor
open Go.RowKit Go.Shelf Go.Lib

theorem tree_choose {p:Nat → Tr → Prop}:∀ (n:Nat),(∀ i,i < n → ∃ s,p i s) → ∃ l:List Tr,l.length=n ∧ ∀ i (h:i < l.length),p i l[i]
 | 0,_=>⟨[],rfl,fun i h=>by simp at h⟩
 | n + 1,h=>by
  obtain ⟨l,hl,hp⟩:=tree_choose n (fun i hi=>h i (by omega))
  obtain ⟨s,hs⟩:=h n (by omega)
  refine ⟨l ++ [s],by simp [hl],fun i hi=>?_⟩
  rw [List.getElem_append]
  split
  ·exact hp i _
  ·have:i=n:=by simp at hi; omega
   subst this
   simpa [hl] using hs
theorem wf_n64 {n:Int} (h:(Lit.int .u64 n).wf=true):0 ≤ n ∧ n < 18446744073709551616:=by
 simp [Lit.wf,IntKind.min,IntKind.max,IntKind.signed,IntKind.bits] at h
 omega
set_option maxRecDepth 100000 in
theorem cNode:Tryz.prog.cellsOf 28=9:=by kernel_rfl

section
variable {H:Type} {enc:TypeId × Value → H} {w:World} {base:Nat} {sp:Nat → Bool} {held:Bool}

theorem bulk_one (d:DataW H):1 ≤ Rows.uptoBulk d:=by
 cases d with
 | lit l=>cases l <;> simp [Rows.uptoBulk]
 | _=>simp [Rows.uptoBulk]
theorem bulk_part {d:DataW H} {l:List (DataW H)} (h:d ∈ l):Rows.uptoBulk d ≤ Rows.uptoBulkAll l:=by
 induction l with
 | nil=>cases h
 | cons x r ih =>
  simp only [Rows.uptoBulkAll]
  rcases List.mem_cons.1 h with rfl | h
  ·omega
  ·have:=ih h
   omega
theorem bulk_append (l r:List (DataW H)):Rows.uptoBulkAll (l ++ r)=Rows.uptoBulkAll l + Rows.uptoBulkAll r:=by
 induction l with
 | nil=>simp [Rows.uptoBulkAll]
 | cons x l ih=>simp only [List.cons_append,Rows.uptoBulkAll,ih]; omega
theorem bulk_count (D:Nat → DataW H):∀ (n:Nat) (l:List Tr),l.length=n → (∀ i (h:i < l.length),l[i].count ≤ Rows.uptoBulk (D i)) → countL l ≤ Rows.uptoBulkAll ((List.range n).map D)
 | 0,l,hl,_=>by
  obtain rfl:l=[]:=List.eq_nil_of_length_eq_zero hl
  simp [countL]
 | n + 1,l,hl,h=>by
  have hn:n < l.length:=by omega
  have e:l=l.take n ++ [l[n]]:=by
   rw [← List.take_succ_eq_append_getElem hn,List.take_of_length_le (by omega)]
  have ih:=bulk_count D n (l.take n) (by rw [List.length_take]; omega) (fun i hi=>by
   rw [List.length_take] at hi
   rw [List.getElem_take]
   exact h i (by omega))
  rw [List.range_succ,List.map_append,bulk_append]
  have h1:=h n hn
  have h2:countL l=countL (l.take n) + countL [l[n]]:=by
   rw [← countL_append,← e]
  rw [h2]
  simp only [countL,List.map_cons,List.map_nil,Rows.uptoBulkAll]
  omega

set_option maxHeartbeats 1000000 in
set_option maxRecDepth 100000 in
theorem open_node:∀ (b fuel:Nat) (cs:List Value) (x:DataW H × List MemPlace),DataW.trod enc Tryz.prog w base sp held fuel 28 cs=some x → Rows.uptoBulk x.1 ≤ b →
  ∃ (t:Tr) (v:Value),cs=nodeCells t.own v ∧ ListAt w w.heap.size b t.kids v ∧ OwnOk t.own ∧ t.count ≤ Rows.uptoBulk x.1:=by
 intro b
 induction b with
 | zero =>
  intro fuel cs x _ hx
  have:=bulk_one x.1
  omega
 | succ b ih =>
  intro fuel cs x h hb
  obtain ⟨xs,n,rfl,rfl,hl,hxl,hall⟩:=DataW.trod_struct Tryz.underlying28 h
  rw [cNode] at hl
  match cs,hl with
  | [c0,c1,c2,c3,c4,c5,c6,c7,c8],_ =>
   match xs,hxl with
   | [x0,x1,x2,x3,x4,x5,x6],_ =>
    have h0:=hall 0 _ rfl
    have h1:=hall 1 _ rfl
    have h2:=hall 2 _ rfl
    have h3:=hall 3 _ rfl
    have h4:=hall 4 _ rfl
    have h5:=hall 5 _ rfl
    have h6:=hall 6 _ rfl
    obtain ⟨kind,e0,_,w0⟩:=DataW.trod_int Tryz.underlying3 h0
    obtain ⟨bb,e1,_⟩:=DataW.trod_bool Tryz.underlying4 h1
    obtain ⟨u,e3,_,w3⟩:=DataW.trod_int Tryz.underlying25 h3
    obtain ⟨wd,e4,_,w4⟩:=DataW.trod_int Tryz.underlying3 h4
    obtain ⟨s,e5,_,w5⟩:=DataW.trod_string Tryz.underlying9 h5
    obtain ⟨ys,m,_,hx2,hl2,hyl,hall2⟩:=DataW.trod_struct Tryz.underlying24 h2
    match ys,hyl with
    | [y0,y1,y2],_ =>
     have g0:=hall2 0 _ rfl
     have g1:=hall2 1 _ rfl
     have g2:=hall2 2 _ rfl
     obtain ⟨neg,f0,_⟩:=DataW.trod_bool Tryz.underlying4 g0
     obtain ⟨dg,f1,_,v1⟩:=DataW.trod_string Tryz.underlying9 g1
     obtain ⟨ex,f2,_,v2⟩:=DataW.trod_int Tryz.underlying3 g2
     have e0:[c0]=[_]:=e0
     have e1:[c1]=[_]:=e1
     have e3:[c5]=[_]:=e3
     have e4:[c6]=[_]:=e4
     have e5:[c7]=[_]:=e5
     have f0:[c2]=[_]:=f0
     have f1:[c3]=[_]:=f1
     have f2:[c4]=[_]:=f2
     cases e0
     cases e1
     cases e3
     cases e4
     cases e5
     cases f0
     cases f1
     cases f2
     have hok:OwnOk ⟨kind,bb,neg,dg,ex,u,wd,s⟩:=⟨by simpa [maxLen] using v1,by simpa [maxLen] using w5,wf_i64 w0,wf_i64 v2,wf_n64 w3,wf_i64 w4⟩
     have hbulk:Rows.uptoBulk x6.1 + 1 ≤ Rows.uptoBulk (DataW.agg ([x0,x1,x2,x3,x4,x5,x6].map (·.1))):=by
      simp only [Rows.uptoBulk,List.map_cons,List.map_nil,Rows.uptoBulkAll]
      omega
     have h6:DataW.trod enc Tryz.prog w base sp held n 26 [c8]=some x6:=h6
     clear hall hall2 h h0 h1 h2 h3 h4 h5 g0 g1 g2 e1 e3 e4 e5 f0 f1 f2 w0 w3 w4 w5 v1 v2
     rcases Go.Deep.open_slice Tryz.underlying26 h6 with ⟨e6,_⟩ | ⟨a,len,cap,m',n',D,Pl,e6,hab,hlc,hm,hmm,hx6,hx⟩
     ·cases e6
      refine ⟨.nd ⟨kind,bb,neg,dg,ex,u,wd,s⟩ [],.slice none 0 0,rfl,LAt.nil _ _ _ _ _,hok,?_⟩
      rw [Tr.count_eq]
      show 1 + countL [] ≤ _
      rw [countL]
      exact bulk_one _
     ·cases e6
      have hlm:len ≤ m':=by rw [hmm]; split <;> omega
      rw [cNode] at hx
      have hd6:x6.1=DataW.slice ((List.range len).map D) ((List.range (m' - len)).map fun j=>D (len + j)):=by rw [hx6]
      rw [hd6] at hbulk
      have hb2:Rows.uptoBulkAll ((List.range len).map D) + 2 ≤ Rows.uptoBulk (DataW.agg ([x0,x1,x2,x3,x4,x5,x6].map (·.1))):=by
       have:Rows.uptoBulk (DataW.slice ((List.range len).map D) ((List.range (m' - len)).map fun j=>D (len + j)))=Rows.uptoBulkAll ((List.range len).map D) + Rows.uptoBulkAll ((List.range (m' - len)).map fun j=>D (len + j)) + 1:=by simp only [Rows.uptoBulk]
       rw [this] at hbulk
       omega
      have hbD:∀ i,i < len → Rows.uptoBulk (D i) ≤ b:=fun i hi=>by
       have h1:=bulk_part (d:=D i) (l:=(List.range len).map D) (List.mem_map.2 ⟨i,List.mem_range.2 hi,rfl⟩)
       have hb':Rows.uptoBulk (DataW.agg ([x0,x1,x2,x3,x4,x5,x6].map (·.1))) ≤ b + 1:=hb
       omega
      obtain ⟨l,hll,hp⟩:=tree_choose (p:=fun i t=>∃ v,(∀ j q,(nodeCells t.own v)[j]? = some q → w.cell? (a.add (i * 9 + j))=some q) ∧ a.block < w.heap.size ∧ ListAt w w.heap.size b t.kids v ∧ OwnOk t.own ∧ t.count ≤ Rows.uptoBulk (D i)) len (fun i hi=>by
       obtain ⟨cs',h1,h2⟩:=hx i (by omega)
       obtain ⟨t,v,e,h3,h4,h5⟩:=ih n' cs' (D i,Pl i) h2 (hbD i hi)
       subst e
       obtain ⟨_,hlen,hc⟩:=World.cells?_some h1
       have hcc:∀ j q,(nodeCells t.own v)[j]? = some q → w.cell? (a.add (i * 9 + j))=some q:=fun j q hq=>by
        have hj:j < 9:=(List.getElem?_eq_some_iff.1 hq).1
        rw [← add_add',hc j hj,hq]
       refine ⟨t,v,hcc,?_,h3,h4,h5⟩
       have:=cell_block_lt (hcc 0 _ rfl)
       rwa [add_block] at this)
      refine ⟨.nd ⟨kind,bb,neg,dg,ex,u,wd,s⟩ l,.slice (some a) len cap,rfl,⟨some a,cap,by rw [← hll]; rfl,⟨by show l.length ≤ _; simp [maxLen] at hm; omega,by show l.length ≤ _; omega⟩,fun i hi=>?_⟩,hok,?_⟩
      ·obtain ⟨v,g1,g2,g3,g4,_⟩:=hp i hi
       exact ⟨a,v,rfl,g2,g4,g1,g3⟩
      ·rw [Tr.count_eq]
       show 1 + countL l ≤ Rows.uptoBulk (DataW.agg ([x0,x1,x2,x3,x4,x5,x6].map (·.1)))
       have:=bulk_count D len l hll (fun i hi=>by
        obtain ⟨_,_,_,_,_,g5⟩:=hp i hi
        exact g5)
       omega
set_option maxRecDepth 100000 in
theorem open_tree {W:World} {r:Reach} {b0:Nat} {v:Value} {d:DataW H} {ps:List MemPlace} (hval:Value.okWide Tryz.prog W r b0 28 v) (hd:DataW.Trod enc Tryz.prog w base sp held 28 v d ps) :
  ∃ (t:Tr) (x:Value),v=nodeV t.own x ∧ ListAt w w.heap.size (Rows.uptoBulk d) t.kids x ∧ OwnOk t.own ∧ t.count ≤ Rows.uptoBulk d:=by
 obtain ⟨fuel,hf⟩:=hd
 obtain ⟨t,x,e,h1,h2,h3⟩:=open_node (Rows.uptoBulk d) fuel _ _ hf (Nat.le_refl _)
 refine ⟨t,x,?_,h1,h2,h3⟩
 obtain ⟨cs,rfl,_⟩:=Go.WideShapes.okWide_struct Tryz.underlying28 hval
 have e:cs.toList=nodeCells t.own x:=e
 rw [nodeCells_eq,← e]
end
end Go.Proofs.YtonihophanmaaaaGreatDoor
namespace Go.Proofs.YtonihophanmaaaaGreatDoor.detKeys
open Go.ChangeShapes Go.WideShapes Go.ChangeAt Go.RowKit Go.Lib
open Go.ChangeMaps (open_string shut_string)

theorem own:ownKnob Tryz.prog.godebug=none:=by kernel_rfl
theorem laidOut:laidOutB Tryz.prog=true:=by kernel_rfl
theorem listed:Rows.detKeysUptoRow.laid=allL10:=rfl

abbrev zArgs:Array Value:=#[zeroN,zeroN,zeroN]
noncomputable abbrev laidW (os:Os):World:=((laidH os).forCall (fun _ _=>0) ⟨#[],zArgs,[]⟩).memory
set_option maxRecDepth 100000 in
set_option maxHeartbeats 2000000 in
theorem lifted (os:Os) (started:os.Started) (H:Type) (enc:TypeId × Value → H) (F:Stop.Interp) :
  ReturnsInHanded {} Tryz.checked os 4 .any ((Rows.OpenSpec.upto Rows.detKeysSpec).preRow enc Tryz.prog Tryz.f4 Rows.detKeysUptoRow.domain false Rows.detKeysUptoRow.laid) (((Rows.OpenSpec.upto Rows.detKeysSpec).at F).post enc Tryz.prog Tryz.f4 false true false false):=by
 have hs:(DataW.whole enc Tryz.prog (laidW os) Tryz.f4.params.toList Rows.detKeysSpec.vars false zArgs.toList 8).isSome=true:=by kernel_rfl
 refine returnsInHanded_of_row (C:=Tryz.checked) (s:=Rows.OpenSpec.upto Rows.detKeysSpec) own started (by kernel_rfl) Tryz.func4
  ⟨laidH os,fun _ _=>0,⟨#[],zArgs,[]⟩,laidH_os os,laidH_shaped os _,
   rfl,(Input.okWide_of_okWideB (P:=Tryz.prog) (w:=(laidH os).forCall (fun _ _=>0) ⟨#[],zArgs,[]⟩) (f:=4) (i:=⟨#[],zArgs,[]⟩) (by kernel_rfl)).2,
   OpenSpec.preRow_of_cond 8 (Option.some_get hs).symm (by kernel_rfl) (fun k hk=>by cases hk; kernel_rfl) (by kernel_rfl) (by
    rw [listed]
    exact laidH_met os _),by
   simp only [Assume.holds]
   exact ⟨by simp,by simp,fun _=>Modest.zero,by simp,by simp⟩⟩ ?_
 intro W base args ds gs before hval0 hW _ hcond _ hL _ _
 have hval:∀ (j:Nat) t v,Tryz.f4.params[j]? = some t → args[j]? = some v → Value.okWide Tryz.prog W .any base t v:=hval0
 have hW':=hW
 obtain ⟨p,q,hA0,hV,rfl,_,_⟩:=hW
 have hA:DataW.TrodAll enc Tryz.prog W 0 (fun _=>true) true Tryz.f4.params.toList args.toList ds p:=hA0
 rw [Tryz.params4] at hA hval
 obtain ⟨v0,vs0,d0,ds0,p0,q0,hargs,rfl,rfl,h0,r0⟩:=trodAll_cons hA
 obtain ⟨v1,vs1,d1,ds1,p1,q1,rfl,rfl,rfl,h1,r1⟩:=trodAll_cons r0
 obtain ⟨v2,vs2,d2,ds2,p2,q2,rfl,rfl,rfl,h2,r2⟩:=trodAll_cons r1
 obtain ⟨rfl,rfl,rfl⟩:=trodAll_nil r2
 obtain rfl:args = #[v0,v1,v2]:=by cases args; simp_all
 obtain ⟨rfl,rfl⟩:=trodVars_none hV
 have hbulk:Rows.uptoBulk d0 ≤ 1048576 ∧ Rows.uptoBulk d1 ≤ 1048576 ∧ Rows.uptoBulk d2 ≤ 1048576:=by
  have:=hcond _ rfl
  have h:Rows.uptoBulkAll ([d0,d1,d2] ++ []) ≤ 1048576:=of_decide_eq_true this
  simp only [List.append_nil,Rows.uptoBulkAll] at h
  omega
 obtain ⟨t0,x0,rfl,ht0,hto0,htc0⟩:=open_tree (hval 0 28 v0 rfl rfl) h0
 obtain ⟨t1,x1,rfl,ht1,hto1,htc1⟩:=open_tree (hval 1 28 v1 rfl rfl) h1
 obtain ⟨t2,x2,rfl,ht2,hto2,htc2⟩:=open_tree (hval 2 28 v2 rfl rfl) h2
 rw [listed] at hL
 obtain ⟨aT,aF,hU⟩:=rw_of_laid hL
 refine (keys_walkD t0 t1 t2 x0 x1 x2 W hU _ _ _ ht0 hto0 (by omega) ht1 hto1 (by omega) ht2 hto2 (by omega)).mono fun e W' ⟨he,hb⟩=>?_
 subst he
 exact ⟨_,rfl,law_post laidOut (by kernel_rfl) rfl Tryz.underlying4 rfl rfl rfl rfl hW' hb⟩

end Go.Proofs.YtonihophanmaaaaGreatDoor.detKeys
namespace Go.Proofs.YtonihophanmaaaaGreatDoor.detKeys
open Go.ChangeShapes Go.WideShapes Go.ChangeAt Go.RowKit Go.Lib
open Go.ChangeMaps (open_string shut_string)

theorem k_place:(Rows.detKeysUptoRow.inPlace == Tryz.pinned.checked.prog.inPlace 4)=true:=by kernel_rfl
theorem k_unf:(Rows.detKeysUptoRow.unfollowed == Tryz.pinned.checked.prog.unfollowed 4)=true:=by kernel_rfl
theorem k_rec:(Rows.detKeysUptoRow.recurses == Tryz.pinned.checked.prog.recurses 4)=true:=by kernel_rfl
theorem k_named:(Rows.detKeysUptoRow.named == Tryz.pinned.checked.prog.varsNamed 4)=true:=by kernel_rfl
theorem named_f:Tryz.pinned.checked.prog.funcNamed Rows.detKeysUptoRow.func=some 4:=by kernel_rfl
theorem closed_f:joinedFacts Tryz.pinned.checked.prog 4 Tryz.f4 (Rows.OpenSpec.upto Rows.detKeysSpec).bare Rows.detKeysUptoRow=true:=by
 unfold joinedFacts
 rw [k_place,k_unf,k_rec,k_named]
 kernel_rfl

theorem over:Rows.DetKeysUptoSaid:=
 OpenClaim.holds_of_cond 4 Tryz.f4 rfl rfl rfl rfl rfl rfl rfl ⟨rfl,rfl,rfl,rfl,rfl⟩ rfl rfl rfl rfl rfl named_f Tryz.func4 closed_f
  (of_decide_eq_true (by kernel_rfl)) (by unfold Func.isWrapper; first | (rw [if_pos (by decide +kernel)]; kernel_rfl) | (rw [if_neg (by decide +kernel)]; exact ⟨rfl,rfl⟩))
  (fun os started H enc _ F=>by rw [OpenClaim.pre_eq_preRow]; exact lifted os started H enc F)

end Go.Proofs.YtonihophanmaaaaGreatDoor.detKeys
namespace Go.Proofs.YtonihophanmaaaaGreatDoor.detKeys
open Go.ChangeShapes Go.WideShapes Go.ChangeAt Go.RowKit Go.Lib
open Go.ChangeMaps (open_string shut_string)

theorem proved:Rows.DetKeysUptoCardSaid:=
 Claim7.holds_tied_plain_at .later [] [.data,.data,.data,.data,.handle,.sentinel,.sentinel,.sentinel,.sentinel,.pinned] true Rows.detKeysUptoCard.stood.harness true over (fun _ h=>by cases h) (by kernel_rfl) (fun _ h=>by cases h) detKeysUpto_row_tie rfl ⟨rfl,rfl⟩ (by kernel_rfl) rfl
  (fun f fn hf hfn=>by
   obtain rfl:f=4:=Option.some.inj ((show Tryz.prog.funcNamed Rows.detKeysUptoRow.func=some 4 by kernel_rfl).symm.trans hf) |>.symm
   obtain rfl:fn=Tryz.f4:=(Option.some.inj (Tryz.func4.symm.trans hfn)).symm
   exact ⟨by kernel_rfl,fun j t ht=>by
    rw [Tryz.params4] at ht
    have hm:t ∈ [28,28,28]:=by simpa using Array.mem_of_getElem? ht
    have hall:([28,28,28].all fun u=>!Tryz.prog.wantsStandIn u)=true:=by kernel_rfl
    exact (show Tryz.prog.wantsStandIn t=false by simpa using List.all_eq_true.1 hall t hm)⟩)
  (by kernel_rfl)
#print axioms proved
end Go.Proofs.YtonihophanmaaaaGreatDoor.detKeys
