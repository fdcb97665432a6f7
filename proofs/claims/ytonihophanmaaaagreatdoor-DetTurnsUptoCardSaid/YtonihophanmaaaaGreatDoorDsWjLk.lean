/- DetTurns, where what it reads is of bulk at most 1048576: the law returns true and its arguments read as they did; the listed variables hold what the program's text lays (tied). No other condition. Printed by genlawch.py. -/
import Derived.Test.YtonihophanmaaaaGreatDoorPa01
import Derived.Test.YtonihophanmaaaaGreatDoorPa02
import Derived.Test.YtonihophanmaaaaGreatDoorPa03
import Derived.Test.YtonihophanmaaaaGreatDoorPa04
import Derived.Test.YtonihophanmaaaaGreatDoorPa05
import Derived.Test.YtonihophanmaaaaGreatDoorPa06
import Derived.Test.YtonihophanmaaaaGreatDoorPa07
import Derived.Test.YtonihophanmaaaaGreatDoorPa08
import Derived.Test.YtonihophanmaaaaGreatDoorPa09
import Derived.Test.YtonihophanmaaaaGreatDoorPa10
import Derived.Test.YtonihophanmaaaaGreatDoorPa11
import Derived.Test.YtonihophanmaaaaGreatDoorPa12
import Derived.Test.YtonihophanmaaaaGreatDoorPa13
import Derived.Test.YtonihophanmaaaaGreatDoorPa14
import Derived.Test.YtonihophanmaaaaGreatDoorPa15
import Derived.Test.YtonihophanmaaaaGreatDoorPa16
import Derived.Test.YtonihophanmaaaaGreatDoorPa17
import Derived.Test.YtonihophanmaaaaGreatDoorPa18
import Derived.Test.YtonihophanmaaaaGreatDoorPa19
import Derived.Test.YtonihophanmaaaaGreatDoorPa20
import Derived.Test.YtonihophanmaaaaGreatDoorPa21
import Derived.Test.YtonihophanmaaaaGreatDoorPa22
import Derived.Test.YtonihophanmaaaaGreatDoorPa23
import Derived.Test.YtonihophanmaaaaGreatDoorPa24
import Derived.Test.YtonihophanmaaaaGreatDoorPa25
import Derived.Test.YtonihophanmaaaaGreatDoorPa26
import Derived.Test.YtonihophanmaaaaGreatDoorPa27
import Derived.Test.YtonihophanmaaaaGreatDoorPa28
import Derived.Test.YtonihophanmaaaaGreatDoorPa29
import Derived.Test.YtonihophanmaaaaGreatDoorPa30
import Derived.Test.YtonihophanmaaaaGreatDoorPa31
import Derived.Test.YtonihophanmaaaaGreatDoorPa32
import Derived.Test.YtonihophanmaaaaGreatDoorPa33
import Derived.Test.YtonihophanmaaaaGreatDoorPa34
import Derived.Test.YtonihophanmaaaaGreatDoorPa35
import Derived.Test.YtonihophanmaaaaGreatDoorPa36
import Derived.Test.YtonihophanmaaaaGreatDoorPa37
import Derived.Test.YtonihophanmaaaaGreatDoorPa38
import Derived.Test.YtonihophanmaaaaGreatDoorPa39
import Derived.Test.YtonihophanmaaaaGreatDoorPa40
import Derived.Test.YtonihophanmaaaaGreatDoorPa41
import Derived.Test.YtonihophanmaaaaGreatDoorPa42
import Derived.Test.YtonihophanmaaaaGreatDoorPa43
import Derived.Test.YtonihophanmaaaaGreatDoorPa44
import Derived.Test.YtonihophanmaaaaGreatDoorPa45
import Derived.Test.YtonihophanmaaaaGreatDoorPa46
import Derived.Test.YtonihophanmaaaaGreatDoorPa47
import Derived.Test.YtonihophanmaaaaGreatDoorRows
import Derived.WalkKit
import Derived.WalkSpells
import Derived.WalkLawsBesides
import Derived.RangeFuncNested
import Derived.RangeFuncBound
import Derived.RangeFuncCalls
import Derived.RangeFuncLeaves
import Derived.Shelf.Abstract
import Derived.Shelf.RegionOpen
import Derived.OwnWalkIn
import Derived.TacticsInMore
import Derived.LoopNIn
import Derived.LoopIn
import Derived.Laws.BytesArg
import Derived.ScopeJumps
import Derived.ProofKit
import Derived.OpenShut
import Derived.ShutString
import Derived.WalkMore
import Derived.Lib.Hide
import Derived.Laws.IdiomStrings
import Derived.Sort.Walk0
import Derived.BigQuiet
import Derived.Deep.QuietTactic
import Derived.StillTailTactics
import Derived.Lib.SmallJoins
import Derived.Lib.Strings
import Derived.Lib.AtoiAll
import Derived.Lib.ItoaNum
import Derived.Lib.ValidU
import Derived.Sort.Statements
import Derived.Outline
import Derived.Deep.AppendLies
import Derived.Laws.Rows
import Derived.Laws.Tables
import Derived.Deep.MidRow
import Derived.Shelf.SlSortCmp.WholeK
import Derived.Ground.SlsfProg
import Derived.Ground.NamesProg
import Derived.Shelf.Strings.Builder1
import Derived.Shelf.Strings.Builder2
import Derived.Shelf.Strings.Trim
import Derived.Shelf.Small.Utf8
import Derived.Shelf.Small.Bits
import Derived.Shelf.Small.Strs
import Derived.Shelf.Strings.BuilderF
import Derived.Shelf.Strings.BuilderK
import Derived.Shelf.Strings.Builder2Cap
import Derived.Shelf.Strconv.Itoa0
import Derived.Shelf.Strconv.Itoa1
import Derived.Shelf.LaysM
import Derived.Shelf.Strconv.Itoa2
import Derived.Shelf.Strconv.Itoa3
import Derived.Shelf.Strconv.Clone
import Derived.Shelf.Strconv.SyntaxError
import Derived.Shelf.LaysC
import Derived.Shelf.Strconv.ToError
import Derived.Shelf.Strconv.Lower
import Derived.Shelf.Strconv.ParseUint10
import Derived.Shelf.Strconv.ParseUint10Empty
import Derived.Shelf.Strconv.ParseUint10Any
import Derived.Shelf.Strconv.RangeError
import Derived.Shelf.Strconv.ToErrorRange
import Derived.Shelf.Strconv.ParseUintEmpty
import Derived.Shelf.Strconv.ParseUint10b64
import Derived.Shelf.Strconv.ParseUint10b32
import Derived.Shelf.Strconv.ParseUint10b16
import Derived.Shelf.Strconv.ParseUint10b8
import Derived.Shelf.Strconv.ParseUint10At
import Derived.Ground.MpProg
import Derived.Shelf.Pu.ParseUintPublic10
import Derived.Shelf.Pu.ErrVarParseUint
import Derived.Shelf.Strings.Search1
import Derived.Shelf.Strings.Prefix
import Derived.Shelf.Unicode.Decode
import Derived.Shelf.Strings.Runes
import Derived.Shelf.Strings.AsciiSet
import Derived.Shelf.Bits.Mul64
import Derived.Shelf.Strings.Repeat
import Derived.Shelf.Unicode.DecodeSlow
import Derived.Shelf.Unicode.DecodeAny
import Derived.Shelf.Unicode.DecodeLast
import Derived.Shelf.Strings.BuilderCap
import Derived.Shelf.Slices.Turned
import Derived.Shelf.Unicode.ValidAny
import Derived.Sort.OwnSorted
import Derived.Lib.FrozenHead
import Derived.RegionCalls
import Derived.Lib.AsciiSet
import Derived.Deep.RegionHeld3
import Derived.Lib.ParseIntBCases
import Derived.Lib.AtoiErrMem
import Derived.RegionTactic
import Derived.Laws.BitsLemmas
import Derived.IntWalk
import Derived.BigRegion
import Derived.Laws.Bits64b
import Derived.RangeFuncWrites
import Derived.Carry
import Derived.Orders
import Derived.Still
import Derived.StillTail
import Derived.Great.Walk
import Derived.LaidEql
import Derived.Stop.Asserts
import Derived.RowKitTokens
import Derived.OrdersIn
import Derived.TacticsIn
import Derived.ArgAppend
import Derived.Lib.LazyBuf
import Derived.Laws.MakeOwn
import Derived.Laws.IdiomCopy
import Derived.Lib.AppendIntMem
import Derived.Deep.Upon
import Derived.Lib.LaidU8T
import Derived.PinnedBridge
import Derived.Stop.LaidErr
import Derived.Stop.Joined
import Derived.LaidMore
import Derived.LaidLaws
import Derived.Lay
import Derived.SevenTiedAt
import Derived.Lib.LaidTab
import Derived.LaidHandle
import Derived.Deep.Slices
import Derived.ChangeArms
import Derived.WideShapes
import Derived.Deep.DeepHandedRow
import Derived.Test.YtonihophanmaaaaGreatDoorCards
import Derived.Test.YtonihophanmaaaaGreatDoorTie
namespace Go.Proofs.YtonihophanmaaaaGreatDoor
open Go.RowKit Go.Shelf Go.ChangeShapes Go.WideShapes Go.ChangeAt
theorem none_below {W W':World} (h:W.grownBy W' none):Below W.heap.size W W':=⟨h.os,h.tape,h.output,h.size,fun k hk=>h.block k hk (by simp)⟩
end Go.Proofs.YtonihophanmaaaaGreatDoor
namespace Go.Proofs.YtonihophanmaaaaGreatDoor
open Go.RowKit Go.Shelf
section
variable (it:Tr→List UInt8)
theorem sort_eq {a b:List (Tr×Tr)} (h:a.Perm b) (ha:ItemsApart it a):sortP it a=sortP it b:=
 rises_one it _ _ ((sort_perm it a).trans (h.trans (sort_perm it b).symm)) (sort_rises it a ha) (sort_rises it b (apart_perm it h ha))
variable (nar:Own→Own)
mutual
def turnT:Tr→Tr
 | .nd o l=>if o.kind=8∧l.length % 2=0 then .nd o (unp (turnP l).reverse) else .nd o (turnL l)
def turnL:List Tr→List Tr
 | []=>[]
 | t::l=>turnT t::turnL l
def turnP:List Tr→List (Tr×Tr)
 | []=>[]
 | [_]=>[]
 | k::v::l=>(k,turnT v)::turnP l
end
end
end Go.Proofs.YtonihophanmaaaaGreatDoor
namespace Go.Proofs.YtonihophanmaaaaGreatDoor
open Go.RowKit Go.Shelf
section
variable {it:Tr→List UInt8} {nar:Own→Own} {G:Tr→Prop}
theorem turn_own (t:Tr):(turnT t).own=t.own:=by
 cases t
 rw [turnT]
 split <;> rfl
theorem turnL_len:∀ l:List Tr,(turnL l).length=l.length
 | []=>by rw [turnL]
 | t::l=>by rw [turnL,List.length_cons,turnL_len l,List.length_cons]
theorem turnP_len:∀ l:List Tr,(turnP l).length=l.length / 2
 | []=>by rw [turnP]; rfl
 | [_]=>by rw [turnP]; simp
 | k::v::l=>by rw [turnP,List.length_cons,turnP_len l,List.length_cons,List.length_cons]; omega
theorem turnP_keys:∀ l:List Tr,l.length % 2=0→keysL (unp (turnP l))=keysL l
 | [],_=>by rw [turnP]; rfl
 | [_],h=>by simp at h
 | k::v::l,h=>by rw [turnP,unp,keysL,keysL,turnP_keys l (by simp at h; omega)]
mutual
theorem set_turn (hG:ItemsOk it G):∀ t,allB t=true→G t→setT it nar (turnT t)=setT it nar t
 | .nd o l,h,hg=>by
  obtain ⟨h1,h2⟩:=own_of_all h
  have hgl:=hG.kids o l hg
  rw [turnT]
  by_cases h8:o.kind=8
  ·obtain ⟨he,hk⟩:=own_even h1 h8
   have h4:¬ o.kind=4:=by omega
   rw [if_pos ⟨h8,he⟩,setT,if_neg h4,if_pos h8,setT,if_neg h4,if_pos h8,setP_unp,List.map_reverse,set_turnP hG l h2 hgl]
   rw [sort_eq it (List.reverse_perm _) (apart_perm it (List.reverse_perm _).symm (setP_apart (nar:=nar) hG l ((keysB_iff l).1 hk) hgl))]
  ·rw [if_neg (fun q=>h8 q.1)]
   by_cases h4:o.kind=4
   ·have hl:=own_float h1 h4
    subst hl
    rw [turnL]
   ·rw [setT,if_neg h4,if_neg h8,setT,if_neg h4,if_neg h8,set_turnL hG l h2 hgl]
theorem set_turnL (hG:ItemsOk it G):∀ l,allL l=true→(∀ t∈l,G t)→setL it nar (turnL l)=setL it nar l
 | [],_,_=>by rw [turnL]
 | t::l,h,hg=>by
  obtain ⟨h1,h2⟩:=all_cons h
  rw [turnL,setL,setL,set_turn hG t h1 (hg t (by simp)),set_turnL hG l h2 (fun x hx=>hg x (by simp [hx]))]
theorem set_turnP (hG:ItemsOk it G):∀ l,allL l=true→(∀ t∈l,G t)→(turnP l).map (fun p=>(p.1,setT it nar p.2))=setP it nar l
 | [],_,_=>by rw [turnP,setP]; rfl
 | [_],_,_=>by rw [turnP,setP]; rfl
 | k::v::l,h,hg=>by
  obtain ⟨h1,h2⟩:=all_cons h
  obtain ⟨h3,h4⟩:=all_cons h2
  rw [turnP,setP,List.map_cons,set_turn hG v h3 (hg v (by simp)),set_turnP hG l h4 (fun x hx=>hg x (by simp [hx]))]
end
end
theorem ownB_odd {o:Own} {l:List Tr} (h8:o.kind=8) (hl:¬ l.length % 2=0):ownB o l=false:=by
 cases h:ownB o l with
 | false=>rfl
 | true=>exact absurd (own_even h h8).1 hl
mutual
theorem turn_inv:∀ t:Tr,(turnT t).count=t.count∧(turnT t).depth=t.depth∧allB (turnT t)=allB t
 | .nd o l=>by
  rw [turnT]
  split
  ·rename_i h
   obtain ⟨h8,he⟩:=h
   obtain ⟨a1,a2,a3⟩:=turn_invP l he
   have hp:=List.reverse_perm (turnP l)
   have hlen:(unp (turnP l)).length=l.length:=by rw [unp_len,turnP_len]; omega
   refine ⟨by rw [Tr.count,Tr.count,perm_count hp,a1],by rw [Tr.depth,Tr.depth,perm_depth hp,a2],?_⟩
   rw [allB,allB,perm_all hp,a3,ownB_map h8 (l':=l) (by rw [unp_len,hp.length_eq,turnP_len]; omega) (by rw [perm_keysB hp]; exact keysB_keys hlen (turnP_keys l he))]
  ·rename_i h
   obtain ⟨a1,a2,a3⟩:=turn_invL l
   refine ⟨by rw [Tr.count,Tr.count,a1],by rw [Tr.depth,Tr.depth,a2],?_⟩
   rw [allB,allB,a3]
   by_cases h8:o.kind=8
   ·have hl:¬ l.length % 2=0:=fun q=>h ⟨h8,q⟩
    rw [ownB_odd h8 hl,ownB_odd h8 (by rw [turnL_len]; exact hl)]
   ·rw [ownB_len h8 (turnL_len l)]
theorem turn_invL:∀ l:List Tr,countL (turnL l)=countL l∧depthL (turnL l)=depthL l∧allL (turnL l)=allL l
 | []=>by rw [turnL]; exact ⟨rfl,rfl,rfl⟩
 | t::l=>by
  obtain ⟨a1,a2,a3⟩:=turn_inv t
  obtain ⟨b1,b2,b3⟩:=turn_invL l
  rw [turnL]
  exact ⟨by rw [countL,countL,a1,b1],by rw [depthL,depthL,a2,b2],by rw [allL,allL,a3,b3]⟩
theorem turn_invP:∀ l:List Tr,l.length % 2=0→countL (unp (turnP l))=countL l∧depthL (unp (turnP l))=depthL l∧allL (unp (turnP l))=allL l
 | [],_=>by rw [turnP,unp]; exact ⟨rfl,rfl,rfl⟩
 | [_],h=>by simp at h
 | k::v::l,h=>by
  obtain ⟨a1,a2,a3⟩:=turn_inv v
  obtain ⟨b1,b2,b3⟩:=turn_invP l (by simp at h; omega)
  rw [turnP,unp]
  exact ⟨by simp only [countL,a1,b1],by simp only [depthL,a2,b2],by simp only [allL,a3,b3]⟩
end
mutual
theorem turn_fit (f:Int) (fl:Own→Bool):∀ t:Tr,allB t=true→fitT f fl (turnT t)=fitT f fl t
 | .nd o l,h=>by
  obtain ⟨h1,h2⟩:=own_of_all h
  rw [turnT]
  by_cases h8:o.kind=8
  ·obtain ⟨he,_⟩:=own_even h1 h8
   have hp:=List.reverse_perm (turnP l)
   have hlen:(unp (turnP l)).length=l.length:=by rw [unp_len,turnP_len]; omega
   rw [if_pos ⟨h8,he⟩,fitT,fitT,perm_fit f fl hp,turn_fitP f fl l h2 he]
   congr 1
   unfold fitO
   rw [h8]
   simp only [show ¬ (8:Int)=4 by decide,show ¬ (8:Int)=3 by decide,show ¬ (8:Int)=6 by decide,show ¬ ((8:Int)=9∨(8:Int)=10) by decide,show ¬ (8:Int)=11 by decide,if_false,if_true]
   rw [perm_keys f hp,keysFit_keys f hlen (turnP_keys l he)]
  ·rw [if_neg (fun q=>h8 q.1),fitT,fitT,turn_fitL f fl l h2]
   congr 1
   unfold fitO
   rw [if_neg h8,if_neg h8]
theorem turn_fitL (f:Int) (fl:Own→Bool):∀ l:List Tr,allL l=true→fitL f fl (turnL l)=fitL f fl l
 | [],_=>by rw [turnL]
 | t::l,h=>by
  obtain ⟨h1,h2⟩:=all_cons h
  rw [turnL,fitL,fitL,turn_fit f fl t h1,turn_fitL f fl l h2]
theorem turn_fitP (f:Int) (fl:Own→Bool):∀ l:List Tr,allL l=true→l.length % 2=0→fitL f fl (unp (turnP l))=fitL f fl l
 | [],_,_=>by rw [turnP,unp]
 | [_],_,h=>by simp at h
 | k::v::l,h,he=>by
  obtain ⟨h1,h2⟩:=all_cons h
  obtain ⟨h3,h4⟩:=all_cons h2
  rw [turnP,unp]
  simp only [fitL,turn_fit f fl v h3,turn_fitP f fl l h4 (by simp at he; omega)]
end
theorem turn_check (f:Int) (fl:Own→Bool) (t:Tr):checkT f fl (turnT t)=checkT f fl t:=by
 obtain ⟨a1,a2,a3⟩:=turn_inv t
 have hr:rightT (turnT t)=rightT t:=by
  unfold rightT
  rw [a1,a2,a3]
 unfold checkT
 rw [hr]
 by_cases h:rightT t=true
 ·rw [if_pos h,if_pos h]
  unfold rightT at h
  rw [Bool.and_eq_true,Bool.and_eq_true]at h
  rw [turn_fit f fl t h.2.2]
 ·rw [if_neg h,if_neg h]
end Go.Proofs.YtonihophanmaaaaGreatDoor
namespace Go.Proofs.YtonihophanmaaaaGreatDoor
open Go.RowKit Go.Shelf
theorem wpList_append_run {P:Program} (w:World) {ops:Array Oper} {rest:List Oper} {o:Oper} {a:Act} {Q:Exit→Act→World→Prop}
  (hg:o.guard=none) (s x:Operand) (t:TypeId) (hop:o.op=.call { callee:=.builtin .append,args:=#[s,x],argTypes:=#[t,t] }) (v vx r:Value) (w':World)
  (hs:a.eval s=v) (hx:a.eval x=vx) (hrun:(Builtin.append_ #[t,t] o.type #[v,vx]).run P w=.ok r w') (hK:wpList P ops Q rest (a.put o.dst r) w') :
  wpList P ops Q (o::rest) a w:=by
 refine wpList_plain hg fun K hK'=>?_
 unfold Oper.wp execOp
 simp only [hop,resolve,invoke,builtin,Sem.run_bind,Sem.run_pure,Result.andThen_ok,List.map_toArray,List.map_cons,List.map_nil,hs,hx,hrun]
 exact hK' _ _ hK
end Go.Proofs.YtonihophanmaaaaGreatDoor
namespace Go.Proofs.YtonihophanmaaaaGreatDoor
open Go.RowKit Go.Shelf
theorem few_okD {t:Tr} (h:OwnOk t.own):OwnOk (fewT t).own:=by
 rw [fewT_own]
 exact cut_ok h
end Go.Proofs.YtonihophanmaaaaGreatDoor
namespace Go.Proofs.YtonihophanmaaaaGreatDoor
open Go.RowKit Go.Shelf
theorem turnL_map:∀ l:List Tr,turnL l=l.map turnT
 | []=>by rw [turnL]; rfl
 | t::l=>by rw [turnL,turnL_map l]; rfl
theorem turnP_get:∀ (l:List Tr) (i:Nat) (h:i<(turnP l).length) (k v:Tr),l[2*i]? = some k→l[2*i+1]? = some v→(turnP l)[i]=(k,turnT v)
 | [],i,h,_,_,_,_=>by simp [turnP]at h
 | [_],i,h,_,_,_,_=>by simp [turnP]at h
 | a::b::l,0,_,k,v,hk,hv=>by
  cases hk
  cases hv
  simp only [turnP]
  rfl
 | a::b::l,i+1,h,k,v,hk,hv=>by
  have h1:i<(turnP l).length:=by simpa [turnP] using h
  rw [show 2*(i+1)=2*i+1+1 by omega]at hk hv
  simp only [turnP,List.getElem_cons_succ]
  exact turnP_get l i h1 k v hk hv
def turnI (b:Bool) (l:List Tr) (i:Nat):List Tr:=if b=true then unp ((turnP l).take (i / 2)).reverse else (turnL l).take i
theorem turnI_zero (b:Bool) (l:List Tr):turnI b l 0=[]:=by
 unfold turnI
 split
 ·rfl
 ·rfl
theorem turnI_one (l:List Tr) (i:Nat) (h:i<l.length):turnI false l (i+1)=turnI false l i++[turnT l[i]]:=by
 have h1:i<(turnL l).length:=by rw [turnL_len]; exact h
 have e:(turnL l)[i]=turnT l[i]:=by simp [turnL_map]
 unfold turnI
 rw [if_neg (by decide),if_neg (by decide),List.take_succ_eq_append_getElem h1,e]
theorem turnI_even (l:List Tr) (i:Nat) (h:i % 2=0):turnI true l (i+1)=turnI true l i:=by
 unfold turnI
 rw [if_pos rfl,if_pos rfl,show (i+1) / 2=i / 2 by omega]
theorem turnI_odd (l:List Tr) (j:Nat) (h:j % 2=0) (hj:j+1<l.length):turnI true l (j+2)=l[j]::turnT l[j+1]::turnI true l (j+1):=by
 have h1:j / 2<(turnP l).length:=by rw [turnP_len]; omega
 have e:=turnP_get l (j / 2) h1 l[j] l[j+1] (by rw [show 2*(j / 2)=j by omega]; exact List.getElem?_eq_getElem (by omega)) (by rw [show 2*(j / 2)+1=j+1 by omega]; exact List.getElem?_eq_getElem hj)
 unfold turnI
 rw [if_pos rfl,if_pos rfl,show (j+2) / 2=j / 2+1 by omega,show (j+1) / 2=j / 2 by omega,List.take_succ_eq_append_getElem h1,e,List.reverse_append]
 rfl
theorem turnI_len (l:List Tr) (k:Nat) (h:k≤l.length):(turnI true l k).length=2*(k / 2):=by
 unfold turnI
 rw [if_pos rfl,unp_len,List.length_reverse,List.length_take,turnP_len]
 omega
theorem turnI_all (o:Own) (l:List Tr):turnI (decide (o.kind=8) && decide (l.length % 2=0)) l l.length=(turnT (.nd o l)).kids:=by
 unfold turnI
 rw [turnT]
 by_cases h:o.kind=8∧l.length % 2=0
 ·rw [if_pos h,if_pos (by simp [h.1,h.2]),List.take_of_length_le (by rw [turnP_len]; omega)]
  rfl
 ·rw [if_neg h,if_neg (by simpa using h),List.take_of_length_le (by rw [turnL_len]; omega)]
  rfl
theorem turn_snoc {N d1 g m c:Nat} {S:Nat→Prop} {w wr W3 W4:World} {cs cs2:Array Value} {v:Value} {xs zs:List Value} {L:List Tr} {t:Tr} {y:Value} (hS:∀ q,S q→q<N) (hown:wr.ownsRow (N+2) 28 9 v m xs)
  (hrow:RowT wr (fun r=>(S r∨N+2≤r)∧r<wr.heap.size∧v.ownBlock≠some r) d1 L xs) (hbw:Below N w wr) (hb1:Blk wr N cs 28) (hb2:Blk wr (N+1) cs2 28) (hb:Below wr.heap.size wr W3) (hot:OwnOk t.own) (hly:LAt W3 (fun r=>(S r∨wr.heap.size≤r)∧r<W3.heap.size) d1 t.kids y)
  (hg:W3.grownBy W4 v.ownBlock) (hat:v.ownBlock=some g∨g=W3.heap.size) (hz:nodeCells t.own y=zs) :
  RowT W4 (fun r=>(S r∨N+2≤r)∧r<W4.heap.size∧(Value.slice (some ⟨g,0,none⟩) (m+1) c).ownBlock≠some r) d1 (L++[t]) (xs++zs)∧Below N w W4∧Blk W4 N cs 28∧Blk W4 (N+1) cs2 28:=by
 subst hz
 have hv:∀ q,v.ownBlock=some q→N+2≤q∧q<wr.heap.size:=fun q e=>hown.lt q e
 have hl2:=hb2.lt
 have hz3:=hb.size
 have hz4:=hg.size
 have keep:∀ q,q<W3.heap.size→v.ownBlock≠some q→W4.heap[q]? = W3.heap[q]? := fun q hq hne=>hg.block q hq (fun e=>hne e.symm)
 have hgq:∀ q,(Value.slice (some (⟨g,0,none⟩:Addr)) (m+1) c).ownBlock=some q→v.ownBlock=some q∨q=W3.heap.size:=fun q e=>by
  have e':g=q:=by simpa [Value.ownBlock] using e
  subst e'
  exact hat
 have hSq:∀ q,S q→q<N:=hS
 have one:LAt W4 (fun r=>(S r∨N+2≤r)∧r<W4.heap.size∧(Value.slice (some ⟨g,0,none⟩) (m+1) c).ownBlock≠some r) d1 t.kids y:=by
  have hno:∀ q,(S q∨wr.heap.size≤q)∧q<W3.heap.size→v.ownBlock≠some q:=fun q hq e=>by
   have:=hv q e
   rcases hq.1 with h | h
   ·have:=hS q h
    omega
   ·omega
  refine (hly.keep (fun q hq=>keep q hq.2 (hno q hq))).mono (fun q hq=>⟨hq.1.imp id (by omega),by omega,fun e=>?_⟩)
  rcases hgq q e with h | h
  ·exact hno q hq h
  ·omega
 have old:RowT W4 (fun r=>(S r∨N+2≤r)∧r<W4.heap.size∧(Value.slice (some ⟨g,0,none⟩) (m+1) c).ownBlock≠some r) d1 L xs:=by
  refine ((hrow.keep (fun q hq=>hb.block q hq.2.1)).keep (fun q hq=>keep q (by omega) hq.2.2)).mono (fun q hq=>⟨hq.1,by omega,fun e=>?_⟩)
  rcases hgq q e with h | h
  ·exact hq.2.2 h
  ·omega
 refine ⟨RowT.append (RowT.one hot one) old,(hbw.trans (hb.mono (by have:=hbw.size; omega))).grown hg (by have:=hbw.size; omega) (fun q e=>(by have:=(hv q e).1; omega)),?_,?_⟩
 ·exact (keep N (by omega) (fun e=>by have:=(hv _ e).1; omega)).trans ((hb.block N (by omega)).trans hb1)
 ·exact (keep (N+1) (by omega) (fun e=>by have:=(hv _ e).1; omega)).trans ((hb.block (N+1) hl2).trans hb2)
theorem ownsRow_base {W:World} {B B' size n:Nat} {e:TypeId} {v:Value} {xs:List Value} (hB:B≤B') (h:W.ownsRow B' e size v n xs):W.ownsRow B e size v n xs:=
 ⟨h.1,h.2.imp id (fun ⟨g,cap,cur,hv,hb,r⟩=>⟨g,cap,cur,hv,Nat.le_trans hB hb,r⟩)⟩
theorem pair_ahead {B m zb:Nat} {X:World} {zs:Array Value} {v:Value} {xs ys:List Value} (hown:X.ownsRow B 28 9 v m xs) (hB:B≤zb) (hblk:Blk X zb zs 28) (hz:ys.toArray=zs) (hzl:ys.length=2*9) (hm:m≤1000000) :
  ∃ A2 c2 W4,(Builtin.append_ #[26,26] 26 #[.slice (some ⟨zb,0,none⟩) 2 2,v]).run Tryz.prog X=.ok (.slice A2 (m+2) c2) W4 ∧
   W4.ownsRow B 28 9 (.slice A2 (m+2) c2) (m+2) (ys++xs)∧Below X.heap.size X W4∧∀ q,(Value.slice A2 (m+2) c2).ownBlock=some q→q=zb∨X.heap.size≤q:=by
 have hbz:=hblk.lt
 obtain ⟨i0,hi,hz0,hz1,hz2⟩:=info_parts infoNode
 by_cases h0:m=0
 ·subst h0
  have hx0:xs=[]:=List.eq_nil_of_length_eq_zero (by rw [hown.1,Nat.zero_mul])
  subst hx0
  obtain ⟨A',c',rfl⟩:=own_sliceT hown
  refine ⟨some ⟨zb,0,none⟩,2,X,?_,⟨by rw [List.append_nil,hzl],.inr ⟨zb,2,zs,rfl,hB,hblk,Nat.le_refl _,by decide,by rw [← hz,List.size_toArray,hzl],by rw [← hz,List.append_nil,List.take_of_length_le (by rw [hzl]; exact Nat.le_refl _)]⟩⟩,Below.refl _ _,fun q e=>.inl (by simpa [Value.ownBlock] using e.symm)⟩
  refine run_append_nothing X _ _ _ _ i0 Tryz.underlying26 hi (some ⟨zb,0,none⟩) 2 2 (Nat.le_refl 2) _ ?_
  cases A' with
  | none=>exact Src.ofNil X Tryz.underlying26 c'
  | some a=>exact Src.ofSlice X Tryz.underlying26 a 0 c' [] (by simp) (fun j u hj=>by simp at hj) (fun u hu=>by cases hu)
 ·obtain ⟨g',cap,rfl,hg1,hg2⟩:=hown.form (by omega)
  obtain ⟨_,hlies⟩:=Lies.own hown
  obtain ⟨a,ha,_,hc⟩:=hlies (by omega)
  cases ha
  obtain ⟨v',W4,hrun,hown4,hg4⟩:=run_append_arg_grows (P:=Tryz.prog) X 26 26 28 i0 _ 9 104 Tryz.underlying26 hi hz0 hz1 hz2 rfl (by decide) ⟨zb,0,none⟩ 2 2 ys hzl (fun j u hj=>by
   rw [addr0,hblk.cell,← hz]
   simpa using hj) ⟨g',0,none⟩ m cap xs hown.1 (fun j u hj=>hc j u hj) (by omega) (by unfold maxLen; omega) (by omega)
  rw [show 2+m=m+2 by omega]at hown4
  have hb4:=none_below hg4
  obtain ⟨A2,c2,rfl⟩:=own_sliceT hown4
  exact ⟨A2,c2,W4,hrun,ownsRow_base (by omega) hown4,hb4,fun q e=>.inr (hown4.lt q e).1⟩
theorem turn_pair {N d1 m zb:Nat} {S:Nat→Prop} {w wr X:World} {cs cs2 zs:Array Value} {v:Value} {xs:List Value} {L:List Tr} {k t:Tr} {x y:Value} (hS:∀ q,S q→q<N) (hown:wr.ownsRow (N+2) 28 9 v m xs)
  (hrow:RowT wr (fun r=>(S r∨N+2≤r)∧r<wr.heap.size∧v.ownBlock≠some r) d1 L xs) (hbw:Below N w wr) (hb1:Blk wr N cs 28) (hb2:Blk wr (N+1) cs2 28) (hb:Below wr.heap.size wr X) (hok:OwnOk k.own) (hlk:LAt wr S d1 k.kids x) (hot:OwnOk t.own)
  (hzb:wr.heap.size≤zb) (hly:LAt X (fun r=>(S r∨wr.heap.size≤r)∧r<zb) d1 t.kids y) (hblk:Blk X zb zs 28) (hz:(nodeCells k.own x++nodeCells t.own y).toArray=zs) (hm:m≤1000000) :
  ∃ A2 c2 W4,(Builtin.append_ #[26,26] 26 #[.slice (some ⟨zb,0,none⟩) 2 2,v]).run Tryz.prog X=.ok (.slice A2 (m+2) c2) W4 ∧
   W4.ownsRow (N+2) 28 9 (.slice A2 (m+2) c2) (m+2) (nodeCells k.own x++nodeCells t.own y++xs)∧RowT W4 (fun r=>(S r∨N+2≤r)∧r<W4.heap.size∧(Value.slice A2 (m+2) c2).ownBlock≠some r) d1 (k::t::L) (nodeCells k.own x++nodeCells t.own y++xs)∧Below N w W4∧Blk W4 N cs 28∧Blk W4 (N+1) cs2 28:=by
 have hl2:=hb2.lt
 have hbz:=hblk.lt
 have hsz:=hb.size
 have hvq:∀ q,v.ownBlock=some q→N+2≤q∧q<wr.heap.size:=fun q e=>hown.lt q e
 have hownX:X.ownsRow (N+2) 28 9 v m xs:=ownsRow_keep hown (fun q e=>hb.block q (hvq q e).2)
 obtain ⟨A2,c2,W4,hrun,hown4,h4,hr⟩:=pair_ahead hownX (by omega:N+2≤zb) hblk hz rfl hm
 have hz4:=h4.size
 have hne:∀ q,q<X.heap.size→q≠zb→(Value.slice A2 (m+2) c2).ownBlock≠some q:=fun q h1 h2 e=>by
  rcases hr q e with h | h
  ·exact h2 h
  ·omega
 have hb4:=hb.trans (h4.mono hsz)
 refine ⟨A2,c2,W4,hrun,hown4,?_,hbw.trans (hb4.mono (by omega)),hb1.below hb4 hb1.lt,hb2.below hb4 hb2.lt⟩
 rw [List.append_assoc]
 refine ⟨x,_,rfl,hok,(hlk.keep (fun q hq=>hb4.block q (by have:=hS q hq; omega))).mono (fun q hq=>?_),y,xs,rfl,hot,(hly.keep (fun q hq=>h4.block q (by omega))).mono (fun q hq=>⟨hq.1.imp id (by omega),by omega,hne q (by omega) (by omega)⟩),(hrow.keep (fun q hq=>hb4.block q hq.2.1)).mono (fun q hq=>⟨hq.1,by omega,hne q (by omega) (by omega)⟩)⟩
 have:=hS q hq
 exact ⟨.inl hq,by omega,hne q (by omega) (by omega)⟩
set_option maxHeartbeats 8000000 in
set_option maxRecDepth 100000 in
theorem law_turned (i:Nat):∀ (t:Tr) (x:Value) (w:World) (S:Nat→Prop) (d:Nat),t.count≤i→LAt w S d t.kids x→OwnOk t.own→(∀ q,S q→q<w.heap.size)→t.count≤1000000 →
  Calls Tryz.prog 19 #[nodeV t.own x] w fun e w'=>(∃ A c,e=.returned (nodeV (turnT t).own (.slice A (turnT t).kids.length c))∧LAt w' (fun q=>(S q∨w.heap.size≤q)∧q<w'.heap.size) d (turnT t).kids (.slice A (turnT t).kids.length c))∧Below w.heap.size w w':=by
 induction i with
 | zero =>
  intro t x w S d hi
  have:=kids_count (t:=t)
  omega
 | succ i ih =>
 intro t x w S d hi hl ho hS hc
 have hkc:=kids_count (t:=t)
 have hkid:∀ u∈t.kids,u.count<t.count:=fun u hu=>kid_mem hu
 obtain ⟨o,l⟩:=t
 have hall:=turnI_all o l
 rw [turn_own]
 obtain ⟨tk,htk⟩:∃ tk,(turnT (.nd o l)).kids=tk:=⟨_,rfl⟩
 rw [htk]at hall ⊢
 simp only [Tr.own,Tr.kids]at hl ho hkc hkid ⊢
 obtain ⟨hlen,A,c,rfl⟩:=hl.slice
 obtain ⟨n,hn⟩:∃ n,l.length=n:=⟨_,rfl⟩
 rw [hn]at hl hlen hkc hall ⊢
 obtain ⟨mp,hmp⟩:∃ mp,(decide (o.kind=8) && decide (n % 2=0))=mp:=⟨_,rfl⟩
 rw [hmp]at hall
 obtain ⟨kind,b,neg,dg,ex,u,wd,s⟩:=o
 simp only []at hmp
 unfold nodeV
 simp only []
 obtain ⟨N,hN⟩:∃ N,w.heap.size=N:=⟨_,rfl⟩
 have HB2:=Lib.hid (box2 w #[.int .i64 kind,.bool b,.bool neg,.string dg,.int .i64 ex,.int .u64 u,.int .i64 wd,.string s,.slice A n c] #[.int .i64 0,.bool false,.bool false,.string ⟨#[]⟩,.int .i64 0,.int .u64 0,.int .i64 0,.string ⟨#[]⟩,.slice none 0 0] 28 28)
 have hn1:n≤1000000:=by omega
 rw [hN]at HB2 hS ⊢
 obtain ⟨i0,hi0,hz0,hz1,hz2⟩:=info_parts infoNode
 have HI:=Lib.hid hi0
 have HZ0:=Lib.hid hz0
 have HZ1:=Lib.hid hz1
 have HZ2:=Lib.hid hz2
 have fin:∀ (W:World) (A':Option Addr) (m c':Nat),Below N w W→Blk W N #[.int .i64 kind,.bool b,.bool neg,.string dg,.int .i64 ex,.int .u64 u,.int .i64 wd,.string s,.slice A n c] 28→Blk W (N+1) #[.int .i64 0,.bool false,.bool false,.string ⟨#[]⟩,.int .i64 0,.int .u64 0,.int .i64 0,.string ⟨#[]⟩,.slice none 0 0] 28→LAt W (fun q=>(S q∨N≤q)∧q≠N∧q≠N+1∧q<W.heap.size) d tk (.slice A' m c') →
   ∃ W8 W9,W.setCell ⟨N,8,none⟩ (.slice A' m c')=W8∧W8.setRow (N+1) #[.int .i64 kind,.bool b,.bool neg,.string dg,.int .i64 ex,.int .u64 u,.int .i64 wd,.string s,.slice A' m c']=W9∧Blk W8 N #[.int .i64 kind,.bool b,.bool neg,.string dg,.int .i64 ex,.int .u64 u,.int .i64 wd,.string s,.slice A' m c'] 28∧Blk W8 (N+1) #[.int .i64 0,.bool false,.bool false,.string ⟨#[]⟩,.int .i64 0,.int .u64 0,.int .i64 0,.string ⟨#[]⟩,.slice none 0 0] 28∧Blk W9 (N+1) #[.int .i64 kind,.bool b,.bool neg,.string dg,.int .i64 ex,.int .u64 u,.int .i64 wd,.string s,.slice A' m c'] 28 ∧
    Below N w W9∧LAt W9 (fun q=>(S q∨N≤q)∧q<W9.heap.size) d tk (.slice A' m c'):=fun W A' m c' hB hb1 hb2 hL=>by
  refine ⟨_,_,rfl,rfl,hb1.set 8 _,hb2.other (by omega) 8 _,blk_row (hb2.other (by omega) 8 _) _,?_,?_⟩
  ·exact (hB.grown (grown_setT W N 8 _) (by have:=hB.size; omega) (fun q e=>by cases e; exact Nat.le_refl _)).grown (grown_row _ (N+1) _) (by have:=hB.size; simp [World.setCell]; omega) (fun q e=>by cases e; omega)
  ·refine (hL.keep (fun q hq=>(setRow_other _ _ _ _ hq.2.2.1).trans (Below.heap_setCell W ⟨N,8,none⟩ _ q hq.2.1))).mono (fun q hq=>⟨hq.1,?_⟩)
   rw [setRow_size]
   simpa [World.setCell] using hq.2.2.2
 have HFIN:=Lib.hid fin
 have HL:=Lib.hid hl
 have IH:=Lib.hid ih
 have HKID:=Lib.hid hkid
 have HS:=Lib.hid hS
 have HN:=Lib.hid hn
 have HALL:=Lib.hid hall
 have HMP:=Lib.hid hmp
 have HHN:=Lib.hid hN
 have hi1:l.length≤i:=by omega
 have hi2:∀ u∈l,u.count≤i:=fun u hu=>by have:=hkid u hu; omega
 have hi3:∀ u∈l,u.count≤1000000:=fun u hu=>by have:=hkid u hu; omega
 have HI2:=Lib.hid hi2
 have HI3:=Lib.hid hi3
 clear hl ho ih hkid hS hn hall hmp hi0 hz0 hz1 hz2 fin htk hi hc hkc hN hi1 hi2 hi3
 go_enter Tryz.func19,Tryz.ntmps19
 go_wp2_with fail
 rw [HHN.out]
 go_loopw [3,4] (fun v i wr=>∃ (k m:Nat) (xs:List Value),k≤n∧i=.int .i64 k∧(turnI mp l k).length=m∧m≤k∧wr.ownsRow (N+2) 28 9 v m xs∧RowT wr (fun r=>(S r∨N+2≤r)∧r<wr.heap.size∧v.ownBlock≠some r) (d - 1) (turnI mp l k) xs∧Below N w wr∧Blk wr N #[.int .i64 kind,.bool b,.bool neg,.string dg,.int .i64 ex,.int .u64 u,.int .i64 wd,.string s,.slice A n c] 28∧Blk wr (N+1) #[.int .i64 0,.bool false,.bool false,.string ⟨#[]⟩,.int .i64 0,.int .u64 0,.int .i64 0,.string ⟨#[]⟩,.slice none 0 0] 28) (fun _ i _=>n - (intOf i).toNat)
 case atStart=>exact ⟨0,0,[],Nat.zero_le _,rfl,by rw [turnI_zero]; rfl,Nat.le_refl _,World.ownsRow_nil _ _ _ _,by rw [turnI_zero]; rfl,HB2.out.1,HB2.out.2.1,HB2.out.2.2⟩
 case round =>
  obtain ⟨k,m,xs,hk,rfl,hm,hmk,hown,hrow,hbw,hb1,hb2⟩:=hrel
  clear HB2
  obtain ⟨A',c',rfl⟩:=own_sliceT hown
  have hzw:=hbw.size
  have k0:=hb1.cell 0
  have k8:=hb1.cell 8
  have hltN:=hb1.lt
  have hlt2:=hb2.lt
  by_cases hlt:k<n
  ·have hkl:k<l.length:=by rw [HN.out]; exact hlt
   have y1:(k:Int)<n:=by omega
   obtain ⟨d1,ad,x2,rfl,rfl,hab,hok3,hna3,hkk3⟩:=(HL.out.keep (W':=wr) (fun q hq=>hbw.block q (HS.out q hq))).at_ hkl
   rw [Nat.add_sub_cancel]at hrow
   have habN:=HS.out _ hab
   obtain ⟨_,A3,c3,rfl⟩:=hkk3.slice
   have HC:=fun (W:World) (hW:Below wr.heap.size wr W)=>IH.out l[k] (.slice A3 l[k].kids.length c3) W S d1 (HI2.out _ (List.getElem_mem hkl)) (hkk3.keep (fun q hq=>hW.block q (by have:=HS.out q hq; omega))) hok3 (fun q hq=>by have:=HS.out q hq; have:=hW.size; omega) (HI3.out _ (List.getElem_mem hkl))
   rw [turn_own]at HC
   have hot:OwnOk (turnT l[k]).own:=by rw [turn_own]; exact hok3
   have hoe:=turn_own l[k]
   obtain ⟨n3,hn3⟩:∃ n3,l[k].kids.length=n3:=⟨_,rfl⟩
   obtain ⟨zt,hzt⟩:∃ zt,turnT l[k]=zt:=⟨_,rfl⟩
   rw [hzt]at hot hoe
   simp only [hzt]at HC
   obtain ⟨zk,hzk⟩:∃ zk,zt.kids=zk:=⟨_,rfl⟩
   obtain ⟨n4,hn4⟩:∃ n4,zk.length=n4:=⟨_,rfl⟩
   obtain ⟨⟨kind3,b3,neg3,dg3,ex3,u3,wd3,s3⟩,ho3⟩:∃ o,l[k].own=o:=⟨_,rfl⟩
   rw [ho3]at hna3 hoe
   simp only [ho3,hn3,hzk,hn4]at HC
   rw [hn3]at hna3
   unfold nodeV at HC
   obtain ⟨q0,q1,q2,q3,q4,q5,q6,q7,q8⟩:=hna3
   simp only []at q0 q1 q2 q3 q4 q5 q6 q7 q8 HC
   have HC:=Lib.hid HC
   have HOWN:=Lib.hid hown
   have HROW:=Lib.hid hrow
   have HB1:=Lib.hid hb1
   have HB2:=Lib.hid hb2
   have HBW:=Lib.hid hbw
   have HOT:=Lib.hid hot
   have HOE:=Lib.hid hoe
   have HZT:=Lib.hid hzt
   have HZK:=Lib.hid hzk
   have HN4:=Lib.hid hn4
   have HM:=Lib.hid hm
   clear hown hrow hb1 hb2 hbw hot hoe hzt hzk hn4 hm hok3 hkk3 hn3 ho3
   cases mp with
   | false =>
    have hcase:(kind=8∧(n:Int) % 2=1)∨(kind != 8)=true:=by
     have h:=HMP.out
     by_cases h8:kind=8
     ·subst h8
      have:¬ n % 2=0:=by simpa using h
      exact .inl ⟨rfl,by omega⟩
     ·exact .inr (by rw [bne_iff_ne]; exact h8)
    have hap:(turnI false l (k+1)).length=m+1:=by rw [turnI_one l k hkl,List.length_append,HM.out]; rfl
    have happ:=turnI_one l k hkl
    rw [HZT.out]at happ
    have HAP:=Lib.hid hap
    have HAPP:=Lib.hid happ
    clear hap happ
    rcases hcase with ⟨rfl,y2⟩ | y2
    all_goals
     go_wp2_with fail
     refine (HC.out _ (Below.refl _ _)).mono ?_
     rintro e w2 ⟨⟨zA,zc,rfl,hly⟩,hbb⟩
     have hz2:=hbb.size
     have hown2:w2.ownsRow (N+2) 28 9 (.slice A' m c') m xs:=HOWN.out.kept (below_none hbb) (by cases A' with | none=>exact .inl rfl | some a=>exact .inr (by simp [Value.ownBlock]))
     have c3':m+1≤maxLen:=by unfold maxLen; omega
     have HLY:=Lib.hid hly
     have HBB:=Lib.hid hbb
     clear hly hbb HC q0 q1 q2 q3 q4 q5 q6 q7 q8 k0 k8
     go_wp2_with (at_builtin; refine wpList_append_lies _ rfl _ _ 26 rfl (N+2) 28 i0 (.agg #[.int .i64 0,.bool false,.bool false,.string ⟨#[]⟩,.int .i64 0,.int .u64 0,.int .i64 0,.string ⟨#[]⟩,.slice none 0 0]) 9 104 Tryz.underlying26 HI.out HZ0.out HZ1.out HZ2.out rfl (by decide) _ _ _ rfl (hown2.alloc _) ⟨w2.heap.size,0,none⟩ 1 1 [.int .i64 kind3,.bool b3,.bool neg3,.string dg3,.int .i64 ex3,.int .u64 u3,.int .i64 wd3,.string s3,.slice zA n4 zc] rfl rfl (cells_newT _ [.int .i64 kind3,.bool b3,.bool neg3,.string dg3,.int .i64 ex3,.int .u64 u3,.int .i64 wd3,.string s3,.slice zA n4 zc] _) (by intro u hu; simp at hu; rcases hu with rfl|rfl|rfl|rfl|rfl|rfl|rfl|rfl|rfl <;> rfl) (by decide) (by omega) (by omega) (by simp; omega) (w2.heap.size+1) (by simp) ?_; intro g cap w4 hown4 hgrow hat hg4)
     have hal:=(Below.refl w2.heap.size w2).alloc (Nat.le_refl _) (.cells #[.int .i64 kind3,.bool b3,.bool neg3,.string dg3,.int .i64 ex3,.int .u64 u3,.int .i64 wd3,.string s3,.slice zA n4 zc] 28)
     have hfin:=turn_snoc (t:=zt) (y:=.slice zA n4 zc) (m:=m) (c:=cap) HS.out HOWN.out HROW.out HBW.out HB1.out HB2.out (HBB.out.trans (hal.mono hz2)) HOT.out (by
      rw [HZK.out]
      exact (HLY.out.keep (fun q hq=>hal.block q hq.2)).mono (fun q hq=>⟨hq.1,Nat.lt_of_lt_of_le hq.2 hal.size⟩)) hgrow (hat.imp id (fun e=>by rw [e,World.size_alloc])) (zs:=[.int .i64 kind3,.bool b3,.bool neg3,.string dg3,.int .i64 ex3,.int .u64 u3,.int .i64 wd3,.string s3,.slice zA n4 zc]) (by rw [HOE.out]; rfl)
     rw [← HAPP.out]at hfin
     obtain ⟨hr4,hbw4,hk1,hk2⟩:=hfin
     have HO4:=Lib.hid hown4
     have HR4:=Lib.hid hr4
     have HBW4:=Lib.hid hbw4
     have HK1:=Lib.hid hk1
     have HK2:=Lib.hid hk2
     clear hown4 hr4 hbw4 hk1 hk2 hgrow hat hal hown2 HOWN HROW HB1 HB2 HBW HBB HLY
     go_wp2_with fail
     go_roundw
     case rel=>exact ⟨k+1,m+1,_,by omega,by go_num,HAP.out,by omega,HO4.out,HR4.out,HBW4.out,HK1.out,HK2.out⟩
     case measure =>
      simp only [intOf]
      omega
   | true =>
    have h2:=HMP.out
    rw [Bool.and_eq_true,decide_eq_true_iff,decide_eq_true_iff]at h2
    obtain ⟨rfl,hev⟩:=h2
    by_cases hod:k % 2=0
    ·have e:=turnI_even l k hod
     have hm1:(turnI true l (k+1)).length=m:=by rw [e]; exact HM.out
     have hrow1:=HROW.out
     rw [← e]at hrow1
     have HM1:=Lib.hid hm1
     have HR1:=Lib.hid hrow1
     have y2:¬ ((n:Int) % 2=1):=by omega
     have y3:¬ ((k:Int) % 2=1):=by omega
     clear hm1 hrow1 e HROW HM
     go_wp2_with fail
     go_roundw
     case rel=>exact ⟨k+1,m,xs,by omega,by go_num,HM1.out,by omega,HOWN.out,HR1.out,HBW.out,HB1.out,HB2.out⟩
     case measure =>
      simp only [intOf]
      omega
    ·obtain ⟨j,rfl⟩:∃ j,k=j+1:=⟨k - 1,by omega⟩
     have e:=turnI_odd l j (by omega) hkl
     have hkl0:j<l.length:=by omega
     obtain ⟨d2,ad2,x2,hdd,hadd,_,hok2,hna2,hkk2⟩:=(HL.out.keep (W':=wr) (fun q hq=>HBW.out.block q (HS.out q hq))).at_ hkl0
     cases hadd
     obtain rfl:d1=d2:=by omega
     obtain ⟨_,A2,c2,rfl⟩:=hkk2.slice
     obtain ⟨kt,hkt⟩:∃ kt,l[j]=kt:=⟨_,rfl⟩
     rw [hkt]at e hok2 hna2 hkk2
     obtain ⟨n2,hn2⟩:∃ n2,kt.kids.length=n2:=⟨_,rfl⟩
     rw [hn2]at hna2 hkk2
     obtain ⟨⟨kind2,b2,neg2,dg2,ex2,u2,wd2,s2⟩,ho2⟩:∃ o,kt.own=o:=⟨_,rfl⟩
     rw [ho2]at hna2
     rw [HZT.out]at e
     obtain ⟨p0,p1,p2,p3,p4,p5,p6,p7,p8⟩:=hna2
     obtain ⟨a1,ha1⟩:∃ a1,ad.add (j*9)=a1:=⟨_,rfl⟩
     obtain ⟨a2,ha2⟩:∃ a2,ad.add ((j+1)*9)=a2:=⟨_,rfl⟩
     have hlta1:a1.block<wr.heap.size:=by rw [← ha1,add_block]; omega
     have hlta2:a2.block<wr.heap.size:=by rw [← ha2,add_block]; omega
     rw [ha1]at p0 p1 p2 p3 p4 p5 p6 p7 p8
     rw [ha2]at q0 q1 q2 q3 q4 q5 q6 q7 q8
     have hmj:=turnI_len l (j+1) (Nat.le_of_lt hkl)
     rw [HM.out]at hmj
     have hmj2:m≤j:=by omega
     clear hmj
     have hap:(turnI true l (j+2)).length=m+2:=by rw [e,List.length_cons,List.length_cons,HM.out]
     have mka1:∀ X:World,X.heap[a1.block]? = wr.heap[a1.block]?→∀ o,X.cell? ⟨a1.block,o,none⟩=wr.cell? ⟨a1.block,o,none⟩:=fun X h o=>cell_keep (a:=⟨a1.block,o,none⟩) h
     have mka2:∀ X:World,X.heap[a2.block]? = wr.heap[a2.block]?→∀ o,X.cell? ⟨a2.block,o,none⟩=wr.cell? ⟨a2.block,o,none⟩:=fun X h o=>cell_keep (a:=⟨a2.block,o,none⟩) h
     have y2:¬ ((n:Int) % 2=1):=by omega
     have y3:((j+1:Nat):Int) % 2=1:=by omega
     have y5:IntKind.i64.wrap (j:Int)=(j:Int):=IntWalk.i64_in _ ⟨by omega,by omega⟩
     have y7:(j:Int)<n:=by omega
     have y8:(0:Int)≤(j:Int)+1:=by omega
     have y9:(j:Int)+1<n:=by omega
     have HA1:=Lib.hid ha1
     have HA2:=Lib.hid ha2
     have HE2:=Lib.hid e
     have HAP:=Lib.hid hap
     have HOK2:=Lib.hid hok2
     have HKK2:=Lib.hid hkk2
     have HO2:=Lib.hid ho2
     clear e hap hok2 hkk2 ho2 hn2 hkt ha1 ha2 hdd HM hod
     go_wp2_with fail
     refine wp_region_tail (R:=fun A B=>Below A.heap.size A B) 14 (by kernel_rfl) (by kernel_rfl) (fun _=>Below.refl _ _) (by kernel_rfl) (by kernel_rfl) (fun X=>Below wr.heap.size wr X)
      [fun v _=>v=.pointer (some ⟨N,8,none⟩),fun v _=>v=.slice (some ad) n c,fun v _=>v=.int .i64 ((j+1:Nat):Int),fun v _=>v=.int .i64 (j:Int),fun v _=>v=.pointer (some a1),fun v _=>v=.agg #[.int .i64 kind2,.bool b2,.bool neg2,.string dg2,.int .i64 ex2,.int .u64 u2,.int .i64 wd2,.string s2,.slice A2 n2 c2],fun v _=>v=.pointer (some ⟨N,8,none⟩),fun v _=>v=.slice (some ad) n c,fun v _=>v=.int .i64 ((j+1:Nat):Int),fun v _=>v=.pointer (some a2),fun v _=>v=.agg #[.int .i64 kind3,.bool b3,.bool neg3,.string dg3,.int .i64 ex3,.int .u64 u3,.int .i64 wd3,.string s3,.slice A3 n3 c3],fun v W=>∃ zA zc,v=.agg #[.int .i64 kind3,.bool b3,.bool neg3,.string dg3,.int .i64 ex3,.int .u64 u3,.int .i64 wd3,.string s3,.slice zA n4 zc]∧LAt W (fun r=>(S r∨wr.heap.size≤r)∧r<W.heap.size) d1 zk (.slice zA n4 zc),fun v W=>∃ zA zc zb,v=.slice (some ⟨zb,0,none⟩) 2 2∧Blk W zb #[.int .i64 kind2,.bool b2,.bool neg2,.string dg2,.int .i64 ex2,.int .u64 u2,.int .i64 wd2,.string s2,.slice A2 n2 c2,.int .i64 kind3,.bool b3,.bool neg3,.string dg3,.int .i64 ex3,.int .u64 u3,.int .i64 wd3,.string s3,.slice zA n4 zc] 28∧wr.heap.size≤zb∧LAt W (fun r=>(S r∨wr.heap.size≤r)∧r<zb) d1 zk (.slice zA n4 zc),fun v _=>v=.slice A' m c'] (Below.drew (Below.refl _ _)) (fun _ _ he hr=>he.trans (hr.mono he.size)) ?_ ?_ ?_
     ·intro p hp v X Y hE hv hr
      simp only [List.mem_cons,List.not_mem_nil,or_false]at hp
      rcases hp with rfl|rfl|rfl|rfl|rfl|rfl|rfl|rfl|rfl|rfl|rfl|rfl|rfl|rfl
      ·exact hv
      ·exact hv
      ·exact hv
      ·exact hv
      ·exact hv
      ·exact hv
      ·exact hv
      ·exact hv
      ·exact hv
      ·exact hv
      ·exact hv
      ·obtain ⟨zA,zc,h1,h2⟩:=hv
       exact ⟨zA,zc,h1,(h2.keep (fun r hx=>hr.block r hx.2)).mono (fun r hx=>⟨hx.1,Nat.lt_of_lt_of_le hx.2 hr.size⟩)⟩
      ·obtain ⟨zA,zc,zb,h1,h3,h4,h2⟩:=hv
       exact ⟨zA,zc,zb,h1,h3.below hr h3.lt,h4,h2.keep (fun r hx=>hr.block r (Nat.lt_trans hx.2 h3.lt))⟩
      ·exact hv
     ·refine flow_cons (flow_op rfl rfl (by kernel_rfl) (by kernel_rfl) ?_) ?_
      ·intro env W hE hn ρ hρ hc hf hg K hK
       have r1:ρ (.tmp 1)=.pointer (some ⟨N,0,none⟩):=by rw [hρ]; kernel_rfl
       clear hρ hn hg
       simp [opLands,go_sem,r1]
       exact hK _ _ rfl (Below.refl _ _)
      refine flow_cons (flow_op rfl rfl (by kernel_rfl) (by kernel_rfl) ?_) ?_
      ·intro env W hE hn ρ hρ hc hf hg K hK
       have r34:=(show ρ (.tmp 34)=env 0 by rw [hρ]; kernel_rfl).trans (hn 0 (by kernel_rfl))
       clear hρ hn hg
       simp [opLands,go_sem,r34,(cell_keep (a:=⟨N,8,none⟩) (hE.block N hltN)).trans k8]
       exact hK _ _ rfl (Below.refl _ _)
      refine flow_cons (flow_op rfl rfl (by kernel_rfl) (by kernel_rfl) ?_) ?_
      ·intro env W hE hn ρ hρ hc hf hg K hK
       have r4:ρ (.tmp 4)=.int .i64 ((j+1:Nat):Int):=by rw [hρ]; kernel_rfl
       clear hρ hn hg
       simp [opLands,go_sem,r4]
       exact hK _ _ rfl (Below.refl _ _)
      refine flow_cons (flow_op rfl rfl (by kernel_rfl) (by kernel_rfl) ?_) ?_
      ·intro env W hE hn ρ hρ hc hf hg K hK
       have r36:=(show ρ (.tmp 36)=env 2 by rw [hρ]; kernel_rfl).trans (hn 2 (by kernel_rfl))
       clear hρ hn hg
       simp [opLands,go_sem,r36,hc,y5]
       exact hK _ _ rfl (Below.refl _ _)
      refine flow_cons (flow_op rfl rfl (by kernel_rfl) (by kernel_rfl) ?_) ?_
      ·intro env W hE hn ρ hρ hc hf hg K hK
       have r35:=(show ρ (.tmp 35)=env 1 by rw [hρ]; kernel_rfl).trans (hn 1 (by kernel_rfl))
       have r37:=(show ρ (.tmp 37)=env 3 by rw [hρ]; kernel_rfl).trans (hn 3 (by kernel_rfl))
       clear hρ hn hg
       simp [opLands,go_sem,r35,r37,y7,HA1.out]
       exact hK _ _ rfl (Below.refl _ _)
      refine flow_cons (flow_op rfl rfl (by kernel_rfl) (by kernel_rfl) ?_) ?_
      ·intro env W hE hn ρ hρ hc hf hg K hK
       have r38:=(show ρ (.tmp 38)=env 4 by rw [hρ]; kernel_rfl).trans (hn 4 (by kernel_rfl))
       clear hρ hn hg
       have hh:=hE.block a1.block hlta1
       simp [opLands,go_sem,r38,(cell_keep (a:=a1) hh).trans p0,(mka1 W hh _).trans p1,(mka1 W hh _).trans p2,(mka1 W hh _).trans p3,(mka1 W hh _).trans p4,(mka1 W hh _).trans p5,(mka1 W hh _).trans p6,(mka1 W hh _).trans p7,(mka1 W hh _).trans p8]
       exact hK _ _ rfl (Below.refl _ _)
      refine flow_cons (flow_op rfl rfl (by kernel_rfl) (by kernel_rfl) ?_) ?_
      ·intro env W hE hn ρ hρ hc hf hg K hK
       have r1:ρ (.tmp 1)=.pointer (some ⟨N,0,none⟩):=by rw [hρ]; kernel_rfl
       clear hρ hn hg
       simp [opLands,go_sem,r1]
       exact hK _ _ rfl (Below.refl _ _)
      refine flow_cons (flow_op rfl rfl (by kernel_rfl) (by kernel_rfl) ?_) ?_
      ·intro env W hE hn ρ hρ hc hf hg K hK
       have r40:=(show ρ (.tmp 40)=env 6 by rw [hρ]; kernel_rfl).trans (hn 6 (by kernel_rfl))
       clear hρ hn hg
       simp [opLands,go_sem,r40,(cell_keep (a:=⟨N,8,none⟩) (hE.block N hltN)).trans k8]
       exact hK _ _ rfl (Below.refl _ _)
      refine flow_cons (flow_op rfl rfl (by kernel_rfl) (by kernel_rfl) ?_) ?_
      ·intro env W hE hn ρ hρ hc hf hg K hK
       have r4:ρ (.tmp 4)=.int .i64 ((j+1:Nat):Int):=by rw [hρ]; kernel_rfl
       clear hρ hn hg
       simp [opLands,go_sem,r4]
       exact hK _ _ rfl (Below.refl _ _)
      refine flow_cons (flow_op rfl rfl (by kernel_rfl) (by kernel_rfl) ?_) ?_
      ·intro env W hE hn ρ hρ hc hf hg K hK
       have r41:=(show ρ (.tmp 41)=env 7 by rw [hρ]; kernel_rfl).trans (hn 7 (by kernel_rfl))
       have r42:=(show ρ (.tmp 42)=env 8 by rw [hρ]; kernel_rfl).trans (hn 8 (by kernel_rfl))
       clear hρ hn hg
       simp [opLands,go_sem,r41,r42,y8,y9,HA2.out]
       exact hK _ _ rfl (Below.refl _ _)
      refine flow_cons (flow_op rfl rfl (by kernel_rfl) (by kernel_rfl) ?_) ?_
      ·intro env W hE hn ρ hρ hc hf hg K hK
       have r43:=(show ρ (.tmp 43)=env 9 by rw [hρ]; kernel_rfl).trans (hn 9 (by kernel_rfl))
       clear hρ hn hg
       have hh:=hE.block a2.block hlta2
       simp [opLands,go_sem,r43,(cell_keep (a:=a2) hh).trans q0,(mka2 W hh _).trans q1,(mka2 W hh _).trans q2,(mka2 W hh _).trans q3,(mka2 W hh _).trans q4,(mka2 W hh _).trans q5,(mka2 W hh _).trans q6,(mka2 W hh _).trans q7,(mka2 W hh _).trans q8]
       exact hK _ _ rfl (Below.refl _ _)
      refine flow_cons (flow_op rfl rfl (by kernel_rfl) (by kernel_rfl) ?_) ?_
      ·intro env W hE hn ρ hρ hc hf hg K hK
       have r44:=(show ρ (.tmp 44)=env 10 by rw [hρ]; kernel_rfl).trans (hn 10 (by kernel_rfl))
       clear hρ hn hg
       refine lands_call rfl (by kernel_rfl) hf ?_
       rw [show #[Operand.tmp 44].map ρ = #[.agg #[.int .i64 kind3,.bool b3,.bool neg3,.string dg3,.int .i64 ex3,.int .u64 u3,.int .i64 wd3,.string s3,.slice A3 n3 c3]] by simp [r44]]
       refine (HC.out W hE).mono ?_
       rintro e W' ⟨⟨zA,zc,rfl,hly⟩,hbb⟩
       exact ⟨_,rfl,hK _ _ ⟨zA,zc,rfl,hly.mono (fun r hr=>⟨hr.1.imp id (fun h=>Nat.le_trans hE.size h),hr.2⟩)⟩ hbb⟩
      refine flow_cons (flow_op rfl rfl (by kernel_rfl) (by kernel_rfl) ?_) ?_
      ·intro env W hE hn ρ hρ hc hf hg K hK
       have r39:=(show ρ (.tmp 39)=env 5 by rw [hρ]; kernel_rfl).trans (hn 5 (by kernel_rfl))
       obtain ⟨zA,zc,e45,hval⟩:=hn 11 (by kernel_rfl)
       have r45:=(show ρ (.tmp 45)=env 11 by rw [hρ]; kernel_rfl).trans e45
       clear hρ hn hg
       have hal:=(Below.refl W.heap.size W).alloc (Nat.le_refl _) (.cells #[.int .i64 kind2,.bool b2,.bool neg2,.string dg2,.int .i64 ex2,.int .u64 u2,.int .i64 wd2,.string s2,.slice A2 n2 c2,.int .i64 kind3,.bool b3,.bool neg3,.string dg3,.int .i64 ex3,.int .u64 u3,.int .i64 wd3,.string s3,.slice zA n4 zc] 28)
       simp [opLands,go_sem,r39,r45]
       exact hK _ _ ⟨zA,zc,W.heap.size,rfl,Blk.new _ _ _,hE.size,hval.keep (fun r hr=>hal.block r hr.2)⟩ hal
      refine flow_cons (flow_op rfl rfl (by kernel_rfl) (by kernel_rfl) ?_) flow_nil
      ·intro env W hE hn ρ hρ hc hf hg K hK
       have r3:ρ (.tmp 3)=.slice A' m c':=by rw [hρ]; kernel_rfl
       clear hρ hn hg
       simp [opLands,go_sem,r3]
       exact hK _ _ rfl (Below.refl _ _)
     intro env X hE hn
     obtain ⟨zA,zc,zb,e12,hzb,hzb2,hval⟩:=hn 12 (by decide)
     have e13:env 13=.slice A' m c':=hn 13 (by decide)
     obtain ⟨A4,c4,W4,hrun,hown4,hr4,hbw4,hk1,hk2⟩:=turn_pair (k:=kt) (t:=zt) (x:=.slice A2 n2 c2) (y:=.slice zA n4 zc) HS.out HOWN.out HROW.out HBW.out HB1.out HB2.out hE HOK2.out HKK2.out HOT.out hzb2 (by rw [HZK.out]; exact hval) hzb (by rw [HO2.out,HOE.out]; rfl) (by omega)
     rw [← HE2.out]at hr4
     simp only [List.take_succ_cons,List.take_zero,List.drop_succ_cons,List.drop_zero,frameAll,e12,e13]
     have HRUN:=Lib.hid hrun
     have HO4:=Lib.hid hown4
     have HR4:=Lib.hid hr4
     have HBW4:=Lib.hid hbw4
     have HK1:=Lib.hid hk1
     have HK2:=Lib.hid hk2
     clear hn e12 e13 hzb hval hrun hown4 hr4 hbw4 hk1 hk2 hE
     go_simp
     go_wp2_with (refine wpList_append_run _ rfl (.tmp 46) (.tmp 47) 26 rfl (.slice (some ⟨zb,0,none⟩) 2 2) (.slice A' m c') (.slice A4 (m+2) c4) W4 rfl rfl HRUN.out ?_)
     go_roundw
     case rel=>exact ⟨j+1+1,m+2,_,by omega,by go_num,HAP.out,by omega,HO4.out,HR4.out,HBW4.out,HK1.out,HK2.out⟩
     case measure =>
      simp only [intOf]
      omega
  ·obtain rfl:k=n:=by omega
   have y1:¬ (k:Int)<k:=by omega
   have hal:=HALL.out
   rw [hal]at hrow hm
   have hli:LAt wr (fun q=>(S q∨N≤q)∧q≠N∧q≠N+1∧q<wr.heap.size) d tk (.slice A' m c'):=by
    cases d with
    | zero =>
     obtain ⟨hl0,_⟩:=HL.out
     have hk0:k=0:=by rw [← HN.out,hl0]; rfl
     have htk0:tk=[]:=by rw [← hal,hk0,turnI_zero]
     subst htk0
     have hm0:m=0:=hm.symm
     subst hm0
     exact LAt.nil _ _ _ _ _
    | succ d =>
     rw [Nat.add_sub_cancel]at hrow
     have hvq:=fun q e=>hown.lt q e
     refine (hrow.mono (S':=fun q=>(S q∨N≤q)∧q≠N∧q≠N+1∧q<wr.heap.size) (fun q hq=>⟨hq.1.imp id (by omega),?_,?_,hq.2.1⟩)).list hown hm.symm (by omega) (fun q hq=>hq) (fun a e=>by
      subst e
      have:=hvq a.block rfl
      exact ⟨.inr (by omega),by omega,by omega,this.2⟩)
     ·rcases hq.1 with h | h
      ·have:=HS.out q h
       omega
      ·omega
     ·rcases hq.1 with h | h
      ·have:=HS.out q h
       omega
      ·omega
   obtain ⟨W8,W9,hW8,hW9,hs1,hs2,hs3,hb9,hl9⟩:=HFIN.out wr A' m c' hbw hb1 hb2 hli
   have f8:=hb1.frozen 8
   have HS1:=Lib.hid hs1
   have HS2:=Lib.hid hs2
   have HS3:=Lib.hid hs3
   have HB9:=Lib.hid hb9
   have HL9:=Lib.hid hl9
   have HW8:=Lib.hid hW8
   have HW9:=Lib.hid hW9
   have HM:=Lib.hid hm
   clear hs1 hs2 hs3 hb9 hl9 hW8 hW9 hb1 hb2 hown hrow hli hal hbw hm HFIN k0
   go_upto_region 10 with fail
   rw [HW8.out]
   go_wp2_with (first | (refine wpList_load_row rfl 28 (.tmp 1) rfl N rfl 28 _ (0,0) _ HS1.out Tryz.underlying28 rfl (by kernel_rfl) ?_) | (refine wpList_store_row rfl 28 (.tmp 2) (.tmp 51) rfl (N+1) #[.int .i64 kind,.bool b,.bool neg,.string dg,.int .i64 ex,.int .u64 u,.int .i64 wd,.string s,.slice A' m c'] rfl rfl 28 _ HS2.out (by kernel_rfl) rfl (by simp [Value.oneCell']) ?_))
   rw [HW9.out]
   refine bodyPost_ret (v:=.agg #[.int .i64 kind,.bool b,.bool neg,.string dg,.int .i64 ex,.int .u64 u,.int .i64 wd,.string s,.slice A' m c']) (results_cell_row rfl _ _ (N+1) 28 _ (0,0) _ rfl HS3.out Tryz.underlying28 rfl (by kernel_rfl)) rfl ?_
   exact ⟨⟨A',c',by rw [HM.out],by rw [HM.out]; exact HL9.out⟩,HB9.out⟩
end Go.Proofs.YtonihophanmaaaaGreatDoor
namespace Go.Proofs.YtonihophanmaaaaGreatDoor
open Go.RowKit Go.Shelf
theorem turned_facts {t:Tr} (h:checkT 2 flC t=0→SetOk t):detW (turnT t)=detW t∧checkT 2 flC (turnT t)=checkT 2 flC t∧(turnT t).count=t.count:=by
 refine ⟨?_,turn_check 2 flC t,(turn_inv t).1⟩
 unfold detW
 rw [turn_check]
 by_cases h0:checkT 2 flC t=0
 ·rw [if_pos h0,if_pos h0,set_turn items_okC t (h h0).all (h h0).ok]
 ·rw [if_neg h0,if_neg h0]
set_option maxHeartbeats 8000000 in
set_option maxRecDepth 100000 in
theorem turns_walkD {aT aF:Addr} (t0:Tr) (vt:Value) (w:World) (h:RW w aT aF) (D:Nat) (hl:ListAt w w.heap.size D t0.kids vt) (ho:OwnOk t0.own) (hc:t0.count≤1048576) :
  Calls Tryz.prog 5 #[nodeV t0.own vt] w fun e w'=>e=.returned (.bool true)∧Below w.heap.size w w':=by
 have H0:=Lib.hid (fun W (hW:Below w.heap.size w W)=>det_shown (aT:=aT) (aF:=aF) W (h.below hW))
 have HU:=Lib.hid (fun W (hW:Below w.heap.size w W)=>(h.below hW).g)
 have HF:=Lib.hid (fun W (hW:Below w.heap.size w W)=>law_FewT t0 vt W w.heap.size D (hl.below hW (Nat.le_refl _)) ho hW.size (by omega))
 have hto:=few_okD ho
 have htc:=few_count t0
 have hv:∃ A m c,vt=.slice A m c:=by
  obtain ⟨_,A,c,e⟩:=hl.slice
  exact ⟨A,_,c,e⟩
 obtain ⟨o0,ho0⟩:∃ o,t0.own=o:=⟨_,rfl⟩
 rw [ho0]at HF ⊢
 generalize fewT t0=t at HF hto htc
 obtain ⟨kind0,b0,neg0,dg0,ex0,u0,wd0,s0⟩:=o0
 unfold nodeV at HF ⊢
 simp only []at HF ⊢
 have hb1:Below w.heap.size w (w.alloc (.cells #[.int .i64 kind0,.bool b0,.bool neg0,.string dg0,.int .i64 ex0,.int .u64 u0,.int .i64 wd0,.string s0,vt] 28)):=(Below.refl _ _).alloc (Nat.le_refl _) _
 have hk1:=Blk.new w #[.int .i64 kind0,.bool b0,.bool neg0,.string dg0,.int .i64 ex0,.int .u64 u0,.int .i64 wd0,.string s0,vt] 28
 have HB1:=Lib.hid hb1
 have HK1:=Lib.hid hk1
 clear hl ho hc ho0 h hb1 hk1
 obtain ⟨A0,m0,c0,rfl⟩:=hv
 go_enter Tryz.func5,Tryz.ntmps5
 go_wp2_with fail
 refine (H0.out _ HB1.out).mono ?_
 rintro e w2 ⟨rfl,hb2⟩
 have hbw2:=HB1.out.trans (hb2.mono HB1.out.size)
 have hk2:=HK1.out.below hb2 HK1.out.lt
 have HK2:=Lib.hid hk2
 have HBW2:=Lib.hid hbw2
 clear hb2 hbw2 hk2 HB1 HK1 H0
 go_wp2_with (refine wpList_load_row rfl 28 (.tmp 1) rfl w.heap.size rfl 28 _ (0,0) _ HK2.out Tryz.underlying28 rfl (by kernel_rfl) ?_)
 refine (HF.out _ HBW2.out).mono ?_
 rintro e w3 ⟨⟨y,rfl,hly⟩,hb3⟩
 obtain ⟨_,A1,c1,rfl⟩:=hly.slice
 have htu:=fun (W:World) (S:Nat→Prop) (hl:LAt W S 17 t.kids (.slice A1 t.kids.length c1)) (hS:∀ q,S q→q<W.heap.size)=>law_turned t.count t (.slice A1 t.kids.length c1) W S 17 (Nat.le_refl _) hl hto hS (by omega)
 obtain ⟨n1,hn1⟩:∃ n1,t.kids.length=n1:=⟨_,rfl⟩
 rw [hn1]at hly ⊢
 obtain ⟨⟨kind1,b1,neg1,dg1,ex1,u1,wd1,s1⟩,ho1⟩:∃ o,t.own=o:=⟨_,rfl⟩
 have HTO:=Lib.hid hto
 rw [ho1]
 simp only []
 have hk3:=HK2.out.below hb3 HK2.out.lt
 have hbw3:=HBW2.out.trans (hb3.mono HBW2.out.size)
 have hz2:=HBW2.out.size
 have hz3:=hb3.size
 have hlt2:=HK2.out.lt
 obtain ⟨W4,hW4⟩:∃ W4,w3.setRow w.heap.size #[.int .i64 kind1,.bool b1,.bool neg1,.string dg1,.int .i64 ex1,.int .u64 u1,.int .i64 wd1,.string s1,.slice A1 n1 c1]=W4:=⟨_,rfl⟩
 have hg4:w3.grownBy W4 (some w.heap.size):=by rw [← hW4]; exact grown_row w3 w.heap.size #[.int .i64 kind1,.bool b1,.bool neg1,.string dg1,.int .i64 ex1,.int .u64 u1,.int .i64 wd1,.string s1,.slice A1 n1 c1]
 have hz4:W4.heap.size=w3.heap.size:=by rw [← hW4,setRow_size]
 have hk4:Blk W4 w.heap.size #[.int .i64 kind1,.bool b1,.bool neg1,.string dg1,.int .i64 ex1,.int .u64 u1,.int .i64 wd1,.string s1,.slice A1 n1 c1] 28:=by rw [← hW4]; exact blk_row hk3 #[.int .i64 kind1,.bool b1,.bool neg1,.string dg1,.int .i64 ex1,.int .u64 u1,.int .i64 wd1,.string s1,.slice A1 n1 c1]
 have hbw4:Below w.heap.size w W4:=hbw3.grown hg4 hbw3.size (fun q e=>by cases e; exact Nat.le_refl _)
 have hl4:LAt W4 (fun q=>w.heap.size<q∧q<W4.heap.size) 17 t.kids (.slice A1 n1 c1):=(hly.keep (fun q hq=>hg4.block q hq.2 (fun e=>by injection e with e; omega))).mono (fun q hq=>⟨by have:=hq.1; omega,by rw [hz4]; exact hq.2⟩)
 have hfa:=turned_facts (fun h0=>setOk_of hl4 hto h0)
 have HK3:=Lib.hid hk3
 have HK4:=Lib.hid hk4
 have HBW4:=Lib.hid hbw4
 have HL4:=Lib.hid hl4
 have HW4:=Lib.hid hW4
 have HO1:=Lib.hid ho1
 have HN1:=Lib.hid hn1
 have hlt4:=hk4.lt
 clear hk3 hbw3 hz2 hz3 hlt2 hg4 hk4 hbw4 hl4 hW4 hb3 hly HK2 HBW2 HF ho1 hto
 go_upto_region 3 with (refine wpList_store_row rfl 28 (.tmp 1) (.tmp 10) rfl w.heap.size #[.int .i64 kind1,.bool b1,.bool neg1,.string dg1,.int .i64 ex1,.int .u64 u1,.int .i64 wd1,.string s1,.slice A1 n1 c1] rfl rfl 28 _ HK3.out (by kernel_rfl) rfl (by simp [Value.oneCell']) ?_)
 rw [HW4.out]
 clear HW4 HK3 hz4
 have hse:=det_Write t (.slice A1 n1 c1) W4 (fun q=>w.heap.size<q∧q<W4.heap.size) 17 aT aF HL4.out HTO.out (fun q hq=>hq.2) (by omega) (HU.out W4 HBW4.out)
 obtain ⟨tt,htt⟩:∃ tt,turnT t=tt:=⟨_,rfl⟩
 have htto:tt.own=t.own:=by rw [← htt]; exact turn_own t
 rw [htt]at hfa htu
 have hlast:=fun (x:Value) (W:World) (S:Nat→Prop) (hl:LAt W S 17 tt.kids x) (hS:∀ q,S q→q<W.heap.size) (hW:Below w.heap.size w W)=>det_Write tt x W S 17 aT aF hl (by rw [htto]; exact HTO.out) hS (by rw [hfa.2.2]; omega) (HU.out W hW)
 rw [hfa.1,hfa.2.1]at hlast
 obtain ⟨sa,hsa⟩:∃ sa,detW t=sa:=⟨_,rfl⟩
 obtain ⟨e0,he0⟩:∃ e0,checkT 2 flC t=e0:=⟨_,rfl⟩
 rw [hsa,he0]at hse
 simp only [hsa,he0]at hlast
 simp only [htto]at hlast htu
 rw [HO1.out]at hse hlast htu
 rw [HN1.out]at htu
 unfold nodeV at hse hlast htu
 simp only []at hse hlast htu
 obtain ⟨m2,hm2⟩:∃ m2,tt.kids.length=m2:=⟨_,rfl⟩
 rw [hm2]at htu
 have HSE:=Lib.hid hse
 have HLAST:=Lib.hid hlast
 have HTU:=Lib.hid htu
 clear hse hlast htu hfa hsa he0 htto htt hm2
 go_wp2_with (refine wpList_load_row rfl 28 (.tmp 1) rfl w.heap.size rfl 28 _ (0,0) _ HK4.out Tryz.underlying28 rfl (by kernel_rfl) ?_)
 refine HSE.out.mono ?_
 rintro e w5 ⟨rfl,hb5⟩
 have HK5:=Lib.hid (HK4.out.below hb5 HK4.out.lt)
 have HL5:=Lib.hid (HL4.out.keep (W':=w5) (fun q hq=>hb5.block q hq.2))
 have HBW5:=Lib.hid (HBW4.out.trans (hb5.mono (Nat.le_of_lt HK4.out.lt)))
 have hz5:=hb5.size
 clear hb5 HK4 HL4 HBW4 HSE
 go_wp2_with (refine wpList_load_row rfl 28 (.tmp 1) rfl w.heap.size rfl 28 _ (0,0) _ HK5.out Tryz.underlying28 rfl (by kernel_rfl) ?_)
 refine (HTU.out _ _ HL5.out (fun q hq=>by omega)).mono ?_
 rintro e w6 ⟨⟨A2,c2,rfl,hl6⟩,hb6⟩
 have HL6:=Lib.hid hl6
 have HBW6:=Lib.hid (HBW5.out.trans (hb6.mono HBW5.out.size))
 clear hl6 hb6 HL5 HTU
 go_wp2_with fail
 refine (HLAST.out _ _ _ HL6.out (fun q hq=>hq.2) HBW6.out).mono ?_
 rintro e w7 ⟨rfl,hb7⟩
 have hbX:=HBW6.out.trans (hb7.mono HBW6.out.size)
 clear hb7 HLAST HL6 HBW6
 go_wp2_with fail
 go_ret
 exact ⟨by simp,hbX⟩
end Go.Proofs.YtonihophanmaaaaGreatDoor
namespace Go.Proofs.YtonihophanmaaaaGreatDoor
open Go.RowKit Go.Shelf Go.Lib
theorem laidMet_drop {P:Program} {W:World}:∀ (k:Nat) {l:List (String×DataW Unit)},laidMet P l W→laidMet P (l.drop k) W
 | 0,_,h=>h
 | _+1,[],h=>h
 | k+1,_::_,h=>laidMet_drop k h.tail
set_option maxRecDepth 100000 in
theorem sentinel_of {n:String} {g:Nat} {text:List UInt8} {r:List (String×DataW Unit)} {W:World} (h:laidMet Tryz.prog ((n,.iface "*errors.errorString" (.ptr (.agg [.lit (.string text)])))::r) W)
  (hg:Tryz.prog.globalNamed n=some g) (ht:(Tryz.prog.globals[g]?).map (·.type)=some 48)
  (hi:∃ ms,Tryz.prog.underlying 48=some (.interface ms)) (hrow:∀ u,Tryz.prog.typeName? 3 u=some "*errors.errorString"→u=321)
  (he:∃ f:Field,Tryz.prog.underlying 323=some (.struct #[f])∧f.type=9∧f.offset=0) (hc:Tryz.prog.cellsOf 323=1) (hcs:Tryz.prog.cellsOf 9=1) :
  ∃ a:Addr,W.cell? ⟨g,0,none⟩=some (.iface 321 (.pointer (some a)))∧(∃ c t,W.heap[a.block]? = some (.cells c t (0,0)))∧∃ s:ByteArray,W.cell? a=some (.string s)∧s.data.toList=text:=by
 obtain ⟨ms,hi⟩:=hi
 obtain ⟨f,he,hft,hfo⟩:=he
 obtain ⟨ps,⟨g0,t0,cs0,f0,p0,q0,hg0,ht0,hv0,hd0,_,e0⟩,_,hrows⟩:=h
 obtain rfl:=Option.some.inj (hg.symm.trans hg0)
 obtain rfl:=Option.some.inj (ht.symm.trans ht0)
 subst e0
 obtain ⟨l0⟩:=cs0
 have ok0:∀ u v,l0=[.iface u v]→Value.okWide Tryz.prog W .any 0 u v:=fun u v e=>by
  subst e
  exact (hrows g 0 (by simp [MemPlace.row])).2 u v (by simpa using World.var?_cell hg0 hv0 0)
 obtain ⟨a0,s0,rfl,hc0,hs0,hz0,rfl⟩:=errorString_of_trod hi hrow Tryz.underlying321 he hft hfo Tryz.underlying9 hc hcs hd0 ok0
 obtain ⟨c0,t0,hb0⟩:=(hrows a0.block a0.off (by simp [MemPlace.row])).1
 refine ⟨a0,?_,⟨c0,t0,hb0⟩,s0,hc0,hs0⟩
 simpa using World.var?_cell hg0 hv0 0
set_option maxRecDepth 100000 in
theorem u8extra:U8Extra Tryz.prog Tryz.lays196_ren:={ n3:=by kernel_rfl,n4:=by kernel_rfl,y3:=by kernel_rfl,y4:=by kernel_rfl,c5:=by kernel_rfl,c119:=by kernel_rfl,c138:=by kernel_rfl }
theorem es_star : "*" ++ "errors.errorString" = "*errors.errorString" := by decide
set_option maxRecDepth 100000 in
theorem es_row (u:TypeId) (h:Tryz.prog.typeName? 3 u=some "*errors.errorString"):u=321:=
 typeName_ptr_named (nm := "errors.errorString") (by rw [es_star]; kernel_rfl) (by kernel_rfl) (by decide) u (by rw [es_star]; exact h)
theorem es_iface:∃ ms,Tryz.prog.underlying 48=some (.interface ms):=⟨_,Tryz.underlying48⟩
theorem es_struct:∃ f:Field,Tryz.prog.underlying 323=some (.struct #[f])∧f.type=9∧f.offset=0:=⟨_,Tryz.underlying323,rfl,rfl⟩
set_option maxRecDepth 100000 in
theorem es_cells:Tryz.prog.cellsOf 323=1:=by kernel_rfl
set_option maxRecDepth 100000 in
theorem es_string:Tryz.prog.cellsOf 9=1:=by kernel_rfl
theorem wf_i64 {a:Int} (h:(Lit.int .i64 a).wf=true) : -9223372036854775808≤a∧a<9223372036854775808:=by
 simp [Lit.wf,IntKind.min,IntKind.max,IntKind.signed,IntKind.bits]at h
 omega
theorem cell_block_lt {w:World} {a:Addr} {v:Value} (h:w.cell? a=some v):a.block<w.heap.size:=by
 unfold World.cell? at h
 cases hh:w.heap[a.block]? with
 | none=>rw [hh]at h; cases h
 | some o=>exact (Array.getElem?_eq_some_iff.1 hh).1
set_option maxRecDepth 100000 in
theorem sentinel_var {n:String} {g:Nat} {text:List UInt8} {r:List (String×DataW Unit)} {W:World} (h:laidMet Tryz.prog ((n,.iface "*errors.errorString" (.ptr (.agg [.lit (.string text)])))::r) W)
  (hg:Tryz.prog.globalNamed n=some g) (ht:(Tryz.prog.globals[g]?).map (·.type)=some 48):∃ tp p,W.var? Tryz.prog n=some #[.iface tp p]:=by
 obtain ⟨ms,hi⟩:=es_iface
 obtain ⟨f,he,hft,hfo⟩:=es_struct
 obtain ⟨ps,⟨g0,t0,cs0,f0,p0,q0,hg0,ht0,hv0,hd0,_,e0⟩,_,hrows⟩:=h
 obtain rfl:=Option.some.inj (hg.symm.trans hg0)
 obtain rfl:=Option.some.inj (ht.symm.trans ht0)
 subst e0
 obtain ⟨l0⟩:=cs0
 have ok0:∀ u v,l0=[.iface u v]→Value.okWide Tryz.prog W .any 0 u v:=fun u v e=>by
  subst e
  exact (hrows g 0 (by simp [MemPlace.row])).2 u v (by simpa using World.var?_cell hg0 hv0 0)
 obtain ⟨a0,s0,rfl,hc0,hs0,hz0,rfl⟩:=errorString_of_trod hi es_row Tryz.underlying321 he hft hfo Tryz.underlying9 es_cells es_string hd0 ok0
 exact ⟨_,_,hv0⟩
set_option maxRecDepth 100000 in
theorem gR:Tryz.prog.globalNamed "strconv.ErrRange" = some 6:=by kernel_rfl
set_option maxRecDepth 100000 in
theorem tR:(Tryz.prog.globals[6]?).map (·.type)=some 48:=by kernel_rfl
end Go.Proofs.YtonihophanmaaaaGreatDoor
namespace Go.Proofs.YtonihophanmaaaaGreatDoor
open Go.RowKit Go.Shelf Go.Lib
set_option maxRecDepth 100000 in
theorem gTr:Tryz.prog.globalNamed "targum/tree.errTree" = some 0:=by kernel_rfl
set_option maxRecDepth 100000 in
theorem gFo:Tryz.prog.globalNamed "targum/tree.errForm" = some 1:=by kernel_rfl
set_option maxRecDepth 100000 in
theorem tTr:(Tryz.prog.globals[0]?).map (·.type)=some 48:=by kernel_rfl
set_option maxRecDepth 100000 in
theorem tFo:(Tryz.prog.globals[1]?).map (·.type)=some 48:=by kernel_rfl
structure GateLaid (l:List (String×DataW Unit)):Prop where
 eT:∃ k r,l.drop k=("targum/tree.errTree",.iface "*errors.errorString" (.ptr (.agg [.lit (.string [110,111,32,116,114,101,101])])))::r
 eF:∃ k r,l.drop k=("targum/tree.errForm",.iface "*errors.errorString" (.ptr (.agg [.lit (.string [110,111,32,115,117,99,104,32,102,111,114,109])])))::r
 ra:("unicode/utf8.acceptRanges",acceptData)∈l
 fi:("unicode/utf8.first",firstData)∈l
 eR:∃ k r,l.drop k=("strconv.ErrRange",.iface "*errors.errorString" (.ptr (.agg [.lit (.string [118,97,108,117,101,32,111,117,116,32,111,102,32,114,97,110,103,101])])))::r
theorem gw_of_laid {l:List (String×DataW Unit)} (hl:GateLaid l) {W:World} (h:laidMet Tryz.prog l W):∃ aT aF,GW W aT aF:=by
 obtain ⟨kT,rT,eT⟩:=hl.eT
 obtain ⟨kF,rF,eF⟩:=hl.eF
 obtain ⟨kR,rR,eR⟩:=hl.eR
 have hT:=laidMet_drop kT h
 have hF:=laidMet_drop kF h
 have hR:=laidMet_drop kR h
 rw [eT]at hT
 rw [eF]at hF
 rw [eR]at hR
 obtain ⟨aT,cT,bT,sT,dT,xT⟩:=sentinel_of hT gTr tTr es_iface es_row es_struct es_cells es_string
 obtain ⟨aF,cF,bF,sF,dF,xF⟩:=sentinel_of hF gFo tFo es_iface es_row es_struct es_cells es_string
 refine ⟨aT,aF,cT,cF,?_,bT,bF,?_,sentinel_var hR gR tR⟩
 ·rintro rfl
  rw [dT]at dF
  cases dF
  rw [xT]at xF
  cases xF
 ·obtain ⟨ps,hv,_,_⟩:=h
  exact utf8Tabs_of_readsT (U8Types.of196 Tryz.lays196) u8extra (LaidVars_reads hv _ _ hl.fi) (LaidVars_reads hv _ _ hl.ra)
end Go.Proofs.YtonihophanmaaaaGreatDoor
namespace Go.Proofs.YtonihophanmaaaaGreatDoor
open Go.RowKit Go.Shelf Go.Lib
noncomputable abbrev plainL:List (String×DataW Unit):=[("math/bits.deBruijn32tab",Rows.laid_math_bits_deBruijn32tab),("math/bits.deBruijn64tab",Rows.laid_math_bits_deBruijn64tab),("internal/strconv.uint64pow10",Rows.laid_internal_strconv_uint64pow10),("unicode/utf8.acceptRanges",Rows.laid_unicode_utf8_acceptRanges),("strconv.ErrRange",Rows.laid_strconv_ErrRange),("strconv.ErrSyntax",Rows.laid_strconv_ErrSyntax),("targum/tree.errTree",Rows.laid_targum_tree_errTree),("targum/tree.errForm",Rows.laid_targum_tree_errForm),("unicode/utf8.first",Rows.laid_unicode_utf8_first)]
noncomputable abbrev allL10:List (String×DataW Unit):=[("math/bits.deBruijn32tab",Rows.laid_math_bits_deBruijn32tab),("math/bits.deBruijn64tab",Rows.laid_math_bits_deBruijn64tab),("internal/strconv.uint64pow10",Rows.laid_internal_strconv_uint64pow10),("unicode/utf8.acceptRanges",Rows.laid_unicode_utf8_acceptRanges),("errors.errorType",Rows.laid_errors_errorType),("strconv.ErrRange",Rows.laid_strconv_ErrRange),("strconv.ErrSyntax",Rows.laid_strconv_ErrSyntax),("targum/tree.errTree",Rows.laid_targum_tree_errTree),("targum/tree.errForm",Rows.laid_targum_tree_errForm),("unicode/utf8.first",Rows.laid_unicode_utf8_first)]
set_option maxRecDepth 100000 in
theorem hand_parts {W:World} (h:laidMetH Tryz.prog allL10 W):laidMet Tryz.prog plainL W∧handlesMet Tryz.prog [("errors.errorType",Rows.laid_errors_errorType)] W:=by
 have e1:(allL10.filter fun x=>x.2.handleName?.isSome)=[("errors.errorType",Rows.laid_errors_errorType)]:=by kernel_rfl
 have e2:(allL10.filter fun x=>x.2.handleName?.isNone)=plainL:=by kernel_rfl
 unfold laidMetH at h
 rw [e1,e2]at h
 exact h
set_option maxRecDepth 100000 in
theorem hand_et:Tryz.prog.globalNamed "errors.errorType" = some 2:=by kernel_rfl
set_option maxRecDepth 100000 in
theorem hand_rt:(Tryz.prog.cutTypes.find? (·.1 == "internal/reflectlite.rtype")).map (·.2)=some 107:=by kernel_rfl
set_option maxRecDepth 100000 in
theorem hand_size:Tryz.prog.types.size=359:=by kernel_rfl
set_option maxRecDepth 100000 in
theorem hand_row:((List.range 359).filter fun t=>Tryz.prog.rowNamed t [101,114,114,111,114])=[48]:=by kernel_rfl
set_option maxRecDepth 100000 in
theorem hand_ty {W:World} (h:handlesMet Tryz.prog [("errors.errorType",Rows.laid_errors_errorType)] W):ErrTy W:=by
 obtain ⟨name,u,ty,e1,e2,e3,e4,e5⟩:=h _ (List.mem_singleton.2 rfl)
 have en:name=[101,114,114,111,114]:=(Option.some.inj e1).symm
 subst en
 obtain rfl:=Option.some.inj (hand_rt.symm.trans e2)
 have hm:ty∈(List.range 359).filter fun t=>Tryz.prog.rowNamed t [101,114,114,111,114]:=List.mem_filter.2 ⟨List.mem_range.2 (by rw [← hand_size]; exact e3),e4⟩
 rw [hand_row]at hm
 obtain rfl:=List.mem_singleton.1 hm
 have hh:typeHandle Tryz.prog 48=.pointer (some ⟨11,48,none⟩):=by kernel_rfl
 rw [hh]at e5
 simpa using World.var?_cell hand_et e5 0
set_option maxRecDepth 100000 in
theorem plain_gate:GateLaid plainL where
 eT:=⟨6,_,rfl⟩
 eF:=⟨7,_,rfl⟩
 ra:=by
  rw [show (acceptData:DataW Unit)=Rows.laid_unicode_utf8_acceptRanges from by kernel_rfl]
  exact .tail _ (.tail _ (.tail _ (.head _)))
 fi:=by
  rw [show (firstData:DataW Unit)=Rows.laid_unicode_utf8_first from by kernel_rfl]
  exact .tail _ (.tail _ (.tail _ (.tail _ (.tail _ (.tail _ (.tail _ (.tail _ (.head _))))))))
 eR:=⟨4,_,rfl⟩
set_option maxRecDepth 100000 in
theorem pow_g:Tryz.prog.globalNamed "internal/strconv.uint64pow10" = some 8:=by kernel_rfl
set_option maxRecDepth 100000 in
theorem pow_t:(Tryz.prog.globals[8]?).map (·.type)=some 326:=by kernel_rfl
set_option maxRecDepth 100000 in
theorem pow_u:Tryz.prog.cellsOf 25=1:=by kernel_rfl
set_option maxRecDepth 100000 in
theorem pow_c:Tryz.prog.cellsOf 326=20:=by kernel_rfl
set_option maxRecDepth 100000 in
theorem rw_of_laid {W:World} (h:laidMetH Tryz.prog allL10 W):∃ aT aF,RW W aT aF:=by
 obtain ⟨h1,h2⟩:=hand_parts h
 obtain ⟨aT,aF,hg⟩:=gw_of_laid plain_gate h1
 have h3:=laidMet_drop 2 h1
 exact ⟨aT,aF,hg,tabIs_of_head pow_g pow_t Tryz.underlying326 Tryz.underlying25 pow_u pow_c h3,hand_ty h2⟩
noncomputable def handW (os:Os):World:=
 let w0:=World.holding Tryz.prog os ⟨#[],#[],[]⟩
 { w0 with heap:=w0.heap.modify 2 fun
   | .cells _ t frozen=>.cells #[.iface 107 (.agg #[.pointer (some ⟨11,48,none⟩)])] t frozen
   | o=>o }
noncomputable def laidH (os:Os):World:=(handW os).layVars Tryz.prog plainL
theorem laidH_os (os:Os):(laidH os).os=os:=World.layVars_os _ _ _
set_option maxRecDepth 100000 in
theorem laidH_met (os:Os) (args:Array Value):laidMetH Tryz.prog allL10 ((laidH os).forCall (fun _ _=>0) ⟨#[],args,[]⟩).memory:=by
 refine laidMetH_of_parts ?_ ?_
 ·have e2:(allL10.filter fun x=>x.2.handleName?.isNone)=plainL:=by kernel_rfl
  rw [e2]
  have e3:(plainL.filter fun x=>(plainL.map (·.1)).contains x.1)=plainL:=List.filter_eq_self.2 fun x hx=>List.contains_iff_mem.2 (List.mem_map.2 ⟨x,hx,rfl⟩)
  have e4:(plainL.filter fun x=>!(plainL.map (·.1)).contains x.1)=[]:=List.filter_eq_nil_iff.2 fun x hx=>by rw [List.contains_iff_mem.2 (List.mem_map.2 ⟨x,hx,rfl⟩)]; simp
  have h:laidMet Tryz.prog plainL (laidH os):=laidMet_layVars (w0:=handW os) (plainL.map (·.1)) [] (by rw [e3]; rfl) (by rw [e3]; kernel_rfl) (by rw [e3]; kernel_rfl) (by rw [e4]; exact LaidIn.none)
  exact h.of_heap (by simp [World.memory,World.forCall,Input.heap])
 ·kernel_rfl
set_option maxRecDepth 100000 in
theorem laidH_shaped (os:Os) (args:Array Value):((laidH os).forCall (fun _ _=>0) ⟨#[],args,[]⟩).Shaped Tryz.prog:=World.shaped_of_ZipB (by kernel_rfl) (by kernel_rfl)
end Go.Proofs.YtonihophanmaaaaGreatDoor
namespace Go.Proofs.YtonihophanmaaaaGreatDoor
open Go.RowKit Go.Shelf Go.Lib
theorem tree_choose {p:Nat→Tr→Prop}:∀ (n:Nat),(∀ i,i<n→∃ s,p i s)→∃ l:List Tr,l.length=n∧∀ i (h:i<l.length),p i l[i]
 | 0,_=>⟨[],rfl,fun i h=>by simp at h⟩
 | n+1,h=>by
  obtain ⟨l,hl,hp⟩:=tree_choose n (fun i hi=>h i (by omega))
  obtain ⟨s,hs⟩:=h n (by omega)
  refine ⟨l++[s],by simp [hl],fun i hi=>?_⟩
  rw [List.getElem_append]
  split
  ·exact hp i _
  ·have:i=n:=by simp at hi; omega
   subst this
   simpa [hl] using hs
theorem wf_n64 {n:Int} (h:(Lit.int .u64 n).wf=true):0≤n∧n<18446744073709551616:=by
 simp [Lit.wf,IntKind.min,IntKind.max,IntKind.signed,IntKind.bits]at h
 omega
set_option maxRecDepth 100000 in
theorem cNode:Tryz.prog.cellsOf 28=9:=by kernel_rfl
section
variable {H:Type} {enc:TypeId×Value→H} {w:World} {base:Nat} {sp:Nat→Bool} {held:Bool}
theorem bulk_one (d:DataW H):1≤Rows.uptoBulk d:=by
 cases d with
 | lit l=>cases l <;> simp [Rows.uptoBulk]
 | _=>simp [Rows.uptoBulk]
theorem bulk_part {d:DataW H} {l:List (DataW H)} (h:d∈l):Rows.uptoBulk d≤Rows.uptoBulkAll l:=by
 induction l with
 | nil=>cases h
 | cons x r ih =>
  simp only [Rows.uptoBulkAll]
  rcases List.mem_cons.1 h with rfl | h
  ·omega
  ·have:=ih h
   omega
theorem bulk_append (l r:List (DataW H)):Rows.uptoBulkAll (l++r)=Rows.uptoBulkAll l+Rows.uptoBulkAll r:=by
 induction l with
 | nil=>simp [Rows.uptoBulkAll]
 | cons x l ih=>simp only [List.cons_append,Rows.uptoBulkAll,ih]; omega
theorem bulk_count (D:Nat→DataW H):∀ (n:Nat) (l:List Tr),l.length=n→(∀ i (h:i<l.length),l[i].count≤Rows.uptoBulk (D i))→countL l≤Rows.uptoBulkAll ((List.range n).map D)
 | 0,l,hl,_=>by
  obtain rfl:l=[]:=List.eq_nil_of_length_eq_zero hl
  simp [countL]
 | n+1,l,hl,h=>by
  have hn:n<l.length:=by omega
  have e:l=l.take n++[l[n]]:=by
   rw [← List.take_succ_eq_append_getElem hn,List.take_of_length_le (by omega)]
  have ih:=bulk_count D n (l.take n) (by rw [List.length_take]; omega) (fun i hi=>by
   rw [List.length_take]at hi
   rw [List.getElem_take]
   exact h i (by omega))
  rw [List.range_succ,List.map_append,bulk_append]
  have h1:=h n hn
  have h2:countL l=countL (l.take n)+countL [l[n]]:=by
   rw [← countL_append,← e]
  rw [h2]
  simp only [countL,List.map_cons,List.map_nil,Rows.uptoBulkAll]
  omega
set_option maxHeartbeats 1000000 in
set_option maxRecDepth 100000 in
theorem open_node:∀ (b fuel:Nat) (cs:List Value) (x:DataW H×List MemPlace),DataW.trod enc Tryz.prog w base sp held fuel 28 cs=some x→Rows.uptoBulk x.1≤b →
  ∃ (t:Tr) (v:Value),cs=nodeCells t.own v∧ListAt w w.heap.size b t.kids v∧OwnOk t.own∧t.count≤Rows.uptoBulk x.1:=by
 intro b
 induction b with
 | zero =>
  intro fuel cs x _ hx
  have:=bulk_one x.1
  omega
 | succ b ih =>
  intro fuel cs x h hb
  obtain ⟨xs,n,rfl,rfl,hl,hxl,hall⟩:=DataW.trod_struct Tryz.underlying28 h
  rw [cNode]at hl
  match cs,hl with
  | [c0,c1,c2,c3,c4,c5,c6,c7,c8],_ =>
   match xs,hxl with
   | [x0,x1,x2,x3,x4,x5,x6],_ =>
    have h0:=hall 0 _ rfl
    have h1:=hall 1 _ rfl
    have h2:=hall 2 _ rfl
    have h3:=hall 3 _ rfl
    have h4:=hall 4 _ rfl
    have h5:=hall 5 _ rfl
    have h6:=hall 6 _ rfl
    obtain ⟨kind,e0,_,w0⟩:=DataW.trod_int Tryz.underlying3 h0
    obtain ⟨bb,e1,_⟩:=DataW.trod_bool Tryz.underlying4 h1
    obtain ⟨u,e3,_,w3⟩:=DataW.trod_int Tryz.underlying25 h3
    obtain ⟨wd,e4,_,w4⟩:=DataW.trod_int Tryz.underlying3 h4
    obtain ⟨s,e5,_,w5⟩:=DataW.trod_string Tryz.underlying9 h5
    obtain ⟨ys,m,_,hx2,hl2,hyl,hall2⟩:=DataW.trod_struct Tryz.underlying24 h2
    match ys,hyl with
    | [y0,y1,y2],_ =>
     have g0:=hall2 0 _ rfl
     have g1:=hall2 1 _ rfl
     have g2:=hall2 2 _ rfl
     obtain ⟨neg,f0,_⟩:=DataW.trod_bool Tryz.underlying4 g0
     obtain ⟨dg,f1,_,v1⟩:=DataW.trod_string Tryz.underlying9 g1
     obtain ⟨ex,f2,_,v2⟩:=DataW.trod_int Tryz.underlying3 g2
     have e0:[c0]=[_]:=e0
     have e1:[c1]=[_]:=e1
     have e3:[c5]=[_]:=e3
     have e4:[c6]=[_]:=e4
     have e5:[c7]=[_]:=e5
     have f0:[c2]=[_]:=f0
     have f1:[c3]=[_]:=f1
     have f2:[c4]=[_]:=f2
     cases e0
     cases e1
     cases e3
     cases e4
     cases e5
     cases f0
     cases f1
     cases f2
     have hok:OwnOk ⟨kind,bb,neg,dg,ex,u,wd,s⟩:=⟨by simpa [maxLen] using v1,by simpa [maxLen] using w5,wf_i64 w0,wf_i64 v2,wf_n64 w3,wf_i64 w4⟩
     have hbulk:Rows.uptoBulk x6.1+1≤Rows.uptoBulk (DataW.agg ([x0,x1,x2,x3,x4,x5,x6].map (·.1))):=by
      simp only [Rows.uptoBulk,List.map_cons,List.map_nil,Rows.uptoBulkAll]
      omega
     have h6:DataW.trod enc Tryz.prog w base sp held n 26 [c8]=some x6:=h6
     clear hall hall2 h h0 h1 h2 h3 h4 h5 g0 g1 g2 e1 e3 e4 e5 f0 f1 f2 w0 w3 w4 w5 v1 v2
     rcases Go.Deep.open_slice Tryz.underlying26 h6 with ⟨e6,_⟩ | ⟨a,len,cap,m',n',D,Pl,e6,hab,hlc,hm,hmm,hx6,hx⟩
     ·cases e6
      refine ⟨.nd ⟨kind,bb,neg,dg,ex,u,wd,s⟩ [],.slice none 0 0,rfl,LAt.nil _ _ _ _ _,hok,?_⟩
      rw [Tr.count_eq]
      show 1+countL []≤_
      rw [countL]
      exact bulk_one _
     ·cases e6
      have hlm:len≤m':=by rw [hmm]; split <;> omega
      rw [cNode]at hx
      have hd6:x6.1=DataW.slice ((List.range len).map D) ((List.range (m' - len)).map fun j=>D (len+j)):=by rw [hx6]
      rw [hd6]at hbulk
      have hb2:Rows.uptoBulkAll ((List.range len).map D)+2≤Rows.uptoBulk (DataW.agg ([x0,x1,x2,x3,x4,x5,x6].map (·.1))):=by
       have:Rows.uptoBulk (DataW.slice ((List.range len).map D) ((List.range (m' - len)).map fun j=>D (len+j)))=Rows.uptoBulkAll ((List.range len).map D)+Rows.uptoBulkAll ((List.range (m' - len)).map fun j=>D (len+j))+1:=by simp only [Rows.uptoBulk]
       rw [this]at hbulk
       omega
      have hbD:∀ i,i<len→Rows.uptoBulk (D i)≤b:=fun i hi=>by
       have h1:=bulk_part (d:=D i) (l:=(List.range len).map D) (List.mem_map.2 ⟨i,List.mem_range.2 hi,rfl⟩)
       have hb':Rows.uptoBulk (DataW.agg ([x0,x1,x2,x3,x4,x5,x6].map (·.1)))≤b+1:=hb
       omega
      obtain ⟨l,hll,hp⟩:=tree_choose (p:=fun i t=>∃ v,(∀ j q,(nodeCells t.own v)[j]? = some q→w.cell? (a.add (i*9+j))=some q)∧a.block<w.heap.size∧ListAt w w.heap.size b t.kids v∧OwnOk t.own∧t.count≤Rows.uptoBulk (D i)) len (fun i hi=>by
       obtain ⟨cs',h1,h2⟩:=hx i (by omega)
       obtain ⟨t,v,e,h3,h4,h5⟩:=ih n' cs' (D i,Pl i) h2 (hbD i hi)
       subst e
       obtain ⟨_,hlen,hc⟩:=World.cells?_some h1
       have hcc:∀ j q,(nodeCells t.own v)[j]? = some q→w.cell? (a.add (i*9+j))=some q:=fun j q hq=>by
        have hj:j<9:=(List.getElem?_eq_some_iff.1 hq).1
        rw [← add_add',hc j hj,hq]
       refine ⟨t,v,hcc,?_,h3,h4,h5⟩
       have:=cell_block_lt (hcc 0 _ rfl)
       rwa [add_block]at this)
      refine ⟨.nd ⟨kind,bb,neg,dg,ex,u,wd,s⟩ l,.slice (some a) len cap,rfl,⟨some a,cap,by rw [← hll]; rfl,⟨by show l.length≤_; simp [maxLen]at hm; omega,by show l.length≤_; omega⟩,fun i hi=>?_⟩,hok,?_⟩
      ·obtain ⟨v,g1,g2,g3,g4,_⟩:=hp i hi
       exact ⟨a,v,rfl,g2,g4,g1,g3⟩
      ·rw [Tr.count_eq]
       show 1+countL l≤Rows.uptoBulk (DataW.agg ([x0,x1,x2,x3,x4,x5,x6].map (·.1)))
       have:=bulk_count D len l hll (fun i hi=>by
        obtain ⟨_,_,_,_,_,g5⟩:=hp i hi
        exact g5)
       omega
set_option maxRecDepth 100000 in
theorem open_tree {W:World} {r:Reach} {b0:Nat} {v:Value} {d:DataW H} {ps:List MemPlace} (hval:Value.okWide Tryz.prog W r b0 28 v) (hd:DataW.Trod enc Tryz.prog w base sp held 28 v d ps) :
  ∃ (t:Tr) (x:Value),v=nodeV t.own x∧ListAt w w.heap.size (Rows.uptoBulk d) t.kids x∧OwnOk t.own∧t.count≤Rows.uptoBulk d:=by
 obtain ⟨fuel,hf⟩:=hd
 obtain ⟨t,x,e,h1,h2,h3⟩:=open_node (Rows.uptoBulk d) fuel _ _ hf (Nat.le_refl _)
 refine ⟨t,x,?_,h1,h2,h3⟩
 obtain ⟨cs,rfl,_⟩:=Go.WideShapes.okWide_struct Tryz.underlying28 hval
 have e:cs.toList=nodeCells t.own x:=e
 rw [nodeCells_eq,← e]
end
end Go.Proofs.YtonihophanmaaaaGreatDoor
namespace Go.Proofs.YtonihophanmaaaaGreatDoor.detTurns
open Go.ChangeShapes Go.WideShapes Go.ChangeAt Go.RowKit Go.Lib
open Go.ChangeMaps (open_string shut_string)
theorem own:ownKnob Tryz.prog.godebug=none:=by kernel_rfl
theorem laidOut:laidOutB Tryz.prog=true:=by kernel_rfl
theorem listed:Rows.detTurnsUptoRow.laid=allL10:=rfl
abbrev zArgs:Array Value:=#[zeroN]
noncomputable abbrev laidW (os:Os):World:=((laidH os).forCall (fun _ _=>0) ⟨#[],zArgs,[]⟩).memory
set_option maxRecDepth 100000 in
set_option maxHeartbeats 2000000 in
theorem lifted (os:Os) (started:os.Started) (H:Type) (enc:TypeId×Value→H) (F:Stop.Interp) :
  ReturnsInHanded {} Tryz.checked os 5 .any ((Rows.OpenSpec.upto Rows.detTurnsSpec).preRow enc Tryz.prog Tryz.f5 Rows.detTurnsUptoRow.domain false Rows.detTurnsUptoRow.laid) (((Rows.OpenSpec.upto Rows.detTurnsSpec).at F).post enc Tryz.prog Tryz.f5 false true false false):=by
 have hs:(DataW.whole enc Tryz.prog (laidW os) Tryz.f5.params.toList Rows.detTurnsSpec.vars false zArgs.toList 8).isSome=true:=by kernel_rfl
 refine returnsInHanded_of_row (C:=Tryz.checked) (s:=Rows.OpenSpec.upto Rows.detTurnsSpec) own started (by kernel_rfl) Tryz.func5
  ⟨laidH os,fun _ _=>0,⟨#[],zArgs,[]⟩,laidH_os os,laidH_shaped os _,
   rfl,(Input.okWide_of_okWideB (P:=Tryz.prog) (w:=(laidH os).forCall (fun _ _=>0) ⟨#[],zArgs,[]⟩) (f:=5) (i:=⟨#[],zArgs,[]⟩) (by kernel_rfl)).2,
   OpenSpec.preRow_of_cond 8 (Option.some_get hs).symm (by kernel_rfl) (fun k hk=>by cases hk; kernel_rfl) (by kernel_rfl) (by
    rw [listed]
    exact laidH_met os _),by
   simp only [Assume.holds]
   exact ⟨by simp,by simp,fun _=>Modest.zero,by simp,by simp⟩⟩ ?_
 intro W base args ds gs before hval0 hW _ hcond _ hL _ _
 have hval:∀ (j:Nat) t v,Tryz.f5.params[j]? = some t→args[j]? = some v→Value.okWide Tryz.prog W .any base t v:=hval0
 have hW':=hW
 obtain ⟨p,q,hA0,hV,rfl,_,_⟩:=hW
 have hA:DataW.TrodAll enc Tryz.prog W 0 (fun _=>true) true Tryz.f5.params.toList args.toList ds p:=hA0
 rw [Tryz.params5]at hA hval
 obtain ⟨v0,vs0,d0,ds0,p0,q0,hargs,rfl,rfl,h0,r0⟩:=trodAll_cons hA
 obtain ⟨rfl,rfl,rfl⟩:=trodAll_nil r0
 obtain rfl:args = #[v0]:=by cases args; simp_all
 obtain ⟨rfl,rfl⟩:=trodVars_none hV
 have hbulk:Rows.uptoBulk d0≤1048576:=by
  have:=hcond _ rfl
  have h:Rows.uptoBulkAll ([d0]++[])≤1048576:=of_decide_eq_true this
  simp only [List.append_nil,Rows.uptoBulkAll]at h
  omega
 obtain ⟨t0,x0,rfl,ht0,hto0,htc0⟩:=open_tree (hval 0 28 v0 rfl rfl) h0
 rw [listed]at hL
 obtain ⟨aT,aF,hU⟩:=rw_of_laid hL
 refine (turns_walkD t0 x0 W hU _ ht0 hto0 (by omega)).mono fun e W' ⟨he,hb⟩=>?_
 subst he
 exact ⟨_,rfl,law_post laidOut (by kernel_rfl) rfl Tryz.underlying4 rfl rfl rfl rfl hW' hb⟩
end Go.Proofs.YtonihophanmaaaaGreatDoor.detTurns
namespace Go.Proofs.YtonihophanmaaaaGreatDoor.detTurns
open Go.ChangeShapes Go.WideShapes Go.ChangeAt Go.RowKit Go.Lib
open Go.ChangeMaps (open_string shut_string)
theorem k_place:(Rows.detTurnsUptoRow.inPlace == Tryz.pinned.checked.prog.inPlace 5)=true:=by kernel_rfl
theorem k_unf:(Rows.detTurnsUptoRow.unfollowed == Tryz.pinned.checked.prog.unfollowed 5)=true:=by kernel_rfl
theorem k_rec:(Rows.detTurnsUptoRow.recurses == Tryz.pinned.checked.prog.recurses 5)=true:=by kernel_rfl
theorem k_named:(Rows.detTurnsUptoRow.named == Tryz.pinned.checked.prog.varsNamed 5)=true:=by kernel_rfl
theorem named_f:Tryz.pinned.checked.prog.funcNamed Rows.detTurnsUptoRow.func=some 5:=by kernel_rfl
theorem closed_f:joinedFacts Tryz.pinned.checked.prog 5 Tryz.f5 (Rows.OpenSpec.upto Rows.detTurnsSpec).bare Rows.detTurnsUptoRow=true:=by
 unfold joinedFacts
 rw [k_place,k_unf,k_rec,k_named]
 kernel_rfl
theorem over:Rows.DetTurnsUptoSaid:=
 OpenClaim.holds_of_cond 5 Tryz.f5 rfl rfl rfl rfl rfl rfl rfl ⟨rfl,rfl,rfl,rfl,rfl⟩ rfl rfl rfl rfl rfl named_f Tryz.func5 closed_f
  (of_decide_eq_true (by kernel_rfl)) (by unfold Func.isWrapper; first | (rw [if_pos (by decide +kernel)]; kernel_rfl) | (rw [if_neg (by decide +kernel)]; exact ⟨rfl,rfl⟩))
  (fun os started H enc _ F=>by rw [OpenClaim.pre_eq_preRow]; exact lifted os started H enc F)
end Go.Proofs.YtonihophanmaaaaGreatDoor.detTurns
namespace Go.Proofs.YtonihophanmaaaaGreatDoor.detTurns
open Go.ChangeShapes Go.WideShapes Go.ChangeAt Go.RowKit Go.Lib
open Go.ChangeMaps (open_string shut_string)
theorem proved:Rows.DetTurnsUptoCardSaid:=
 Claim7.holds_tied_plain_at .later [] [.data,.data,.data,.data,.handle,.sentinel,.sentinel,.sentinel,.sentinel,.pinned] true Rows.detTurnsUptoCard.stood.harness true over (fun _ h=>by cases h) (by kernel_rfl) (fun _ h=>by cases h) detTurnsUpto_row_tie rfl ⟨rfl,rfl⟩ (by kernel_rfl) rfl
  (fun f fn hf hfn=>by
   obtain rfl:f=5:=Option.some.inj ((show Tryz.prog.funcNamed Rows.detTurnsUptoRow.func=some 5 by kernel_rfl).symm.trans hf) |>.symm
   obtain rfl:fn=Tryz.f5:=(Option.some.inj (Tryz.func5.symm.trans hfn)).symm
   exact ⟨by kernel_rfl,fun j t ht=>by
    rw [Tryz.params5]at ht
    have hm:t∈[28]:=by simpa using Array.mem_of_getElem? ht
    have hall:([28].all fun u=>!Tryz.prog.wantsStandIn u)=true:=by kernel_rfl
    exact (show Tryz.prog.wantsStandIn t=false by simpa using List.all_eq_true.1 hall t hm)⟩)
  (by kernel_rfl)
#print axioms proved
end Go.Proofs.YtonihophanmaaaaGreatDoor.detTurns
