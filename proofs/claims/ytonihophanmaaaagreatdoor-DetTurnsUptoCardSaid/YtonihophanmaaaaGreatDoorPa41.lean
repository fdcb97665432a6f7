/- The texts CrO, put together. -/
import Derived.Test.YtonihophanmaaaaGreatDoorPa38
import Derived.Outline
import Derived.Test.YtonihophanmaaaaGreatDoorPa40
import Derived.Test.YtonihophanmaaaaGreatDoorPa16
namespace Go.Proofs.YtonihophanmaaaaGreatDoor
open Go.RowKit Go.Shelf
attribute [local go_sem] Oper.semAt_some wide_fn wide_depth
theorem cr_items (p:Nat) (hm hi ha size:Int) (w:World) :
  Calls Tryz.prog 207 #[.pointer (some ⟨p,0,none⟩),.agg #[.int .i64 hm,.int .i64 hi,.int .u64 ha],.int .i64 size] w fun e w'=>e=.returned (.func (.func 242) #[] #[.pointer (some ⟨w.heap.size+1,0,none⟩),.pointer (some ⟨w.heap.size,0,none⟩),.pointer (some ⟨w.heap.size+2,0,none⟩)]) ∧
   w'=(((w.alloc (.cells #[.pointer (some ⟨p,0,none⟩)] 84)).alloc (.cells #[.int .i64 hm,.int .i64 hi,.int .u64 ha] 137)).alloc (.cells #[.int .i64 size] 3)):=by
 go_enter Tryz.func207,Tryz.ntmps207
 go_wp2
 go_ret
 exact ⟨rfl,rfl⟩
def ListI (n:Nat) (kd:Int) (d p sz:Nat) (w:World) (pre:List Ev) (W:World):Prop:=
 (((∀ x∈pre,x.isOk)∧pre.length≤sz)∧n+7≤W.heap.size)∧w.grownBy W (some p)∧Blk W (n+1) #[.int .i64 0,.bool false,.bool false,.string ⟨#[]⟩,.int .i64 0,.int .u64 0,.int .i64 0,.string ⟨#[]⟩,.slice none 0 0] 28∧Blk W (n+3) #[.nilIface] 48∧∃ v xs,Blk W (n+2) #[.int .i64 kd,.bool false,.bool false,.string ⟨#[]⟩,.int .i64 0,.int .u64 0,.int .i64 0,.string ⟨#[]⟩,v] 28∧W.ownsRow (n+7) 28 9 v pre.length xs∧RowT W (fun q=>n+7≤q∧q<W.heap.size∧v.ownBlock≠some q) d (treesE pre) xs
def ListX (n:Nat) (kd:Int) (dp p sz:Nat) (w:World) (c:Code) (pre:List Ev) (W:World):Prop:=
 c=.exit 0∧w.grownBy W (some p)∧Blk W (n+1) #[.int .i64 0,.bool false,.bool false,.string ⟨#[]⟩,.int .i64 0,.int .u64 0,.int .i64 0,.string ⟨#[]⟩,.slice none 0 0] 28∧(∃ xs o v e,pre=xs++[.no o v e]∧e≠0∧Blk W (n+3) #[errW e] 48)∧(∃ A m c,Blk W (n+2) #[.int .i64 kd,.bool false,.bool false,.string ⟨#[]⟩,.int .i64 0,.int .u64 0,.int .i64 0,.string ⟨#[]⟩,.slice A m c] 28)∧RdX p dp sz W
def ListA (n:Nat) (kd:Int) (d dp p sz:Nat) (T:Array Value) (pre:List Ev) (x:Ev) (a':Act) (W:World):Prop:=
 ∃ k,n+7≤k∧k≤W.heap.size∧(∀ v,Blk W (n+2) #[.int .i64 kd,.bool false,.bool false,.string ⟨#[]⟩,.int .i64 0,.int .u64 0,.int .i64 0,.string ⟨#[]⟩,v] 28→∀ q,v.ownBlock=some q→q<k)∧ItemsT p dp k d sz (pre++[x]) W∧∃ b,(k≤b∧b<W.heap.size)∧match x with
  | .ok t v=>Blk W b (cellsV t.own v) 28∧a'={ tmps:=(((T.setIfInBounds 20 (nodeV t.own v)).setIfInBounds 21 .nilIface).setIfInBounds 9 (.pointer (some ⟨b,0,none⟩))).setIfInBounds 10 .nilIface,defers:=[] }
  | .no o v e=>Blk W b (cellsV o v) 28∧a'={ tmps:=(((T.setIfInBounds 20 (nodeV o v)).setIfInBounds 21 (errW e)).setIfInBounds 9 (.pointer (some ⟨b,0,none⟩))).setIfInBounds 10 (errW e),defers:=[] }
theorem listI_own (n:Nat) (kd:Int) (d p sz:Nat) (w:World) {B:Nat} (hB:n+7≤B) (hw:w.heap.size=n):OwnFrom B (ListI n kd d p sz w):=by
 rintro s X Y row ⟨h1,h2,h3,h4,v,xs,h5,h6,h7⟩ hg hr
 have hr2:=fun r e=>(hr r e).2
 refine ⟨⟨h1.1,Nat.le_trans h1.2 hg.size⟩,grown_C h2 hg (n:=n) (by omega) (fun r e=>by have:=(hr r e).1; omega),blkC h3 hg hr2,blkC h4 hg hr2,v,xs,blkC h5 hg hr2,row_keptC h6 hg hr2,?_⟩
 exact (h7.keptC hg hr2).mono (fun q hq=>⟨hq.1,Nat.lt_of_lt_of_le hq.2.1 hg.size,hq.2.2⟩)
theorem listX_own (n:Nat) (kd:Int) (dp p sz:Nat) (w:World) {B:Nat} (hB:n+7≤B) (hw:w.heap.size=n) (c:Code):OwnFrom B (ListX n kd dp p sz w c):=by
 rintro s X Y row ⟨h1,h2,h3,⟨xs,o,v,e,h4,h5,h6⟩,⟨A,m,c,h7⟩,s',h8,h9⟩ hg hr
 have hr2:=fun r e=>(hr r e).2
 exact ⟨h1,grown_C h2 hg (n:=n) (by omega) (fun r e=>by have:=(hr r e).1; omega),blkC h3 hg hr2,⟨xs,o,v,e,h4,h5,blkC h6 hg hr2⟩,⟨A,m,c,blkC h7 hg hr2⟩,s',blkC h8 hg hr2,h9⟩
theorem itemsT_own (p dp n d sz:Nat) (pre:List Ev) {X Y:World} {row:Option Nat} (h:ItemsT p dp n d sz pre X) (hg:X.grownBy Y row) (hr2:∀ r,row=some r→∃ o:Obj,X.heap[r]? = some o∧o.isCells=false):ItemsT p dp n d sz pre Y:=by
 refine ⟨h.1,fun xs x hx=>?_⟩
 have:=h.2 xs x hx
 cases x with
 | ok t v=>exact ⟨this.1,(this.2.1.keptC hg hr2).mono (fun q hq=>⟨hq.1,Nat.lt_of_lt_of_le hq.2 hg.size⟩),this.2.2⟩
 | no o v e=>exact ⟨this.1,this.2.1,this.2.2.choose,blkC this.2.2.choose_spec.1 hg hr2,this.2.2.choose_spec.2⟩
end Go.Proofs.YtonihophanmaaaaGreatDoor
