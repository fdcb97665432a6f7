/- The texts JwB, JwC, JwD, JsL, put together. -/
import Derived.Test.YtfckekaegjjmkaaGreatDoorPh42
import Derived.Test.YtfckekaegjjmkaaGreatDoorPh43
import Derived.Test.YtfckekaegjjmkaaGreatDoorPh31
import Derived.Test.YtfckekaegjjmkaaGreatDoorPh21
import Derived.Test.YtfckekaegjjmkaaGreatDoorPh26
import Derived.Test.YtfckekaegjjmkaaGreatDoorPh37
import Derived.Test.YtfckekaegjjmkaaGreatDoorPh07
import Derived.Test.YtfckekaegjjmkaaGreatDoorPh15
namespace Go.Proofs.YtfckekaegjjmkaaGreatDoor
open Go.RowKit Go.Shelf

structure SW (w:World) (aT aF:Addr):Prop where
 g:GW w aT aF
 tab:Pow10F w
theorem SW.below {w w':World} {aT aF:Addr} (h:SW w aT aF) (hb:Below w.heap.size w w'):SW w' aT aF where
 g:=h.g.below hb
 tab:=Lib.tabBelow_of_tabIs h.tab w' hb
theorem fmtD_len {neg:Bool} {dg:ByteArray} {ex:Int} (h:decOk neg dg ex=true):(fmtD neg dg.data.toList ex).length ≤ 300:=by
 obtain ⟨hd1,hd2,he1,he2⟩:=decOk_bounds h
 have hdl:dg.data.toList.length=dg.size:=by simp
 have hi:=itoaL_len ex he1 he2
 unfold fmtD
 rw [List.length_append]
 have h1:(if neg=true then [(45:UInt8)] else []).length ≤ 1:=by split <;> simp
 generalize (if neg=true then [(45:UInt8)] else []).length=q at h1 ⊢
 split
 ·rw [List.length_append,List.length_cons]
  omega
 ·split
  ·rw [List.length_append,List.length_replicate]
   omega
  ·split
   ·rw [List.length_append,List.length_cons,List.length_take,List.length_drop]
    omega
   ·rw [List.length_cons,List.length_cons,List.length_append,List.length_replicate]
    omega

set_option maxHeartbeats 4000000 in
set_option maxRecDepth 100000 in
theorem jn_null (B p:Nat) (pr:Bool) (dp:Int) (l:List UInt8) (kind:Int) (b neg:Bool) (dg:ByteArray) (ex u wd:Int) (s:ByteArray) (v:Value) (W:World) (h:IsJ B p pr dp (Lib.byteCells l) W) (hlen:l.length ≤ 900000000) :
  Calls Tryz.prog 101 #[.pointer (some ⟨p,0,none⟩),.agg #[.int .i64 kind,.bool b,.bool neg,.string dg,.int .i64 ex,.int .u64 u,.int .i64 wd,.string s,v]] W fun e W'=>e=.returned (.tuple #[]) ∧ JP B p pr dp (l ++ [110,117,108,108]) W W':=by
 have hb1:Below W.heap.size W (W.alloc (.cells #[.int .i64 kind,.bool b,.bool neg,.string dg,.int .i64 ex,.int .u64 u,.int .i64 wd,.string s,v] 27)):=(Below.refl _ _).alloc (Nat.le_refl _) _
 have hk1:=Blk.new W #[.int .i64 kind,.bool b,.bool neg,.string dg,.int .i64 ex,.int .u64 u,.int .i64 wd,.string s,v] 27
 have hbs:=hb1.alloc hb1.size (.cells #[.string ⟨#[110,117,108,108]⟩] 9)
 have HWD:=Lib.hid (j_words1 B p (W.heap.size + 1) pr dp l ⟨#[110,117,108,108]⟩ _ (JP.step h hbs).is (by show l.length + 4 ≤ _; omega) (by have:=Blk.new (W.alloc (.cells #[.int .i64 kind,.bool b,.bool neg,.string dg,.int .i64 ex,.int .u64 u,.int .i64 wd,.string s,v] 27)) #[.string ⟨#[110,117,108,108]⟩] 9; rw [World.size_alloc] at this; exact this)).calls
 have hws:=JP.step h hbs
 clear h hk1
 go_enter Tryz.func101,Tryz.ntmps101
 go_wp2_with fail
 refine HWD.out.mono ?_
 rintro e W2 ⟨rfl,h2⟩
 have hw2:=hws.trans h2
 go_wp2_with fail
 go_end0
 exact ⟨rfl,hw2⟩

set_option maxHeartbeats 4000000 in
set_option maxRecDepth 100000 in
theorem jn_truth (B p:Nat) (pr:Bool) (dp:Int) (l:List UInt8) (kind:Int) (b neg:Bool) (dg:ByteArray) (ex u wd:Int) (s:ByteArray) (v:Value) (W:World) (h:IsJ B p pr dp (Lib.byteCells l) W) (hlen:l.length ≤ 900000000) :
  Calls Tryz.prog 102 #[.pointer (some ⟨p,0,none⟩),.agg #[.int .i64 kind,.bool b,.bool neg,.string dg,.int .i64 ex,.int .u64 u,.int .i64 wd,.string s,v]] W fun e W'=>e=.returned (.tuple #[]) ∧ JP B p pr dp (l ++ (if b=true then [116,114,117,101] else [102,97,108,115,101])) W W':=by
 have hb1:Below W.heap.size W (W.alloc (.cells #[.int .i64 kind,.bool b,.bool neg,.string dg,.int .i64 ex,.int .u64 u,.int .i64 wd,.string s,v] 27)):=(Below.refl _ _).alloc (Nat.le_refl _) _
 have hk1:=Blk.new W #[.int .i64 kind,.bool b,.bool neg,.string dg,.int .i64 ex,.int .u64 u,.int .i64 wd,.string s,v] 27
 have z1:=hk1.cell 1
 cases b with
 | true =>
  have hbs:=hb1.alloc hb1.size (.cells #[.string ⟨#[116,114,117,101]⟩] 9)
  have HWD:=Lib.hid (j_words1 B p (W.heap.size + 1) pr dp l ⟨#[116,114,117,101]⟩ _ (JP.step h hbs).is (by show l.length + 4 ≤ _; omega) (by have:=Blk.new (W.alloc (.cells #[.int .i64 kind,.bool true,.bool neg,.string dg,.int .i64 ex,.int .u64 u,.int .i64 wd,.string s,v] 27)) #[.string ⟨#[116,114,117,101]⟩] 9; rw [World.size_alloc] at this; exact this)).calls
  have hws:=JP.step h hbs
  clear h hk1
  go_enter Tryz.func102,Tryz.ntmps102
  go_wp2_with fail
  refine HWD.out.mono ?_
  rintro e W2 ⟨rfl,h2⟩
  have hw2:=hws.trans h2
  go_wp2_with fail
  refine bodyPost_ret (results_none rfl _ _ _) rfl ?_
  exact ⟨rfl,hw2⟩
 | false =>
  have hbs:=hb1.alloc hb1.size (.cells #[.string ⟨#[102,97,108,115,101]⟩] 9)
  have HWD:=Lib.hid (j_words1 B p (W.heap.size + 1) pr dp l ⟨#[102,97,108,115,101]⟩ _ (JP.step h hbs).is (by show l.length + 5 ≤ _; omega) (by have:=Blk.new (W.alloc (.cells #[.int .i64 kind,.bool false,.bool neg,.string dg,.int .i64 ex,.int .u64 u,.int .i64 wd,.string s,v] 27)) #[.string ⟨#[102,97,108,115,101]⟩] 9; rw [World.size_alloc] at this; exact this)).calls
  have hws:=JP.step h hbs
  clear h hk1
  go_enter Tryz.func102,Tryz.ntmps102
  go_wp2_with fail
  refine HWD.out.mono ?_
  rintro e W2 ⟨rfl,h2⟩
  have hw2:=hws.trans h2
  go_wp2_with fail
  go_end0
  exact ⟨rfl,hw2⟩

set_option maxHeartbeats 4000000 in
set_option maxRecDepth 100000 in
theorem jn_num (B p:Nat) (pr:Bool) (dp:Int) (l:List UInt8) (kind:Int) (b neg:Bool) (dg:ByteArray) (ex u wd:Int) (s:ByteArray) (v:Value) (W:World) (h:IsJ B p pr dp (Lib.byteCells l) W) (hlen:l.length ≤ 900000000) (hok:decOk neg dg ex=true) {aT aF:Addr} (hG:SW W aT aF) :
  Calls Tryz.prog 103 #[.pointer (some ⟨p,0,none⟩),.agg #[.int .i64 kind,.bool b,.bool neg,.string dg,.int .i64 ex,.int .u64 u,.int .i64 wd,.string s,v]] W fun e W'=>e=.returned (.tuple #[]) ∧ JP B p pr dp (l ++ fmtD neg dg.data.toList ex) W W':=by
 have hb1:Below W.heap.size W (W.alloc (.cells #[.int .i64 kind,.bool b,.bool neg,.string dg,.int .i64 ex,.int .u64 u,.int .i64 wd,.string s,v] 27)):=(Below.refl _ _).alloc (Nat.le_refl _) _
 have hk1:=Blk.new W #[.int .i64 kind,.bool b,.bool neg,.string dg,.int .i64 ex,.int .u64 u,.int .i64 wd,.string s,v] 27
 have z2:=hk1.cell 2
 have z3:=hk1.cell 3
 have z4:=hk1.cell 4
 have hfl:=fmtD_len hok
 have HF:=Lib.hid (dec_Format neg dg ex hok _ (hG.below hb1).tab)
 obtain ⟨fs,hfs⟩:∃ fs:ByteArray,(⟨(fmtD neg dg.data.toList ex).toArray⟩:ByteArray)=fs:=⟨_,rfl⟩
 have hfsl:fs.data.toList=fmtD neg dg.data.toList ex:=by rw [← hfs]
 have hfz:fs.size ≤ 300:=by
  have:fs.data.toList.length=fs.size:=by simp
  rw [hfsl] at this
  omega
 rw [hfs] at HF
 rw [← hfsl]
 have HWD:=Lib.hid (fun (W2:World) (hb:Below W.heap.size W W2)=>(j_words1 B p W2.heap.size pr dp l fs (W2.alloc (.cells #[.string fs] 9)) (JP.step h (hb.alloc hb.size _)).is (by omega) (Blk.new _ _ _)).calls)
 have HI:=Lib.hid h
 clear h hk1 hok hG hfl hfs hfsl
 go_enter Tryz.func103,Tryz.ntmps103
 go_wp2_with fail
 refine HF.out.mono ?_
 rintro e W2 ⟨rfl,hb⟩
 have hb2:=hb1.trans (hb.mono hb1.size)
 have H2:=Lib.hid (HWD.out W2 hb2)
 have hws:=JP.step HI.out (hb2.alloc hb2.size (.cells #[.string fs] 9))
 clear hb hb1 HF HWD z2 z3 z4 hb2
 go_wp2_with fail
 refine H2.out.mono ?_
 rintro e W3 ⟨rfl,h3⟩
 have hw3:=hws.trans h3
 go_wp2_with fail
 go_end0
 exact ⟨rfl,hw3⟩

set_option maxHeartbeats 4000000 in
set_option maxRecDepth 100000 in
theorem jn_text (B p:Nat) (pr:Bool) (dp:Int) (l:List UInt8) (kind:Int) (b neg:Bool) (dg:ByteArray) (ex u wd:Int) (s:ByteArray) (v:Value) (W:World) (h:IsJ B p pr dp (Lib.byteCells l) W) (hlen:l.length ≤ 900000000) (hv:Lib.validD s.data.toList=true) (hs:s.size ≤ 1000000) {aT aF:Addr} (hG:SW W aT aF) :
  Calls Tryz.prog 104 #[.pointer (some ⟨p,0,none⟩),.agg #[.int .i64 kind,.bool b,.bool neg,.string dg,.int .i64 ex,.int .u64 u,.int .i64 wd,.string s,v]] W fun e W'=>e=.returned (.tuple #[]) ∧ JP B p pr dp (l ++ quoteL s.data.toList) W W':=by
 have hb1:Below W.heap.size W (W.alloc (.cells #[.int .i64 kind,.bool b,.bool neg,.string dg,.int .i64 ex,.int .u64 u,.int .i64 wd,.string s,v] 27)):=(Below.refl _ _).alloc (Nat.le_refl _) _
 have hk1:=Blk.new W #[.int .i64 kind,.bool b,.bool neg,.string dg,.int .i64 ex,.int .u64 u,.int .i64 wd,.string s,v] 27
 have z7:=hk1.cell 7
 have HF:=Lib.hid (utf_QuoteT_yes s _ (hG.below hb1).g.tabs (by omega) hv)
 have hql:(quoteL s.data.toList).length ≤ 6 * s.size + 2:=by
  have h1:=quoteL_len s.data.toList
  have h2:s.data.toList.length=s.size:=by simp
  omega
 obtain ⟨fs,hfs⟩:∃ fs:ByteArray,(⟨(quoteL s.data.toList).toArray⟩:ByteArray)=fs:=⟨_,rfl⟩
 have hfsl:fs.data.toList=quoteL s.data.toList:=by rw [← hfs]
 have hfz:fs.size ≤ 6000002:=by
  have:fs.data.toList.length=fs.size:=by simp
  rw [hfsl] at this
  omega
 rw [hfs] at HF
 rw [← hfsl]
 have HWD:=Lib.hid (fun (W2:World) (hb:Below W.heap.size W W2)=>(j_words1 B p W2.heap.size pr dp l fs (W2.alloc (.cells #[.string fs] 9)) (JP.step h (hb.alloc hb.size _)).is (by omega) (Blk.new _ _ _)).calls)
 have HI:=Lib.hid h
 clear h hk1 hv hG hql hfs hfsl hs
 go_enter Tryz.func104,Tryz.ntmps104
 go_wp2_with fail
 refine HF.out.mono ?_
 rintro e W2 ⟨rfl,hb⟩
 have hb2:=hb1.trans (hb.mono hb1.size)
 have H2:=Lib.hid (HWD.out W2 hb2)
 have hws:=JP.step HI.out (hb2.alloc hb2.size (.cells #[.string fs] 9))
 clear hb hb1 HF HWD z7 hb2
 go_wp2_with fail
 refine H2.out.mono ?_
 rintro e W3 ⟨rfl,h3⟩
 have hw3:=hws.trans h3
 go_wp2_with fail
 go_end0
 exact ⟨rfl,hw3⟩

set_option maxHeartbeats 4000000 in
set_option maxRecDepth 100000 in
theorem jn_array (B p:Nat) (pr:Bool) (dp:Int) (l:List UInt8) (kind:Int) (b neg:Bool) (dg:ByteArray) (ex u wd:Int) (s:ByteArray) (A:Option Addr) (n c:Nat) (tl:List UInt8) (W:World) (h:IsJ B p pr dp (Lib.byteCells l) W)
  (hlist:∀ W2,JP B p pr dp l W W2 → Calls Tryz.prog 146 #[.pointer (some ⟨p,0,none⟩),.slice A n c,.int .i64 1,.string ⟨#[91]⟩,.string ⟨#[93]⟩] W2 fun e W'=>e=.returned (.tuple #[]) ∧ JP B p pr dp (l ++ tl) W2 W') :
  Calls Tryz.prog 105 #[.pointer (some ⟨p,0,none⟩),.agg #[.int .i64 kind,.bool b,.bool neg,.string dg,.int .i64 ex,.int .u64 u,.int .i64 wd,.string s,.slice A n c]] W fun e W'=>e=.returned (.tuple #[]) ∧ JP B p pr dp (l ++ tl) W W':=by
 have hb1:Below W.heap.size W (W.alloc (.cells #[.int .i64 kind,.bool b,.bool neg,.string dg,.int .i64 ex,.int .u64 u,.int .i64 wd,.string s,.slice A n c] 27)):=(Below.refl _ _).alloc (Nat.le_refl _) _
 have hk1:=Blk.new W #[.int .i64 kind,.bool b,.bool neg,.string dg,.int .i64 ex,.int .u64 u,.int .i64 wd,.string s,.slice A n c] 27
 have z8:=hk1.cell 8
 have hws:=JP.step h hb1
 have HA:=Lib.hid (hlist _ hws)
 clear h hk1 hlist
 go_enter Tryz.func105,Tryz.ntmps105
 go_wp2_with fail
 refine HA.out.mono ?_
 rintro e W3 ⟨rfl,h3⟩
 have hw3:=hws.trans h3
 go_wp2_with fail
 go_end0
 exact ⟨rfl,hw3⟩

set_option maxHeartbeats 4000000 in
set_option maxRecDepth 100000 in
theorem jn_members (B p:Nat) (pr:Bool) (dp:Int) (l:List UInt8) (kind:Int) (b neg:Bool) (dg:ByteArray) (ex u wd:Int) (s:ByteArray) (A:Option Addr) (n c:Nat) (tl:List UInt8) (W:World) (h:IsJ B p pr dp (Lib.byteCells l) W)
  (hlist:∀ W2,JP B p pr dp l W W2 → Calls Tryz.prog 146 #[.pointer (some ⟨p,0,none⟩),.slice A n c,.int .i64 2,.string ⟨#[123]⟩,.string ⟨#[125]⟩] W2 fun e W'=>e=.returned (.tuple #[]) ∧ JP B p pr dp (l ++ tl) W2 W') :
  Calls Tryz.prog 106 #[.pointer (some ⟨p,0,none⟩),.agg #[.int .i64 kind,.bool b,.bool neg,.string dg,.int .i64 ex,.int .u64 u,.int .i64 wd,.string s,.slice A n c]] W fun e W'=>e=.returned (.tuple #[]) ∧ JP B p pr dp (l ++ tl) W W':=by
 have hb1:Below W.heap.size W (W.alloc (.cells #[.int .i64 kind,.bool b,.bool neg,.string dg,.int .i64 ex,.int .u64 u,.int .i64 wd,.string s,.slice A n c] 27)):=(Below.refl _ _).alloc (Nat.le_refl _) _
 have hk1:=Blk.new W #[.int .i64 kind,.bool b,.bool neg,.string dg,.int .i64 ex,.int .u64 u,.int .i64 wd,.string s,.slice A n c] 27
 have z8:=hk1.cell 8
 have hws:=JP.step h hb1
 have HA:=Lib.hid (hlist _ hws)
 clear h hk1 hlist
 go_enter Tryz.func106,Tryz.ntmps106
 go_wp2_with fail
 refine HA.out.mono ?_
 rintro e W3 ⟨rfl,h3⟩
 have hw3:=hws.trans h3
 go_wp2_with fail
 go_end0
 exact ⟨rfl,hw3⟩
end Go.Proofs.YtfckekaegjjmkaaGreatDoor
namespace Go.Proofs.YtfckekaegjjmkaaGreatDoor
open Go.RowKit Go.Shelf

def formsJ (p:Nat):Array MapEntry:=#[⟨.int .i64 1,.func (.func 101) #[.pointer (some ⟨p,0,none⟩)] #[],0⟩,⟨.int .i64 2,.func (.func 102) #[.pointer (some ⟨p,0,none⟩)] #[],1⟩,⟨.int .i64 3,.func (.func 103) #[.pointer (some ⟨p,0,none⟩)] #[],2⟩,⟨.int .i64 5,.func (.func 104) #[.pointer (some ⟨p,0,none⟩)] #[],3⟩,⟨.int .i64 7,.func (.func 105) #[.pointer (some ⟨p,0,none⟩)] #[],4⟩,⟨.int .i64 8,.func (.func 106) #[.pointer (some ⟨p,0,none⟩)] #[],5⟩]

set_option maxHeartbeats 4000000 in
set_option maxRecDepth 100000 in
theorem j_forms (p:Nat) (w:World) :
  Calls Tryz.prog 66 #[.pointer (some ⟨p,0,none⟩)] w fun e w'=>e=.returned (.map (some w.heap.size)) ∧ w'=w.alloc (.map (formsJ p) 6):=by
 have h0:=run_makeMap (P:=Tryz.prog) 107 w
 have hi:=run_insI w 107 3 84 Tryz.underlying107 Tryz.underlying3
 have g1:=hi #[] 0 1 (.func (.func 101) #[.pointer (some ⟨p,0,none⟩)] #[]) rfl
 have g2:=hi #[⟨.int .i64 1,.func (.func 101) #[.pointer (some ⟨p,0,none⟩)] #[],0⟩] 1 2 (.func (.func 102) #[.pointer (some ⟨p,0,none⟩)] #[]) rfl
 have g3:=hi #[⟨.int .i64 1,.func (.func 101) #[.pointer (some ⟨p,0,none⟩)] #[],0⟩,⟨.int .i64 2,.func (.func 102) #[.pointer (some ⟨p,0,none⟩)] #[],1⟩] 2 3 (.func (.func 103) #[.pointer (some ⟨p,0,none⟩)] #[]) rfl
 have g5:=hi #[⟨.int .i64 1,.func (.func 101) #[.pointer (some ⟨p,0,none⟩)] #[],0⟩,⟨.int .i64 2,.func (.func 102) #[.pointer (some ⟨p,0,none⟩)] #[],1⟩,⟨.int .i64 3,.func (.func 103) #[.pointer (some ⟨p,0,none⟩)] #[],2⟩] 3 5 (.func (.func 104) #[.pointer (some ⟨p,0,none⟩)] #[]) rfl
 have g7:=hi #[⟨.int .i64 1,.func (.func 101) #[.pointer (some ⟨p,0,none⟩)] #[],0⟩,⟨.int .i64 2,.func (.func 102) #[.pointer (some ⟨p,0,none⟩)] #[],1⟩,⟨.int .i64 3,.func (.func 103) #[.pointer (some ⟨p,0,none⟩)] #[],2⟩,⟨.int .i64 5,.func (.func 104) #[.pointer (some ⟨p,0,none⟩)] #[],3⟩] 4 7 (.func (.func 105) #[.pointer (some ⟨p,0,none⟩)] #[]) rfl
 have g8:=hi #[⟨.int .i64 1,.func (.func 101) #[.pointer (some ⟨p,0,none⟩)] #[],0⟩,⟨.int .i64 2,.func (.func 102) #[.pointer (some ⟨p,0,none⟩)] #[],1⟩,⟨.int .i64 3,.func (.func 103) #[.pointer (some ⟨p,0,none⟩)] #[],2⟩,⟨.int .i64 5,.func (.func 104) #[.pointer (some ⟨p,0,none⟩)] #[],3⟩,⟨.int .i64 7,.func (.func 105) #[.pointer (some ⟨p,0,none⟩)] #[],4⟩] 5 8 (.func (.func 106) #[.pointer (some ⟨p,0,none⟩)] #[]) rfl
 clear hi
 simp only [List.push_toArray,List.cons_append,List.nil_append,Nat.zero_add,Nat.reduceAdd] at g1 g2 g3 g5 g7 g8
 go_enter Tryz.func66,Tryz.ntmps66
 go_wp2
 go_ret
 exact ⟨rfl,rfl⟩

def kindJ (k:Int):Prop:=k=1 ∨ k=2 ∨ k=3 ∨ k=5 ∨ k=7 ∨ k=8
def wjF (k:Int):FuncId:=if k=1 then 101 else if k=2 then 102 else if k=3 then 103 else if k=5 then 104 else if k=7 then 105 else 106
theorem formsJ_find (p:Nat) (k:Int) (h:kindJ k):∃ i,Instr.findNow (.int .i64) (.int .i64 k) (formsJ p).toList 0=some (some (i,.func (.func (wjF k)) #[.pointer (some ⟨p,0,none⟩)] #[])):=by
 rcases h with rfl | rfl | rfl | rfl | rfl | rfl <;> exact ⟨_,rfl⟩

set_option maxRecDepth 100000 in
theorem formsJ_look (p:Nat) (w:World) (b:Nat) (hm:w.heap[b]? = some (.map (formsJ p) 6)) (k:Int) (h:kindJ k) :
  (Instr.lookup 107 (.map (some b)) (.int .i64 k) true).run Tryz.prog w=.ok (.tuple #[.func (.func (wjF k)) #[.pointer (some ⟨p,0,none⟩)] #[],.bool true]) w:=by
 obtain ⟨i,hf⟩:=formsJ_find p k h
 have q1:(Instr.findKey 3 (.int .i64 k) (formsJ p).toList).run Tryz.prog w=.ok (some (i,.func (.func (wjF k)) #[.pointer (some ⟨p,0,none⟩)] #[])) w:=MapKept.run_findKey Tryz.underlying3 hf
 have q2:(Instr.checkKey (formsJ p).isEmpty 10000 3 (.int .i64 k)).run Tryz.prog w=.ok () w:=by
  unfold Instr.checkKey
  simp [run_underlying Tryz.underlying3]
 simp only [Instr.lookup,Sem.run_bind,run_underlying Tryz.underlying107,Result.andThen,MapKept.run_getObj_map hm,q2,q1,Sem.run_pure]
 rfl
set_option maxRecDepth 100000 in
theorem wjF_enters (k:Int) (h:kindJ k) (args:Array Value) (w:World):(callFunc (wjF k) args).run Tryz.prog w=.ok (.enter (wjF k) args) w:=by
 rcases h with rfl | rfl | rfl | rfl | rfl | rfl
 ·exact enters_of Tryz.func101 (by kernel_rfl) rfl args w
 ·exact enters_of Tryz.func102 (by kernel_rfl) rfl args w
 ·exact enters_of Tryz.func103 (by kernel_rfl) rfl args w
 ·exact enters_of Tryz.func104 (by kernel_rfl) rfl args w
 ·exact enters_of Tryz.func105 (by kernel_rfl) rfl args w
 ·exact enters_of Tryz.func106 (by kernel_rfl) rfl args w

set_option maxHeartbeats 4000000 in
set_option maxRecDepth 100000 in
theorem j_node (B p:Nat) (pr:Bool) (dp:Int) (l l':List UInt8) (kind:Int) (b neg:Bool) (dg:ByteArray) (ex u wd:Int) (s:ByteArray) (v:Value) (W:World) (h:IsJ B p pr dp (Lib.byteCells l) W) (hk:kindJ kind)
  (hcall:∀ W2,JP B p pr dp l W W2 → Calls Tryz.prog (wjF kind) #[.pointer (some ⟨p,0,none⟩),.agg #[.int .i64 kind,.bool b,.bool neg,.string dg,.int .i64 ex,.int .u64 u,.int .i64 wd,.string s,v]] W2 fun e W'=>e=.returned (.tuple #[]) ∧ JP B p pr dp l' W2 W') :
  Calls Tryz.prog 46 #[.pointer (some ⟨p,0,none⟩),.agg #[.int .i64 kind,.bool b,.bool neg,.string dg,.int .i64 ex,.int .u64 u,.int .i64 wd,.string s,v]] W fun e W'=>e=.returned (.tuple #[]) ∧ JP B p pr dp l' W W':=by
 have hb1:Below W.heap.size W (W.alloc (.cells #[.int .i64 kind,.bool b,.bool neg,.string dg,.int .i64 ex,.int .u64 u,.int .i64 wd,.string s,v] 27)):=(Below.refl _ _).alloc (Nat.le_refl _) _
 have hk1:=Blk.new W #[.int .i64 kind,.bool b,.bool neg,.string dg,.int .i64 ex,.int .u64 u,.int .i64 wd,.string s,v] 27
 have z0:=hk1.cell 0
 have HF:=Lib.hid (fun w=>j_forms p w)
 have HI:=Lib.hid h
 have HC:=Lib.hid hcall
 have heg:=wjF_enters kind hk
 have HL:=Lib.hid (fun w b hm=>formsJ_look p w b hm kind hk)
 have HK:=Lib.hid hk1
 have HB:=Lib.hid hb1
 clear h hcall hk hk1 hb1
 go_enter Tryz.func46,Tryz.ntmps46
 go_wp2_with fail
 go_region_held3 (fun w'=>w'.cell? ⟨W.heap.size,0,none⟩=some (.int .i64 kind)) (go_keep)
  (first | (go_at_call 66; refine (HF.out _).mono ?_; rintro e w6 ⟨rfl,hw6⟩; have hs6:(W.alloc (.cells #[.int .i64 kind,.bool b,.bool neg,.string dg,.int .i64 ex,.int .u64 u,.int .i64 wd,.string s,v] 27)).drew.heap.size=W.heap.size + 1:=by { show (W.alloc _).heap.size=_; simp }; have hm6:w6.heap[W.heap.size + 1]? = some (.map (formsJ p) 6):=by { rw [hw6,← hs6]; exact heap_alloc_new _ _ }; have hb6:Below W.heap.size W w6:=by { rw [hw6]; exact (HB.out.drew).alloc (by show W.heap.size ≤ (W.alloc _).heap.size; simp) _ }; have hk6:Blk w6 W.heap.size #[.int .i64 kind,.bool b,.bool neg,.string dg,.int .i64 ex,.int .u64 u,.int .i64 wd,.string s,v] 27:=by { rw [hw6]; exact (Blk.drew HK.out).alloc _ }; have hl6:=HL.out w6 _ hm6; simp only [hs6]; clear hw6 z0; have z0:=hk6.cell 0))
 have HJ:=Lib.hid (HC.out w6 (JP.step HI.out hb6))
 have HS:=Lib.hid (JP.step HI.out hb6)
 have z1:=hk6.cell 1
 have z2:=hk6.cell 2
 have z3:=hk6.cell 3
 have z4:=hk6.cell 4
 have z5:=hk6.cell 5
 have z6:=hk6.cell 6
 have z7:=hk6.cell 7
 have z8:=hk6.cell 8
 clear HC HI HF HL HK HB hm6 hb6 hk6 hl6 hs6
 go_wp2_with fail
 refine HJ.out.mono ?_
 rintro e W7 ⟨rfl,h7⟩
 have hw7:=HS.out.trans h7
 go_wp2_with fail
 go_end0
 exact ⟨rfl,hw7⟩
end Go.Proofs.YtfckekaegjjmkaaGreatDoor
namespace Go.Proofs.YtfckekaegjjmkaaGreatDoor
open Go.RowKit Go.Shelf

theorem j_pairs (A:Option Addr) (n c:Nat) (size:Int) (w:World) :
  Calls Tryz.prog 180 #[.slice A n c,.int .i64 size] w fun e w'=>e=.returned (.func (.func 211) #[] #[.pointer (some ⟨w.heap.size + 1,0,none⟩),.pointer (some ⟨w.heap.size,0,none⟩)]) ∧ w'=(w.alloc (.cells #[.slice A n c] 25)).alloc (.cells #[.int .i64 size] 3):=by
 go_enter Tryz.func180,Tryz.ntmps180
 go_wp2
 go_ret
 exact ⟨rfl,rfl⟩
def KpJ (p n:Nat) (A B:World):Prop:=A.heap.size ≤ B.heap.size ∧ (∀ q,q < n → B.heap[q]? = A.heap[q]?) ∧ ∀ (q:Nat) (cs:Array Value) (t:TypeId) (fr:Nat × Nat),A.heap[q]? = some (.cells cs t fr) → t ≠ 5 → q ≠ p → B.heap[q]? = some (.cells cs t fr)
theorem KpJ.trans {p n:Nat} {A B C:World} (h:KpJ p n A B) (k:KpJ p n B C):KpJ p n A C:=
 ⟨Nat.le_trans h.1 k.1,fun q hq=>(k.2.1 q hq).trans (h.2.1 q hq),fun q cs t fr ho ht hp=>k.2.2 q cs t fr (h.2.2 q cs t fr ho ht hp) ht hp⟩
theorem KpJ.refl (p n:Nat) (A:World):KpJ p n A A:=⟨Nat.le_refl _,fun _ _=>rfl,fun _ _ _ _ h _ _=>h⟩
theorem KpJ.putObj {p n:Nat} (W:World) (l:Nat) (o o':Obj) (hl:n ≤ l) (h:W.heap[l]? = some o) (ho:o.isCells=false):KpJ p n W (W.putObj l o'):=by
 refine ⟨?_,fun q hq=>World.putObj_heap_other (by omega),fun q cs t fr hp _ _=>?_⟩
 ·exact (grownBy_putObj' W l o').size
 ·refine (World.putObj_heap_other ?_).trans hp
  rintro rfl
  rw [h] at hp
  cases hp
  cases ho
theorem KpJ.of {p B:Nat} {pr:Bool} {dp:Int} {l:List UInt8} {W W':World} (h:JP B p pr dp l W W') (hz:W.heap.size ≤ W'.heap.size):KpJ p B W W':=
 ⟨hz,fun q hq=>h.below.block q hq,fun q cs t fr ho ht hp=>h.others q _ ho (fun e=>hp (by cases e; rfl)) (fun c fz e=>by cases e; exact ht rfl)⟩
theorem KpJ.blk {p B:Nat} {W W':World} (h:KpJ p B W W') {k:Nat} {cs:Array Value} {t:TypeId} (hk:Blk W k cs t) (hkp:k ≠ p) (ht:t ≠ 5):Blk W' k cs t:=h.2.2 k cs t (0,0) hk ht hkp
def encJ (sz:Nat) (ad:Addr) (c k:Nat):Array Value:=#[.int .i64 (k * sz:Nat),.slice (some (ad.add (k * sz * 9))) sz (c - k * sz)]
def SoFar (sz n:Nat) (xs:List Nat) (_:World):Prop:=xs=List.range xs.length ∧ xs.length * sz ≤ n
def AllOf (sz n:Nat) (xs:List Nat) (_:World):Prop:=xs=List.range xs.length ∧ xs.length * sz ≤ n ∧ n < xs.length * sz + sz

section
attribute [local go_sem] Oper.semAt_some wide_fn wide_depth

set_option maxHeartbeats 4000000 in
set_option maxRecDepth 100000 in
theorem jpairs1_seq (bz bl p B:Nat) (ad:Addr) (n c:Nat) (w0:World) (hbz:Blk w0 bz #[.int .i64 1] 3) (hbl:Blk w0 bl #[.slice (some ad) n c] 25) (hnc:n ≤ c) (hn:n ≤ 1000000000000) (hzp:bz ≠ p) (hlp:bl ≠ p) :
  SeqW Tryz.prog 211 #[.pointer (some ⟨bz,0,none⟩),.pointer (some ⟨bl,0,none⟩)] (encJ 1 ad c) (fun A B=>A=B) (KpJ p B) (fun _=>True) (SoFar 1 n) (AllOf 1 n) (fun _ _=>True) (fun W=>Below w0.heap.size w0 W):=by
 intro l0 J Jx W hW hJ hJx hY h0
 have hbz:=hbz.below hW hbz.lt
 have hbl:=hbl.below hW hbl.lt
 have HY:=Lib.hid hY
 have H0:=Lib.hid h0
 clear hY hJ hJx hW h0
 refine callsIn_of_wp Tryz.func211 rfl trivial ?_ rfl
 simp only [Tryz.ntmps211,List.size_toArray,List.length_cons,List.length_nil,Nat.reduceAdd,Nat.reduceSub,Array.replicate_succ,Array.replicate_zero,List.push_toArray,List.append_toArray,List.nil_append,List.cons_append]
 gi_wp2_with fail
 gi_loopw [4] (fun i wr=>∃ xs:List Nat,i=.int .i64 (xs.length * 1:Nat) ∧ SoFar 1 n xs wr ∧ J xs wr ∧ Blk wr bz #[.int .i64 1] 3 ∧ Blk wr bl #[.slice (some ad) n c] 25) (fun i _=>n + 1 - (intOf i).toNat)
 case atStart=>exact ⟨[],rfl,⟨rfl,by simp⟩,H0.out,hbz,hbl⟩
 case round =>
  obtain ⟨xs,rfl,⟨hx1,hx2⟩,hj,hz,hl⟩:=hrel
  clear hbz hbl H0
  have z0:=hz.cell 0
  have zl:=hl.cell 0
  obtain ⟨k,hk⟩:∃ k,xs.length=k:=⟨_,rfl⟩
  have HK:=Lib.hid hk
  rw [hk] at hx1 hx2 ⊢
  clear hk
  obtain ⟨i,hi⟩:∃ i,k * 1=i:=⟨_,rfl⟩
  have HIE:=Lib.hid hi
  have ya:wrap64 ((i:Int) + 1)=(i:Int) + 1:=by unfold wrap64; omega
  rw [hi] at hx2 ⊢
  by_cases hlt:i + 1 ≤ n
  ·have y1':(i:Int) + 1 ≤ n:=by omega
   have y2:(0:Int) ≤ i:=by omega
   have y3:(i:Int) ≤ (i:Int) + 1:=by omega
   have y4':(i:Int) + 1 ≤ c:=by omega
   have hT:SoFar 1 n (xs ++ [k]) wr:=by
    have:=HK.out
    refine ⟨?_,?_⟩
    ·rw [List.length_append,List.length_singleton,this,List.range_succ,← hx1]
    ·rw [List.length_append,List.length_singleton,this]
     omega
   have hcall:=HY.out xs k wr hj hT
   have HT:=Lib.hid hT
   unfold encJ at hcall
   rw [hi] at hcall
   obtain ⟨fn,tmps,assign,body,hy,hR⟩:=hcall
   clear hT hj hi hx1
   gi_wp2_with fail
   refine hR.mono ?_
   rintro e W3 (⟨rfl,_,hJ3,hk3⟩ | ⟨rfl,hJx3⟩)
   ·have hz3:=hk3.blk hz hzp (by decide)
    have hl3:=hk3.blk hl hlp (by decide)
    clear hR hy hk3 hz hl z0 zl
    have z0:=hz3.cell 0
    gi_wp2_with fail
    go_roundw
    case rel =>
     refine ⟨xs ++ [k],?_,HT.out,hJ3,hz3,hl3⟩
     have h1:=HK.out
     have h2:=HIE.out
     rw [List.length_append,List.length_singleton,h1]
     congr 1
     omega
    case measure=>simp [intOf]; omega
   ·clear hR hy hz hl z0 zl
    gi_wp2_with fail
    refine bodyPost_ret (results_none rfl _ _ _) rfl ?_
    exact ⟨⟨_,rfl⟩,.inr ⟨_,trivial,hJx3⟩⟩
  ·have y1':¬ (i:Int) + 1 ≤ n:=by omega
   have hS:AllOf 1 n xs wr:=⟨by rw [HK.out]; exact hx1,by rw [HK.out]; omega,by rw [HK.out]; omega⟩
   have HS:=Lib.hid hS
   clear hS hx1
   gi_wp2_with fail
   go_end0
   exact ⟨⟨_,rfl⟩,.inl ⟨_,HS.out,hj⟩⟩

set_option maxHeartbeats 4000000 in
set_option maxRecDepth 100000 in
theorem jpairs2_seq (bz bl p B:Nat) (ad:Addr) (n c:Nat) (w0:World) (hbz:Blk w0 bz #[.int .i64 2] 3) (hbl:Blk w0 bl #[.slice (some ad) n c] 25) (hnc:n ≤ c) (hn:n ≤ 1000000000000) (hzp:bz ≠ p) (hlp:bl ≠ p) :
  SeqW Tryz.prog 211 #[.pointer (some ⟨bz,0,none⟩),.pointer (some ⟨bl,0,none⟩)] (encJ 2 ad c) (fun A B=>A=B) (KpJ p B) (fun _=>True) (SoFar 2 n) (AllOf 2 n) (fun _ _=>True) (fun W=>Below w0.heap.size w0 W):=by
 intro l0 J Jx W hW hJ hJx hY h0
 have hbz:=hbz.below hW hbz.lt
 have hbl:=hbl.below hW hbl.lt
 have HY:=Lib.hid hY
 have H0:=Lib.hid h0
 clear hY hJ hJx hW h0
 refine callsIn_of_wp Tryz.func211 rfl trivial ?_ rfl
 simp only [Tryz.ntmps211,List.size_toArray,List.length_cons,List.length_nil,Nat.reduceAdd,Nat.reduceSub,Array.replicate_succ,Array.replicate_zero,List.push_toArray,List.append_toArray,List.nil_append,List.cons_append]
 gi_wp2_with fail
 gi_loopw [4] (fun i wr=>∃ xs:List Nat,i=.int .i64 (xs.length * 2:Nat) ∧ SoFar 2 n xs wr ∧ J xs wr ∧ Blk wr bz #[.int .i64 2] 3 ∧ Blk wr bl #[.slice (some ad) n c] 25) (fun i _=>n + 1 - (intOf i).toNat)
 case atStart=>exact ⟨[],rfl,⟨rfl,by simp⟩,H0.out,hbz,hbl⟩
 case round =>
  obtain ⟨xs,rfl,⟨hx1,hx2⟩,hj,hz,hl⟩:=hrel
  clear hbz hbl H0
  have z0:=hz.cell 0
  have zl:=hl.cell 0
  obtain ⟨k,hk⟩:∃ k,xs.length=k:=⟨_,rfl⟩
  have HK:=Lib.hid hk
  rw [hk] at hx1 hx2 ⊢
  clear hk
  obtain ⟨i,hi⟩:∃ i,k * 2=i:=⟨_,rfl⟩
  have HIE:=Lib.hid hi
  have ya:wrap64 ((i:Int) + 2)=(i:Int) + 2:=by unfold wrap64; omega
  rw [hi] at hx2 ⊢
  by_cases hlt:i + 2 ≤ n
  ·have y1':(i:Int) + 2 ≤ n:=by omega
   have y2:(0:Int) ≤ i:=by omega
   have y3:(i:Int) ≤ (i:Int) + 2:=by omega
   have y4':(i:Int) + 2 ≤ c:=by omega
   have hT:SoFar 2 n (xs ++ [k]) wr:=by
    have:=HK.out
    refine ⟨?_,?_⟩
    ·rw [List.length_append,List.length_singleton,this,List.range_succ,← hx1]
    ·rw [List.length_append,List.length_singleton,this]
     omega
   have hcall:=HY.out xs k wr hj hT
   have HT:=Lib.hid hT
   unfold encJ at hcall
   rw [hi] at hcall
   obtain ⟨fn,tmps,assign,body,hy,hR⟩:=hcall
   clear hT hj hi hx1
   gi_wp2_with fail
   refine hR.mono ?_
   rintro e W3 (⟨rfl,_,hJ3,hk3⟩ | ⟨rfl,hJx3⟩)
   ·have hz3:=hk3.blk hz hzp (by decide)
    have hl3:=hk3.blk hl hlp (by decide)
    clear hR hy hk3 hz hl z0 zl
    have z0:=hz3.cell 0
    gi_wp2_with fail
    go_roundw
    case rel =>
     refine ⟨xs ++ [k],?_,HT.out,hJ3,hz3,hl3⟩
     have h1:=HK.out
     have h2:=HIE.out
     rw [List.length_append,List.length_singleton,h1]
     congr 1
     omega
    case measure=>simp [intOf]; omega
   ·clear hR hy hz hl z0 zl
    gi_wp2_with fail
    refine bodyPost_ret (results_none rfl _ _ _) rfl ?_
    exact ⟨⟨_,rfl⟩,.inr ⟨_,trivial,hJx3⟩⟩
  ·have y1':¬ (i:Int) + 2 ≤ n:=by omega
   have hS:AllOf 2 n xs wr:=⟨by rw [HK.out]; exact hx1,by rw [HK.out]; omega,by rw [HK.out]; omega⟩
   have HS:=Lib.hid hS
   clear hS hx1
   gi_wp2_with fail
   go_end0
   exact ⟨⟨_,rfl⟩,.inl ⟨_,HS.out,hj⟩⟩
end
end Go.Proofs.YtfckekaegjjmkaaGreatDoor
namespace Go.Proofs.YtfckekaegjjmkaaGreatDoor
open Go.RowKit Go.Shelf

section
variable (Q:List UInt8 → List UInt8)
theorem rowsA_snoc (p:Bool) (k:Nat) (t:Tr):∀ (l:List Tr) (b:Bool),jsA Q p k b (l ++ [t])=jsA Q p k b l ++ ((if b=true ∧ l=[] then [] else [44]) ++ (lineL p k ++ jsT Q p k t))
 | [],b=>by
  rw [List.nil_append,jsA,jsA,jsA]
  cases b <;> simp
 | s :: l,b=>by
  rw [List.cons_append,jsA,jsA,rowsA_snoc p k t l false]
  simp
theorem rowsM_snoc (p:Bool) (k:Nat) (a t:Tr):∀ (n:Nat) (l:List Tr) (b:Bool),l.length=2 * n → jsM Q p k b (l ++ [a,t])=jsM Q p k b l ++ ((if b=true ∧ l=[] then [] else [44]) ++ (lineL p k ++ (jsT Q p k a ++ (58 :: (gapL p ++ jsT Q p k t)))))
 | 0,l,b,h=>by
  have:l=[]:=len_nil (by omega)
  subst this
  rw [List.nil_append,jsM,jsM,jsM]
  cases b <;> simp
 | n + 1,l,b,h=>by
  match l,h with
  | x :: y :: l,h =>
   rw [List.cons_append,List.cons_append,jsM,jsM,rowsM_snoc p k a t n l false (by simp at h; omega)]
   simp
  | [x],h=>simp at h; omega
  | [],h=>simp at h
mutual
theorem short_T:∀ (t:Tr) (k k':Nat),(jsT Q false k t).length ≤ (jsT Q true k' t).length
 | .nd o l,k,k'=>by
  have h1:=short_A l (k + 1) (k' + 1) true
  have h2:=short_M l (k + 1) (k' + 1) true
  rw [jsT,jsT]
  repeat' split
  all_goals (try simp only [List.length_cons,List.length_append,List.length_nil])
  all_goals first | omega | exact Nat.le_refl _ | (unfold lineL; simp; omega)
theorem short_A:∀ (l:List Tr) (k k':Nat) (b:Bool),(jsA Q false k b l).length ≤ (jsA Q true k' b l).length
 | [],_,_,_=>by rw [jsA,jsA]; exact Nat.le_refl _
 | t :: l,k,k',b=>by
  have h1:=short_T t k k'
  have h2:=short_A l k k' false
  rw [jsA,jsA]
  simp only [List.length_append]
  unfold lineL
  simp only [Bool.false_eq_true,if_false,List.length_nil]
  omega
theorem short_M:∀ (l:List Tr) (k k':Nat) (b:Bool),(jsM Q false k b l).length ≤ (jsM Q true k' b l).length
 | [],_,_,_=>by rw [jsM,jsM]; exact Nat.le_refl _
 | [_],_,_,_=>by rw [jsM,jsM]; exact Nat.le_refl _
 | a :: t :: l,k,k',b=>by
  have h0:=short_T a k k'
  have h1:=short_T t k k'
  have h2:=short_M l k k' false
  rw [jsM,jsM]
  simp only [List.length_append,List.length_cons]
  unfold lineL gapL
  simp only [Bool.false_eq_true,if_false,List.length_nil]
  omega
end
end
end Go.Proofs.YtfckekaegjjmkaaGreatDoor
