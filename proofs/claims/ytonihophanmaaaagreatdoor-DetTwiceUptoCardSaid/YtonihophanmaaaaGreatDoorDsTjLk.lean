/- DetTwice, where what it reads is of bulk at most 1048576: the law returns true and its arguments read as they did; the listed variables hold what the program's text lays (tied). No other condition. Printed by genlawch.py. -/
import Derived.Test.YtonihophanmaaaaGreatDoorPa49
import Derived.Test.YtonihophanmaaaaGreatDoorCards
import Derived.Test.YtonihophanmaaaaGreatDoorTie
namespace Go.Proofs.YtonihophanmaaaaGreatDoor.detTwice
open Go.ChangeShapes Go.WideShapes Go.ChangeAt Go.RowKit Go.Lib
open Go.ChangeMaps (open_string shut_string)
theorem proved:Rows.DetTwiceUptoCardSaid:=
 Claim7.holds_tied_plain_at .later [] [.data,.data,.data,.data,.handle,.sentinel,.sentinel,.sentinel,.sentinel,.pinned] true Rows.detTwiceUptoCard.stood.harness true over (fun _ h=>by cases h) (by kernel_rfl) (fun _ h=>by cases h) detTwiceUpto_row_tie rfl ⟨rfl,rfl⟩ (by kernel_rfl) rfl
  (fun f fn hf hfn=>by
   obtain rfl:f=8:=Option.some.inj ((show Tryz.prog.funcNamed Rows.detTwiceUptoRow.func=some 8 by kernel_rfl).symm.trans hf) |>.symm
   obtain rfl:fn=Tryz.f8:=(Option.some.inj (Tryz.func8.symm.trans hfn)).symm
   exact ⟨by kernel_rfl,fun j t ht=>by
    rw [Tryz.params8]at ht
    have hm:t∈[28]:=by simpa using Array.mem_of_getElem? ht
    have hall:([28].all fun u=>!Tryz.prog.wantsStandIn u)=true:=by kernel_rfl
    exact (show Tryz.prog.wantsStandIn t=false by simpa using List.all_eq_true.1 hall t hm)⟩)
  (by kernel_rfl)
#print axioms proved
end Go.Proofs.YtonihophanmaaaaGreatDoor.detTwice
