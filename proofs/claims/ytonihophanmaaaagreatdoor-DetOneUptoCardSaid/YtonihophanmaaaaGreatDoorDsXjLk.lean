/- DetOne, where what it reads is of bulk at most 1048576: the law returns true and its arguments read as they did; the listed variables hold what the program's text lays (tied). No other condition. Printed by genlawch.py. -/
import Derived.Test.YtonihophanmaaaaGreatDoorPc49
import Derived.Test.YtonihophanmaaaaGreatDoorCards
import Derived.Test.YtonihophanmaaaaGreatDoorTie
namespace Go.Proofs.YtonihophanmaaaaGreatDoor.detOne
open Go.ChangeShapes Go.WideShapes Go.ChangeAt Go.RowKit Go.Lib
open Go.ChangeMaps (open_string shut_string)
theorem proved:Rows.DetOneUptoCardSaid:=
 Claim7.holds_tied_plain_at .later [] [.data,.data,.data,.data,.handle,.sentinel,.sentinel,.sentinel,.sentinel,.pinned] true Rows.detOneUptoCard.stood.harness true over (fun _ h=>by cases h) (by kernel_rfl) (fun _ h=>by cases h) detOneUpto_row_tie rfl ⟨rfl,rfl⟩ (by kernel_rfl) rfl
  (fun f c d a=>by
   obtain rfl:f=9:=Option.some.inj ((show Tryz.prog.funcNamed Rows.detOneUptoRow.func=some 9 by kernel_rfl).symm.trans d) |>.symm
   obtain rfl:c=Tryz.f9:=(Option.some.inj (Tryz.func9.symm.trans a)).symm
   exact ⟨by kernel_rfl,fun j t b=>by
    rw [Tryz.params9]at b
    have e:t∈[28,9]:=by simpa using Array.mem_of_getElem? b
    have hall:([28,9].all fun u=>!Tryz.prog.wantsStandIn u)=true:=by kernel_rfl
    exact (show Tryz.prog.wantsStandIn t=false by simpa using List.all_eq_true.1 hall t e)⟩)
  (by kernel_rfl)
#print axioms proved
end Go.Proofs.YtonihophanmaaaaGreatDoor.detOne
