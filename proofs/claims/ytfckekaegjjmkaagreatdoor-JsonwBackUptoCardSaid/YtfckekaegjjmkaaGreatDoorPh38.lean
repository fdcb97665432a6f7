/- The texts FlowY, FlowN, put together. -/
import Derived.Test.YtfckekaegjjmkaaGreatDoorPh18
import Derived.Great.Walk
namespace Go.Proofs.YtfckekaegjjmkaaGreatDoor
open Go.RowKit
section
variable {P:Program} {R:World → World → Prop} {ops:Array Oper}

theorem flow_opY (g:Nat) (b:Bool) (t0:Tmp) {a:Act} {E:World → Prop} {Φ:Nat → Value → World → Prop} {i:Nat} {o:Oper} (hg:o.guard=some (g,b)) (ht0:(ops[g]?).bind (·.dst)=some t0) (hsel:(o.op matches .select ..)=false)
  (hz:(o.looksAt ops).all (fun t=>decide (t < a.tmps.size))=true) (hd:(match o.dst with | some d=>decide (d < a.tmps.size) | none=>false)=true)
  (hy:∀ (env:Nat → Value) (w:World),E w → (∀ j,waitsFor o j=true → Φ j (env j) w) → ∀ ρ,ρ=readOf ops a (waitsFor o) env → ρ (.tmp t0)=.bool b)
  (h:∀ (env:Nat → Value) (w:World),E w → (∀ j,waitsFor o j=true → Φ j (env j) w) →
   ∀ ρ,ρ=readOf ops a (waitsFor o) env → (∀ v,ρ (.const v)=v) → (∀ f,ρ (.func f)=.func (.func f) #[] #[]) → (∀ g,ρ (.global g)=.pointer (some ⟨g,0,none⟩)) →
    ∀ K:Value → World → Prop,(∀ v w',Φ i v w' → R w w' → K v w') → opLands P o ρ w K) :
  FlowOp P R ops a E Φ i o:=by
 intro env w hE hn a' ha'
 have hw:Region.wanted o (yielded ops a'.tmps)=true:=by
  have h1:=hy env w hE hn _ rfl
  have hm:t0 ∈ o.looksAt ops:=List.mem_append_right _ (by rw [hg]; simp [ht0])
  have ht:t0 < a.tmps.size:=by simpa using List.all_eq_true.1 hz t0 hm
  have h2:a'.tmps.getD t0 undef=.bool b:=by
   rw [ha',frameOf_read ht]
   exact h1
  have ht':t0 < a'.tmps.size:=by rw [ha',frameOf_size]; exact ht
  have h3:a'.tmps[t0]? = some (.bool b):=by
   rw [Array.getElem?_eq_getElem ht']
   simpa [Array.getD,ht'] using h2
  have h4:yielded ops a'.tmps g=some b:=by
   unfold yielded
   rw [ht0]
   show (match a'.tmps[t0]? with | some (.bool b)=>some b | _=>none)=some b
   rw [h3]
  unfold Region.wanted
  rw [hg]
  simp [h4]
 rw [if_pos hw]
 intro K hK
 have h:=h env w hE hn _ rfl (fun _=>rfl) (fun _=>rfl) (fun _=>rfl) (fun v w'=>Φ i v w' ∧ R w w') (fun _ _ h1 h2=>⟨h1,h2⟩)
 have hrun:execOp a'.eval o=execOp (readOf ops a (waitsFor o) env) o:=execOp_congr o (fun cs b e=>by rw [e] at hsel; cases hsel) (fun x hx=>by
  cases x with
  | tmp t =>
   have hm:t ∈ o.looksAt ops:=List.mem_append_left _ (List.mem_filterMap.2 ⟨.tmp t,by simpa using hx,rfl⟩)
   have ht:t < a.tmps.size:=by simpa using List.all_eq_true.1 hz t hm
   rw [ha']
   exact frameOf_read ht _
  | const v=>rfl
  | global g=>rfl
  | func f=>rfl)
 have hput:∀ v w',Φ i v w' ∧ R w w' → K (a'.put o.dst v) w':=fun v w' h=>by
  refine hK _ _ ?_ ?_ h.2
  ·cases o.dst <;> rfl
  ·have h1:=h.1
   unfold slotOf
   cases hq:o.dst with
   | none=>rw [hq] at hd; cases hd
   | some d =>
    rw [hq] at hd
    have:d < a'.tmps.size:=by rw [ha',frameOf_size]; simpa using hd
    simpa [Act.put,this] using h1
 unfold Oper.wp
 rw [hrun]
 unfold opLands at h
 revert h
 cases (execOp (readOf ops a (waitsFor o) env) o).run P w with
 | halt x w'=>exact False.elim
 | ok n w' =>
  cases n <;> simp only [Oper.upon]
  case value v=>exact hput v w'
  case skip=>exact hput undef w'
  case enter f args =>
   intro h
   refine Calls.mono h (fun e w'' he=>?_)
   obtain ⟨v,rfl,hv⟩:=he
   exact hput v w'' hv
  all_goals exact False.elim
end
end Go.Proofs.YtfckekaegjjmkaaGreatDoor
namespace Go.Proofs.YtfckekaegjjmkaaGreatDoor
open Go.RowKit
section
variable {P:Program} {R:World → World → Prop} {ops:Array Oper}

theorem flow_opN (g:Nat) (b:Bool) (t0:Tmp) {a:Act} {E:World → Prop} {Φ:Nat → Value → World → Prop} {i:Nat} {o:Oper} (hg:o.guard=some (g,b)) (ht0:(ops[g]?).bind (·.dst)=some t0)
  (hz:(o.looksAt ops).all (fun t=>decide (t < a.tmps.size))=true)
  (hy:∀ (env:Nat → Value) (w:World),E w → (∀ j,waitsFor o j=true → Φ j (env j) w) → ∀ ρ,ρ=readOf ops a (waitsFor o) env → ρ (.tmp t0) ≠ .bool b)
  (h:∀ w,E w → Φ i undef w) :
  FlowOp P R ops a E Φ i o:=by
 intro env w hE hn a' ha'
 have hw:Region.wanted o (yielded ops a'.tmps)=false:=by
  have h1:=hy env w hE hn _ rfl
  have hm:t0 ∈ o.looksAt ops:=List.mem_append_right _ (by rw [hg]; simp [ht0])
  have ht:t0 < a.tmps.size:=by simpa using List.all_eq_true.1 hz t0 hm
  obtain ⟨v,hv⟩:∃ v,readOf ops a (waitsFor o) env (.tmp t0)=v:=⟨_,rfl⟩
  rw [hv] at h1
  have h2:a'.tmps.getD t0 undef=v:=by
   rw [ha',frameOf_read ht]
   exact hv
  have ht':t0 < a'.tmps.size:=by rw [ha',frameOf_size]; exact ht
  have h3:a'.tmps[t0]? = some v:=by
   rw [Array.getElem?_eq_getElem ht']
   simpa [Array.getD,ht'] using h2
  have h4:yielded ops a'.tmps g ≠ some b:=by
   unfold yielded
   rw [ht0]
   show (match a'.tmps[t0]? with | some (.bool b)=>some b | _=>none) ≠ some b
   rw [h3]
   intro e
   split at e
   ·rename_i b' hb'
    apply h1
    rw [Option.some.inj hb',Option.some.inj e]
   ·cases e
  unfold Region.wanted
  rw [hg]
  simpa using h4
 rw [if_neg (by rw [hw]; decide)]
 exact h w hE
end
end Go.Proofs.YtfckekaegjjmkaaGreatDoor
