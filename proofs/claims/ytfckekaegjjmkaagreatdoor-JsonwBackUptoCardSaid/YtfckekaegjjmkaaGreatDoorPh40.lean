/- The texts GateY, JsF, JrN, put together. -/
import Derived.Test.YtfckekaegjjmkaaGreatDoorPh37
import Derived.Test.YtfckekaegjjmkaaGreatDoorPh39
import Derived.Test.YtfckekaegjjmkaaGreatDoorPh03
import Derived.Test.YtfckekaegjjmkaaGreatDoorPh24
import Derived.Test.YtfckekaegjjmkaaGreatDoorPh09
import Derived.Test.YtfckekaegjjmkaaGreatDoorPh29
namespace Go.Proofs.YtfckekaegjjmkaaGreatDoor
open Go.RowKit Go.Shelf

theorem check_cases (f:Int) (fl:Own → Bool) (t:Tr):checkT f fl t=0 ∨ checkT f fl t=60 ∨ checkT f fl t=61:=by
 unfold checkT
 split
 ·split
  ·exact .inl rfl
  ·exact .inr (.inr rfl)
 ·exact .inr (.inl rfl)

set_option maxHeartbeats 4000000 in
set_option maxRecDepth 100000 in
theorem tree_Check {aT aF:Addr} (f:Int) (fl:Own → Bool) (hfits:FitsC aT aF f fl) (t:Tr) (x:Value) (w:World) (B d:Nat) (hl:ListAt w B d t.kids x) (ho:OwnOk t.own) (hB:B ≤ w.heap.size) (hc:t.count ≤ 1000000000) (h:GW w aT aF) :
  Calls Tryz.prog 28 #[nodeV t.own x,.int .i64 f] w fun e w'=>e=.returned (.int .i64 (checkT f fl t)) ∧ Below w.heap.size w w':=by
 have hb1:Below w.heap.size w (w.alloc (.cells (cellsV t.own x) 27)):=(Below.refl _ _).alloc (Nat.le_refl _) _
 have hk1:=Blk.new w (cellsV t.own x) 27
 have HC:=tree_checked f fl hfits t x _ B d (hl.below hb1 hB) ho (Nat.le_trans hB hb1.size) hc (h.below hb1)
 have hcs:=check_cases f fl t
 obtain ⟨ck,hck⟩:∃ ck,checkT f fl t=ck:=⟨_,rfl⟩
 rw [hck] at HC hcs ⊢
 obtain ⟨_,A,c,rfl⟩:=hl.slice
 obtain ⟨n,hn⟩:∃ n,t.kids.length=n:=⟨_,rfl⟩
 obtain ⟨⟨kind,b,neg,dg,ex,u,wd,s⟩,ho'⟩:∃ o,t.own=o:=⟨_,rfl⟩
 rw [ho',hn] at HC hk1 hb1 ⊢
 unfold nodeV at HC ⊢
 unfold cellsV at HC hk1 hb1
 simp only [] at HC hk1 hb1 ⊢
 have HC:=Lib.hid HC
 have z0:=hk1.cell 0
 have z1:=hk1.cell 1
 have z2:=hk1.cell 2
 have z3:=hk1.cell 3
 have z4:=hk1.cell 4
 have z5:=hk1.cell 5
 have z6:=hk1.cell 6
 have z7:=hk1.cell 7
 have z8:=hk1.cell 8
 have HG:=Lib.hid h
 clear hl ho hc hck ho' hn hk1 h hfits
 go_enter Tryz.func28,Tryz.ntmps28
 go_wp2_with fail
 refine HC.out.mono ?_
 rintro e w2 ⟨rfl,hb⟩
 have hb3:=hb1.trans (hb.mono hb1.size)
 have G:=HG.out.below hb3
 have hgT:=G.hT
 have hgF:=G.hF
 obtain ⟨cT,tT,eT⟩:=G.bT
 obtain ⟨cF,tF,eF⟩:=G.bF
 have H1:=Lib.hid (is_nil aT w2)
 have H2:=Lib.hid (is_nil aF w2)
 have H3:=Lib.hid (is_same aT w2)
 have H4:=Lib.hid (is_same aF w2)
 have H5:=Lib.hid (is_other aF aT cF cT tF tT w2 G.ne.symm eF eT)
 clear z0 z1 z2 z3 z4 z5 z6 z7 z8 hb hb1 HC G eT eF
 rcases hcs with rfl | rfl | rfl
 ·have he:errR aT aF 0=.nilIface:=rfl
  rw [he]
  clear he
  go_wp2_with fail
  refine H1.out.mono ?_
  rintro e w3 ⟨rfl,rfl⟩
  go_wp2_with fail
  refine H2.out.mono ?_
  rintro e w3 ⟨rfl,rfl⟩
  go_wp2_with fail
  go_ret
  exact ⟨rfl,hb3⟩
 ·have he:errR aT aF 60=errP aT:=rfl
  rw [he]
  clear he
  go_wp2_with fail
  refine H3.out.mono ?_
  rintro e w3 ⟨rfl,rfl⟩
  go_wp2_with fail
  go_ret
  exact ⟨rfl,hb3⟩
 ·have he:errR aT aF 61=errP aF:=rfl
  rw [he]
  clear he
  go_wp2_with fail
  refine H5.out.mono ?_
  rintro e w3 ⟨rfl,rfl⟩
  go_wp2_with fail
  refine H4.out.mono ?_
  rintro e w3 ⟨rfl,rfl⟩
  go_wp2_with fail
  go_ret
  exact ⟨rfl,hb3⟩

theorem fits_at_C (aT aF:Addr):FitsC aT aF 2 flC:=fun o l A n c w B d hl hB hn hc ho h=>fits_C o l A n c w B d hl hB hn hc ho h
theorem fits_at_J (aT aF:Addr):FitsC aT aF 1 flJ:=fun o l A n c w B d hl hB hn hc ho h=>fits_J o l A n c w B d hl hB hn hc ho h
end Go.Proofs.YtfckekaegjjmkaaGreatDoor
namespace Go.Proofs.YtfckekaegjjmkaaGreatDoor
open Go.RowKit Go.Shelf

section
variable (U:List UInt8 → Option (List UInt8 × List UInt8))
noncomputable def docJ (F:Nat) (l:List UInt8):PR Tr:=match valueJ U F 16 (spJ l) with
 | .bad e=>.bad e
 | .good t r=>if spJ r ≠ [] then .bad 80 else if rightT t=true then .good t [] else .bad 60
noncomputable def readJ (l:List UInt8):Int × Tr:=if 4000 < l.length then (81,.nd zeroO []) else match docJ U (l.length + 1) l with
 | .bad e=>(e,.nd zeroO [])
 | .good t _=>(0,t)
variable {U}
def ErrJ {α:Type} (p:Psr α):Prop:=∀ l e,p l=.bad e → e=60 ∨ e=80
theorem errJ_bind {α β:Type} {p:Psr α} {f:α → Psr β} (hp:ErrJ p) (hf:∀ a,ErrJ (f a)):ErrJ (bindP p f):=fun l e h=>by
 unfold bindP at h
 split at h
 ·exact hf _ _ _ h
 ·rename_i e' hq
  injection h with h
  rw [← h]
  exact hp _ _ hq
theorem errJ_pure {α:Type} (a:α):ErrJ (pureP a):=fun l e h=>by cases h
theorem errJ_text:ErrJ (textJ U):=fun l e h=>by
 unfold textJ at h
 split at h
 ·cases h
 ·injection h with h
  exact .inr h.symm
theorem errJ_colon (t:Tr):ErrJ (colonJ t):=fun l e h=>by
 unfold colonJ at h
 split at h
 ·injection h with h
  exact .inr h.symm
 ·split at h
  ·cases h
  ·injection h with h
   exact .inr h.symm
theorem errJ_next (en:UInt8) (a:List Tr) {go:Psr (List Tr)} (hg:ErrJ go):ErrJ (nextJ en a go):=fun l e h=>by
 unfold nextJ at h
 split at h
 ·injection h with h
  exact .inr h.symm
 ·split at h
  ·cases h
  ·split at h
   ·exact hg _ _ h
   ·injection h with h
    exact .inr h.symm
theorem errJ_nodes {v:Psr Tr} (hv:ErrJ v) (mem:Bool) (en:UInt8):∀ (f:Nat) (acc:List Tr),ErrJ (nodesJ U v mem en f acc)
 | 0,_=>fun l e h=>by
  injection h with h
  exact .inr h.symm
 | f + 1,acc=>by
  rw [nodesJ]
  split
  ·exact errJ_bind (errJ_bind errJ_text errJ_colon) fun k=>errJ_bind hv fun t=>errJ_next en _ (errJ_nodes hv mem en f _)
  ·exact errJ_bind hv fun t=>errJ_next en _ (errJ_nodes hv mem en f _)
theorem errJ_list {v:Psr Tr} (hv:ErrJ v) (mem:Bool) (en:UInt8) (F:Nat):ErrJ (listJ U v mem en F):=fun l e h=>by
 unfold listJ at h
 split at h
 ·exact errJ_nodes hv mem en F _ _ _ h
 ·split at h
  ·cases h
  ·exact errJ_nodes hv mem en F _ _ _ h
theorem errJ_word (w:List UInt8) (t:Tr):ErrJ (wordJ w t):=fun l e h=>by
 unfold wordJ at h
 split at h
 ·cases h
 ·injection h with h
  exact .inr h.symm
theorem errJ_num:ErrJ numJ:=fun l e h=>by
 unfold numJ at h
 split at h
 ·cases h
 ·injection h with h
  exact .inr h.symm
theorem errJ_body {sub:Option (Psr Tr)} (hs:∀ v,sub=some v → ErrJ v) (F:Nat):ErrJ (bodyJ U sub F):=fun l e h=>by
 unfold bodyJ at h
 split at h
 ·injection h with h
  exact .inr h.symm
 ·split at h
  ·split at h
   ·injection h with h
    exact .inl h.symm
   ·exact errJ_bind (errJ_list (hs _ rfl) _ _ _) (fun _=>errJ_pure _) _ _ h
  split at h
  ·split at h
   ·injection h with h
    exact .inl h.symm
   ·exact errJ_bind (errJ_list (hs _ rfl) _ _ _) (fun _=>errJ_pure _) _ _ h
  split at h
  ·exact errJ_text _ _ h
  split at h
  ·exact errJ_word _ _ _ _ h
  split at h
  ·exact errJ_word _ _ _ _ h
  split at h
  ·exact errJ_word _ _ _ _ h
  ·exact errJ_num _ _ h
theorem errJ_value (F:Nat):∀ d,ErrJ (valueJ U F d)
 | 0=>errJ_body (fun v h=>by cases h) F
 | d + 1=>errJ_body (fun v h=>by injection h with h; rw [← h]; exact errJ_value F d) F
def FitsJ (p:Psr Tr):Prop:=∀ l t r,p l=.good t r → fitT 1 flJ t=true
theorem fit_leaf (o:Own) (h:o.kind=1 ∨ o.kind=2 ∨ o.kind=3 ∨ o.kind=5):fitT 1 flJ (.nd o [])=true:=by
 rw [fitT,fitL,Bool.and_true]
 unfold fitO
 rcases h with h | h | h | h <;> rw [h] <;> rfl
theorem fit_text {l r:List UInt8} {t:Tr} (h:textJ U l=.good t r):fitT 1 flJ t=true ∧ t.own.kind=5:=by
 unfold textJ at h
 split at h
 ·injection h with h _
  rw [← h]
  exact ⟨fit_leaf _ (.inr (.inr (.inr rfl))),rfl⟩
 ·cases h
theorem fit_member {l r:List UInt8} {t:Tr} (h:memberJ U l=.good t r):fitT 1 flJ t=true ∧ t.own.kind=5:=by
 obtain ⟨k,s,h1,h2⟩:=bindP_good h
 have h3:=fit_text h1
 unfold colonJ at h2
 split at h2
 ·cases h2
 ·split at h2
  ·injection h2 with e _
   rw [← e]
   exact h3
  ·cases h2
theorem fit_nodes {v:Psr Tr} (hv:FitsJ v) (mem:Bool) (en:UInt8):∀ (f:Nat) (acc:List Tr) (l:List UInt8) (L:List Tr) (r:List UInt8),nodesJ U v mem en f acc l=.good L r → ∃ new,L=acc ++ new ∧ fitL 1 flJ new=true ∧ (mem=true → keysFit 1 new=true)
 | 0,_,_,_,_,h=>by cases h
 | f + 1,acc,l,L,r,h=>by
  have nxt:∀ (a:List Tr) (s:List UInt8),nextJ en a (nodesJ U v mem en f a) s=.good L r → ∃ new,L=a ++ new ∧ fitL 1 flJ new=true ∧ (mem=true → keysFit 1 new=true):=fun a s h=>by
   unfold nextJ at h
   split at h
   ·cases h
   ·split at h
    ·injection h with e _
     exact ⟨[],by rw [List.append_nil,e],by rw [fitL],fun _=>by rw [keysFit]⟩
    ·split at h
     ·exact fit_nodes hv mem en f a _ _ _ h
     ·cases h
  rw [nodesJ] at h
  split at h
  ·rename_i hm
   obtain ⟨k,s0,h0,h⟩:=bindP_good h
   obtain ⟨t,s,h1,h2⟩:=bindP_good h
   obtain ⟨new,e1,e2,e3⟩:=nxt _ _ h2
   have g0:=fit_member h0
   refine ⟨k :: t :: new,by rw [e1]; simp,by rw [fitL,fitL,g0.1,hv _ _ _ h1,e2]; rfl,fun hm=>?_⟩
   rw [keysFit,e3 hm,Bool.and_true]
   unfold keyO
   rw [if_pos g0.2]
  ·rename_i hm
   obtain ⟨t,s,h1,h2⟩:=bindP_good h
   obtain ⟨new,e1,e2,e3⟩:=nxt _ _ h2
   exact ⟨t :: new,by rw [e1]; simp,by rw [fitL,hv _ _ _ h1,e2]; rfl,fun h=>absurd h hm⟩
theorem fit_list {v:Psr Tr} (hv:FitsJ v) (mem:Bool) (en:UInt8) (F:Nat) {l:List UInt8} {L:List Tr} {r:List UInt8} (h:listJ U v mem en F l=.good L r):fitL 1 flJ L=true ∧ (mem=true → keysFit 1 L=true):=by
 have key:∀ q,nodesJ U v mem en F [] q=.good L r → fitL 1 flJ L=true ∧ (mem=true → keysFit 1 L=true):=fun q h=>by
  obtain ⟨new,e1,e2⟩:=fit_nodes hv mem en F [] _ _ _ h
  rw [List.nil_append] at e1
  rw [e1]
  exact e2
 unfold listJ at h
 split at h
 ·exact key _ h
 ·split at h
  ·injection h with e _
   rw [← e]
   exact ⟨by rw [fitL],fun _=>by rw [keysFit]⟩
  ·exact key _ h
theorem fit_body {sub:Option (Psr Tr)} (hs:∀ v,sub=some v → FitsJ v) (F:Nat):FitsJ (bodyJ U sub F):=fun l t r h=>by
 unfold bodyJ at h
 have word:∀ w x l,fitT 1 flJ x=true → wordJ w x l=.good t r → fitT 1 flJ t=true:=fun w x l hx h=>by
  unfold wordJ at h
  split at h
  ·injection h with e _
   rw [← e]
   exact hx
  ·cases h
 split at h
 ·cases h
 ·split at h
  ·split at h
   ·cases h
   ·obtain ⟨L,s,h1,h2⟩:=bindP_good h
    have h2:PR.good (listT 7 L) s=.good t r:=h2
    injection h2 with e _
    rw [← e]
    unfold listT
    rw [fitT,(fit_list (hs _ rfl) _ _ _ h1).1]
    rfl
  split at h
  ·split at h
   ·cases h
   ·obtain ⟨L,s,h1,h2⟩:=bindP_good h
    have h2:PR.good (listT 8 L) s=.good t r:=h2
    injection h2 with e _
    have h3:=fit_list (hs _ rfl) _ _ _ h1
    rw [← e]
    unfold listT
    rw [fitT,h3.1,Bool.and_true]
    unfold fitO
    simp [h3.2 rfl]
  split at h
  ·exact (fit_text h).1
  split at h
  ·exact word _ _ _ (fit_leaf _ (.inl rfl)) h
  split at h
  ·exact word _ _ _ (fit_leaf _ (.inr (.inl rfl))) h
  split at h
  ·exact word _ _ _ (fit_leaf _ (.inr (.inl rfl))) h
  ·unfold numJ at h
   split at h
   ·injection h with e _
    rw [← e]
    exact fit_leaf _ (.inr (.inr (.inl rfl)))
   ·cases h
theorem fit_value (F:Nat):∀ d,FitsJ (valueJ U F d)
 | 0=>fit_body (fun v h=>by cases h) F
 | d + 1=>fit_body (fun v h=>by injection h with h; rw [← h]; exact fit_value F d) F
theorem readJ_cases (l:List UInt8):((readJ U l).1 ≠ 0 ∧ (readJ U l).2=.nd zeroO [] ∧ ((readJ U l).1=80 ∨ (readJ U l).1=60 ∨ ((readJ U l).1=81 ∧ 4000 < l.length))) ∨ ((readJ U l).1=0 ∧ checkT 1 flJ (readJ U l).2=0 ∧ l.length ≤ 4000):=by
 unfold readJ
 split
 ·rename_i h
  exact .inl ⟨by simp,rfl,.inr (.inr ⟨rfl,h⟩)⟩
 ·rename_i hlen
  split
  ·rename_i e h
   unfold docJ at h
   have he:e=60 ∨ e=80:=by
    split at h
    ·rename_i e' hv
     injection h with h
     rw [← h]
     exact errJ_value _ _ _ _ hv
    ·split at h
     ·injection h with h
      exact .inr h.symm
     ·split at h
      ·cases h
      ·injection h with h
       exact .inl h.symm
   refine .inl ⟨?_,rfl,?_⟩
   ·simp only []
    omega
   ·rcases he with rfl | rfl
    ·exact .inr (.inl rfl)
    ·exact .inl rfl
  ·rename_i t s h
   unfold docJ at h
   split at h
   ·cases h
   ·rename_i t' r hv
    split at h
    ·cases h
    ·split at h
     ·rename_i hr
      injection h with e _
      subst e
      refine .inr ⟨rfl,?_,by omega⟩
      show checkT 1 flJ t'=0
      unfold checkT
      rw [if_pos hr,if_pos (fit_value _ _ _ _ _ hv)]
     ·cases h
variable {Q:List UInt8 → List UInt8}
theorem readJ_back (hq0:∀ l,∃ r,Q l=34 :: r) (hU:∀ l m,Lib.validD l=true → U (Q l ++ m)=some (l,m)) (hU2:∀ l s r,U l=some (s,r) → ∃ own,own ≠ [] ∧ l=own ++ r ∧ ∀ m,U (own ++ m)=some (s,m)) (p:Bool) (t:Tr) (hok:okJ t) (hr:rightT t=true) (hd:t.depth ≤ 16) (hl:(jsT Q p 0 t).length ≤ 4000):readJ U (jsT Q p 0 t)=(0,t):=by
 have h1:=js_back (U:=U) hq0 hU p (max t.count ((jsT Q p 0 t).length + 1)) t 16 0 [] hok hd (Nat.le_max_left _ _) (fun c r e=>by cases e)
 rw [List.append_nil] at h1
 have h2:valueJ U ((jsT Q p 0 t).length + 1) 16 (jsT Q p 0 t)=.good t []:=by
  rw [value_fuel hU2 16 _ (max t.count ((jsT Q p 0 t).length + 1)) _ (by omega) (by omega)]
  exact h1
 have h3:spJ (jsT Q p 0 t)=jsT Q p 0 t:=by
  have:=begJ_sp (jsT_beg hq0 p 0 t hok) []
  rwa [List.append_nil] at this
 unfold readJ
 rw [if_neg (by omega)]
 unfold docJ
 rw [h3,h2]
 simp only []
 rw [if_neg (by simp [spJ]),if_pos hr]
end
end Go.Proofs.YtfckekaegjjmkaaGreatDoor
namespace Go.Proofs.YtfckekaegjjmkaaGreatDoor
open Go.RowKit Go.Shelf

def CountJ (p:Psr Tr):Prop:=∀ l t r,p l=.good t r → t.count + r.length ≤ l.length
theorem count_leaf {p:Psr Tr} (h1:∀ l t r,p l=.good t r → t.kids=[]) (h2:∀ l t r,p l=.good t r → r.length + 1 ≤ l.length):CountJ p:=fun l t r h=>by
 have:=h1 l t r h
 have:=h2 l t r h
 rw [Tr.count_eq,h1 l t r h]
 show 1 + 0 + _ ≤ _
 omega
theorem text_count:CountJ (textJ uqJ):=count_leaf (fun l t r h=>by
  obtain ⟨s,rfl⟩:=textJ_good h
  rfl) (fun l t r h=>by
  obtain ⟨own,h1,h2,_⟩:=text_ownJ uqJ_own2 l t r h
  cases own with
  | nil=>exact absurd rfl h1
  | cons c own=>rw [h2,List.length_append,List.length_cons]; omega)
theorem word_count (v:List UInt8) (hv:v ≠ []) (t0:Tr) (h0:t0.kids=[]):CountJ (wordJ v t0):=count_leaf (fun l t r h=>by
  unfold wordJ at h
  split at h
  ·injection h with h _
   rw [← h]
   exact h0
  ·cases h) (fun l t r h=>by
  obtain ⟨own,h1,h2,_⟩:=word_own v hv t0 l t r h
  cases own with
  | nil=>exact absurd rfl h1
  | cons c own=>rw [h2,List.length_append,List.length_cons]; omega)
theorem num_count:CountJ numJ:=count_leaf (fun l t r h=>by
  unfold numJ at h
  split at h
  ·injection h with h _
   rw [← h]
   rfl
  ·cases h) (fun l t r h=>by
  obtain ⟨own,h1,h2,_⟩:=num_own l t r h
  cases own with
  | nil=>exact absurd rfl h1
  | cons c own=>rw [h2,List.length_append,List.length_cons]; omega)
theorem spJ_le (l:List UInt8):(spJ l).length ≤ l.length:=spJ_len l
theorem next_count {en:UInt8} {a L:List Tr} {go:Psr (List Tr)} {l r:List UInt8} {n:Nat} (hgo:∀ l' L' r',go l'=.good L' r' → countL L' + r'.length ≤ countL a + l'.length) (hn:countL a + l.length ≤ n) (h:nextJ en a go l=.good L r):countL L + r.length ≤ n:=by
 unfold nextJ at h
 have hl:=spJ_le l
 split at h
 ·cases h
 ·rename_i c r0 hq
  rw [hq,List.length_cons] at hl
  split at h
  ·injection h with h1 h2
   subst h1 h2
   omega
  ·split at h
   ·have:=hgo _ _ _ h
    have h3:=spJ_le r0
    omega
   ·cases h
theorem colon_count {k t:Tr} {l r:List UInt8} (h:colonJ k l=.good t r):t=k ∧ r.length ≤ l.length:=by
 unfold colonJ at h
 have hl:=spJ_le l
 split at h
 ·cases h
 ·rename_i c r0 hq
  rw [hq,List.length_cons] at hl
  split at h
  ·injection h with h1 h2
   have h3:=spJ_le r0
   rw [h2] at h3
   exact ⟨h1.symm,by omega⟩
  ·cases h
theorem nodes_count {v:Psr Tr} (hv:CountJ v) (mem:Bool) (en:UInt8):∀ (f:Nat) (acc:List Tr) (l:List UInt8) (L:List Tr) (r:List UInt8),nodesJ uqJ v mem en f acc l=.good L r → countL L + r.length ≤ countL acc + l.length
 | 0,_,_,_,_,h=>by cases h
 | f + 1,acc,l,L,r,h=>by
  rw [nodesJ] at h
  split at h
  ·obtain ⟨k,s,h1,h2⟩:=bindP_good h
   obtain ⟨t,s2,h3,h4⟩:=bindP_good h2
   obtain ⟨k0,s0,h5,h6⟩:=bindP_good (show bindP (textJ uqJ) colonJ l=.good k s from h1)
   have c1:=text_count _ _ _ h5
   obtain ⟨rfl,c2⟩:=colon_count h6
   have c3:=hv _ _ _ h3
   refine next_count (nodes_count hv mem en f (acc ++ [k,t])) ?_ h4
   rw [countL_append]
   simp only [countL]
   omega
  ·obtain ⟨t,s2,h3,h4⟩:=bindP_good h
   have c3:=hv _ _ _ h3
   refine next_count (nodes_count hv mem en f (acc ++ [t])) ?_ h4
   rw [countL_append]
   simp only [countL]
   omega
theorem list_count {v:Psr Tr} (hv:CountJ v) (mem:Bool) (en:UInt8) (F:Nat) {l:List UInt8} {L:List Tr} {r:List UInt8} (h:listJ uqJ v mem en F l=.good L r):countL L + r.length ≤ l.length:=by
 unfold listJ at h
 have hl:=spJ_le l
 split at h
 ·have h9:countL L + r.length ≤ 0 + 0:=nodes_count hv mem en F [] [] L r h
  omega
 ·rename_i c r0 hq
  rw [hq,List.length_cons] at hl
  split at h
  ·injection h with h1 h2
   subst h1 h2
   simp [countL]
   omega
  ·have h9:=nodes_count hv mem en F [] _ L r h
   rw [show countL ([]:List Tr)=0 from rfl,List.length_cons] at h9
   omega
theorem body_count {sub:Option (Psr Tr)} (hs:∀ v,sub=some v → CountJ v) (F:Nat):CountJ (bodyJ uqJ sub F):=fun l t r h=>by
 unfold bodyJ at h
 split at h
 ·cases h
 rename_i c r0
 split at h
 ·cases sub with
  | none=>cases h
  | some v =>
   obtain ⟨L,s,h1,h2⟩:=bindP_good h
   have:=list_count (hs v rfl) false 93 F h1
   injection h2 with h2 h3
   subst h2 h3
   rw [Tr.count_eq]
   show 1 + countL L + _ ≤ _
   rw [List.length_cons]
   omega
 split at h
 ·cases sub with
  | none=>cases h
  | some v =>
   obtain ⟨L,s,h1,h2⟩:=bindP_good h
   have:=list_count (hs v rfl) true 125 F h1
   injection h2 with h2 h3
   subst h2 h3
   rw [Tr.count_eq]
   show 1 + countL L + _ ≤ _
   rw [List.length_cons]
   omega
 split at h
 ·exact text_count _ _ _ h
 split at h
 ·exact word_count _ (by decide) _ rfl _ _ _ h
 split at h
 ·exact word_count _ (by decide) _ rfl _ _ _ h
 split at h
 ·exact word_count _ (by decide) _ rfl _ _ _ h
 ·exact num_count _ _ _ h
theorem value_count (F:Nat):∀ d,CountJ (valueJ uqJ F d)
 | 0=>body_count (fun v h=>by cases h) F
 | d + 1=>body_count (fun v h=>by injection h with h; rw [← h]; exact value_count F d) F

set_option maxRecDepth 100000 in
theorem tree_RightP {aT aF:Addr} (t:Tr) (x:Value) (w:World) (B d:Nat) (hl:ListAt w B d t.kids x) (ho:OwnOk t.own) (hB:B ≤ w.heap.size) (hc:t.count ≤ 1000000000) (h:GW w aT aF) :
  Calls Tryz.prog 55 #[nodeV t.own x] w fun e w'=>e=.returned (.bool (rightT t)) ∧ Below w.heap.size w w':=by
 have hb1:Below w.heap.size w (w.alloc (.cells (cellsV t.own x) 27)):=(Below.refl _ _).alloc (Nat.le_refl _) _
 have hk1:=Blk.new w (cellsV t.own x) 27
 have HC:=Lib.hid (tree_Check 2 flC (fits_at_C aT aF) t x _ B d (hl.below hb1 hB) ho (Nat.le_trans hB hb1.size) hc (h.below hb1))
 have hr:rightT t = !(checkT 2 flC t == 60):=by
  unfold checkT
  cases hx:rightT t with
  | false=>rw [if_neg (by decide)]; decide
  | true =>
   rw [if_pos rfl]
   split <;> decide
 obtain ⟨ck,hck⟩:∃ ck,checkT 2 flC t=ck:=⟨_,rfl⟩
 rw [hr,hck]
 rw [hck] at HC
 obtain ⟨⟨kind,b,neg,dg,ex,u,wd,s⟩,ho'⟩:∃ o,t.own=o:=⟨_,rfl⟩
 rw [ho'] at HC hk1 hb1 ⊢
 unfold nodeV at HC ⊢
 unfold cellsV at HC hk1 hb1
 have z0:=hk1.cell 0
 have z1:=hk1.cell 1
 have z2:=hk1.cell 2
 have z3:=hk1.cell 3
 have z4:=hk1.cell 4
 have z5:=hk1.cell 5
 have z6:=hk1.cell 6
 have z7:=hk1.cell 7
 have z8:=hk1.cell 8
 clear hr hck h hc ho hl hB
 by_cases hk:ck=60
 ·subst hk
  rw [show (!((60:Int) == 60))=false from rfl]
  go_enter Tryz.func55,Tryz.ntmps55
  go_wp2_with fail
  refine HC.out.mono ?_
  rintro e w2 ⟨rfl,hb2⟩
  go_wp2_with fail
  go_ret
  exact ⟨rfl,hb1.trans (hb2.mono hb1.size)⟩
 ·have y1:(ck != 60)=true:=by rw [bne_iff_ne]; exact hk
  rw [show (!(ck == 60))=true from y1]
  go_enter Tryz.func55,Tryz.ntmps55
  go_wp2_with fail
  refine HC.out.mono ?_
  rintro e w2 ⟨rfl,hb2⟩
  go_wp2_with fail
  go_ret
  exact ⟨rfl,hb1.trans (hb2.mono hb1.size)⟩
end Go.Proofs.YtfckekaegjjmkaaGreatDoor
