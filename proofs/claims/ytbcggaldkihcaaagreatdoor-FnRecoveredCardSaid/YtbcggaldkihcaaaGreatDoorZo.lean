/- A region that draws its order, whose loads hold until one operation comes up (a store, b.. -/
import Derived.Deep.RegionHeld
import Derived.StillTail
import Derived.Test.YtbcggaldkihcaaaGreatDoorZn
namespace Go.Proofs.YtbcggaldkihcaaaGreatDoor
open Tryz
open Go.RowKit Go.Lib
section
variable {P:Program} {ops:Array Oper} {Q:Exit->Act->World->Prop} {md:Region.Mode} {t:Nat} {C:World->Prop}
def gG (P:Program) (md:Region.Mode) (ops:Array Oper) (Q:Exit->Act->World->Prop) (t:Nat) (C:World->Prop):Nat->Array Bool->Act->World->Prop
 |0,listed,a,w=>Region.ready md ops listed=[]/\Q .normal a w
 |dP+1,listed,a,w=>
  (Region.ready md ops listed=[]->Q .normal a w)/\
  ∀i∈Region.ready md ops listed,wpOp P ops Q i (λa' w'=>((listed.setIfInBounds i true).getD t true=false->C w')/\gG P md ops Q t C dP (listed.setIfInBounds i true) a' w') a w
theorem wP: ∀(dP:Nat) (listed:Array Bool) (a:Act) (w:World),gG P md ops Q t C dP listed a w->wpAny P md ops Q dP listed a w
 |0,_,_,_,h=>h
 |dP+1,_,_,_,h=>⟨h.1,λi hi=>wpOp_mono (λa' w' h'=>wP dP _ a' w' h'.2) (h.2 i hi)⟩
theorem sA {D:World->Prop} {i:Nat} {oi:Oper} {v:Value} (hi:ops[i]?=some oi) (RS: ∀(j:Nat) (o:Oper) cs b,ops[j]?=some o->o.op≠ .select cs b)
 (hQ: ∀c a w,Q (.panic c) (a.put oi.dst v) w->Q (.panic c) a w) (kJ:t≠i) (hD:(∀w,D w)\/((∀w,C w->D w)/\ ∃ot,ops[t]?=some ot/\ ∃e∈ot.after,Region.binds md e=true/\e.on=i)):
 ∀(dP:Nat) (listed:Array Bool) (a:Act) (w:World),
  (∀j oj,ops[j]?=some oj->j≠i->listed.getD j true=false->(∀e∈oj.after,Region.binds md e=true->e.on≠i)->oi.apart ops oj=true)->
  i∈Region.ready md ops listed->YieldsIf P ops D oi v a->((∀w,D w)\/listed.getD t true=false)->D w->((listed.setIfInBounds i true).getD t true=false->C w)->
  gG P md ops Q t C dP (listed.setIfInBounds i true) (a.put oi.dst v) w->gG P md ops Q t C (dP+1) listed a w:=by
 intro dP;induction dP with
 |zero=>
  intro listed a w _ hr hy _ hS hC H;refine ⟨λh=>(by rw[h]at hr;cases hr),λj hj=>?_⟩;by_cases F5:j=i
  ·subst F5;exact hy.wpOp hi hS ⟨hC,H⟩
  have:=ready_mono hj F5;rw[H.1]at this;cases this
 |succ dP ih=>
  intro listed a w Nd hr hy RT hS hC H;refine ⟨λh=>(by rw[h]at hr;cases hr),λj hj=>?_⟩;by_cases F5:j=i
  ·subst F5;exact hy.wpOp hi hS ⟨hC,H⟩
  have h1:=H.2 j (ready_mono hj F5);obtain ⟨RU,oj,Tp,dn⟩:=mem_ready.1 hj
  have RV: ∀e∈oj.after,Region.binds md e=true->e.on≠i:=λe he hb heq=>by
   have h1:=dn e he hb;have h0:=(mem_ready.1 hr).1;rw[heq]at h1;rcases Nat.lt_or_ge i listed.size with h'|h'
   ·simp[h']at h0 h1;rw[h0]at h1;cases h1
   simp[Array.getElem?_eq_none h']at h1
  have h2:=wpOp_putIf Tp (Nd j oj Tp F5 RU RV) (λcs b=>RS i oi cs b hi) (λcs b=>RS j oj cs b Tp) hQ hy h1
  have Pf: ∀k ok,ops[k]?=some ok->k≠i->(listed.setIfInBounds j true).getD k true=false->
   (∀e∈ok.after,Region.binds md e=true->e.on≠i)->oi.apart ops ok=true:=λk ok hk Hl WZ rf=>by
   refine Nd k ok hk Hl ?_ rf;by_cases KI:j=k
   ·subst KI;exact RU
   rw[getD_set_ne true KI]at WZ;exact WZ
  have RW:(∀w,D w)\/(listed.setIfInBounds j true).getD t true=false:=by
   rcases RT with h|h
   ·exact .inl h
   rcases hD with h'|⟨_,ot,Tq,e,he,hb,OE⟩
   ·exact .inl h'
   refine .inr ?_
   have Zw:j≠t:=λe'=>by
    subst e';rw[Tp]at Tq;injection Tq with Tq
    subst Tq;exact RV e he hb OE
   rw[getD_set_ne true Zw];exact h
  refine wpOp_mono (λa' w' h3=>?_) h2
  have SP:(listed.setIfInBounds j true).getD t true=false->C w':=λh=>h3.2.1 (by
   rw[Array.setIfInBounds_comm _ _ (Ne.symm F5),getD_set_ne true (Ne.symm kJ)];exact h)
  have Zx:D w':=by
   rcases RW with h|h
   ·exact h w'
   rcases hD with h'|⟨h',_⟩
   ·exact h' w'
   exact h' w' (SP h)
  refine ⟨SP,ih (listed.setIfInBounds j true) a' w' Pf (ready_mono hr (Ne.symm F5)) h3.1 RW Zx ?_ ?_⟩
  ·rw[Array.setIfInBounds_comm _ _ F5];exact h3.2.1
  rw[Array.setIfInBounds_comm _ _ F5];exact h3.2.2
theorem Cp {i:Nat} {oi:Oper} {v:Value} {dP:Nat} {listed:Array Bool} {a:Act} {w:World} (hi:ops[i]?=some oi)
 (hs:Region.noSelect ops=true) (hf:Region.free md ops listed i=true) (hr:(Region.ready md ops listed).contains i=true) (hw:Region.waitsFor md ops t i=true) (RT:listed.getD t true=false) (kJ:(t==i)=false)
 (hQ: ∀c a w,Q (.panic c) (a.put oi.dst v) w->Q (.panic c) a w) (hy:YieldsIf P ops C oi v a) (hS:C w)
 (h:gG P md ops Q t C dP (listed.setIfInBounds i true) (a.put oi.dst v) w):gG P md ops Q t C (dP+1) listed a w:=
 sA (D:=C) hi (Region.noSelect_spec hs) hQ (by simpa using kJ) (.inr ⟨λ_ h=>h,Region.waitsFor_spec hw⟩) dP listed a w (Region.free_spec hi hf) (by simpa using hr) hy (.inr RT) hS (λ_=>hS) h
theorem zV {i:Nat} {oi:Oper} {v:Value} {dP:Nat} {listed:Array Bool} {a:Act} {w:World} (hi:ops[i]?=some oi)
 (hs:Region.noSelect ops=true) (hf:Region.free md ops listed i=true) (hr:(Region.ready md ops listed).contains i=true) (kJ:(t==i)=false)
 (hQ: ∀c a w,Q (.panic c) (a.put oi.dst v) w->Q (.panic c) a w) (hy:YieldsIf P ops (λ_=>True) oi v a) (hC:listed.getD t true=false->C w)
 (h:gG P md ops Q t C dP (listed.setIfInBounds i true) (a.put oi.dst v) w):gG P md ops Q t C (dP+1) listed a w:=
 sA (D:=λ_=>True) hi (Region.noSelect_spec hs) hQ (by simpa using kJ) (.inl λ_=>trivial) dP listed a w (Region.free_spec hi hf) (by simpa using hr) hy (.inl λ_=>trivial) trivial (λh'=>hC (by
  have gm:i≠t:=λe=>by rw[e]at kJ;simp at kJ
  rw[getD_set_ne true gm]at h';exact h')) h
theorem dh {listed:Array Bool} {a:Act} {w:World} (hr:Region.ready md ops listed=[]) (h:Q .normal a w): ∀dP,gG P md ops Q t C dP listed a w
 |0=>⟨hr,h⟩
 |_+1=>⟨λ_=>h,by rw[hr];simp⟩
def aN (P:Program) (md:Region.Mode) (ops:Array Oper) (Q:Exit->Act->World->Prop) (t:Nat) (C:World->Prop) (dP:Nat) (listed:Array Bool) (a:Act) (w:World) (rs:List Nat):Prop:=
 ∀i∈rs,wpOp P ops Q i (λa' w'=>((listed.setIfInBounds i true).getD t true=false->C w')/\gG P md ops Q t C dP (listed.setIfInBounds i true) a' w') a w
theorem aN.nil {dP:Nat} {listed:Array Bool} {a:Act} {w:World}:aN P md ops Q t C dP listed a w []:=λ_ h=>by cases h
theorem aN.cons {dP:Nat} {listed:Array Bool} {a:Act} {w:World} {i:Nat} {o:Oper} {rs:List Nat} (ho:ops[i]?=some o)
 (h: ∀K':Act->World->Prop,Shut (∀a w,((listed.setIfInBounds i true).getD t true=false->C w)->gG P md ops Q t C dP (listed.setIfInBounds i true) a w->K' a w)->if Region.wanted o (yielded ops a.tmps)=true then Oper.wp P o a w K' Q else K' (a.put o.dst undef) w)
 (hs:aN P md ops Q t C dP listed a w rs):aN P md ops Q t C dP listed a w (i::rs):=λj hj=>by
 rcases List.mem_cons.1 hj with rfl|hj
 ·exact wpOp_step ho (λK' hK=>h K' (λa w hS hW=>hK a w ⟨hS,hW⟩))
 exact hs j hj
theorem bZ {rs:List Nat} {dP:Nat} {listed:Array Bool} {a:Act} {w:World} (hr:Region.ready md ops listed=rs) (gm:rs≠[])
 (h:aN P md ops Q t C dP listed a w rs):gG P md ops Q t C (dP+1) listed a w:=⟨λh0=>absurd (hr▸h0) gm,hr▸h⟩
theorem cl (i:Nat) {oi:Oper} {v:Value} {dP:Nat} {listed:Array Bool} {a:Act} {w:World} (h:gG P md ops Q t C dP (listed.setIfInBounds i true) (a.put oi.dst v) w)
 (hi:ops[i]?=some oi:=by exact rfl) (hs:Region.noSelect ops=true:=by kernel_rfl) (hf:Region.free md ops listed i=true:=by kernel_rfl) (hr:(Region.ready md ops listed).contains i=true:=by kernel_rfl) (hw:Region.waitsFor md ops t i=true:=by kernel_rfl) (RT:listed.getD t true=false:=by kernel_rfl) (kJ:(t==i)=false:=by exact rfl)
 (hQ: ∀c a w,Q (.panic c) (a.put oi.dst v) w->Q (.panic c) a w:=by exact λ_ _ _ h=>h) (hS:C w:=by assumption)
 (hy:YieldsIf P ops C oi v a:=by
  refine Or.inl ⟨by rfl,?_⟩;intro w Td
  try dsimp only at Td
  simp only[aK];first|(go_simp;done)|(go_simp;with_reducible rfl)):gG P md ops Q t C (dP+1) listed a w:=
 Cp hi hs hf hr hw RT kJ hQ hy hS h
theorem eS (i:Nat) {oi:Oper} {v:Value} {dP:Nat} {listed:Array Bool} {a:Act} {w:World} (hC:listed.getD t true=false->C w) (h:gG P md ops Q t C dP (listed.setIfInBounds i true) (a.put oi.dst v) w)
 (hi:ops[i]?=some oi:=by exact rfl) (hs:Region.noSelect ops=true:=by kernel_rfl) (hf:Region.free md ops listed i=true:=by kernel_rfl) (hr:(Region.ready md ops listed).contains i=true:=by kernel_rfl) (kJ:(t==i)=false:=by exact rfl)
 (hQ: ∀c a w,Q (.panic c) (a.put oi.dst v) w->Q (.panic c) a w:=by exact λ_ _ _ h=>h)
 (hy:YieldsIf P ops (λ_=>True) oi v a:=by
  refine Or.inl ⟨by rfl,?_⟩;intro w Td;simp only[aK];first|(go_simp;done)|(go_simp;with_reducible rfl)):gG P md ops Q t C (dP+1) listed a w:=
 zV hi hs hf hr kJ hQ hy hC h
theorem cV (i:Nat) {o:Oper} {dP:Nat} {listed:Array Bool} {a:Act} {w:World} (h: ∀K':Act->World->Prop,Shut (∀a w,((listed.setIfInBounds i true).getD t true=false->C w)->gG P md ops Q t C dP (listed.setIfInBounds i true) a w->K' a w)->if Region.wanted o (yielded ops a.tmps)=true then Oper.wp P o a w K' Q else K' (a.put o.dst undef) w)
 (ho:ops[i]?=some o:=by exact rfl) (hr:Region.ready md ops listed=[i]:=by kernel_rfl):gG P md ops Q t C (dP+1) listed a w:=
 bZ hr (by simp) (aN.cons ho h aN.nil)
theorem dq {id:Nat} {a:Act} {w:World} (t:Nat) (C:World->Prop) (hm:P.follows .mixedOrders=true)
 (h:gG P .any ops Q t C ops.size (Array.replicate ops.size false) a w.drew):(Code.region id ops true).wp P Q a w:=
 wp_region_any hm (wP _ _ _ _ h)
end
end Go.Proofs.YtbcggaldkihcaaaGreatDoor
