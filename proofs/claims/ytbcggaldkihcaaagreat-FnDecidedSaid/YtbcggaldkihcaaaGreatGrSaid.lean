/- FnDecided: the row: for every input the law returns true: a motion that is decided first on the next day gets the result that was its verdict on the day before, and a motion that stays open keeps its votes. -/
import Derived.Test.YtbcggaldkihcaaaGreatRows
import Derived.Test.YtbcggaldkihcaaaGreatGr
import Derived.ProofKit
import Derived.OpenShut
import Derived.ShutString
import Derived.ChangeOld
import Derived.Below
import Derived.LaidMore
import Derived.Lay
import Derived.MakeChecks
import Derived.Stop.LaidErr
import Derived.Deep.DeepHandedRow
import Derived.Deep.DeepWitnessRowRef
import Derived.Lib.LaidTab
set_option maxRecDepth 100000
namespace Go.Proofs.YtbcggaldkihcaaaGreat.fnDecidedSaidOf
open Go.ChangeShapes Go.WideShapes Go.ChangeAt Go.RowKit
set_option linter.unusedVariables false
theorem own:ownKnob Tryz.prog.godebug=none:=by kernel_rfl
theorem laidOut:laidOutB Tryz.prog=true:=by kernel_rfl
theorem KE (H:Type) (enc:TypeId×Value->H) (W:World) (base:Nat) (args:Array Value) (ds gs:List (DataW H)) (before:List MemPlace)
 (lm: ∀(j:Nat) t v,Tryz.f4.params[j]?=some t->args[j]?=some v->Value.okWide Tryz.prog W .any base t v)
 (hW:DataW.Whole enc Tryz.prog Tryz.f4.params.toList Rows.fnDecidedSpec.vars false W args.toList ds gs before) (hL:laidMetH Tryz.prog Rows.fnDecidedRow.laid W) (hS:W.ShapedOpen Tryz.prog):
 Calls Tryz.prog 4 args W λe W'=> ∃v,e= .returned v/\Rows.fnDecidedSpec.post enc Tryz.prog Tryz.f4 false true false false W args v W':=by
 have hW':=hW;obtain ⟨p,q,Z0,hV,rfl,hfz,hnd⟩:=hW;have hA:DataW.TrodAll enc Tryz.prog W 0 (λ_=>true) true Tryz.f4.params.toList args.toList ds p:=Z0;rw[Tryz.params4]at hA lm;obtain ⟨v0,vs0,d0,ds0,p0,q0,Z3,rfl,rfl,h0,r0⟩:=trodAll_cons hA;obtain ⟨v1,vs1,d1,ds1,p1,q1,rfl,rfl,rfl,h1,r1⟩:=trodAll_cons r0;obtain ⟨rfl,rfl,rfl⟩:=trodAll_nil r1;obtain rfl:args= #[v0,v1]:=by cases args;simp_all
 obtain ⟨rfl,rfl⟩:=trodVars_none hV;obtain ⟨A0,n0,c0,rfl,b0⟩:=agM (lm 0 22 v0 rfl rfl) h0;obtain ⟨A1,n1,c1,rfl,b1⟩:=agM (lm 1 22 v1 rfl rfl) h1;have k0:=h0;have lt0: ∀x∈p0,x.block<W.heap.size:=by obtain ⟨m,hm⟩:=k0;exact aj0 m _ _ _ hm
 have k1:=h1;have lt1: ∀x∈p1,x.block<W.heap.size:=by obtain ⟨m,hm⟩:=k1;exact aj0 m _ _ _ hm
 clear Z0;refine (ajR A0 n0 c0 A1 n1 c1 W b0 b1).mono λe W' ⟨he,P3⟩=>?_;subst he;exact ⟨_,rfl,_,_,_,[],_,[],hW',trodAll_mk1 (shut_bool Tryz.underlying4 _),(trodAll_cons_mk (Below.trod laidOut (by kernel_rfl) (aa3 (by kernel_rfl)) k0 P3 lt0) (trodAll_cons_mk (Below.trod laidOut (by kernel_rfl) (aa3 (by kernel_rfl)) k1 P3 lt1) trodAll_mk0)),rfl,P3.frame _,λh=>by cases h⟩
theorem l0 (os:Os) (args:Array Value):laidMetH Tryz.prog Rows.fnDecidedRow.laid ((World.laidAll Tryz.prog os Rows.fnDecidedRow.laid).forCall (λ_ _=>0) ⟨#[],args,[]⟩).memory:=by
 rw[MakeChecks.laidMetH_plain _ _ _ (by kernel_rfl)];exact laidMet_laidAll _ (by kernel_rfl) (by kernel_rfl)
theorem reads (os:Os) {H:Type} (enc:TypeId×Value->H): ∃places,DataW.whole enc Tryz.prog ((World.laidAll Tryz.prog os Rows.fnDecidedRow.laid).forCall (λ_ _=>0) ⟨#[],#[.slice none 0 0,.slice none 0 0],[]⟩).memory Tryz.f4.params.toList Rows.fnDecidedSpec.vars false #[Value.slice none 0 0,Value.slice none 0 0].toList 8=some ([.nil,.nil],[],places):=
 ⟨[],by kernel_rfl⟩
theorem lifted (os:Os) (started:os.Started) (H:Type) (enc:TypeId×Value->H) (F:Stop.Interp):
 ReturnsInHanded {} Tryz.checked os 4 .any ((OpenSpec.ofChange Rows.fnDecidedSpec).preRow enc Tryz.prog Tryz.f4 Rows.fnDecidedRow.domain false Rows.fnDecidedRow.laid) (((OpenSpec.ofChange Rows.fnDecidedSpec).at F).post enc Tryz.prog Tryz.f4 false true false false):=by
 obtain ⟨places,hx⟩:=reads os enc
 refine returnsInHanded_of_row (C:=Tryz.checked) (s:=OpenSpec.ofChange Rows.fnDecidedSpec) own started (by kernel_rfl) Tryz.func4
  (witness_row_atRef (enc:=enc) (C:=Tryz.checked) false (World.laidAll Tryz.prog os Rows.fnDecidedRow.laid) #[.slice none 0 0,.slice none 0 0] (World.laidAll_os _ _ _) (by kernel_rfl) (by kernel_rfl) (by kernel_rfl)
   (OpenSpec.preRow_of_cond 8 hx (by kernel_rfl) (λk hk=>by cases hk) (by kernel_rfl) (l0 os _))) ?_
 intro W base args ds gs before lm hW _ _ _ hL hS _;exact KE H enc W base args ds gs before lm hW hL hS
theorem said:Rows.FnDecidedSaid:=
 OpenClaim.holds_of_cond 4 Tryz.f4 rfl rfl rfl rfl rfl rfl rfl ⟨rfl,rfl,rfl,rfl,rfl⟩ rfl rfl rfl rfl rfl (by kernel_rfl) Tryz.func4 (by kernel_rfl)
  (aa3 (by kernel_rfl)) (by unfold Func.isWrapper;first|(rw[aaj (by decide+kernel)];kernel_rfl)|(rw[aah (by decide+kernel)];exact ⟨rfl,rfl⟩))
  (λos started H enc _ F=>by rw[OpenClaim.pre_eq_preRow];exact lifted os started H enc F)
#print axioms said
end Go.Proofs.YtbcggaldkihcaaaGreat.fnDecidedSaidOf
