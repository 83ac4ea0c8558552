/- FnExactDoDeeds: the row: for every input the law returns true: DoDeeds of the program returns what the reference returns, leaves its arguments as they were and shares no memory. -/
import Derived.Test.YtbcggaldkihcaaaGreatRows
import Derived.Test.YtbcggaldkihcaaaGreatHo
import Derived.ProofKit
import Derived.OpenShut
import Derived.ShutString
import Derived.ChangeOld
import Derived.Below
import Derived.LaidMore
import Derived.Lay
import Derived.MakeChecks
import Derived.Stop.LaidErr
import Derived.Deep.DeepHandedRow
import Derived.Deep.DeepWitnessRowRef
import Derived.Lib.LaidTab
set_option maxRecDepth 100000
namespace Go.Proofs.YtbcggaldkihcaaaGreat.fnExactDoDeedsSaidOf
open Go.ChangeShapes Go.WideShapes Go.ChangeAt Go.RowKit
set_option linter.unusedVariables false
theorem own:ownKnob Tryz.prog.godebug=none:=by kernel_rfl
theorem laidOut:laidOutB Tryz.prog=true:=by kernel_rfl
theorem KE (H:Type) (enc:TypeId×Value->H) (W:World) (base:Nat) (args:Array Value) (ds gs:List (DataW H)) (before:List MemPlace)
 (lm: ∀(j:Nat) t v,Tryz.f7.params[j]?=some t->args[j]?=some v->Value.okWide Tryz.prog W .any base t v)
 (hW:DataW.Whole enc Tryz.prog Tryz.f7.params.toList Rows.fnExactDoDeedsSpec.vars false W args.toList ds gs before) (hL:laidMetH Tryz.prog Rows.fnExactDoDeedsRow.laid W) (hS:W.ShapedOpen Tryz.prog):
 Calls Tryz.prog 7 args W λe W'=> ∃v,e= .returned v/\Rows.fnExactDoDeedsSpec.post enc Tryz.prog Tryz.f7 false true false false W args v W':=by
 have hW':=hW;obtain ⟨p,q,Z0,hV,rfl,hfz,hnd⟩:=hW;have hA:DataW.TrodAll enc Tryz.prog W 0 (λ_=>true) true Tryz.f7.params.toList args.toList ds p:=Z0;rw[Tryz.params7]at hA lm;obtain ⟨v0,vs0,d0,ds0,p0,q0,Z3,rfl,rfl,h0,r0⟩:=trodAll_cons hA;obtain ⟨v1,vs1,d1,ds1,p1,q1,rfl,rfl,rfl,h1,r1⟩:=trodAll_cons r0;obtain ⟨rfl,rfl,rfl⟩:=trodAll_nil r1;obtain rfl:args= #[v0,v1]:=by cases args;simp_all
 obtain ⟨rfl,rfl⟩:=trodVars_none hV;have k0:=h0;have lt0: ∀x∈p0,x.block<W.heap.size:=by obtain ⟨m,hm⟩:=k0;exact aj0 m _ _ _ hm
 obtain ⟨x0,a0,rfl,hR0,jo⟩:=Oh (lm 0 57 v0 rfl rfl) h0;have k1:=h1;have lt1: ∀x∈p1,x.block<W.heap.size:=by obtain ⟨m,hm⟩:=k1;exact aj0 m _ _ _ hm
 obtain ⟨Ad1,nd1,cd1,dl1,rfl,hD1⟩:=anx (lm 1 58 v1 rfl rfl) h1;clear Z0;refine (anw a0 dl1 x0 Ad1 nd1 cd1 W hR0 jo hD1).mono λe W' ⟨he,P3⟩=>?_;subst he;exact ⟨_,rfl,_,_,_,[],_,[],hW',trodAll_mk1 (shut_bool Tryz.underlying4 _),(trodAll_cons_mk (Below.trod laidOut (by kernel_rfl) (aa3 (by kernel_rfl)) k0 P3 lt0) (trodAll_cons_mk (Below.trod laidOut (by kernel_rfl) (aa3 (by kernel_rfl)) k1 P3 lt1) trodAll_mk0)),rfl,P3.frame _,λh=>by cases h⟩
theorem l0 (os:Os) (args:Array Value):laidMetH Tryz.prog Rows.fnExactDoDeedsRow.laid ((World.laidAll Tryz.prog os Rows.fnExactDoDeedsRow.laid).forCall (λ_ _=>0) ⟨#[],args,[]⟩).memory:=by
 rw[MakeChecks.laidMetH_plain _ _ _ (by kernel_rfl)];exact laidMet_laidAll _ (by kernel_rfl) (by kernel_rfl)
theorem reads (os:Os) {H:Type} (enc:TypeId×Value->H): ∃places,DataW.whole enc Tryz.prog ((World.laidAll Tryz.prog os Rows.fnExactDoDeedsRow.laid).forCall (λ_ _=>0) ⟨#[],#[.agg #[.int .i64 0,.int .i64 0,.slice none 0 0,.slice none 0 0,.slice none 0 0,.slice none 0 0],.slice none 0 0],[]⟩).memory Tryz.f7.params.toList Rows.fnExactDoDeedsSpec.vars false #[Value.agg #[.int .i64 0,.int .i64 0,.slice none 0 0,.slice none 0 0,.slice none 0 0,.slice none 0 0],.slice none 0 0].toList 9=some ([.agg [.lit (.int .i64 0),.lit (.int .i64 0),.nil,.nil,.nil,.nil],.nil],[],places):=
 ⟨[],by kernel_rfl⟩
theorem lifted (os:Os) (started:os.Started) (H:Type) (enc:TypeId×Value->H) (F:Stop.Interp):
 ReturnsInHanded {} Tryz.checked os 7 .any ((OpenSpec.ofChange Rows.fnExactDoDeedsSpec).preRow enc Tryz.prog Tryz.f7 Rows.fnExactDoDeedsRow.domain false Rows.fnExactDoDeedsRow.laid) (((OpenSpec.ofChange Rows.fnExactDoDeedsSpec).at F).post enc Tryz.prog Tryz.f7 false true false false):=by
 obtain ⟨places,hx⟩:=reads os enc
 refine returnsInHanded_of_row (C:=Tryz.checked) (s:=OpenSpec.ofChange Rows.fnExactDoDeedsSpec) own started (by kernel_rfl) Tryz.func7
  (witness_row_atRef (enc:=enc) (C:=Tryz.checked) false (World.laidAll Tryz.prog os Rows.fnExactDoDeedsRow.laid) #[.agg #[.int .i64 0,.int .i64 0,.slice none 0 0,.slice none 0 0,.slice none 0 0,.slice none 0 0],.slice none 0 0] (World.laidAll_os _ _ _) (by kernel_rfl) (by kernel_rfl) (by kernel_rfl)
   (OpenSpec.preRow_of_cond 9 hx (by kernel_rfl) (λk hk=>by cases hk) (by kernel_rfl) (l0 os _))) ?_
 intro W base args ds gs before lm hW _ _ _ hL hS _;exact KE H enc W base args ds gs before lm hW hL hS
theorem said:Rows.FnExactDoDeedsSaid:=
 OpenClaim.holds_of_cond 7 Tryz.f7 rfl rfl rfl rfl rfl rfl rfl ⟨rfl,rfl,rfl,rfl,rfl⟩ rfl rfl rfl rfl rfl (by kernel_rfl) Tryz.func7 (by kernel_rfl)
  (aa3 (by kernel_rfl)) (by unfold Func.isWrapper;first|(rw[aaj (by decide+kernel)];kernel_rfl)|(rw[aah (by decide+kernel)];exact ⟨rfl,rfl⟩))
  (λos started H enc _ F=>by rw[OpenClaim.pre_eq_preRow];exact lifted os started H enc F)
#print axioms said
end Go.Proofs.YtbcggaldkihcaaaGreat.fnExactDoDeedsSaidOf
