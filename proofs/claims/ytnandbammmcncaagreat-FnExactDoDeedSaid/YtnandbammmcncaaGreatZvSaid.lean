/- FnExactDoDeed: the row: for every input the law returns true: DoDeed of the program returns what the reference returns, leaves its arguments as they were and shares no memory. -/
import Derived.Test.YtnandbammmcncaaGreatRows
import Derived.Test.YtnandbammmcncaaGreatZv
import Derived.ProofKit
import Derived.OpenShut
import Derived.ShutString
import Derived.ChangeOld
import Derived.Below
import Derived.LaidMore
import Derived.Lay
import Derived.MakeChecks
import Derived.Stop.LaidErr
import Derived.Deep.DeepHandedRow
import Derived.Deep.DeepWitnessRowRef
import Derived.Lib.LaidTab
set_option maxRecDepth 100000
namespace Go.Proofs.YtnandbammmcncaaGreat.fnExactDoDeedSaidOf
open Go.ChangeShapes Go.WideShapes Go.ChangeAt Go.RowKit
set_option linter.unusedVariables false
theorem own:ownKnob Tryz.prog.godebug=none:=by kernel_rfl
theorem laidOut:laidOutB Tryz.prog=true:=by kernel_rfl
theorem KE (H:Type) (enc:TypeId×Value->H) (W:World) (base:Nat) (args:Array Value) (ds gs:List (DataW H)) (before:List MemPlace)
 (KF: ∀(j:Nat) t v,Tryz.f9.params[j]?=some t->args[j]?=some v->Value.okWide Tryz.prog W .any base t v)
 (hW:DataW.Whole enc Tryz.prog Tryz.f9.params.toList Rows.fnExactDoDeedSpec.vars false W args.toList ds gs before) (hL:laidMetH Tryz.prog Rows.fnExactDoDeedRow.laid W) (hS:W.ShapedOpen Tryz.prog):
 Calls Tryz.prog 9 args W λe W'=> ∃v,e= .returned v/\Rows.fnExactDoDeedSpec.post enc Tryz.prog Tryz.f9 false true false false W args v W':=by
 have hW':=hW;obtain ⟨p,q,XI,hV,rfl,hfz,hnd⟩:=hW;have hA:DataW.TrodAll enc Tryz.prog W 0 (λ_=>true) true Tryz.f9.params.toList args.toList ds p:=XI;rw[Tryz.params9]at hA KF;obtain ⟨v0,vs0,d0,ds0,p0,q0,XJ,rfl,rfl,h0,r0⟩:=trodAll_cons hA;obtain ⟨v1,vs1,d1,ds1,p1,q1,rfl,rfl,rfl,h1,r1⟩:=trodAll_cons r0;obtain ⟨rfl,rfl,rfl⟩:=trodAll_nil r1;obtain rfl:args= #[v0,v1]:=by cases args;simp_all
 obtain ⟨rfl,rfl⟩:=trodVars_none hV;have k0:=h0;have lt0: ∀x∈p0,x.block<W.heap.size:=by obtain ⟨m,hm⟩:=k0;exact DataW.trod_lt m _ _ _ hm
 obtain ⟨x0,a0,rfl,hR0,jo⟩:=Oh (KF 0 27 v0 rfl rfl) h0;have k1:=h1;have lt1: ∀x∈p1,x.block<W.heap.size:=by obtain ⟨m,hm⟩:=k1;exact DataW.trod_lt m _ _ _ hm
 obtain ⟨dd1,A11,c11,A21,c21,rfl,hT1,hP1,hZ1,hL1⟩:=Mp (KF 1 49 v1 rfl rfl) h1;clear XI;refine (He a0 dd1 x0 A11 c11 A21 c21 W hR0 jo hT1 hP1 hZ1 hL1).mono λe W' ⟨he,VZ⟩=>?_;subst he;exact ⟨_,rfl,_,_,_,[],_,[],hW',trodAll_mk1 (shut_bool Tryz.underlying4 _),(trodAll_cons_mk (Below.trod laidOut (by kernel_rfl) (aa3 (by kernel_rfl)) k0 VZ lt0) (trodAll_cons_mk (Below.trod laidOut (by kernel_rfl) (aa3 (by kernel_rfl)) k1 VZ lt1) trodAll_mk0)),rfl,VZ.frame _,λh=>by cases h⟩
theorem KG (os:Os) (args:Array Value):laidMetH Tryz.prog Rows.fnExactDoDeedRow.laid ((World.laidAll Tryz.prog os Rows.fnExactDoDeedRow.laid).forCall (λ_ _=>0) ⟨#[],args,[]⟩).memory:=by
 rw[MakeChecks.laidMetH_plain _ _ _ (by kernel_rfl)];exact laidMet_laidAll _ (by kernel_rfl) (by kernel_rfl)
theorem reads (os:Os) {H:Type} (enc:TypeId×Value->H): ∃places,DataW.whole enc Tryz.prog ((World.laidAll Tryz.prog os Rows.fnExactDoDeedRow.laid).forCall (λ_ _=>0) ⟨#[],#[.agg #[.int .i64 0,.int .i64 0,.slice none 0 0,.slice none 0 0,.slice none 0 0,.slice none 0 0],.agg #[.int .i64 0,.int .i64 0,.slice none 0 0,.string ⟨#[]⟩,.int .i64 0,.slice none 0 0,.int .i64 0,.int .i64 0,.int .i64 0]],[]⟩).memory Tryz.f9.params.toList Rows.fnExactDoDeedSpec.vars false #[Value.agg #[.int .i64 0,.int .i64 0,.slice none 0 0,.slice none 0 0,.slice none 0 0,.slice none 0 0],.agg #[.int .i64 0,.int .i64 0,.slice none 0 0,.string ⟨#[]⟩,.int .i64 0,.slice none 0 0,.int .i64 0,.int .i64 0,.int .i64 0]].toList 9=some ([.agg [.lit (.int .i64 0),.lit (.int .i64 0),.nil,.nil,.nil,.nil],.agg [.lit (.int .i64 0),.lit (.int .i64 0),.nil,.lit (.string []),.lit (.int .i64 0),.nil,.lit (.int .i64 0),.lit (.int .i64 0),.lit (.int .i64 0)]],[],places):=
 ⟨[],by kernel_rfl⟩
theorem lifted (os:Os) (started:os.Started) (H:Type) (enc:TypeId×Value->H) (F:Stop.Interp):
 ReturnsInHanded {} Tryz.checked os 9 .any ((OpenSpec.ofChange Rows.fnExactDoDeedSpec).preRow enc Tryz.prog Tryz.f9 Rows.fnExactDoDeedRow.domain false Rows.fnExactDoDeedRow.laid) (((OpenSpec.ofChange Rows.fnExactDoDeedSpec).at F).post enc Tryz.prog Tryz.f9 false true false false):=by
 obtain ⟨places,hx⟩:=reads os enc
 refine returnsInHanded_of_row (C:=Tryz.checked) (s:=OpenSpec.ofChange Rows.fnExactDoDeedSpec) own started (by kernel_rfl) Tryz.func9
  (witness_row_atRef (enc:=enc) (C:=Tryz.checked) false (World.laidAll Tryz.prog os Rows.fnExactDoDeedRow.laid) #[.agg #[.int .i64 0,.int .i64 0,.slice none 0 0,.slice none 0 0,.slice none 0 0,.slice none 0 0],.agg #[.int .i64 0,.int .i64 0,.slice none 0 0,.string ⟨#[]⟩,.int .i64 0,.slice none 0 0,.int .i64 0,.int .i64 0,.int .i64 0]] (World.laidAll_os _ _ _) (by kernel_rfl) (by kernel_rfl) (by kernel_rfl)
   (OpenSpec.preRow_of_cond 9 hx (by kernel_rfl) (λk hk=>by cases hk) (by kernel_rfl) (KG os _))) ?_
 intro W base args ds gs before KF hW _ _ _ hL hS _;exact KE H enc W base args ds gs before KF hW hL hS
theorem said:Rows.FnExactDoDeedSaid:=
 OpenClaim.holds_of_cond 9 Tryz.f9 rfl rfl rfl rfl rfl rfl rfl ⟨rfl,rfl,rfl,rfl,rfl⟩ rfl rfl rfl rfl rfl (by kernel_rfl) Tryz.func9 (by kernel_rfl)
  (aa3 (by kernel_rfl)) (by unfold Func.isWrapper;first|(rw[aaj (by decide+kernel)];kernel_rfl)|(rw[aah (by decide+kernel)];exact ⟨rfl,rfl⟩))
  (λos started H enc _ F=>by rw[OpenClaim.pre_eq_preRow];exact lifted os started H enc F)
#print axioms said
end Go.Proofs.YtnandbammmcncaaGreat.fnExactDoDeedSaidOf
