/- FnExactJournalText: the card: for every list of deeds the program's journal of them is the reference's, the law returns true, and the argument reads afterwards as before; the listed variables start as the program's text lays them. -/
import Derived.Test.YtedglaejieblhaaDoorCards
import Derived.Test.YtedglaejieblhaaDoorTie
import Derived.Test.YtedglaejieblhaaDoorLawY
import Derived.Test.YtedglaejieblhaaDoorOpenJ
import Derived.Test.YtedglaejieblhaaDoorRep
import Derived.ProofKit
import Derived.OpenShut
import Derived.ShutString
import Derived.ChangeOld
import Derived.Below
import Derived.LaidMore
import Derived.Lay
import Derived.MakeChecks
import Derived.Stop.LaidErr
import Derived.Deep.DeepHandedRow
import Derived.Deep.DeepWitnessRowRef
import Derived.Lib.LaidTab
namespace Go.Proofs.YtedglaejieblhaaDoor.fnExactJournalTextCardOf
open Go.ChangeShapes Go.WideShapes Go.ChangeAt Go.RowKit
set_option linter.unusedVariables false

theorem own : ownKnob Tryd.prog.godebug = none := by kernel_rfl
theorem laidOut : laidOutB Tryd.prog = true := by kernel_rfl
theorem gType : (Tryd.prog.globals[1]?).map (·.type) = some 157 := by kernel_rfl
theorem cellsTab : Tryd.prog.cellsOf 157 = 20 := by kernel_rfl
theorem cellsE : Tryd.prog.cellsOf 112 = 1 := by kernel_rfl

theorem below_grow (w : World) (k : Nat) (os : Array Obj) : Below w.heap.size w (Go.Sort.grow (w.drewN k) os) :=
  ⟨rfl, rfl, rfl, by simp [Go.Sort.grow], fun i hi => by
    show (w.heap ++ os)[i]? = _
    rw [Array.getElem?_append_left hi]⟩

theorem env_of {W : World} (hL : laidMetH Tryd.prog Rows.fnExactJournalTextRow.laid W) (hS : W.ShapedOpen Tryd.prog) : Env W.heap.size W := by
  have hT : Lib.TabIs Tryd.prog W _ .u64 Lib.pow10Tab := Lib.tabIs_of_head (g := 1) (by kernel_rfl) gType Tryd.underlying157 Tryd.underlying112 cellsE cellsTab (laidMet.tail (laidMet.tail (show laidMet Tryd.prog Rows.fnExactJournalTextRow.laid W from hL)))
  have hB := Lib.tabBelow_of_tabIs hT
  refine ⟨fun w' hb n h1 h2 => ?_, fun w' hb l hl => ?_⟩
  · refine (Tryd.strconv_FormatInt_10 n h1 h2 w' (hB w' hb)).mono ?_
    rintro e w2 ⟨rfl, k, os, rfl⟩
    exact ⟨rfl, below_grow _ _ _⟩
  · have hsz : (⟨l.toArray⟩ : ByteArray).size = l.length := by simp [ByteArray.size]
    have hc := Lib.countB_le ⟨#[10]⟩ (by decide) l.length ⟨l.toArray⟩ (by rw [hsz]; exact Nat.le_refl _)
    rw [hsz] at hc
    have h1 : (⟨#[59]⟩ : ByteArray).size = 1 := rfl
    have hr := Tryd.strings_ReplaceAll_shaped ⟨l.toArray⟩ ⟨#[10]⟩ ⟨#[59]⟩ w' (hS.keptBut (hb.frame (fun _ => False)) (fun p hp => hp.elim)) (by rw [hsz]; omega) (by decide) (by rw [hsz, h1]; omega)
    have he : Lib.replaceAll l [10] [59] = semis l := replaceAll_map 10 59 (by decide) l
    rw [show (⟨l.toArray⟩ : ByteArray).data.toList = l from rfl, show (⟨#[10]⟩ : ByteArray).data.toList = [10] from rfl, show (⟨#[59]⟩ : ByteArray).data.toList = [59] from rfl, he] at hr
    exact hr

set_option maxRecDepth 100000 in
theorem contract (H : Type) (enc : TypeId × Value → H) (W : World) (base : Nat) (args : Array Value) (ds gs : List (DataW H)) (before : List MemPlace)
    (hval : ∀ (j : Nat) t v, Tryd.f4.params[j]? = some t → args[j]? = some v → Value.okWide Tryd.prog W .any base t v)
    (hW : DataW.Whole enc Tryd.prog Tryd.f4.params.toList Rows.fnExactJournalTextSpec.vars false W args.toList ds gs before) (hL : laidMetH Tryd.prog Rows.fnExactJournalTextRow.laid W) (hS : W.ShapedOpen Tryd.prog) :
    Calls Tryd.prog 4 args W fun e W' => ∃ v, e = .returned v ∧ Rows.fnExactJournalTextSpec.post enc Tryd.prog Tryd.f4 false true false false W args v W' := by
  have hW' := hW
  obtain ⟨p, q, hA0, hV, rfl, hfz, hnd⟩ := hW
  have hA : DataW.TrodAll enc Tryd.prog W 0 (fun _ => true) true Tryd.f4.params.toList args.toList ds p := hA0
  rw [Tryd.params4] at hA hval
  obtain ⟨v0, vs0, d0, ds0, p0, q0, hargs, rfl, rfl, h0, r0⟩ := trodAll_cons hA
  obtain ⟨rfl, rfl, rfl⟩ := trodAll_nil r0
  obtain rfl : args = #[v0] := by cases args; simp_all
  obtain ⟨rfl, rfl⟩ := trodVars_none hV
  have k0 := h0
  have lt0 : ∀ x ∈ p0, x.block < W.heap.size := by obtain ⟨m, hm⟩ := k0; exact DataW.trod_lt m _ _ _ hm
  obtain ⟨fuel, hf0⟩ := h0
  obtain ⟨A', n', c', rfl⟩ := okWide_slice Tryd.underlying35 (hval 0 35 v0 rfl rfl)
  obtain ⟨A, n, c, ds, hv, hD⟩ := deeds_of Tryd.underlying35 Tryd.underlying25 rfl (by kernel_rfl) (by kernel_rfl)
    Tryd.underlying2 Tryd.underlying2 rfl Tryd.underlying22 Tryd.underlying2 (by kernel_rfl) Tryd.underlying9 Tryd.underlying2
    rfl Tryd.underlying23 Tryd.underlying90 rfl (by kernel_rfl) (by kernel_rfl) Tryd.underlying2 Tryd.underlying2 Tryd.underlying9 Tryd.underlying9
    Tryd.underlying2 Tryd.underlying2 Tryd.underlying2 hf0
  rw [← hv] at hD
  clear hA0
  refine (lawJ_any ds A' n' c' W hD (env_of hL hS)).mono fun e W' ⟨he, bel⟩ => ?_
  subst he
  exact ⟨_, rfl, _, _, _, [], _, [], hW', trodAll_mk1 (shut_bool Tryd.underlying4 _), trodAll_cons_mk (Below.trod laidOut (by kernel_rfl) (of_decide_eq_true (by kernel_rfl)) k0 bel lt0) trodAll_mk0, rfl, bel.frame _, fun h => by cases h⟩

theorem door_met (os : Os) (args : Array Value) : laidMetH Tryd.prog Rows.fnExactJournalTextRow.laid ((World.laidAll Tryd.prog os Rows.fnExactJournalTextRow.laid).forCall (fun _ _ => 0) ⟨#[], args, []⟩).memory := by
  rw [MakeChecks.laidMetH_plain _ _ _ (by kernel_rfl)]
  exact laidMet_laidAll _ (by kernel_rfl) (by kernel_rfl)
theorem reads (os : Os) {H : Type} (enc : TypeId × Value → H) : ∃ places, DataW.whole enc Tryd.prog ((World.laidAll Tryd.prog os Rows.fnExactJournalTextRow.laid).forCall (fun _ _ => 0) ⟨#[], #[.slice none 0 0], []⟩).memory Tryd.f4.params.toList Rows.fnExactJournalTextSpec.vars false #[Value.slice none 0 0].toList 8 = some ([.nil], [], places) :=
  ⟨[], by kernel_rfl⟩

set_option maxRecDepth 100000 in
theorem lifted (os : Os) (started : os.Started) (H : Type) (enc : TypeId × Value → H) (F : Stop.Interp) :
    ReturnsInHanded {} Tryd.checked os 4 .any ((OpenSpec.ofChange Rows.fnExactJournalTextSpec).preRow enc Tryd.prog Tryd.f4 Rows.fnExactJournalTextRow.domain false Rows.fnExactJournalTextRow.laid) (((OpenSpec.ofChange Rows.fnExactJournalTextSpec).at F).post enc Tryd.prog Tryd.f4 false true false false) := by
  obtain ⟨places, hx⟩ := reads os enc
  refine returnsInHanded_of_row (C := Tryd.checked) (s := OpenSpec.ofChange Rows.fnExactJournalTextSpec) own started (by kernel_rfl) Tryd.func4
    (witness_row_atRef (enc := enc) (C := Tryd.checked) false (World.laidAll Tryd.prog os Rows.fnExactJournalTextRow.laid) #[.slice none 0 0] (World.laidAll_os _ _ _) (by kernel_rfl) (by kernel_rfl) (by kernel_rfl)
      (OpenSpec.preRow_of_cond 8 hx (by kernel_rfl) (fun k hk => by cases hk) (by kernel_rfl) (door_met os _))) ?_
  intro W base args ds gs before hval hW _ _ _ hL hS _
  exact contract H enc W base args ds gs before hval hW hL hS

theorem said : Rows.FnExactJournalTextSaid :=
  OpenClaim.holds_of_cond 4 Tryd.f4 rfl rfl rfl rfl rfl rfl rfl ⟨rfl, rfl, rfl, rfl, rfl⟩ rfl rfl rfl rfl rfl (by kernel_rfl) Tryd.func4 (by kernel_rfl)
    (of_decide_eq_true (by kernel_rfl)) (by unfold Func.isWrapper; first | (rw [if_pos (by decide +kernel)]; kernel_rfl) | (rw [if_neg (by decide +kernel)]; exact ⟨rfl, rfl⟩))
    (fun os started H enc _ F => by rw [OpenClaim.pre_eq_preRow]; exact lifted os started H enc F)

theorem plain (f : FuncId) (fn : Func) (hf : Tryd.pinned.checked.prog.funcNamed Rows.fnExactJournalTextRow.func = some f) (hfn : Tryd.pinned.checked.prog.funcs[f]? = some fn) :
    true = Tryd.pinned.checked.prog.looks [] ∧ ∀ (j : Nat) t, fn.params[j]? = some t → Tryd.pinned.checked.prog.wantsStandIn t = false := by
  obtain rfl : f = 4 := Option.some.inj ((show Tryd.prog.funcNamed Rows.fnExactJournalTextRow.func = some 4 by kernel_rfl).symm.trans hf) |>.symm
  obtain rfl : fn = Tryd.f4 := (Option.some.inj (Tryd.func4.symm.trans hfn)).symm
  refine ⟨by kernel_rfl, fun j t ht => ?_⟩
  rw [Tryd.params4] at ht
  have hm : t ∈ [35] := by simpa using Array.mem_of_getElem? ht
  have hall : ([35].all fun u => !Tryd.prog.wantsStandIn u) = true := by kernel_rfl
  exact (show Tryd.prog.wantsStandIn t = false by simpa using List.all_eq_true.1 hall t hm)

/-- The card. -/
theorem card : Rows.FnExactJournalTextCardSaid :=
  Claim7.holds_tied_plain_at .later [] _ _ _ _ said (fun _ h => by cases h) (by kernel_rfl) (fun _ h => by cases h) fnExactJournalText_row_tie rfl ⟨rfl, rfl⟩ (by kernel_rfl) rfl plain (by kernel_rfl)
#print axioms card
end Go.Proofs.YtedglaejieblhaaDoor.fnExactJournalTextCardOf
