/- The row TeimsgBack: its arguments opened, the walk, the answer. No condition. -/
import Derived.Test.YtmgiolpooamkkaaDoorRows
import Derived.Test.YtmgiolpooamkkaaDoorWalkTeimsgBack
import Derived.Test.YtmgiolpooamkkaaDoorExtra
import Derived.Test.YtmgiolpooamkkaaDoorWSized
import Derived.Test.YtmgiolpooamkkaaDoorCards
import Derived.Test.YtmgiolpooamkkaaDoorTie
import Derived.Test.YtmgiolpooamkkaaDoorLaidBackOf
import Derived.Deep.DeepHandedRow
import Derived.Lib.LaidTab
import Derived.WalkKit
import Derived.ProofKit
import Derived.OpenShut
import Derived.ShutString
import Derived.ChangeOld
import Derived.Below
import Derived.SizedLaws
import Derived.Lib.SmallJoins
import Derived.ChangeArms
namespace Go.Proofs.YtmgiolpooamkkaaDoor.teimsgBack
open Go.ChangeShapes Go.WideShapes Go.ChangeAt Go.RowKit
open Go.ChangeMaps (open_string shut_string)
set_option linter.unusedVariables false
theorem own : ownKnob Tryd.prog.godebug = none := by kernel_rfl
theorem laidOut : laidOutB Tryd.prog = true := by kernel_rfl
def IsRow (k : IntKind) (w : World) (a : Option Addr) (len cap : Nat) (zs : List Int) : Prop :=
  (a = none ∧ len = 0 ∧ cap = 0 ∧ zs = []) ∨
  ∃ x, a = some x ∧ len ≤ cap ∧ cap ≤ maxLen ∧ zs.length = cap ∧ (∀ i, i < zs.length → w.cell? (x.add i) = some (.int k (zs.getD i 0))) ∧ ∀ n ∈ zs, (Lit.int k n).wf = true
set_option maxRecDepth 100000 in
theorem contract (H : Type) (enc : TypeId × Value → H) (W : World) (base : Nat) (args : Array Value) (ds gs : List (DataW H)) (before : List MemPlace)
    (hval0 : ∀ (j : Nat) t v, Tryd.f6.params[j]? = some t → args[j]? = some v → Value.okWide Tryd.prog W .any base t v)
    (hW : DataW.Whole enc Tryd.prog Tryd.f6.params.toList Rows.teimsgBackSpec.vars false W args.toList ds gs before)
    (hsz0 : (DataW.weightsEach Tryd.prog (Tryd.f6.params.toList ++ Rows.teimsgBackSpec.plain.varTypes Tryd.prog) (ds ++ gs)).all (· ≤ reachBytes) = true)
    (hL : laidMet Tryd.prog Rows.teimsgBackRow.laid W) :
    Calls Tryd.prog 6 args W fun e W' => ∃ v, e = .returned v ∧ Rows.teimsgBackSpec.post enc Tryd.prog Tryd.f6 false true false false W args v W' := by
  have hsz : (DataW.weightsEach Tryd.prog (Tryd.f6.params.toList ++ Rows.teimsgBackSpec.plain.varTypes Tryd.prog) (ds ++ gs)).all (· ≤ reachBytes) = true := hsz0
  have hval : ∀ (j : Nat) t v, Tryd.f6.params[j]? = some t → args[j]? = some v → Value.okWide Tryd.prog W .any base t v := hval0
  have hW' := hW
  obtain ⟨p, q, hA0, hV, rfl, hfz, hnd⟩ := hW
  have hA : DataW.TrodAll enc Tryd.prog W 0 (fun _ => true) true Tryd.f6.params.toList args.toList ds p := hA0
  rw [Tryd.params6] at hA hval hsz
  obtain ⟨v0, vs0, d0, ds0, p0, q0, hargs, rfl, rfl, h0, r0⟩ := trodAll_cons hA
  obtain ⟨rfl, rfl, rfl⟩ := trodAll_nil r0
  obtain rfl : args = #[v0] := by cases args; simp_all
  obtain ⟨rfl, rfl⟩ := trodVars_none hV
  have k0 := h0
  have lt0 : ∀ x ∈ p0, x.block < W.heap.size := by obtain ⟨m, hm⟩ := k0; exact DataW.trod_lt m _ _ _ hm
  obtain ⟨cs0, rfl, hcs0⟩ := okWide_struct Tryd.underlying23 (hval 0 23 v0 rfl rfl)
  obtain ⟨fu0, hf0⟩ := h0
  obtain ⟨xs0, n0, _, hx0, _, hlen0, hfs0⟩ := DataW.trod_struct Tryd.underlying23 hf0
  obtain ⟨c0_0, c0_1, c0_2, rfl⟩ := Go.Proofs.YtmgiolpooamkkaaDoorX.array_3 (hcs0.trans (by kernel_rfl : Tryd.prog.cellsOf 23 = 3))
  obtain ⟨e0_0, e0_1, e0_2, rfl⟩ := Go.Proofs.YtmgiolpooamkkaaDoorX.list_3 (show xs0.length = 3 from hlen0)
  simp only [Prod.mk.injEq] at hx0
  obtain ⟨rfl, rfl⟩ := hx0
  have cl0_0 : Tryd.prog.cellsOf 3 = 1 := by kernel_rfl
  have g0_0 : DataW.trod enc Tryd.prog W 0 (fun _ => true) true n0 3 [c0_0] = some e0_0 := by simpa [Value.cells, cl0_0] using hfs0 0 _ rfl
  obtain ⟨a0_0, q_, r_, w0_0⟩ := DataW.trod_int Tryd.underlying3 g0_0
  simp only [List.cons.injEq, and_true] at q_
  subst q_; subst r_
  have cl0_1 : Tryd.prog.cellsOf 3 = 1 := by kernel_rfl
  have g0_1 : DataW.trod enc Tryd.prog W 0 (fun _ => true) true n0 3 [c0_1] = some e0_1 := by simpa [Value.cells, cl0_1] using hfs0 1 _ rfl
  obtain ⟨a0_1, q_, r_, w0_1⟩ := DataW.trod_int Tryd.underlying3 g0_1
  simp only [List.cons.injEq, and_true] at q_
  subst q_; subst r_
  have cl0_2 : Tryd.prog.cellsOf 3 = 1 := by kernel_rfl
  have g0_2 : DataW.trod enc Tryd.prog W 0 (fun _ => true) true n0 3 [c0_2] = some e0_2 := by simpa [Value.cells, cl0_2] using hfs0 2 _ rfl
  obtain ⟨a0_2, q_, r_, w0_2⟩ := DataW.trod_int Tryd.underlying3 g0_2
  simp only [List.cons.injEq, and_true] at q_
  subst q_; subst r_
  clear hA0 hval0 hsz0 hsz
  refine (Wk.TeimsgBack a0_0 a0_1 a0_2 W (Go.Proofs.YtmgiolpooamkkaaDoorX.laid_ofB hL) w0_0 w0_1 w0_2).mono fun e W' ⟨he, bel⟩ => ?_
  subst he
  exact ⟨_, rfl, _, _, _, [], _, [], hW', trodAll_mk1 (shut_bool Tryd.underlying4 _), (trodAll_cons_mk (Below.trod laidOut (by kernel_rfl) (of_decide_eq_true (by kernel_rfl)) k0 bel lt0) trodAll_mk0), rfl, bel.frame _, fun h => by cases h⟩
theorem laid_met (os : Os) : laidMet Tryd.prog Rows.teimsgBackRow.laid ((Go.Proofs.YtmgiolpooamkkaaDoorX.laidWorldB os).forCall (fun _ _ => 0) ⟨#[], #[.agg #[.int .i64 0, .int .i64 0, .int .i64 0]], []⟩).memory :=
  laidMet_of_run' 8 (by kernel_rfl) (by kernel_rfl)
theorem reads (os : Os) {H : Type} (enc : TypeId × Value → H) : ∃ places, DataW.whole enc Tryd.prog ((Go.Proofs.YtmgiolpooamkkaaDoorX.laidWorldB os).forCall (fun _ _ => 0) ⟨#[], #[.agg #[.int .i64 0, .int .i64 0, .int .i64 0]], []⟩).memory Tryd.f6.params.toList Rows.teimsgBackSpec.vars false ((#[.agg #[.int .i64 0, .int .i64 0, .int .i64 0]] : Array Value)).toList 8 = some ([.agg [.lit (.int .i64 0), .lit (.int .i64 0), .lit (.int .i64 0)]], [], places) :=
  ⟨[], by kernel_rfl⟩
set_option maxRecDepth 100000 in
theorem lifted (os : Os) (started : os.Started) (H : Type) (enc : TypeId × Value → H) (F : Stop.Interp) :
    ReturnsInHanded {} Tryd.checked os 6 .any ((OpenSpec.ofChange Rows.teimsgBackSpec).preRow enc Tryd.prog Tryd.f6 Rows.teimsgBackRow.domain false Rows.teimsgBackRow.laid) (((OpenSpec.ofChange Rows.teimsgBackSpec).at F).post enc Tryd.prog Tryd.f6 false true false false) := by
  obtain ⟨places, hx⟩ := reads os enc
  refine returnsInHanded_of_row (C := Tryd.checked) (s := OpenSpec.ofChange Rows.teimsgBackSpec) own started (by kernel_rfl) Tryd.func6
    (witness_row_at (enc := enc) (C := Tryd.checked) false (Go.Proofs.YtmgiolpooamkkaaDoorX.laidWorldB os) #[.agg #[.int .i64 0, .int .i64 0, .int .i64 0]] rfl (by kernel_rfl) (by kernel_rfl) (by kernel_rfl)
      (OpenSpec.preRow_of_cond 8 hx (by kernel_rfl) (fun k hk => by cases hk) (by kernel_rfl) (laid_met os))) ?_
  intro W base args ds gs before hval hW _ _ hsz hL hSh _
  exact contract H enc W base args ds gs before hval hW hsz hL
theorem said : Rows.TeimsgBackSaid :=
  OpenClaim.holds_of_cond 6 Tryd.f6 rfl rfl rfl rfl rfl rfl rfl ⟨rfl, rfl, rfl, rfl, rfl⟩ rfl rfl rfl rfl rfl (by kernel_rfl) Tryd.func6 (by kernel_rfl)
    (of_decide_eq_true (by kernel_rfl)) (by unfold Func.isWrapper; first | (rw [if_pos (by decide +kernel)]; kernel_rfl) | (rw [if_neg (by decide +kernel)]; exact ⟨rfl, rfl⟩))
    (fun os started H enc _ F => by rw [OpenClaim.pre_eq_preRow]; exact lifted os started H enc F)
theorem stands : (Tryd.f6.params.toList.all fun t => !Tryd.prog.wantsStandIn t) = true := by kernel_rfl
theorem plain (f : FuncId) (fn : Func) (hf : Tryd.pinned.checked.prog.funcNamed Rows.teimsgBackRow.func = some f) (hfn : Tryd.pinned.checked.prog.funcs[f]? = some fn) :
    false = Tryd.pinned.checked.prog.looks [] ∧ ∀ (j : Nat) t, fn.params[j]? = some t → Tryd.pinned.checked.prog.wantsStandIn t = false := by
  obtain rfl : f = 6 := Option.some.inj ((show Tryd.prog.funcNamed Rows.teimsgBackRow.func = some 6 by kernel_rfl).symm.trans hf) |>.symm
  obtain rfl : fn = Tryd.f6 := (Option.some.inj (Tryd.func6.symm.trans hfn)).symm
  refine ⟨by kernel_rfl, fun j t ht => ?_⟩
  have hm : t ∈ Tryd.f6.params.toList := Array.mem_toList_iff.2 (Array.mem_of_getElem? ht)
  have h1 := List.all_eq_true.1 stands t hm
  have h2 : (!Tryd.prog.wantsStandIn t) = true := h1
  have h3 : Tryd.prog.wantsStandIn t = false := by simpa using h2
  exact h3
theorem card : Rows.TeimsgBackCardSaid :=
  Claim7.holds_tied_plain_at .later [] _ _ _ _ said (fun _ h => by cases h) (by kernel_rfl) (fun _ h => by cases h) teimsgBack_row_tie rfl ⟨rfl, rfl⟩ (by kernel_rfl) rfl plain (by kernel_rfl)
end Go.Proofs.YtmgiolpooamkkaaDoor.teimsgBack
namespace Go.Proofs.YtmgiolpooamkkaaDoor
/-- The card, under a short name, for the claim. -/
theorem teimsgBack_holds : Rows.TeimsgBackCardSaid := teimsgBack.card
end Go.Proofs.YtmgiolpooamkkaaDoor
