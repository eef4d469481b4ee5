-- Written by a program of this session's, over the kit's printer turned by wip/tools/mkprint.py. Lean checks it.
import Derived.Test.YtdpgdnbknmncfaaDoorRows
import Derived.Test.YtdpgdnbknmncfaaDoorPrint22
import Derived.Test.YtdpgdnbknmncfaaDoorPureFrameSides
import Derived.Test.YtdpgdnbknmncfaaDoorCards
import Derived.Test.YtdpgdnbknmncfaaDoorTie
import Derived.Test.YtdpgdnbknmncfaaDoorLaidOf
import Derived.Deep.DeepHandedRow
import Derived.Lib.LaidTab
import Derived.WalkKit
import Derived.ProofKit
import Derived.OpenShut
import Derived.ShutString
import Derived.ChangeOld
import Derived.Below
import Derived.SizedLaws
import Derived.Lib.SmallJoins
import Derived.ChangeArms
import Derived.Test.YtdpgdnbknmncfaaDoorExtra
import Derived.Test.YtdpgdnbknmncfaaDoorWSized
namespace Go.Proofs.YtdpgdnbknmncfaaDoor.frameSides
open Go.ChangeShapes Go.WideShapes Go.ChangeAt Go.RowKit
open Go.ChangeMaps (open_string shut_string)
set_option linter.unusedVariables false
theorem own : ownKnob Tryd.prog.godebug = none := by kernel_rfl
theorem laidOut : laidOutB Tryd.prog = true := by kernel_rfl
def IsRow (k : IntKind) (w : World) (a : Option Addr) (len cap : Nat) (zs : List Int) : Prop :=
  (a = none ∧ len = 0 ∧ cap = 0 ∧ zs = []) ∨
  ∃ x, a = some x ∧ len ≤ cap ∧ cap ≤ maxLen ∧ zs.length = cap ∧ (∀ i, i < zs.length → w.cell? (x.add i) = some (.int k (zs.getD i 0))) ∧ ∀ n ∈ zs, (Lit.int k n).wf = true
set_option maxRecDepth 100000 in
theorem contract (H : Type) (enc : TypeId × Value → H) (W : World) (base : Nat) (args : Array Value) (ds gs : List (DataW H)) (before : List MemPlace)
    (hval0 : ∀ (j : Nat) t v, Tryd.f7.params[j]? = some t → args[j]? = some v → Value.okWide Tryd.prog W .any base t v)
    (hW : DataW.Whole enc Tryd.prog Tryd.f7.params.toList Rows.frameSidesSpec.vars false W args.toList ds gs before)
    (hsz0 : (DataW.weightsEach Tryd.prog (Tryd.f7.params.toList ++ Rows.frameSidesSpec.plain.varTypes Tryd.prog) (ds ++ gs)).all (· ≤ reachBytes) = true)
    (hL : laidMet Tryd.prog Rows.frameSidesRow.laid W) :
    Calls Tryd.prog 7 args W fun e W' => ∃ v, e = .returned v ∧ Rows.frameSidesSpec.post enc Tryd.prog Tryd.f7 false true false false W args v W' := by
  have hsz : (DataW.weightsEach Tryd.prog (Tryd.f7.params.toList ++ Rows.frameSidesSpec.plain.varTypes Tryd.prog) (ds ++ gs)).all (· ≤ reachBytes) = true := hsz0
  have hval : ∀ (j : Nat) t v, Tryd.f7.params[j]? = some t → args[j]? = some v → Value.okWide Tryd.prog W .any base t v := hval0
  have hW' := hW
  obtain ⟨p, q, hA0, hV, rfl, hfz, hnd⟩ := hW
  have hA : DataW.TrodAll enc Tryd.prog W 0 (fun _ => true) true Tryd.f7.params.toList args.toList ds p := hA0
  rw [Tryd.params7] at hA hval hsz
  obtain ⟨v0, vs0, d0, ds0, p0, q0, hargs, rfl, rfl, h0, r0⟩ := trodAll_cons hA
  obtain ⟨v1, vs1, d1, ds1, p1, q1, rfl, rfl, rfl, h1, r1⟩ := trodAll_cons r0
  obtain ⟨rfl, rfl, rfl⟩ := trodAll_nil r1
  obtain rfl : args = #[v0, v1] := by cases args; simp_all
  obtain ⟨rfl, rfl⟩ := trodVars_none hV
  have k0 := h0
  have lt0 : ∀ x ∈ p0, x.block < W.heap.size := by obtain ⟨m, hm⟩ := k0; exact DataW.trod_lt m _ _ _ hm
  obtain ⟨cs0, rfl, hcs0⟩ := okWide_struct Tryd.underlying29 (hval 0 29 v0 rfl rfl)
  obtain ⟨fu0, hf0⟩ := h0
  obtain ⟨xs0, n0, _, hx0, _, hlen0, hfs0⟩ := DataW.trod_struct Tryd.underlying29 hf0
  obtain ⟨c0_0, c0_1, c0_2, c0_3, c0_4, c0_5, c0_6, c0_7, rfl⟩ := Go.Proofs.YtdpgdnbknmncfaaDoorX.array_8 (hcs0.trans (by kernel_rfl : Tryd.prog.cellsOf 29 = 8))
  obtain ⟨e0_0, e0_1, e0_2, e0_3, e0_4, e0_5, e0_6, e0_7, rfl⟩ := Go.Proofs.YtdpgdnbknmncfaaDoorX.list_8 (show xs0.length = 8 from hlen0)
  simp only [Prod.mk.injEq] at hx0
  obtain ⟨rfl, rfl⟩ := hx0
  have cl0_0 : Tryd.prog.cellsOf 3 = 1 := by kernel_rfl
  have g0_0 : DataW.trod enc Tryd.prog W 0 (fun _ => true) true n0 3 [c0_0] = some e0_0 := by simpa [Value.cells, cl0_0] using hfs0 0 _ rfl
  obtain ⟨a0_0, q_, r_, w0_0⟩ := DataW.trod_int Tryd.underlying3 g0_0
  simp only [List.cons.injEq, and_true] at q_
  subst q_; subst r_
  have cl0_1 : Tryd.prog.cellsOf 3 = 1 := by kernel_rfl
  have g0_1 : DataW.trod enc Tryd.prog W 0 (fun _ => true) true n0 3 [c0_1] = some e0_1 := by simpa [Value.cells, cl0_1] using hfs0 1 _ rfl
  obtain ⟨a0_1, q_, r_, w0_1⟩ := DataW.trod_int Tryd.underlying3 g0_1
  simp only [List.cons.injEq, and_true] at q_
  subst q_; subst r_
  have cl0_2 : Tryd.prog.cellsOf 4 = 1 := by kernel_rfl
  have g0_2 : DataW.trod enc Tryd.prog W 0 (fun _ => true) true n0 4 [c0_2] = some e0_2 := by simpa [Value.cells, cl0_2] using hfs0 2 _ rfl
  obtain ⟨a0_2, q_, r_⟩ := DataW.trod_bool Tryd.underlying4 g0_2
  simp only [List.cons.injEq, and_true] at q_
  subst q_; subst r_
  have cl0_3 : Tryd.prog.cellsOf 3 = 1 := by kernel_rfl
  have g0_3 : DataW.trod enc Tryd.prog W 0 (fun _ => true) true n0 3 [c0_3] = some e0_3 := by simpa [Value.cells, cl0_3] using hfs0 3 _ rfl
  obtain ⟨a0_3, q_, r_, w0_3⟩ := DataW.trod_int Tryd.underlying3 g0_3
  simp only [List.cons.injEq, and_true] at q_
  subst q_; subst r_
  have cl0_4 : Tryd.prog.cellsOf 4 = 1 := by kernel_rfl
  have g0_4 : DataW.trod enc Tryd.prog W 0 (fun _ => true) true n0 4 [c0_4] = some e0_4 := by simpa [Value.cells, cl0_4] using hfs0 4 _ rfl
  obtain ⟨a0_4, q_, r_⟩ := DataW.trod_bool Tryd.underlying4 g0_4
  simp only [List.cons.injEq, and_true] at q_
  subst q_; subst r_
  have cl0_5 : Tryd.prog.cellsOf 3 = 1 := by kernel_rfl
  have g0_5 : DataW.trod enc Tryd.prog W 0 (fun _ => true) true n0 3 [c0_5] = some e0_5 := by simpa [Value.cells, cl0_5] using hfs0 5 _ rfl
  obtain ⟨a0_5, q_, r_, w0_5⟩ := DataW.trod_int Tryd.underlying3 g0_5
  simp only [List.cons.injEq, and_true] at q_
  subst q_; subst r_
  have cl0_6 : Tryd.prog.cellsOf 3 = 1 := by kernel_rfl
  have g0_6 : DataW.trod enc Tryd.prog W 0 (fun _ => true) true n0 3 [c0_6] = some e0_6 := by simpa [Value.cells, cl0_6] using hfs0 6 _ rfl
  obtain ⟨a0_6, q_, r_, w0_6⟩ := DataW.trod_int Tryd.underlying3 g0_6
  simp only [List.cons.injEq, and_true] at q_
  subst q_; subst r_
  have cl0_7 : Tryd.prog.cellsOf 9 = 1 := by kernel_rfl
  have g0_7 : DataW.trod enc Tryd.prog W 0 (fun _ => true) true n0 9 [c0_7] = some e0_7 := by simpa [Value.cells, cl0_7] using hfs0 7 _ rfl
  obtain ⟨a0_7, q_, r_, y0_7⟩ := DataW.trod_string Tryd.underlying9 g0_7
  simp only [List.cons.injEq, and_true] at q_
  subst q_; subst r_
  have w0_7 : a0_7.size ≤ 140737488351232 := by
    have z := sized_string (Go.Proofs.YtdpgdnbknmncfaaDoorX.sized_struct hsz (j := 0) (t := 29) rfl rfl Tryd.underlying29) (j := 7) (t := 9) rfl rfl
    rw [Array.length_toList] at z
    exact z
  obtain ⟨a1, rfl, rfl, rfl⟩ := open_bool Tryd.underlying4 (hval 1 4 v1 rfl rfl) h1
  clear hA0 hval0 hsz0 hsz
  refine (Print.lapwinglaw06_FrameSides.walk Pure.FrameSides a0_0 a0_1 a0_2 a0_3 a0_4 a0_5 a0_6 a0_7 a1 W (Go.Proofs.YtdpgdnbknmncfaaDoorX.laid_of hL) w0_0 w0_1 w0_3 w0_5 w0_6 w0_7).mono fun e W' ⟨he, bel⟩ => ?_
  subst he
  exact ⟨_, rfl, _, _, _, [], _, [], hW', trodAll_mk1 (shut_bool Tryd.underlying4 _), (trodAll_cons_mk (Below.trod laidOut (by kernel_rfl) (of_decide_eq_true (by kernel_rfl)) k0 bel lt0) (trodAll_cons_mk (shut_bool Tryd.underlying4 _) trodAll_mk0)), rfl, bel.frame _, fun h => by cases h⟩
theorem laid_met (os : Os) : laidMet Tryd.prog Rows.frameSidesRow.laid ((Go.Proofs.YtdpgdnbknmncfaaDoorX.laidWorld os).forCall (fun _ _ => 0) ⟨#[], #[.agg #[.int .i64 0, .int .i64 0, .bool false, .int .i64 0, .bool false, .int .i64 0, .int .i64 0, .string ByteArray.empty], .bool false], []⟩).memory :=
  laidMet_of_run' 8 (by kernel_rfl) (by kernel_rfl)
theorem reads (os : Os) {H : Type} (enc : TypeId × Value → H) : ∃ places, DataW.whole enc Tryd.prog ((Go.Proofs.YtdpgdnbknmncfaaDoorX.laidWorld os).forCall (fun _ _ => 0) ⟨#[], #[.agg #[.int .i64 0, .int .i64 0, .bool false, .int .i64 0, .bool false, .int .i64 0, .int .i64 0, .string ByteArray.empty], .bool false], []⟩).memory Tryd.f7.params.toList Rows.frameSidesSpec.vars false ((#[.agg #[.int .i64 0, .int .i64 0, .bool false, .int .i64 0, .bool false, .int .i64 0, .int .i64 0, .string ByteArray.empty], .bool false] : Array Value)).toList 8 = some ([.agg [.lit (.int .i64 0), .lit (.int .i64 0), .lit (.bool false), .lit (.int .i64 0), .lit (.bool false), .lit (.int .i64 0), .lit (.int .i64 0), .lit (.string [])], .lit (.bool false)], [], places) :=
  ⟨[], by kernel_rfl⟩
set_option maxRecDepth 100000 in
theorem lifted (os : Os) (started : os.Started) (H : Type) (enc : TypeId × Value → H) (F : Stop.Interp) :
    ReturnsInHanded {} Tryd.checked os 7 .any ((OpenSpec.ofChange Rows.frameSidesSpec).preRow enc Tryd.prog Tryd.f7 Rows.frameSidesRow.domain false Rows.frameSidesRow.laid) (((OpenSpec.ofChange Rows.frameSidesSpec).at F).post enc Tryd.prog Tryd.f7 false true false false) := by
  obtain ⟨places, hx⟩ := reads os enc
  refine returnsInHanded_of_row (C := Tryd.checked) (s := OpenSpec.ofChange Rows.frameSidesSpec) own started (by kernel_rfl) Tryd.func7
    (witness_row_at (enc := enc) (C := Tryd.checked) false (Go.Proofs.YtdpgdnbknmncfaaDoorX.laidWorld os) #[.agg #[.int .i64 0, .int .i64 0, .bool false, .int .i64 0, .bool false, .int .i64 0, .int .i64 0, .string ByteArray.empty], .bool false] rfl (by kernel_rfl) (by kernel_rfl) (by kernel_rfl)
      (OpenSpec.preRow_of_cond 8 hx (by kernel_rfl) (fun k hk => by cases hk) (by kernel_rfl) (laid_met os))) ?_
  intro W base args ds gs before hval hW _ _ hsz hL _ _
  exact contract H enc W base args ds gs before hval hW hsz hL
theorem said : Rows.FrameSidesSaid :=
  OpenClaim.holds_of_cond 7 Tryd.f7 rfl rfl rfl rfl rfl rfl rfl ⟨rfl, rfl, rfl, rfl, rfl⟩ rfl rfl rfl rfl rfl (by kernel_rfl) Tryd.func7 (by kernel_rfl)
    (of_decide_eq_true (by kernel_rfl)) (by unfold Func.isWrapper; first | (rw [if_pos (by decide +kernel)]; kernel_rfl) | (rw [if_neg (by decide +kernel)]; exact ⟨rfl, rfl⟩))
    (fun os started H enc _ F => by rw [OpenClaim.pre_eq_preRow]; exact lifted os started H enc F)
theorem stands : (Tryd.f7.params.toList.all fun t => !Tryd.prog.wantsStandIn t) = true := by kernel_rfl
theorem plain (f : FuncId) (fn : Func) (hf : Tryd.pinned.checked.prog.funcNamed Rows.frameSidesRow.func = some f) (hfn : Tryd.pinned.checked.prog.funcs[f]? = some fn) :
    false = Tryd.pinned.checked.prog.looks [] ∧ ∀ (j : Nat) t, fn.params[j]? = some t → Tryd.pinned.checked.prog.wantsStandIn t = false := by
  obtain rfl : f = 7 := Option.some.inj ((show Tryd.prog.funcNamed Rows.frameSidesRow.func = some 7 by kernel_rfl).symm.trans hf) |>.symm
  obtain rfl : fn = Tryd.f7 := (Option.some.inj (Tryd.func7.symm.trans hfn)).symm
  refine ⟨by kernel_rfl, fun j t ht => ?_⟩
  have hm : t ∈ Tryd.f7.params.toList := Array.mem_toList_iff.2 (Array.mem_of_getElem? ht)
  have h1 := List.all_eq_true.1 stands t hm
  have h2 : (!Tryd.prog.wantsStandIn t) = true := h1
  have h3 : Tryd.prog.wantsStandIn t = false := by simpa using h2
  exact h3
theorem card : Rows.FrameSidesCardSaid :=
  Claim7.holds_tied_plain_at .later [] _ _ _ _ said (fun _ h => by cases h) (by kernel_rfl) (fun _ h => by cases h) frameSides_row_tie rfl ⟨rfl, rfl⟩ (by kernel_rfl) rfl plain (by kernel_rfl)
end Go.Proofs.YtdpgdnbknmncfaaDoor.frameSides
namespace Go.Proofs.YtdpgdnbknmncfaaDoor
/-- The card, under a short name, for the claim. -/
theorem frameSides_holds : Rows.FrameSidesCardSaid := frameSides.card
end Go.Proofs.YtdpgdnbknmncfaaDoor
