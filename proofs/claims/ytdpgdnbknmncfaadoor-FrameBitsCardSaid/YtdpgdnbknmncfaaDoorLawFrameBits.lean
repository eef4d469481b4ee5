/- The row FrameBits: its arguments opened, the walk, the answer. No condition. -/
import Derived.Test.YtdpgdnbknmncfaaDoorRows
import Derived.Test.YtdpgdnbknmncfaaDoorWalkFrameBits
import Derived.Test.YtdpgdnbknmncfaaDoorExtra
import Derived.Test.YtdpgdnbknmncfaaDoorWSized
import Derived.Test.YtdpgdnbknmncfaaDoorCards
import Derived.Test.YtdpgdnbknmncfaaDoorTie
import Derived.Test.YtdpgdnbknmncfaaDoorLaidBits
import Derived.Deep.DeepHandedRow
import Derived.Lib.LaidTab
import Derived.WalkKit
import Derived.ProofKit
import Derived.OpenShut
import Derived.ShutString
import Derived.ChangeOld
import Derived.Below
import Derived.SizedLaws
import Derived.Lib.SmallJoins
import Derived.ChangeArms
namespace Go.Proofs.YtdpgdnbknmncfaaDoor.frameBits
open Go.ChangeShapes Go.WideShapes Go.ChangeAt Go.RowKit
open Go.ChangeMaps (open_string shut_string)
set_option linter.unusedVariables false
theorem own : ownKnob Tryd.prog.godebug = none := by kernel_rfl
theorem laidOut : laidOutB Tryd.prog = true := by kernel_rfl
def IsRow (k : IntKind) (w : World) (a : Option Addr) (len cap : Nat) (zs : List Int) : Prop :=
  (a = none ∧ len = 0 ∧ cap = 0 ∧ zs = []) ∨
  ∃ x, a = some x ∧ len ≤ cap ∧ cap ≤ maxLen ∧ zs.length = cap ∧ (∀ i, i < zs.length → w.cell? (x.add i) = some (.int k (zs.getD i 0))) ∧ ∀ n ∈ zs, (Lit.int k n).wf = true
set_option maxRecDepth 100000 in
theorem contract (H : Type) (enc : TypeId × Value → H) (W : World) (base : Nat) (args : Array Value) (ds gs : List (DataW H)) (before : List MemPlace)
    (hval0 : ∀ (j : Nat) t v, Tryd.f10.params[j]? = some t → args[j]? = some v → Value.okWide Tryd.prog W .any base t v)
    (hW : DataW.Whole enc Tryd.prog Tryd.f10.params.toList Rows.frameBitsSpec.vars false W args.toList ds gs before)
    (hsz0 : (DataW.weightsEach Tryd.prog (Tryd.f10.params.toList ++ Rows.frameBitsSpec.plain.varTypes Tryd.prog) (ds ++ gs)).all (· ≤ reachBytes) = true)
    (hL : laidMet Tryd.prog Rows.frameBitsRow.laid W) :
    Calls Tryd.prog 10 args W fun e W' => ∃ v, e = .returned v ∧ Rows.frameBitsSpec.post enc Tryd.prog Tryd.f10 false true false false W args v W' := by
  have hsz : (DataW.weightsEach Tryd.prog (Tryd.f10.params.toList ++ Rows.frameBitsSpec.plain.varTypes Tryd.prog) (ds ++ gs)).all (· ≤ reachBytes) = true := hsz0
  have hval : ∀ (j : Nat) t v, Tryd.f10.params[j]? = some t → args[j]? = some v → Value.okWide Tryd.prog W .any base t v := hval0
  have hW' := hW
  obtain ⟨p, q, hA0, hV, rfl, hfz, hnd⟩ := hW
  have hA : DataW.TrodAll enc Tryd.prog W 0 (fun _ => true) true Tryd.f10.params.toList args.toList ds p := hA0
  rw [Tryd.params10] at hA hval hsz
  obtain ⟨v0, vs0, d0, ds0, p0, q0, hargs, rfl, rfl, h0, r0⟩ := trodAll_cons hA
  obtain ⟨v1, vs1, d1, ds1, p1, q1, rfl, rfl, rfl, h1, r1⟩ := trodAll_cons r0
  obtain ⟨v2, vs2, d2, ds2, p2, q2, rfl, rfl, rfl, h2, r2⟩ := trodAll_cons r1
  obtain ⟨rfl, rfl, rfl⟩ := trodAll_nil r2
  obtain rfl : args = #[v0, v1, v2] := by cases args; simp_all
  obtain ⟨rfl, rfl⟩ := trodVars_none hV
  have k0 := h0
  have lt0 : ∀ x ∈ p0, x.block < W.heap.size := by obtain ⟨m, hm⟩ := k0; exact DataW.trod_lt m _ _ _ hm
  obtain ⟨cs0, rfl, hcs0⟩ := okWide_struct Tryd.underlying29 (hval 0 29 v0 rfl rfl)
  obtain ⟨fu0, hf0⟩ := h0
  obtain ⟨xs0, n0, _, hx0, _, hlen0, hfs0⟩ := DataW.trod_struct Tryd.underlying29 hf0
  obtain ⟨c0_0, c0_1, c0_2, c0_3, c0_4, c0_5, c0_6, c0_7, rfl⟩ := Go.Proofs.YtdpgdnbknmncfaaDoorX.array_8 (hcs0.trans (by kernel_rfl : Tryd.prog.cellsOf 29 = 8))
  obtain ⟨e0_0, e0_1, e0_2, e0_3, e0_4, e0_5, e0_6, e0_7, rfl⟩ := Go.Proofs.YtdpgdnbknmncfaaDoorX.list_8 (show xs0.length = 8 from hlen0)
  simp only [Prod.mk.injEq] at hx0
  obtain ⟨rfl, rfl⟩ := hx0
  have cl0_0 : Tryd.prog.cellsOf 3 = 1 := by kernel_rfl
  have g0_0 : DataW.trod enc Tryd.prog W 0 (fun _ => true) true n0 3 [c0_0] = some e0_0 := by simpa [Value.cells, cl0_0] using hfs0 0 _ rfl
  obtain ⟨a0_0, q_, r_, w0_0⟩ := DataW.trod_int Tryd.underlying3 g0_0
  simp only [List.cons.injEq, and_true] at q_
  subst q_; subst r_
  have cl0_1 : Tryd.prog.cellsOf 3 = 1 := by kernel_rfl
  have g0_1 : DataW.trod enc Tryd.prog W 0 (fun _ => true) true n0 3 [c0_1] = some e0_1 := by simpa [Value.cells, cl0_1] using hfs0 1 _ rfl
  obtain ⟨a0_1, q_, r_, w0_1⟩ := DataW.trod_int Tryd.underlying3 g0_1
  simp only [List.cons.injEq, and_true] at q_
  subst q_; subst r_
  have cl0_2 : Tryd.prog.cellsOf 4 = 1 := by kernel_rfl
  have g0_2 : DataW.trod enc Tryd.prog W 0 (fun _ => true) true n0 4 [c0_2] = some e0_2 := by simpa [Value.cells, cl0_2] using hfs0 2 _ rfl
  obtain ⟨a0_2, q_, r_⟩ := DataW.trod_bool Tryd.underlying4 g0_2
  simp only [List.cons.injEq, and_true] at q_
  subst q_; subst r_
  have cl0_3 : Tryd.prog.cellsOf 3 = 1 := by kernel_rfl
  have g0_3 : DataW.trod enc Tryd.prog W 0 (fun _ => true) true n0 3 [c0_3] = some e0_3 := by simpa [Value.cells, cl0_3] using hfs0 3 _ rfl
  obtain ⟨a0_3, q_, r_, w0_3⟩ := DataW.trod_int Tryd.underlying3 g0_3
  simp only [List.cons.injEq, and_true] at q_
  subst q_; subst r_
  have cl0_4 : Tryd.prog.cellsOf 4 = 1 := by kernel_rfl
  have g0_4 : DataW.trod enc Tryd.prog W 0 (fun _ => true) true n0 4 [c0_4] = some e0_4 := by simpa [Value.cells, cl0_4] using hfs0 4 _ rfl
  obtain ⟨a0_4, q_, r_⟩ := DataW.trod_bool Tryd.underlying4 g0_4
  simp only [List.cons.injEq, and_true] at q_
  subst q_; subst r_
  have cl0_5 : Tryd.prog.cellsOf 3 = 1 := by kernel_rfl
  have g0_5 : DataW.trod enc Tryd.prog W 0 (fun _ => true) true n0 3 [c0_5] = some e0_5 := by simpa [Value.cells, cl0_5] using hfs0 5 _ rfl
  obtain ⟨a0_5, q_, r_, w0_5⟩ := DataW.trod_int Tryd.underlying3 g0_5
  simp only [List.cons.injEq, and_true] at q_
  subst q_; subst r_
  have cl0_6 : Tryd.prog.cellsOf 3 = 1 := by kernel_rfl
  have g0_6 : DataW.trod enc Tryd.prog W 0 (fun _ => true) true n0 3 [c0_6] = some e0_6 := by simpa [Value.cells, cl0_6] using hfs0 6 _ rfl
  obtain ⟨a0_6, q_, r_, w0_6⟩ := DataW.trod_int Tryd.underlying3 g0_6
  simp only [List.cons.injEq, and_true] at q_
  subst q_; subst r_
  have cl0_7 : Tryd.prog.cellsOf 9 = 1 := by kernel_rfl
  have g0_7 : DataW.trod enc Tryd.prog W 0 (fun _ => true) true n0 9 [c0_7] = some e0_7 := by simpa [Value.cells, cl0_7] using hfs0 7 _ rfl
  obtain ⟨a0_7, q_, r_, y0_7⟩ := DataW.trod_string Tryd.underlying9 g0_7
  simp only [List.cons.injEq, and_true] at q_
  subst q_; subst r_
  have w0_7 : a0_7.size ≤ 140737488351232 := by
    have z := sized_string (Go.Proofs.YtdpgdnbknmncfaaDoorX.sized_struct hsz (j := 0) (t := 29) rfl rfl Tryd.underlying29) (j := 7) (t := 9) rfl rfl
    rw [Array.length_toList] at z
    exact z
  obtain ⟨a1, rfl, rfl, rfl⟩ := open_bool Tryd.underlying4 (hval 1 4 v1 rfl rfl) h1
  have k2 := h2
  have lt2 : ∀ x ∈ p2, x.block < W.heap.size := by obtain ⟨m, hm⟩ := k2; exact DataW.trod_lt m _ _ _ hm
  obtain ⟨cs2, rfl, hcs2⟩ := Go.Proofs.YtdpgdnbknmncfaaDoorX.okWide_array Tryd.underlying54 (hval 2 54 v2 rfl rfl)
  obtain ⟨fu2, hf2⟩ := h2
  obtain ⟨xs2, n2, _, hx2, _, hlen2, hfs2⟩ := DataW.trod_array Tryd.underlying54 hf2
  obtain ⟨c2_0, c2_1, rfl⟩ := Go.Proofs.YtdpgdnbknmncfaaDoorX.array_2 (hcs2.trans (by kernel_rfl : Tryd.prog.cellsOf 54 = 2))
  obtain ⟨e2_0, e2_1, rfl⟩ := Go.Proofs.YtdpgdnbknmncfaaDoorX.list_2 (show xs2.length = 2 from hlen2)
  simp only [Prod.mk.injEq] at hx2
  obtain ⟨rfl, rfl⟩ := hx2
  have cl2_0 : Tryd.prog.cellsOf 3 = 1 := by kernel_rfl
  have g2_0 : DataW.trod enc Tryd.prog W 0 (fun _ => true) true n2 3 [c2_0] = some e2_0 := by simpa [Value.cells, cl2_0] using hfs2 0 (by decide)
  obtain ⟨a2_0, q_, r_, w2_0⟩ := DataW.trod_int Tryd.underlying3 g2_0
  simp only [List.cons.injEq, and_true] at q_
  subst q_; subst r_
  have cl2_1 : Tryd.prog.cellsOf 3 = 1 := by kernel_rfl
  have g2_1 : DataW.trod enc Tryd.prog W 0 (fun _ => true) true n2 3 [c2_1] = some e2_1 := by simpa [Value.cells, cl2_1] using hfs2 1 (by decide)
  obtain ⟨a2_1, q_, r_, w2_1⟩ := DataW.trod_int Tryd.underlying3 g2_1
  simp only [List.cons.injEq, and_true] at q_
  subst q_; subst r_
  clear hA0 hval0 hsz0 hsz
  refine (Wk.FrameBits a0_0 a0_1 a0_2 a0_3 a0_4 a0_5 a0_6 a0_7 a1 a2_0 a2_1 W (Go.Proofs.YtdpgdnbknmncfaaDoorX.laid_ofB hL) w0_0 w0_1 w0_3 w0_5 w0_6 w0_7 w2_0 w2_1).mono fun e W' ⟨he, bel⟩ => ?_
  subst he
  exact ⟨_, rfl, _, _, _, [], _, [], hW', trodAll_mk1 (shut_bool Tryd.underlying4 _), (trodAll_cons_mk (Below.trod laidOut (by kernel_rfl) (of_decide_eq_true (by kernel_rfl)) k0 bel lt0) (trodAll_cons_mk (shut_bool Tryd.underlying4 _) (trodAll_cons_mk (Below.trod laidOut (by kernel_rfl) (of_decide_eq_true (by kernel_rfl)) k2 bel lt2) trodAll_mk0))), rfl, bel.frame _, fun h => by cases h⟩
theorem laid_met (os : Os) : laidMet Tryd.prog Rows.frameBitsRow.laid ((Go.Proofs.YtdpgdnbknmncfaaDoorX.laidWorldB os).forCall (fun _ _ => 0) ⟨#[], #[.agg #[.int .i64 0, .int .i64 0, .bool false, .int .i64 0, .bool false, .int .i64 0, .int .i64 0, .string ByteArray.empty], .bool false, .agg #[.int .i64 0, .int .i64 0]], []⟩).memory :=
  laidMet_of_run' 8 (by kernel_rfl) (by kernel_rfl)
theorem reads (os : Os) {H : Type} (enc : TypeId × Value → H) : ∃ places, DataW.whole enc Tryd.prog ((Go.Proofs.YtdpgdnbknmncfaaDoorX.laidWorldB os).forCall (fun _ _ => 0) ⟨#[], #[.agg #[.int .i64 0, .int .i64 0, .bool false, .int .i64 0, .bool false, .int .i64 0, .int .i64 0, .string ByteArray.empty], .bool false, .agg #[.int .i64 0, .int .i64 0]], []⟩).memory Tryd.f10.params.toList Rows.frameBitsSpec.vars false ((#[.agg #[.int .i64 0, .int .i64 0, .bool false, .int .i64 0, .bool false, .int .i64 0, .int .i64 0, .string ByteArray.empty], .bool false, .agg #[.int .i64 0, .int .i64 0]] : Array Value)).toList 8 = some ([.agg [.lit (.int .i64 0), .lit (.int .i64 0), .lit (.bool false), .lit (.int .i64 0), .lit (.bool false), .lit (.int .i64 0), .lit (.int .i64 0), .lit (.string [])], .lit (.bool false), .agg [.lit (.int .i64 0), .lit (.int .i64 0)]], [], places) :=
  ⟨[], by kernel_rfl⟩
set_option maxRecDepth 100000 in
theorem lifted (os : Os) (started : os.Started) (H : Type) (enc : TypeId × Value → H) (F : Stop.Interp) :
    ReturnsInHanded {} Tryd.checked os 10 .any ((OpenSpec.ofChange Rows.frameBitsSpec).preRow enc Tryd.prog Tryd.f10 Rows.frameBitsRow.domain false Rows.frameBitsRow.laid) (((OpenSpec.ofChange Rows.frameBitsSpec).at F).post enc Tryd.prog Tryd.f10 false true false false) := by
  obtain ⟨places, hx⟩ := reads os enc
  refine returnsInHanded_of_row (C := Tryd.checked) (s := OpenSpec.ofChange Rows.frameBitsSpec) own started (by kernel_rfl) Tryd.func10
    (witness_row_at (enc := enc) (C := Tryd.checked) false (Go.Proofs.YtdpgdnbknmncfaaDoorX.laidWorldB os) #[.agg #[.int .i64 0, .int .i64 0, .bool false, .int .i64 0, .bool false, .int .i64 0, .int .i64 0, .string ByteArray.empty], .bool false, .agg #[.int .i64 0, .int .i64 0]] rfl (by kernel_rfl) (by kernel_rfl) (by kernel_rfl)
      (OpenSpec.preRow_of_cond 8 hx (by kernel_rfl) (fun k hk => by cases hk) (by kernel_rfl) (laid_met os))) ?_
  intro W base args ds gs before hval hW _ _ hsz hL _ _
  exact contract H enc W base args ds gs before hval hW hsz hL
theorem said : Rows.FrameBitsSaid :=
  OpenClaim.holds_of_cond 10 Tryd.f10 rfl rfl rfl rfl rfl rfl rfl ⟨rfl, rfl, rfl, rfl, rfl⟩ rfl rfl rfl rfl rfl (by kernel_rfl) Tryd.func10 (by kernel_rfl)
    (of_decide_eq_true (by kernel_rfl)) (by unfold Func.isWrapper; first | (rw [if_pos (by decide +kernel)]; kernel_rfl) | (rw [if_neg (by decide +kernel)]; exact ⟨rfl, rfl⟩))
    (fun os started H enc _ F => by rw [OpenClaim.pre_eq_preRow]; exact lifted os started H enc F)
theorem stands : (Tryd.f10.params.toList.all fun t => !Tryd.prog.wantsStandIn t) = true := by kernel_rfl
theorem plain (f : FuncId) (fn : Func) (hf : Tryd.pinned.checked.prog.funcNamed Rows.frameBitsRow.func = some f) (hfn : Tryd.pinned.checked.prog.funcs[f]? = some fn) :
    false = Tryd.pinned.checked.prog.looks [] ∧ ∀ (j : Nat) t, fn.params[j]? = some t → Tryd.pinned.checked.prog.wantsStandIn t = false := by
  obtain rfl : f = 10 := Option.some.inj ((show Tryd.prog.funcNamed Rows.frameBitsRow.func = some 10 by kernel_rfl).symm.trans hf) |>.symm
  obtain rfl : fn = Tryd.f10 := (Option.some.inj (Tryd.func10.symm.trans hfn)).symm
  refine ⟨by kernel_rfl, fun j t ht => ?_⟩
  have hm : t ∈ Tryd.f10.params.toList := Array.mem_toList_iff.2 (Array.mem_of_getElem? ht)
  have h1 := List.all_eq_true.1 stands t hm
  have h2 : (!Tryd.prog.wantsStandIn t) = true := h1
  have h3 : Tryd.prog.wantsStandIn t = false := by simpa using h2
  exact h3
theorem card : Rows.FrameBitsCardSaid :=
  Claim7.holds_tied_plain_at .later [] _ _ _ _ said (fun _ h => by cases h) (by kernel_rfl) (fun _ h => by cases h) frameBits_row_tie rfl ⟨rfl, rfl⟩ (by kernel_rfl) rfl plain (by kernel_rfl)
end Go.Proofs.YtdpgdnbknmncfaaDoor.frameBits
namespace Go.Proofs.YtdpgdnbknmncfaaDoor
/-- The card, under a short name, for the claim. -/
theorem frameBits_holds : Rows.FrameBitsCardSaid := frameBits.card
end Go.Proofs.YtdpgdnbknmncfaaDoor
