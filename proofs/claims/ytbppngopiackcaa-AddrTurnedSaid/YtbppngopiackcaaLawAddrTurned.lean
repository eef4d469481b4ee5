-- Written by a program of this session's, over the kit's printer turned by wip/tools/mkprint.py. Lean checks it.
import Derived.Test.YtbppngopiackcaaRows
import Derived.Test.YtbppngopiackcaaTurn5
import Derived.Test.YtbppngopiackcaaPureAddrTurned
import Derived.WalkKit
import Derived.ProofKit
import Derived.OpenShut
import Derived.ShutString
import Derived.ChangeOld
import Derived.Below
import Derived.SizedLaws
import Derived.Lib.SmallJoins
import Derived.ChangeArms
import Derived.Test.YtbppngopiackcaaExtra
import Derived.Test.YtbppngopiackcaaWSized
namespace Go.Proofs.Ytbppngopiackcaa.addrTurned
open Go.ChangeShapes Go.WideShapes Go.ChangeAt Go.RowKit
open Go.ChangeMaps (open_string shut_string)
set_option linter.unusedVariables false
theorem own : ownKnob Try.prog.godebug = none := by kernel_rfl
theorem laidOut : laidOutB Try.prog = true := by kernel_rfl
def IsRow (k : IntKind) (w : World) (a : Option Addr) (len cap : Nat) (zs : List Int) : Prop :=
  (a = none ∧ len = 0 ∧ cap = 0 ∧ zs = []) ∨
  ∃ x, a = some x ∧ len ≤ cap ∧ cap ≤ maxLen ∧ zs.length = cap ∧ (∀ i, i < zs.length → w.cell? (x.add i) = some (.int k (zs.getD i 0))) ∧ ∀ n ∈ zs, (Lit.int k n).wf = true
set_option maxRecDepth 100000 in
theorem lifted (os : Os) (started : os.Started) (H : Type) (enc : TypeId × Value → H) :
    ReturnsInHanded {} Try.checked os 8 .any (Rows.addrTurnedSpec.pre6 enc Try.prog Try.f8 Rows.addrTurnedRow.domain false) (Rows.addrTurnedSpec.post enc Try.prog Try.f8 false true false false) := by
  refine returnsInHanded_of_change_sized (C := Try.checked) own started (by kernel_rfl) Try.func8
    (ChangeSpec.witness6 (enc := enc) (C := Try.checked) false ⟨#[], #[.agg #[.int .i64 0, .int .i64 0, .bool false], .bool false, .bool false], []⟩ 8 (by kernel_rfl) (by kernel_rfl) (by kernel_rfl) (by kernel_rfl)) ?_
  intro W base args ds gs before hval0 hW hcnd hsz0 _
  have hsz : (DataW.weightsEach Try.prog (Try.f8.params.toList ++ Rows.addrTurnedSpec.plain.varTypes Try.prog) (ds ++ gs)).all (· ≤ reachBytes) = true := hsz0
  have hval : ∀ (j : Nat) t v, Try.f8.params[j]? = some t → args[j]? = some v → Value.okWide Try.prog W .any base t v := hval0
  have hW' := hW
  obtain ⟨p, q, hA0, hV, rfl, hfz, hnd⟩ := hW
  have hA : DataW.TrodAll enc Try.prog W 0 (fun _ => true) true Try.f8.params.toList args.toList ds p := hA0
  rw [Try.params8] at hA hval hsz
  obtain ⟨v0, vs0, d0, ds0, p0, q0, hargs, rfl, rfl, h0, r0⟩ := trodAll_cons hA
  obtain ⟨v1, vs1, d1, ds1, p1, q1, rfl, rfl, rfl, h1, r1⟩ := trodAll_cons r0
  obtain ⟨v2, vs2, d2, ds2, p2, q2, rfl, rfl, rfl, h2, r2⟩ := trodAll_cons r1
  obtain ⟨rfl, rfl, rfl⟩ := trodAll_nil r2
  obtain rfl : args = #[v0, v1, v2] := by cases args; simp_all
  obtain ⟨rfl, rfl⟩ := trodVars_none hV
  have k0 := h0
  have lt0 : ∀ x ∈ p0, x.block < W.heap.size := by obtain ⟨m, hm⟩ := k0; exact DataW.trod_lt m _ _ _ hm
  obtain ⟨cs0, rfl, hcs0⟩ := okWide_struct Try.underlying40 (hval 0 40 v0 rfl rfl)
  obtain ⟨fu0, hf0⟩ := h0
  obtain ⟨xs0, n0, _, hx0, _, hlen0, hfs0⟩ := DataW.trod_struct Try.underlying40 hf0
  obtain ⟨c0_0, c0_1, c0_2, rfl⟩ := Go.Proofs.YtbppngopiackcaaX.array_3 (hcs0.trans (by kernel_rfl : Try.prog.cellsOf 40 = 3))
  obtain ⟨e0_0, e0_1, e0_2, rfl⟩ := Go.Proofs.YtbppngopiackcaaX.list_3 (show xs0.length = 3 from hlen0)
  simp only [Prod.mk.injEq] at hx0
  obtain ⟨rfl, rfl⟩ := hx0
  have cl0_0 : Try.prog.cellsOf 3 = 1 := by kernel_rfl
  have g0_0 : DataW.trod enc Try.prog W 0 (fun _ => true) true n0 3 [c0_0] = some e0_0 := by simpa [Value.cells, cl0_0] using hfs0 0 _ rfl
  obtain ⟨a0_0, q_, r_, w0_0⟩ := DataW.trod_int Try.underlying3 g0_0
  simp only [List.cons.injEq, and_true] at q_
  subst q_; subst r_
  have cl0_1 : Try.prog.cellsOf 3 = 1 := by kernel_rfl
  have g0_1 : DataW.trod enc Try.prog W 0 (fun _ => true) true n0 3 [c0_1] = some e0_1 := by simpa [Value.cells, cl0_1] using hfs0 1 _ rfl
  obtain ⟨a0_1, q_, r_, w0_1⟩ := DataW.trod_int Try.underlying3 g0_1
  simp only [List.cons.injEq, and_true] at q_
  subst q_; subst r_
  have cl0_2 : Try.prog.cellsOf 4 = 1 := by kernel_rfl
  have g0_2 : DataW.trod enc Try.prog W 0 (fun _ => true) true n0 4 [c0_2] = some e0_2 := by simpa [Value.cells, cl0_2] using hfs0 2 _ rfl
  obtain ⟨a0_2, q_, r_⟩ := DataW.trod_bool Try.underlying4 g0_2
  simp only [List.cons.injEq, and_true] at q_
  subst q_; subst r_
  obtain ⟨a1, rfl, rfl, rfl⟩ := open_bool Try.underlying4 (hval 1 4 v1 rfl rfl) h1
  obtain ⟨a2, rfl, rfl, rfl⟩ := open_bool Try.underlying4 (hval 2 4 v2 rfl rfl) h2
  clear hA0 hval0 hsz0 hsz
  refine (Turn.lapwinglaw04_AddrTurned.walk Pure.AddrTurned a0_0 a0_1 a0_2 a1 a2 W w0_0 w0_1).mono fun e W' ⟨he, bel⟩ => ?_
  subst he
  exact ⟨_, rfl, _, _, _, [], _, [], hW', trodAll_mk1 (shut_bool Try.underlying4 _), (trodAll_cons_mk (Below.trod laidOut (by kernel_rfl) (of_decide_eq_true (by kernel_rfl)) k0 bel lt0) (trodAll_cons_mk (shut_bool Try.underlying4 _) (trodAll_cons_mk (shut_bool Try.underlying4 _) trodAll_mk0))), rfl, bel.frame _, fun h => by cases h⟩
theorem over : Rows.addrTurnedRow.holds Try.pinned (OpenSpec.ofChange Rows.addrTurnedSpec) :=
  OpenClaim.holds_of_wide 8 Try.f8 rfl rfl rfl rfl rfl rfl rfl ⟨rfl, rfl, rfl, rfl, rfl⟩ rfl rfl rfl rfl rfl (by kernel_rfl) Try.func8 (by kernel_rfl)
    (of_decide_eq_true (by kernel_rfl)) (by unfold Func.isWrapper; first | (rw [if_pos (by decide +kernel)]; kernel_rfl) | (rw [if_neg (by decide +kernel)]; exact ⟨rfl, rfl⟩))
    (fun os started H enc _ => lifted os started H enc)
theorem proved : Rows.AddrTurnedSaid := over
#print axioms proved
end Go.Proofs.Ytbppngopiackcaa.addrTurned
namespace Go.Proofs.Ytbppngopiackcaa
/-- The row, under a short name, for the claim. -/
theorem addrTurned_holds : Rows.AddrTurnedSaid := addrTurned.proved
end Go.Proofs.Ytbppngopiackcaa
