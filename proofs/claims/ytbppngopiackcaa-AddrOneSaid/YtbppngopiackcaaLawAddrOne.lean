/- The row AddrOne: a slice of pairs of octets opened; the walk; the answer. No condition. -/
import Derived.Test.YtbppngopiackcaaRows
import Derived.Test.YtbppngopiackcaaWalkAddrOne
import Derived.WalkKit
import Derived.ProofKit
import Derived.OpenShut
import Derived.ShutString
import Derived.ChangeOld
import Derived.Below
import Derived.SizedLaws
import Derived.Lib.SmallJoins
import Derived.ChangeArms
import Derived.Deep.SlicePairs
import Derived.Test.YtbppngopiackcaaExtra
import Derived.Test.YtbppngopiackcaaWSized
namespace Go.Proofs.Ytbppngopiackcaa.addrOne
open Go.ChangeShapes Go.WideShapes Go.ChangeAt Go.RowKit
open Go.ChangeMaps (open_string shut_string)
set_option linter.unusedVariables false
theorem own : ownKnob Try.prog.godebug = none := by kernel_rfl
theorem laidOut : laidOutB Try.prog = true := by kernel_rfl
theorem c5 : Try.prog.cellsOf 5 = 1 := by kernel_rfl
theorem c48 : Try.prog.cellsOf 48 = 2 := by kernel_rfl
/-- A slice of pairs of octets that is read. -/
theorem opened {H : Type} {enc : TypeId × Value → H} {W : World} {a : Option Addr} {len cap : Nat} {d : DataW H} {p : List MemPlace}
    (h : DataW.Trod enc Try.prog W 0 (fun _ => true) true 46 (.slice a len cap) d p) :
    len ≤ 9223372036854775807 ∧ len ≤ cap ∧ (0 < len → ∃ x, a = some x ∧ ∀ i, i < len → ∃ u v : Int, 0 ≤ u ∧ u ≤ 255 ∧ 0 ≤ v ∧ v ≤ 255 ∧ W.cell? (x.add (i * 2)) = some (.int .u8 u) ∧ W.cell? ⟨(x.add (i * 2)).block, (x.add (i * 2)).off + 1, none⟩ = some (.int .u8 v)) := by
  obtain ⟨fuel, hf⟩ := h
  rcases Go.Deep.open_slice Try.underlying46 hf with ⟨hcs, _⟩ | ⟨ad, l, c, m, n, D, Pl, hcs, _, hl, hm, hmm, _, hx⟩
  · simp [Value.cells] at hcs
    obtain ⟨rfl, rfl, rfl⟩ := hcs
    exact ⟨by omega, Nat.le_refl _, fun h => absurd h (by decide)⟩
  · simp [Value.cells] at hcs
    obtain ⟨rfl, rfl, rfl⟩ := hcs
    have hmc : m = cap := by simpa using hmm
    have hml : cap ≤ 9223372036854775807 := by have := hm; unfold maxLen at this; omega
    refine ⟨by omega, hl, fun _ => ⟨ad, rfl, fun i hi => ?_⟩⟩
    obtain ⟨cs', h1, h2⟩ := hx i (by omega)
    rw [c48] at h1
    obtain ⟨_, hlen, hcell⟩ := World.cells?_some h1
    obtain ⟨xs, m', _, _, _, hxl, hg⟩ := DataW.trod_array Try.underlying48 h2
    match xs, hxl, cs', hlen with
    | [y0, y1], _, [v0, v1], _ =>
      have g0 : DataW.trod enc Try.prog W 0 (fun _ => true) true m' 5 [v0] = some y0 := by simpa [c5] using hg 0 (by decide)
      have g1 : DataW.trod enc Try.prog W 0 (fun _ => true) true m' 5 [v1] = some y1 := by simpa [c5] using hg 1 (by decide)
      obtain ⟨b0, q0, _, z0⟩ := DataW.trod_int Try.underlying5 g0
      obtain ⟨b1, q1, _, z1⟩ := DataW.trod_int Try.underlying5 g1
      simp only [List.cons.injEq, and_true] at q0 q1
      subst q0; subst q1
      have e0 := hcell 0 (by omega)
      have e1 := hcell 1 (by omega)
      have r0 := bounds_u8 z0
      have r1 := bounds_u8 z1
      refine ⟨b0, b1, r0.1, r0.2, r1.1, r1.2, e0, e1⟩
set_option maxRecDepth 100000 in
theorem lifted (os : Os) (started : os.Started) (H : Type) (enc : TypeId × Value → H) :
    ReturnsInHanded {} Try.checked os 6 .any (Rows.addrOneSpec.pre6 enc Try.prog Try.f6 Rows.addrOneRow.domain false) (Rows.addrOneSpec.post enc Try.prog Try.f6 false true false false) := by
  refine returnsInHanded_of_change_sized (C := Try.checked) own started (by kernel_rfl) Try.func6
    (ChangeSpec.witness6 (enc := enc) (C := Try.checked) false ⟨#[], #[.slice none 0 0], []⟩ 8 (by kernel_rfl) (by kernel_rfl) (by kernel_rfl) (by kernel_rfl)) ?_
  intro W base args ds gs before hval0 hW hcnd hsz0 _
  have hval : ∀ (j : Nat) t v, Try.f6.params[j]? = some t → args[j]? = some v → Value.okWide Try.prog W .any base t v := hval0
  have hW' := hW
  obtain ⟨p, q, hA0, hV, rfl, hfz, hnd⟩ := hW
  have hA : DataW.TrodAll enc Try.prog W 0 (fun _ => true) true Try.f6.params.toList args.toList ds p := hA0
  rw [Try.params6] at hA hval
  obtain ⟨v0, vs0, d0, ds0, p0, q0, hargs, rfl, rfl, h0, r0⟩ := trodAll_cons hA
  obtain ⟨rfl, rfl, rfl⟩ := trodAll_nil r0
  obtain rfl : args = #[v0] := by cases args; simp_all
  obtain ⟨rfl, rfl⟩ := trodVars_none hV
  obtain ⟨a0, len0, cap0, rfl⟩ := okWide_slice Try.underlying46 (hval 0 46 v0 rfl rfl)
  have k0 := h0
  have lt0 : ∀ x ∈ p0, x.block < W.heap.size := by obtain ⟨m, hm⟩ := k0; exact DataW.trod_lt m _ _ _ hm
  obtain ⟨hn, hlc, hC⟩ := opened h0
  clear hA0 hval0 hsz0
  refine (Wk.oneW a0 cap0 len0 W hn hlc hC).mono fun e W' ⟨he, bel⟩ => ?_
  subst he
  exact ⟨_, rfl, _, _, _, [], _, [], hW', trodAll_mk1 (shut_bool Try.underlying4 _), (trodAll_cons_mk (Below.trod laidOut (by kernel_rfl) (of_decide_eq_true (by kernel_rfl)) k0 bel lt0) trodAll_mk0), rfl, bel.frame _, fun h => by cases h⟩
theorem over : Rows.addrOneRow.holds Try.pinned (OpenSpec.ofChange Rows.addrOneSpec) :=
  OpenClaim.holds_of_wide 6 Try.f6 rfl rfl rfl rfl rfl rfl rfl ⟨rfl, rfl, rfl, rfl, rfl⟩ rfl rfl rfl rfl rfl (by kernel_rfl) Try.func6 (by kernel_rfl)
    (of_decide_eq_true (by kernel_rfl)) (by unfold Func.isWrapper; first | (rw [if_pos (by decide +kernel)]; kernel_rfl) | (rw [if_neg (by decide +kernel)]; exact ⟨rfl, rfl⟩))
    (fun os started H enc _ => lifted os started H enc)
theorem proved : Rows.AddrOneSaid := over
end Go.Proofs.Ytbppngopiackcaa.addrOne
namespace Go.Proofs.Ytbppngopiackcaa
/-- The row, under a short name, for the claim. -/
theorem addrOne_holds : Rows.AddrOneSaid := addrOne.proved
end Go.Proofs.Ytbppngopiackcaa
