/- The row BitsPacks: a slice of pairs opened; the printed law's call; the answer. -/
import Derived.Test.YtjgcoidfkpjeiaaRows
import Derived.Test.YtjgcoidfkpjeiaaPrint2
import Derived.Test.YtjgcoidfkpjeiaaRefPack
import Derived.WalkKit
import Derived.ProofKit
import Derived.OpenShut
import Derived.ShutString
import Derived.ChangeOld
import Derived.Below
import Derived.SizedLaws
import Derived.Lib.SmallJoins
import Derived.ChangeArms
import Derived.Deep.SlicePairs
import Derived.Test.YtjgcoidfkpjeiaaExtra
import Derived.Test.YtjgcoidfkpjeiaaWSized
namespace Go.Proofs.Ytjgcoidfkpjeiaa.bitsPacks
open Go.ChangeShapes Go.WideShapes Go.ChangeAt Go.RowKit
open Go.ChangeMaps (open_string shut_string)
set_option linter.unusedVariables false
theorem own : ownKnob Try.prog.godebug = none := by kernel_rfl
theorem laidOut : laidOutB Try.prog = true := by kernel_rfl
theorem c3 : Try.prog.cellsOf 3 = 1 := by kernel_rfl
theorem c34 : Try.prog.cellsOf 34 = 2 := by kernel_rfl
instance : Inhabited Print.S34 := ⟨Print.z34⟩
/-- A slice of pairs that is read: its row. -/
theorem opened {H : Type} {enc : TypeId × Value → H} {W : World} {a : Option Addr} {len cap : Nat} {d : DataW H} {p : List MemPlace}
    (h : DataW.Trod enc Try.prog W 0 (fun _ => true) true 28 (.slice a len cap) d p) :
    ∃ l : List Print.S34, l.length = len ∧ len ≤ cap ∧ Go.Proofs.YtjgcoidfkpjeiaaW.PrintWords.Kd.C Print.k34 W a len l := by
  obtain ⟨fuel, hf⟩ := h
  rcases Go.Deep.open_slice Try.underlying28 hf with ⟨hcs, _⟩ | ⟨ad, l, c, m, n, D, Pl, hcs, _, hl, hm, hmm, _, hx⟩
  · simp [Value.cells] at hcs
    obtain ⟨rfl, rfl, rfl⟩ := hcs
    exact ⟨[], rfl, Nat.le_refl _, rfl, by decide, fun h => absurd h (by decide)⟩
  · simp [Value.cells] at hcs
    obtain ⟨rfl, rfl, rfl⟩ := hcs
    have hmc : m = cap := by simpa using hmm
    have each : ∀ i, i < len → ∃ x : Print.S34, W.cell? (ad.add (i * 2)) = some (.int .i64 x.f0) ∧ W.cell? (ad.add (i * 2 + 1)) = some (.int .i64 x.f1) := by
      intro i hi
      obtain ⟨cs', h1, h2⟩ := hx i (by omega)
      rw [c34] at h1
      obtain ⟨_, hlen, hcell⟩ := World.cells?_some h1
      obtain ⟨xs, m', _, _, _, hxl, hg⟩ := DataW.trod_array Try.underlying34 h2
      match xs, hxl, cs', hlen with
      | [y0, y1], _, [v0, v1], _ =>
        have g0 : DataW.trod enc Try.prog W 0 (fun _ => true) true m' 3 [v0] = some y0 := by simpa [c3] using hg 0 (by decide)
        have g1 : DataW.trod enc Try.prog W 0 (fun _ => true) true m' 3 [v1] = some y1 := by simpa [c3] using hg 1 (by decide)
        obtain ⟨b0, q0, _, _⟩ := DataW.trod_int Try.underlying3 g0
        obtain ⟨b1, q1, _, _⟩ := DataW.trod_int Try.underlying3 g1
        simp only [List.cons.injEq, and_true] at q0 q1
        subst q0; subst q1
        have e0 := hcell 0 (by omega)
        have e1 := hcell 1 (by omega)
        rw [Go.Deep.add_add] at e0 e1
        exact ⟨⟨b0, b1⟩, by simpa using e0, by simpa using e1⟩
    obtain ⟨q, hq⟩ := Go.Deep.choose_lt each
    have hml : cap ≤ 9223372036854775807 := by have := hm; unfold maxLen at this; omega
    refine ⟨(List.range len).map q, by simp, hl, by simp, by omega, fun _ => ⟨ad, rfl, fun j x hj => ⟨[.int .i64 x.f0, .int .i64 x.f1], rfl, Print.k34_mk W x, fun i u hu => ?_⟩⟩⟩
    have hjl : j < len := by
      have := (List.getElem?_eq_some_iff.1 hj).1
      simpa using this
    have hx : x = q j := by
      have h3 : ((List.range len).map q)[j]? = some (q j) := by simp [hjl]
      exact Option.some.inj (hj.symm.trans h3)
    subst hx
    match i, hu with
    | 0, hu => simp at hu; subst hu; exact (hq j hjl).1
    | 1, hu => simp at hu; subst hu; exact (hq j hjl).2
set_option maxRecDepth 100000 in
theorem lifted (os : Os) (started : os.Started) (H : Type) (enc : TypeId × Value → H) :
    ReturnsInHanded {} Try.checked os 5 .any (Rows.bitsPacksSpec.pre6 enc Try.prog Try.f5 Rows.bitsPacksRow.domain false) (Rows.bitsPacksSpec.post enc Try.prog Try.f5 false true false false) := by
  refine returnsInHanded_of_change_sized (C := Try.checked) own started (by kernel_rfl) Try.func5
    (ChangeSpec.witness6 (enc := enc) (C := Try.checked) false ⟨#[], #[.slice none 0 0], []⟩ 8 (by kernel_rfl) (by kernel_rfl) (by kernel_rfl) (by kernel_rfl)) ?_
  intro W base args ds gs before hval0 hW hcnd hsz0 _
  have hval : ∀ (j : Nat) t v, Try.f5.params[j]? = some t → args[j]? = some v → Value.okWide Try.prog W .any base t v := hval0
  have hW' := hW
  obtain ⟨p, q, hA0, hV, rfl, hfz, hnd⟩ := hW
  have hA : DataW.TrodAll enc Try.prog W 0 (fun _ => true) true Try.f5.params.toList args.toList ds p := hA0
  rw [Try.params5] at hA hval
  obtain ⟨v0, vs0, d0, ds0, p0, q0, hargs, rfl, rfl, h0, r0⟩ := trodAll_cons hA
  obtain ⟨rfl, rfl, rfl⟩ := trodAll_nil r0
  obtain rfl : args = #[v0] := by cases args; simp_all
  obtain ⟨rfl, rfl⟩ := trodVars_none hV
  obtain ⟨a0, len0, cap0, rfl⟩ := okWide_slice Try.underlying28 (hval 0 28 v0 rfl rfl)
  have k0 := h0
  have lt0 : ∀ x ∈ p0, x.block < W.heap.size := by obtain ⟨m, hm⟩ := k0; exact DataW.trod_lt m _ _ _ hm
  obtain ⟨l, rfl, hlc, hC⟩ := opened h0
  clear hA0 hval0 hsz0
  obtain ⟨k, hk⟩ := Pack.packs_true l
  refine (Print.lapwinglaw01_BitsPacks.calls k a0 cap0 l true W hC hlc hk).mono fun e W' ⟨he, bel⟩ => ?_
  subst he
  exact ⟨_, rfl, _, _, _, [], _, [], hW', trodAll_mk1 (shut_bool Try.underlying4 _), (trodAll_cons_mk (Below.trod laidOut (by kernel_rfl) (of_decide_eq_true (by kernel_rfl)) k0 bel lt0) trodAll_mk0), rfl, bel.frame _, fun h => by cases h⟩
theorem over : Rows.bitsPacksRow.holds Try.pinned (OpenSpec.ofChange Rows.bitsPacksSpec) :=
  OpenClaim.holds_of_wide 5 Try.f5 rfl rfl rfl rfl rfl rfl rfl ⟨rfl, rfl, rfl, rfl, rfl⟩ rfl rfl rfl rfl rfl (by kernel_rfl) Try.func5 (by kernel_rfl)
    (of_decide_eq_true (by kernel_rfl)) (by unfold Func.isWrapper; first | (rw [if_pos (by decide +kernel)]; kernel_rfl) | (rw [if_neg (by decide +kernel)]; exact ⟨rfl, rfl⟩))
    (fun os started H enc _ => lifted os started H enc)
theorem proved : Rows.BitsPacksSaid := over
end Go.Proofs.Ytjgcoidfkpjeiaa.bitsPacks
namespace Go.Proofs.Ytjgcoidfkpjeiaa
/-- The row, under a short name, for the claim. -/
theorem bitsPacks_holds : Rows.BitsPacksSaid := bitsPacks.proved
end Go.Proofs.Ytjgcoidfkpjeiaa
