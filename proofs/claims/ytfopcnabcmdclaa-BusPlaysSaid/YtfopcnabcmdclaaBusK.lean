/- The bus's map: its keys; the element types' rows of the table. No condition. -/
import Derived.Test.YtfopcnabcmdclaaMaps
import Derived.Test.YtfopcnabcmdclaaRowAt
import Derived.Test.YtfopcnabcmdclaaProg
import Derived.DeepKeys4
import Derived.Lib.MinMax
namespace Go.Proofs.Ytfopcnabcmdclaa.Bs
open Go Go.RowKit Go.Proofs.Ytfopcnabcmdclaa.Mp Go.Proofs.Ytfopcnabcmdclaa.Ra
set_option linter.unusedVariables false
theorem infoStr : (Try.prog.info? 9).map (fun i => (i.zero, i.size, i.bytes)) = some (some (.string ByteArray.empty), 1, 16) := by kernel_rfl
theorem rowLaw : WideMaps.KeyLaw Try.prog 61 := deep_law_laid (m := 3) (by kernel_rfl) (by decide) (of_decide_eq_true (by kernel_rfl)) (by kernel_rfl) (by kernel_rfl)
theorem rowKeyed : Maps.Keyed Try.prog 61 := Maps.Keyed.of_law rowLaw
theorem zeroS (w : World) : (zeroValue 22).run Try.prog w = .ok (.slice none 0 0) w := by kernel_rfl
/-- What the key of a row reads as. -/
def keyL (d : Bool) (i : Int) : Lit := .string (keyBytes [.bool d, .int .i64 i])
theorem keyRow (d : Bool) (i : Int) (h : (Lit.int .i64 i).wf = true) : keyOf Try.prog 61 (.agg #[.bool d, .int .i64 i]) = some (keyL d i) := by
  have hkt : Try.prog.keyType 61 = true := by kernel_rfl
  have hc : Try.prog.cellsOf 61 = 2 := by kernel_rfl
  have hb : Try.prog.cellsOf 4 = 1 := by kernel_rfl
  have hi : Try.prog.cellsOf 3 = 1 := by kernel_rfl
  obtain ⟨m, hm⟩ : ∃ m, Try.prog.types.size = m + 1 := ⟨Try.prog.types.size - 1, by kernel_rfl⟩
  unfold keyOf
  simp only [Try.underlying61]
  rw [if_pos (by simp [hkt, Value.formed, Try.underlying61, hc]), hm]
  unfold Program.keyLits
  simp only [Try.underlying61, Value.cells]
  rw [if_pos (by refine ⟨by rw [hc]; rfl, by decide +kernel⟩)]
  simp [List.mapM_cons, hb, hi, Program.keyLits, Try.underlying4, Try.underlying3, h, keyL]
theorem keyL_inj (d d' : Bool) (i i' : Int) (h : (Lit.int .i64 i).wf = true) (h' : (Lit.int .i64 i').wf = true) (e : keyL d i = keyL d' i') : d = d' ∧ i = i' := by
  have h1 := keyRow d i h
  rw [e] at h1
  have h2 := rowLaw.inj h1 (keyRow d' i' h')
  simpa using h2
end Go.Proofs.Ytfopcnabcmdclaa.Bs
