/- Words for the laws of hdlc: events between calls; what is fed in a law. -/
import Derived.Test.YtolodlnndojaiaaDoorHdlcWakes
namespace Go.Proofs.YtolodlnndojaiaaDoor.Hd
open Go.RowKit Go.Proofs.YtolodlnndojaiaaDoorW.PrintWords Go.Proofs.YtolodlnndojaiaaDoorW.PrintLast Go.Proofs.YtolodlnndojaiaaDoorW.PrintMore Go.Proofs.YtolodlnndojaiaaDoor.Str Go.Proofs.YtolodlnndojaiaaDoor.Bits Go.Proofs.YtolodlnndojaiaaDoor.Oct
set_option linter.unusedVariables false
theorem Evs.kept {u : Value} {evs : List Ev} {w w' : World} (h : Evs u evs w) (hb : Below w.heap.size w w') : Evs u evs w' := by
  obtain ⟨B, hr⟩ := h
  exact ⟨B, row_kept hr hb⟩
theorem cut_size (a : ByteArray) (n : Nat) : (a.extract 0 (min (a.size : Int) (n : Int)).toNat).size ≤ n := by rw [ByteArray.size_extract]; omega
theorem feed_around (a c : Nat) (l : List UInt8) (h0 : l ≠ []) (h1 : l.length ≤ 266) : ∃ s', feedL St.new (flags a ++ encL l ++ flags c) = (s', [(0, l)]) := by
  obtain ⟨s1, hr1, e1⟩ := feed_flags a St.new ready_new
  obtain ⟨s2, hr2, e2⟩ := feed_flags c _ ready_true
  refine ⟨s2, ?_⟩
  rw [feedL_append, feedL_append, e1, feed_one s1 hr1 l h0 h1, e2]
  rfl
theorem feed_two (a c : List UInt8) (h1 : 266 < a.length) (h2 : c ≠ []) (h3 : c.length ≤ 266) : feedL St.new (encL a ++ encL c) = (⟨[], true, 0⟩, [(2, []), (0, c)]) := by
  rw [feedL_append, feed_long _ ready_new a h1, feed_one _ ready_true c h2 h3]
  rfl
end Go.Proofs.YtolodlnndojaiaaDoor.Hd
