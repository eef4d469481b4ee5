/- The plain statement of AddrTurned over the printed functions: the command of one side has the C/R bit of a response of the other one. No condition. -/
import Derived.Test.YtbppngopiackcaaAddrTurnT
import Derived.Test.YtbppngopiackcaaTurn5
namespace Go.Proofs.Ytbppngopiackcaa.Pure
open Go.RowKit Go.Proofs.YtbppngopiackcaaW.PrintWords Go.Proofs.YtbppngopiackcaaW.PrintLast Go.Proofs.YtbppngopiackcaaW.PrintMore Go.Proofs.Ytbppngopiackcaa.Str Go.Proofs.Ytbppngopiackcaa.Field Go.Proofs.Ytbppngopiackcaa.TeiT Go.Proofs.Ytbppngopiackcaa.Turn
theorem AddrTurned : lapwinglaw04_AddrTurned.Pure := by
  intro s t _ c w _ _
  obtain ⟨k, hk⟩ : ∃ k : Nat, 3 < k := ⟨4, by omega⟩
  refine ⟨k, ?_⟩
  unfold lapwinglaw04_AddrTurned.f
  refine bind_at (make_eq s t c w) (bind_at (make_eq s t (!c) (!w)) (bind_at (make_eq s t (!c) w) (bind_at (wakes_eq k hk) (Eq.trans (if_pos rfl) ?_))))
  refine Eq.trans (if_pos (by cases c <;> cases w <;> simp)) (Eq.trans (if_pos (by cases c <;> cases w <;> rfl)) (Eq.trans (if_pos (by simp)) ?_))
  refine bind_at (command_eq s t (c == w) w) (Eq.trans (if_pos (by cases c <;> cases w <;> rfl)) ?_)
  refine bind_at (command_eq s t (c == w) (!w)) ?_
  cases c <;> cases w <;> rfl
end Go.Proofs.Ytbppngopiackcaa.Pure
