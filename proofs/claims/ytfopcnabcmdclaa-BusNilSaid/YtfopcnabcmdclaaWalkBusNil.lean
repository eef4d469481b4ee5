/- The law BusNil by its own text: it answers true. -/
import Derived.Test.YtfopcnabcmdclaaBusH
import Derived.Test.YtfopcnabcmdclaaActs
namespace Go.Proofs.Ytfopcnabcmdclaa.Wk
open Go Go.RowKit Go.Proofs.YtfopcnabcmdclaaW.PrintWords Go.Proofs.YtfopcnabcmdclaaW.PrintLast Go.Proofs.YtfopcnabcmdclaaW.PrintMore Go.Proofs.Ytfopcnabcmdclaa.Str Go.Proofs.Ytfopcnabcmdclaa.Bits Go.Proofs.Ytfopcnabcmdclaa.Mp Go.Proofs.Ytfopcnabcmdclaa.Ra Go.Proofs.Ytfopcnabcmdclaa.Bs Go.Proofs.Ytfopcnabcmdclaa.Ac
set_option linter.unusedVariables false
theorem nilSize (w : World) : Calls Try.prog 8 #[.pointer none] w fun e w' => e = .returned (.int .i64 0) ∧ w = w' := by
  go_enter Try.func8, Try.ntmps8
  go_wp2
  go_ret
  exact ⟨rfl, rfl⟩
theorem nilLen (d : Bool) (i : Int) (w : World) : Calls Try.prog 13 #[.pointer none, .bool d, .int .i64 i] w fun e w' => e = .returned (.int .i64 0) ∧ w = w' := by
  go_enter Try.func13, Try.ntmps13
  go_wp2
  go_ret
  exact ⟨rfl, rfl⟩
theorem nilDown (s : ByteArray) (w : World) : Calls Try.prog 10 #[.pointer none, .string s] w fun e w' => e = .returned (.int .i64 0) ∧ w = w' := by
  go_enter Try.func10, Try.ntmps10
  go_wp2_with fail
  refine (nilSize w).mono ?_
  rintro e w1 ⟨rfl, rfl⟩
  go_wp2
  go_loopw [5, 9] (fun u x wr => x = .int .i64 0 ∧ u = .int .i64 0 ∧ w = wr) (fun _ x _ => 0)
  case atStart => exact ⟨rfl, rfl, rfl⟩
  case round =>
    obtain ⟨rfl, rfl, rfl⟩ := hrel
    go_wp2
    go_ret
    exact ⟨rfl, rfl⟩
theorem nilUp (i : Int) (s : ByteArray) (w : World) : Calls Try.prog 11 #[.pointer none, .int .i64 i, .string s] w fun e w' => e = .returned (.int .i64 1) ∧ w = w' := by
  go_enter Try.func11, Try.ntmps11
  go_wp2
  go_ret
  exact ⟨rfl, rfl⟩
theorem nilTake (d : Bool) (i : Int) (w : World) : Calls Try.prog 12 #[.pointer none, .bool d, .int .i64 i] w fun e w' => e = .returned (.tuple #[.string ⟨#[]⟩, .bool false]) ∧ w = w' := by
  go_enter Try.func12, Try.ntmps12
  go_wp2_with fail
  refine (nilLen d i w).mono ?_
  rintro e w1 ⟨rfl, rfl⟩
  go_wp2
  go_ret2
  exact ⟨rfl, rfl⟩
theorem nilSpoil (d : Bool) (i : Int) (A : Option Addr) (n c : Nat) (w : World) : Calls Try.prog 17 #[.pointer none, .bool d, .int .i64 i, .slice A n c] w fun e w' => e = .returned (.bool false) ∧ w = w' := by
  go_enter Try.func17, Try.ntmps17
  go_wp2_with fail
  refine (nilLen d i w).mono ?_
  rintro e w1 ⟨rfl, rfl⟩
  go_wp2
  go_ret
  exact ⟨rfl, rfl⟩
set_option maxHeartbeats 4000000 in
set_option maxRecDepth 1000000 in
theorem nilClear (i : Int) (w : World) : Calls Try.prog 19 #[.pointer none, .int .i64 i] w fun e w' => e = .returned (.int .i64 0) ∧ w = w' := by
  go_enter Try.func19, Try.ntmps19
  go_wp2
  go_loopw [5, 9] (fun u x wr => ∃ k : Nat, k ≤ 2 ∧ x = .int .i64 k ∧ u = .int .i64 0 ∧ w = wr) (fun _ x _ => 2 - (intOf x).toNat)
  case atStart => exact ⟨0, Nat.zero_le _, rfl, rfl, rfl⟩
  case round =>
    obtain ⟨k, hk, rfl, rfl, rfl⟩ := hrel
    by_cases hlt : k < 2
    · have hk01 : k = 0 ∨ k = 1 := by omega
      rcases hk01 with rfl | rfl
      · have hix := idx0
        go_wp2_with fail
        refine (nilLen true i w).mono ?_
        rintro e w1 ⟨rfl, rfl⟩
        go_wp2
        go_roundw
        case rel => exact ⟨1, by omega, rfl, rfl, (by first | rfl | trivial)⟩
        case measure => simp [intOf]
      · have hix := idx1
        go_wp2_with fail
        refine (nilLen false i w).mono ?_
        rintro e w1 ⟨rfl, rfl⟩
        go_wp2
        go_roundw
        case rel => exact ⟨2, by omega, rfl, rfl, (by first | rfl | trivial)⟩
        case measure => simp [intOf]
    · go_wp2
      go_ret
      exact ⟨rfl, rfl⟩
set_option maxHeartbeats 4000000 in
set_option maxRecDepth 1000000 in
theorem BusNil (a : Deed) (w : World) (h : a.ok w) :
    Calls Try.prog 5 #[.agg a.val.toArray] w fun e w' => e = .returned (.bool true) ∧ Below w.heap.size w w' := by
  obtain ⟨d, i, o, wy, b, A, n, c⟩ := a
  show Calls _ _ #[.agg #[.int .i64 d, .int .i64 i, .int .i64 o, .bool wy, .string b, .slice A n c]] _ _
  clear h
  go_enter Try.func5, Try.ntmps5
  go_wp2_with fail
  have HN := Aside0.mk (heap_alloc_new w (.cells #[.int .i64 d, .int .i64 i, .int .i64 o, .bool wy, .string b, .slice A n c] 42))
  have HB := Aside0.mk ((Below.refl _ w).alloc (Nat.le_refl _) (.cells #[.int .i64 d, .int .i64 i, .int .i64 o, .bool wy, .string b, .slice A n c] 42))
  have HZ : Aside0 ((w.alloc (.cells #[.int .i64 d, .int .i64 i, .int .i64 o, .bool wy, .string b, .slice A n c] 42)).heap.size = w.heap.size + 1) := ⟨by show (w.heap.push _).size = _; simp⟩
  refine (nilTake wy i _).mono ?_
  rintro e w1 ⟨rfl, hw1⟩
  rw [hw1] at HN HB HZ
  clear hw1
  go_wp2_with fail
  refine (wakes _).mono ?_
  rintro e w2 ⟨rfl, hb⟩
  have HB2 := Aside0.mk (below_step HB.out hb)
  have hn2 := (hb.block w.heap.size (by rw [HZ.out]; omega)).trans HN.out
  have e1 : w2.cell? ⟨w.heap.size, 1, none⟩ = some (.int .i64 i) := by rw [Lib.cell_of_heap hn2]; rfl
  have e3 : w2.cell? ⟨w.heap.size, 3, none⟩ = some (.bool wy) := by rw [Lib.cell_of_heap hn2]; rfl
  have e4 : w2.cell? ⟨w.heap.size, 4, none⟩ = some (.string b) := by rw [Lib.cell_of_heap hn2]; rfl
  have e5 : w2.cell? ⟨w.heap.size, 5, none⟩ = some (.slice A n c) := by rw [Lib.cell_of_heap hn2]; rfl
  clear hb hn2 HN HB HZ
  go_wp2_with fail
  refine (nilSize _).mono ?_
  rintro e w3 ⟨rfl, rfl⟩
  go_wp2_with fail
  refine (nilDown b _).mono ?_
  rintro e w3 ⟨rfl, rfl⟩
  go_wp2_with fail
  refine (nilUp i b _).mono ?_
  rintro e w3 ⟨rfl, rfl⟩
  go_wp2_with fail
  refine (nilSpoil wy i A n c _).mono ?_
  rintro e w3 ⟨rfl, rfl⟩
  go_wp2_with fail
  refine (nilLen wy i _).mono ?_
  rintro e w3 ⟨rfl, rfl⟩
  go_wp2_with fail
  refine (nilClear i _).mono ?_
  rintro e w3 ⟨rfl, rfl⟩
  go_wp2
  go_ret
  exact ⟨rfl, HB2.out⟩
end Go.Proofs.Ytfopcnabcmdclaa.Wk
