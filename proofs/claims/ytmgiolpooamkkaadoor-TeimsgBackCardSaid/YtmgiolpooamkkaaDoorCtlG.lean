/- What package ctrl reads of a UI's octet. Condition: the package's tables stand as they were laid (LaidC). -/
import Derived.Test.YtmgiolpooamkkaaDoorCtlW
namespace Go.Proofs.YtmgiolpooamkkaaDoor.Fw
open Go Go.RowKit Go.Proofs.YtmgiolpooamkkaaDoorW.PrintWords Go.Proofs.YtmgiolpooamkkaaDoorW.PrintLast Go.Proofs.YtmgiolpooamkkaaDoorW.PrintMore Go.Proofs.YtmgiolpooamkkaaDoor.Str
set_option linter.unusedVariables false
set_option maxHeartbeats 4000000 in
set_option maxRecDepth 100000 in
theorem getUI (s : ByteArray) (w : World) (hL : LaidC w) (hs : 0 < s.size) (hs6 : s.size ≤ 9223372036854775807) (hx : ((s[0]'hs).toNat : Int) = 3) :
    Calls Tryd.prog 34 #[.string s] w fun e w' => e = .returned (.tuple #[.agg #[.int .i64 6, .bool false, .int .i64 0, .int .i64 0], .int .i64 1, .int .i64 0]) ∧ Below w.heap.size w w' := by
  have hne : s.toList.isEmpty = false := by
    rw [toList_L]
    rw [size_L] at hs
    cases h : L s with
    | nil => rw [h] at hs; simp at hs
    | cons a r => rfl
  have a1 : Go.bits .and .u8 3 1 = 1 := by decide +kernel
  have a16 : Go.bits .and .u8 3 16 = 0 := by decide +kernel
  have hb0 : Below w.heap.size w (w.alloc (.cells #[.int .i64 0, .bool false, .int .i64 0, .int .i64 0] 73)) := (Below.refl _ w).alloc (Nat.le_refl _) _
  have HR := Aside0.mk (hL.below hb0).row
  have HB := Aside0.mk hb0
  clear hb0 hL
  go_enter Tryd.func34, Tryd.ntmps34
  go_wp2_with fail
  refine (indexW (some ⟨1, 1, none⟩) _ (tFirst.drop 1) 3 _ HR.out (Nat.le_refl _)).mono ?_
  rintro e w1 ⟨rfl, rfl⟩
  have hi : idxL (tFirst.drop 1) 3 = 5 := by decide +kernel
  rw [hi]
  go_wp2_with fail
  refine (numW 6 _).mono ?_
  rintro e w1 ⟨rfl, rfl⟩
  go_wp2_with fail
  refine (numW 6 _).mono ?_
  rintro e w1 ⟨rfl, rfl⟩
  go_wp2_with fail
  refine bodyPost_ret (results_ctt rfl _ _ w.heap.size 73 #[.int .i64 6, .bool false, .int .i64 0, .int .i64 0] (0, 0) _ rfl (blk_alloc (blk_new w _) _) Tryd.underlying73 rfl (by kernel_rfl)) rfl ?_
  exact ⟨rfl, ((Below.refl _ w).alloc (Nat.le_refl _) _).alloc (by show _ ≤ (w.heap.push _).size; simp) _⟩
end Go.Proofs.YtmgiolpooamkkaaDoor.Fw
