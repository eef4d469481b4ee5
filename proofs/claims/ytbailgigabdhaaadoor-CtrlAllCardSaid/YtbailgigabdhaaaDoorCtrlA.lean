/- Of all first octets: which kind's field begins so, what is read of it, and that it is put as it was. Condition on worlds: the package's tables stand as they were laid (X.Laid). -/
import Derived.Test.YtbailgigabdhaaaDoorCtrlU
import Derived.Test.YtbailgigabdhaaaDoorCtrlBack
import Derived.Maps.OwnOps
import Derived.Maps.RangeWalk
import Derived.KernelRfl
namespace Go.Proofs.YtbailgigabdhaaaDoor.Cu
open Go.RowKit Go.Proofs.YtbailgigabdhaaaDoorW.PrintWords Go.Proofs.YtbailgigabdhaaaDoorW.PrintLast Go.Proofs.YtbailgigabdhaaaDoorW.PrintMore Go.Proofs.YtbailgigabdhaaaDoor.Str Go.Proofs.YtbailgigabdhaaaDoor.Field Go.Proofs.YtbailgigabdhaaaDoor.Pack Go.Proofs.YtbailgigabdhaaaDoor.Print Go.Proofs.YtbailgigabdhaaaDoorX Go.Proofs.YtbailgigabdhaaaDoor.Ctl
set_option linter.unusedVariables false
/-- The kind whose field an octet begins; -1: none. -/
def kx (x : Int) : Int := if x % 2 = 0 then 0 else if kd x = 0 then -1 else if kd x ≤ 3 ∧ x ≠ rd glFirst (kd x) then -1 else kd x
theorem kx_facts (x : Nat) (hx : x < 256) : -1 ≤ kx x ∧ kx x < 10 ∧ (kx x = -1 → (x : Int) % 2 = 1 ∧ (kd x = 0 ∨ (1 ≤ kd x ∧ kd x ≤ 3 ∧ (x : Int) ≠ rd glFirst (kd x)))) ∧ (kx x = 0 → (x : Int) % 2 = 0) ∧ (1 ≤ kx x ∧ kx x ≤ 3 → (x : Int) = rd glFirst (kx x)) ∧ (4 ≤ kx x → (x : Int) = rd glFirst (kx x) + 16 * b2i ((x : Int) / 16 % 2 == 1)) := by
  have : ∀ x : Fin 256, -1 ≤ kx x.val ∧ kx x.val < 10 ∧ (kx x.val = -1 → (x.val : Int) % 2 = 1 ∧ (kd x.val = 0 ∨ (1 ≤ kd x.val ∧ kd x.val ≤ 3 ∧ (x.val : Int) ≠ rd glFirst (kd x.val)))) ∧ (kx x.val = 0 → (x.val : Int) % 2 = 0) ∧ (1 ≤ kx x.val ∧ kx x.val ≤ 3 → (x.val : Int) = rd glFirst (kx x.val)) ∧ (4 ≤ kx x.val → (x.val : Int) = rd glFirst (kx x.val) + 16 * b2i ((x.val : Int) / 16 % 2 == 1)) := by decide +kernel
  exact this ⟨x, hx⟩
theorem get_N (k : Nat) (hk : 9 < k) (s : ByteArray) (hs : 0 < s.size) (x : Int) (hb : bt s 0 = x) (x0 : 0 ≤ x) (x1 : x ≤ 255) (ho : x % 2 = 1) (h : kd x = 0 ∨ (1 ≤ kd x ∧ kd x ≤ 3 ∧ x ≠ rd glFirst (kd x))) : ctrl_Get.f k s = some (0, false, 0, 0, 0, 4) := by
  obtain ⟨m, rfl⟩ : ∃ m, k = m + 1 + 1 := ⟨k - 2, by omega⟩
  rw [get_head _ hk s hs, hb]
  rw [ctrl_Get.j0, if_neg (by rw [low_bit x x0 x1]; omega)]
  rcases h with h | ⟨h1, h2, h3⟩
  · rw [if_pos h]
  · rw [if_neg (by omega)]
    have hn : ctrl_Kind_Numbered.f (kd x) = some true := by rw [num_eq, decide_eq_true (by omega)]
    refine bind_at hn (Eq.trans (if_pos rfl) ?_)
    generalize hz : kd x = a at *
    rw [if_pos (by omega), if_pos (by show a < 10; omega)]
    rw [if_neg h3]
/-- What is read of two octets, and put again. -/
theorem got (x : Nat) (hx : x < 256) (y : Int) (y0 : 0 ≤ y) (y1 : y ≤ 255) (s : ByteArray) (hs : 2 ≤ s.size) (hb : bt s 0 = x) (hb1 : bt s 1 = y) (hk : kx x ≠ -1) :
    ∃ (p : Bool) (a b : Int) (n : Nat), ctrl_Get.f 20 s = some (kx x, p, a, b, (n : Int), 0) ∧ putC (kx x) p a b = (strOfNums ([(x : Int), y].take n), 0) ∧ 1 ≤ n ∧ n ≤ 2 ∧ decide (0 ≤ kx x ∧ kx x ≤ 3) = ((n : Int) == 2) := by
  obtain ⟨f1, f2, _, f4, f5, f6⟩ := kx_facts x hx
  have ey : 2 * (y / 2 % 128) + b2i (y % 2 == 1) = y := by
    unfold b2i
    rcases (by omega : y % 2 = 0 ∨ y % 2 = 1) with h | h <;> rw [h] <;> simp <;> omega
  by_cases h0 : kx x = 0
  · have e := f4 h0
    refine ⟨(y % 2 == 1), (x : Int) / 2 % 128, y / 2 % 128, 2, ?_, ?_, by decide, by decide, ?_⟩
    · rw [h0]; exact get_I 20 (by decide) s hs x hb (by omega) (by omega) e y hb1 y0 y1
    · unfold putC
      rw [h0, if_pos (by omega), if_pos (by omega), if_pos (by omega), if_pos rfl, if_pos (by omega), ey, show 2 * ((x : Int) / 2 % 128) = x by omega]
      rfl
    · rw [h0]; rfl
  · by_cases h3 : kx x ≤ 3
    · have e := f5 ⟨by omega, h3⟩
      refine ⟨(y % 2 == 1), 0, y / 2 % 128, 2, ?_, ?_, by decide, by decide, ?_⟩
      · exact get_S 20 (by decide) s hs ⟨by omega, h3⟩ (hb.trans e) y hb1 y0 y1
      · unfold putC
        rw [if_pos (by omega), if_pos (by omega), if_pos (by omega), if_neg h0, ey, ← e]
        rfl
      · rw [decide_eq_true (by omega)]; rfl
    · have e := f6 (by omega)
      refine ⟨((x : Int) / 16 % 2 == 1), 0, 0, 1, ?_, ?_, by decide, by decide, ?_⟩
      · exact get_U 20 (by decide) s (by omega) ⟨by omega, f2⟩ _ (hb.trans e)
      · unfold putC
        rw [if_pos (by omega), if_neg (by omega), ← e]
        rfl
      · rw [decide_eq_false (by omega)]; rfl
theorem none_got (x : Nat) (hx : x < 256) (s : ByteArray) (hs : 2 ≤ s.size) (hb : bt s 0 = x) (hk : kx x = -1) : ctrl_Get.f 20 s = some (0, false, 0, 0, 0, 4) := by
  obtain ⟨_, _, f3, _⟩ := kx_facts x hx
  exact get_N 20 (by decide) s (by omega) x hb (by omega) (by omega) (f3 hk).1 (f3 hk).2
/-- How many there are of a kind, in what a map reads as. -/
def cOf (D : DataW Value) (a : Int) : Int := match D.atKey (.int .i64 a) (.lit (.int .i64 0)) with
  | .lit (.int _ c) => c
  | _ => 0
/-- What the map of the kinds reads as behind k octets. -/
def C : Nat → DataW Value
  | 0 => .map []
  | k + 1 => if kx k = -1 then C k else (C k).put (.int .i64 (kx k)) (.lit (.int .i64 (wrap64 (cOf (C k) (kx k) + 1))))
theorem C_end : C 256 = .map [(.int .i64 0, .lit (.int .i64 128)), (.int .i64 1, .lit (.int .i64 1)), (.int .i64 2, .lit (.int .i64 1)), (.int .i64 3, .lit (.int .i64 1)), (.int .i64 4, .lit (.int .i64 2)), (.int .i64 5, .lit (.int .i64 2)), (.int .i64 6, .lit (.int .i64 2)), (.int .i64 7, .lit (.int .i64 2)), (.int .i64 8, .lit (.int .i64 2)), (.int .i64 9, .lit (.int .i64 2))] := by kernel_rfl
theorem numW (k : Int) (w : World) : Calls Tryd.prog 13 #[.int .i64 k] w fun e w' => e = .returned (.bool (decide (0 ≤ k ∧ k ≤ 3))) ∧ w = w' := by
  by_cases h0 : 0 ≤ k
  · by_cases h1 : k ≤ 3
    · rw [decide_eq_true ⟨h0, h1⟩]
      go_enter Tryd.func13, Tryd.ntmps13
      go_wp2
      go_ret
      trivial
    · rw [decide_eq_false (by omega)]
      go_enter Tryd.func13, Tryd.ntmps13
      go_wp2
      go_ret
      trivial
  · rw [decide_eq_false (by omega)]
    go_enter Tryd.func13, Tryd.ntmps13
    go_wp2
    go_ret
    trivial
end Go.Proofs.YtbailgigabdhaaaDoor.Cu
