/- Package ctrl by its own text, as far as a UI goes: its octet, and what is read of it. Condition: the package's tables stand as they were laid (LaidC). -/
import Derived.Test.YtmgiolpooamkkaaDoorFcsW
namespace Go.Proofs.YtmgiolpooamkkaaDoor.Fw
open Go Go.RowKit Go.Proofs.YtmgiolpooamkkaaDoorW.PrintWords Go.Proofs.YtmgiolpooamkkaaDoorW.PrintLast Go.Proofs.YtmgiolpooamkkaaDoorW.PrintMore Go.Proofs.YtmgiolpooamkkaaDoor.Str
set_option linter.unusedVariables false
def tFirst : List Int := [0, 1, 5, 9, 111, 15, 3, 67, 99, 135]
def tNames : List ByteArray := [⟨#[73]⟩, ⟨#[82, 82]⟩, ⟨#[82, 78, 82]⟩, ⟨#[82, 69, 74]⟩, ⟨#[83, 65, 66, 77, 69]⟩, ⟨#[68, 77]⟩, ⟨#[85, 73]⟩, ⟨#[68, 73, 83, 67]⟩, ⟨#[85, 65]⟩, ⟨#[70, 82, 77, 82]⟩]
/-- The tables' cells. -/
def LaidC (w : World) : Prop := (∀ i x, tFirst[i]? = some x → w.cell? ⟨1, i, none⟩ = some (.int .u8 x)) ∧ (∀ i x, tNames[i]? = some x → w.cell? ⟨2, i, none⟩ = some (.string x))
theorem LaidC.below {w w1 : World} (h : LaidC w) (hb : Below w.heap.size w w1) : LaidC w1 :=
  ⟨fun i x hx => pw_cell_below hb (h.1 i x hx), fun i x hx => pw_cell_below hb (h.2 i x hx)⟩
theorem LaidC.row {w : World} (h : LaidC w) : (Kd.int .u8).C w (some ⟨1, 1, none⟩) (tFirst.drop 1).length (tFirst.drop 1) := by
  refine ⟨rfl, by decide, fun _ => ⟨_, rfl, fun j p hj => ⟨[.int .u8 p], rfl, rfl, fun i u hu => ?_⟩⟩⟩
  cases i with
  | zero =>
    simp at hu; subst hu
    have hj' : tFirst[j + 1]? = some p := hj
    have := h.1 _ _ hj'
    have e : (⟨1, 1, none⟩ : Addr).add (j * 1 + 0) = ⟨1, j + 1, none⟩ := by
      unfold Addr.add; split <;> simp_all [Nat.add_comm]
    show w.cell? ((⟨1, 1, none⟩ : Addr).add (j * 1 + 0)) = _
    rw [e]; exact this
  | succ i => simp at hu
set_option maxRecDepth 100000 in
theorem goodW (k : Int) (w : World) : Calls Tryd.prog 36 #[.int .i64 k] w fun e w' => e = .returned (.bool (decide (0 ≤ k ∧ k < 10))) ∧ w = w' := by
  by_cases h0 : 0 ≤ k
  · by_cases h1 : k < 10
    · rw [decide_eq_true ⟨h0, h1⟩]
      go_enter Tryd.func36, Tryd.ntmps36
      go_wp2
      go_ret
      trivial
    · rw [decide_eq_false (by omega)]
      go_enter Tryd.func36, Tryd.ntmps36
      go_wp2
      go_ret
      trivial
  · rw [decide_eq_false (by omega)]
    go_enter Tryd.func36, Tryd.ntmps36
    go_wp2
    go_ret
    trivial
theorem numW (k : Int) (w : World) : Calls Tryd.prog 37 #[.int .i64 k] w fun e w' => e = .returned (.bool (decide (0 ≤ k ∧ k ≤ 3))) ∧ w = w' := by
  by_cases h0 : 0 ≤ k
  · by_cases h1 : k ≤ 3
    · rw [decide_eq_true ⟨h0, h1⟩]
      go_enter Tryd.func37, Tryd.ntmps37
      go_wp2
      go_ret
      trivial
    · rw [decide_eq_false (by omega)]
      go_enter Tryd.func37, Tryd.ntmps37
      go_wp2
      go_ret
      trivial
  · rw [decide_eq_false (by omega)]
    go_enter Tryd.func37, Tryd.ntmps37
    go_wp2
    go_ret
    trivial
theorem oneW (b : Bool) (w : World) : Calls Tryd.prog 38 #[.bool b] w fun e w' => e = .returned (.int .i64 (if b = true then 1 else 0)) ∧ w = w' := by
  cases b
  all_goals
    go_enter Tryd.func38, Tryd.ntmps38
    go_wp2
    go_ret
    trivial
theorem aoneW (b : Bool) (w : World) : Calls Tryd.prog 39 #[.bool b] w fun e w' => e = .returned (.int .i64 (if b = true then 1 else 0)) ∧ w = w' := by
  cases b
  all_goals
    go_enter Tryd.func39, Tryd.ntmps39
    go_wp2
    go_ret
    trivial
theorem one_str (w : World) (a : Int) : (convert 67 9 (.slice (some ⟨w.heap.size, 0, none⟩) 1 1)).run Tryd.prog (w.alloc (.cells #[.int .u8 a] 5)) = .ok (.string (strOfNums [a])) (w.alloc (.cells #[.int .u8 a] 5)) := by
  refine Kd.C_string Tryd.underlying67 Tryd.underlying5 Tryd.underlying9 ?_
  have hn := heap_alloc_new w (.cells #[.int .u8 a] 5)
  refine ⟨rfl, by decide, fun _ => ⟨_, rfl, fun j p hj => ⟨[.int .u8 p], rfl, rfl, fun i u hu => ?_⟩⟩⟩
  cases i with
  | zero =>
    simp at hu; subst hu; rw [add_plain, Lib.cell_of_heap hn]
    match j with
    | 0 => simp at hj; subst hj; rfl
    | j + 1 => simp at hj
  | succ i => simp at hu
/-- Where a number stands in a row; -1: nowhere. -/
def idxL (l : List Int) (x : Int) : Int := match l.findIdx? (fun y => y == x) with
  | some i => (i : Int)
  | none => -1
set_option maxRecDepth 100000 in
theorem indexW (A : Option Addr) (c : Nat) (l : List Int) (x : Int) (w : World) (hr : (Kd.int .u8).C w A l.length l) (hc : l.length ≤ c) :
    Calls Tryd.prog 42 #[.slice A l.length c, .int .u8 x] w fun e w' => e = .returned (.int .i64 (idxL l x)) ∧ w = w' := by
  have hm : l.length ≤ 9223372036854775807 := hr.2.1
  go_enter Tryd.func42, Tryd.ntmps42
  go_wp2_with fail
  go_loopw [8] (fun v wr => ∃ k : Nat, k ≤ l.length ∧ v = .int .i64 k ∧ (∀ j, (h : j < l.length) → j < k → ¬ l[j] = x) ∧ w = wr) (fun v _ => l.length - (intOf v).toNat)
  case atStart => exact ⟨0, by omega, rfl, fun j _ h => absurd h (Nat.not_lt_zero j), rfl⟩
  case round =>
    obtain ⟨k, hk, rfl, hno, rfl⟩ := hrel
    by_cases hlt : k < l.length
    · obtain ⟨ad, rfl, hx⟩ := Kd.at_int hr (k : Int) (by omega) (by omega)
      have hrd : rd l (k : Int) = l[k] := by unfold rd; rw [Int.toNat_natCast, List.getD_eq_getElem?_getD, List.getElem?_eq_getElem hlt]; rfl
      rw [hrd, Int.toNat_natCast] at hx
      by_cases he : x = l[k]
      · have hid : idxL l x = (k : Int) := by
          unfold idxL
          have : l.findIdx? (fun y => y == x) = some k := by
            rw [List.findIdx?_eq_some_iff_getElem]
            refine ⟨hlt, by simp [he], fun j hj => ?_⟩
            have := hno j (by omega) hj
            simpa using this
          rw [this]
        have HID := Aside0.mk hid
        rw [← he] at hx
        clear hid hno hrd he
        go_wp2
        go_ret
        exact ⟨by rw [HID.out]; rfl, rfl⟩
      · have he2 : (x == l[k]) = false := by rw [beq_eq_false_iff_ne]; exact he
        have hno2 : ∀ j, (h : j < l.length) → j < k + 1 → ¬ l[j] = x := fun j h hj => by
          by_cases e : j = k
          · subst e; exact fun q => he q.symm
          · exact hno j h (by omega)
        have HNO := Aside0.mk hno2
        generalize l[k] = q at hx he he2
        clear hno hno2 hrd
        go_wp2
        exact ⟨⟨k + 1, by omega, by go_num, HNO.out, trivial⟩, by simp [intOf]; omega⟩
    · obtain rfl : k = l.length := by omega
      have hid : idxL l x = -1 := by
        unfold idxL
        have : l.findIdx? (fun y => y == x) = none := by
          rw [List.findIdx?_eq_none_iff]
          intro y hy
          obtain ⟨j, hj, rfl⟩ := List.getElem_of_mem hy
          have := hno j hj hj
          simpa using this
        rw [this]
      have HID := Aside0.mk hid
      clear hid hno
      go_wp2
      go_ret
      exact ⟨by rw [HID.out]; rfl, rfl⟩
set_option maxRecDepth 100000 in
theorem putUI (w : World) (hL : LaidC w) :
    Calls Tryd.prog 26 #[.agg #[.int .i64 6, .bool false, .int .i64 0, .int .i64 0]] w fun e w' => e = .returned (.tuple #[.string (strOfNums [3]), .int .i64 0]) ∧ Below w.heap.size w w' := by
  have hb0 : Below w.heap.size w (w.alloc (.cells #[.int .i64 6, .bool false, .int .i64 0, .int .i64 0] 73)) := (Below.refl _ w).alloc (Nat.le_refl _) _
  have hcell : (w.alloc (.cells #[.int .i64 6, .bool false, .int .i64 0, .int .i64 0] 73)).cell? ⟨1, 6, none⟩ = some (.int .u8 3) := (hL.below hb0).1 6 3 rfl
  have hor : Go.bits .or .u8 3 0 = 3 := by decide +kernel
  have HB := Aside0.mk hb0
  clear hb0 hL
  go_enter Tryd.func26, Tryd.ntmps26
  go_wp2_with fail
  refine (goodW 6 _).mono ?_
  rintro e w1 ⟨rfl, rfl⟩
  go_wp2_with fail
  refine (numW 6 _).mono ?_
  rintro e w1 ⟨rfl, rfl⟩
  go_wp2_with fail
  refine (oneW false _).mono ?_
  rintro e w1 ⟨rfl, rfl⟩
  have hcv := one_str (w.alloc (.cells #[.int .i64 6, .bool false, .int .i64 0, .int .i64 0] 73)) 3
  have hz : (w.alloc (.cells #[.int .i64 6, .bool false, .int .i64 0, .int .i64 0] 73)).heap.size = w.heap.size + 1 := by show (w.heap.push _).size = _; simp
  rw [hz] at hcv
  go_wp2
  go_ret2
  exact ⟨rfl, HB.out.alloc HB.out.size _⟩
end Go.Proofs.YtmgiolpooamkkaaDoor.Fw
