/- Package ctrl by its own text, as far as a UI goes: its octet, and what is read of it. Condition: the package's tables stand as they were laid (LaidC). What the law's own frame's octets are packed of: package bits at these numbers. No condition. Package addr at the law's own frame's address. No condition. Package ctrl at an I frame's field. Condition: the package's tables stand as they were laid (LaidC). -/
import Derived.BigRegion
import Derived.Deep.RegionLaw
import Derived.Deep.RegionHeld3
import Derived.Lib.MinMax
import Derived.Test.YtljnfbpplhnmfaaGreatDoorUs22
namespace Go.Proofs.YtljnfbpplhnmfaaGreatDoor.Fw
open Go Go.RowKit Go.Proofs.YtljnfbpplhnmfaaGreatDoorW.PrintWords Go.Proofs.YtljnfbpplhnmfaaGreatDoorW.PrintLast Go.Proofs.YtljnfbpplhnmfaaGreatDoorW.PrintMore Go.Proofs.YtljnfbpplhnmfaaGreatDoor.Str
set_option linter.unusedVariables false
def tFirst : List Int := [0, 1, 5, 9, 111, 15, 3, 67, 99, 135]
def tNames : List ByteArray := [⟨#[73]⟩, ⟨#[82, 82]⟩, ⟨#[82, 78, 82]⟩, ⟨#[82, 69, 74]⟩, ⟨#[83, 65, 66, 77, 69]⟩, ⟨#[68, 77]⟩, ⟨#[85, 73]⟩, ⟨#[68, 73, 83, 67]⟩, ⟨#[85, 65]⟩, ⟨#[70, 82, 77, 82]⟩]
def LaidC (w : World) : Prop := (∀ i x, tFirst[i]? = some x → w.cell? ⟨0, i, none⟩ = some (.int .u8 x)) ∧ (∀ i x, tNames[i]? = some x → w.cell? ⟨1, i, none⟩ = some (.string x))
theorem LaidC.below {w w1 : World} (h : LaidC w) (hb : Below w.heap.size w w1) : LaidC w1 :=
  ⟨fun i x hx => pw_cell_below hb (h.1 i x hx), fun i x hx => pw_cell_below hb (h.2 i x hx)⟩
theorem LaidC.row {w : World} (h : LaidC w) : (Kd.int .u8).C w (some ⟨0, 1, none⟩) (tFirst.drop 1).length (tFirst.drop 1) := by
  refine ⟨rfl, by decide, fun _ => ⟨_, rfl, fun j p hj => ⟨[.int .u8 p], rfl, rfl, fun i u hu => ?_⟩⟩⟩
  cases i with
  | zero =>
    simp at hu; subst hu
    have hj' : tFirst[j + 1]? = some p := hj
    have := h.1 _ _ hj'
    have e : (⟨0, 1, none⟩ : Addr).add (j * 1 + 0) = ⟨0, j + 1, none⟩ := by
      unfold Addr.add; split <;> simp_all [Nat.add_comm]
    show w.cell? ((⟨0, 1, none⟩ : Addr).add (j * 1 + 0)) = _
    rw [e]; exact this
  | succ i => simp at hu
set_option maxRecDepth 100000 in
theorem goodW (k : Int) (w : World) : Calls Tryz.prog 132 #[.int .i64 k] w fun e w' => e = .returned (.bool (decide (0 ≤ k ∧ k < 10))) ∧ w = w' := by
  by_cases h0 : 0 ≤ k
  · by_cases h1 : k < 10
    · rw [decide_eq_true ⟨h0, h1⟩]
      go_enter Tryz.func132, Tryz.ntmps132
      go_wp2
      go_ret
      trivial
    · rw [decide_eq_false (by omega)]
      go_enter Tryz.func132, Tryz.ntmps132
      go_wp2
      go_ret
      trivial
  · rw [decide_eq_false (by omega)]
    go_enter Tryz.func132, Tryz.ntmps132
    go_wp2
    go_ret
    trivial
theorem numW (k : Int) (w : World) : Calls Tryz.prog 98 #[.int .i64 k] w fun e w' => e = .returned (.bool (decide (0 ≤ k ∧ k ≤ 3))) ∧ w = w' := by
  by_cases h0 : 0 ≤ k
  · by_cases h1 : k ≤ 3
    · rw [decide_eq_true ⟨h0, h1⟩]
      go_enter Tryz.func98, Tryz.ntmps98
      go_wp2
      go_ret
      trivial
    · rw [decide_eq_false (by omega)]
      go_enter Tryz.func98, Tryz.ntmps98
      go_wp2
      go_ret
      trivial
  · rw [decide_eq_false (by omega)]
    go_enter Tryz.func98, Tryz.ntmps98
    go_wp2
    go_ret
    trivial
theorem oneW (b : Bool) (w : World) : Calls Tryz.prog 133 #[.bool b] w fun e w' => e = .returned (.int .i64 (if b = true then 1 else 0)) ∧ w = w' := by
  cases b
  all_goals
    go_enter Tryz.func133, Tryz.ntmps133
    go_wp2
    go_ret
    trivial
theorem aoneW (b : Bool) (w : World) : Calls Tryz.prog 134 #[.bool b] w fun e w' => e = .returned (.int .i64 (if b = true then 1 else 0)) ∧ w = w' := by
  cases b
  all_goals
    go_enter Tryz.func134, Tryz.ntmps134
    go_wp2
    go_ret
    trivial
def idxL (l : List Int) (x : Int) : Int := match l.findIdx? (fun y => y == x) with
  | some i => (i : Int)
  | none => -1
set_option maxRecDepth 100000 in
theorem indexW (A : Option Addr) (c : Nat) (l : List Int) (x : Int) (w : World) (hr : (Kd.int .u8).C w A l.length l) (hc : l.length ≤ c) :
    Calls Tryz.prog 140 #[.slice A l.length c, .int .u8 x] w fun e w' => e = .returned (.int .i64 (idxL l x)) ∧ w = w' := by
  have hm : l.length ≤ 9223372036854775807 := hr.2.1
  go_enter Tryz.func140, Tryz.ntmps140
  go_wp2_with fail
  go_loopw [8] (fun v wr => ∃ k : Nat, k ≤ l.length ∧ v = .int .i64 k ∧ (∀ j, (h : j < l.length) → j < k → ¬ l[j] = x) ∧ w = wr) (fun v _ => l.length - (intOf v).toNat)
  case atStart => exact ⟨0, by omega, rfl, fun j _ h => absurd h (Nat.not_lt_zero j), rfl⟩
  case round =>
    obtain ⟨k, hk, rfl, hno, rfl⟩ := hrel
    by_cases hlt : k < l.length
    · obtain ⟨ad, rfl, hx⟩ := Kd.at_int hr (k : Int) (by omega) (by omega)
      have hrd : rd l (k : Int) = l[k] := by unfold rd; rw [Int.toNat_natCast, List.getD_eq_getElem?_getD, List.getElem?_eq_getElem hlt]; rfl
      rw [hrd, Int.toNat_natCast] at hx
      by_cases he : x = l[k]
      · have hid : idxL l x = (k : Int) := by
          unfold idxL
          have : l.findIdx? (fun y => y == x) = some k := by
            rw [List.findIdx?_eq_some_iff_getElem]
            refine ⟨hlt, by simp [he], fun j hj => ?_⟩
            have := hno j (by omega) hj
            simpa using this
          rw [this]
        have HID := Aside0.mk hid
        rw [← he] at hx
        clear hid hno hrd he
        go_wp2
        go_ret
        exact ⟨by rw [HID.out]; rfl, rfl⟩
      · have he2 : (x == l[k]) = false := by rw [beq_eq_false_iff_ne]; exact he
        have hno2 : ∀ j, (h : j < l.length) → j < k + 1 → ¬ l[j] = x := fun j h hj => by
          by_cases e : j = k
          · subst e; exact fun q => he q.symm
          · exact hno j h (by omega)
        have HNO := Aside0.mk hno2
        generalize l[k] = q at hx he he2
        clear hno hno2 hrd
        go_wp2
        exact ⟨⟨k + 1, by omega, by go_num, HNO.out, trivial⟩, by simp [intOf]; omega⟩
    · obtain rfl : k = l.length := by omega
      have hid : idxL l x = -1 := by
        unfold idxL
        have : l.findIdx? (fun y => y == x) = none := by
          rw [List.findIdx?_eq_none_iff]
          intro y hy
          obtain ⟨j, hj, rfl⟩ := List.getElem_of_mem hy
          have := hno j hj hj
          simpa using this
        rw [this]
      have HID := Aside0.mk hid
      clear hid hno
      go_wp2
      go_ret
      exact ⟨by rw [HID.out]; rfl, rfl⟩
end Go.Proofs.YtljnfbpplhnmfaaGreatDoor.Fw
namespace Go.Proofs.YtljnfbpplhnmfaaGreatDoor.Fw
open Go Go.RowKit Go.Proofs.YtljnfbpplhnmfaaGreatDoorW.PrintWords Go.Proofs.YtljnfbpplhnmfaaGreatDoorW.PrintLast Go.Proofs.YtljnfbpplhnmfaaGreatDoorW.PrintMore Go.Proofs.YtljnfbpplhnmfaaGreatDoor.Str
set_option linter.unusedVariables false
set_option maxRecDepth 100000
theorem cellB {w w' : World} {b : Nat} {cs : Array Value} {t : TypeId} {m : Nat × Nat} (h : w.heap[b]? = some (.cells cs t m)) (hb : Below w.heap.size w w') (j : Nat) (u : Value) (hu : cs[j]? = some u) : w'.cell? ⟨b, j, none⟩ = some u := by
  have h2 : w'.heap[b]? = some (.cells cs t m) := (hb.block b (Array.getElem?_eq_some_iff.1 h).1).trans h
  rw [Lib.cell_of_heap h2]; exact hu
theorem pack3r (b : Nat) (w : World) (T : TypeId) (fr : Nat × Nat) (hb : w.heap[b]? = some (.cells #[.int .i64 1, .int .i64 0, .int .i64 1, .int .i64 0, .int .i64 6, .int .i64 0] T fr)) :
    Calls Tryz.prog 106 #[.slice (some ⟨b, 0, none⟩) 3 3] w fun e w' => e = .returned (.tuple #[.int .u8 0, .int .i64 0]) ∧ Below w.heap.size w w' := by
  have HB := Aside0.mk hb
  clear hb
  go_enter Tryz.func106, Tryz.ntmps106
  go_wp2_with fail
  go_loopw [4, 5, 10] (fun x y i wr => Aside0 (Below w.heap.size w wr) ∧ (i = .int .i64 0 ∧ x = .int .i64 0 ∧ y = .int .i64 0 ∨ i = .int .i64 1 ∧ x = .int .i64 0 ∧ y = .int .i64 1 ∨ i = .int .i64 2 ∧ x = .int .i64 0 ∧ y = .int .i64 2 ∨ i = .int .i64 3 ∧ x = .int .i64 0 ∧ y = .int .i64 8)) (fun _ _ i _ => 3 - (intOf i).toNat)
  case atStart => exact ⟨⟨Below.refl _ w⟩, Or.inl ⟨rfl, rfl, rfl⟩⟩
  case round =>
    obtain ⟨HL, hc⟩ := hrel
    have k0 := cellB HB.out HL.out 0 (.int .i64 1) rfl
    have k1 := cellB HB.out HL.out 1 (.int .i64 0) rfl
    have k2 := cellB HB.out HL.out 2 (.int .i64 1) rfl
    have k3 := cellB HB.out HL.out 3 (.int .i64 0) rfl
    have k4 := cellB HB.out HL.out 4 (.int .i64 6) rfl
    have k5 := cellB HB.out HL.out 5 (.int .i64 0) rfl
    rcases hc with ⟨rfl, rfl, rfl⟩ | ⟨rfl, rfl, rfl⟩ | ⟨rfl, rfl, rfl⟩ | ⟨rfl, rfl, rfl⟩
    · go_wp2_with fail
      exact ⟨⟨⟨HL.out.alloc HL.out.size _⟩, Or.inr (Or.inl ⟨rfl, congrArg (Value.int .i64) (by decide +kernel), congrArg (Value.int .i64) (by decide +kernel)⟩)⟩, by decide⟩
    · go_wp2_with fail
      exact ⟨⟨⟨HL.out.alloc HL.out.size _⟩, Or.inr (Or.inr (Or.inl ⟨rfl, congrArg (Value.int .i64) (by decide +kernel), congrArg (Value.int .i64) (by decide +kernel)⟩))⟩, by decide⟩
    · go_wp2_with fail
      exact ⟨⟨⟨HL.out.alloc HL.out.size _⟩, Or.inr (Or.inr (Or.inr (⟨rfl, congrArg (Value.int .i64) (by decide +kernel), congrArg (Value.int .i64) (by decide +kernel)⟩)))⟩, by decide⟩
    · go_wp2
      go_ret2
      exact ⟨rfl, HL.out⟩
theorem pack2r (b : Nat) (w : World) (T : TypeId) (fr : Nat × Nat) (hb : w.heap[b]? = some (.cells #[.int .i64 1, .int .i64 1, .int .i64 7, .int .i64 64] T fr)) :
    Calls Tryz.prog 106 #[.slice (some ⟨b, 0, none⟩) 2 2] w fun e w' => e = .returned (.tuple #[.int .u8 129, .int .i64 0]) ∧ Below w.heap.size w w' := by
  have HB := Aside0.mk hb
  clear hb
  go_enter Tryz.func106, Tryz.ntmps106
  go_wp2_with fail
  go_loopw [4, 5, 10] (fun x y i wr => Aside0 (Below w.heap.size w wr) ∧ (i = .int .i64 0 ∧ x = .int .i64 0 ∧ y = .int .i64 0 ∨ i = .int .i64 1 ∧ x = .int .i64 1 ∧ y = .int .i64 1 ∨ i = .int .i64 2 ∧ x = .int .i64 129 ∧ y = .int .i64 8)) (fun _ _ i _ => 2 - (intOf i).toNat)
  case atStart => exact ⟨⟨Below.refl _ w⟩, Or.inl ⟨rfl, rfl, rfl⟩⟩
  case round =>
    obtain ⟨HL, hc⟩ := hrel
    have k0 := cellB HB.out HL.out 0 (.int .i64 1) rfl
    have k1 := cellB HB.out HL.out 1 (.int .i64 1) rfl
    have k2 := cellB HB.out HL.out 2 (.int .i64 7) rfl
    have k3 := cellB HB.out HL.out 3 (.int .i64 64) rfl
    rcases hc with ⟨rfl, rfl, rfl⟩ | ⟨rfl, rfl, rfl⟩ | ⟨rfl, rfl, rfl⟩
    · go_wp2_with fail
      exact ⟨⟨⟨HL.out.alloc HL.out.size _⟩, Or.inr (Or.inl ⟨rfl, congrArg (Value.int .i64) (by decide +kernel), congrArg (Value.int .i64) (by decide +kernel)⟩)⟩, by decide⟩
    · go_wp2_with fail
      exact ⟨⟨⟨HL.out.alloc HL.out.size _⟩, Or.inr (Or.inr (⟨rfl, congrArg (Value.int .i64) (by decide +kernel), congrArg (Value.int .i64) (by decide +kernel)⟩))⟩, by decide⟩
    · go_wp2
      go_ret2
      exact ⟨rfl, HL.out⟩
theorem pack2b (b : Nat) (w : World) (T : TypeId) (fr : Nat × Nat) (hb : w.heap[b]? = some (.cells #[.int .i64 1, .int .i64 0, .int .i64 7, .int .i64 0] T fr)) :
    Calls Tryz.prog 106 #[.slice (some ⟨b, 0, none⟩) 2 2] w fun e w' => e = .returned (.tuple #[.int .u8 0, .int .i64 0]) ∧ Below w.heap.size w w' := by
  have HB := Aside0.mk hb
  clear hb
  go_enter Tryz.func106, Tryz.ntmps106
  go_wp2_with fail
  go_loopw [4, 5, 10] (fun x y i wr => Aside0 (Below w.heap.size w wr) ∧ (i = .int .i64 0 ∧ x = .int .i64 0 ∧ y = .int .i64 0 ∨ i = .int .i64 1 ∧ x = .int .i64 0 ∧ y = .int .i64 1 ∨ i = .int .i64 2 ∧ x = .int .i64 0 ∧ y = .int .i64 8)) (fun _ _ i _ => 2 - (intOf i).toNat)
  case atStart => exact ⟨⟨Below.refl _ w⟩, Or.inl ⟨rfl, rfl, rfl⟩⟩
  case round =>
    obtain ⟨HL, hc⟩ := hrel
    have k0 := cellB HB.out HL.out 0 (.int .i64 1) rfl
    have k1 := cellB HB.out HL.out 1 (.int .i64 0) rfl
    have k2 := cellB HB.out HL.out 2 (.int .i64 7) rfl
    have k3 := cellB HB.out HL.out 3 (.int .i64 0) rfl
    rcases hc with ⟨rfl, rfl, rfl⟩ | ⟨rfl, rfl, rfl⟩ | ⟨rfl, rfl, rfl⟩
    · go_wp2_with fail
      exact ⟨⟨⟨HL.out.alloc HL.out.size _⟩, Or.inr (Or.inl ⟨rfl, congrArg (Value.int .i64) (by decide +kernel), congrArg (Value.int .i64) (by decide +kernel)⟩)⟩, by decide⟩
    · go_wp2_with fail
      exact ⟨⟨⟨HL.out.alloc HL.out.size _⟩, Or.inr (Or.inr (⟨rfl, congrArg (Value.int .i64) (by decide +kernel), congrArg (Value.int .i64) (by decide +kernel)⟩))⟩, by decide⟩
    · go_wp2
      go_ret2
      exact ⟨rfl, HL.out⟩
theorem field026 (w : World) : Calls Tryz.prog 139 #[.int .u8 0, .int .i64 2, .int .i64 6] w fun e w' => e = .returned (.int .i64 0) ∧ Below w.heap.size w w' := by
  have hs : Go.bits .and .i64 0 (wrap64 (wrap64 (2 ^ (min 6 8 : Int).toNat) - 1)) = 0 := by decide +kernel
  go_enter Tryz.func139, Tryz.ntmps139
  go_wp2_with fail
  go_quiet (fail)
  have hb : Below w.heap.size w (w.drewN nq) := pw_below_drewN (Below.refl _ w) nq
  have HB := Aside0.mk hb
  clear hb
  generalize w.drewN nq = w1 at *
  go_wp2
  go_ret
  exact ⟨rfl, HB.out⟩
theorem field129 (w : World) : Calls Tryz.prog 139 #[.int .u8 129, .int .i64 1, .int .i64 7] w fun e w' => e = .returned (.int .i64 64) ∧ Below w.heap.size w w' := by
  have hs : Go.bits .and .i64 64 (wrap64 (wrap64 (2 ^ (min 7 8 : Int).toNat) - 1)) = 64 := by decide +kernel
  go_enter Tryz.func139, Tryz.ntmps139
  go_wp2_with fail
  go_quiet (fail)
  have hb : Below w.heap.size w (w.drewN nq) := pw_below_drewN (Below.refl _ w) nq
  have HB := Aside0.mk hb
  clear hb
  generalize w.drewN nq = w1 at *
  go_wp2
  go_ret
  exact ⟨rfl, HB.out⟩
theorem field011 (w : World) : Calls Tryz.prog 139 #[.int .u8 0, .int .i64 1, .int .i64 1] w fun e w' => e = .returned (.int .i64 0) ∧ Below w.heap.size w w' := by
  have hs : Go.bits .and .i64 0 (wrap64 (wrap64 (2 ^ (min 1 8 : Int).toNat) - 1)) = 0 := by decide +kernel
  go_enter Tryz.func139, Tryz.ntmps139
  go_wp2_with fail
  go_quiet (fail)
  have hb : Below w.heap.size w (w.drewN nq) := pw_below_drewN (Below.refl _ w) nq
  have HB := Aside0.mk hb
  clear hb
  generalize w.drewN nq = w1 at *
  go_wp2
  go_ret
  exact ⟨rfl, HB.out⟩
theorem field017 (w : World) : Calls Tryz.prog 139 #[.int .u8 0, .int .i64 1, .int .i64 7] w fun e w' => e = .returned (.int .i64 0) ∧ Below w.heap.size w w' := by
  have hs : Go.bits .and .i64 0 (wrap64 (wrap64 (2 ^ (min 7 8 : Int).toNat) - 1)) = 0 := by decide +kernel
  go_enter Tryz.func139, Tryz.ntmps139
  go_wp2_with fail
  go_quiet (fail)
  have hb : Below w.heap.size w (w.drewN nq) := pw_below_drewN (Below.refl _ w) nq
  have HB := Aside0.mk hb
  clear hb
  generalize w.drewN nq = w1 at *
  go_wp2
  go_ret
  exact ⟨rfl, HB.out⟩
end Go.Proofs.YtljnfbpplhnmfaaGreatDoor.Fw
namespace Go.Proofs.YtljnfbpplhnmfaaGreatDoor.Fw
open Go Go.RowKit Go.Proofs.YtljnfbpplhnmfaaGreatDoorW.PrintWords Go.Proofs.YtljnfbpplhnmfaaGreatDoorW.PrintLast Go.Proofs.YtljnfbpplhnmfaaGreatDoorW.PrintMore Go.Proofs.YtljnfbpplhnmfaaGreatDoor.Str
set_option linter.unusedVariables false
set_option maxHeartbeats 4000000 in
set_option maxRecDepth 100000 in
theorem aputR (w : World) :
    Calls Tryz.prog 95 #[.agg #[.int .i64 0, .int .i64 64, .bool false]] w fun e w' => e = .returned (.tuple #[.string (strOfNums [0, 129]), .int .i64 0]) ∧ Below w.heap.size w w' := by
  go_enter Tryz.func95, Tryz.ntmps95
  go_wp2_with fail
  have hb0 : Below w.heap.size w (w.alloc (.cells #[.int .i64 0, .int .i64 64, .bool false] 195)) := (Below.refl _ w).alloc (Nat.le_refl _) _
  have hz0 : (w.alloc (.cells #[.int .i64 0, .int .i64 64, .bool false] 195)).heap.size = w.heap.size + 1 := by show (w.heap.push _).size = _; simp
  have hn0 := heap_alloc_new w (.cells #[.int .i64 0, .int .i64 64, .bool false] 195)
  generalize w.alloc (.cells #[.int .i64 0, .int .i64 64, .bool false] 195) = w0 at hb0 hz0 hn0 ⊢
  have HN := Aside0.mk (heap_alloc_new w0.drew (.cells #[.int .i64 1, .int .i64 0, .int .i64 1, .int .i64 0, .int .i64 6, .int .i64 0] 36))
  have HB0 := Aside0.mk hb0
  have HN0 := Aside0.mk hn0
  have x0 : w0.cell? ⟨w.heap.size, 0, none⟩ = some (.int .i64 0) := by rw [Lib.cell_of_heap hn0]; rfl
  have x1 : w0.cell? ⟨w.heap.size, 1, none⟩ = some (.int .i64 64) := by rw [Lib.cell_of_heap hn0]; rfl
  have x2 : w0.cell? ⟨w.heap.size, 2, none⟩ = some (.bool false) := by rw [Lib.cell_of_heap hn0]; rfl
  clear hb0 hz0 hn0
  go_region_law (first | (go_simp; go_at_call 134; refine (aoneW false _).mono ?_; rintro e w' ⟨rfl, rfl⟩) | (go_simp; go_at_call 106; refine (pack3r _ _ _ _ HN.out).mono ?_; rintro e w1 ⟨rfl, hb1⟩; have HB1 := Aside0.mk hb1; clear hb1))
  all_goals
    have B1 : Below w.heap.size w w1 := below_step (HB0.out.drew.alloc HB0.out.size _) HB1.out
    have y0 : w1.cell? ⟨w.heap.size, 1, none⟩ = some (.int .i64 64) := pw_cell_below HB1.out (pw_cell_below ((Below.refl _ w0.drew).alloc (Nat.le_refl _) _) x1)
    have HB2 := Aside0.mk B1
    have HM := Aside0.mk (heap_alloc_new w1 (.cells #[.int .i64 1, .int .i64 1, .int .i64 7, .int .i64 64] 36))
    clear B1 HB1 HN HB0 HN0 x0 x1 x2
    go_wp2_with fail
    refine (pack2r _ _ _ _ HM.out).mono ?_
    rintro e w2 ⟨rfl, hb2⟩
    have HB3 := Aside0.mk (below_step (HB2.out.alloc HB2.out.size _) hb2)
    have hcv := two_str w2 0 129
    clear hb2 HM HB2 y0
    go_wp2
    go_ret2
    exact ⟨rfl, HB3.out.alloc HB3.out.size _⟩
set_option maxHeartbeats 4000000 in
set_option maxRecDepth 100000 in
theorem agetR (s : ByteArray) (w : World) (hs : 2 ≤ s.size) (hs6 : s.size ≤ 9223372036854775807) (hx : ((s[0]'(by omega)).toNat : Int) = 0) (hy : ((s[1]'(by omega)).toNat : Int) = 129) :
    Calls Tryz.prog 103 #[.string s] w fun e w' => e = .returned (.tuple #[.agg #[.int .i64 0, .int .i64 64, .bool false], .int .i64 0]) ∧ Below w.heap.size w w' := by
  have a1 : Go.bits .and .u8 0 1 = 0 := by decide +kernel
  have a2 : Go.bits .and .u8 129 1 = 1 := by decide +kernel
  have h2 : ¬ (s.size : Int) < 2 := by omega
  have p0 : 0 < s.size := by omega
  have p1 : 1 < s.size := by omega
  have p2 : (1 : Int) < (s.size : Int) := by omega
  go_enter Tryz.func103, Tryz.ntmps103
  go_wp2_with fail
  have hb0 : Below w.heap.size w (w.alloc (.cells #[.int .i64 0, .int .i64 0, .bool false] 195)).drew := ((Below.refl _ w).alloc (Nat.le_refl _) _).drew
  have HK : Aside0 ((w.alloc (.cells #[.int .i64 0, .int .i64 0, .bool false] 195)).drew.heap[w.heap.size]? = some (.cells #[.int .i64 0, .int .i64 0, .bool false] 195 (0, 0))) := ⟨heap_alloc_new w _⟩
  have HB := Aside0.mk hb0
  clear hb0
  go_region_held3 (fun _ => True) (trivial) ((go_at_call 139; (first | with_reducible refine (field026 _).mono ?_ | with_reducible refine (field129 _).mono ?_ | with_reducible refine (field011 _).mono ?_); rintro e w1 ⟨rfl, hb⟩; replace HK := Aside0.mk ((hb.block _ (Array.getElem?_eq_some_iff.1 HK.out).1).trans HK.out); replace HB := Aside0.mk (below_step HB.out hb); clear hb; have c0 : w1.cell? ⟨w.heap.size, 0, none⟩ = some (.int .i64 0) := (by rw [Lib.cell_of_heap HK.out]; rfl); have c1 : w1.cell? ⟨w.heap.size, 1, none⟩ = some (.int .i64 0) := (by rw [Lib.cell_of_heap HK.out]; rfl); have c2 : w1.cell? ⟨w.heap.size, 2, none⟩ = some (.bool false) := (by rw [Lib.cell_of_heap HK.out]; rfl); have g0 := Lib.frozen_of_heap HK.out 0; have g1 := Lib.frozen_of_heap HK.out 1; have g2 := Lib.frozen_of_heap HK.out 2))
  all_goals
    go_wp2
    refine bodyPost_ret (results_ct rfl _ _ w.heap.size 195 #[.int .i64 0, .int .i64 64, .bool false] (0, 0) _ rfl (blk_put (cs := #[.int .i64 0, .int .i64 64, .bool false]) (blk_put (cs := #[.int .i64 0, .int .i64 0, .bool false]) (blk_put (cs := #[.int .i64 0, .int .i64 0, .bool false]) HK.out 0 _ rfl) 1 _ rfl) 2 _ rfl) Tryz.underlying195 rfl (by kernel_rfl)) rfl ?_
    exact ⟨rfl, ((HB.out.setCell (p := ⟨w.heap.size, 0, none⟩) (Nat.le_refl _) _).setCell (p := ⟨w.heap.size, 1, none⟩) (Nat.le_refl _) _).setCell (p := ⟨w.heap.size, 2, none⟩) (Nat.le_refl _) _⟩
theorem results_c1 {P : Program} {fn : Func} {p : Tmp} {ty : TypeId} (h : fn.results = #[.cell p ty]) (tmps : Array Value) (w : World) (g : Nat) (t : TypeId) (cs : Array Value) (fr : Nat × Nat) (d : TypeDesc)
    (hp : tmps.getD p undef = .pointer (some ⟨g, 0, none⟩)) (hg : w.heap[g]? = some (.cells cs t fr))
    (hu : P.underlying ty = some d) (hd : (match d with | .struct _ | .array _ _ => true | _ => false) = true) (hi : (P.info? ty).map (·.size) = some cs.size) :
    (results fn tmps).run P w = .ok (.agg cs) w := by
  have hp' : tmps[p]?.getD undef = .pointer (some ⟨g, 0, none⟩) := by simpa using hp
  simp [results, h, hp', asAddr, run_loadVar_row w g t ty cs fr d hg hu hd hi]
theorem makeW (s t : Int) (c n : Bool) (w : World) :
    Calls Tryz.prog 96 #[.agg #[.int .i64 s, .int .i64 t], .bool c, .bool n] w fun e w' => e = .returned (.agg #[.int .i64 s, .int .i64 t, .bool (c == n)]) ∧ Below w.heap.size w w' := by
  have hz0 : (w.alloc (.cells #[.int .i64 s, .int .i64 t] 141)).heap.size = w.heap.size + 1 := by show (w.heap.push _).size = _; simp
  have hn := heap_alloc_new (w.alloc (.cells #[.int .i64 s, .int .i64 t] 141)) (.cells #[.int .i64 s, .int .i64 t, .bool (c == n)] 195)
  rw [hz0] at hn
  have HN := Aside0.mk hn
  clear hn hz0
  go_enter Tryz.func96, Tryz.ntmps96
  go_wp2_with fail
  refine bodyPost_ret (results_c1 rfl _ _ (w.heap.size + 1) 195 #[.int .i64 s, .int .i64 t, .bool (c == n)] (0, 0) _ rfl HN.out Tryz.underlying195 rfl (by kernel_rfl)) rfl ?_
  exact ⟨rfl, ((Below.refl _ w).alloc (Nat.le_refl _) _).alloc (by show _ ≤ (w.heap.push _).size; simp) _⟩
theorem cmdW (s t : Int) (c n : Bool) (w : World) :
    Calls Tryz.prog 105 #[.agg #[.int .i64 s, .int .i64 t, .bool c], .bool n] w fun e w' => e = .returned (.bool (c == n)) ∧ Below w.heap.size w w' := by
  go_enter Tryz.func105, Tryz.ntmps105
  go_wp2_with fail
  go_ret
  exact ⟨rfl, (Below.refl _ w).alloc (Nat.le_refl _) _⟩
end Go.Proofs.YtljnfbpplhnmfaaGreatDoor.Fw
namespace Go.Proofs.YtljnfbpplhnmfaaGreatDoor.Fw
open Go Go.RowKit Go.Proofs.YtljnfbpplhnmfaaGreatDoorW.PrintWords Go.Proofs.YtljnfbpplhnmfaaGreatDoorW.PrintLast Go.Proofs.YtljnfbpplhnmfaaGreatDoorW.PrintMore Go.Proofs.YtljnfbpplhnmfaaGreatDoor.Str
set_option linter.unusedVariables false
theorem cellQ {w : World} {b : Nat} {cs : Array Value} {t : TypeId} {m : Nat × Nat} (h : w.heap[b]? = some (.cells cs t m)) (j : Nat) (u : Value) (hu : cs[j]? = some u) : w.cell? ⟨b, j, none⟩ = some u := by
  rw [Lib.cell_of_heap h]; exact hu
set_option maxHeartbeats 4000000 in
set_option maxRecDepth 100000 in
theorem putI (w : World) (hL : LaidC w) :
    Calls Tryz.prog 94 #[.agg #[.int .i64 0, .bool false, .int .i64 0, .int .i64 0]] w fun e w' => e = .returned (.tuple #[.string (strOfNums [0, 0]), .int .i64 0]) ∧ Below w.heap.size w w' := by
  have hb0 : Below w.heap.size w (w.alloc (.cells #[.int .i64 0, .bool false, .int .i64 0, .int .i64 0] 192)) := (Below.refl _ w).alloc (Nat.le_refl _) _
  have hz0 : (w.alloc (.cells #[.int .i64 0, .bool false, .int .i64 0, .int .i64 0] 192)).heap.size = w.heap.size + 1 := by show (w.heap.push _).size = _; simp
  have hn0 := heap_alloc_new w (.cells #[.int .i64 0, .bool false, .int .i64 0, .int .i64 0] 192)
  have hcell : (w.alloc (.cells #[.int .i64 0, .bool false, .int .i64 0, .int .i64 0] 192)).cell? ⟨0, 0, none⟩ = some (.int .u8 0) := (hL.below hb0).1 0 0 rfl
  clear hL
  go_enter Tryz.func94, Tryz.ntmps94
  go_wp2_with fail
  generalize w.alloc (.cells #[.int .i64 0, .bool false, .int .i64 0, .int .i64 0] 192) = w0 at hb0 hz0 hn0 hcell ⊢
  have HB0 := Aside0.mk hb0
  have HN0 := Aside0.mk hn0
  have x0 : w0.cell? ⟨w.heap.size, 0, none⟩ = some (.int .i64 0) := by rw [Lib.cell_of_heap hn0]; rfl
  have x1 : w0.cell? ⟨w.heap.size, 1, none⟩ = some (.bool false) := by rw [Lib.cell_of_heap hn0]; rfl
  have x2 : w0.cell? ⟨w.heap.size, 2, none⟩ = some (.int .i64 0) := by rw [Lib.cell_of_heap hn0]; rfl
  have x3 : w0.cell? ⟨w.heap.size, 3, none⟩ = some (.int .i64 0) := by rw [Lib.cell_of_heap hn0]; rfl
  clear hb0 hz0 hn0
  refine (goodW 0 _).mono ?_
  rintro e w1 ⟨rfl, rfl⟩
  go_wp2_with fail
  refine (numW 0 _).mono ?_
  rintro e w1 ⟨rfl, rfl⟩
  have HN := Aside0.mk (heap_alloc_new w0.drew (.cells #[.int .i64 1, .int .i64 0, .int .i64 7, .int .i64 0] 36))
  go_wp2_with fail
  go_region_law (first | (go_simp; go_at_call 133; refine (oneW false _).mono ?_; rintro e w' ⟨rfl, rfl⟩) | (go_simp; go_at_call 106; refine (pack2b _ _ _ _ HN.out).mono ?_; rintro e w1 ⟨rfl, hb1⟩; have HB1 := Aside0.mk hb1; clear hb1))
  all_goals
    have B1 : Below w.heap.size w w1 := below_step (HB0.out.drew.alloc HB0.out.size _) HB1.out
    have y0 : w1.cell? ⟨w.heap.size, 0, none⟩ = some (.int .i64 0) := pw_cell_below HB1.out (pw_cell_below ((Below.refl _ w0.drew).alloc (Nat.le_refl _) _) x0)
    have y2 : w1.cell? ⟨w.heap.size, 2, none⟩ = some (.int .i64 0) := pw_cell_below HB1.out (pw_cell_below ((Below.refl _ w0.drew).alloc (Nat.le_refl _) _) x2)
    have HB2 := Aside0.mk B1
    have HM := Aside0.mk (heap_alloc_new w1 (.cells #[.int .i64 1, .int .i64 0, .int .i64 7, .int .i64 0] 36))
    clear B1 HB1 HN HB0 HN0 x0 x1 x2 x3 hcell
    go_wp2_with fail
    refine (pack2b _ _ _ _ HM.out).mono ?_
    rintro e w2 ⟨rfl, hb2⟩
    have HB3 := Aside0.mk (below_step (HB2.out.alloc HB2.out.size _) hb2)
    have hcv := two_str w2 0 0
    clear hb2 HM HB2 y0 y2
    go_wp2
    go_ret2
    exact ⟨rfl, HB3.out.alloc HB3.out.size _⟩
set_option maxHeartbeats 4000000 in
set_option maxRecDepth 100000 in
theorem getI (s : ByteArray) (w : World) (hL : LaidC w) (hs : 2 ≤ s.size) (hs6 : s.size ≤ 9223372036854775807) (hx : ((s[0]'(by omega)).toNat : Int) = 0) (hy : ((s[1]'(by omega)).toNat : Int) = 0) :
    Calls Tryz.prog 104 #[.string s] w fun e w' => e = .returned (.tuple #[.agg #[.int .i64 0, .bool false, .int .i64 0, .int .i64 0], .int .i64 2, .int .i64 0]) ∧ Below w.heap.size w w' := by
  have hne : s.toList.isEmpty = false := by
    rw [toList_L]
    rw [size_L] at hs
    cases h : L s with
    | nil => rw [h] at hs; simp at hs
    | cons a r => rfl
  have a1 : Go.bits .and .u8 0 1 = 0 := by decide +kernel
  have a16 : Go.bits .and .u8 0 16 = 0 := by decide +kernel
  have an : Go.bits .andNot .u8 0 16 = 0 := by decide +kernel
  have h2 : ¬ (s.size : Int) < 2 := by omega
  have p0 : 0 < s.size := by omega
  have p1 : 1 < s.size := by omega
  have p2 : (1 : Int) < (s.size : Int) := by omega
  have hb0 : Below w.heap.size w (w.alloc (.cells #[.int .i64 0, .bool false, .int .i64 0, .int .i64 0] 192)) := (Below.refl _ w).alloc (Nat.le_refl _) _
  have HR := Aside0.mk (hL.below hb0).row
  have HB := Aside0.mk hb0
  clear hb0 hL
  go_enter Tryz.func104, Tryz.ntmps104
  go_wp2_with fail
  refine (indexW (some ⟨0, 1, none⟩) _ (tFirst.drop 1) 0 _ HR.out (Nat.le_refl _)).mono ?_
  rintro e w1 ⟨rfl, rfl⟩
  have hi : idxL (tFirst.drop 1) 0 = -1 := by decide +kernel
  rw [hi]
  go_wp2_with fail
  refine (indexW (some ⟨0, 1, none⟩) _ (tFirst.drop 1) 0 _ HR.out (Nat.le_refl _)).mono ?_
  rintro e w1 ⟨rfl, rfl⟩
  rw [hi]
  go_wp2_with fail
  refine (numW 0 _).mono ?_
  rintro e w1 ⟨rfl, rfl⟩
  have HK : Aside0 (((w.alloc (.cells #[.int .i64 0, .bool false, .int .i64 0, .int .i64 0] 192)).alloc (.cells #[.int .i64 0, .bool false, .int .i64 0, .int .i64 0] 192)).heap[w.heap.size]? = some (.cells #[.int .i64 0, .bool false, .int .i64 0, .int .i64 0] 192 (0, 0))) := ⟨blk_alloc (blk_new w _) _⟩
  have HM : Aside0 (((w.alloc (.cells #[.int .i64 0, .bool false, .int .i64 0, .int .i64 0] 192)).alloc (.cells #[.int .i64 0, .bool false, .int .i64 0, .int .i64 0] 192)).heap[w.heap.size + 1]? = some (.cells #[.int .i64 0, .bool false, .int .i64 0, .int .i64 0] 192 (0, 0))) := ⟨by
    have h1 := blk_new (w.alloc (.cells #[.int .i64 0, .bool false, .int .i64 0, .int .i64 0] 192)) (.cells #[.int .i64 0, .bool false, .int .i64 0, .int .i64 0] 192)
    have h2 : (w.alloc (.cells #[.int .i64 0, .bool false, .int .i64 0, .int .i64 0] 192)).heap.size = w.heap.size + 1 := by show (w.heap.push _).size = _; simp
    rw [h2] at h1
    exact h1⟩
  have HB2 := Aside0.mk (HB.out.alloc HB.out.size (.cells #[.int .i64 0, .bool false, .int .i64 0, .int .i64 0] 192))
  generalize (w.alloc (.cells #[.int .i64 0, .bool false, .int .i64 0, .int .i64 0] 192)).alloc (.cells #[.int .i64 0, .bool false, .int .i64 0, .int .i64 0] 192) = w2 at *
  clear HB HR
  go_wp2_with fail
  replace HK : Aside0 (w2.drew.heap[w.heap.size]? = some (.cells #[.int .i64 0, .bool false, .int .i64 0, .int .i64 0] 192 (0, 0))) := ⟨HK.out⟩
  replace HM : Aside0 (w2.drew.heap[w.heap.size + 1]? = some (.cells #[.int .i64 0, .bool false, .int .i64 0, .int .i64 0] 192 (0, 0))) := ⟨HM.out⟩
  replace HB2 := Aside0.mk HB2.out.drew
  go_region_held3 (fun _ => True) (trivial) ((go_at_call 139; with_reducible refine (field017 _).mono ?_; rintro e w1 ⟨rfl, hb⟩; replace HK := Aside0.mk ((hb.block _ (Array.getElem?_eq_some_iff.1 HK.out).1).trans HK.out); replace HM := Aside0.mk ((hb.block _ (Array.getElem?_eq_some_iff.1 HM.out).1).trans HM.out); replace HB2 := Aside0.mk (below_step HB2.out hb); clear hb; have c0 := cellQ HM.out 0 (.int .i64 0) rfl; have c1 := cellQ HM.out 1 (.bool false) rfl; have c2 := cellQ HM.out 2 (.int .i64 0) rfl; have c3 := cellQ HM.out 3 (.int .i64 0) rfl; have g0 := Lib.frozen_of_heap HM.out 0; have g1 := Lib.frozen_of_heap HM.out 1; have g2 := Lib.frozen_of_heap HM.out 2; have g3 := Lib.frozen_of_heap HM.out 3))
  all_goals
    go_wp2_with fail
    have HM2 : Aside0 (((w1.setCell ⟨w.heap.size + 1, 1, none⟩ (.bool false)).setCell ⟨w.heap.size + 1, 3, none⟩ (.int .i64 0)).heap[w.heap.size + 1]? = some (.cells #[.int .i64 0, .bool false, .int .i64 0, .int .i64 0] 192 (0, 0))) := ⟨blk_put (blk_put (cs' := #[.int .i64 0, .bool false, .int .i64 0, .int .i64 0]) HM.out 1 (.bool false) rfl) 3 (.int .i64 0) rfl⟩
    have HK2 : Aside0 (((w1.setCell ⟨w.heap.size + 1, 1, none⟩ (.bool false)).setCell ⟨w.heap.size + 1, 3, none⟩ (.int .i64 0)).heap[w.heap.size]? = some (.cells #[.int .i64 0, .bool false, .int .i64 0, .int .i64 0] 192 (0, 0))) := ⟨(Below.heap_setCell _ _ _ _ (by show ¬ w.heap.size = w.heap.size + 1; omega)).trans ((Below.heap_setCell _ _ _ _ (by show ¬ w.heap.size = w.heap.size + 1; omega)).trans HK.out)⟩
    have HB3 := Aside0.mk ((HB2.out.setCell (p := ⟨w.heap.size + 1, 1, none⟩) (Nat.le_succ _) (.bool false)).setCell (p := ⟨w.heap.size + 1, 3, none⟩) (Nat.le_succ _) (.int .i64 0))
    clear c0 c1 c2 c3 g0 g1 g2 g3 HK HM HB2
    generalize (w1.setCell ⟨w.heap.size + 1, 1, none⟩ (.bool false)).setCell ⟨w.heap.size + 1, 3, none⟩ (.int .i64 0) = w3 at *
    refine (field017 _).mono ?_
    rintro e w4 ⟨rfl, hb⟩
    have HK := Aside0.mk ((hb.block _ (Array.getElem?_eq_some_iff.1 HK2.out).1).trans HK2.out)
    have HM := Aside0.mk ((hb.block _ (Array.getElem?_eq_some_iff.1 HM2.out).1).trans HM2.out)
    have HB := Aside0.mk (below_step HB3.out hb)
    clear hb HK2 HM2 HB3
    have c0 := cellQ HM.out 0 (.int .i64 0) rfl
    have c1 := cellQ HM.out 1 (.bool false) rfl
    have c2 := cellQ HM.out 2 (.int .i64 0) rfl
    have c3 := cellQ HM.out 3 (.int .i64 0) rfl
    have g2 := Lib.frozen_of_heap HM.out 2
    have d0 := cellQ HK.out 0 (.int .i64 0) rfl
    have d1 := cellQ HK.out 1 (.bool false) rfl
    have d2 := cellQ HK.out 2 (.int .i64 0) rfl
    have d3 := cellQ HK.out 3 (.int .i64 0) rfl
    have e0 := Lib.frozen_of_heap HK.out 0
    have e1 := Lib.frozen_of_heap HK.out 1
    have e2 := Lib.frozen_of_heap HK.out 2
    have e3 := Lib.frozen_of_heap HK.out 3
    go_wp2_with fail
    have hkk : (((((w4.setCell ⟨w.heap.size + 1, 2, none⟩ (.int .i64 0)).setCell ⟨w.heap.size, 0, none⟩ (.int .i64 0)).setCell ⟨w.heap.size, 1, none⟩ (.bool false)).setCell ⟨w.heap.size, 2, none⟩ (.int .i64 0)).setCell ⟨w.heap.size, 3, none⟩ (.int .i64 0)).heap[w.heap.size]? = some (.cells #[.int .i64 0, .bool false, .int .i64 0, .int .i64 0] 192 (0, 0)) :=
      blk_put (blk_put (cs' := #[.int .i64 0, .bool false, .int .i64 0, .int .i64 0]) (blk_put (cs' := #[.int .i64 0, .bool false, .int .i64 0, .int .i64 0]) (blk_put (cs' := #[.int .i64 0, .bool false, .int .i64 0, .int .i64 0]) ((Below.heap_setCell _ _ _ _ (by show ¬ w.heap.size = w.heap.size + 1; omega)).trans HK.out) 0 (.int .i64 0) rfl) 1 (.bool false) rfl) 2 (.int .i64 0) rfl) 3 (.int .i64 0) rfl
    refine bodyPost_ret (results_ctt rfl _ _ w.heap.size 192 #[.int .i64 0, .bool false, .int .i64 0, .int .i64 0] (0, 0) _ rfl hkk Tryz.underlying192 rfl (by kernel_rfl)) rfl ?_
    exact ⟨rfl, ((((HB.out.setCell (p := ⟨w.heap.size + 1, 2, none⟩) (Nat.le_succ _) _).setCell (p := ⟨w.heap.size, 0, none⟩) (Nat.le_refl _) _).setCell (p := ⟨w.heap.size, 1, none⟩) (Nat.le_refl _) _).setCell (p := ⟨w.heap.size, 2, none⟩) (Nat.le_refl _) _).setCell (p := ⟨w.heap.size, 3, none⟩) (Nat.le_refl _) _⟩
end Go.Proofs.YtljnfbpplhnmfaaGreatDoor.Fw
