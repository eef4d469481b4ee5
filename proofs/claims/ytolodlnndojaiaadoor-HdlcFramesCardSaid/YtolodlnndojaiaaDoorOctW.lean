/- bits.Octets by its own text: eight digits make an octet, or its error. The text at most 2^47 octets long. -/
import Derived.Test.YtolodlnndojaiaaDoorGood
import Derived.Test.YtolodlnndojaiaaDoorArith
import Derived.Test.YtolodlnndojaiaaDoorWMore
import Derived.RegionTactic
import Derived.BigRegion
import Derived.Laws.OwnMore
namespace Go.Proofs.YtolodlnndojaiaaDoor.OctW
open Go.RowKit Go.Proofs.YtolodlnndojaiaaDoorW.PrintWords Go.Proofs.YtolodlnndojaiaaDoorW.PrintLast Go.Proofs.YtolodlnndojaiaaDoorW.PrintMore Go.Proofs.YtolodlnndojaiaaDoor.Str Go.Proofs.YtolodlnndojaiaaDoor.Bits Go.Proofs.YtolodlnndojaiaaDoor.Oct
set_option linter.unusedVariables false
theorem infoByte : (Tryd.prog.info? 5).map (fun i => (i.zero, i.size, i.bytes)) = some (some (.int .u8 0), 1, 1) := by kernel_rfl
def cellsOf (l : List UInt8) : List Value := l.map fun b => Value.int .u8 (b.toNat : Int)
theorem cellsOf_nums (l : List UInt8) : cellsOf l = nums .u8 (l.map fun b => (b.toNat : Int)) := by simp [cellsOf, nums]
theorem cellsOf_length (l : List UInt8) : (cellsOf l).length = l.length := by simp [cellsOf]
set_option maxHeartbeats 4000000 in
set_option maxRecDepth 1000000 in
theorem bad (s : ByteArray) (w : World) (hs : s.size ≤ 140737488351232) (hg : goodL (L s) = false) :
    Calls Tryd.prog 49 #[.string s] w fun e w' => e = .returned (.tuple #[.string ⟨#[]⟩, .int .i64 4]) ∧ Below w.heap.size w w' := by
  go_enter Tryd.func49, Tryd.ntmps49
  go_wp2_with (go_at_call 27; refine (Good.walk s w (by omega)).mono ?_; rintro e w1 ⟨he, hb⟩; rw [hg] at he; subst he)
  go_ret2
  exact ⟨rfl, hb⟩
set_option maxHeartbeats 4000000 in
set_option maxRecDepth 1000000 in
theorem odd (s : ByteArray) (w : World) (hs : s.size ≤ 140737488351232) (hg : goodL (L s) = true) (h8 : s.size % 8 ≠ 0) :
    Calls Tryd.prog 49 #[.string s] w fun e w' => e = .returned (.tuple #[.string ⟨#[]⟩, .int .i64 3]) ∧ Below w.heap.size w w' := by
  have h8' : (((s.size : Int) % 8) != 0) = true := by simpa using (by omega : ¬ (s.size : Int) % 8 = 0)
  go_enter Tryd.func49, Tryd.ntmps49
  go_wp2_with (go_at_call 27; refine (Good.walk s w (by omega)).mono ?_; rintro e w1 ⟨he, hb⟩; rw [hg] at he; subst he)
  go_ret2
  exact ⟨rfl, hb⟩
theorem sum_lt (m : Nat) (hm : m < 8) (x c : Nat) (hx : x < 2 ^ m) : x + c % 2 * 2 ^ m < 2 ^ 8 := by
  have h1 : c % 2 = 0 ∨ c % 2 = 1 := by omega
  have h2 : 2 ^ (m + 1) ≤ 2 ^ 8 := Nat.pow_le_pow_right (by decide) (by omega)
  rw [Nat.pow_succ] at h2
  rcases h1 with h | h <;> rw [h] <;> omega
theorem or_new (m : Nat) (hm : m < 8) (x c : Nat) (hx : x < 2 ^ m) (hc : c < 256) : Go.bits .or .u8 (x : Int) (Go.bits .and .u8 (c : Int) 1 * 2 ^ m % 256) = (x : Int) + (c : Int) % 2 * 2 ^ m := by
  have hs := sum_lt m hm x c hx
  have h0 : c % 2 * 2 ^ m < 2 ^ 8 := by omega
  have e1 : Go.bits .and .u8 (c : Int) 1 * 2 ^ m % 256 = ((c % 2 * 2 ^ m : Nat) : Int) := by
    rw [Field.low_bit _ (by omega) (by omega)]
    have : (c : Int) % 2 * 2 ^ m = ((c % 2 * 2 ^ m : Nat) : Int) := by simp
    rw [this]
    omega
  rw [e1, (bits_nat .u8 8 (by decide) wraps_u8 x _ (by omega) h0).2]
  rw [Nat.or_comm, Nat.mul_comm (c % 2), ← Nat.two_pow_add_eq_or_of_lt hx (c % 2)]
  simp [Int.mul_comm, Int.add_comm]
theorem partL_zero_cells (l : List UInt8) (n : Nat) : cellsOf (partL l n 0) = List.replicate n (.int .u8 0) := by
  rw [partL_zero, cellsOf, List.map_replicate]; rfl
set_option maxHeartbeats 4000000 in
set_option maxRecDepth 1000000 in
theorem good (s : ByteArray) (w : World) (hs : s.size ≤ 140737488351232) (hg : goodL (L s) = true) (h8 : s.size % 8 = 0) :
    Calls Tryd.prog 49 #[.string s] w fun e w' => e = .returned (.tuple #[.string ⟨(octsL (L s)).toArray⟩, .int .i64 0]) ∧ Below w.heap.size w w' := by
  have h8' : (((s.size : Int) % 8) != 0) = false := by simpa using (by omega : (s.size : Int) % 8 = 0)
  obtain ⟨n, hn⟩ : ∃ n, n = s.size / 8 := ⟨_, rfl⟩
  have HN := Aside0.mk hn
  have hq : (s.size : Int) / 8 = (n : Int) := by omega
  have h8n : 8 * n = s.size := by omega
  have H8 := Aside0.mk h8n
  clear h8n hn h8
  obtain ⟨i0, hi, hz0, hz1, hz2⟩ := info_parts infoByte
  go_enter Tryd.func49, Tryd.ntmps49
  go_wp2_with (first | (go_at_call 27; refine (Good.walk s w (by omega)).mono ?_; rintro e w1 ⟨he, hb⟩; rw [hg] at he; subst he) | (at_make; refine wpList_make_full _ rfl _ _ 22 rfl w.heap.size 5 i0 (.int .u8 0) 1 Tryd.underlying22 hi hz0 hz1 .i64 .i64 _ _ n rfl rfl ?m1 ?m2 ?m3 ?m4 ?m5 ?_))
  case m1 => rfl
  case m2 => rfl
  case m3 => have := H8.out; rw [hz2]; omega
  case m4 => have := H8.out; unfold maxLen; omega
  case m5 => exact hb.size
  intro w2 hown hgrow
  rw [toList_madeCells_one, ← partL_zero_cells (L s) n] at hown
  have hB := hb.grown hgrow hb.size (fun k hk => by cases hk)
  clear hgrow hb
  obtain ⟨g, HGE⟩ : ∃ g, Aside0 (g = w1.heap.size) := ⟨_, ⟨rfl⟩⟩
  rw [← HGE.out] at hown ⊢
  go_wp2
  go_loopw [21] (fun v wr => ∃ i : Nat, i ≤ s.size ∧ v = .int .i64 i ∧ wr.ownsRow w.heap.size 5 1 (.slice (some ⟨g, 0, none⟩) n n) n (cellsOf (partL (L s) n i)) ∧ Below w.heap.size w wr) (fun v _ => s.size - (intOf v).toNat)
  case atStart => exact ⟨0, Nat.zero_le _, rfl, hown, hB⟩
  case round =>
    clear hown hB
    obtain ⟨i, hi', rfl, hO, hB⟩ := hrel
    by_cases hlt : i < s.size
    · have hin : i / 8 < n := by have := H8.out; omega
      obtain ⟨x, HX⟩ : ∃ x : Int, Aside0 (x = (val (row ((L s).take i) (i / 8)) : Int)) := ⟨_, ⟨rfl⟩⟩
      have hcl : wr.cell? ⟨g, i / 8, none⟩ = some (.int .u8 x) := by
        rw [hO.cellAt (i / 8) (by omega), cellsOf, List.getElem?_map, List.getElem?_eq_getElem (by rw [partL_length]; exact hin), partL_get _ _ _ _ hin, HX.out, ← oct_num]
        rfl
      have hfr := hO.frozenAt (i / 8)
      have HO := Aside0.mk hO
      have HB := Aside0.mk hB
      have h1 : (i : Int) / 8 < (n : Int) := by omega
      have h0 : 0 ≤ (i : Int) / 8 := by omega
      have h2 : 0 ≤ (i : Int) % 8 := by omega
      have h3 : (i : Int) % 8 < 8 := by omega
      clear hO hB
      go_wp2
      go_region
      all_goals go_wp2
      have hl : i < (L s).length := by rw [← size_L]; exact hlt
      obtain ⟨_, hrl⟩ := row_new (L s) i hl
      have hv := val_lt (row ((L s).take i) (i / 8))
      rw [hrl] at hv
      have ho := or_new (i % 8) (by omega) (val (row ((L s).take i) (i / 8))) (L s)[i].toNat hv (L s)[i].toNat_lt
      rw [← HX.out] at ho
      obtain ⟨c, hc⟩ : ∃ c : UInt8, (c.toNat : Int) = x + ((L s)[i].toNat : Int) % 2 * 2 ^ (i % 8) := by
        refine ⟨UInt8.ofNat (val (row ((L s).take i) (i / 8)) + (L s)[i].toNat % 2 * 2 ^ (i % 8)), ?_⟩
        rw [UInt8.toNat_ofNat', Nat.mod_eq_of_lt (sum_lt _ (by omega) _ _ hv), HX.out]
        simp
      have hst := partL_step (L s) n i hl hin c (by rw [hc, HX.out])
      have hO2 := (HO.out.stored (i / 8) (.int .u8 (c.toNat : Int))).1
      have hB2 := HB.out.setCell (p := ⟨g, i / 8, none⟩) (HO.out.lt g rfl).1 (.int .u8 (c.toNat : Int))
      rw [hc, ← ho] at hO2 hB2
      have hst2 : cellsOf (partL (L s) n (i + 1)) = (cellsOf (partL (L s) n i)).set (i / 8) (.int .u8 (Go.bits .or .u8 x (Go.bits .and .u8 (((L s)[i].toNat : Nat) : Int) 1 * 2 ^ (i % 8) % 256))) := by
        rw [hst, cellsOf, List.map_set, ho, ← hc]; rfl
      rw [← hst2] at hO2
      go_roundw
      case rel => exact ⟨i + 1, by omega, by go_num, hO2.drew, hB2.drew⟩
      case measure => simp [intOf]; omega
    · have hil : i = s.size := by omega
      have hpa : partL (L s) n i = octsL (L s) := by
        rw [hil, HN.out, size_L, partL_all]
      rw [hpa, cellsOf_nums] at hO
      have hcv := own_string (P := Tryd.prog) Tryd.underlying22 Tryd.underlying5 Tryd.underlying9 hO
      rw [nums_of] at hcv
      clear hO hpa
      go_wp2
      go_ret2
      exact ⟨rfl, hB⟩
/-- All together. -/
theorem walk (s : ByteArray) (w : World) (hs : s.size ≤ 140737488351232) :
    Calls Tryd.prog 49 #[.string s] w fun e w' => e = .returned (.tuple #[.string ⟨(octR (L s)).1.toArray⟩, .int .i64 (octR (L s)).2]) ∧ Below w.heap.size w w' := by
  unfold octR
  by_cases hg : goodL (L s) = true
  · rw [if_pos hg]
    by_cases h8 : s.size % 8 = 0
    · rw [if_pos (by rw [← size_L]; exact h8)]
      exact good s w hs hg h8
    · rw [if_neg (by rw [← size_L]; exact h8)]
      exact odd s w hs hg h8
  · rw [if_neg hg]
    exact bad s w hs (by simpa using hg)
end Go.Proofs.YtolodlnndojaiaaDoor.OctW
