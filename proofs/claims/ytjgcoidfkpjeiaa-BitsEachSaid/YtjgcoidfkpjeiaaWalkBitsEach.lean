/- The law BitsEach by its own text: it answers true. -/
import Derived.Test.YtjgcoidfkpjeiaaBitsOf
import Derived.Test.YtjgcoidfkpjeiaaBytes
import Derived.Deep.QuietTactic
import Derived.BigQuiet
import Derived.Laws.BitsLemmas
import Derived.OpenShut
namespace Go.Proofs.Ytjgcoidfkpjeiaa.Wk
open Go.RowKit Go.Proofs.YtjgcoidfkpjeiaaW.PrintWords Go.Proofs.YtjgcoidfkpjeiaaW.PrintLast Go.Proofs.YtjgcoidfkpjeiaaW.PrintMore Go.Proofs.Ytjgcoidfkpjeiaa.Str Go.Proofs.Ytjgcoidfkpjeiaa.Bits
set_option linter.unusedVariables false
attribute [local go_sem] max2_int min2_int
theorem low1 (q : Int) (h0 : 0 ≤ q) (h1 : q ≤ 255) : Go.bits .and .i64 (wrap64 q) (wrap64 (wrap64 (2 ^ (min (1 : Int) 8).toNat) - 1)) = q % 2 := by
  have e1 : wrap64 (wrap64 (2 ^ (min (1 : Int) 8).toNat) - 1) = 2 ^ 1 - 1 := by decide +kernel
  rw [e1, w64 (by omega) (by omega), Field.mask_i64 1 (by decide) q h0 (by omega)]
  rfl
theorem div_le (x : Int) (k : Nat) (h0 : 0 ≤ x) (h1 : x ≤ 255) : 0 ≤ x / 2 ^ k ∧ x / 2 ^ k ≤ 255 := by
  have hk : (0 : Int) < 2 ^ k := Int.pow_pos (by decide)
  refine ⟨Int.ediv_nonneg h0 (by omega), ?_⟩
  exact Int.le_trans (Int.ediv_le_self _ h0) h1
theorem Below.alloc_then {w w1 : World} {o : Obj} (h : Below w.heap.size w w) (h1 : Below (w.alloc o).heap.size (w.alloc o) w1) : Below w.heap.size w w1 :=
  (h.alloc (Nat.le_refl _) o).trans (h1.mono (by show w.heap.size ≤ (w.heap.push o).size; simp))
set_option maxHeartbeats 4000000 in
set_option maxRecDepth 1000000 in
theorem field1 (x : Int) (k : Nat) (w : World) (hk : k < 8) (h0 : 0 ≤ x) (h1 : x ≤ 255) :
    Calls Try.prog 9 #[.int .u8 x, .int .i64 k, .int .i64 1] w fun e w' => e = .returned (.int .i64 (x / 2 ^ k % 2)) ∧ ∃ n, w' = w.drewN n := by
  go_enter Try.func9, Try.ntmps9
  go_wp2
  go_quiet (fail)
  go_wp2
  go_ret
  exact ⟨congrArg (fun z => Ending.returned (Value.int .i64 z)) (low1 _ (div_le x k h0 h1).1 (div_le x k h0 h1).2), nq, rfl⟩
theorem one_u8 (w : World) (x : Int) : (Kd.int .u8).C (w.alloc (.cells #[.int .u8 x] 5)) (some ⟨w.heap.size, 0, none⟩) 1 [x] := by
  refine ⟨rfl, by decide, fun _ => ⟨_, rfl, fun j p hj => ⟨[.int .u8 p], rfl, rfl, fun i u hu => ?_⟩⟩⟩
  match j, hj with
  | 0, hj =>
    match i, hu with
    | 0, hu =>
      simp at hj hu
      subst hj; subst hu
      exact cell_one_new w _ 5 0 _ rfl
theorem of1 : (⟨(ofL (L (⟨#[1]⟩ : ByteArray))).toArray⟩ : ByteArray) = ⟨#[49, 48, 48, 48, 48, 48, 48, 48]⟩ := by decide +kernel
theorem bit_at (b : UInt8) (k : Nat) (h : k < 8) : ((⟨(bitsB b).toArray⟩ : ByteArray)[k]'(by rw [size_L]; show k < (bitsB b).length; rw [bitsB_length]; exact h)) = bitB b k := by
  show (bitsB b)[k]'(by rw [bitsB_length]; exact h) = _
  simp [bitsB]
set_option maxHeartbeats 4000000 in
set_option maxRecDepth 1000000 in
theorem BitsEach (a0 : Int) (w : World) (w0 : (Lit.int .u8 a0).wf = true) :
    Calls Try.prog 8 #[.int .u8 a0] w fun e w' => e = .returned (.bool true) ∧ Below w.heap.size w w' := by
  obtain ⟨h0, h1⟩ := bounds_u8 w0
  clear w0
  obtain ⟨b, hb⟩ : ∃ b : UInt8, a0 = (b.toNat : Int) := ⟨UInt8.ofNat a0.toNat, by rw [UInt8.toNat_ofNat']; omega⟩
  obtain ⟨t, ht⟩ : ∃ t : ByteArray, t = ⟨(bitsB b).toArray⟩ := ⟨_, rfl⟩
  have hts : t.size = 8 := by rw [ht, size_L]; exact bitsB_length b
  have hof : (⟨(ofL (L (strOfNums [a0]))).toArray⟩ : ByteArray) = t := by
    rw [hb, ht]
    have := nums_of [b]
    simp only [List.map_cons, List.map_nil] at this
    rw [this]
    simp [ofL, L]
  have hsz : (strOfNums [a0]).size ≤ 17592186044416 := by rw [nums_size]; simp
  have hcv := Kd.C_string (P := Try.prog) (c := 1) Try.underlying39 Try.underlying5 Try.underlying9 (one_u8 w a0)
  obtain ⟨s, hs⟩ : ∃ s, s = strOfNums [a0] := ⟨_, rfl⟩
  rw [← hs] at hcv hsz hof
  have HOF := Aside0.mk hof
  have HTS := Aside0.mk hts
  have HT := Aside0.mk ht
  have HBE := Aside0.mk hb
  clear hof hts ht hs hb
  go_enter Try.func8, Try.ntmps8
  go_wp2_with fail
  refine (BitsOf.walk s _ hsz).mono ?_
  rintro e w1 ⟨he, hb1⟩
  rw [HOF.out] at he
  subst he
  have hb1' := Below.alloc_then (Below.refl _ w) hb1
  clear hb1 hcv
  have hts := HTS.out
  go_wp2_with fail
  refine (BitsOf.walk _ _ (by decide)).mono ?_
  rintro e w2 ⟨he, hb2⟩
  rw [of1] at he
  subst he
  have hb3 := below_step hb1' hb2
  clear hb2 hb1'
  go_wp2
  go_loopw [16] (fun v wr => ∃ k : Nat, k ≤ 8 ∧ v = .int .i64 k ∧ Below w.heap.size w wr) (fun v _ => 8 - (intOf v).toNat)
  case atStart => exact ⟨0, by omega, rfl, hb3⟩
  case round =>
    clear hb3
    obtain ⟨k, hk, rfl, hB⟩ := hrel
    by_cases hlt : k < 8
    · have hlts : k < t.size := by omega
      have hbit : (((t[k]'hlts).toNat : Int) - 48) % 256 = a0 / 2 ^ k % 2 := by
        have e : t[k]'hlts = bitB b k := by
          obtain rfl := HT.out
          exact bit_at b k hlt
        rw [e, bitB_num, HBE.out]
        generalize (b.toNat : Int) / 2 ^ k = q
        omega
      have hne : ((((t[k]'hlts).toNat : Int) - 48) % 256 != a0 / 2 ^ k % 2) = false := by rw [hbit]; simp
      clear hbit
      go_wp2
      go_quiet ((go_at_call 9; exact Calls.quiet_of (field1 a0 k _ hlt h0 h1)))
      go_wp2
      go_roundw
      case rel => exact ⟨k + 1, by omega, by go_num, pw_below_drewN hB _⟩
      case measure => simp [intOf]; omega
    · go_wp2
      go_ret
      exact ⟨rfl, hB⟩
end Go.Proofs.Ytjgcoidfkpjeiaa.Wk
