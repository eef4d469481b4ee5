/- The plain statement of BitsParts over the printed functions: it holds. No condition. -/
import Derived.Test.YtjgcoidfkpjeiaaPackTwo
import Derived.Test.YtjgcoidfkpjeiaaPrint2
import Derived.OpenShut
namespace Go.Proofs.Ytjgcoidfkpjeiaa.Pure
open Go.RowKit Go.Proofs.YtjgcoidfkpjeiaaW.PrintWords Go.Proofs.YtjgcoidfkpjeiaaW.PrintLast Go.Proofs.YtjgcoidfkpjeiaaW.PrintMore Go.Proofs.Ytjgcoidfkpjeiaa.Str Go.Proofs.Ytjgcoidfkpjeiaa.Field Go.Proofs.Ytjgcoidfkpjeiaa.Pack Go.Proofs.Ytjgcoidfkpjeiaa.Print
theorem mod_step (x l w : Nat) : x % 2 ^ l + (x / 2 ^ l % 2 ^ w) * 2 ^ l = x % 2 ^ (l + w) := by
  rw [Nat.pow_add, Nat.mod_mul, Nat.mul_comm]
theorem field_nat (x l w : Nat) (hx : x ≤ 255) (hl : l < 8) (hw : 1 ≤ w) (hw8 : w ≤ 8) : bits_Field.f (x : Int) (l : Int) (w : Int) = some ((x / 2 ^ l % 2 ^ w : Nat) : Int) := by
  rw [field_at (x : Int) (by omega) (by omega) l w hl hw hw8]
  simp
/-- Behind the fields fs the pack stands at so many bits of x. -/
def At (x low : Nat) (fs : List S34) : Prop := ∀ rest, pk 0 0 (fs ++ rest) = pk low (x % 2 ^ low) rest
theorem at_start (x : Nat) : At x 0 [] := fun rest => by simp [Nat.mod_one]
theorem at_more (x low w : Nat) (fs : List S34) (h : At x low fs) (hw : 1 ≤ w) (hl : low + w ≤ 8) : At x (low + w) (fs ++ [(⟨(w : Int), ((x / 2 ^ low % 2 ^ w : Nat) : Int)⟩ : S34)]) := by
  intro rest
  rw [List.append_assoc, h]
  have hv : x / 2 ^ low % 2 ^ w < 2 ^ w := Nat.mod_lt _ (Nat.two_pow_pos w)
  have hv' : ((x / 2 ^ low % 2 ^ w : Nat) : Int) < 2 ^ w := by exact_mod_cast hv
  refine Eq.trans (pk_good low (x % 2 ^ low) w _ rest hw (by omega) (by omega) hv' hl) ?_
  rw [Int.toNat_natCast, mod_step]
theorem last_two (k x : Nat) (hx : x ≤ 255) (fs : List S34) (h : At x 8 fs) (hf : fs.length ≤ 20) (hk : 40 < k) :
    bits_Pack.f k fs = some ((x : Int), 0) ∧ bits_Pack.f k (fs ++ [(⟨1, 0⟩ : S34)]) = some (0, 5) := by
  refine ⟨?_, ?_⟩
  · rw [pack_eq fs k (by omega) (by omega)]
    have := h []
    rw [List.append_nil] at this
    rw [this, pk_last _ _ (by omega), show x % 2 ^ 8 = x from Nat.mod_eq_of_lt (by omega)]
    congr 2; omega
  · rw [pack_eq _ k (by simp; omega) (by simp; omega), h]
    rw [pk, if_pos (show good (⟨1, 0⟩ : S34) from by decide), if_pos (by decide)]
    rfl
theorem one_bit : ((bits_Field.f 128 7 1).bind fun t150 => (some (t150 == 1))) = some true := by
  exact bind_at (field_nat 128 7 1 (by decide) (by decide) (by decide) (by decide)) rfl
theorem parts_end (k x low : Nat) (hx : x ≤ 255) (fs : List S34) (h : At x low fs) (hl : low ≤ 8) (hf : fs.length ≤ 8) (hk : 40 < k) (cs : List Int) (n i : Int) (hi : ¬ i < n) :
    lapwinglaw01_BitsParts.l0 (k + 1) (x : Int) fs (low : Int) cs n i = some true := by
  rw [lapwinglaw01_BitsParts.l0, if_neg hi]
  by_cases h8 : low < 8
  · rw [if_pos (by omega), w64 (n := 8 - (low : Int)) (by omega) (by omega), show (8 : Int) - low = ((8 - low : Nat) : Int) from by omega]
    refine bind_at (field_nat x low (8 - low) hx h8 (by omega) (by omega)) (Eq.trans (if_pos (by omega)) ?_)
    have hm := at_more x low (8 - low) fs h (by omega) (by omega)
    rw [show low + (8 - low) = 8 from by omega] at hm
    obtain ⟨p1, p2⟩ := last_two k x hx _ hm (by simp; omega) hk
    refine bind_at rfl (bind_at p1 (Eq.trans (if_pos (by simp; omega)) (bind_at p2 ?_)))
    refine Eq.trans (if_pos rfl) (Eq.trans (if_pos rfl) (Eq.trans (if_pos rfl) one_bit))
  · obtain rfl : low = 8 := by omega
    rw [if_neg (by omega)]
    obtain ⟨p1, p2⟩ := last_two k x hx _ h (by omega) hk
    refine bind_at p1 (Eq.trans (if_pos (by omega)) (bind_at p2 ?_))
    refine Eq.trans (if_pos rfl) (Eq.trans (if_pos rfl) (Eq.trans (if_pos rfl) one_bit))
theorem small_width (c : Int) (_hc : 0 ≤ c) (low : Nat) (hl : low ≤ 8) : ∃ w : Nat, mn (1 + c % 8) (8 - (low : Int)) = (w : Int) ∧ w ≤ 8 - low := by
  have h1 : 0 ≤ c % 8 ∧ c % 8 < 8 := ⟨Int.emod_nonneg _ (by decide), Int.emod_lt_of_pos _ (by decide)⟩
  generalize c % 8 = e at *
  refine ⟨(mn (1 + e) (8 - (low : Int))).toNat, ?_, ?_⟩ <;> unfold mn <;> omega
theorem parts_loop (x : Nat) (hx : x ≤ 255) (cs : List Int) (hc : cs.length ≤ 8) (d : Nat) : ∀ (k low i : Nat) (fs : List S34), i + d = cs.length → d + 42 < k → low ≤ 8 → fs.length ≤ i → At x low fs →
    lapwinglaw01_BitsParts.l0 k (x : Int) fs (low : Int) cs (cs.length : Int) (i : Int) = some true := by
  induction d with
  | zero =>
    intro k low i fs h hk hl hf hat
    obtain ⟨k, rfl⟩ : ∃ m, k = m + 1 := ⟨k - 1, by omega⟩
    exact parts_end k x low hx fs hat hl (by omega) (by omega) cs _ _ (by omega)
  | succ d ih =>
    intro k low i fs h hk hl hf hat
    obtain ⟨k, rfl⟩ : ∃ m, k = m + 1 := ⟨k - 1, by omega⟩
    have e4 : wrap64 ((i : Int) + 1) = ((i + 1 : Nat) : Int) := by rw [w64 (by omega) (by omega)]; omega
    rw [lapwinglaw01_BitsParts.l0, if_pos (by omega), if_pos (by omega), if_pos (by omega), w64 (n := 8 - (low : Int)) (by omega) (by omega), e4]
    have hm0 : 0 ≤ mx 0 (rd cs (i : Int)) := by unfold mx; omega
    generalize mx 0 (rd cs (i : Int)) = c at *
    obtain ⟨w, hw, hw8⟩ := small_width c hm0 low hl
    have hlw : low + w ≤ 8 := by clear hw e4 ih; omega
    rw [hw]
    clear hw
    by_cases h0 : (w : Int) > 0
    · rw [if_pos h0]
      refine bind_at (field_nat x low w hx (by omega) (by omega) (by omega)) (Eq.trans (if_pos (by omega)) ?_)
      have e5 : wrap64 ((low : Int) + (w : Int)) = ((low + w : Nat) : Int) := by rw [w64 (by omega) (by omega)]; omega
      rw [e5]
      have q1 : i + 1 + d = cs.length := by clear e4 e5 ih; omega
      have q2 : d + 42 < k := by clear e4 e5 ih; omega
      have q3 : (fs ++ [(⟨(w : Int), ((x / 2 ^ low % 2 ^ w : Nat) : Int)⟩ : S34)]).length ≤ i + 1 := by rw [List.length_append]; exact Nat.add_le_add_right hf 1
      have q4 : 1 ≤ w := by clear e4 e5 ih; omega
      exact ih k (low + w) (i + 1) _ q1 q2 hlw q3 (at_more x low w fs hat q4 hlw)
    · rw [if_neg h0]
      exact ih k low (i + 1) fs (by omega) (by omega) hl (by omega) hat
theorem BitsParts : lapwinglaw01_BitsParts.Pure := by
  intro a0 cs w0 _ hcs _
  obtain ⟨h0, h1⟩ := bounds_u8 w0
  obtain ⟨x, rfl⟩ := Int.eq_ofNat_of_zero_le h0
  obtain ⟨k, hk⟩ : ∃ k : Nat, 100 ≤ k := ⟨100, Nat.le_refl _⟩
  refine ⟨k, ?_⟩
  have e : mn (cs.length : Int) 8 = ((min cs.length 8 : Nat) : Int) := mn_nat cs.length 8
  unfold lapwinglaw01_BitsParts.f
  rw [e, if_pos (by omega), if_pos (by omega), Int.toNat_natCast]
  have hl : (cs.take (min cs.length 8)).length ≤ 8 := by rw [List.length_take]; omega
  exact parts_loop x (by omega) _ hl _ k 0 0 [] (Nat.zero_add _) (by omega) (by omega) (by simp) (at_start x)
end Go.Proofs.Ytjgcoidfkpjeiaa.Pure
