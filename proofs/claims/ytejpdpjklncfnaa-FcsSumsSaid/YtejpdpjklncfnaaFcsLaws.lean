/- The plain statements of FcsSteps, FcsSums, FcsChecks, FcsBack, FcsOn over the printed functions: all hold. No condition. -/
import Derived.Test.YtejpdpjklncfnaaFcsRef
import Derived.Test.YtejpdpjklncfnaaCrcMore
import Derived.Test.YtejpdpjklncfnaaPrint4
import Derived.OpenShut
namespace Go.Proofs.Ytejpdpjklncfnaa.Pure
open Go.RowKit Go.Proofs.YtejpdpjklncfnaaW.PrintWords Go.Proofs.YtejpdpjklncfnaaW.PrintLast Go.Proofs.YtejpdpjklncfnaaW.PrintMore Go.Proofs.Ytejpdpjklncfnaa.Str Go.Proofs.Ytejpdpjklncfnaa.Crc Go.Proofs.Ytejpdpjklncfnaa.Fcs Go.Proofs.Ytejpdpjklncfnaa.Print

theorem num_of (x : Int) (h0 : 0 ≤ x) (h1 : x ≤ 65535) : ∃ r : R, x = num r := by
  refine ⟨BitVec.ofNat 16 x.toNat, ?_⟩
  unfold num
  rw [BitVec.toNat_ofNat]; omega
theorem oct_of (x : Int) (h0 : 0 ≤ x) (h1 : x ≤ 255) : ∃ o : UInt8, x = (o.toNat : Int) := by
  refine ⟨UInt8.ofNat x.toNat, ?_⟩
  rw [UInt8.toNat_ofNat']; omega
theorem known : num (crc [49, 50, 51, 52, 53, 54, 55, 56, 57]) = 36974 := by decide +kernel
theorem known_sum (k : Nat) (hk : 18 < k) : fcs_Sum.f k (⟨#[49, 50, 51, 52, 53, 54, 55, 56, 57]⟩ : ByteArray) = some 36974 := by
  have hs : (⟨#[49, 50, 51, 52, 53, 54, 55, 56, 57]⟩ : ByteArray).size = 9 := rfl
  rw [sum_eq k _ (by rw [hs]; decide) (by rw [hs]; omega), show L (⟨#[49, 50, 51, 52, 53, 54, 55, 56, 57]⟩ : ByteArray) = [49, 50, 51, 52, 53, 54, 55, 56, 57] from rfl, known]
theorem cut_size (s : ByteArray) (n : Nat) : (s.extract 0 (min s.size n)).size = min s.size n := size_take s _ (by omega)

theorem FcsSteps : lapwinglaw02_FcsSteps.Pure := by
  intro a0 a1 w0 w1
  obtain ⟨r, rfl⟩ := num_of a0 (bounds_u16 w0).1 (bounds_u16 w0).2
  obtain ⟨o, rfl⟩ := oct_of a1 (bounds_u8 w1).1 (bounds_u8 w1).2
  obtain ⟨k, hk⟩ : ∃ k : Nat, 40 ≤ k := ⟨40, Nat.le_refl _⟩
  refine ⟨k, ?_⟩
  have hr := num_lt r
  have hb := num_lt (stepB r o)
  unfold lapwinglaw02_FcsSteps.f
  rw [known_sum k (by omega)]
  simp only [Option.bind_some]
  rw [if_pos trivial, step_eq k (by omega)]
  simp only [Option.bind_some]
  rw [w64 (by omega) (by omega), FcsRef.step_eq k (by omega)]
  simp only [Option.bind_some]
  rw [w64 (by omega) (by omega)]
  simp

theorem sealed0 : sealL [0] = [0, 120, 240] := by decide +kernel
theorem first_seal (k : Nat) (hk : 10 < k) : fcs_Seal.f k (⟨#[0]⟩ : ByteArray) = some ⟨[0, 120, 240].toArray⟩ := by
  have hs0 : (⟨#[0]⟩ : ByteArray).size = 1 := rfl
  have hL0 : L (⟨#[0]⟩ : ByteArray) = [0] := rfl
  rw [seal_eq k _ (by rw [hs0]; omega) (by rw [hs0]; omega), hL0, sealed0]
theorem cut_law {β : Type} (s : ByteArray) (n : Nat) (F : ByteArray → Option β) :
    (if 0 ≤ mn (s.size : Int) (n : Int) then (if mn (s.size : Int) (n : Int) ≤ (s.size : Int) then F (s.extract 0 (mn (s.size : Int) (n : Int)).toNat) else none) else none) = F (s.extract 0 (min s.size n)) := by
  have e := mn_nat s.size n
  rw [e, if_pos (by omega), if_pos (by omega), Int.toNat_natCast]
theorem bind_at {α β : Type} {o : Option α} {a : α} {f : α → Option β} {r : Option β} (h : o = some a) (h2 : f a = r) : o.bind f = r := by rw [h]; exact h2
theorem sums_rest (k : Nat) (t : ByteArray) (ht : t.size ≤ 600) (hk : 700 ≤ k) :
    ((fcs_Seal.f k (⟨#[0]⟩ : ByteArray)).bind fun t123 => (if t123.toList = ([0, 120, 240] : List UInt8) then ((fcs_Sum.f k t).bind fun t124 => ((lapwingref02_Sum.f k t).bind fun t125 => (if (wrap64 (t124)) = t125 then ((fcs_Seal.f k t).bind fun t126 => ((lapwingref02_Seal.f k t).bind fun t127 => (some (t126.toList == t127.toList)))) else (some false)))) else (some false))) = some true := by
  have hr := num_lt (crc (L t))
  refine bind_at (first_seal k (by omega)) ?_
  refine Eq.trans (if_pos (by rw [toList_L])) ?_
  refine bind_at (sum_eq k t (by omega) (by omega)) ?_
  refine bind_at (FcsRef.sum_eq k t (by omega) (by omega)) ?_
  refine Eq.trans (if_pos (w64 (by omega) (by omega))) ?_
  refine bind_at (seal_eq k t (by omega) (by omega)) ?_
  refine bind_at (FcsRef.seal_eq k t (by omega) (by omega)) ?_
  exact congrArg some (beq_self_eq_true _)
theorem FcsSums : lapwinglaw02_FcsSums.Pure := by
  intro s _
  obtain ⟨k, hk⟩ : ∃ k : Nat, 700 ≤ k := ⟨700, Nat.le_refl _⟩
  refine ⟨k, ?_⟩
  unfold lapwinglaw02_FcsSums.f
  have := cut_law s 600 (fun t => ((fcs_Seal.f k (⟨#[0]⟩ : ByteArray)).bind fun t123 => (if t123.toList = ([0, 120, 240] : List UInt8) then ((fcs_Sum.f k t).bind fun t124 => ((lapwingref02_Sum.f k t).bind fun t125 => (if (wrap64 (t124)) = t125 then ((fcs_Seal.f k t).bind fun t126 => ((lapwingref02_Seal.f k t).bind fun t127 => (some (t126.toList == t127.toList)))) else (some false)))) else (some false))))
  refine Eq.trans this (sums_rest k _ ?_ hk)
  rw [cut_size]; omega

theorem checked0 : checkL [0, 120, 240] = ([0], 0) := by decide +kernel
theorem FcsChecks : lapwinglaw02_FcsChecks.Pure := by
  intro s _
  obtain ⟨k, hk⟩ : ∃ k : Nat, 700 ≤ k := ⟨700, Nat.le_refl _⟩
  refine ⟨k, ?_⟩
  have e : mn (s.size : Int) 600 = ((min s.size 600 : Nat) : Int) := mn_nat s.size 600
  have hz := cut_size s 600
  have hs0 : (⟨#[0, 120, 240]⟩ : ByteArray).size = 3 := rfl
  unfold lapwinglaw02_FcsChecks.f
  rw [e, if_pos (by omega), if_pos (by omega), Int.toNat_natCast]
  generalize ht : s.extract 0 (min s.size 600) = t at hz
  rw [check_eq k t (by omega) (by omega)]
  simp only [Option.bind_some]
  rw [FcsRef.check_eq k t (by omega) (by omega)]
  simp only [Option.bind_some]
  rw [check_eq k _ (by rw [hs0]; omega) (by rw [hs0]; omega), show L ⟨#[0, 120, 240]⟩ = [0, 120, 240] from rfl, checked0]
  simp only [Option.bind_some]
  rw [if_pos (by rw [toList_L]), if_pos trivial]
  simp

theorem back_loop (s t c : ByteArray) (n : Int) (hn : t.size ≤ 9223372036854775806) (d : Nat) : ∀ (k : Nat) (r : R) (i : Nat), i + d = t.size → d + 9 < k →
    sumR r ((L t).drop i) = 0xf0b8#16 → n = 0 → L c = L s →
    lapwinglaw02_FcsBack.l0 k s t c n (num r) (t.size : Int) (i : Int) = some true := by
  induction d with
  | zero =>
    intro k r i h hk hr hn0 hc
    obtain ⟨k, rfl⟩ : ∃ m, k = m + 1 := ⟨k - 1, by omega⟩
    rw [List.drop_of_length_le (by rw [← size_L]; omega)] at hr
    rw [lapwinglaw02_FcsBack.l0, if_neg (by omega), if_pos hn0, toList_L, toList_L, if_pos hc, show r = 0xf0b8#16 from hr]
    rfl
  | succ d ih =>
    intro k r i h hk hr hn0 hc
    obtain ⟨k, rfl⟩ : ∃ m, k = m + 1 := ⟨k - 1, by omega⟩
    have hl : i < (L t).length := by rw [← size_L]; omega
    rw [List.drop_eq_getElem_cons hl] at hr
    rw [lapwinglaw02_FcsBack.l0, if_pos (by omega), if_pos (by omega), if_pos (by omega), bt_nat, at_get _ _ hl, step_eq k (by omega)]
    simp only [Option.bind_some]
    have e : wrap64 ((i : Int) + 1) = ((i + 1 : Nat) : Int) := by rw [w64 (by omega) (by omega)]; omega
    rw [e]
    exact ih k _ (i + 1) (by omega) (by omega) hr hn0 hc
theorem seal_residue (l : List UInt8) : sumR 0xffff#16 (sealL l) = 0xf0b8#16 := by
  unfold sealL
  rw [sumR_append]
  exact residue_oct (sumR 0xffff#16 l)
theorem check_sealed (l : List UInt8) : checkL (sealL l) = (l, 0) := by
  unfold checkL
  rw [seal_length, if_neg (by omega), show l.length + 2 - 2 = l.length from by omega]
  have e : (sealL l).take l.length = l := by unfold sealL; simp
  rw [e, if_pos rfl]
theorem FcsBack : lapwinglaw02_FcsBack.Pure := by
  intro s _
  obtain ⟨k, hk⟩ : ∃ k : Nat, 2100 ≤ k := ⟨2100, Nat.le_refl _⟩
  refine ⟨k, ?_⟩
  have e : mn (s.size : Int) 2000 = ((min s.size 2000 : Nat) : Int) := mn_nat s.size 2000
  have hz := cut_size s 2000
  unfold lapwinglaw02_FcsBack.f
  rw [e, if_pos (by omega), if_pos (by omega), Int.toNat_natCast]
  generalize ht : s.extract 0 (min s.size 2000) = t at hz
  rw [seal_eq k t (by omega) (by omega)]
  simp only [Option.bind_some]
  have hq : (⟨(sealL (L t)).toArray⟩ : ByteArray).size = t.size + 2 := by rw [size_L, L_mk, seal_length, ← size_L]
  rw [check_eq k _ (by omega) (by omega), L_mk, check_sealed]
  simp only [Option.bind_some]
  exact back_loop t _ _ 0 (by omega) _ k 0xffff#16 0 (Nat.zero_add _) (by omega) (by rw [List.drop_zero, L_mk]; exact seal_residue _) rfl (L_mk _)

theorem on_loop (s t : ByteArray) (hs : s.size ≤ 600) (ht : t.size ≤ 600) (d : Nat) : ∀ (k : Nat) (r : R) (i : Nat), i + d = t.size → d + 1300 < k →
    sumR r ((L t).drop i) = sumR 0xffff#16 (L s ++ L t) →
    lapwinglaw02_FcsOn.l0 k s t (num r) (t.size : Int) (i : Int) = some true := by
  induction d with
  | zero =>
    intro k r i h hk hr
    obtain ⟨k, rfl⟩ : ∃ m, k = m + 1 := ⟨k - 1, by omega⟩
    rw [List.drop_of_length_le (by rw [← size_L]; omega)] at hr
    have hz : (s ++ t).size = s.size + t.size := by rw [size_L, L_app, List.length_append, ← size_L, ← size_L]
    rw [lapwinglaw02_FcsOn.l0, if_neg (by omega), known_sum k (by omega)]
    simp only [Option.bind_some]
    rw [if_pos trivial, if_pos (by omega), sum_eq k _ (by omega) (by omega), compl16]
    simp only [Option.bind_some]
    have h2 : r = sumR 0xffff#16 (L s ++ L t) := hr
    rw [L_app]; unfold crc; rw [← h2]; simp
  | succ d ih =>
    intro k r i h hk hr
    obtain ⟨k, rfl⟩ : ∃ m, k = m + 1 := ⟨k - 1, by omega⟩
    have hl : i < (L t).length := by rw [← size_L]; omega
    rw [List.drop_eq_getElem_cons hl] at hr
    rw [lapwinglaw02_FcsOn.l0, if_pos (by omega), if_pos (by omega), if_pos (by omega), bt_nat, at_get _ _ hl, step_eq k (by omega)]
    simp only [Option.bind_some]
    have e : wrap64 ((i : Int) + 1) = ((i + 1 : Nat) : Int) := by rw [w64 (by omega) (by omega)]; omega
    rw [e]
    exact ih k _ (i + 1) (by omega) (by omega) hr
theorem FcsOn : lapwinglaw02_FcsOn.Pure := by
  intro s t _ _
  obtain ⟨k, hk⟩ : ∃ k : Nat, 2000 ≤ k := ⟨2000, Nat.le_refl _⟩
  refine ⟨k, ?_⟩
  have e : mn (s.size : Int) 600 = ((min s.size 600 : Nat) : Int) := mn_nat s.size 600
  have e' : mn (t.size : Int) 600 = ((min t.size 600 : Nat) : Int) := mn_nat t.size 600
  have hz := cut_size s 600
  have hz' := cut_size t 600
  unfold lapwinglaw02_FcsOn.f
  rw [e, e', if_pos (by omega), if_pos (by omega), if_pos (by omega), if_pos (by omega), Int.toNat_natCast, Int.toNat_natCast]
  generalize s.extract 0 (min s.size 600) = s' at *
  generalize t.extract 0 (min t.size 600) = t' at *
  rw [sum_eq k s' (by omega) (by omega)]
  simp only [Option.bind_some]
  rw [compl16]
  have hc : ~~~ (crc (L s')) = sumR 0xffff#16 (L s') := by unfold crc; simp
  rw [hc]
  exact on_loop s' t' (by omega) (by omega) _ k _ 0 (Nat.zero_add _) (by omega) (by rw [List.drop_zero, sumR_append])
end Go.Proofs.Ytejpdpjklncfnaa.Pure
