/- The plain statement of AddrBack over the printed functions: it holds. No condition. -/
import Derived.Test.YtbppngopiackcaaAddrLaws
import Derived.Test.YtbppngopiackcaaPrint7
namespace Go.Proofs.Ytbppngopiackcaa.Pure
open Go.RowKit Go.Proofs.YtbppngopiackcaaW.PrintWords Go.Proofs.YtbppngopiackcaaW.PrintLast Go.Proofs.YtbppngopiackcaaW.PrintMore Go.Proofs.Ytbppngopiackcaa.Str Go.Proofs.Ytbppngopiackcaa.Field Go.Proofs.Ytbppngopiackcaa.Addr Go.Proofs.Ytbppngopiackcaa.Print
theorem u8_of (x : Int) (h0 : 0 ≤ x) (h1 : x ≤ 255) : ((UInt8.ofNat x.toNat).toNat : Int) = x := by
  rw [UInt8.toNat_ofNat']; omega
theorem at_zero (a b : UInt8) (l : List UInt8) : at_ ([a, b] ++ l) 0 = (a.toNat : Int) := rfl
theorem at_one (a b : UInt8) (l : List UInt8) : at_ ([a, b] ++ l) 1 = (b.toNat : Int) := rfl
theorem get_put (s t : Int) (cr : Bool) (h : okA s t) (l : List UInt8) : getA (L (strOfNums [4 * s + 2 * Addr.num cr, 2 * t + 1]) ++ l) = (s, t, cr, 0) := by
  obtain ⟨⟨h1, h2⟩, h3, h4⟩ := h
  have hn := Addr.num_range cr
  rw [L_nums]
  show getA ([UInt8.ofNat (4 * s + 2 * Addr.num cr).toNat, UInt8.ofNat (2 * t + 1).toNat] ++ l) = _
  unfold getA
  rw [at_zero, at_one, u8_of _ (by omega) (by omega), u8_of _ (by omega) (by omega), if_neg (by simp), if_pos (show (4 * s + 2 * Addr.num cr) % 2 = 0 ∧ (2 * t + 1) % 2 = 1 from ⟨by omega, by omega⟩)]
  have e1 : (4 * s + 2 * Addr.num cr) / 4 = s := by omega
  have e2 : (2 * t + 1) / 2 = t := by omega
  have e3 : (4 * s + 2 * Addr.num cr) / 2 % 2 = Addr.num cr := by omega
  rw [e1, e2, e3]
  cases cr <;> rfl
theorem put_get (l : List UInt8) (h : (getA l).2.2.2 = 0) : okA (getA l).1 (getA l).2.1 ∧ L (strOfNums [4 * (getA l).1 + 2 * Addr.num (getA l).2.2.1, 2 * (getA l).2.1 + 1]) = l.take 2 ∧ 2 ≤ l.length := by
  unfold getA at h ⊢
  by_cases h2 : l.length < 2
  · rw [if_pos h2] at h; cases h
  · rw [if_neg h2] at h ⊢
    by_cases h3 : at_ l 0 % 2 = 0 ∧ at_ l 1 % 2 = 1
    · rw [if_pos h3]
      have r0 := at_range l 0
      have r1 := at_range l 1
      refine ⟨⟨⟨by show 0 ≤ at_ l 0 / 4; omega, by show at_ l 0 / 4 < 64; omega⟩, by show 0 ≤ at_ l 1 / 2; omega, by show at_ l 1 / 2 < 128; omega⟩, ?_, by omega⟩
      show L (strOfNums [4 * (at_ l 0 / 4) + 2 * Addr.num (at_ l 0 / 2 % 2 == 1), 2 * (at_ l 1 / 2) + 1]) = _
      have e : Addr.num (at_ l 0 / 2 % 2 == 1) = at_ l 0 / 2 % 2 := by
        have : at_ l 0 / 2 % 2 = 0 ∨ at_ l 0 / 2 % 2 = 1 := by omega
        rcases this with h | h <;> rw [h] <;> rfl
      rw [e, show 4 * (at_ l 0 / 4) + 2 * (at_ l 0 / 2 % 2) = at_ l 0 from by omega, show 2 * (at_ l 1 / 2) + 1 = at_ l 1 from by omega, L_nums]
      match l, h2 with
      | a :: b :: r, _ =>
        show [UInt8.ofNat (at_ (a :: b :: r) 0).toNat, UInt8.ofNat (at_ (a :: b :: r) 1).toNat] = [a, b]
        simp [at_]
    · rw [if_neg h3] at h; cases h
theorem bad_zero (l : List UInt8) (h : ¬ (getA l).2.2.2 = 0) : (((getA l).1 == 0 && ((getA l).2.1 == 0)) && (!(getA l).2.2.1)) = true := by
  unfold getA at h ⊢
  by_cases h2 : l.length < 2
  · rw [if_pos h2]; rfl
  · rw [if_neg h2] at h ⊢
    by_cases h3 : at_ l 0 % 2 = 0 ∧ at_ l 1 % 2 = 1
    · rw [if_pos h3] at h; exact absurd rfl h
    · rw [if_neg h3]; rfl
theorem inner_step (k : Nat) (hk : 3 < k) (x : ByteArray) (hx : x.size ≤ 140737488351232) (s t : Int) (h : okA s t) (cmd : Bool) (a : List Bool) (b c : Int) (n : List Bool) (hn : n.length = 2) (j : Nat) (hj : j < 2) :
    lapwinglaw04_AddrBack.l1 (k + 1) x cmd a b c n 2 (j : Int) s t = lapwinglaw04_AddrBack.l1 k x cmd a b c n 2 ((j + 1 : Nat) : Int) s t := by
  rw [lapwinglaw04_AddrBack.l1, if_pos (by omega), if_pos (by omega), if_pos (by omega)]
  generalize rdOf false n (j : Int) = net
  refine bind_at (show addr_Make.f s t cmd net = some (s, t, (cmd == net)) from rfl) ?_
  have hp : addr_Put.f k s t (cmd == net) = some (strOfNums [4 * s + 2 * Addr.num (cmd == net), 2 * t + 1], 0) := by
    rw [put_eq k hk]; unfold putA; rw [if_pos h]
  refine bind_at hp ?_
  have hz : (strOfNums [4 * s + 2 * Addr.num (cmd == net), 2 * t + 1]).size = 2 := by rw [nums_size]; rfl
  have hg : addr_Get.f k (strOfNums [4 * s + 2 * Addr.num (cmd == net), 2 * t + 1] ++ x) = some (s, t, (cmd == net), 0) := by
    rw [get_eq k (by omega), L_app, get_put _ _ _ h]
  refine Eq.trans (if_pos (by show _ + _ ≤ _; rw [hz]; omega)) (bind_at hg ?_)
  refine Eq.trans (if_pos rfl) (Eq.trans (if_pos rfl) (Eq.trans (if_pos (by show ((_ : Nat) : Int) = 2; rw [hz]; rfl)) ?_))
  refine Eq.trans (if_neg (by simp)) ?_
  refine bind_at (show addr_Address_Command.f s t (cmd == net) net = some ((cmd == net) == net) from rfl) ?_
  refine Eq.trans (if_neg (by cases cmd <;> cases net <;> simp)) ?_
  rw [w64 (by omega) (by omega)]; rfl
theorem inner_end (k : Nat) (x : ByteArray) (s t : Int) (cmd : Bool) (a : List Bool) (b c : Int) (n : List Bool) :
    lapwinglaw04_AddrBack.l1 (k + 1) x cmd a b c n 2 ((2 : Nat) : Int) s t = lapwinglaw04_AddrBack.l0 k x a b (wrap64 (c + 1)) s t := by
  rw [lapwinglaw04_AddrBack.l1, if_neg (by omega)]
theorem outer_step (k : Nat) (hk : 3 < k) (x : ByteArray) (hx : x.size ≤ 140737488351232) (s t : Int) (h : okA s t) (a : List Bool) (ha : a.length = 2) (i : Nat) (hi : i < 2) :
    lapwinglaw04_AddrBack.l0 (k + 4) x a 2 (i : Int) s t = lapwinglaw04_AddrBack.l0 k x a 2 ((i + 1 : Nat) : Int) s t := by
  rw [lapwinglaw04_AddrBack.l0, if_pos (by omega), if_pos (by omega), if_pos (by omega)]
  refine bind_at rfl ?_
  have h0 := inner_step (k + 2) (by omega) x hx s t h (rdOf false a i) a 2 i [false, true] rfl 0 (by omega)
  have h1 := inner_step (k + 1) (by omega) x hx s t h (rdOf false a i) a 2 i [false, true] rfl 1 (by omega)
  have h2 := inner_end k x s t (rdOf false a i) a 2 i [false, true]
  refine Eq.trans h0 (Eq.trans h1 (Eq.trans h2 ?_))
  rw [w64 (by omega) (by omega)]; rfl
theorem outer_end (k : Nat) (hk : 3 < k) (x : ByteArray) (s t : Int) (a : List Bool) :
    lapwinglaw04_AddrBack.l0 (k + 1) x a 2 ((2 : Nat) : Int) s t = some true := by
  rw [lapwinglaw04_AddrBack.l0, if_neg (by omega)]
  refine bind_at (get_eq k (by omega) x) ?_
  by_cases h : (getA (L x)).2.2.2 = 0
  · obtain ⟨h1, h2, h3⟩ := put_get _ h
    refine Eq.trans (if_pos h) ?_
    have hp : addr_Put.f k (getA (L x)).1 (getA (L x)).2.1 (getA (L x)).2.2.1 = some (strOfNums [4 * (getA (L x)).1 + 2 * Addr.num (getA (L x)).2.2.1, 2 * (getA (L x)).2.1 + 1], 0) := by
      rw [put_eq k hk]; unfold putA; rw [if_pos h1]
    refine bind_at hp ?_
    rw [← size_L] at h3
    refine Eq.trans (if_pos rfl) (Eq.trans (if_pos (by decide)) (Eq.trans (if_pos (by omega)) ?_))
    refine congrArg some ?_
    rw [toList_L, toList_L, h2, L_take]
    exact beq_self_eq_true _
  · refine Eq.trans (if_neg h) (congrArg some (bad_zero _ h))
theorem AddrBack : lapwinglaw04_AddrBack.Pure := by
  intro a0 a1 x w0 w1 hx
  obtain ⟨h0, h1⟩ := bounds_u8 w0
  obtain ⟨h2, h3⟩ := bounds_u8 w1
  obtain ⟨k, hk⟩ : ∃ k : Nat, 10 ≤ k := ⟨10, Nat.le_refl _⟩
  refine ⟨k + 1 + 4 + 4, ?_⟩
  unfold lapwinglaw04_AddrBack.f
  have e1 : Go.bits .and .u8 a0 63 = a0 % 64 := mask_u8 6 (by decide) a0 h0 (by omega)
  have e2 : Go.bits .and .u8 a1 127 = a1 % 128 := mask_u8 7 (by decide) a1 h2 (by omega)
  refine bind_at rfl ?_
  rw [e1, e2, w64 (n := a0 % 64) (by omega) (by omega), w64 (n := a1 % 128) (by omega) (by omega)]
  have hok : okA (a0 % 64) (a1 % 128) := ⟨⟨by omega, by omega⟩, by omega, by omega⟩
  have s0 := outer_step (k + 1 + 4) (by omega) x hx _ _ hok [false, true] rfl 0 (by omega)
  have s1 := outer_step (k + 1) (by omega) x hx _ _ hok [false, true] rfl 1 (by omega)
  exact Eq.trans s0 (Eq.trans s1 (outer_end k (by omega) x _ _ _))
end Go.Proofs.Ytbppngopiackcaa.Pure
