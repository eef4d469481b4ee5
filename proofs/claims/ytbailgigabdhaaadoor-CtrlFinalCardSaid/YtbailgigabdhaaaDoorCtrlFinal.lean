/- The plain statement of CtrlFinal over the printed functions: with P/F the other way just one bit of the octets is another. No condition. -/
import Derived.Test.YtbailgigabdhaaaDoorCtrl
import Derived.Test.YtbailgigabdhaaaDoorPrint7
namespace Go.Proofs.YtbailgigabdhaaaDoor.CtlFin
open Go.RowKit Go.Proofs.YtbailgigabdhaaaDoorW.PrintWords Go.Proofs.YtbailgigabdhaaaDoorW.PrintLast Go.Proofs.YtbailgigabdhaaaDoorW.PrintMore Go.Proofs.YtbailgigabdhaaaDoor.Str Go.Proofs.YtbailgigabdhaaaDoor.Field Go.Proofs.YtbailgigabdhaaaDoor.Pack Go.Proofs.YtbailgigabdhaaaDoor.Ctl Go.Proofs.YtbailgigabdhaaaDoor.Print Go.Proofs.YtbailgigabdhaaaDoorX
theorem xor_self_all : ∀ n : Fin 256, Go.bits .xor .u8 ((n.val : Nat) : Int) ((n.val : Nat) : Int) = 0 := by decide +kernel
theorem xor_pair_all : ∀ n : Fin 128, Go.bits .xor .u8 (2 * ((n.val : Nat) : Int) + 0) (2 * ((n.val : Nat) : Int) + 1) = 1 ∧ Go.bits .xor .u8 (2 * ((n.val : Nat) : Int) + 1) (2 * ((n.val : Nat) : Int) + 0) = 1 := by decide +kernel
theorem xor_self (x : Int) (h0 : 0 ≤ x) (h1 : x ≤ 255) : Go.bits .xor .u8 x x = 0 := by
  have := xor_self_all ⟨x.toNat, by omega⟩
  rwa [show ((x.toNat : Nat) : Int) = x from by omega] at this
theorem xor_pair (r : Int) (h : 0 ≤ r ∧ r < 128) (p : Bool) : Go.bits .xor .u8 (2 * r + b2i p) (2 * r + b2i (!p)) = 1 := by
  have := xor_pair_all ⟨r.toNat, by omega⟩
  rw [show ((r.toNat : Nat) : Int) = r from by omega] at this
  cases p
  · exact this.1
  · exact this.2
theorem xor_sixteen {a : Int} (h : 4 ≤ a ∧ a < 10) (p : Bool) : Go.bits .xor .u8 (rd glFirst a + 16 * b2i p) (rd glFirst a + 16 * b2i (!p)) = 16 := by
  have : a = 4 ∨ a = 5 ∨ a = 6 ∨ a = 7 ∨ a = 8 ∨ a = 9 := by omega
  rcases this with rfl | rfl | rfl | rfl | rfl | rfl <;> cases p <;> decide +kernel
theorem fin_u8 (x : Int) (h0 : 0 ≤ x) (h1 : x ≤ 255) : ((UInt8.ofNat x.toNat).toNat : Int) = x := by
  rw [UInt8.toNat_ofNat']; omega
theorem at_0 (x : Int) (l : List Int) (h0 : 0 ≤ x) (h1 : x ≤ 255) : bt (strOfNums (x :: l)) 0 = x := by
  rw [bt_L, L_nums]
  exact fin_u8 x h0 h1
theorem at_1 (x y : Int) (l : List Int) (h0 : 0 ≤ y) (h1 : y ≤ 255) : bt (strOfNums (x :: y :: l)) 1 = y := by
  rw [bt_L, L_nums]
  exact fin_u8 y h0 h1
theorem round_same (m : Nat) (s t : ByteArray) (e c n i j : Int) (hi : 0 ≤ i) (hj : wrap64 (i + 1) = j) (hn : i < n) (hs : i < (s.size : Int)) (ht : i < (t.size : Int)) (h : Go.bits .xor .u8 (bt s i) (bt t i) = 0) :
    lapwinglaw05_CtrlFinal.l0 (m + 1 + 1) s e t c n i = lapwinglaw05_CtrlFinal.l0 m s e t c n j := by
  rw [lapwinglaw05_CtrlFinal.l0, if_pos hn, if_pos hi, if_pos hs, if_pos ht, h, lapwinglaw05_CtrlFinal.l1, hj]
  exact if_neg (by decide)
theorem round_bit (m : Nat) (s t : ByteArray) (e n i j d : Int) (hi : 0 ≤ i) (hj : wrap64 (i + 1) = j) (hn : i < n) (hs : i < (s.size : Int)) (ht : i < (t.size : Int)) (h : Go.bits .xor .u8 (bt s i) (bt t i) = d) (hd : d = 1 ∨ d = 16) :
    lapwinglaw05_CtrlFinal.l0 (m + 1 + 1 + 1) s e t 0 n i = lapwinglaw05_CtrlFinal.l0 m s e t 1 n j := by
  rw [lapwinglaw05_CtrlFinal.l0, if_pos hn, if_pos hi, if_pos hs, if_pos ht, h, lapwinglaw05_CtrlFinal.l1]
  have hz : Go.bits .and .u8 d ((d - 1) % 256) = 0 := by rcases hd with rfl | rfl <;> decide +kernel
  have hd0 : d > 0 := by omega
  rw [if_pos hd0, hz, show wrap64 (0 + 1) = 1 from by decide +kernel, lapwinglaw05_CtrlFinal.l1, hj]
  exact if_neg (by decide)
theorem at_end (m : Nat) (s t : ByteArray) (c n : Int) (hc : c = 1) : lapwinglaw05_CtrlFinal.l0 (m + 1) s 0 t c n n = some true := by
  rw [lapwinglaw05_CtrlFinal.l0, if_neg (by omega), if_pos rfl, hc]; rfl
theorem fin_err (k : Nat) (hk : 9 < k) (e : Int) (he : e ≠ 0) : lapwinglaw05_CtrlFinal.j0 k ⟨#[]⟩ e ⟨#[]⟩ (((⟨#[]⟩ : ByteArray).size : Int) != ((⟨#[]⟩ : ByteArray).size : Int)) = some true := by
  obtain ⟨m, rfl⟩ : ∃ m, k = m + 1 + 1 := ⟨k - 2, by omega⟩
  rw [lapwinglaw05_CtrlFinal.j0]
  refine Eq.trans (if_neg (by simp)) ?_
  rw [lapwinglaw05_CtrlFinal.l0]
  refine Eq.trans (if_neg (by decide)) ?_
  exact if_neg he
theorem fin_two (k : Nat) (hk : 9 < k) (x r : Int) (hx : 0 ≤ x ∧ x ≤ 255) (hr : 0 ≤ r ∧ r < 128) (p : Bool) :
    lapwinglaw05_CtrlFinal.j0 k (strOfNums [x, 2 * r + b2i p]) 0 (strOfNums [x, 2 * r + b2i (!p)]) (((strOfNums [x, 2 * r + b2i p]).size : Int) != ((strOfNums [x, 2 * r + b2i (!p)]).size : Int)) = some true := by
  obtain ⟨m, rfl⟩ : ∃ m, k = m + 1 + 1 + 1 + 1 + 1 + 1 + 1 := ⟨k - 7, by omega⟩
  have hp := b2i_range p
  have hq := b2i_range (!p)
  have z1 : (strOfNums [x, 2 * r + b2i p]).size = 2 := nums_size _
  have z2 : (strOfNums [x, 2 * r + b2i (!p)]).size = 2 := nums_size _
  have x1 := at_0 x [2 * r + b2i p] hx.1 hx.2
  have x2 := at_0 x [2 * r + b2i (!p)] hx.1 hx.2
  have y1 := at_1 x (2 * r + b2i p) [] (by omega) (by omega)
  have y2 := at_1 x (2 * r + b2i (!p)) [] (by omega) (by omega)
  have hxx := xor_self x hx.1 hx.2
  have hyy := xor_pair r hr p
  rw [← x1] at hxx
  generalize strOfNums [x, 2 * r + b2i p] = s at *
  generalize strOfNums [x, 2 * r + b2i (!p)] = t at *
  rw [lapwinglaw05_CtrlFinal.j0]
  refine Eq.trans (if_neg (by rw [z1, z2]; decide)) ?_
  rw [z1]
  refine Eq.trans (round_same _ s t 0 0 _ 0 1 (by decide) (by decide +kernel) (by decide) (by rw [z1]; decide) (by rw [z2]; decide) ?_) ?_
  · rw [x1, x2]; rwa [x1] at hxx
  · refine Eq.trans (round_bit _ s t 0 _ 1 2 1 (by decide) (by decide +kernel) (by decide) (by rw [z1]; decide) (by rw [z2]; decide) ?_ (Or.inl rfl)) ?_
    · rw [y1, y2]; exact hyy
    · exact at_end _ s t 1 2 rfl
theorem fin_one (k : Nat) (hk : 9 < k) {a : Int} (h : 4 ≤ a ∧ a < 10) (p : Bool) :
    lapwinglaw05_CtrlFinal.j0 k (strOfNums [rd glFirst a + 16 * b2i p]) 0 (strOfNums [rd glFirst a + 16 * b2i (!p)]) (((strOfNums [rd glFirst a + 16 * b2i p]).size : Int) != ((strOfNums [rd glFirst a + 16 * b2i (!p)]).size : Int)) = some true := by
  obtain ⟨m, rfl⟩ : ∃ m, k = m + 1 + 1 + 1 + 1 + 1 := ⟨k - 5, by omega⟩
  have hp := b2i_range p
  have hq := b2i_range (!p)
  have hf := fo_range (a := a) (by omega)
  have hyy := xor_sixteen h p
  have z1 : (strOfNums [rd glFirst a + 16 * b2i p]).size = 1 := nums_size _
  have z2 : (strOfNums [rd glFirst a + 16 * b2i (!p)]).size = 1 := nums_size _
  have y1 := at_0 (rd glFirst a + 16 * b2i p) [] (by omega) (by omega)
  have y2 := at_0 (rd glFirst a + 16 * b2i (!p)) [] (by omega) (by omega)
  generalize strOfNums [rd glFirst a + 16 * b2i p] = s at *
  generalize strOfNums [rd glFirst a + 16 * b2i (!p)] = t at *
  rw [lapwinglaw05_CtrlFinal.j0]
  refine Eq.trans (if_neg (by rw [z1, z2]; decide)) ?_
  rw [z1]
  refine Eq.trans (round_bit _ s t 0 _ 0 1 16 (by decide) (by decide +kernel) (by decide) (by rw [z1]; decide) (by rw [z2]; decide) ?_ (Or.inr rfl)) ?_
  · rw [y1, y2]; exact hyy
  · exact at_end _ s t 1 1 rfl
end Go.Proofs.YtbailgigabdhaaaDoor.CtlFin
namespace Go.Proofs.YtbailgigabdhaaaDoor.Pure
open Go.RowKit Go.Proofs.YtbailgigabdhaaaDoorW.PrintWords Go.Proofs.YtbailgigabdhaaaDoorW.PrintLast Go.Proofs.YtbailgigabdhaaaDoorW.PrintMore Go.Proofs.YtbailgigabdhaaaDoor.Str Go.Proofs.YtbailgigabdhaaaDoor.Field Go.Proofs.YtbailgigabdhaaaDoor.Ctl Go.Proofs.YtbailgigabdhaaaDoor.CtlFin Go.Proofs.YtbailgigabdhaaaDoor.Print Go.Proofs.YtbailgigabdhaaaDoorX
theorem CtrlFinal : lapwinglaw05_CtrlFinal.Pure := by
  intro a p s r _ _ _
  obtain ⟨k, hk⟩ : ∃ k, 9 < k := ⟨10, by omega⟩
  refine ⟨k, ?_⟩
  unfold lapwinglaw05_CtrlFinal.f
  refine bind_at (show lapwinglaw05_made.f a p s r = some (a, p, s, r) from rfl) ?_
  refine bind_at (put_eq k (by omega) a p s r) (bind_at (put_eq k (by omega) a (!p) s r) (bind_at (wakes_eq k (by omega)) (Eq.trans (if_pos rfl) ?_)))
  by_cases h : 0 ≤ a ∧ a < 10
  · by_cases h3 : a ≤ 3
    · by_cases hr : 0 ≤ r ∧ r < 128
      · by_cases h0 : a = 0
        · by_cases hs : 0 ≤ s ∧ s < 128
          · have hP : ∀ q, putC a q s r = (strOfNums [2 * s, 2 * r + b2i q], 0) := fun q => by unfold putC; rw [if_pos h, if_pos h3, if_pos hr, if_pos h0, if_pos hs]
            rw [hP, hP]
            exact Eq.trans (if_pos rfl) (fin_two k hk (2 * s) r (by omega) hr p)
          · have hP : ∀ q, putC a q s r = (⟨#[]⟩, 2) := fun q => by unfold putC; rw [if_pos h, if_pos h3, if_pos hr, if_pos h0, if_neg hs]
            rw [hP, hP]
            exact Eq.trans (if_pos rfl) (fin_err k hk 2 (by decide))
        · have hP : ∀ q, putC a q s r = (strOfNums [rd glFirst a, 2 * r + b2i q], 0) := fun q => by unfold putC; rw [if_pos h, if_pos h3, if_pos hr, if_neg h0]
          rw [hP, hP]
          have hf := fo_range h
          exact Eq.trans (if_pos rfl) (fin_two k hk _ r (by omega) hr p)
      · have hP : ∀ q, putC a q s r = (⟨#[]⟩, 2) := fun q => by unfold putC; rw [if_pos h, if_pos h3, if_neg hr]
        rw [hP, hP]
        exact Eq.trans (if_pos rfl) (fin_err k hk 2 (by decide))
    · have hP : ∀ q, putC a q s r = (strOfNums [rd glFirst a + 16 * b2i q], 0) := fun q => by unfold putC; rw [if_pos h, if_neg h3]
      rw [hP, hP]
      exact Eq.trans (if_pos rfl) (fin_one k hk (by omega) p)
  · have hP : ∀ q, putC a q s r = (⟨#[]⟩, 4) := fun q => by unfold putC; rw [if_neg h]
    rw [hP, hP]
    exact Eq.trans (if_pos rfl) (fin_err k hk 4 (by decide))
end Go.Proofs.YtbailgigabdhaaaDoor.Pure
