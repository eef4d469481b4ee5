/- The bus by its text, second part: Down, Up. -/
import Derived.Test.YtfopcnabcmdclaaBusW
namespace Go.Proofs.Ytfopcnabcmdclaa.Bs
open Go Go.RowKit Go.Proofs.YtfopcnabcmdclaaW.PrintWords Go.Proofs.YtfopcnabcmdclaaW.PrintLast Go.Proofs.YtfopcnabcmdclaaW.PrintMore Go.Proofs.Ytfopcnabcmdclaa.Str Go.Proofs.Ytfopcnabcmdclaa.Bits Go.Proofs.Ytfopcnabcmdclaa.Mp Go.Proofs.Ytfopcnabcmdclaa.Ra
set_option linter.unusedVariables false
theorem wfi_small {i : Int} (h0 : 0 ≤ i) (h1 : i ≤ 9223372036854775807) : wfi i := WalkArith.wf_i64 (by omega)
def addQ (q : Bool → Int → List ByteArray) (d : Bool) (i : Int) (s : ByteArray) : Bool → Int → List ByteArray := if (q d i).length < 256 then updQ q d i (q d i ++ [s]) else q
/-- Behind k terminals of a Down: the rows; how many took it. -/
def downQ (q : Bool → Int → List ByteArray) (s : ByteArray) : Nat → (Bool → Int → List ByteArray)
  | 0 => q
  | k + 1 => addQ (downQ q s k) true k s
def downN (q : Bool → Int → List ByteArray) (s : ByteArray) : Nat → Nat
  | 0 => 0
  | k + 1 => downN q s k + if (downQ q s k true k).length < 256 then 1 else 0
theorem downN_le (q : Bool → Int → List ByteArray) (s : ByteArray) (k : Nat) : downN q s k ≤ k := by
  induction k with
  | zero => exact Nat.le_refl _
  | succ k ih => unfold downN; split <;> omega
set_option maxHeartbeats 4000000 in
set_option maxRecDepth 1000000 in
theorem downW (T : Nat → Prop) (p mb c n : Nat) (q : Bool → Int → List ByteArray) (f : Lit → Option Value) (w : World) (h : BusAt T w p mb c n q f) (hcn : c ≤ 999999900) (s : ByteArray) (hs : s.size ≤ 9223372036854775807) :
    Calls Try.prog 10 #[.pointer (some ⟨p, 0, none⟩), .string s] w fun e w' => e = .returned (.int .i64 (downN q s n : Int)) ∧ Went T w p mb (c + n) n (downQ q s n) w' := by
  have HH := Aside0.mk h
  have hn := h.n16
  clear h
  go_enter Try.func10, Try.ntmps10
  go_wp2_with fail
  refine (sizeW T p mb c n q f w HH.out).mono ?_
  rintro e w1 ⟨rfl, rfl⟩
  go_wp2
  go_loopw [5, 9] (fun u x wr => ∃ k : Nat, k ≤ n ∧ x = .int .i64 k ∧ u = .int .i64 (downN q s k : Int) ∧ Aside0 (Went T w p mb (c + k) n (downQ q s k) wr)) (fun _ x _ => n - (intOf x).toNat)
  case atStart => exact ⟨0, Nat.zero_le _, rfl, rfl, ⟨Went.still HH.out (Below.refl _ _)⟩⟩
  case round =>
    obtain ⟨k, hk, rfl, rfl, HG⟩ := hrel
    by_cases hlt : k < n
    · obtain ⟨T1, c1, f1, hb, hc1, hkb, hT1⟩ := HG.out
      have HB := Aside0.mk hb
      have HKB := Aside0.mk hkb
      have HT1 := Aside0.mk hT1
      have hdn := downN_le q s k
      have HDN : Aside0 (downN q s (k + 1) = downN q s k + if (downQ q s k true k).length < 256 then 1 else 0) := ⟨rfl⟩
      have HDQ : Aside0 (downQ q s (k + 1) = if (downQ q s k true k).length < 256 then updQ (downQ q s k) true k (downQ q s k true k ++ [s]) else downQ q s k) := ⟨rfl⟩
      clear hb hkb hT1 HG
      go_wp2_with fail
      refine (putW T1 p mb c1 n (downQ q s k) f1 wr HB.out (by omega) true k (wfi_small (by omega) (by omega)) (by omega) s hs).mono ?_
      rintro e w2 ⟨rfl, hw⟩
      have hg := Went.trans (c := c + (k + 1)) HKB.out HT1.out (by omega) hw
      have HG2 : Aside0 (Went T w p mb (c + (k + 1)) n (downQ q s (k + 1)) w2) := ⟨by rw [HDQ.out]; exact hg⟩
      clear hg hw HDQ HB HKB HT1
      by_cases hl : (downQ q s k true k).length < 256
      · rw [if_pos hl] at HDN
        rw [decide_eq_true hl]
        go_wp2
        exact ⟨⟨k + 1, by omega, by go_num, by rw [HDN.out]; go_num, HG2⟩, by simp [intOf]; omega⟩
      · rw [if_neg hl] at HDN
        rw [decide_eq_false hl]
        go_wp2
        exact ⟨⟨k + 1, by omega, by go_num, by rw [HDN.out]; go_num, HG2⟩, by simp [intOf]; omega⟩
    · obtain rfl : k = n := by omega
      go_wp2
      go_ret
      exact ⟨rfl, HG.out⟩
/-- What Up answers. -/
def upE (q : Bool → Int → List ByteArray) (n : Nat) (i : Int) : Int := if 0 ≤ i ∧ i < (n : Int) then (if (q false i).length < 256 then 0 else 10) else 11
def upQ (q : Bool → Int → List ByteArray) (n : Nat) (i : Int) (s : ByteArray) : Bool → Int → List ByteArray := if 0 ≤ i ∧ i < (n : Int) then addQ q false i s else q
set_option maxHeartbeats 4000000 in
set_option maxRecDepth 1000000 in
theorem upW (T : Nat → Prop) (p mb c n : Nat) (q : Bool → Int → List ByteArray) (f : Lit → Option Value) (w : World) (h : BusAt T w p mb c n q f) (hcn : c ≤ 999999900) (i : Int) (hi : wfi i) (s : ByteArray) (hs : s.size ≤ 9223372036854775807) :
    Calls Try.prog 11 #[.pointer (some ⟨p, 0, none⟩), .int .i64 i, .string s] w fun e w' => e = .returned (.int .i64 (upE q n i)) ∧ Went T w p mb (c + 1) n (upQ q n i s) w' := by
  have c0 := h.cell0
  have HH := Aside0.mk h
  have HE : Aside0 (upE q n i = if 0 ≤ i ∧ i < (n : Int) then (if (q false i).length < 256 then 0 else 10) else 11) := ⟨rfl⟩
  have HQ : Aside0 (upQ q n i s = if 0 ≤ i ∧ i < (n : Int) then (if (q false i).length < 256 then updQ q false i (q false i ++ [s]) else q) else q) := ⟨rfl⟩
  have HS : Aside0 (Went T w p mb (c + 1) n q w) := ⟨by obtain ⟨T', c', f', x1, x2, x3, x4⟩ := Went.still h (Below.refl _ _); exact ⟨T', c', f', x1, by omega, x3, x4⟩⟩
  have hn := h.n16
  clear h
  by_cases h0 : i < 0
  · rw [if_neg (by omega)] at HE HQ
    go_enter Try.func11, Try.ntmps11
    go_wp2
    go_ret
    exact ⟨by rw [HE.out]; rfl, by rw [HQ.out]; exact HS.out⟩
  · by_cases h1 : (n : Int) ≤ i
    · rw [if_neg (by omega)] at HE HQ
      go_enter Try.func11, Try.ntmps11
      go_wp2
      go_ret
      exact ⟨by rw [HE.out]; rfl, by rw [HQ.out]; exact HS.out⟩
    · rw [if_pos (by omega)] at HE HQ
      go_enter Try.func11, Try.ntmps11
      go_wp2_with fail
      refine (putW T p mb c n q f w HH.out (by omega) false i hi (by omega) s hs).mono ?_
      rintro e w2 ⟨rfl, hw⟩
      rw [← HQ.out] at hw
      have HW := Aside0.mk hw
      clear hw
      by_cases hl : (q false i).length < 256
      · rw [if_pos hl] at HE
        rw [decide_eq_true hl]
        clear hl
        go_wp2
        go_ret
        exact ⟨by rw [HE.out]; rfl, HW.out⟩
      · rw [if_neg hl] at HE
        rw [decide_eq_false hl]
        clear hl
        go_wp2
        go_ret
        exact ⟨by rw [HE.out]; rfl, HW.out⟩
end Go.Proofs.Ytfopcnabcmdclaa.Bs
