/- The document's own Flip by its text: each place's bit turned, one behind the other. The text at most 2^63 - 1 octets long. -/
import Derived.Test.YtfopcnabcmdclaaFlip
namespace Go.Proofs.Ytfopcnabcmdclaa.Flip
open Go.RowKit Go.Proofs.YtfopcnabcmdclaaW.PrintWords Go.Proofs.YtfopcnabcmdclaaW.PrintLast Go.Proofs.YtfopcnabcmdclaaW.PrintMore Go.Proofs.Ytfopcnabcmdclaa.Str Go.Proofs.Ytfopcnabcmdclaa.Bits Go.Proofs.Ytfopcnabcmdclaa.RowB
set_option linter.unusedVariables false
set_option maxHeartbeats 4000000 in
set_option maxRecDepth 1000000 in
theorem walkR (s : ByteArray) (A : Option Addr) (c : Nat) (l : List Int) (w : World) (hs : s.size ≤ 9223372036854775807) (hr : (Kd.int .i64).C w A l.length l) (hc : l.length ≤ c) :
    Calls Try.prog 26 #[.string s, .slice A l.length c] w fun e w' => e = .returned (.string ⟨(turnL (L s) l).toArray⟩) ∧ Below w.heap.size w w' := by
  have hm : l.length ≤ 9223372036854775807 := hr.2.1
  go_enter Try.func26, Try.ntmps26
  go_wp2_with (refine wpList_bytes _ rfl (.tmp 8) 9 66 5 rfl Try.underlying9 Try.underlying66 Try.underlying5 s rfl ?_; intro w1 cap hb1 hB1 hcap hlt1)
  go_loopw [6] (fun v wr => ∃ k : Nat, k ≤ l.length ∧ v = .int .i64 k ∧ RowB 5 wr w.heap.size cap (turnL (L s) (l.take k)) ∧ Below w.heap.size w wr) (fun v _ => l.length - (intOf v).toNat)
  case atStart => exact ⟨0, Nat.zero_le _, rfl, hb1, hB1⟩
  case round =>
    clear hb1 hB1
    obtain ⟨k, hk, rfl, hR, hB⟩ := hrel
    have hl : (turnL (L s) (l.take k)).length = s.size := by rw [turnL_length, ← size_L]
    by_cases hlt : k < l.length
    · obtain ⟨ad, rfl, hx⟩ := Kd.at_int hr (k : Int) (by omega) (by omega)
      have hx2 := (hB.cell (World.block_lt_of_cell? w _ hx)).trans hx
      have hrd : rd l (k : Int) = l[k] := by unfold rd; rw [Int.toNat_natCast, List.getD_eq_getElem?_getD, List.getElem?_eq_getElem hlt]; rfl
      have HT := Aside0.mk (turnL_take (L s) l k hlt)
      rw [hrd, Int.toNat_natCast] at hx2
      generalize l[k] = i at hx2 HT
      have HR := Aside0.mk hR
      have HB := Aside0.mk hB
      have hlt1' := hR.lt
      clear hR hB hrd hx
      by_cases h0 : 0 ≤ i
      · by_cases h1 : i < (s.size : Int)
        · obtain ⟨n, rfl⟩ : ∃ n : Nat, i = n := ⟨i.toNat, by omega⟩
          have hn : n < (turnL (L s) (l.take k)).length := by omega
          have hcl := HR.out.cell n hn
          have hfr := HR.out.free n (by omega)
          obtain ⟨b, HBb⟩ : ∃ b, Aside0 ((turnL (L s) (l.take k))[n] = b) := ⟨_, ⟨rfl⟩⟩
          rw [HBb.out] at hcl
          unfold num at hcl
          have hg : (turnL (L s) (l.take k)).getD n 0 = b := by rw [List.getD_eq_getElem?_getD, List.getElem?_eq_getElem hn]; exact HBb.out
          have HG := Aside0.mk hg
          clear hg HBb
          by_cases hd : b = 48
          · subst hd
            have HE : Aside0 (turnL (L s) (l.take (k + 1)) = (turnL (L s) (l.take k)).set n 49) := ⟨by
              rw [HT.out]; unfold turn1
              rw [if_pos ⟨h0, by omega, by rw [Int.toNat_natCast, HG.out]; decide⟩, Int.toNat_natCast, HG.out]; rfl⟩
            have e0 : ((48 : UInt8).toNat : Int) = 48 := rfl
            rw [e0] at hcl
            clear HT HG hl e0
            go_wp2
            go_roundw
            case rel => exact ⟨k + 1, by omega, by go_num, by rw [HE.out]; exact HR.out.set n hn 49, HB.out.setCell (p := ⟨w.heap.size, n, none⟩) (Nat.le_refl _) _⟩
            case measure => simp [intOf]; omega
          · by_cases he : b = 49
            · subst he
              have HE : Aside0 (turnL (L s) (l.take (k + 1)) = (turnL (L s) (l.take k)).set n 48) := ⟨by
                rw [HT.out]; unfold turn1
                rw [if_pos ⟨h0, by omega, by rw [Int.toNat_natCast, HG.out]; decide⟩, Int.toNat_natCast, HG.out]; rfl⟩
              have e0 : ((49 : UInt8).toNat : Int) = 49 := rfl
              rw [e0] at hcl
              clear HT HG hl e0
              go_wp2
              go_roundw
              case rel => exact ⟨k + 1, by omega, by go_num, by rw [HE.out]; exact HR.out.set n hn 48, HB.out.setCell (p := ⟨w.heap.size, n, none⟩) (Nat.le_refl _) _⟩
              case measure => simp [intOf]; omega
            · have HE : Aside0 (turnL (L s) (l.take (k + 1)) = turnL (L s) (l.take k)) := ⟨by
                rw [HT.out]; unfold turn1
                rw [if_neg]
                rintro ⟨_, _, h3⟩
                rw [Int.toNat_natCast, HG.out] at h3
                exact h3.elim hd he⟩
              have g1 : ((b.toNat : Int) == 48) = false := by
                have : b.toNat ≠ 48 := fun h => hd (UInt8.toNat_inj.1 h)
                simpa using (by omega : ¬ (b.toNat : Int) = 48)
              have g2 : ((b.toNat : Int) == 49) = false := by
                have : b.toNat ≠ 49 := fun h => he (UInt8.toNat_inj.1 h)
                simpa using (by omega : ¬ (b.toNat : Int) = 49)
              clear hd he HT HG hl
              go_wp2
              go_roundw
              case rel => exact ⟨k + 1, by omega, by go_num, by rw [HE.out]; exact HR.out, HB.out⟩
              case measure => simp [intOf]; omega
        · have HE : Aside0 (turnL (L s) (l.take (k + 1)) = turnL (L s) (l.take k)) := ⟨by
            rw [HT.out]; unfold turn1
            rw [if_neg]
            rintro ⟨_, h2, _⟩
            omega⟩
          have h1' : decide ((s.size : Int) ≤ i) = true := decide_eq_true (by omega)
          clear HT hl h1
          go_wp2
          go_roundw
          case rel => exact ⟨k + 1, by omega, by go_num, by rw [HE.out]; exact HR.out, HB.out⟩
          case measure => simp [intOf]; omega
      · have HE : Aside0 (turnL (L s) (l.take (k + 1)) = turnL (L s) (l.take k)) := ⟨by
          rw [HT.out]; unfold turn1
          rw [if_neg]
          rintro ⟨h2, _, _⟩
          exact h0 h2⟩
        have h0' : decide (i < 0) = true := decide_eq_true (by omega)
        clear HT hl h0
        go_wp2
        go_roundw
        case rel => exact ⟨k + 1, by omega, by go_num, by rw [HE.out]; exact HR.out, HB.out⟩
        case measure => simp [intOf]; omega
    · have e : l.take k = l := List.take_of_length_le (by omega)
      rw [e] at hR hl
      have hz := hR.reads (by omega)
      rw [hl] at hz
      have hcv := Kd.C_string (P := Try.prog) (c := cap) Try.underlying66 Try.underlying5 Try.underlying9 hz
      rw [nums_of] at hcv
      clear hl
      go_wp2
      go_ret
      exact ⟨rfl, hB⟩
theorem walkRN (s : ByteArray) (A : Option Addr) (n c : Nat) (l : List Int) (w : World) (hs : s.size ≤ 9223372036854775807) (hr : (Kd.int .i64).C w A n l) (hc : n ≤ c) :
    Calls Try.prog 26 #[.string s, .slice A n c] w fun e w' => e = .returned (.string ⟨(turnL (L s) l).toArray⟩) ∧ Below w.heap.size w w' := by
  obtain rfl : l.length = n := hr.1
  exact walkR s A c l w hs hr hc
end Go.Proofs.Ytfopcnabcmdclaa.Flip
