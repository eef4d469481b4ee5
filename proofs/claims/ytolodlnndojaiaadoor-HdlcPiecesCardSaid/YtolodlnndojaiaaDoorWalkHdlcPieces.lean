/- The law HdlcPieces by its own text: it answers true. -/
import Derived.Test.YtolodlnndojaiaaDoorHdlcTwo
import Derived.Test.YtolodlnndojaiaaDoorWEqStruct
import Derived.OpenShut
import Derived.Deep.QuietTactic
import Derived.BigQuiet
import Derived.RegionTactic
import Derived.BigRegion
namespace Go.Proofs.YtolodlnndojaiaaDoor.Wk
open Go.RowKit Go.Proofs.YtolodlnndojaiaaDoorW.PrintWords Go.Proofs.YtolodlnndojaiaaDoorW.PrintLast Go.Proofs.YtolodlnndojaiaaDoorW.PrintMore Go.Proofs.YtolodlnndojaiaaDoor.Str Go.Proofs.YtolodlnndojaiaaDoor.Bits Go.Proofs.YtolodlnndojaiaaDoor.Oct Go.Proofs.YtolodlnndojaiaaDoor.Hd
set_option linter.unusedVariables false
attribute [local go_sem] max2_int min2_int
theorem C_take {α : Type} {d : Kd α} {w : World} {A : Option Addr} {n k : Nat} {l : List α} (h : d.C w A n l) (hk : k ≤ n) : d.C w A k (l.take k) := by
  obtain ⟨h1, h2, h3⟩ := h
  refine ⟨by rw [List.length_take]; omega, by omega, fun h0 => ?_⟩
  obtain ⟨ad, e, hx⟩ := h3 (by omega)
  refine ⟨ad, e, fun j p hj => hx j p ?_⟩
  rw [List.getElem?_take] at hj
  split at hj
  · exact hj
  · cases hj
set_option maxHeartbeats 4000000 in
set_option maxRecDepth 1000000 in
theorem idle_at (d : Nat) (v : Value) (wi : Bool) (on : Nat) (w : World) (hh : w.heap[d]? = some (.cells #[v, .bool wi, .int .i64 (on : Int)] 55 (0, 0))) :
    Calls Tryd.prog 18 #[.pointer (some ⟨d, 0, none⟩)] w fun e w' => e = .returned (.bool (decide ((15 : Int) ≤ (on : Int)))) ∧ w = w' := by
  have c2 : w.cell? ⟨d, 2, none⟩ = some (.int .i64 (on : Int)) := by rw [Lib.cell_of_heap hh]; rfl
  clear hh
  go_enter Tryd.func18, Tryd.ntmps18
  go_wp2
  go_returns
  exact ⟨rfl, rfl⟩
set_option maxHeartbeats 8000000 in
set_option maxRecDepth 1000000 in
theorem pieces (a0 : ByteArray) (A : Option Addr) (c n : Nat) (l : List Int) (w : World) (w0 : a0.size ≤ 140737488351232) (hr : (Kd.int .i64).C w A n l) (hc : n ≤ c) :
    Calls Tryd.prog 6 #[.string a0, .slice A n c] w fun e w' => e = .returned (.bool true) ∧ Below w.heap.size w w' := by
  have hm := hr.2.1
  have z0 := cut_size a0 5000
  go_enter Tryd.func6, Tryd.ntmps6
  go_wp2_with fail
  generalize a0.extract 0 (min (a0.size : Int) 5000).toNat = s at z0
  refine (new w).mono ?_
  rintro e w1 ⟨rfl, hw1⟩
  have hb1 : Below w.heap.size w w1 := by rw [hw1]; exact (Below.refl _ _).alloc (Nat.le_refl _) _
  have hs1 : w1.heap.size = w.heap.size + 1 := by rw [hw1]; show (w.heap.push _).size = _; simp
  have h1 : w1.heap[w.heap.size]? = some (.cells #[.slice none 0 0, .bool false, .int .i64 0] 55 (0, 0)) := by rw [hw1]; exact Go.heap_alloc_new _ _
  have H1 := Aside0.mk h1
  clear hw1 h1
  go_wp2_with fail
  refine (new w1).mono ?_
  rintro e w2 ⟨rfl, hw2⟩
  have hb2 : Below w.heap.size w w2 := by rw [hw2]; exact hb1.alloc hb1.size _
  have hs2 : w2.heap.size = w.heap.size + 2 := by rw [hw2]; show (w1.heap.push _).size = _; simp; omega
  have hd1 : DecAt w.heap.size w2 w.heap.size (.slice none 0 0) St.new := ⟨by rw [hw2]; exact heap_al H1.out _, no_row _ _ _⟩
  have hh2 : w2.heap[w.heap.size + 1]? = some (.cells #[.slice none 0 0, .bool false, .int .i64 0] 55 (0, 0)) := by rw [hw2, ← hs1]; exact Go.heap_alloc_new _ _
  rw [hs1]
  have HD1 := Aside0.mk hd1
  have HH2 := Aside0.mk hh2
  clear hw2 hb1 hs1 hd1 hh2 H1
  go_wp2_with fail
  refine (feed w.heap.size w.heap.size (.slice none 0 0) St.new s w2 HD1.out (by omega) new_ok (by decide) (by omega)).mono ?_
  rintro e w3 ⟨u3, rfl, hrow, hwent⟩
  have hb3 : Below w.heap.size w w3 := hb2.trans (went_below HD1.out (Nat.le_refl _) hwent)
  have hok := feedL_ok St.new (L s) new_ok
  obtain ⟨⟨s1, E⟩, HE⟩ : ∃ q, Aside0 (feedL St.new (L s) = q) := ⟨_, ⟨rfl⟩⟩
  rw [HE.out] at hrow hwent hok
  obtain ⟨v1, hD, _, hK⟩ := hwent
  have hh1 := hD.1
  have hh2 : w3.heap[w.heap.size + 1]? = some (.cells #[.slice none 0 0, .bool false, .int .i64 0] 55 (0, 0)) := by
    rw [hK.block _ (by omega) (by rintro (h | h); exact absurd h (by omega); cases h)]
    exact HH2.out
  have hs3 := hK.size
  have HMID := Aside0.mk (Mid.start (S := L s) rfl hh2)
  have HH1 := Aside0.mk hh1
  have HROW := Aside0.mk hrow
  have HB3 := Aside0.mk hb3
  clear hh1 hh2 hD hK hrow hb3 hb2 HD1 HH2
  obtain ⟨N, hN⟩ : ∃ N, N = w3.heap.size := ⟨_, rfl⟩
  rw [← hN] at HMID
  have HN := Aside0.mk hN
  clear hN
  go_wp2
  have hrm := C_take hr (by omega : (min (n : Int) 200).toNat ≤ n)
  have hmm : max (min (n : Int) 200) 0 = ((min (n : Int) 200).toNat : Int) := by omega
  have hm2 : (min (n : Int) 200).toNat ≤ 200 := by omega
  generalize (min (n : Int) 200).toNat = m at hrm hmm hm2
  generalize l.take m = l' at hrm
  clear hr hm
  rw [hmm]
  clear hmm
  have HRM := Aside0.mk hrm
  clear hrm
  go_loopw [8, 9, 31] (fun got r x wr => ∃ k : Nat, k ≤ m ∧ x = .int .i64 k ∧ ∃ b : ByteArray, b.size ≤ 5000 ∧ r = .string b ∧ Aside0 (Mid N (w.heap.size + 1) (L s) w3 got (L b) wr)) (fun _ _ x _ => m - (intOf x).toNat)
  case atStart => exact ⟨0, Nat.zero_le _, rfl, s, z0, rfl, HMID⟩
  case round =>
    clear HMID
    obtain ⟨k, hk, rfl, b, hbs, rfl, HM⟩ := hrel
    by_cases hlt : k < m
    · have hN3 := HN.out
      have hwb : Below w.heap.size w wr := HB3.out.trans (HM.out.kb.below (by omega) (fun k hk => by omega))
      obtain ⟨ad, rfl, hx⟩ := Kd.at_int HRM.out (k : Int) (by omega) (by omega)
      have hx2 := (hwb.cell (World.block_lt_of_cell? w _ hx)).trans hx
      rw [Int.toNat_natCast] at hx2
      generalize rd l' (k : Int) = i at hx2
      obtain ⟨q, hq⟩ : ∃ q : Nat, min (max 0 i % 20) (b.size : Int) = (q : Int) := ⟨(min (max 0 i % 20) (b.size : Int)).toNat, by have := Int.emod_nonneg (max 0 i) (by omega : (20 : Int) ≠ 0); omega⟩
      have hqb : (q : Int) ≤ (b.size : Int) := by omega
      have hsp : L b = L (b.extract 0 q) ++ L (b.extract q b.size) := by rw [L_take, L_cut, size_L, List.take_length, List.take_append_drop]
      have hM := HM.out
      rw [hsp] at hM
      have HMM := Aside0.mk hM
      have hbz : (b.extract q b.size).size ≤ 5000 := by rw [ByteArray.size_extract]; omega
      have HS : Aside0 ((L s).length ≤ 1099511627776) := ⟨by rw [← size_L]; omega⟩
      clear hwb hx hsp hM HM hN3
      go_wp2_with fail
      refine (feed_mid N (w.heap.size + 1) (L s) _ _ w3 wr _ (b.extract 0 q) rfl HMM.out HS.out).mono ?_
      rintro e w4 ⟨u, rfl, hM2⟩
      have HM2 := Aside0.mk hM2
      clear HMM hM2 hx2
      go_wp2_with (at_builtin; refine wpList_append_mid rfl _ _ rfl rfl N _ _ _ _ _ rfl rfl HM2.out HS.out ?_)
      intro v' w5 hM3
      have HM3 := Aside0.mk hM3
      clear hM3 HM2
      go_wp2
      go_roundw
      case rel => exact ⟨k + 1, by omega, by go_num, _, hbz, rfl, HM3⟩
      case measure => simp [intOf]; omega
    · have hM := HM.out
      rw [show L b = L b ++ [] from by simp] at hM
      have HMM := Aside0.mk hM
      have HS : Aside0 ((L s).length ≤ 1099511627776) := ⟨by rw [← size_L]; omega⟩
      clear hM HM
      go_wp2_with fail
      refine (feed_mid N (w.heap.size + 1) (L s) _ _ w3 wr _ b rfl HMM.out HS.out).mono ?_
      rintro e w4 ⟨u, rfl, hM2⟩
      have HM2 := Aside0.mk hM2
      clear HMM hM2
      go_wp2_with (at_builtin; refine wpList_append_mid rfl _ _ rfl rfl N _ _ _ _ _ rfl rfl HM2.out HS.out ?_)
      intro v' w5 hM3
      obtain ⟨pre, s2, evs, v2, hp, hf, hrow, hdec, hkb, hdN, _⟩ := hM3
      rw [List.append_nil] at hp
      subst hp
      rw [HE.out] at hf
      injection hf with hf1 hf2
      subst hf1
      subst hf2
      have hN3 := HN.out
      have hw5 := hkb.size
      have hb5 : Below w.heap.size w w5 := HB3.out.trans (hkb.below (by omega) (fun k hk => by omega))
      have hh1 : w5.heap[w.heap.size]? = some (.cells #[v1, .bool s1.within, .int .i64 (s1.ones : Int)] 55 (0, 0)) := by
        rw [hkb.block _ (by omega) (by omega)]
        exact HH1.out
      have hh2 := hdec.1
      have hrow3 := hkb.row HROW.out (fun j hj => by have := (HROW.out.lt j hj).1; omega)
      have HH5 := Aside0.mk hh1
      have HH6 := Aside0.mk hh2
      have HE1 := Aside0.mk (show Evs _ _ _ from ⟨_, hrow⟩)
      have HE2 := Aside0.mk (show Evs _ _ _ from ⟨_, hrow3⟩)
      clear hh1 hh2 hrow3 hrow hdec hkb HM2 HROW HH1 HB3 hN3
      go_wp2_with fail
      refine (Hd.wakes _).mono ?_
      rintro e w6 ⟨rfl, hb6⟩
      have hb7 := below_step hb5 hb6
      have hh1 := (hb6.block _ (Array.getElem?_eq_some_iff.1 HH5.out).1).trans HH5.out
      have hh2 := (hb6.block _ (Array.getElem?_eq_some_iff.1 HH6.out).1).trans HH6.out
      have hE1 := HE1.out.kept hb6
      have hE2 := HE2.out.kept hb6
      have HH7 := Aside0.mk hh1
      have HH8 := Aside0.mk hh2
      clear hh1 hh2 HH5 HH6 HE1 HE2 hb5 hb6
      have hlen : ∀ {x : Value} {ww : World}, Evs x E ww → ∃ A cc, x = .slice A E.length cc := by
        intro x ww h
        obtain ⟨_, hr⟩ := h
        rcases hr.2 with ⟨rfl, h0⟩ | ⟨g, cap, cur, rfl, _⟩
        · exact ⟨none, 0, by rw [h0]⟩
        · exact ⟨_, _, rfl⟩
      obtain ⟨A1, k1, rfl⟩ := hlen hE1
      obtain ⟨A2, k2, rfl⟩ := hlen hE2
      have HE1 := Aside0.mk hE1
      have HE2 := Aside0.mk hE2
      clear hlen hE1 hE2
      go_wp2_with fail
      refine (idle_at _ _ _ _ _ HH7.out).mono ?_
      rintro e w7 ⟨rfl, rfl⟩
      go_wp2_with fail
      refine (idle_at _ _ _ _ _ HH8.out).mono ?_
      rintro e w7 ⟨rfl, rfl⟩
      go_wp2
      have hEl := feedL_len St.new (L s) (L s).length (Nat.le_refl _)
      rw [List.take_of_length_le (Nat.le_refl _), HE.out, ← size_L] at hEl
      replace hEl : E.length ≤ s.size := hEl
      go_loopw [75] (fun x wr => ∃ y : Nat, y ≤ E.length ∧ x = .int .i64 y ∧ Aside0 (Evs (.slice A1 E.length k1) E wr) ∧ Aside0 (Evs (.slice A2 E.length k2) E wr) ∧ Below w.heap.size w wr) (fun x _ => E.length - (intOf x).toNat)
      case atStart => exact ⟨0, Nat.zero_le _, rfl, HE1, HE2, hb7⟩
      case round =>
        clear HE1 HE2 hb7
        obtain ⟨y, hy, rfl, HE1, HE2, hb7⟩ := hrel
        by_cases hlt : y < E.length
        · have hne : E ≠ [] := by intro h; rw [h] at hlt; simp at hlt
          obtain ⟨g1, q1, hu1, hq1, hc1⟩ := HE1.out.shape hne
          obtain ⟨g2, q2, hu2, hq2, hc2⟩ := HE2.out.shape hne
          simp at hu1 hu2
          obtain ⟨rfl, rfl⟩ := hu1
          obtain ⟨rfl, rfl⟩ := hu2
          obtain ⟨d1, d2⟩ := hc1 y hlt
          obtain ⟨d3, d4⟩ := hc2 y hlt
          generalize E[y] = ev at d1 d2 d3 d4
          obtain ⟨k1, l1⟩ := ev
          rw [Nat.mul_comm 2 y] at d1 d2 d3 d4
          clear hc1 hc2 hne
          go_wp2_with fail
          go_region
          go_wp2
          exact ⟨⟨y + 1, by omega, by go_num, ⟨HE1.out⟩, ⟨HE2.out⟩, hb7.drew⟩, by simp [intOf]; omega⟩
        · go_wp2
          go_ret
          exact ⟨rfl, hb7⟩
theorem HdlcPieces (a0 : ByteArray) (a1 : Option Addr) (len1 cap1 : Nat) (z1 : List Int) (w : World) (w0 : a0.size ≤ 140737488351232) (w1 : (a1 = none ∧ len1 = 0 ∧ cap1 = 0 ∧ z1 = []) ∨ ∃ x, a1 = some x ∧ len1 ≤ cap1 ∧ cap1 ≤ maxLen ∧ z1.length = cap1 ∧ (∀ i, i < z1.length → w.cell? (x.add i) = some (.int .i64 (z1.getD i 0))) ∧ ∀ n ∈ z1, (Lit.int .i64 n).wf = true) (y1 : len1 * 8 ≤ 140737488351232) :
    Calls Tryd.prog 6 #[.string a0, .slice a1 len1 cap1] w fun e w' => e = .returned (.bool true) ∧ Below w.heap.size w w' := by
  obtain ⟨l1, rfl, hr1, hm1, hw1, hc1⟩ := ReadsInt.ofRowC w1
  exact pieces a0 a1 cap1 l1.length l1 w w0 (Kd.C_of_reads (d := (0 : Int)) (h1 := fun _ => rfl) hr1) hc1
end Go.Proofs.YtolodlnndojaiaaDoor.Wk
