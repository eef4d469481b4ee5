/- The law HdlcFeeds by its own text: it answers true. -/
import Derived.Test.YtolodlnndojaiaaDoorHdlcPair
import Derived.OpenShut
import Derived.Deep.RegionWith
namespace Go.Proofs.YtolodlnndojaiaaDoor.Wk
open Go.RowKit Go.Proofs.YtolodlnndojaiaaDoorW.PrintWords Go.Proofs.YtolodlnndojaiaaDoorW.PrintLast Go.Proofs.YtolodlnndojaiaaDoorW.PrintMore Go.Proofs.YtolodlnndojaiaaDoor.Str Go.Proofs.YtolodlnndojaiaaDoor.Bits Go.Proofs.YtolodlnndojaiaaDoor.Oct Go.Proofs.YtolodlnndojaiaaDoor.Hd
set_option linter.unusedVariables false
attribute [local go_sem] max2_int min2_int
set_option maxHeartbeats 40000000 in
set_option maxRecDepth 1000000 in
theorem feeds (A : Option Addr) (c n : Nat) (w : World) (hm : n ≤ 9223372036854775807) (hc : n ≤ c) (hr : 0 < n → ∃ x, A = some x ∧ ∀ i, i < n → ∃ s : ByteArray, s.size ≤ 9223372036854775807 ∧ w.cell? (x.add i) = some (.string s)) :
    Calls Tryd.prog 5 #[.slice A n c] w fun e w' => e = .returned (.bool true) ∧ Below w.heap.size w w' := by
  have HR := Aside0.mk hr
  clear hr
  go_enter Tryd.func5, Tryd.ntmps5
  go_wp2_with fail
  refine (new w).mono ?_
  rintro e w1 ⟨rfl, hw1⟩
  have hs1 : w1.heap.size = w.heap.size + 1 := by rw [hw1]; show (w.heap.push _).size = _; simp
  have hT0 : Two w w.heap.size (w.heap.size + 1) 0 (w1.alloc (.cells #[.slice none 0 0, .bool false, .int .i64 0] 37)) := by
    refine ⟨St.new, RSt.new, .slice none 0 0, .slice none 0 0, ⟨?_, no_row _ _ _⟩, ⟨?_, no_row _ _ _⟩, (fun j (hj : (none : Option Nat) = some j) => by cases hj), rel_new, new_ok, Nat.le_refl _, Nat.le_refl _, ?_, Nat.le_refl _, Nat.le_succ _⟩
    · rw [hw1]; exact heap_al (Go.heap_alloc_new _ _) _
    · rw [← hs1]; exact Go.heap_alloc_new _ _
    · rw [hw1]; exact ((Below.refl _ _).alloc (Nat.le_refl _) _).alloc (by show _ ≤ (w.heap.push _).size; simp) _
  have HT0 := Aside0.mk hT0
  clear hw1 hT0
  go_wp2_with fail
  refine (Hd.wakes _).mono ?_
  rintro e w2 ⟨rfl, hb⟩
  have HT := Aside0.mk (HT0.out.kept hb)
  try rw [hs1]
  clear HT0 hb hs1
  go_wp2
  have hmm : max (min (n : Int) 50) 0 = ((min (n : Int) 50).toNat : Int) := by omega
  have hm2 : (min (n : Int) 50).toNat ≤ 50 := by omega
  have hmn : (min (n : Int) 50).toNat ≤ n := by omega
  generalize (min (n : Int) 50).toNat = m at hmm hm2 hmn
  rw [hmm]
  clear hmm
  go_loopw [18] (fun x wr => ∃ k : Nat, k ≤ m ∧ x = .int .i64 k ∧ Aside0 (Two w w.heap.size (w.heap.size + 1) (5000 * k) wr)) (fun x _ => m - (intOf x).toNat)
  case atStart => exact ⟨0, Nat.zero_le _, rfl, HT⟩
  case round =>
    clear HT
    obtain ⟨k, hk, rfl, HT⟩ := hrel
    by_cases hlt : k < m
    · obtain ⟨ad, rfl, hcells⟩ := HR.out (by omega)
      obtain ⟨s, hsz, hx⟩ := hcells k (by omega)
      have hx2 : wr.cell? (ad.add k) = some (.string s) := by
        exact (HT.out.below.cell (World.block_lt_of_cell? w _ hx)).trans hx
      obtain ⟨q, hq⟩ : ∃ q : Nat, min (s.size : Int) 5000 = (q : Int) := ⟨(min (s.size : Int) 5000).toNat, by omega⟩
      have hqs : (q : Int) ≤ (s.size : Int) := by omega
      obtain ⟨b, hb⟩ : ∃ b : ByteArray, s.extract 0 q = b := ⟨_, rfl⟩
      have hbz : b.size ≤ 5000 := by rw [← hb, ByteArray.size_extract]; omega
      clear hx hcells
      have HTd := Aside0.mk (HT.out.kept ((Below.refl _ wr).drew))
      clear HT
      go_wp2_with fail
      go_region_with (first
        | (go_at_call 13; refine (two_feed w _ _ _ b _ HTd.out (by omega) (by omega)).mono ?_; rintro e wA ⟨u, rfl, hA⟩; have HA := Aside0.mk hA; clear hA)
        | (go_at_call 17; refine (two_ref w _ _ _ b u _ HA.out (by omega) (by omega)).mono ?_; rintro e wB ⟨u3, rfl, hB⟩; have HB := Aside0.mk hB; clear hB)
        | (go_at_call 16; obtain ⟨hT2, E, hE1, hE3⟩ := HB.out; refine (same u u3 E _ hE1 hE3).mono ?_; rintro e wC ⟨rfl, hC⟩; have hT3 := hT2.kept hC; have HT3 := Aside0.mk hT3; obtain ⟨on, BB, vv, ss, hdd, hon, honn, hcell⟩ := hT3.ones; have HDD := Aside0.mk hdd; have HON := Aside0.mk hon; clear hT2 hE1 hE3 hC hT3 hdd hon)
        | (go_at_call 18; refine (idle BB _ vv ss _ HDD.out (by have := HON.out; omega)).mono ?_; rintro e wD ⟨he, rfl⟩; rw [HON.out] at he; subst he))
      all_goals
        have HT4 := Aside0.mk (HT3.out.mono (show 5000 * k + b.size ≤ 5000 * (k + 1) by omega))
        go_wp2
        exact ⟨⟨k + 1, by omega, by go_num, HT4⟩, by simp [intOf]; omega⟩
    · go_wp2
      go_ret
      exact ⟨rfl, HT.out.below⟩
theorem HdlcFeeds (a0 : Option Addr) (len0 cap0 : Nat) (z0 : List ByteArray) (w : World) (w0 : (a0 = none ∧ len0 = 0 ∧ cap0 = 0 ∧ z0 = []) ∨ ∃ x, a0 = some x ∧ len0 ≤ cap0 ∧ cap0 ≤ maxLen ∧ z0.length = cap0 ∧ (∀ i, i < z0.length → w.cell? (x.add i) = some (.string (z0.getD i ByteArray.empty))) ∧ ∀ s ∈ z0, s.size ≤ maxLen) :
    Calls Tryd.prog 5 #[.slice a0 len0 cap0] w fun e w' => e = .returned (.bool true) ∧ Below w.heap.size w w' := by
  rcases w0 with ⟨rfl, rfl, rfl, rfl⟩ | ⟨x, rfl, h1, h2, h3, h4, h5⟩
  · exact feeds none 0 0 w (by omega) (by omega) (fun h => absurd h (by omega))
  · unfold maxLen at h2 h5
    refine feeds (some x) cap0 len0 w (by omega) h1 (fun _ => ⟨x, rfl, fun i hi => ⟨z0.getD i ByteArray.empty, ?_, h4 i (by omega)⟩⟩)
    rw [List.getD_eq_getElem?_getD, List.getElem?_eq_getElem (by omega : i < z0.length)]
    exact h5 _ (List.getElem_mem _)
end Go.Proofs.YtolodlnndojaiaaDoor.Wk
