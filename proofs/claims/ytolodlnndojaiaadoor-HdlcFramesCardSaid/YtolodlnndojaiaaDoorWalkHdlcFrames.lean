/- The law HdlcFrames by its own text: it answers true. -/
import Derived.Test.YtolodlnndojaiaaDoorHdlcLaw
import Derived.Test.YtolodlnndojaiaaDoorHdlcIn
import Derived.OpenShut
import Derived.Deep.QuietTactic
import Derived.BigQuiet
import Derived.Deep.DeepCutAuto
namespace Go.Proofs.YtolodlnndojaiaaDoor.Wk
open Go.RowKit Go.Proofs.YtolodlnndojaiaaDoorW.PrintWords Go.Proofs.YtolodlnndojaiaaDoorW.PrintLast Go.Proofs.YtolodlnndojaiaaDoorW.PrintMore Go.Proofs.YtolodlnndojaiaaDoor.Str Go.Proofs.YtolodlnndojaiaaDoor.Bits Go.Proofs.YtolodlnndojaiaaDoor.Oct Go.Proofs.YtolodlnndojaiaaDoor.Hd
set_option linter.unusedVariables false
attribute [local go_sem] max2_int min2_int
theorem infoStr : (Tryd.prog.info? 9).map (fun i => (i.zero, i.size, i.bytes)) = some (some (.string ByteArray.empty), 1, 16) := by kernel_rfl
theorem row_lenF {w : World} {B z n : Nat} {e : TypeId} {x : Value} {xs : List Value} (hr : w.ownsRow B e z x n xs) : ∃ A c, x = .slice A n c ∧ n ≤ maxLen := by
  rcases hr.2 with ⟨rfl, h0⟩ | ⟨g, cap, cur, rfl, _, _, h1, h2, _⟩
  · exact ⟨none, 0, by rw [h0], by rw [h0]; exact Nat.zero_le _⟩
  · exact ⟨_, _, rfl, by omega⟩
/-- String j of a row. -/
theorem str_at {w : World} {B : Nat} {A : Option Addr} {c : Nat} {ws : List (List UInt8)} (hr : w.ownsRow B 9 1 (.slice A ws.length c) ws.length (strCells ws)) (j : Nat) (hj : j < ws.length) :
    ∃ g, A = some ⟨g, 0, none⟩ ∧ w.cell? ⟨g, j, none⟩ = some (.string ⟨ws[j].toArray⟩) := by
  rcases hr.2 with ⟨h, h0⟩ | ⟨g, cap, cur, h, _⟩
  · omega
  · injection h with h1 h2 h3
    subst h1
    refine ⟨g, rfl, ?_⟩
    have h4 := hr.cells (g := g) rfl j (.string ⟨ws[j].toArray⟩) (by unfold strCells; rw [List.getElem?_map, List.getElem?_eq_getElem hj]; rfl)
    have e : (⟨g, 0, none⟩ : Addr).add j = ⟨g, j, none⟩ := by unfold Addr.add; split <;> simp_all
    rwa [e] at h4
theorem not_empty (q : ByteArray) (h : L q ≠ []) : q.toList.isEmpty = false := by
  rw [Go.ByteArray.toList_eq]
  cases hq : q.data.toList with
  | nil => exact absurd hq h
  | cons x l => rfl
/-- A decoder to which nothing came, in the block d. -/
def Fresh (w : World) (d : Nat) : Prop := w.heap[d]? = some (.cells #[.slice none 0 0, .bool false, .int .i64 0] 55 (0, 0))
theorem Fresh.lt {w : World} {d : Nat} (h : Fresh w d) : d < w.heap.size := (Array.getElem?_eq_some_iff.1 h).1
theorem Fresh.kept {w w' : World} {d : Nat} (h : Fresh w d) (hb : Below w.heap.size w w') : Fresh w' d := (hb.block d h.lt).trans h
set_option maxHeartbeats 4000000 in
set_option maxRecDepth 1000000 in
theorem framesW (A A2 : Option Addr) (c n c2 n2 : Nat) (sh : Bool) (m0 : Int) (w : World) (hm0 : w.cell? ⟨0, 0, none⟩ = some (.int .i64 m0)) (hn : n ≤ 9223372036854775807) (hc : n ≤ c) (hn2 : n2 ≤ 9223372036854775807) (hc2 : n2 ≤ c2)
    (hr : 0 < n → ∃ x, A = some x ∧ ∀ i, i < n → ∃ s : ByteArray, s.size ≤ 9223372036854775807 ∧ w.cell? (x.add i) = some (.string s)) (hr2 : 0 < n2 → ∃ x, A2 = some x ∧ ∀ i, i < n2 → ∃ s : ByteArray, s.size ≤ 9223372036854775807 ∧ w.cell? (x.add i) = some (.string s)) :
    Calls Tryd.prog 11 #[.slice A n c, .slice A2 n2 c2, .bool sh] w fun e w' => e = .returned (.bool true) ∧ Below w.heap.size w w' := by
  have HR := Aside0.mk hr
  have HR2 := Aside0.mk hr2
  have HM := Aside0.mk hm0
  clear hr hr2 hm0
  obtain ⟨i0, hi, hz0, hz1, hz2⟩ := info_parts infoStr
  go_enter Tryd.func11, Tryd.ntmps11
  go_wp2_with fail
  refine (new w).mono ?_
  rintro e w1 ⟨rfl, hw1⟩
  have HF1 : Aside0 (Fresh w1 w.heap.size) := ⟨by rw [hw1]; exact Go.heap_alloc_new _ _⟩
  have HB1 : Aside0 (Below w.heap.size w w1) := ⟨by rw [hw1]; exact (Below.refl _ _).alloc (Nat.le_refl _) _⟩
  clear hw1
  go_wp2_with fail
  refine (Hd.wakes _).mono ?_
  rintro e w2 ⟨rfl, hb⟩
  have HF2 := Aside0.mk (HF1.out.kept hb)
  have HB2 := Aside0.mk (below_step HB1.out hb)
  clear HF1 HB1 hb
  go_wp2
  have hmm : max (min (n : Int) 20) 0 = ((min (n : Int) 20).toNat : Int) := by omega
  have hm2 : (min (n : Int) 20).toNat ≤ 20 := by omega
  have hmn : (min (n : Int) 20).toNat ≤ n := by omega
  generalize (min (n : Int) 20).toNat = m at hmm hm2 hmn
  rw [hmm]
  clear hmm
  go_loopw [8, 9, 27] (fun vb vw x wr => ∃ (k : Nat) (b : List UInt8) (ws : List (List UInt8)), k ≤ m ∧ x = .int .i64 k ∧ vb = .string ⟨b.toArray⟩ ∧ Aside0 (Inv b ws) ∧ Aside0 (b.length ≤ 5000 * k) ∧ Aside0 (ws.length ≤ k) ∧ Aside0 (k = 0 → b = [] ∧ ws = []) ∧ Aside0 (wr.ownsRow (w.heap.size + 1) 9 1 vw ws.length (strCells ws)) ∧ Aside0 (Fresh wr w.heap.size) ∧ Aside0 (Below w.heap.size w wr)) (fun _ _ x _ => m - (intOf x).toNat)
  case atStart => exact ⟨0, [], [], Nat.zero_le _, rfl, rfl, ⟨inv_start⟩, ⟨Nat.zero_le _⟩, ⟨Nat.zero_le _⟩, ⟨fun _ => ⟨rfl, rfl⟩⟩, ⟨World.ownsRow_nil _ _ _ _⟩, HF2, HB2⟩
  case round =>
    clear HF2 HB2
    obtain ⟨k, b, ws, hk, rfl, rfl, HI, HBL, HWL, HK0, HO, HF, HB⟩ := hrel
    by_cases hlt : k < m
    · obtain ⟨ad, rfl, hcells⟩ := HR.out (by omega)
      obtain ⟨s, hsz, hx⟩ := hcells k (by omega)
      have hx2 : wr.cell? (ad.add k) = some (.string s) := (HB.out.cell (World.block_lt_of_cell? w _ hx)).trans hx
      clear hx hcells
      go_upto_if 35 with fail
      go_cut [8] (fun vb wx => ∃ b' : List UInt8, vb = .string ⟨b'.toArray⟩ ∧ Aside0 (Inv b' ws) ∧ Aside0 (b'.length ≤ b.length + 100) ∧ Aside0 (Below wr.heap.size wr wx))
      case first =>
        clear hx2 hsz
        by_cases hq : k < n2
        · obtain ⟨ad2, rfl, hcells⟩ := HR2.out (by omega)
          obtain ⟨t, htz, hy⟩ := hcells k hq
          have hy2 : wr.cell? (ad2.add k) = some (.string t) := (HB.out.cell (World.block_lt_of_cell? w _ hy)).trans hy
          clear hy hcells
          go_wp2_with fail
          go_quiet (fail)
          have hz : (t.extract 0 (min (t.size : Int) 50).toNat).size ≤ 50 := cut_size t 50
          generalize t.extract 0 (min (t.size : Int) 50).toNat = q at hz
          have hb0 : Below wr.heap.size wr (wr.drewN nq) := pw_below_drewN (Below.refl _ _) _
          have hm1 := pw_cell_below (below_step HB.out hb0) HM.out
          clear hy2 htz
          go_wp2_with fail
          refine (unstuff q m0 _ (by omega) hm1).mono ?_
          rintro e w4 ⟨rfl, hb⟩
          have HB4 := Aside0.mk (below_step hb0 hb)
          clear hb0 hb hm1
          obtain ⟨z, HZ⟩ : ∃ z, Aside0 (unstuffS (L q) = z) := ⟨_, ⟨rfl⟩⟩
          rw [HZ.out]
          obtain ⟨z1, z2⟩ := z
          have hbl := HBL.out
          obtain ⟨j, hj⟩ : ∃ j : Nat, (q.size : Int) % 4 = (j : Int) := ⟨q.size % 4, by omega⟩
          have hj4 : j < 4 := by omega
          by_cases h0 : z2 = 0 ∧ k = 0
          · obtain ⟨rfl, rfl⟩ := h0
            obtain ⟨rfl, rfl⟩ := HK0.out rfl
            have HI2 : Aside0 (Inv (L q ++ [48]) []) := ⟨inv_noise _ (by rw [HZ.out])⟩
            have he : (⟨([] : List UInt8).toArray⟩ : ByteArray) ++ (q ++ ⟨#[48]⟩) = ⟨(L q ++ [48]).toArray⟩ := inj (by rw [L_app, L_app, L_mk, L_mk]; rfl)
            have HE := Aside0.mk he
            have HL : Aside0 ((L q ++ [48]).length ≤ 51) := ⟨by rw [List.length_append, ← size_L]; show _ + 1 ≤ 51; omega⟩
            clear he hbl
            obtain ⟨st, HST⟩ : ∃ st, Aside0 (L q ++ [48] = st) := ⟨_, ⟨rfl⟩⟩
            rw [HST.out] at HI2 HE HL
            go_wp2_with fail
            rw [HE.out]
            try rw [hj]
            clear hj
            go_loopw [8, 65] (fun u x wy => ∃ i : Nat, i ≤ j ∧ x = .int .i64 i ∧ u = .string ⟨(st ++ flags i).toArray⟩ ∧ w4 = wy) (fun _ x _ => j - (intOf x).toNat)
            case atStart => exact ⟨0, Nat.zero_le _, rfl, by rw [show flags 0 = [] from rfl, List.append_nil], rfl⟩
            case round =>
              obtain ⟨i, hij, rfl, rfl, rfl⟩ := hrel
              have hlen : (st ++ flags i).length ≤ 51 + 8 * i := by have := HL.out; rw [List.length_append, flags_length]; omega
              have HIJ := Aside0.mk (inv_flags _ _ HI2.out i)
              have HNX : Aside0 (st ++ flags (i + 1) = (st ++ flags i) ++ flagL) := ⟨by rw [flags, List.append_assoc]⟩
              obtain ⟨bl, HBLL⟩ : ∃ bl, Aside0 (st ++ flags i = bl) := ⟨_, ⟨rfl⟩⟩
              rw [HBLL.out] at hlen HIJ HNX ⊢
              have hbl := HBL.out
              by_cases hlt : i < j
              · have he : (⟨bl.toArray⟩ : ByteArray) ++ ⟨#[48, 49, 49, 49, 49, 49, 49, 48]⟩ = ⟨(st ++ flags (i + 1)).toArray⟩ := inj (by rw [L_app, L_mk, L_mk, HNX.out]; rfl)
                have HE := Aside0.mk he
                clear he
                go_wp2
                go_roundw
                case rel => exact ⟨i + 1, by omega, by go_num, by rw [HE.out], (by first | rfl | trivial)⟩
                case measure => simp [intOf]; omega
              · go_wp2
                go_meet
                case rel => exact ⟨bl, rfl, HIJ, ⟨by show _ ≤ 0 + 100; omega⟩, HB4⟩
          · have HI2 := HI
            have HL : Aside0 (b.length ≤ b.length + 51) := ⟨by omega⟩
            by_cases h1 : z2 = 0
            · subst h1
              have h2 : ¬ ((k : Int) = 0) := fun h => h0 ⟨rfl, by omega⟩
              clear h0 hbl
              go_wp2_with fail
              try rw [hj]
              clear hj h2
              go_loopw [8, 65] (fun u x wy => ∃ i : Nat, i ≤ j ∧ x = .int .i64 i ∧ u = .string ⟨(b ++ flags i).toArray⟩ ∧ w4 = wy) (fun _ x _ => j - (intOf x).toNat)
              case atStart => exact ⟨0, Nat.zero_le _, rfl, by rw [show flags 0 = [] from rfl, List.append_nil], rfl⟩
              case round =>
                obtain ⟨i, hij, rfl, rfl, rfl⟩ := hrel
                have hlen : (b ++ flags i).length ≤ b.length + 51 + 8 * i := by have := HL.out; rw [List.length_append, flags_length]; omega
                have HIJ := Aside0.mk (inv_flags _ _ HI2.out i)
                have HNX : Aside0 (b ++ flags (i + 1) = (b ++ flags i) ++ flagL) := ⟨by rw [flags, List.append_assoc]⟩
                obtain ⟨bl, HBLL⟩ : ∃ bl, Aside0 (b ++ flags i = bl) := ⟨_, ⟨rfl⟩⟩
                rw [HBLL.out] at hlen HIJ HNX ⊢
                have hbl := HBL.out
                by_cases hlt : i < j
                · have he : (⟨bl.toArray⟩ : ByteArray) ++ ⟨#[48, 49, 49, 49, 49, 49, 49, 48]⟩ = ⟨(b ++ flags (i + 1)).toArray⟩ := inj (by rw [L_app, L_mk, L_mk, HNX.out]; rfl)
                  have HE := Aside0.mk he
                  clear he
                  go_wp2
                  go_roundw
                  case rel => exact ⟨i + 1, by omega, by go_num, by rw [HE.out], (by first | rfl | trivial)⟩
                  case measure => simp [intOf]; omega
                · go_wp2
                  go_meet
                  case rel => exact ⟨bl, rfl, HIJ, ⟨by omega⟩, HB4⟩
            · clear h0 hbl
              go_wp2_with fail
              try rw [hj]
              clear hj h1
              go_loopw [8, 65] (fun u x wy => ∃ i : Nat, i ≤ j ∧ x = .int .i64 i ∧ u = .string ⟨(b ++ flags i).toArray⟩ ∧ w4 = wy) (fun _ x _ => j - (intOf x).toNat)
              case atStart => exact ⟨0, Nat.zero_le _, rfl, by rw [show flags 0 = [] from rfl, List.append_nil], rfl⟩
              case round =>
                obtain ⟨i, hij, rfl, rfl, rfl⟩ := hrel
                have hlen : (b ++ flags i).length ≤ b.length + 51 + 8 * i := by have := HL.out; rw [List.length_append, flags_length]; omega
                have HIJ := Aside0.mk (inv_flags _ _ HI2.out i)
                have HNX : Aside0 (b ++ flags (i + 1) = (b ++ flags i) ++ flagL) := ⟨by rw [flags, List.append_assoc]⟩
                obtain ⟨bl, HBLL⟩ : ∃ bl, Aside0 (b ++ flags i = bl) := ⟨_, ⟨rfl⟩⟩
                rw [HBLL.out] at hlen HIJ HNX ⊢
                have hbl := HBL.out
                by_cases hlt : i < j
                · have he : (⟨bl.toArray⟩ : ByteArray) ++ ⟨#[48, 49, 49, 49, 49, 49, 49, 48]⟩ = ⟨(b ++ flags (i + 1)).toArray⟩ := inj (by rw [L_app, L_mk, L_mk, HNX.out]; rfl)
                  have HE := Aside0.mk he
                  clear he
                  go_wp2
                  go_roundw
                  case rel => exact ⟨i + 1, by omega, by go_num, by rw [HE.out], (by first | rfl | trivial)⟩
                  case measure => simp [intOf]; omega
                · go_wp2
                  go_meet
                  case rel => exact ⟨bl, rfl, HIJ, ⟨by omega⟩, HB4⟩
        · go_wp2
          go_meet
          case rel => exact ⟨b, rfl, HI, ⟨by omega⟩, ⟨Below.refl _ _⟩⟩
      case rest =>
        obtain ⟨b', rfl, HI2, HB2L, HBx⟩ := hcut
        have HF2 := Aside0.mk (HF.out.kept HBx.out)
        have HO2 := Aside0.mk (row_kept HO.out HBx.out)
        have HB2 := Aside0.mk (below_step HB.out HBx.out)
        clear HF HO HB HBx HI
        have hz : (s.extract 0 (min (s.size : Int) 266).toNat).size ≤ 266 := cut_size s 266
        go_wp2_with fail
        generalize s.extract 0 (min (s.size : Int) 266).toNat = q at hz
        refine (encode q _ (by omega)).mono ?_
        rintro e w4 ⟨rfl, hb⟩
        have HF3 := Aside0.mk (HF2.out.kept hb)
        have HO3 := Aside0.mk (row_kept HO2.out hb)
        have HB3 := Aside0.mk (below_step HB2.out hb)
        clear HF2 HO2 HB2 hb hx2 hsz
        have hel := encL_length (L q)
        rw [← size_L] at hel
        have hbl : b'.length ≤ 5000 * k + 100 := by have := HB2L.out; have := HBL.out; omega
        have hwl := HWL.out
        cases sh with
        | false =>
          have he : (⟨b'.toArray⟩ : ByteArray) ++ ⟨(encL (L q)).toArray⟩ = ⟨(b' ++ encL (L q)).toArray⟩ := inj (by rw [L_app, L_mk, L_mk, L_mk])
          have HE := Aside0.mk he
          have HI4 := Aside0.mk (inv_frame b' ws HI2.out (L q) (by rw [← size_L]; omega))
          have HL4 : Aside0 ((b' ++ encL (L q)).length ≤ 5000 * (k + 1)) := ⟨by rw [List.length_append]; omega⟩
          clear he
          by_cases hq : q.size = 0
          · obtain rfl : q = ⟨#[]⟩ := inj (List.eq_nil_of_length_eq_zero (by rw [← size_L]; exact hq))
            go_wp2
            exact ⟨⟨k + 1, _, addW ws (L ⟨#[]⟩), by omega, by go_num, by rw [HE.out], HI4, HL4, ⟨by rw [show addW ws (L ⟨#[]⟩) = ws from rfl]; omega⟩, ⟨fun h => absurd h (by omega)⟩, HO3, HF3, HB3⟩, by simp [intOf]; omega⟩
          · have hqs : q.toList.isEmpty = false := not_empty q (fun h => hq (by rw [size_L, h]; rfl))
            have HA : Aside0 (addW ws (L q) = ws ++ [L q]) := ⟨by unfold addW; rw [if_neg (fun h => hq (by rw [size_L, h]; rfl))]⟩
            have hb4 := HB3.out.size
            have hf4 := HF3.out.lt
            go_wp2_with (at_builtin; refine wpList_append_own _ rfl _ _ 34 rfl (w.heap.size + 1) 9 i0 (.string ByteArray.empty) 1 16 Tryd.underlying34 hi hz0 hz1 hz2 rfl (by decide) _ _ _ rfl (HO3.out.alloc _) ⟨w4.heap.size, 0, none⟩ 1 1 [.string q] rfl rfl ?d11 ?d12 ?d13 ?d14 ?d15 ?_)
            case d11 => exact cell_one_new _ _ _
            case d12 => intro u hu; simp at hu; subst hu; rfl
            case d13 => unfold maxLen; omega
            case d14 => omega
            case d15 => simp; omega
            intro v' w5 hown' hgrow _
            have HB5 := Aside0.mk ((HB3.out.alloc hb4 _).grown hgrow (by simp; omega) (fun k hk => by have := (HO3.out.lt k hk).1; omega))
            have HF5 : Aside0 (Fresh w5 w.heap.size) := ⟨(hgrow.block _ (by simp; omega) (fun e => by have := (HO3.out.lt _ e.symm).1; omega)).trans (heap_al HF3.out _)⟩
            have HO5 : Aside0 (w5.ownsRow (w.heap.size + 1) 9 1 v' (addW ws (L q)).length (strCells (addW ws (L q)))) := ⟨by rw [HA.out, List.length_append, strCells, List.map_append]; exact hown'⟩
            clear hown' hgrow
            go_wp2
            exact ⟨⟨k + 1, _, addW ws (L q), by omega, by go_num, by rw [HE.out], HI4, HL4, ⟨by have := addW_length ws (L q); omega⟩, ⟨fun h => absurd h (by omega)⟩, HO5, HF5, HB5⟩, by simp [intOf]; omega⟩
        | true =>
          by_cases hb0 : b' = []
          · subst hb0
            have he : (⟨([] : List UInt8).toArray⟩ : ByteArray) ++ ⟨(encL (L q)).toArray⟩ = ⟨([] ++ encL (L q)).toArray⟩ := inj (by rw [L_app, L_mk, L_mk, L_mk])
            have HE := Aside0.mk he
            have HI4 := Aside0.mk (inv_frame [] ws HI2.out (L q) (by rw [← size_L]; omega))
            have HL4 : Aside0 (([] ++ encL (L q)).length ≤ 5000 * (k + 1)) := ⟨by rw [List.length_append]; show 0 + _ ≤ _; omega⟩
            clear he
            by_cases hq : q.size = 0
            · obtain rfl : q = ⟨#[]⟩ := inj (List.eq_nil_of_length_eq_zero (by rw [← size_L]; exact hq))
              go_wp2
              exact ⟨⟨k + 1, _, addW ws (L ⟨#[]⟩), by omega, by go_num, by rw [HE.out], HI4, HL4, ⟨by rw [show addW ws (L ⟨#[]⟩) = ws from rfl]; omega⟩, ⟨fun h => absurd h (by omega)⟩, HO3, HF3, HB3⟩, by simp [intOf]; omega⟩
            · have hqs : q.toList.isEmpty = false := not_empty q (fun h => hq (by rw [size_L, h]; rfl))
              have HA : Aside0 (addW ws (L q) = ws ++ [L q]) := ⟨by unfold addW; rw [if_neg (fun h => hq (by rw [size_L, h]; rfl))]⟩
              have hb4 := HB3.out.size
              have hf4 := HF3.out.lt
              go_wp2_with (at_builtin; refine wpList_append_own _ rfl _ _ 34 rfl (w.heap.size + 1) 9 i0 (.string ByteArray.empty) 1 16 Tryd.underlying34 hi hz0 hz1 hz2 rfl (by decide) _ _ _ rfl (HO3.out.alloc _) ⟨w4.heap.size, 0, none⟩ 1 1 [.string q] rfl rfl ?d21 ?d22 ?d23 ?d24 ?d25 ?_)
              case d21 => exact cell_one_new _ _ _
              case d22 => intro u hu; simp at hu; subst hu; rfl
              case d23 => unfold maxLen; omega
              case d24 => omega
              case d25 => simp; omega
              intro v' w5 hown' hgrow _
              have HB5 := Aside0.mk ((HB3.out.alloc hb4 _).grown hgrow (by simp; omega) (fun k hk => by have := (HO3.out.lt k hk).1; omega))
              have HF5 : Aside0 (Fresh w5 w.heap.size) := ⟨(hgrow.block _ (by simp; omega) (fun e => by have := (HO3.out.lt _ e.symm).1; omega)).trans (heap_al HF3.out _)⟩
              have HO5 : Aside0 (w5.ownsRow (w.heap.size + 1) 9 1 v' (addW ws (L q)).length (strCells (addW ws (L q)))) := ⟨by rw [HA.out, List.length_append, strCells, List.map_append]; exact hown'⟩
              clear hown' hgrow
              go_wp2
              exact ⟨⟨k + 1, _, addW ws (L q), by omega, by go_num, by rw [HE.out], HI4, HL4, ⟨by have := addW_length ws (L q); omega⟩, ⟨fun h => absurd h (by omega)⟩, HO5, HF5, HB5⟩, by simp [intOf]; omega⟩
          · have he : (⟨b'.toArray⟩ : ByteArray) ++ (⟨(encL (L q)).toArray⟩ : ByteArray).extract 1 (encL (L q)).length = ⟨(b' ++ (encL (L q)).drop 1).toArray⟩ := inj (by rw [L_app, L_cut, L_mk, L_mk, L_mk, List.take_of_length_le (Nat.le_refl _)])
            have HE := Aside0.mk he
            have HI4 := Aside0.mk (inv_shared b' ws HI2.out (L q) (by rw [← size_L]; omega))
            have HL4 : Aside0 ((b' ++ (encL (L q)).drop 1).length ≤ 5000 * (k + 1)) := ⟨by rw [List.length_append, List.length_drop]; omega⟩
            obtain ⟨hlast, hl48⟩ := inv_last b' ws HI2.out hb0
            obtain ⟨B, HBB⟩ : ∃ B : ByteArray, Aside0 (⟨b'.toArray⟩ = B) := ⟨_, ⟨rfl⟩⟩
            have hLB : L B = b' := by rw [← HBB.out, L_mk]
            have hBz : B.size = b'.length := by rw [size_L, hLB]
            have hBn : B.toList.isEmpty = false := not_empty B (by rw [hLB]; exact hb0)
            have hBm : ¬ B.toList = [] := fun h => by rw [h] at hBn; cases hBn
            obtain ⟨j, hj⟩ : ∃ j, b'.length = j + 1 := ⟨b'.length - 1, by omega⟩
            have hjB : j < B.size := by omega
            have hx48 : (((B[j]'hjB).toNat : Nat) : Int) = 48 := by
              have e : (L B)[j]? = some 48 := by rw [hLB, ← hl48, hj]; rfl
              have e2 : (L B)[j]? = some (B[j]'hjB) := List.getElem?_eq_getElem (by rw [← size_L]; exact hjB)
              rw [e2] at e
              rw [Option.some.inj e]; rfl
            have hBj : (B.size : Int) = (j : Int) + 1 := by omega
            have hj2 : j ≤ 200000 := by omega
            have hBz2 : B.size ≤ 200000 := by omega
            rw [HBB.out] at HE
            rw [HBB.out]
            clear hlast hl48 hLB hb0 hBz hj
            have hel1 : 1 ≤ (encL (L q)).length := by unfold encL; rw [List.length_append, List.length_append]; show 1 ≤ 8 + _ + 8; omega
            clear he
            by_cases hq : q.size = 0
            · obtain rfl : q = ⟨#[]⟩ := inj (List.eq_nil_of_length_eq_zero (by rw [← size_L]; exact hq))
              go_wp2
              exact ⟨⟨k + 1, _, addW ws (L ⟨#[]⟩), by omega, by go_num, by rw [HE.out], HI4, HL4, ⟨by rw [show addW ws (L ⟨#[]⟩) = ws from rfl]; omega⟩, ⟨fun h => absurd h (by omega)⟩, HO3, HF3, HB3⟩, by simp [intOf]; omega⟩
            · have hqs : q.toList.isEmpty = false := not_empty q (fun h => hq (by rw [size_L, h]; rfl))
              have HA : Aside0 (addW ws (L q) = ws ++ [L q]) := ⟨by unfold addW; rw [if_neg (fun h => hq (by rw [size_L, h]; rfl))]⟩
              have hb4 := HB3.out.size
              have hf4 := HF3.out.lt
              go_wp2_with (at_builtin; refine wpList_append_own _ rfl _ _ 34 rfl (w.heap.size + 1) 9 i0 (.string ByteArray.empty) 1 16 Tryd.underlying34 hi hz0 hz1 hz2 rfl (by decide) _ _ _ rfl (HO3.out.alloc _) ⟨w4.heap.size, 0, none⟩ 1 1 [.string q] rfl rfl ?d31 ?d32 ?d33 ?d34 ?d35 ?_)
              case d31 => exact cell_one_new _ _ _
              case d32 => intro u hu; simp at hu; subst hu; rfl
              case d33 => unfold maxLen; omega
              case d34 => omega
              case d35 => simp; omega
              intro v' w5 hown' hgrow _
              have HB5 := Aside0.mk ((HB3.out.alloc hb4 _).grown hgrow (by simp; omega) (fun k hk => by have := (HO3.out.lt k hk).1; omega))
              have HF5 : Aside0 (Fresh w5 w.heap.size) := ⟨(hgrow.block _ (by simp; omega) (fun e => by have := (HO3.out.lt _ e.symm).1; omega)).trans (heap_al HF3.out _)⟩
              have HO5 : Aside0 (w5.ownsRow (w.heap.size + 1) 9 1 v' (addW ws (L q)).length (strCells (addW ws (L q)))) := ⟨by rw [HA.out, List.length_append, strCells, List.map_append]; exact hown'⟩
              clear hown' hgrow
              go_wp2
              exact ⟨⟨k + 1, _, addW ws (L q), by omega, by go_num, by rw [HE.out], HI4, HL4, ⟨by have := addW_length ws (L q); omega⟩, ⟨fun h => absurd h (by omega)⟩, HO5, HF5, HB5⟩, by simp [intOf]; omega⟩
    · obtain rfl : k = m := by omega
      have hfe := HI.out.1
      obtain ⟨wi, hfe⟩ := hfe
      have HFE : Aside0 (feedL St.new (L ⟨b.toArray⟩) = (⟨[], wi, 0⟩, evsOf ws)) := ⟨hfe⟩
      have hbl := HBL.out
      have hwl := HWL.out
      clear hfe hlt
      go_wp2_with fail
      refine (feed w.heap.size _ (.slice none 0 0) St.new ⟨b.toArray⟩ wr ⟨HF.out, no_row _ _ _⟩ HB.out.size new_ok (by decide) (by rw [size_L, L_mk]; omega)).mono ?_
      rintro e w3 ⟨u, rfl, hev, hw⟩
      rw [HFE.out] at hev hw
      obtain ⟨v', hd1, hd2, hkb⟩ := hw
      have hO := hkb.row HO.out (fun j hj h => by have := (HO.out.lt j hj).1; rcases h with h | h; omega; cases h)
      have hB := HB.out.trans (hkb.below HB.out.size (fun k hk => by rcases hk with h | h; omega; cases h))
      have hel : (evsOf ws).length = ws.length := by unfold evsOf; simp
      obtain ⟨A1, k1, rfl, _⟩ : ∃ A c, u = .slice A ws.length c ∧ (evsOf ws).length ≤ maxLen := by rw [← hel]; exact row_lenF hev
      obtain ⟨A2', k2, rfl, _⟩ : ∃ A c, u9 = .slice A ws.length c ∧ ws.length ≤ maxLen := row_lenF hO
      have HEV : Aside0 (Evs (.slice A1 ws.length k1) (evsOf ws) w3) := ⟨_, hev⟩
      have HO3 := Aside0.mk hO
      have HB3 := Aside0.mk hB
      clear hev hO hB hd1 hd2 hkb hel
      go_wp2
      go_loopw [112] (fun x wy => ∃ y : Nat, y ≤ ws.length ∧ x = .int .i64 y ∧ Aside0 (Evs (.slice A1 ws.length k1) (evsOf ws) wy) ∧ Aside0 (wy.ownsRow (w.heap.size + 1) 9 1 (.slice A2' ws.length k2) ws.length (strCells ws)) ∧ Aside0 (Below w.heap.size w wy)) (fun x _ => ws.length - (intOf x).toNat)
      case atStart => exact ⟨0, Nat.zero_le _, rfl, HEV, HO3, HB3⟩
      case round =>
        clear HEV HO3 HB3
        obtain ⟨y, hy, rfl, HEV, HO3, HB3⟩ := hrel
        by_cases hlt : y < ws.length
        · have hel : (evsOf ws).length = ws.length := by unfold evsOf; simp
          have hne : evsOf ws ≠ [] := by intro h; rw [h] at hel; simp at hel; omega
          obtain ⟨g1, q1, hu1, _, hc1⟩ := HEV.out.shape hne
          obtain ⟨g2, rfl, d3⟩ := str_at HO3.out y hlt
          simp at hu1
          obtain ⟨rfl, _⟩ := hu1
          obtain ⟨d1, d2⟩ := hc1 y (by omega)
          have he : (evsOf ws)[y]'(by omega) = (0, ws[y]) := by unfold evsOf; simp
          rw [he] at d1 d2
          generalize ws[y] = l1 at d1 d2 d3
          dsimp only at d1 d2
          rw [Nat.mul_comm 2 y] at d1 d2
          clear hc1 hne hel he
          go_wp2_with fail
          go_quiet (fail)
          go_wp2
          have hbn := pw_below_drewN (Below.refl wr.heap.size wr) nq
          exact ⟨⟨y + 1, by omega, by go_num, ⟨HEV.out.kept hbn⟩, ⟨row_kept HO3.out hbn⟩, ⟨pw_below_drewN HB3.out _⟩⟩, by simp [intOf]; omega⟩
        · go_wp2
          go_ret
          exact ⟨rfl, HB3.out⟩
theorem strs_open {a0 : Option Addr} {len0 cap0 : Nat} {z0 : List ByteArray} {w : World} (w0 : (a0 = none ∧ len0 = 0 ∧ cap0 = 0 ∧ z0 = []) ∨ ∃ x, a0 = some x ∧ len0 ≤ cap0 ∧ cap0 ≤ maxLen ∧ z0.length = cap0 ∧ (∀ i, i < z0.length → w.cell? (x.add i) = some (.string (z0.getD i ByteArray.empty))) ∧ ∀ s ∈ z0, s.size ≤ maxLen) :
    len0 ≤ 9223372036854775807 ∧ len0 ≤ cap0 ∧ (0 < len0 → ∃ x, a0 = some x ∧ ∀ i, i < len0 → ∃ s : ByteArray, s.size ≤ 9223372036854775807 ∧ w.cell? (x.add i) = some (.string s)) := by
  rcases w0 with ⟨rfl, rfl, rfl, rfl⟩ | ⟨x, rfl, h1, h2, h3, h4, h5⟩
  · exact ⟨by omega, by omega, fun h => absurd h (by omega)⟩
  · unfold maxLen at h2 h5
    refine ⟨by omega, h1, fun _ => ⟨x, rfl, fun i hi => ⟨z0.getD i ByteArray.empty, ?_, h4 i (by omega)⟩⟩⟩
    rw [List.getD_eq_getElem?_getD, List.getElem?_eq_getElem (by omega : i < z0.length)]
    exact h5 _ (List.getElem_mem _)
theorem HdlcFrames (a0 : Option Addr) (len0 cap0 : Nat) (z0 : List ByteArray) (a1 : Option Addr) (len1 cap1 : Nat) (z1 : List ByteArray) (a2 : Bool) (m : Int) (w : World) (hm : w.cell? ⟨0, 0, none⟩ = some (.int .i64 m)) (w0 : (a0 = none ∧ len0 = 0 ∧ cap0 = 0 ∧ z0 = []) ∨ ∃ x, a0 = some x ∧ len0 ≤ cap0 ∧ cap0 ≤ maxLen ∧ z0.length = cap0 ∧ (∀ i, i < z0.length → w.cell? (x.add i) = some (.string (z0.getD i ByteArray.empty))) ∧ ∀ s ∈ z0, s.size ≤ maxLen) (w1 : (a1 = none ∧ len1 = 0 ∧ cap1 = 0 ∧ z1 = []) ∨ ∃ x, a1 = some x ∧ len1 ≤ cap1 ∧ cap1 ≤ maxLen ∧ z1.length = cap1 ∧ (∀ i, i < z1.length → w.cell? (x.add i) = some (.string (z1.getD i ByteArray.empty))) ∧ ∀ s ∈ z1, s.size ≤ maxLen) :
    Calls Tryd.prog 11 #[.slice a0 len0 cap0, .slice a1 len1 cap1, .bool a2] w fun e w' => e = .returned (.bool true) ∧ Below w.heap.size w w' := by
  obtain ⟨h1, h2, h3⟩ := strs_open w0
  obtain ⟨k1, k2, k3⟩ := strs_open w1
  exact framesW a0 a1 cap0 len0 cap1 len1 a2 m w hm h1 h2 k1 k2 h3 k3
end Go.Proofs.YtolodlnndojaiaaDoor.Wk
