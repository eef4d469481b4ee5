/- The document's Stuff, Unstuff and Encode by their texts. -/
import Derived.Test.YtolodlnndojaiaaDoorUnstR
import Derived.Test.YtolodlnndojaiaaDoorHdlcRefC
namespace Go.Proofs.YtolodlnndojaiaaDoor.Hd
open Go.RowKit Go.Proofs.YtolodlnndojaiaaDoorW.PrintWords Go.Proofs.YtolodlnndojaiaaDoorW.PrintLast Go.Proofs.YtolodlnndojaiaaDoorW.PrintMore Go.Proofs.YtolodlnndojaiaaDoor.Str Go.Proofs.YtolodlnndojaiaaDoor.Bits Go.Proofs.YtolodlnndojaiaaDoor.Oct Go.Proofs.YtolodlnndojaiaaDoor.OctW
set_option linter.unusedVariables false
/-- What a row of octets of the call's own comes to as a string. -/
theorem own_str {w : World} {base : Nat} {v : Value} {l : List UInt8} (h : w.ownsRow base 5 1 v l.length (cellsOf l)) :
    (convert 22 9 v).run Tryd.prog w = .ok (.string ⟨l.toArray⟩) w := by
  rw [cellsOf_nums] at h
  have hcv := own_string (P := Tryd.prog) Tryd.underlying22 Tryd.underlying5 Tryd.underlying9 h
  rwa [nums_of] at hcv
theorem byte_ne (x c : UInt8) (h : x ≠ c) : ¬ ((x.toNat : Int) = (c.toNat : Int)) := by
  intro e
  exact h (UInt8.toNat_inj.1 (by omega))
set_option maxHeartbeats 4000000 in
set_option maxRecDepth 1000000 in
theorem rstuff (s : ByteArray) (w : World) (hs : s.size ≤ 35184372088832) :
    Calls Tryd.prog 22 #[.string s] w fun e w' => e = .returned (.string ⟨(stuffL (L s)).toArray⟩) ∧ Below w.heap.size w w' := by
  obtain ⟨i0, hi, hz0, hz1, hz2⟩ := info_parts infoByte
  go_enter Tryd.func22, Tryd.ntmps22
  go_wp2
  go_loopw [3, 4, 5] (fun u o x wr => ∃ i n : Nat, i ≤ s.size ∧ n ≤ 4 ∧ x = .int .i64 i ∧ o = .int .i64 n ∧ Aside0 (n = (stF ((L s).take i)).2) ∧ Aside0 (wr.ownsRow w.heap.size 5 1 u (stF ((L s).take i)).1.length (cellsOf (stF ((L s).take i)).1)) ∧ Below w.heap.size w wr) (fun _ _ x _ => s.size - (intOf x).toNat)
  case atStart => exact ⟨0, 0, Nat.zero_le _, Nat.zero_le _, rfl, rfl, ⟨rfl⟩, ⟨World.ownsRow_nil _ _ _ _⟩, Below.refl _ _⟩
  case round =>
    obtain ⟨i, n, hi', hn4, rfl, rfl, HN, HO, hB⟩ := hrel
    by_cases hlt : i < s.size
    · have hl : i < (L s).length := by rw [← size_L]; exact hlt
      have HST := Aside0.mk (stF_take (L s) i hl)
      have hbd := (stF_bound (L s) i (by omega)).2
      obtain ⟨x, HX⟩ : ∃ x, Aside0 ((L s)[i] = x) := ⟨_, ⟨rfl⟩⟩
      have hxs : s[i]'hlt = x := HX.out
      rw [HX.out] at HST
      obtain ⟨q, HQ⟩ : ∃ q, Aside0 (stF ((L s).take i) = q) := ⟨_, ⟨rfl⟩⟩
      rw [HQ.out] at HN HO HST hbd
      obtain ⟨a, m⟩ := q
      obtain rfl : n = m := HN.out
      dsimp only at HO hbd
      have HB := Aside0.mk hB
      have hsz := hB.size
      clear hB HN HX hl
      by_cases h49 : x = 49
      · subst h49
        have hx49 : (((s[i]'hlt).toNat : Nat) : Int) = 49 := by rw [hxs]; rfl
        clear hxs
        go_wp2_with (at_builtin; refine wpList_append_own _ rfl _ _ 22 rfl w.heap.size 5 i0 (.int .u8 0) 1 1 Tryd.underlying22 hi hz0 hz1 hz2 rfl (by decide) _ _ _ rfl (HO.out.alloc _) ⟨wr.heap.size, 0, none⟩ 1 1 [.int .u8 49] rfl rfl ?c1 ?c2 ?c3 ?c4 ?c5 ?_)
        try (case c1 => exact cell_one_new _ _ _)
        case c2 => first | rfl | (intro u hu; simp at hu; subst hu; rfl)
        case c3 => unfold maxLen; omega
        case c4 => omega
        case c5 => simp; omega
        intro v w1 hown hgrow _
        have hB2 := (HB.out.alloc hsz _).grown hgrow (by simp; omega) (fun k hk => (HO.out.lt k hk).1)
        have hsz2 := hB2.size
        have HO2 : Aside0 (w1.ownsRow w.heap.size 5 1 v (a ++ [49]).length (cellsOf (a ++ [49]))) := ⟨by simpa [cellsOf] using hown⟩
        have hal : (a ++ [(49 : UInt8)]).length = a.length + 1 := by simp
        clear hown hgrow
        by_cases h5 : n + 1 = 5
        · have h5' : (n : Int) + 1 = 5 := by omega
          have HS3 : Aside0 (stF ((L s).take (i + 1)) = (a ++ [49] ++ [48], 0)) := ⟨by rw [HST.out]; unfold stS; rw [if_pos rfl, if_pos h5]; simp⟩
          clear h5
          go_wp2_with (at_builtin; refine wpList_append_own _ rfl _ _ 22 rfl w.heap.size 5 i0 (.int .u8 0) 1 1 Tryd.underlying22 hi hz0 hz1 hz2 rfl (by decide) _ _ _ rfl (HO2.out.alloc _) ⟨w1.heap.size, 0, none⟩ 1 1 [.int .u8 48] rfl rfl ?d1 ?d2 ?d3 ?d4 ?d5 ?_)
          try (case d1 => exact cell_one_new _ _ _)
          case d2 => first | rfl | (intro u hu; simp at hu; subst hu; rfl)
          case d3 => unfold maxLen; omega
          case d4 => omega
          case d5 => simp; omega
          intro v2 w2 hown2 hgrow2 _
          have hB3 := (hB2.alloc hsz2 _).grown hgrow2 (by simp; omega) (fun k hk => (HO2.out.lt k hk).1)
          have HO3 : Aside0 (w2.ownsRow w.heap.size 5 1 v2 (a ++ [49] ++ [48]).length (cellsOf (a ++ [49] ++ [48]))) := ⟨by simpa [cellsOf] using hown2⟩
          clear hown2 hgrow2
          go_wp2
          go_roundw
          case rel => exact ⟨i + 1, 0, by omega, by omega, by go_num, rfl, ⟨by rw [HS3.out]⟩, by rw [HS3.out]; exact HO3, hB3⟩
          case measure => simp [intOf]; omega
        · have h5' : ¬ ((n : Int) + 1 = 5) := by omega
          have HS3 : Aside0 (stF ((L s).take (i + 1)) = (a ++ [49], n + 1)) := ⟨by rw [HST.out]; unfold stS; rw [if_pos rfl, if_neg h5]⟩
          clear h5
          go_wp2
          go_roundw
          case rel => exact ⟨i + 1, n + 1, by omega, by omega, by go_num, by go_num, ⟨by rw [HS3.out]⟩, by rw [HS3.out]; exact HO2, hB2⟩
          case measure => simp [intOf]; omega
      · have hx49 : ¬ ((((s[i]'hlt).toNat : Nat) : Int) = 49) := by rw [hxs]; exact byte_ne x 49 h49
        have HS3 : Aside0 (stF ((L s).take (i + 1)) = (a ++ [48], 0)) := ⟨by rw [HST.out]; unfold stS; rw [if_neg h49]⟩
        clear hxs h49
        go_wp2_with (at_builtin; refine wpList_append_own _ rfl _ _ 22 rfl w.heap.size 5 i0 (.int .u8 0) 1 1 Tryd.underlying22 hi hz0 hz1 hz2 rfl (by decide) _ _ _ rfl (HO.out.alloc _) ⟨wr.heap.size, 0, none⟩ 1 1 [.int .u8 48] rfl rfl ?c1 ?c2 ?c3 ?c4 ?c5 ?_)
        try (case c1 => exact cell_one_new _ _ _)
        case c2 => first | rfl | (intro u hu; simp at hu; subst hu; rfl)
        case c3 => unfold maxLen; omega
        case c4 => omega
        case c5 => simp; omega
        intro v w1 hown hgrow _
        have hB2 := (HB.out.alloc hsz _).grown hgrow (by simp; omega) (fun k hk => (HO.out.lt k hk).1)
        have HO2 : Aside0 (w1.ownsRow w.heap.size 5 1 v (a ++ [48]).length (cellsOf (a ++ [48]))) := ⟨by simpa [cellsOf] using hown⟩
        clear hown hgrow
        go_wp2
        go_roundw
        case rel => exact ⟨i + 1, 0, by omega, by omega, by go_num, rfl, ⟨by rw [HS3.out]⟩, by rw [HS3.out]; exact HO2, hB2⟩
        case measure => simp [intOf]; omega
    · have e : (L s).take i = L s := List.take_of_length_le (by rw [← size_L]; omega)
      rw [e] at HO
      have hcv := own_str HO.out
      have HB := Aside0.mk hB
      clear hB HN
      go_wp2
      go_ret
      exact ⟨rfl, HB.out⟩
set_option maxHeartbeats 4000000 in
set_option maxRecDepth 1000000 in
theorem runstuff (s : ByteArray) (w : World) (hs : s.size ≤ 35184372088832) :
    Calls Tryd.prog 20 #[.string s] w fun e w' => e = .returned (.tuple #[.string ⟨(unstuffS (L s)).1.toArray⟩, .int .i64 (unstuffS (L s)).2]) ∧ Below w.heap.size w w' := by
  obtain ⟨i0, hi, hz0, hz1, hz2⟩ := info_parts infoByte
  obtain ⟨r, HR⟩ : ∃ r, Aside0 (unstuffS (L s) = r) := ⟨_, ⟨rfl⟩⟩
  rw [HR.out]
  obtain ⟨g, HG⟩ : ∃ g, Aside0 (goodL (L s) = g) := ⟨_, ⟨rfl⟩⟩
  go_enter Tryd.func20, Tryd.ntmps20
  go_wp2_with fail
  refine (OctRef.good_walk s _ (by omega)).mono ?_
  rintro e w1 ⟨he, rfl⟩
  rw [HG.out] at he
  subst he
  cases g with
  | false =>
    have hr := us_bad (L s) HG.out
    rw [HR.out] at hr
    subst hr
    go_wp2
    go_ret2
    exact ⟨rfl, Below.refl _ _⟩
  | true =>
    go_wp2
    go_loop [5, 6] (fun u x => ∃ i n : Nat, i ≤ s.size ∧ n ≤ 5 ∧ x = .int .i64 i ∧ u = .int .i64 n ∧ Aside0 (tailOnes 0 ((L s).take i) = n) ∧ Aside0 (calm 0 ((L s).take i))) (fun _ x => s.size - (intOf x).toNat)
    case atStart => exact ⟨0, 0, Nat.zero_le _, Nat.zero_le _, rfl, rfl, ⟨rfl⟩, ⟨trivial⟩⟩
    case round =>
      obtain ⟨i, n, hi', hn5, rfl, rfl, HN, HC⟩ := hrel
      by_cases hlt : i < s.size
      · have hl : i < (L s).length := by rw [← size_L]; exact hlt
        have HT1 := Aside0.mk (tail_take (L s) i hl)
        have HC1 := Aside0.mk (calm_next (L s) i hl HC.out)
        have HS := Aside0.mk (six_not (L s) i hl)
        obtain ⟨x, HX⟩ : ∃ x, Aside0 ((L s)[i] = x) := ⟨_, ⟨rfl⟩⟩
        have hxs : s[i]'hlt = x := HX.out
        rw [HX.out, HN.out] at HT1 HC1 HS
        clear HX hl
        by_cases h49 : x = 49
        · subst h49
          have hx49 : (((s[i]'hlt).toNat : Nat) : Int) = 49 := by rw [hxs]; rfl
          clear hxs
          by_cases h6 : n + 1 = 6
          · have h6' : (n : Int) + 1 = 6 := by omega
            have hr := us_six (L s) (HS.out ⟨rfl, h6⟩)
            rw [HR.out] at hr
            subst hr
            clear h6
            go_wp2
            go_ret2
            exact ⟨rfl, Below.refl _ _⟩
          · have h6' : ¬ ((n : Int) + 1 = 6) := by omega
            have HN1 : Aside0 (tailOnes 0 ((L s).take (i + 1)) = n + 1) := ⟨by rw [HT1.out, if_pos rfl]⟩
            have HC2 : Aside0 (calm 0 ((L s).take (i + 1))) := ⟨HC1.out (fun _ => by omega)⟩
            clear HT1 HC1 HS
            go_wp2
            go_round
            case rel => exact ⟨i + 1, n + 1, by omega, by omega, by go_num, by go_num, HN1, HC2⟩
            case measure => simp [intOf]; omega
        · have hx49 : ¬ ((((s[i]'hlt).toNat : Nat) : Int) = 49) := by rw [hxs]; exact byte_ne x 49 h49
          have HN1 : Aside0 (tailOnes 0 ((L s).take (i + 1)) = 0) := ⟨by rw [HT1.out, if_neg h49]⟩
          have HC2 : Aside0 (calm 0 ((L s).take (i + 1))) := ⟨HC1.out (fun h => absurd h h49)⟩
          clear hxs h49 HT1 HC1 HS
          go_wp2
          go_round
          case rel => exact ⟨i + 1, 0, by omega, by omega, by go_num, rfl, HN1, HC2⟩
          case measure => simp [intOf]; omega
      · have e : (L s).take i = L s := List.take_of_length_le (by rw [← size_L]; omega)
        rw [e] at HN HC
        by_cases h5 : n = 5
        · have hr := us_five (L s) HG.out HC.out (HN.out.trans h5)
          rw [HR.out] at hr
          subst hr
          have h5' : (n : Int) = 5 := by omega
          clear h5
          go_wp2
          go_ret2
          exact ⟨rfl, Below.refl _ _⟩
        · have hr := us_ok (L s) HG.out HC.out (by rw [HN.out]; exact h5)
          rw [HR.out] at hr
          subst hr
          have h5' : ¬ ((n : Int) = 5) := by omega
          clear h5
          go_wp2
          clear h5' HN HC hlt hi' hn5 e
          go_loopw [7, 8, 9] (fun u o x wr => ∃ i n : Nat, i ≤ s.size ∧ n ≤ 5 ∧ x = .int .i64 i ∧ o = .int .i64 n ∧ Aside0 (n = (us ((L s).take i)).2) ∧ Aside0 (wr.ownsRow w.heap.size 5 1 u (us ((L s).take i)).1.length (cellsOf (us ((L s).take i)).1)) ∧ Below w.heap.size w wr) (fun _ _ x _ => s.size - (intOf x).toNat)
          case atStart => exact ⟨0, 0, Nat.zero_le _, Nat.zero_le _, rfl, rfl, ⟨rfl⟩, ⟨World.ownsRow_nil _ _ _ _⟩, Below.refl _ _⟩
          case round =>
            obtain ⟨i, n, hi', hn5, rfl, rfl, HN, HO, hB⟩ := hrel
            by_cases hlt : i < s.size
            · have hl : i < (L s).length := by rw [← size_L]; exact hlt
              have HST := Aside0.mk (us_take (L s) i hl)
              have hbd := (us_bound (L s) i (by omega)).1
              obtain ⟨x, HX⟩ : ∃ x, Aside0 ((L s)[i] = x) := ⟨_, ⟨rfl⟩⟩
              have hxs : s[i]'hlt = x := HX.out
              rw [HX.out] at HST
              obtain ⟨q, HQ⟩ : ∃ q, Aside0 (us ((L s).take i) = q) := ⟨_, ⟨rfl⟩⟩
              rw [HQ.out] at HN HO HST hbd
              obtain ⟨a, m⟩ := q
              obtain rfl : n = m := HN.out
              dsimp only at HO hbd
              have HB := Aside0.mk hB
              have hsz := hB.size
              clear hB HN HX hl
              by_cases h5 : n = 5
              · have h5' : (n : Int) = 5 := by omega
                have HS3 : Aside0 (us ((L s).take (i + 1)) = (a, 0)) := ⟨by rw [HST.out]; unfold usS; rw [if_pos h5]⟩
                clear h5 hxs
                go_wp2
                go_roundw
                case rel => exact ⟨i + 1, 0, by omega, by omega, by go_num, rfl, ⟨by rw [HS3.out]⟩, by rw [HS3.out]; exact HO, HB.out⟩
                case measure => simp [intOf]; omega
              · have h5' : ¬ ((n : Int) = 5) := by omega
                have HS3 : Aside0 (us ((L s).take (i + 1)) = (a ++ [x], if x = 49 then n + 1 else 0)) := ⟨by rw [HST.out]; unfold usS; rw [if_neg h5]⟩
                clear h5
                go_wp2_with (at_builtin; refine wpList_append_own _ rfl _ _ 22 rfl w.heap.size 5 i0 (.int .u8 0) 1 1 Tryd.underlying22 hi hz0 hz1 hz2 rfl (by decide) _ _ _ rfl (HO.out.alloc _) ⟨wr.heap.size, 0, none⟩ 1 1 [.int .u8 (x.toNat : Int)] rfl rfl ?c1 ?c2 ?c3 ?c4 ?c5 ?_)
                try (case c1 => exact cell_one_new _ _ _)
                case c2 => first | rfl | (intro u hu; simp at hu; subst hu; rfl)
                case c3 => unfold maxLen; omega
                case c4 => omega
                case c5 => simp; omega
                intro v w1 hown hgrow _
                have hB2 := (HB.out.alloc hsz _).grown hgrow (by simp; omega) (fun k hk => (HO.out.lt k hk).1)
                have HO2 : Aside0 (w1.ownsRow w.heap.size 5 1 v (a ++ [x]).length (cellsOf (a ++ [x]))) := ⟨by simpa [cellsOf] using hown⟩
                clear hown hgrow
                by_cases h49 : x = 49
                · subst h49
                  have hx49 : (((s[i]'hlt).toNat : Nat) : Int) = 49 := by rw [hxs]; rfl
                  rw [if_pos rfl] at HS3
                  clear hxs
                  go_wp2
                  go_roundw
                  case rel => exact ⟨i + 1, n + 1, by omega, by omega, by go_num, by go_num, ⟨by rw [HS3.out]⟩, by rw [HS3.out]; exact HO2, hB2⟩
                  case measure => simp [intOf]; omega
                · have hx49 : ¬ ((((s[i]'hlt).toNat : Nat) : Int) = 49) := by rw [hxs]; exact byte_ne x 49 h49
                  rw [if_neg h49] at HS3
                  clear hxs h49
                  go_wp2
                  go_roundw
                  case rel => exact ⟨i + 1, 0, by omega, by omega, by go_num, rfl, ⟨by rw [HS3.out]⟩, by rw [HS3.out]; exact HO2, hB2⟩
                  case measure => simp [intOf]; omega
            · have e : (L s).take i = L s := List.take_of_length_le (by rw [← size_L]; omega)
              rw [e] at HO
              have hcv := own_str HO.out
              have HB := Aside0.mk hB
              clear hB HN
              go_wp2
              go_ret2
              exact ⟨rfl, HB.out⟩
end Go.Proofs.YtolodlnndojaiaaDoor.Hd
