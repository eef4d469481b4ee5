/- strings.ReplaceAll of "111110" by "11111", at this dump. -/
import Derived.Test.YtolodlnndojaiaaDoorRepeat
import Derived.Lib.Replace
import Derived.Lib.IndexMore
namespace Go.Proofs.YtolodlnndojaiaaDoor.Buil
open Go.RowKit Go.Proofs.YtolodlnndojaiaaDoorW.PrintWords Go.Proofs.YtolodlnndojaiaaDoorW.PrintLast Go.Proofs.YtolodlnndojaiaaDoorW.PrintMore Go.Proofs.YtolodlnndojaiaaDoor.Str
set_option linter.unusedVariables false
def oldB : ByteArray := ⟨#[49, 49, 49, 49, 49, 48]⟩
def newB : ByteArray := ⟨#[49, 49, 49, 49, 49]⟩
theorem old_ne : L oldB ≠ [] := by decide
theorem index_room {s : List UInt8} {i : Nat} (h : Lib.index s (L oldB) = i) : i + 6 ≤ s.length := by
  rcases Lib.index_spec s (L oldB) with ⟨h1, _⟩ | ⟨j, h1, _, h2, _⟩
  · omega
  · have : j = i := by omega
    subst this
    rcases Lib.occAt_room h2 with h3 | h3
    · exact h3
    · exact absurd h3 old_ne
theorem count_room : ∀ (n : Nat) (s : List UInt8), s.length ≤ n → 6 * Lib.count s (L oldB) ≤ s.length := by
  intro n
  induction n with
  | zero =>
    intro s hs
    rcases Lib.index_spec s (L oldB) with ⟨h1, _⟩ | ⟨j, h1, _⟩
    · rw [Lib.count_miss h1]; omega
    · have := index_room h1; omega
  | succ n ih =>
    intro s hs
    rcases Lib.index_spec s (L oldB) with ⟨h1, _⟩ | ⟨j, h1, _⟩
    · rw [Lib.count_miss h1]; omega
    · have h2 := index_room h1
      have h3 := Lib.count_hit old_ne h1
      have h4 : (L oldB).length = 6 := rfl
      have h5 := ih (s.drop (j + (L oldB).length)) (by rw [List.length_drop]; omega)
      rw [List.length_drop] at h5
      omega
set_option maxHeartbeats 8000000 in
set_option maxRecDepth 1000000 in
theorem repl (s : ByteArray) (m : Int) (w : World) (hs : s.size ≤ 1000000) (hm : w.cell? ⟨0, 0, none⟩ = some (.int .i64 m)) :
    Calls Tryd.prog 47 #[.string s, .string oldB, .string newB, .int .i64 (-1)] w fun e w' => e = .returned (.string ⟨(Lib.replaceAll (L s) (L oldB) (L newB)).toArray⟩) ∧ Below w.heap.size w w' := by
  have hw0 : 0 < w.heap.size := World.block_lt_of_cell? w _ hm
  have hra : Lib.replaceAll (L s) (L oldB) (L newB) = Lib.replaceK (L oldB) (L newB) (Lib.count (L s) (L oldB)) (L s) := by
    unfold Lib.replaceAll Lib.replace Lib.replaceNum
    rw [if_neg (by decide), if_pos (Or.inl (by decide))]
  have hcr := count_room _ (L s) (Nat.le_refl _)
  rw [← size_L] at hcr
  obtain ⟨k, hk⟩ : ∃ k, Lib.count (L s) (L oldB) = k := ⟨_, rfl⟩
  rw [hk] at hra hcr
  have hne1 : ¬ oldB = newB := by intro h; have := congrArg ByteArray.size h; revert this; decide
  have hne2 : (oldB == newB) = false := by first | rfl | decide | decide +kernel
  have hne3 : (oldB.toList == newB.toList) = false := by first | rfl | decide | decide +kernel
  have ho6 : oldB.size = 6 := rfl
  have hn5 : newB.size = 5 := rfl
  have HRA := Aside0.mk hra
  have HK := Aside0.mk hk
  have HM := Aside0.mk hm
  have hcnt := Tryd.strings_Count s oldB m w (by omega) hm (by decide)
  rw [show Lib.countB s oldB = k from hk] at hcnt
  have HCNT := Aside0.mk hcnt
  clear hra hk hm hcnt
  go_enter Tryd.func47, Tryd.ntmps47
  go_wp2_with fail
  refine HCNT.out.mono ?_
  rintro e w1 ⟨rfl, rfl⟩
  by_cases hk0 : k = 0
  · subst hk0
    go_wp2
    go_ret
    rw [HRA.out]
    exact ⟨rfl, Below.refl _ _⟩
  · have hk1 : ¬ ((k : Int) = 0) := by omega
    obtain ⟨g, hg⟩ : ∃ g : Nat, g = s.size - k := ⟨_, rfl⟩
    have hgi : (s.size : Int) + -(k : Int) = (g : Int) := by omega
    have hg0 : 0 < g := by omega
    clear hg hk0
    go_wp2_with fail
    have hbk := Go.heap_alloc_new w1 (.cells #[.pointer none, .slice none 0 0] 66)
    refine (grow w1.heap.size w1.heap.size g _ (Nat.le_refl _) hbk (by show w1.heap.size ≤ (w1.heap.push _).size; simp) (by omega) hg0).mono ?_
    rintro e w2 ⟨rfl, hB2, hb2⟩
    have hbl2 : Below w1.heap.size w1 w2 := ((Below.refl _ w1).alloc (Nat.le_refl _) _).trans hb2
    have HB2 : Aside0 (Lib.IsBuilderF 66 5 w1.heap.size w1.heap.size (Lib.byteCells []) w2) := ⟨Or.inr (Lib.BuilderAtF.of hB2)⟩
    clear hbk hb2 hB2 hgi hg0
    go_wp2
    go_loopw [11, 12, 53] (fun st _ x wr => ∃ i p : Nat, ∃ out : List UInt8, i ≤ k ∧ p ≤ s.size ∧ x = .int .i64 i ∧ st = .int .i64 p ∧ Aside0 (Lib.count ((L s).drop p) (L oldB) = k - i) ∧ Aside0 (out ++ Lib.replaceK (L oldB) (L newB) (k - i) ((L s).drop p) = Lib.replaceAll (L s) (L oldB) (L newB)) ∧ out.length ≤ p ∧ Aside0 (Lib.IsBuilderF 66 5 w1.heap.size w1.heap.size (Lib.byteCells out) wr) ∧ Below w1.heap.size w1 wr) (fun _ _ x _ => k - (intOf x).toNat)
    case atStart => exact ⟨0, 0, [], Nat.zero_le _, Nat.zero_le _, rfl, rfl, ⟨HK.out⟩, ⟨HRA.out.symm⟩, Nat.le_refl _, HB2, hbl2⟩
    case round =>
      clear HB2 hbl2
      obtain ⟨i, p, out, hi, hp, rfl, rfl, HC, HR, ho, HI, hB⟩ := hrel
      have hsz := hB.size
      by_cases hlt : i < k
      · obtain ⟨j, hj⟩ := Lib.index_of_count (show 0 < Lib.count ((L s).drop p) (L oldB) by rw [HC.out]; omega)
        have hjr := index_room hj
        rw [List.length_drop, ← size_L] at hjr
        have hch := Lib.count_hit old_ne hj
        have hrk := Lib.replaceK_hit (L oldB) (L newB) (k - (i + 1)) _ j hj
        rw [show k - (i + 1) + 1 = k - i from by omega] at hrk
        rw [List.drop_drop] at hch hrk
        have hix := Tryd.strings_Index (s.extract p s.size) oldB m wr (by rw [ByteArray.size_extract]; omega) (pw_cell_below hB HM.out)
        rw [show (s.extract p s.size).data.toList = (L s).drop p from by show L (s.extract p s.size) = _; rw [L_cut, size_L, List.take_length], show oldB.data.toList = L oldB from rfl, hj] at hix
        have HIX := Aside0.mk hix
        have HCH := Aside0.mk hch
        have HRK := Aside0.mk hrk
        have hps : (p : Int) ≤ (s.size : Int) := by omega
        clear hix hch hrk hj
        go_wp2_with fail
        refine HIX.out.mono ?_
        rintro e w4 ⟨rfl, rfl⟩
        have hpj : (p : Int) + (j : Int) ≤ (s.size : Int) := by omega
        have hpj0 : (p : Int) ≤ (p : Int) + (j : Int) := by omega
        have hpj1 : 0 ≤ (p : Int) + (j : Int) := by omega
        go_wp2_with fail
        have hx1 : (s.extract p (p + j)).size = j := by rw [ByteArray.size_extract]; omega
        refine (write w1.heap.size w1.heap.size _ (s.extract p (p + j)) _ HI.out (by rw [Lib.byteCells_length, hx1]; omega) hsz).mono ?_
        rintro e w5 ⟨rfl, hI5, hb5⟩
        have hB5 := hB.trans hb5
        have hsz5 := hB5.size
        clear hb5 hB hsz HI
        go_wp2_with fail
        refine (write w1.heap.size w1.heap.size _ newB _ (Or.inr hI5) (by rw [List.length_append, Lib.byteCells_length, Lib.strCells_length, hx1, hn5]; omega) hsz5).mono ?_
        rintro e w6 ⟨rfl, hI6, hb6⟩
        have hB6 := hB5.trans hb6
        have HI6 : Aside0 (Lib.IsBuilderF 66 5 w1.heap.size w1.heap.size (Lib.byteCells (out ++ ((L s).drop p).take j ++ L newB)) w6) := ⟨Or.inr (by
          have e1 : Lib.strCells (s.extract p (p + j)) = Lib.byteCells (((L s).drop p).take j) := by
            show Lib.byteCells (L (s.extract p (p + j))) = _
            rw [L_cut, List.drop_take]
            congr 2
            omega
          have e2 : Lib.strCells newB = Lib.byteCells (L newB) := rfl
          rw [Lib.byteCells_append, Lib.byteCells_append, ← e1, ← e2]
          exact hI6)⟩
        have HR6 : Aside0 ((out ++ ((L s).drop p).take j ++ L newB) ++ Lib.replaceK (L oldB) (L newB) (k - (i + 1)) ((L s).drop (p + (j + (L oldB).length))) = Lib.replaceAll (L s) (L oldB) (L newB)) := ⟨by
          rw [← HR.out, HRK.out]
          simp only [List.append_assoc]⟩
        have HC6 : Aside0 (Lib.count ((L s).drop (p + (j + (L oldB).length))) (L oldB) = k - (i + 1)) := ⟨by
          have h1 := HCH.out
          rw [HC.out] at h1
          omega⟩
        have ho6' : (out ++ ((L s).drop p).take j ++ L newB).length ≤ p + j + 6 := by
          rw [List.length_append, List.length_append, List.length_take]
          have : (L newB).length = 5 := rfl
          omega
        clear hI5 hI6 hb6 hB5 HR HC HCH HRK
        go_wp2
        go_roundw
        case rel => exact ⟨i + 1, p + j + 6, _, by omega, by omega, by go_num, by go_num, HC6, HR6, ho6', HI6, hB6⟩
        case measure => simp [intOf]; omega
      · obtain rfl : i = k := by omega
        go_wp2_with fail
        have hx1 : (s.extract p s.size).size = s.size - p := by rw [ByteArray.size_extract]; omega
        refine (write w1.heap.size w1.heap.size _ (s.extract p s.size) _ HI.out (by rw [Lib.byteCells_length, hx1]; omega) hsz).mono ?_
        rintro e w5 ⟨rfl, hI5, hb5⟩
        have hB5 := hB.trans hb5
        have hsz5 := hB5.size
        have HI5 : Aside0 (Lib.IsBuilderF 66 5 w1.heap.size w1.heap.size (Lib.byteCells (Lib.replaceAll (L s) (L oldB) (L newB))) w5) := ⟨Or.inr (by
          have h1 := HR.out
          rw [Nat.sub_self, Lib.replaceK] at h1
          have e1 : Lib.strCells (s.extract p s.size) = Lib.byteCells ((L s).drop p) := by
            show Lib.byteCells (L (s.extract p s.size)) = _
            rw [L_cut, size_L, List.take_length]
          rw [← h1, Lib.byteCells_append, ← e1]
          exact hI5)⟩
        clear hI5 hb5 hB HI
        go_wp2_with fail
        refine (Tryd.Builder_String_any_k w1.heap.size w1.heap.size _ _ HI5.out hsz5).mono ?_
        rintro e w6 ⟨rfl, _, hb6, _⟩
        have hB6 := hB5.trans hb6
        go_wp2
        go_ret
        exact ⟨rfl, hB6⟩
set_option maxHeartbeats 1000000 in
set_option maxRecDepth 1000000 in
theorem replAll (s : ByteArray) (m : Int) (w : World) (hs : s.size ≤ 1000000) (hm : w.cell? ⟨0, 0, none⟩ = some (.int .i64 m)) :
    Calls Tryd.prog 31 #[.string s, .string oldB, .string newB] w fun e w' => e = .returned (.string ⟨(Lib.replaceAll (L s) (L oldB) (L newB)).toArray⟩) ∧ Below w.heap.size w w' := by
  have HR := Aside0.mk (repl s m w hs hm)
  clear hm
  go_enter Tryd.func31, Tryd.ntmps31
  go_wp2_with fail
  refine HR.out.mono ?_
  rintro e w1 ⟨rfl, hb⟩
  go_wp2
  go_ret
  exact ⟨rfl, hb⟩
end Go.Proofs.YtolodlnndojaiaaDoor.Buil
