/- strings.Repeat of the one digit "1", at this dump, two to eight times. -/
import Derived.Test.YtolodlnndojaiaaDoorBuilder2
import Derived.Test.YtolodlnndojaiaaDoorShelf
import Derived.BigCall
namespace Go.Proofs.YtolodlnndojaiaaDoor.Buil
open Go.RowKit Go.Proofs.YtolodlnndojaiaaDoorW.PrintWords Go.Proofs.YtolodlnndojaiaaDoorW.PrintLast Go.Proofs.YtolodlnndojaiaaDoorW.PrintMore Go.Proofs.YtolodlnndojaiaaDoor.Str
set_option linter.unusedVariables false
/-- How much a builder holds. -/
def slen : Option Value → Nat
  | some (Value.slice _ n _) => n
  | _ => 0
def blen (w : World) (b : Nat) : Nat := match w.heap[b]? with
  | some (Obj.cells cs _ _) => slen cs[1]?
  | _ => 0
theorem blen_of {T e : TypeId} {B b : Nat} {bs : List Value} {w : World} (h : Lib.IsBuilderF T e B b bs w) : blen w b = bs.length := by
  have : ∀ p, Lib.BuilderAtF T e B b p bs w → blen w b = bs.length := by
    rintro p ⟨_, v, hb, ho, _⟩
    unfold blen
    rw [hb]
    rcases ho.2 with ⟨rfl, h0⟩ | ⟨g, cap, cur, fz, rfl, _⟩
    · show 0 = _; omega
    · rfl
  rcases h with h | h
  · exact this _ h
  · exact this _ h
attribute [local go_sem] max2_int min2_int min_three
theorem rep_step (m q : Nat) (hq : q ≤ m) (hm : m ≤ 8) : Lib.byteCells (List.replicate m (49 : UInt8)) ++ Lib.strCells ((⟨Array.replicate m (49 : UInt8)⟩ : ByteArray).extract 0 q) = Lib.byteCells (List.replicate (m + q) (49 : UInt8)) ∧ (Lib.byteCells (List.replicate m (49 : UInt8))).length + ((⟨Array.replicate m (49 : UInt8)⟩ : ByteArray).extract 0 q).size ≤ 140737488355328 := by
  have e : L ((⟨Array.replicate m (49 : UInt8)⟩ : ByteArray).extract 0 q) = List.replicate q 49 := by
    rw [L_take, show L (⟨Array.replicate m (49 : UInt8)⟩ : ByteArray) = List.replicate m 49 from by simp [L], List.take_replicate]
    congr 1
    omega
  have e2 : Lib.strCells ((⟨Array.replicate m (49 : UInt8)⟩ : ByteArray).extract 0 q) = Lib.byteCells (L ((⟨Array.replicate m (49 : UInt8)⟩ : ByteArray).extract 0 q)) := rfl
  constructor
  · rw [e2, e, ← Lib.byteCells_append, List.replicate_append_replicate]
  · rw [Lib.byteCells_length, List.length_replicate, size_L, e, List.length_replicate]
    omega
set_option maxHeartbeats 8000000 in
set_option maxRecDepth 1000000 in
theorem rep (n : Nat) (hn : 2 ≤ n) (hn8 : n ≤ 8) (w : World) : Calls Tryd.prog 29 #[.string ⟨#[49]⟩, .int .i64 n] w fun e w' => e = .returned (.string ⟨(List.replicate n (49 : UInt8)).toArray⟩) ∧ Below w.heap.size w w' := by
  have h1 : ¬ ((n : Int) = 0) := by omega
  have h2 : ¬ ((n : Int) = 1) := by omega
  have h3 : ((n : Int) % 18446744073709551616) = (n : Int) := by omega
  go_enter Tryd.func29, Tryd.ntmps29
  go_wp2_with fail
  have hm := Tryd.bits_Mul 1 n (by omega) (by omega) w
  rw [Nat.one_mul, Nat.div_eq_of_lt (by omega : n < 18446744073709551616), Nat.mod_eq_of_lt (by omega : n < 18446744073709551616)] at hm
  refine hm.mono ?_
  rintro e w1 ⟨rfl, rfl⟩
  go_wp2_with fail
  have hbk := Go.heap_alloc_new w1 (.cells #[.pointer none, .slice none 0 0] 66)
  refine (grow w1.heap.size w1.heap.size n _ (Nat.le_refl _) hbk (by show w1.heap.size ≤ (w1.heap.push _).size; simp) (by omega) (by omega)).mono ?_
  rintro e w2 ⟨rfl, hB2, hb2⟩
  have hbl2 : Below w1.heap.size w1 w2 := ((Below.refl _ w1).alloc (Nat.le_refl _) _).trans hb2
  have hsz2 := hbl2.size
  clear hbk hb2 hm
  go_wp2_with fail
  refine (write w1.heap.size w1.heap.size [] ⟨#[49]⟩ _ (Or.inr (Lib.BuilderAtF.of hB2)) (by decide) hsz2).mono ?_
  rintro e w3 ⟨rfl, hB3, hb3⟩
  have hbl3 := hbl2.trans hb3
  have hB3' : Lib.IsBuilderF 66 5 w1.heap.size w1.heap.size (Lib.byteCells (List.replicate 1 (49 : UInt8))) w3 := Or.inr hB3
  clear hb3 hbl2 hB2 hB3
  go_wp2
  go_loopw [10] (fun _ wr => ∃ m : Nat, 1 ≤ m ∧ m ≤ n ∧ Aside0 (Lib.IsBuilderF 66 5 w1.heap.size w1.heap.size (Lib.byteCells (List.replicate m (49 : UInt8))) wr) ∧ Below w1.heap.size w1 wr) (fun _ wr => n - blen wr w1.heap.size)
  case atStart => exact ⟨1, Nat.le_refl _, by omega, ⟨hB3'⟩, hbl3⟩
  case round =>
    clear hB3' hbl3
    obtain ⟨m, hm1, hmn, HI, hB⟩ := hrel
    have hlm : (Lib.byteCells (List.replicate m (49 : UInt8))).length = m := by rw [Lib.byteCells_length, List.length_replicate]
    have HLM := Aside0.mk hlm
    have hbl := blen_of HI.out
    rw [hlm] at hbl
    have HBL := Aside0.mk hbl
    have hsz := hB.size
    clear hlm hbl
    go_wp2_with fail
    have hln := Tryd.Builder_Len_f w1.heap.size w1.heap.size _ _ HI.out
    rw [HLM.out] at hln
    have HLN := Aside0.mk hln
    clear hln
    refine HLN.out.mono ?_
    rintro e w4 ⟨rfl, rfl⟩
    by_cases hlt : (m : Int) < (n : Int)
    · by_cases hc : (m : Int) < (n : Int) - (m : Int)
      · have HQ := Aside0.mk (rep_step m m (Nat.le_refl _) (by omega))
        go_wp2_with fail
        refine HLN.out.mono ?_
        rintro e w5 ⟨rfl, rfl⟩
        go_wp2_with fail
        refine HLN.out.mono ?_
        rintro e w5 ⟨rfl, rfl⟩
        go_wp2_with fail
        refine (Tryd.Builder_String_any_k w1.heap.size w1.heap.size (List.replicate m (49 : UInt8)) _ HI.out hsz).mono ?_
        rintro e w6 ⟨rfl, hI6, hb6, _⟩
        have hB6 := hB.trans hb6
        have hsz6 := hB6.size
        clear hB hb6
        go_wp2_with fail
        refine (write w1.heap.size w1.heap.size _ ((⟨Array.replicate m (49 : UInt8)⟩ : ByteArray).extract 0 (m)) _ hI6 HQ.out.2 hsz6).mono ?_
        rintro e w7 ⟨rfl, hI7, hb7⟩
        rw [HQ.out.1] at hI7
        have hB7 := hB6.trans hb7
        have HI7 := Aside0.mk hI7
        have hbl7 : blen w7 w1.heap.size = _ := blen_of (Or.inr hI7)
        rw [Lib.byteCells_length, List.length_replicate] at hbl7
        have HBL7 := Aside0.mk hbl7
        clear hI7 hI6 hB6 hb7 hbl7
        go_wp2
        exact ⟨⟨m + m, by omega, by omega, ⟨Or.inr HI7.out⟩, hB7⟩, by rw [HBL7.out, HBL.out]; omega⟩
      · have HQ := Aside0.mk (rep_step m (n - m) (by omega) (by omega))
        go_wp2_with fail
        refine HLN.out.mono ?_
        rintro e w5 ⟨rfl, rfl⟩
        go_wp2_with fail
        refine HLN.out.mono ?_
        rintro e w5 ⟨rfl, rfl⟩
        go_wp2_with fail
        refine (Tryd.Builder_String_any_k w1.heap.size w1.heap.size (List.replicate m (49 : UInt8)) _ HI.out hsz).mono ?_
        rintro e w6 ⟨rfl, hI6, hb6, _⟩
        have hB6 := hB.trans hb6
        have hsz6 := hB6.size
        clear hB hb6
        go_wp2_with fail
        refine (write w1.heap.size w1.heap.size _ ((⟨Array.replicate m (49 : UInt8)⟩ : ByteArray).extract 0 (n - m)) _ hI6 HQ.out.2 hsz6).mono ?_
        rintro e w7 ⟨rfl, hI7, hb7⟩
        rw [HQ.out.1] at hI7
        have hB7 := hB6.trans hb7
        have HI7 := Aside0.mk hI7
        have hbl7 : blen w7 w1.heap.size = _ := blen_of (Or.inr hI7)
        rw [Lib.byteCells_length, List.length_replicate] at hbl7
        have HBL7 := Aside0.mk hbl7
        clear hI7 hI6 hB6 hb7 hbl7
        go_wp2
        exact ⟨⟨m + (n - m), by omega, by omega, ⟨Or.inr HI7.out⟩, hB7⟩, by rw [HBL7.out, HBL.out]; omega⟩
    · obtain rfl : m = n := by omega
      go_wp2_with fail
      refine (Tryd.Builder_String_any_k w1.heap.size w1.heap.size (List.replicate m (49 : UInt8)) _ HI.out hsz).mono ?_
      rintro e w6 ⟨rfl, hI6, hb6, _⟩
      have hB6 := hB.trans hb6
      go_wp2
      go_ret
      exact ⟨rfl, hB6⟩
end Go.Proofs.YtolodlnndojaiaaDoor.Buil
