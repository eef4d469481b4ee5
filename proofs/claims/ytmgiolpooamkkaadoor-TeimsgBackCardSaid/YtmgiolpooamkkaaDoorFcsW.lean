/- Package fcs by its own text: what was sealed is found right. No condition but sizes. -/
import Derived.Test.YtmgiolpooamkkaaDoorStr
import Derived.Test.YtmgiolpooamkkaaDoorProg
import Derived.WalkKit
import Derived.BigCall
import Derived.Lib.Builder
namespace Go.Proofs.YtmgiolpooamkkaaDoor.Fw
open Go Go.RowKit Go.Proofs.YtmgiolpooamkkaaDoorW.PrintWords Go.Proofs.YtmgiolpooamkkaaDoorW.PrintLast Go.Proofs.YtmgiolpooamkkaaDoorW.PrintMore Go.Proofs.YtmgiolpooamkkaaDoor.Str
set_option linter.unusedVariables false
theorem two_bytes (w : World) (a b : Int) : (Kd.int .u8).C (w.alloc (.cells #[.int .u8 a, .int .u8 b] 5)) (some ⟨w.heap.size, 0, none⟩) 2 [a, b] := by
  have hn := heap_alloc_new w (.cells #[.int .u8 a, .int .u8 b] 5)
  refine ⟨rfl, by decide, fun _ => ⟨_, rfl, fun j p hj => ⟨[.int .u8 p], rfl, rfl, fun i u hu => ?_⟩⟩⟩
  cases i with
  | zero =>
    simp at hu; subst hu; rw [add_plain, Lib.cell_of_heap hn]
    match j with
    | 0 => simp at hj; subst hj; rfl
    | 1 => simp at hj; subst hj; rfl
    | j + 2 => simp at hj
  | succ i => simp at hu
theorem two_str (w : World) (a b : Int) : (convert 67 9 (.slice (some ⟨w.heap.size, 0, none⟩) 2 2)).run Tryd.prog (w.alloc (.cells #[.int .u8 a, .int .u8 b] 5)) = .ok (.string (strOfNums [a, b])) (w.alloc (.cells #[.int .u8 a, .int .u8 b] 5)) :=
  Kd.C_string Tryd.underlying67 Tryd.underlying5 Tryd.underlying9 (two_bytes w a b)
/-- A round of a step. -/
def rnd (r : Int) : Int := Go.bits .xor .u16 (r / 2) (IntKind.u16.wrap (Go.bits .and .u16 r 1 * 33800))
def rnds : Nat → Int → Int
  | 0, r => r
  | k + 1, r => rnd (rnds k r)
def stepI (r o : Int) : Int := rnds 8 (Go.bits .xor .u16 r o)
set_option maxRecDepth 100000 in
theorem stepW (r o : Int) (w : World) (h0 : 0 ≤ o) (h1 : o ≤ 255) :
    Calls Tryd.prog 43 #[.int .u16 r, .int .u8 o] w fun e w' => e = .returned (.int .u16 (stepI r o)) ∧ w = w' := by
  go_enter Tryd.func43, Tryd.ntmps43
  go_wp2_with fail
  go_loopw [0, 10] (fun x i wr => ∃ k : Nat, k ≤ 8 ∧ i = .int .i64 k ∧ x = .int .u16 (rnds k (Go.bits .xor .u16 r o)) ∧ w = wr) (fun _ i _ => 8 - (intOf i).toNat)
  case atStart => exact ⟨0, by omega, rfl, rfl, rfl⟩
  case round =>
    obtain ⟨k, hk, rfl, rfl, rfl⟩ := hrel
    by_cases hlt : k < 8
    · obtain ⟨q, hq⟩ : ∃ q, rnds k (Go.bits .xor .u16 r o) = q := ⟨_, rfl⟩
      rw [hq]
      go_wp2
      refine ⟨⟨k + 1, by omega, by go_num, ?_, trivial⟩, by simp [intOf]; omega⟩
      rw [show rnds (k + 1) (Go.bits .xor .u16 r o) = rnd q from by rw [← hq]; rfl]
      rfl
    · obtain rfl : k = 8 := by omega
      go_wp2
      go_ret
      exact ⟨rfl, rfl⟩
/-- The register behind octets. -/
def regs (l : List UInt8) : Int := l.foldl (fun r o => stepI r (o.toNat : Int)) 65535
theorem regs_take (l : List UInt8) (k : Nat) (h : k < l.length) : regs (l.take (k + 1)) = stepI (regs (l.take k)) ((l[k]).toNat : Int) := by
  unfold regs
  rw [List.take_succ_eq_append_getElem h, List.foldl_append]; rfl
/-- The check sequence. -/
def sumI (s : ByteArray) : Int := Go.bits .xor .u16 IntKind.u16.max (regs (L s))
theorem sumI_range (s : ByteArray) : 0 ≤ sumI s ∧ sumI s < 65536 := by
  unfold sumI
  show 0 ≤ IntKind.u16.wrap _ ∧ IntKind.u16.wrap _ < 65536
  have : ∀ n : Int, IntKind.u16.wrap n = n % 65536 := fun n => by simp [IntKind.wrap, IntKind.bits, IntKind.signed]
  rw [this]
  omega
set_option maxRecDepth 100000 in
theorem sumW (s : ByteArray) (w : World) (hs : s.size ≤ 9223372036854775807) :
    Calls Tryd.prog 41 #[.string s] w fun e w' => e = .returned (.int .u16 (sumI s)) ∧ w = w' := by
  go_enter Tryd.func41, Tryd.ntmps41
  go_wp2_with fail
  go_loopw [3, 7] (fun x i wr => ∃ k : Nat, k ≤ s.size ∧ i = .int .i64 k ∧ x = .int .u16 (regs ((L s).take k)) ∧ w = wr) (fun _ i _ => s.size - (intOf i).toNat)
  case atStart => exact ⟨0, by omega, rfl, rfl, rfl⟩
  case round =>
    obtain ⟨k, hk, rfl, rfl, rfl⟩ := hrel
    by_cases hlt : k < s.size
    · have hl : k < (L s).length := by rw [← size_L]; exact hlt
      have ht := regs_take (L s) k hl
      obtain ⟨q, hq⟩ : ∃ q, regs ((L s).take k) = q := ⟨_, rfl⟩
      rw [hq] at ht
      rw [hq]
      go_wp2_with fail
      have hb := ((L s)[k]'hl).toNat_lt
      refine (stepW q (((L s)[k]'hl).toNat : Int) w (by omega) (by omega)).mono ?_
      rintro e w1 ⟨rfl, rfl⟩
      rw [← ht]
      clear ht hb
      go_wp2
      exact ⟨⟨k + 1, by omega, by go_num, rfl, trivial⟩, by simp [intOf]; omega⟩
    · obtain rfl : k = s.size := by omega
      have hsg : ¬ IntKind.u16.signed = true := by decide
      have hq : Go.bits .xor .u16 IntKind.u16.max (regs (L s)) = sumI s := rfl
      rw [size_L, List.take_length]
      generalize regs (L s) = q at hq
      go_wp2
      go_ret
      trivial
/-- What is sealed. -/
def seal_ (s : ByteArray) : ByteArray := s ++ strOfNums [sumI s % 256, sumI s / 256]
set_option maxRecDepth 100000 in
theorem sealW (s : ByteArray) (w : World) (hs : s.size ≤ 9223372036854775) :
    Calls Tryd.prog 31 #[.string s] w fun e w' => e = .returned (.string (seal_ s)) ∧ Below w.heap.size w w' := by
  go_enter Tryd.func31, Tryd.ntmps31
  go_wp2_with fail
  refine (sumW s w (by omega)).mono ?_
  rintro e w1 ⟨rfl, rfl⟩
  have hz := sumI_range s
  have hse : s ++ strOfNums [sumI s % 256, sumI s / 256] = seal_ s := rfl
  generalize sumI s = z at *
  have hcv := two_str w (z % 256) (z / 256)
  have hcat : ¬ 9223372036854775807 < s.size + (strOfNums [z % 256, z / 256]).size := by rw [nums_size]; simp; omega
  go_wp2_with fail
  have hb : Below w.heap.size w (w.alloc (.cells #[.int .u8 (z % 256), .int .u8 (z / 256)] 5)) := (Below.refl _ w).alloc (Nat.le_refl _) _
  have HB := Aside0.mk hb
  clear hb hcv hcat hse hz
  go_wp2
  go_ret
  exact ⟨rfl, HB.out⟩
theorem seal_size (s : ByteArray) : (seal_ s).size = s.size + 2 := by unfold seal_; rw [ByteArray.size_append, nums_size]; rfl
theorem seal_body (s : ByteArray) : (seal_ s).extract 0 s.size = s := by
  refine inj ?_
  rw [L_take, seal_, L_app, size_L, List.take_left]
set_option maxRecDepth 100000 in
theorem checkW (s : ByteArray) (w : World) (hs : s.size ≤ 9223372036854775) :
    Calls Tryd.prog 32 #[.string (seal_ s)] w fun e w' => e = .returned (.tuple #[.string s, .int .i64 0]) ∧ Below w.heap.size w w' := by
  have hz := seal_size s
  have hbd := seal_body s
  have hsl := sealW s w hs
  generalize seal_ s = t at *
  have h2 : ¬ (t.size : Int) < 2 := by omega
  have h3 : (t.size : Int) - 2 = (s.size : Int) := by omega
  have hst : s.size ≤ t.size := by omega
  go_enter Tryd.func32, Tryd.ntmps32
  go_wp2_with fail
  refine hsl.mono ?_
  rintro e w1 ⟨rfl, hb⟩
  have HB := Aside0.mk hb
  clear hb
  go_wp2
  go_ret2
  exact ⟨rfl, HB.out⟩
end Go.Proofs.YtmgiolpooamkkaaDoor.Fw
