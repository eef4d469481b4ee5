/- An act done to a bus: the law's own function by its text. No condition. -/
import Derived.Test.YtfopcnabcmdclaaBusTwo
namespace Go.Proofs.Ytfopcnabcmdclaa.Wk
open Go Go.RowKit Go.Proofs.YtfopcnabcmdclaaW.PrintWords Go.Proofs.YtfopcnabcmdclaaW.PrintLast Go.Proofs.YtfopcnabcmdclaaW.PrintMore Go.Proofs.Ytfopcnabcmdclaa.Str Go.Proofs.Ytfopcnabcmdclaa.Bits Go.Proofs.Ytfopcnabcmdclaa.Mp Go.Proofs.Ytfopcnabcmdclaa.Ra Go.Proofs.Ytfopcnabcmdclaa.Bs Go.Proofs.Ytfopcnabcmdclaa.Ac
set_option linter.unusedVariables false
set_option maxHeartbeats 4000000 in
set_option maxRecDepth 1000000 in
theorem doH (F : Nat → Prop) (p mb c n : Nat) (q : Bool → Int → List ByteArray) (w : World) (h : Has F w p mb c n q) (hcn : c ≤ 999999000) (g : Nat) (x i o : Int) (wy : Bool) (s : ByteArray) (A : Option Addr) (na ca : Nat) (m : List Int)
    (hg : w.heap[g]? = some (.cells #[.int .i64 x, .int .i64 i, .int .i64 o, .bool wy, .string s, .slice A na ca] 42 (0, 0))) (hi : wfi i) (hs : s.size ≤ 9223372036854775807) (hm : (Kd.int .i64).C w A na m) (hc : na ≤ ca) :
    Calls Try.prog 23 #[.pointer (some ⟨p, 0, none⟩), .pointer (some ⟨g, 0, none⟩)] w fun e w' => e = .returned (.tuple #[]) ∧ Has F w' p mb (c + 20) n (opQ q n (Int.tmod x 7) i wy s m) ∧ Kb (fun k => ¬ F k) w w' := by
  have c0 : w.cell? ⟨g, 0, none⟩ = some (.int .i64 x) := by rw [Lib.cell_of_heap hg]; rfl
  have c1 : w.cell? ⟨g, 1, none⟩ = some (.int .i64 i) := by rw [Lib.cell_of_heap hg]; rfl
  have c3 : w.cell? ⟨g, 3, none⟩ = some (.bool wy) := by rw [Lib.cell_of_heap hg]; rfl
  have c4 : w.cell? ⟨g, 4, none⟩ = some (.string s) := by rw [Lib.cell_of_heap hg]; rfl
  have c5 : w.cell? ⟨g, 5, none⟩ = some (.slice A na ca) := by rw [Lib.cell_of_heap hg]; rfl
  have HH := Aside0.mk h
  have HM := Aside0.mk hm
  have hn := h.choose_spec.choose_spec.choose_spec.1.n16
  clear h hm hg
  go_enter Try.func23, Try.ntmps23
  go_wp2_with fail
  · refine (upH _ _ _ _ _ _ _ HH.out hcn i hi s hs).mono ?_
    rintro e w1 ⟨rfl, h1, k1⟩
    have hy : x.tmod 7 = 1 := by simpa using ‹(x.tmod 7 == 1) = true›
    have e1 : opQ q n (x.tmod 7) i wy s m = upQ q n i s := by rw [hy]; rfl
    have H1 := Aside0.mk (h1.le (show c + 1 ≤ c + 20 by omega))
    rw [← e1] at H1
    have K1 := Aside0.mk k1
    clear h1 k1 e1 hy HH HM
    go_wp2
    go_end0
    exact ⟨rfl, H1.out, K1.out⟩
  · refine (takeH _ _ _ _ _ _ _ HH.out hcn wy i hi).mono ?_
    rintro e w1 ⟨rfl, h1, k1⟩
    have hy : x.tmod 7 = 2 := by simpa using ‹(x.tmod 7 == 2) = true›
    have e1 : opQ q n (x.tmod 7) i wy s m = updQ q wy i (q wy i).tail := by rw [hy]; rfl
    have H1 := Aside0.mk (h1.le (show c + 1 ≤ c + 20 by omega))
    rw [← e1] at H1
    have K1 := Aside0.mk k1
    clear h1 k1 e1 hy HH HM
    go_wp2
    go_end0
    exact ⟨rfl, H1.out, K1.out⟩
  · refine (spoilH _ _ _ _ _ _ _ HH.out wy i hi A na ca m HM.out hc).mono ?_
    rintro e w1 ⟨rfl, h1, k1⟩
    have hy : x.tmod 7 = 3 := by simpa using ‹(x.tmod 7 == 3) = true›
    have e1 : opQ q n (x.tmod 7) i wy s m = spoilQ q wy i m := by rw [hy]; rfl
    have H1 := Aside0.mk (h1.le (show c ≤ c + 20 by omega))
    rw [← e1] at H1
    have K1 := Aside0.mk k1
    clear h1 k1 e1 hy HH HM
    go_wp2
    go_end0
    exact ⟨rfl, H1.out, K1.out⟩
  · refine (clearH _ _ _ _ _ _ _ HH.out i hi).mono ?_
    rintro e w1 ⟨rfl, h1, k1⟩
    have hy : x.tmod 7 = 4 := by simpa using ‹(x.tmod 7 == 4) = true›
    have e1 : opQ q n (x.tmod 7) i wy s m = clrQ q i 2 := by rw [hy]; rfl
    have H1 := Aside0.mk (h1.le (show c ≤ c + 20 by omega))
    rw [← e1] at H1
    have K1 := Aside0.mk k1
    clear h1 k1 e1 hy HH HM
    go_wp2
    go_end0
    exact ⟨rfl, H1.out, K1.out⟩
  · refine (downH _ _ _ _ _ _ _ HH.out hcn s hs).mono ?_
    rintro e w1 ⟨rfl, h1, k1⟩
    have y1 : x.tmod 7 ≠ 1 := by simpa using ‹(x.tmod 7 == 1) = false›
    have y2 : x.tmod 7 ≠ 2 := by simpa using ‹(x.tmod 7 == 2) = false›
    have y3 : x.tmod 7 ≠ 3 := by simpa using ‹(x.tmod 7 == 3) = false›
    have y4 : x.tmod 7 ≠ 4 := by simpa using ‹(x.tmod 7 == 4) = false›
    have e1 : opQ q n (x.tmod 7) i wy s m = downQ q s n := by unfold opQ; rw [if_neg y1, if_neg y2, if_neg y3, if_neg y4]
    have H1 := Aside0.mk (h1.le (show c + n ≤ c + 20 by omega))
    rw [← e1] at H1
    have K1 := Aside0.mk k1
    clear h1 k1 e1 y1 y2 y3 y4 HH HM
    go_wp2
    go_end0
    exact ⟨rfl, H1.out, K1.out⟩
end Go.Proofs.Ytfopcnabcmdclaa.Wk
