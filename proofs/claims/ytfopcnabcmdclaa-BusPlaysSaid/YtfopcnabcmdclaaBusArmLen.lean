/- The arms of BusPlays's switch. Written by bplays.py. -/
import Derived.Test.YtfopcnabcmdclaaBusArm0
import Derived.BigQuiet
import Derived.Deep.QuietTactic
namespace Go.Proofs.Ytfopcnabcmdclaa.Wk
open Go Go.RowKit Go.Proofs.YtfopcnabcmdclaaW.PrintWords Go.Proofs.YtfopcnabcmdclaaW.PrintLast Go.Proofs.YtfopcnabcmdclaaW.PrintMore Go.Proofs.Ytfopcnabcmdclaa.Str Go.Proofs.Ytfopcnabcmdclaa.Bits Go.Proofs.Ytfopcnabcmdclaa.Mp Go.Proofs.Ytfopcnabcmdclaa.Ra Go.Proofs.Ytfopcnabcmdclaa.Bs Go.Proofs.Ytfopcnabcmdclaa.Ac
set_option linter.unusedVariables false
set_option linter.unusedSimpArgs false
noncomputable def lp : Code := (Try.f4.body.bind (theBlock 7)).getD .skip
set_option maxHeartbeats 4000000 in
set_option maxRecDepth 1000000 in
theorem armLen (N : Act → World → Prop) (w w4 : World) (sz g1 k : Nat) (q : Bool → Int → List ByteArray) (z0 z1 z2 z3 z4 z7 z8 z9 z10 z11 z12 z14 z15 z16 z17 z18 z19 z20 z21 z22 z23 z24 z25 z26 z27 z28 z29 z30 z31 z32 z33 z34 z35 z36 z37 z38 z39 z40 z41 z42 z43 z44 z45 z46 z47 z48 z49 z50 z51 z52 z53 z54 z55 z56 z57 z58 z59 z60 z61 z62 z63 z64 z65 z66 z67 z68 z69 z70 z71 z72 z73 z74 z75 z76 z77 z78 z79 z80 z81 z82 z83 z84 z85 z86 z87 z88 z89 z90 z91 z92 z93 z94 z95 z96 z97 z98 z99 z100 z101 z102 z103 z104 z105 z106 z107 z108 z109 z110 z111 z112 z113 z114 z115 z116 z117 z118 z119 z120 z121 z122 z123 z124 z125 z126 z127 z128 z129 z130 z131 z132 z133 z134 z135 z136 z137 z138 z139 z140 z141 z142 z143 z144 z145 z146 z147 z148 z149 z150 z151 z152 z153 z154 z155 z156 z157 z158 z159 z160 z161 z162 z163 z164 z165 z166 z167 z168 z169 z170 z171 z172 z173 z174 z175 z176 z177 z178 z179 z180 z181 z182 : Value)
    (HT : Aside0 (Pair (fun k => k < w.heap.size) w4 (w.heap.size + 1) w.heap.size (6000 * (k + 1)) sz q g1 q)) (HB : Aside0 (Below w.heap.size w w4))
    (hQ : ∀ (u4 u13 u162 u163 u164 u165 u166 u167 u168 u169 u170 u171 u172 u173 u174 u175 u176 u177 u178 u179 u180 u181 : Value) (w' : World), Post w sz g1 k w' → N ⟨#[z0, z1, z2, z3, u4, .pointer (some ⟨w.heap.size + 1, 0, none⟩), .pointer (some ⟨g1, 0, none⟩), z7, z8, z9, z10, z11, z12, u13, z14, z15, z16, z17, z18, z19, z20, z21, z22, z23, z24, z25, z26, z27, z28, z29, z30, z31, z32, z33, z34, z35, z36, z37, z38, z39, z40, z41, z42, z43, z44, z45, z46, z47, z48, z49, z50, z51, z52, z53, z54, z55, z56, z57, z58, z59, z60, z61, z62, z63, z64, z65, z66, z67, z68, z69, z70, z71, z72, z73, z74, z75, z76, z77, z78, z79, z80, z81, z82, z83, z84, z85, z86, z87, z88, z89, z90, z91, z92, z93, z94, z95, z96, z97, z98, z99, z100, z101, z102, z103, z104, z105, z106, z107, z108, z109, z110, z111, z112, z113, z114, z115, z116, z117, z118, z119, z120, z121, z122, z123, z124, z125, z126, z127, z128, z129, z130, z131, z132, z133, z134, z135, z136, z137, z138, z139, z140, z141, z142, z143, z144, z145, z146, z147, z148, z149, z150, z151, z152, z153, z154, z155, z156, z157, z158, z159, z160, z161, u162, u163, u164, u165, u166, u167, u168, u169, u170, u171, u172, u173, u174, u175, u176, u177, u178, u179, u180, u181, z182], []⟩ w') :
    Code.wp Try.prog lp (QN N) ⟨#[z0, z1, z2, z3, z4, .pointer (some ⟨w.heap.size + 1, 0, none⟩), .pointer (some ⟨g1, 0, none⟩), z7, z8, z9, z10, z11, z12, .int .i64 (-1), z14, z15, z16, z17, z18, z19, z20, z21, z22, z23, z24, z25, z26, z27, z28, z29, z30, z31, z32, z33, z34, z35, z36, z37, z38, z39, z40, z41, z42, z43, z44, z45, z46, z47, z48, z49, z50, z51, z52, z53, z54, z55, z56, z57, z58, z59, z60, z61, z62, z63, z64, z65, z66, z67, z68, z69, z70, z71, z72, z73, z74, z75, z76, z77, z78, z79, z80, z81, z82, z83, z84, z85, z86, z87, z88, z89, z90, z91, z92, z93, z94, z95, z96, z97, z98, z99, z100, z101, z102, z103, z104, z105, z106, z107, z108, z109, z110, z111, z112, z113, z114, z115, z116, z117, z118, z119, z120, z121, z122, z123, z124, z125, z126, z127, z128, z129, z130, z131, z132, z133, z134, z135, z136, z137, z138, z139, z140, z141, z142, z143, z144, z145, z146, z147, z148, z149, z150, z151, z152, z153, z154, z155, z156, z157, z158, z159, z160, z161, z162, z163, z164, z165, z166, z167, z168, z169, z170, z171, z172, z173, z174, z175, z176, z177, z178, z179, z180, z181, z182], []⟩ w4 := by
  conv => arg 2; whnf
  go_wp2_with fail
  go_loopw [13] (fun v wz => ∃ (j : Nat), j ≤ 18 ∧ v = .int .i64 ((j : Int) - 1) ∧ Aside0 (Pair (fun k => k < w.heap.size) wz (w.heap.size + 1) w.heap.size (6000 * (k + 1)) sz q g1 q) ∧ Aside0 (Below w.heap.size w wz)) (fun v _ => (17 - intOf v).toNat)
  case atStart => exact ⟨0, Nat.zero_le _, rfl, HT, HB⟩
  case round =>
    clear HT HB
    obtain ⟨j, hj, rfl, HT, HB⟩ := hrel
    by_cases hlt : j < 18
    · obtain ⟨x, hx⟩ : ∃ x : Int, ((j : Int) - 1) = x := ⟨_, rfl⟩
      have hxr : x < 17 := by omega
      have hwx : wfi x := WalkArith.wf_i64 (by omega)
      obtain ⟨L1, HL1⟩ : ∃ L : Nat, Aside0 ((q true x).length = L) := ⟨_, ⟨rfl⟩⟩
      obtain ⟨L2, HL2⟩ : ∃ L : Nat, Aside0 ((q false x).length = L) := ⟨_, ⟨rfl⟩⟩
      obtain ⟨Fa, hFa, ha, _⟩ := HT.out.first
      obtain ⟨Fb, hFb, hb, _⟩ := HT.out.second
      have HA := Aside0.mk ha
      have HBB := Aside0.mk hb
      have HW := Aside0.mk hwx
      have HX := Aside0.mk hx
      have HJ := Aside0.mk hlt
      rw [hx]
      clear ha hb hFa hFb hwx hx hlt hj
      go_wp2_with fail
      refine (lenH _ _ _ _ _ _ _ HA.out true x HW.out).mono ?_
      rintro e w6 ⟨he, rfl⟩
      rw [HL1.out] at he
      subst he
      go_wp2_with fail
      refine (lenHR _ _ _ _ _ HBB.out true x).mono ?_
      rintro e w6 ⟨he, rfl⟩
      rw [HL1.out] at he
      subst he
      go_wp2_with fail
      refine (lenH _ _ _ _ _ _ _ HA.out false x HW.out).mono ?_
      rintro e w6 ⟨he, rfl⟩
      rw [HL2.out] at he
      subst he
      go_wp2_with fail
      refine (lenHR _ _ _ _ _ HBB.out false x).mono ?_
      rintro e w6 ⟨he, rfl⟩
      rw [HL2.out] at he
      subst he
      go_wp2
      have hx := HX.out
      have hlt := HJ.out
      have hwr : wrap64 (x + 1) = x + 1 := by unfold wrap64; omega
      rw [hwr]
      refine ⟨⟨j + 1, by omega, ?_, HT, HB⟩, by simp [intOf]; omega⟩
      congr 1
      omega
    · obtain rfl : j = 18 := by omega
      go_wp2_with fail
      show N _ _
      apply hQ
      exact ⟨q, HT, HB⟩
end Go.Proofs.Ytfopcnabcmdclaa.Wk
