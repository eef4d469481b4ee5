/- The arms of BusPlays's switch. Written by bplays.py. -/
import Derived.Test.YtfopcnabcmdclaaBusArm0
namespace Go.Proofs.Ytfopcnabcmdclaa.Wk
open Go Go.RowKit Go.Proofs.YtfopcnabcmdclaaW.PrintWords Go.Proofs.YtfopcnabcmdclaaW.PrintLast Go.Proofs.YtfopcnabcmdclaaW.PrintMore Go.Proofs.Ytfopcnabcmdclaa.Str Go.Proofs.Ytfopcnabcmdclaa.Bits Go.Proofs.Ytfopcnabcmdclaa.Mp Go.Proofs.Ytfopcnabcmdclaa.Ra Go.Proofs.Ytfopcnabcmdclaa.Bs Go.Proofs.Ytfopcnabcmdclaa.Ac
set_option linter.unusedVariables false
set_option linter.unusedSimpArgs false
set_option maxHeartbeats 4000000 in
set_option maxRecDepth 1000000 in
theorem armSpoil (N : Act → World → Prop) (w w4 : World) (sz g1 g k : Nat) (q : Bool → Int → List ByteArray) (x y i o : Int) (wy : Bool) (s2 : ByteArray) (A' : Option Addr) (n2 c' : Nat) (ml : List Int) (z0 z1 z2 z3 z4 z7 z9 z10 z11 z12 z13 z14 z15 z16 z17 z18 z19 z20 z21 z22 z23 z24 z25 z26 z27 z28 z29 z30 z31 z32 z33 z34 z35 z36 z37 z38 z39 z40 z41 z42 z43 z44 z45 z46 z47 z48 z49 z50 z51 z52 z53 z54 z55 z56 z58 z59 z60 z61 z62 z63 z64 z65 z66 z67 z68 z69 z70 z71 z72 z73 z74 z75 z76 z77 z78 z79 z80 z81 z82 z83 z84 z85 z86 z87 z88 z89 z90 z91 z92 z93 z94 z95 z96 z97 z98 z99 z100 z101 z102 z103 z104 z105 z106 z107 z108 z109 z110 z111 z112 z113 z114 z115 z116 z117 z118 z119 z120 z121 z122 z123 z124 z125 z126 z127 z128 z129 z130 z131 z132 z133 z134 z135 z136 z137 z138 z139 z140 z141 z142 z143 z144 z145 z146 z147 z148 z149 z150 z151 z152 z153 z154 z155 z156 z157 z158 z159 z160 z161 z162 z163 z164 z165 z166 z167 z168 z169 z170 z171 z172 z173 z174 z175 z176 z177 z178 z179 z180 z181 z182 : Value)
    (hy : y = 3 ∨ y = -3) (hk : k < 40) (hsz : 1 ≤ sz ∧ sz ≤ 16) (hwi : wfi i) (ho : -9223372036854775808 ≤ o ∧ o ≤ 9223372036854775807) (hs2 : s2.size ≤ 9223372036854775807) (hnc : n2 ≤ c')
    (HT : Aside0 (Pair (fun k => k < w.heap.size ∨ k = g) w4 (w.heap.size + 1) w.heap.size (6000 * k) sz q g1 q)) (HB : Aside0 (Below w.heap.size w w4))
    (HG : Aside0 (w4.heap[g]? = some (.cells #[.int .i64 x, .int .i64 i, .int .i64 o, .bool wy, .string s2, .slice A' n2 c'] 42 (0, 0))))
    (HC : Aside0 (∀ w', Below w.heap.size w w' → (Kd.int .i64).C w' A' n2 ml))
    (hQ : ∀ (u4 u9 u10 u11 u12 u58 u59 u60 u61 u62 u63 u64 u65 u66 u67 u68 u69 u70 u71 u72 u73 u74 u75 u76 u77 u78 u79 u80 u81 u82 u83 u84 u85 u86 u87 u88 u89 u90 u91 u92 u93 u94 u95 u96 u97 u98 u99 u100 u101 u102 u103 u104 u105 u106 u107 u108 u109 u110 u111 u112 u113 u114 u115 u116 u117 u118 u119 u120 u121 u122 u123 u124 u125 u126 u127 u128 u129 u130 u131 u132 u133 u134 u135 u136 u137 u138 u139 u140 u141 u142 u143 u144 u145 u146 u147 u148 u149 u150 u151 u152 u153 u154 u155 u156 u157 u158 u159 u160 u161 : Value) (w' : World), Post w sz g1 k w' → N ⟨#[z0, z1, z2, z3, u4, .pointer (some ⟨w.heap.size + 1, 0, none⟩), .pointer (some ⟨g1, 0, none⟩), z7, .pointer (some ⟨g, 0, none⟩), u9, u10, u11, u12, z13, z14, z15, z16, z17, z18, z19, z20, z21, z22, z23, z24, z25, z26, z27, z28, z29, z30, z31, z32, z33, z34, z35, z36, z37, z38, z39, z40, z41, z42, z43, z44, z45, z46, z47, z48, z49, z50, z51, z52, z53, z54, z55, z56, .int .i64 y, u58, u59, u60, u61, u62, u63, u64, u65, u66, u67, u68, u69, u70, u71, u72, u73, u74, u75, u76, u77, u78, u79, u80, u81, u82, u83, u84, u85, u86, u87, u88, u89, u90, u91, u92, u93, u94, u95, u96, u97, u98, u99, u100, u101, u102, u103, u104, u105, u106, u107, u108, u109, u110, u111, u112, u113, u114, u115, u116, u117, u118, u119, u120, u121, u122, u123, u124, u125, u126, u127, u128, u129, u130, u131, u132, u133, u134, u135, u136, u137, u138, u139, u140, u141, u142, u143, u144, u145, u146, u147, u148, u149, u150, u151, u152, u153, u154, u155, u156, u157, u158, u159, u160, u161, z162, z163, z164, z165, z166, z167, z168, z169, z170, z171, z172, z173, z174, z175, z176, z177, z178, z179, z180, z181, z182], []⟩ w') :
    Code.wp Try.prog sw (QN N) ⟨#[z0, z1, z2, z3, z4, .pointer (some ⟨w.heap.size + 1, 0, none⟩), .pointer (some ⟨g1, 0, none⟩), z7, .pointer (some ⟨g, 0, none⟩), z9, z10, z11, z12, z13, z14, z15, z16, z17, z18, z19, z20, z21, z22, z23, z24, z25, z26, z27, z28, z29, z30, z31, z32, z33, z34, z35, z36, z37, z38, z39, z40, z41, z42, z43, z44, z45, z46, z47, z48, z49, z50, z51, z52, z53, z54, z55, z56, .int .i64 y, z58, z59, z60, z61, z62, z63, z64, z65, z66, z67, z68, z69, z70, z71, z72, z73, z74, z75, z76, z77, z78, z79, z80, z81, z82, z83, z84, z85, z86, z87, z88, z89, z90, z91, z92, z93, z94, z95, z96, z97, z98, z99, z100, z101, z102, z103, z104, z105, z106, z107, z108, z109, z110, z111, z112, z113, z114, z115, z116, z117, z118, z119, z120, z121, z122, z123, z124, z125, z126, z127, z128, z129, z130, z131, z132, z133, z134, z135, z136, z137, z138, z139, z140, z141, z142, z143, z144, z145, z146, z147, z148, z149, z150, z151, z152, z153, z154, z155, z156, z157, z158, z159, z160, z161, z162, z163, z164, z165, z166, z167, z168, z169, z170, z171, z172, z173, z174, z175, z176, z177, z178, z179, z180, z181, z182], []⟩ w4 := by
  have hg4 := HG.out
  have c1 : w4.cell? ⟨g, 1, none⟩ = some (.int .i64 i) := by rw [Lib.cell_of_heap hg4]; rfl
  have c3 : w4.cell? ⟨g, 3, none⟩ = some (.bool wy) := by rw [Lib.cell_of_heap hg4]; rfl
  have c5 : w4.cell? ⟨g, 5, none⟩ = some (.slice A' n2 c') := by rw [Lib.cell_of_heap hg4]; rfl
  clear hg4
  conv => arg 2; whnf
  rcases hy with rfl | rfl
  all_goals
    have HC5 := HC
    obtain ⟨Fa, hFa, ha, hna⟩ := (HT.out.below ((Below.refl w4.heap.size w4).drew)).first
    have HA := Aside0.mk ha
    have HNA := Aside0.mk hna
    have HGD : Aside0 (w4.drew.heap[g]? = _) := ⟨HG.out⟩
    have HBD := Aside0.mk HB.out.drew
    obtain ⟨D, HD⟩ : ∃ D, Aside0 (decide (0 < (q wy i).length) = D) := ⟨_, ⟨rfl⟩⟩
    clear ha hna hFa HT HG HB
    go_wp2_with fail
    go_region_held3 (fun w' => w'.cell? ⟨g, 1, none⟩ = some (.int .i64 i) ∧ w'.cell? ⟨g, 3, none⟩ = some (.bool wy) ∧ w'.cell? ⟨g, 5, none⟩ = some (.slice A' n2 c')) (go_keep)
      (first | (go_at_call 17; refine (spoilH _ _ _ _ _ _ _ HA.out wy i hwi A' n2 c' ml (HC.out _ HBD.out) hnc).mono ?_; rintro e w5 ⟨he, h5, k5⟩; rw [HD.out] at he; subst he; obtain ⟨h5', k5'⟩ := HNA.out _ _ _ h5 k5; have hg5 := act_kept HGD.out k5'; have y1 : w5.cell? ⟨g, 1, none⟩ = some (.int .i64 i) := (by rw [Lib.cell_of_heap hg5]; rfl); have y3 : w5.cell? ⟨g, 3, none⟩ = some (.bool wy) := (by rw [Lib.cell_of_heap hg5]; rfl); have y5 : w5.cell? ⟨g, 5, none⟩ = some (.slice A' n2 c') := (by rw [Lib.cell_of_heap hg5]; rfl); have B5 := Aside0.mk (bel_kept HBD.out k5'); have G5 := Aside0.mk hg5; obtain ⟨Fb, hFb, hb, hnb⟩ := h5'.second; have HA2 := Aside0.mk hb; have HNB := Aside0.mk hnb; clear hb hnb hFb h5 k5 h5' k5' hg5 HA HNA HGD HBD) | (go_at_call 18; refine (spoilHR _ _ _ _ _ HA2.out wy i A' n2 c' ml (HC.out _ B5.out) hnc).mono ?_; rintro e w6 ⟨he, h6, k6⟩; rw [HD.out] at he; subst he; obtain ⟨h6', k6'⟩ := HNB.out _ _ h6 k6; have HP := Aside0.mk h6'; have HG6 := Aside0.mk (act_kept G5.out k6'); have HB6 := Aside0.mk (bel_kept B5.out k6'); have x1 : w6.cell? ⟨g, 1, none⟩ = some (.int .i64 i) := (by rw [Lib.cell_of_heap HG6.out]; rfl); have x3 : w6.cell? ⟨g, 3, none⟩ = some (.bool wy) := (by rw [Lib.cell_of_heap HG6.out]; rfl); have x5 : w6.cell? ⟨g, 5, none⟩ = some (.slice A' n2 c') := (by rw [Lib.cell_of_heap HG6.out]; rfl); clear h6 k6 h6' k6' HNB HA2 G5 B5))
    all_goals
      clear HD
      go_wp2_with fail
      show N _ _
      apply hQ
      exact done HP.out (by omega) HB6.out
end Go.Proofs.Ytfopcnabcmdclaa.Wk
