/- The law CtrlAll by its own text: it answers true. Condition: the package's tables stand as they were laid. -/
import Derived.Test.YtbailgigabdhaaaDoorCtrlA
import Derived.Test.YtbailgigabdhaaaDoorWalkCtrlUnlike
import Derived.Lib.Builder
namespace Go.Proofs.YtbailgigabdhaaaDoor.Wk
open Go Go.RowKit Go.Maps Go.Proofs.YtbailgigabdhaaaDoorW.PrintWords Go.Proofs.YtbailgigabdhaaaDoorW.PrintLast Go.Proofs.YtbailgigabdhaaaDoorW.PrintMore Go.Proofs.YtbailgigabdhaaaDoor.Str Go.Proofs.YtbailgigabdhaaaDoor.Mp Go.Proofs.YtbailgigabdhaaaDoorX Go.Proofs.YtbailgigabdhaaaDoor.Ctl Go.Proofs.YtbailgigabdhaaaDoor.Cu
set_option linter.unusedVariables false
set_option linter.unusedSimpArgs false
theorem keyK : Maps.Keyed Tryd.prog 22 := Maps.int_keyed Tryd.underlying22
theorem zeroI (w : World) : (zeroValue 3).run Tryd.prog w = .ok (.int .i64 0) w := by kernel_rfl
theorem two_bytes (w : World) (a b : Int) : (Kd.int .u8).C (w.alloc (.cells #[.int .u8 a, .int .u8 b] 5)) (some ⟨w.heap.size, 0, none⟩) 2 [a, b] := by
  have hn := heap_alloc_new w (.cells #[.int .u8 a, .int .u8 b] 5)
  refine ⟨rfl, by decide, fun _ => ⟨_, rfl, fun j p hj => ⟨[.int .u8 p], rfl, rfl, fun i u hu => ?_⟩⟩⟩
  cases i with
  | zero =>
    simp at hu; subst hu; rw [add_plain, Lib.cell_of_heap hn]
    match j with
    | 0 => simp at hj; subst hj; rfl
    | 1 => simp at hj; subst hj; rfl
    | j + 2 => simp at hj
  | succ i => simp at hu
theorem two_str (w : World) (a b : Int) : (convert 48 9 (.slice (some ⟨w.heap.size, 0, none⟩) 2 2)).run Tryd.prog (w.alloc (.cells #[.int .u8 a, .int .u8 b] 5)) = .ok (.string (strOfNums [a, b])) (w.alloc (.cells #[.int .u8 a, .int .u8 b] 5)) :=
  Kd.C_string Tryd.underlying48 Tryd.underlying5 Tryd.underlying9 (two_bytes w a b)
/-- What the map of the kinds reads as in the end. -/
def endD : DataW Value := .map [(.int .i64 0, .lit (.int .i64 128)), (.int .i64 1, .lit (.int .i64 1)), (.int .i64 2, .lit (.int .i64 1)), (.int .i64 3, .lit (.int .i64 1)), (.int .i64 4, .lit (.int .i64 2)), (.int .i64 5, .lit (.int .i64 2)), (.int .i64 6, .lit (.int .i64 2)), (.int .i64 7, .lit (.int .i64 2)), (.int .i64 8, .lit (.int .i64 2)), (.int .i64 9, .lit (.int .i64 2))]
theorem C_D : C 256 = endD := C_end
theorem endD_0 : endD.atKey (.int .i64 0) (.lit (.int .i64 0)) = .lit (.int .i64 128) := by kernel_rfl
theorem endD_size : Maps.size endD = 10 := by kernel_rfl
/-- Its entries. -/
theorem endD_at (x c : Int) (h : Maps.has endD (.int .i64 x) = true) (hc : ∀ z, endD.atKey (.int .i64 x) z = .lit (.int .i64 c)) : x = 0 ∨ (c = if 0 ≤ x ∧ x ≤ 3 then 1 else 2) := by
  have hm : ∃ p ∈ ([(.int .i64 0, .lit (.int .i64 128)), (.int .i64 1, .lit (.int .i64 1)), (.int .i64 2, .lit (.int .i64 1)), (.int .i64 3, .lit (.int .i64 1)), (.int .i64 4, .lit (.int .i64 2)), (.int .i64 5, .lit (.int .i64 2)), (.int .i64 6, .lit (.int .i64 2)), (.int .i64 7, .lit (.int .i64 2)), (.int .i64 8, .lit (.int .i64 2)), (.int .i64 9, .lit (.int .i64 2))] : List (Lit × DataW Value)), p.1 = .int .i64 x := by
    obtain ⟨p, hp, e⟩ := List.any_eq_true.1 h
    exact ⟨p, hp, WideAt.sameKey_eq e⟩
  obtain ⟨p, hp, e⟩ := hm
  have hz := hc (.lit (.int .i64 0))
  simp only [List.mem_cons, List.not_mem_nil, or_false] at hp
  rcases hp with rfl | rfl | rfl | rfl | rfl | rfl | rfl | rfl | rfl | rfl <;> injection e with _ e <;> subst e
  · exact Or.inl rfl
  all_goals refine Or.inr ?_
  · rw [show endD.atKey (.int .i64 1) (.lit (.int .i64 0)) = .lit (.int .i64 1) from by kernel_rfl] at hz; injection hz with hz; injection hz with _ hz; exact hz.symm
  · rw [show endD.atKey (.int .i64 2) (.lit (.int .i64 0)) = .lit (.int .i64 1) from by kernel_rfl] at hz; injection hz with hz; injection hz with _ hz; exact hz.symm
  · rw [show endD.atKey (.int .i64 3) (.lit (.int .i64 0)) = .lit (.int .i64 1) from by kernel_rfl] at hz; injection hz with hz; injection hz with _ hz; exact hz.symm
  · rw [show endD.atKey (.int .i64 4) (.lit (.int .i64 0)) = .lit (.int .i64 2) from by kernel_rfl] at hz; injection hz with hz; injection hz with _ hz; exact hz.symm
  · rw [show endD.atKey (.int .i64 5) (.lit (.int .i64 0)) = .lit (.int .i64 2) from by kernel_rfl] at hz; injection hz with hz; injection hz with _ hz; exact hz.symm
  · rw [show endD.atKey (.int .i64 6) (.lit (.int .i64 0)) = .lit (.int .i64 2) from by kernel_rfl] at hz; injection hz with hz; injection hz with _ hz; exact hz.symm
  · rw [show endD.atKey (.int .i64 7) (.lit (.int .i64 0)) = .lit (.int .i64 2) from by kernel_rfl] at hz; injection hz with hz; injection hz with _ hz; exact hz.symm
  · rw [show endD.atKey (.int .i64 8) (.lit (.int .i64 0)) = .lit (.int .i64 2) from by kernel_rfl] at hz; injection hz with hz; injection hz with _ hz; exact hz.symm
  · rw [show endD.atKey (.int .i64 9) (.lit (.int .i64 0)) = .lit (.int .i64 2) from by kernel_rfl] at hz; injection hz with hz; injection hz with _ hz; exact hz.symm
set_option maxHeartbeats 8000000 in
set_option maxRecDepth 1000000 in
theorem allW (y : Int) (s0 : ByteArray) (w : World) (hL : Laid w) (y0 : 0 ≤ y) (y1 : y ≤ 255) (hs0 : s0.size ≤ 140737488351232) :
    Calls Tryd.prog 8 #[.int .u8 y, .string s0] w fun e w' => e = .returned (.bool true) ∧ Below w.heap.size w w' := by
  have HL := Aside0.mk hL
  clear hL
  have hmk := @run_makeMap Tryd.prog
  go_enter Tryd.func8, Tryd.ntmps8
  go_wp2_with fail
  clear hmk
  have B0 : Aside0 (Below w.heap.size w (w.alloc (.map #[] 0))) := ⟨(Below.refl _ w).alloc (Nat.le_refl _) _⟩
  have M0 : Aside0 ((w.alloc (.map #[] 0)).ownsMap Tryd.prog 22 (plainElem Tryd.prog 3) w.heap.size 0 (C 0)) := ⟨World.ownsMap_made _ _ _ _⟩
  go_loopw [17] (fun x wr => ∃ k : Nat, k ≤ 256 ∧ x = .int .i64 k ∧ Aside0 (wr.ownsMap Tryd.prog 22 (plainElem Tryd.prog 3) w.heap.size k (C k)) ∧ Aside0 (Below w.heap.size w wr)) (fun x _ => 256 - (intOf x).toNat)
  case atStart => exact ⟨0, Nat.zero_le _, rfl, M0, B0⟩
  case round =>
    clear M0 B0
    obtain ⟨k, hk, rfl, HM, HB⟩ := hrel
    by_cases hlt : k < 256
    · have hk8 : (k : Int) % 256 = k := by omega
      obtain ⟨s, hs⟩ : ∃ s, strOfNums [(k : Int), y] ++ s0 = s := ⟨_, rfl⟩
      have hs2 : s.size = 2 + s0.size := by rw [← hs, ByteArray.size_append]; rfl
      have hsz : 2 ≤ s.size := by omega
      have hcv := two_str wr k y
      have hb : bt s 0 = k ∧ bt s 1 = y := by rw [← hs]; exact ⟨two_0 _ _ _ (by omega) (by omega), two_1 _ _ _ y0 y1⟩
      have hcat : ¬ 9223372036854775807 < (strOfNums [(k : Int), y]).size + s0.size := by rw [nums_size]; simp; omega
      have B1 : Below w.heap.size w (wr.alloc (.cells #[.int .u8 k, .int .u8 y] 5)) := HB.out.alloc HB.out.size _
      have M1 := Aside0.mk (HM.out.alloc (.cells #[.int .u8 k, .int .u8 y] 5))
      have L1 := Aside0.mk (Laid_below HL.out B1)
      have B1 := Aside0.mk B1
      have HS := Aside0.mk hs2
      have HBT := Aside0.mk hb
      clear hb hs2 HM HB
      go_wp2_with fail
      clear hcv hcat hs
      generalize wr.alloc (.cells #[.int .u8 k, .int .u8 y] 5) = w1 at M1 L1 B1 ⊢
      by_cases hkn : kx k = -1
      · refine (Print.ctrl_Get.calls 20 s _ _ _ _ _ _ w1 L1.out (none_got k hlt s hsz HBT.out.1 hkn)).mono ?_
        rintro e w2 ⟨rfl, hb⟩
        have B2 := Aside0.mk (below_step B1.out hb)
        have M2 := Aside0.mk (M1.out.kept (grown_of_below hb none) (by simp))
        clear hb M1 B1 L1
        go_wp2_with fail
        exact ⟨⟨k + 1, by omega, by go_num, ⟨by rw [show C (k + 1) = C k from if_pos hkn]; exact (M2.out.alloc _).mono (Nat.le_succ _)⟩, ⟨B2.out.alloc B2.out.size _⟩⟩, by simp [intOf]; omega⟩
      · obtain ⟨p, a, b, n, hg, hp, hn1, hn2, hd⟩ := got k hlt y y0 y1 s hsz HBT.out.1 HBT.out.2 hkn
        have hkr := (kx_facts k hlt).1
        have hkr2 := (kx_facts k hlt).2.1
        have HC : Aside0 (C (k + 1) = (C k).put (.int .i64 (kx k)) (.lit (.int .i64 (wrap64 (cOf (C k) (kx k) + 1))))) := ⟨if_neg hkn⟩
        obtain ⟨q, hq⟩ : ∃ q, kx k = q := ⟨_, rfl⟩
        rw [hq] at hg hp hd hkr hkr2 hkn HC
        refine (Print.ctrl_Get.calls 20 s _ _ _ _ _ _ w1 L1.out hg).mono ?_
        rintro e w2 ⟨rfl, hb⟩
        have HD := Aside0.mk hd
        have hT : (strOfNums (List.take n [(k : Int), y])).size = n := by rw [nums_size, List.length_take]; simp; omega
        have hX : s.extract 0 n = strOfNums (List.take n [(k : Int), y]) := by
          refine inj ?_
          rw [L_take, L_nums]
          have h1 := HBT.out.1
          have h2 := HBT.out.2
          have hs2 := HS.out
          rw [size_L] at hs2
          rw [bt_L] at h1 h2
          match hl : L s, hs2 with
          | x0 :: x1 :: r, _ =>
            rw [hl] at h1 h2
            have e1 : UInt8.ofNat (k : Int).toNat = x0 := by
              rw [← h1]; simp [at_]
            have e2 : UInt8.ofNat y.toNat = x1 := by
              rw [← h2]; simp [at_]
            rcases (by omega : n = 1 ∨ n = 2) with rfl | rfl
            · show [x0] = [UInt8.ofNat (k : Int).toNat]
              rw [e1]
            · show [x0, x1] = [UInt8.ofNat (k : Int).toNat, UInt8.ofNat y.toNat]
              rw [e1, e2]
          | [_], h => simp at h; omega
          | [], h => simp at h; omega
        obtain ⟨T, hTT⟩ : ∃ T, strOfNums (List.take n [(k : Int), y]) = T := ⟨_, rfl⟩
        rw [hTT] at hp hT hX
        have hput := fun v hv => Print.ctrl_Put.calls 10 q p a b T 0 v hv (by rw [put_eq 10 (by decide), hp])
        have HP := Aside0.mk hput
        have hkey : keyOf Tryd.prog 22 (.int .i64 q) = some (.int .i64 q) := Maps.keyOf_int_mk Tryd.underlying22 (WalkArith.wf_i64 (by omega))
        have B2 := Aside0.mk (below_step B1.out hb)
        have L2 := Aside0.mk (Laid_below L1.out hb)
        have M3 := Aside0.mk ((M1.out.kept (grown_of_below hb none) (by simp)).alloc (.cells #[.int .i64 q, .bool p, .int .i64 a, .int .i64 b] 24))
        have H3 := Aside0.mk (heap_alloc_new w2 (.cells #[.int .i64 q, .bool p, .int .i64 a, .int .i64 b] 24))
        have B3 : Aside0 (Below w.heap.size w (w2.alloc (.cells #[.int .i64 q, .bool p, .int .i64 a, .int .i64 b] 24))) := ⟨B2.out.alloc B2.out.size _⟩
        have L3 : Aside0 (Laid (w2.alloc (.cells #[.int .i64 q, .bool p, .int .i64 a, .int .i64 b] 24))) := ⟨Laid_below L2.out ((Below.refl _ _).alloc (Nat.le_refl _) _)⟩
        have hlow : w.heap.size < w2.heap.size := Nat.lt_of_lt_of_le M1.out.lt hb.size
        have hgb := hg
        clear hb M1 B1 L1 hd hput hg hp hgb hTT
        go_wp2_with (first
          | (at_lookup; refine wpList_lookup_own_int _ rfl _ _ 47 rfl 22 3 .i64 keyK Tryd.underlying47 Tryd.underlying3 (zeroI _) w.heap.size k (C k) rfl M3.out _ _ rfl hkey ?_; intro c hat hwc)
          | (at_mapUpdate; refine wpList_mapUpdate_own _ rfl _ _ _ 47 rfl 22 3 keyK Tryd.underlying47 _ w.heap.size k _ rfl M3.out (by unfold maxLen; omega) _ _ _ rfl rfl hkey _ [] (plainElem_int Tryd.underlying3 (wrap64_wf _)) ?_; intro w4 hM4 hg4; have H4 := (hg4.block _ (Array.getElem?_eq_some_iff.1 H3.out).1 (fun e => by have := Option.some.inj e; omega)).trans H3.out; have x0 : w4.cell? ⟨w2.heap.size, 0, none⟩ = some (.int .i64 q) := (by rw [Lib.cell_of_heap H4]; rfl); have x1 : w4.cell? ⟨w2.heap.size, 1, none⟩ = some (.bool p) := (by rw [Lib.cell_of_heap H4]; rfl); have x2 : w4.cell? ⟨w2.heap.size, 2, none⟩ = some (.int .i64 a) := (by rw [Lib.cell_of_heap H4]; rfl); have x3 : w4.cell? ⟨w2.heap.size, 3, none⟩ = some (.int .i64 b) := (by rw [Lib.cell_of_heap H4]; rfl)))
        have hce : cOf (C k) q = c := by unfold cOf; rw [hat]
        have M4 : w4.ownsMap Tryd.prog 22 (plainElem Tryd.prog 3) w.heap.size (k + 1) (C (k + 1)) := by rw [HC.out, hce]; exact hM4
        have B4 := B3.out.grown hg4 B3.out.size (fun j hj => by cases hj; exact Nat.le_refl _)
        refine (HP.out w4 (Laid_below HL.out B4)).mono ?_
        rintro e w5 ⟨rfl, hb⟩
        have M5 := Aside0.mk (M4.kept (grown_of_below hb none) (by simp))
        have B5 := Aside0.mk (below_step B4 hb)
        have x0 := pw_cell_below hb x0
        have x1 := pw_cell_below hb x1
        have x2 := pw_cell_below hb x2
        have x3 := pw_cell_below hb x3
        have hns : n ≤ s.size := by omega
        clear hb B4 M4 hce hg4 hM4 H4 hat hwc HP L2 L3 B2 B3 M3 H3 hkey hlow
        go_wp2_with fail
        refine (numW q w5).mono ?_
        rintro e w6 ⟨rfl, rfl⟩
        rw [HD.out]
        go_wp2_with fail
        exact ⟨⟨k + 1, by omega, by go_num, M5, B5⟩, by simp [intOf]; omega⟩
    · obtain rfl : k = 256 := by omega
      have M1 := HM.out
      rw [C_D] at M1
      clear HM
      go_wp2_with fail
      refine (wakesW wr (Laid_below HL.out HB.out)).mono ?_
      rintro e w1 ⟨rfl, hb⟩
      have B1 := Aside0.mk (below_step HB.out hb)
      have M2 := M1.kept (grown_of_below hb none) (by simp)
      have hkey : keyOf Tryd.prog 22 (.int .i64 0) = some (.int .i64 0) := Maps.keyOf_int_mk Tryd.underlying22 (WalkArith.wf_i64 (by omega))
      obtain ⟨c, hrun, hat, _⟩ := M2.lookup_int keyK Tryd.underlying47 Tryd.underlying3 (zeroI _) hkey
      have hc : c = 128 := by
        rw [endD_0] at hat
        injection hat with hat
        injection hat with _ hat
        exact hat.symm
      subst hc
      have hlen := M2.len Tryd.underlying47 3
      rw [endD_size] at hlen
      have M3 := Aside0.mk M2
      clear hb M1 M2 HB hat hkey
      have hlt0 := M3.out.lt
      go_wp2_with (at_range; refine wpList_range_own _ rfl _ 47 rfl 22 3 keyK Tryd.underlying47 _ w.heap.size 256 _ rfl M3.out ?_; intro w2 hrg hg2 hs2)
      go_frame
      have HR0 := Aside0.mk hrg
      have B2 := Aside0.mk (B1.out.grown hg2 B1.out.size (fun j hj => by cases hj))
      generalize w1.heap.size = rb at HR0 hlt0 ⊢
      clear hrg hg2 hs2 hrun hlen M3 B1
      go_loopw [13] (fun _ wz => ∃ (left : Lit → Bool) (cnt : Nat), Aside0 (wz.ranges Tryd.prog 22 (plainElem Tryd.prog 3) w.heap.size rb 256 endD left cnt) ∧ Aside0 (∀ kl, left kl = true → Maps.has endD kl = true) ∧ Aside0 (Below w.heap.size w wz)) (fun _ wz => wz.rangeLeft w.heap.size rb)
      case atStart => exact ⟨_, _, HR0, ⟨fun kl h => h⟩, B2⟩
      case round =>
        rename_i wz
        obtain ⟨left, cnt, HR, HL2, HB3⟩ := hrel
        go_wp2_with (at_next; refine wpList_next_ranges_ii _ rfl _ rfl 22 3 .i64 .i64 keyK Tryd.underlying22 Tryd.underlying3 w.heap.size rb 256 _ _ _ rfl HR.out ?_ ?_)
        · intro _ _
          go_wp2
          go_ret
          exact ⟨rfl, HB3.out⟩
        · intro x c w3 cnt3 _ _ hlx hat hrg3 hlt3 hg3 hs3 hen
          have hxc := endD_at x c (HL2.out _ hlx) hat
          go_wp2_with fail
          refine (numW x w3).mono ?_
          rintro e w4 ⟨rfl, rfl⟩
          have HR3 := Aside0.mk hrg3
          have HB4 : Aside0 (Below w.heap.size w w3) := ⟨HB3.out.grown hg3 HB3.out.size (fun j hj => by cases hj; omega)⟩
          have HM3 : w3.rangeLeft w.heap.size rb < wr.rangeLeft w.heap.size rb := by rw [hrg3.left_eq, HR.out.left_eq]; exact hlt3
          have hfin : ∀ (P : Prop), (∃ (left : Lit → Bool) (cnt : Nat), Aside0 (w3.ranges Tryd.prog 22 (plainElem Tryd.prog 3) w.heap.size rb 256 endD left cnt) ∧ Aside0 (∀ kl, left kl = true → Maps.has endD kl = true) ∧ Aside0 (Below w.heap.size w w3)) := fun _ =>
            ⟨_, cnt3, HR3, ⟨fun kl h => HL2.out kl (by simp at h; exact h.1)⟩, HB4⟩
          have HF := Aside0.mk (hfin True)
          have HMM := Aside0.mk HM3
          clear hrg3 hg3 hs3 hen hat hlx hlt3 HR HL2 HB3 HR3 hfin HM3
          by_cases hx3 : 0 ≤ x ∧ x ≤ 3
          · rw [if_pos hx3] at hxc
            have hd : decide (0 ≤ x ∧ x ≤ 3) = true := decide_eq_true hx3
            rw [hd]
            rcases hxc with rfl | rfl
            · go_wp2_with fail
              exact ⟨HF.out, HMM.out⟩
            · by_cases h0 : x = 0
              · subst h0
                go_wp2_with fail
                exact ⟨HF.out, HMM.out⟩
              · have hx0 : (x == 0) = false := by rw [beq_eq_false_iff_ne]; exact h0
                go_wp2_with fail
                exact ⟨HF.out, HMM.out⟩
          · rw [if_neg hx3] at hxc
            have hd : decide (0 ≤ x ∧ x ≤ 3) = false := decide_eq_false hx3
            rw [hd]
            have h0 : x ≠ 0 := by omega
            have hx0 : (x == 0) = false := by rw [beq_eq_false_iff_ne]; exact h0
            have hc2 : c = 2 := by omega
            subst hc2
            go_wp2_with fail
            exact ⟨HF.out, HMM.out⟩
theorem CtrlAll (a0 : Int) (a1 : ByteArray) (w : World) (hL : Laid w) (h0 : (Lit.int .u8 a0).wf = true) (h1 : a1.size ≤ 140737488351232) :
    Calls Tryd.prog 8 #[.int .u8 a0, .string a1] w fun e w' => e = .returned (.bool true) ∧ Below w.heap.size w w' := by
  have h2 : 0 ≤ a0 ∧ a0 ≤ 255 := by have e1 : IntKind.u8.min = 0 := rfl; have e2 : IntKind.u8.max = 255 := rfl; simp [Lit.wf, e1, e2] at h0; omega
  exact allW a0 a1 w hL h2.1 h2.2 h1
end Go.Proofs.YtbailgigabdhaaaDoor.Wk
