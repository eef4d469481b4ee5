/- The law CtrlUnlike by its own text: it answers true. Condition: the package's tables stand as they were laid. -/
import Derived.Test.YtbailgigabdhaaaDoorCtrlU
import Derived.Test.YtbailgigabdhaaaDoorMapsN
import Derived.Deep.RegionLaw
import Derived.BigRegion
namespace Go.Proofs.YtbailgigabdhaaaDoor.Wk
open Go Go.RowKit Go.Proofs.YtbailgigabdhaaaDoorW.PrintWords Go.Proofs.YtbailgigabdhaaaDoorW.PrintLast Go.Proofs.YtbailgigabdhaaaDoorW.PrintMore Go.Proofs.YtbailgigabdhaaaDoor.Str Go.Proofs.YtbailgigabdhaaaDoor.Mp Go.Proofs.YtbailgigabdhaaaDoorX Go.Proofs.YtbailgigabdhaaaDoor.Ctl Go.Proofs.YtbailgigabdhaaaDoor.Cu
set_option linter.unusedVariables false
set_option linter.unusedSimpArgs false
theorem keyS : Maps.Keyed Tryd.prog 9 := Maps.string_keyed Tryd.underlying9
theorem keyB : Maps.Keyed Tryd.prog 5 := Maps.int_keyed Tryd.underlying5
theorem zeroB (w : World) : (zeroValue 4).run Tryd.prog w = .ok (.bool false) w := by kernel_rfl
theorem and127 (x : Int) : 0 ≤ Go.bits .and .i64 x 127 ∧ Go.bits .and .i64 x 127 < 128 := by
  have h : ∀ b : BitVec 64, (b &&& BitVec.ofInt 64 127).toNat < 128 := fun b => by
    rw [BitVec.toNat_and]
    exact Nat.lt_of_le_of_lt Nat.and_le_right (by decide)
  have := h (BitVec.ofInt 64 x)
  show 0 ≤ IntKind.i64.wrap _ ∧ IntKind.i64.wrap _ < 128
  show 0 ≤ IntKind.i64.wrap (((BitVec.ofInt 64 x) &&& (BitVec.ofInt 64 127)).toNat : Int) ∧ IntKind.i64.wrap (((BitVec.ofInt 64 x) &&& (BitVec.ofInt 64 127)).toNat : Int) < 128
  rw [Go.Proofs.YtbailgigabdhaaaDoor.Field.wraps_i64 _ (by omega) (by omega)]
  omega
/-- What the maps have behind k rounds. -/
noncomputable def fN : Nat → Lit → Option Value
  | 0 => fun _ => none
  | k + 1 => upd (fN k) (.string (L (nm k))) (some (.bool true))
noncomputable def fO (s : Int) (p : Bool) : Nat → Lit → Option Value
  | 0 => fun _ => none
  | k + 1 => upd (fO s p k) (.int .u8 (o1 s p k)) (some (.bool true))
theorem fN_none (k j : Nat) (hk : k ≤ j) (hj : j < 10) : fN k (.string (L (nm j))) = none := by
  induction k with
  | zero => rfl
  | succ k ih =>
    unfold fN
    rw [upd_other (fun e => ?_)]
    · exact ih (by omega)
    · injection e with e
      have h1 : nm j = nm k := by
        have e2 : (nm j).data = (nm k).data := by simpa [L] using e
        exact congrArg ByteArray.mk e2
      have := nm_inj j k hj (by omega) h1
      omega
theorem fO_none (s : Int) (p : Bool) (k j : Nat) (hk : k ≤ j) (hj : j < 10) : fO s p k (.int .u8 (o1 s p j)) = none := by
  induction k with
  | zero => rfl
  | succ k ih =>
    unfold fO
    rw [upd_other (fun e => ?_)]
    · exact ih (by omega)
    · injection e with _ e
      have := o1_inj s p j k hj (by omega) e
      omega
theorem oc65 : oc 3 2 true 0 = ⟨#[6, 5]⟩ := congrArg ByteArray.mk (by decide +kernel)
theorem nm4 : nm 4 = ⟨#[83, 65, 66, 77, 69]⟩ := rfl
set_option maxRecDepth 1000000 in
theorem wakesW (w : World) (hL : Laid w) : Calls Tryd.prog 12 #[] w fun e w' => e = .returned (.bool true) ∧ Below w.heap.size w w' := by
  have HL := Aside0.mk hL
  clear hL
  go_enter Tryd.func12, Tryd.ntmps12
  go_wp2_with fail
  refine (putH w HL.out 3 2 true 0 (by decide) (by decide) (by decide)).mono ?_
  rintro e w1 ⟨rfl, hb⟩
  rw [oc65]
  have HB := Aside0.mk hb
  clear hb
  go_wp2_with fail
  refine (nameH 4 (by decide) w1 (Laid_below HL.out HB.out)).mono ?_
  rintro e w2 ⟨rfl, rfl⟩
  rw [nm4]
  go_wp2
  go_ret
  exact ⟨rfl, HB.out⟩
set_option maxHeartbeats 8000000 in
set_option maxRecDepth 1000000 in
theorem unlikeW (n0 r0 : Int) (p : Bool) (w : World) (hL : Laid w) :
    Calls Tryd.prog 6 #[.int .i64 n0, .int .i64 r0, .bool p] w fun e w' => e = .returned (.bool true) ∧ Below w.heap.size w w' := by
  have HL := Aside0.mk hL
  clear hL
  have hs := and127 n0
  have hr := and127 r0
  obtain ⟨s, hse⟩ : ∃ s, Go.bits .and .i64 n0 127 = s := ⟨_, rfl⟩
  obtain ⟨r, hre⟩ : ∃ r, Go.bits .and .i64 r0 127 = r := ⟨_, rfl⟩
  rw [hse] at hs
  rw [hre] at hr
  have hmk := @run_makeMap Tryd.prog
  go_enter Tryd.func6, Tryd.ntmps6
  go_wp2_with fail
  clear hmk
  have B0 : Aside0 (Below w.heap.size w ((w.alloc (.map #[] 0)).alloc (.map #[] 0))) := ⟨((Below.refl _ w).alloc (Nat.le_refl _) _).alloc (by show _ ≤ (w.heap.push _).size; simp) _⟩
  have hz : (w.alloc (.map #[] 0)).heap.size = w.heap.size + 1 := by show (w.heap.push _).size = _; simp
  have M0 : Aside0 (MapAt Tryd.prog 9 ((w.alloc (.map #[] 0)).alloc (.map #[] 0)) w.heap.size 0 (fN 0)) := ⟨(mapAt_made _ _ w).below ((Below.refl _ _).alloc (Nat.le_refl _) _)⟩
  have O0 : Aside0 (MapAt Tryd.prog 5 ((w.alloc (.map #[] 0)).alloc (.map #[] 0)) (w.heap.size + 1) 0 (fO s p 0)) := ⟨by
    have := mapAt_made Tryd.prog 5 (w.alloc (.map #[] 0))
    rw [hz] at this
    exact this⟩
  clear hz
  go_loopw [9] (fun x wr => ∃ k : Nat, k ≤ 10 ∧ x = .int .i64 k ∧ Aside0 (MapAt Tryd.prog 9 wr w.heap.size k (fN k)) ∧ Aside0 (MapAt Tryd.prog 5 wr (w.heap.size + 1) k (fO s p k)) ∧ Aside0 (Below w.heap.size w wr)) (fun x _ => 10 - (intOf x).toNat)
  case atStart => exact ⟨0, Nat.zero_le _, rfl, M0, O0, B0⟩
  case round =>
    clear M0 O0 B0
    obtain ⟨k, hk, rfl, HM, HO, HB⟩ := hrel
    by_cases hlt : k < 10
    · go_wp2_with fail
      refine (putH wr (Laid_below HL.out HB.out) s r p k hs hr hlt).mono ?_
      rintro e w1 ⟨rfl, hb⟩
      have M1 := Aside0.mk (HM.out.below hb)
      have O1 := Aside0.mk (HO.out.below hb)
      have B1 := Aside0.mk (below_step HB.out hb)
      obtain ⟨_, l, hl, hll⟩ := oc_eq s r p k hs hr hlt
      have hsz : (strOfNums (o1 s p k :: l)).size = l.length + 1 := by simp [strOfNums, ByteArray.size]
      obtain ⟨t, ht⟩ : ∃ t, oc s r p k = t := ⟨_, rfl⟩
      have ht0 : 0 < t.size ∧ t.size ≤ 2 := by rw [← ht, hl, hsz]; omega
      have hte : ((t.size : Int) == 0) = false := by rw [beq_eq_false_iff_ne]; omega
      have hto : ((t[0]'ht0.1).toNat : Int) = o1 s p k := by
        have : ∀ (u : ByteArray) (hu : 0 < u.size), u = strOfNums (o1 s p k :: l) → ((u[0]'hu).toNat : Int) = o1 s p k := by
          intro u hu e
          subst e
          have := o1_range s hs p k hlt
          show ((UInt8.ofNat (o1 s p k).toNat).toNat : Int) = _
          rw [UInt8.toNat_ofNat']
          omega
        exact this t ht0.1 (ht.symm.trans hl)
      have hxr := o1_range s hs p k hlt
      have hon := fO_none s p k k (Nat.le_refl _) hlt
      obtain ⟨x, hx⟩ : ∃ x, o1 s p k = x := ⟨_, rfl⟩
      have HX := Aside0.mk hx
      have HON := Aside0.mk hon
      rw [hx] at hto hxr hon
      rw [ht]
      have hne : ¬ nm k = ByteArray.empty := by
        intro e
        have := (nm_size k hlt).1
        rw [e] at this
        exact absurd this (by decide)
      have hne2 : (nm k).toList.isEmpty = false := (by decide +kernel : ∀ k : Fin 10, (nm k.val).toList.isEmpty = false) ⟨k, hlt⟩
      clear hb HM HO HB hx hl hsz ht
      go_wp2_with fail
      refine (nameH k hlt w1 (Laid_below HL.out B1.out)).mono ?_
      rintro e w2 ⟨rfl, rfl⟩
      have hkn : keyOf Tryd.prog 9 (.string (nm k)) = some (.string (L (nm k))) := WideMaps.keyOf_string_mk Tryd.underlying9 (by have := (nm_size k hlt).2; unfold maxLen; omega)
      have hlk : (Instr.lookup 44 (.map (some w.heap.size)) (.string (nm k)) false).run Tryd.prog w1 = .ok (.bool false) w1 := by
        rw [M1.out.look keyS Tryd.underlying44 (zeroB _) hkn, fN_none k k (Nat.le_refl _) hlt, Option.getD_none]
      have hko : keyOf Tryd.prog 5 (.int .u8 x) = some (.int .u8 x) := Maps.keyOf_int_mk Tryd.underlying5 (by have h1 : IntKind.u8.min = 0 := rfl; have h2 : IntKind.u8.max = 255 := rfl; simp [Lit.wf, h1, h2]; omega)
      have hlo : (Instr.lookup 45 (.map (some (w.heap.size + 1))) (.int .u8 x) false).run Tryd.prog w1 = .ok (.bool false) w1 := by
        rw [O1.out.look keyB Tryd.underlying45 (zeroB _) hko, hon, Option.getD_none]
      go_wp2_with fail
      refine (nameH k hlt w1 (Laid_below HL.out B1.out)).mono ?_
      rintro e w2 ⟨rfl, rfl⟩
      go_wp2_with fail
      have M2 : Aside0 (MapAt Tryd.prog 9 w1.drew w.heap.size k (fN k)) := ⟨M1.out.same rfl⟩
      have O2 : Aside0 (MapAt Tryd.prog 5 w1.drew (w.heap.size + 1) k (fO s p k)) := ⟨O1.out.same rfl⟩
      have NH := fun v => nameH k hlt v
      have L2 : Aside0 (Laid w1.drew) := ⟨Laid_below HL.out B1.out.drew⟩
      clear hlk hlo M1 O1
      obtain ⟨st1, wa, e1, g1, z1, f1⟩ := entry_new keyS Tryd.underlying44 zeroB M2.out (by unfold maxLen; omega) hkn (fN_none k k (Nat.le_refl _) hlt)
      obtain ⟨wb, e2, M3, g2, z2⟩ := f1 wa (.bool true) rfl
      have hnm : w.heap.size ≠ w.heap.size + 1 := by omega
      have O3 : MapAt Tryd.prog 5 wb (w.heap.size + 1) k (fO s p k) := O2.out.same ((g2.block _ (by rw [z1]; exact O2.out.lt) (fun e => hnm (Option.some.inj e).symm)).trans (g1.block _ O2.out.lt (fun e => hnm (Option.some.inj e).symm)))
      obtain ⟨st2, wc, e3, g3, z3, f3⟩ := entry_new keyB Tryd.underlying45 zeroB O3 (by unfold maxLen; omega) hko hon
      obtain ⟨wd, e4, O4, g4, z4⟩ := f3 wc (.bool true) rfl
      have M4 : MapAt Tryd.prog 9 wd w.heap.size (k + 1) (fN (k + 1)) := MapAt.same (w := wb) M3 ((g4.block _ (by rw [z3]; exact M3.lt) (fun e => hnm (Option.some.inj e))).trans (g3.block _ M3.lt (fun e => hnm (Option.some.inj e))))
      have O5 : MapAt Tryd.prog 5 wd (w.heap.size + 1) (k + 1) (fO s p (k + 1)) := by
        unfold fO
        rw [HX.out]
        exact O4
      have B4 : Below w.heap.size w wd := by
        have s1 := B1.out.size
        have b1 := B1.out.drew.grown g1 (by exact s1) (fun j e => by cases e; exact Nat.le_refl _)
        have b2 := b1.grown g2 b1.size (fun j e => by cases e; exact Nat.le_refl _)
        have b3 := b2.grown g3 b2.size (fun j e => by cases e; omega)
        exact b3.grown g4 b3.size (fun j e => by cases e; omega)
      have M5 := Aside0.mk M4
      have O6 := Aside0.mk O5
      have B5 := Aside0.mk B4
      clear M4 O5 B4 f1 f3 M3 O3 O4 z1 z2 z3 z4 g1 g2 g3 g4 M2 O2 HON hon
      go_region_law (go_simp; go_at_call 15; refine (nameH k hlt _ L2.out).mono ?_; rintro e w2 ⟨rfl, rfl⟩)
      all_goals
        go_wp2
        exact ⟨⟨k + 1, by omega, by go_num, M5, O6, B5⟩, by simp [intOf]; omega⟩
    · obtain rfl : k = 10 := by omega
      go_wp2_with fail
      refine (wakesW wr (Laid_below HL.out HB.out)).mono ?_
      rintro e w1 ⟨rfl, hb⟩
      have B1 := Aside0.mk (below_step HB.out hb)
      clear hb HM HO HB
      go_wp2
      go_ret
      exact ⟨rfl, B1.out⟩
theorem CtrlUnlike (a0 a1 : Int) (a2 : Bool) (w : World) (hL : Laid w) (h0 : (Lit.int .i64 a0).wf = true) (h1 : (Lit.int .i64 a1).wf = true) :
    Calls Tryd.prog 6 #[.int .i64 a0, .int .i64 a1, .bool a2] w fun e w' => e = .returned (.bool true) ∧ Below w.heap.size w w' :=
  unlikeW a0 a1 a2 w hL
end Go.Proofs.YtbailgigabdhaaaDoor.Wk
