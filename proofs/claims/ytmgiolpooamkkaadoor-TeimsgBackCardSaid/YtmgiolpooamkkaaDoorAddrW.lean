/- Package addr by its own text: an address's octets, and what is read of them. No condition but ranges. -/
import Derived.Test.YtmgiolpooamkkaaDoorCtlW
import Derived.Test.YtmgiolpooamkkaaDoorPackTwoO
import Derived.Test.YtmgiolpooamkkaaDoorTeimsgOnlyO
import Derived.BigRegion
import Derived.Deep.RegionLaw
import Derived.Deep.RegionHeld3
namespace Go.Proofs.YtmgiolpooamkkaaDoor.Fw
open Go Go.RowKit Go.Proofs.YtmgiolpooamkkaaDoorW.PrintWords Go.Proofs.YtmgiolpooamkkaaDoorW.PrintLast Go.Proofs.YtmgiolpooamkkaaDoorW.PrintMore Go.Proofs.YtmgiolpooamkkaaDoor.Str Go.Proofs.YtmgiolpooamkkaaDoor.Field Go.Proofs.YtmgiolpooamkkaaDoor.Only
set_option linter.unusedVariables false
theorem pair_row (w : World) (b : Nat) (l : List S58) (hl : l.length ≤ 1000) (h : ∀ (j : Nat) (p : S58), l[j]? = some p → w.cell? ⟨b, j * 2, none⟩ = some (.int .i64 p.f0) ∧ w.cell? ⟨b, j * 2 + 1, none⟩ = some (.int .i64 p.f1)) : Kd.C k58 w (some ⟨b, 0, none⟩) l.length l := by
  refine ⟨rfl, by omega, fun _ => ⟨_, rfl, fun j p hj => ⟨[.int .i64 p.f0, .int .i64 p.f1], rfl, ⟨_, _, rfl, rfl, rfl⟩, fun i u hu => ?_⟩⟩⟩
  obtain ⟨h1, h2⟩ := h j p hj
  have e : ∀ n, (⟨b, 0, none⟩ : Addr).add n = ⟨b, n, none⟩ := fun n => by rw [add_plain]
  show w.cell? ((⟨b, 0, none⟩ : Addr).add (j * 2 + i)) = some u
  rw [e]
  match i with
  | 0 => simp at hu; subst hu; exact h1
  | 1 => simp at hu; subst hu; exact h2
  | i + 2 => simp at hu
theorem pack3 (c s : Int) (hc : 0 ≤ c ∧ c ≤ 1) (hs : 0 ≤ s ∧ s < 64) (b : Nat) (w : World) (T : TypeId) (fr : Nat × Nat) (hb : w.heap[b]? = some (.cells #[.int .i64 1, .int .i64 0, .int .i64 1, .int .i64 c, .int .i64 6, .int .i64 s] T fr)) :
    Calls Tryd.prog 23 #[.slice (some ⟨b, 0, none⟩) 3 3] w fun e w' => e = .returned (.tuple #[.int .u8 (4 * s + 2 * c), .int .i64 0]) ∧ Below w.heap.size w w' := by
  refine bits_Pack.calls 10 (some ⟨b, 0, none⟩) 3 [(⟨1, 0⟩ : S58), (⟨1, c⟩ : S58), (⟨6, s⟩ : S58)] _ _ w (pair_row w b _ (by simp) ?_) (by simp) (by rw [Go.Proofs.YtmgiolpooamkkaaDoor.PackO.pack_three 10 (by decide) c s hc, if_pos hs])
  intro j p hj
  rw [Lib.cell_of_heap hb, Lib.cell_of_heap hb]
  match j with
  | 0 => simp at hj; subst hj; exact ⟨rfl, rfl⟩
  | 1 => simp at hj; subst hj; exact ⟨rfl, rfl⟩
  | 2 => simp at hj; subst hj; exact ⟨rfl, rfl⟩
  | j + 3 => simp at hj
theorem pack2 (c t : Int) (hc : 0 ≤ c ∧ c ≤ 1) (ht : 0 ≤ t ∧ t < 128) (b : Nat) (w : World) (T : TypeId) (fr : Nat × Nat) (hb : w.heap[b]? = some (.cells #[.int .i64 1, .int .i64 c, .int .i64 7, .int .i64 t] T fr)) :
    Calls Tryd.prog 23 #[.slice (some ⟨b, 0, none⟩) 2 2] w fun e w' => e = .returned (.tuple #[.int .u8 (2 * t + c), .int .i64 0]) ∧ Below w.heap.size w w' := by
  refine bits_Pack.calls 10 (some ⟨b, 0, none⟩) 2 [(⟨1, c⟩ : S58), (⟨7, t⟩ : S58)] _ _ w (pair_row w b _ (by simp) ?_) (by simp) (by rw [Go.Proofs.YtmgiolpooamkkaaDoor.PackO.pack_two 10 (by decide) c t hc, if_pos ht])
  intro j p hj
  rw [Lib.cell_of_heap hb, Lib.cell_of_heap hb]
  match j with
  | 0 => simp at hj; subst hj; exact ⟨rfl, rfl⟩
  | 1 => simp at hj; subst hj; exact ⟨rfl, rfl⟩
  | j + 2 => simp at hj
theorem fieldW (x : Int) (l c : Nat) (w : World) (h0 : 0 ≤ x) (h1 : x ≤ 255) (hl : l < 8) (hc : 1 ≤ c) (hc8 : c ≤ 8) :
    Calls Tryd.prog 25 #[.int .u8 x, .int .i64 (l : Int), .int .i64 (c : Int)] w fun e w' => e = .returned (.int .i64 (x / 2 ^ l % 2 ^ c)) ∧ Below w.heap.size w w' :=
  bits_Field.calls x l c _ w (Go.Proofs.YtmgiolpooamkkaaDoor.TeiO.field_at x h0 h1 l c hl hc hc8)
set_option maxHeartbeats 4000000 in
set_option maxRecDepth 100000 in
theorem aputW (s t : Int) (cr : Bool) (w : World) (hs : 0 ≤ s ∧ s < 64) (ht : 0 ≤ t ∧ t < 128) :
    Calls Tryd.prog 28 #[.agg #[.int .i64 s, .int .i64 t, .bool cr]] w fun e w' => e = .returned (.tuple #[.string (strOfNums [4 * s + 2 * (if cr = true then 1 else 0), 2 * t + 1]), .int .i64 0]) ∧ Below w.heap.size w w' := by
  have hc : 0 ≤ (if cr = true then (1 : Int) else 0) ∧ (if cr = true then (1 : Int) else 0) ≤ 1 := by split <;> omega
  obtain ⟨c, hcc⟩ : ∃ c, (if cr = true then (1 : Int) else 0) = c := ⟨_, rfl⟩
  have HCC := Aside0.mk hcc
  rw [hcc] at hc ⊢
  clear hcc
  go_enter Tryd.func28, Tryd.ntmps28
  go_wp2_with fail
  have hb0 : Below w.heap.size w (w.alloc (.cells #[.int .i64 s, .int .i64 t, .bool cr] 77)) := (Below.refl _ w).alloc (Nat.le_refl _) _
  have hz0 : (w.alloc (.cells #[.int .i64 s, .int .i64 t, .bool cr] 77)).heap.size = w.heap.size + 1 := by show (w.heap.push _).size = _; simp
  have hn0 := heap_alloc_new w (.cells #[.int .i64 s, .int .i64 t, .bool cr] 77)
  generalize w.alloc (.cells #[.int .i64 s, .int .i64 t, .bool cr] 77) = w0 at hb0 hz0 hn0 ⊢
  have HN := Aside0.mk (heap_alloc_new w0.drew (.cells #[.int .i64 1, .int .i64 0, .int .i64 1, .int .i64 c, .int .i64 6, .int .i64 s] 58))
  have HB0 := Aside0.mk hb0
  have HN0 := Aside0.mk hn0
  have x0 : w0.cell? ⟨w.heap.size, 0, none⟩ = some (.int .i64 s) := by rw [Lib.cell_of_heap hn0]; rfl
  have x1 : w0.cell? ⟨w.heap.size, 1, none⟩ = some (.int .i64 t) := by rw [Lib.cell_of_heap hn0]; rfl
  have x2 : w0.cell? ⟨w.heap.size, 2, none⟩ = some (.bool cr) := by rw [Lib.cell_of_heap hn0]; rfl
  clear hb0 hz0 hn0
  go_region_law (first | (go_simp; go_at_call 39; refine (aoneW cr _).mono ?_; rintro e w' ⟨he, rfl⟩; rw [HCC.out] at he; subst he) | (go_simp; go_at_call 23; refine (pack3 c s hc hs _ _ _ _ HN.out).mono ?_; rintro e w1 ⟨rfl, hb1⟩; have HB1 := Aside0.mk hb1; clear hb1))
  all_goals
    have B1 : Below w.heap.size w w1 := below_step (HB0.out.drew.alloc HB0.out.size _) HB1.out
    have y0 : w1.cell? ⟨w.heap.size, 1, none⟩ = some (.int .i64 t) := pw_cell_below HB1.out (pw_cell_below ((Below.refl _ w0.drew).alloc (Nat.le_refl _) _) x1)
    have HB2 := Aside0.mk B1
    have HM := Aside0.mk (heap_alloc_new w1 (.cells #[.int .i64 1, .int .i64 1, .int .i64 7, .int .i64 t] 58))
    clear B1 HB1 HN HB0 HN0 x0 x1 x2
    go_wp2_with fail
    refine (pack2 1 t (by decide) ht _ _ _ _ HM.out).mono ?_
    rintro e w2 ⟨rfl, hb2⟩
    have HB3 := Aside0.mk (below_step (HB2.out.alloc HB2.out.size _) hb2)
    have hcv := two_str w2 (4 * s + 2 * c) (2 * t + 1)
    clear hb2 HM HB2 y0
    go_wp2
    go_ret2
    exact ⟨rfl, HB3.out.alloc HB3.out.size _⟩
set_option maxHeartbeats 4000000 in
set_option maxRecDepth 100000 in
theorem agetW (s : ByteArray) (x y : Int) (w : World) (hs : 2 ≤ s.size) (hs6 : s.size ≤ 9223372036854775807) (hx : ((s[0]'(by omega)).toNat : Int) = x) (hy : ((s[1]'(by omega)).toNat : Int) = y) (hx2 : x % 2 = 0) (hy2 : y % 2 = 1) :
    Calls Tryd.prog 33 #[.string s] w fun e w' => e = .returned (.tuple #[.agg #[.int .i64 (x / 2 ^ 2 % 2 ^ 6), .int .i64 (y / 2 ^ 1 % 2 ^ 7), .bool (x / 2 ^ 1 % 2 ^ 1 == 1)], .int .i64 0]) ∧ Below w.heap.size w w' := by
  have hx3 : 0 ≤ x ∧ x ≤ 255 := by have := (s[0]'(by omega)).toNat_lt; omega
  have hy3 : 0 ≤ y ∧ y ≤ 255 := by have := (s[1]'(by omega)).toNat_lt; omega
  have a1 : Go.bits .and .u8 x 1 = 0 := by rw [low_bit x hx3.1 hx3.2]; exact hx2
  have a2 : Go.bits .and .u8 y 1 = 1 := by rw [low_bit y hy3.1 hy3.2]; exact hy2
  have f1 : ∀ v : World, Calls Tryd.prog 25 #[.int .u8 x, .int .i64 2, .int .i64 6] v fun e w' => e = .returned (.int .i64 (x / 2 ^ 2 % 2 ^ 6)) ∧ Below v.heap.size v w' := fun v => fieldW x 2 6 v hx3.1 hx3.2 (by decide) (by decide) (by decide)
  have f2 : ∀ v : World, Calls Tryd.prog 25 #[.int .u8 y, .int .i64 1, .int .i64 7] v fun e w' => e = .returned (.int .i64 (y / 2 ^ 1 % 2 ^ 7)) ∧ Below v.heap.size v w' := fun v => fieldW y 1 7 v hy3.1 hy3.2 (by decide) (by decide) (by decide)
  have f3 : ∀ v : World, Calls Tryd.prog 25 #[.int .u8 x, .int .i64 1, .int .i64 1] v fun e w' => e = .returned (.int .i64 (x / 2 ^ 1 % 2 ^ 1)) ∧ Below v.heap.size v w' := fun v => fieldW x 1 1 v hx3.1 hx3.2 (by decide) (by decide) (by decide)
  generalize x / 2 ^ 2 % 2 ^ 6 = q1 at *
  generalize y / 2 ^ 1 % 2 ^ 7 = q2 at *
  generalize x / 2 ^ 1 % 2 ^ 1 = q3 at *
  have F1 := Aside0.mk f1
  have F2 := Aside0.mk f2
  have F3 := Aside0.mk f3
  clear f1 f2 f3
  have h2 : ¬ (s.size : Int) < 2 := by omega
  have p0 : 0 < s.size := by omega
  have p1 : 1 < s.size := by omega
  have p2 : (1 : Int) < (s.size : Int) := by omega
  go_enter Tryd.func33, Tryd.ntmps33
  go_wp2_with fail
  have hb0 : Below w.heap.size w (w.alloc (.cells #[.int .i64 0, .int .i64 0, .bool false] 77)).drew := ((Below.refl _ w).alloc (Nat.le_refl _) _).drew
  have HK : Aside0 ((w.alloc (.cells #[.int .i64 0, .int .i64 0, .bool false] 77)).drew.heap[w.heap.size]? = some (.cells #[.int .i64 0, .int .i64 0, .bool false] 77 (0, 0))) := ⟨heap_alloc_new w _⟩
  have HB := Aside0.mk hb0
  clear hb0
  go_region_held3 (fun _ => True) (trivial) ((go_at_call 25; (first | with_reducible refine (F1.out _).mono ?_ | with_reducible refine (F2.out _).mono ?_ | with_reducible refine (F3.out _).mono ?_); rintro e w1 ⟨rfl, hb⟩; replace HK := Aside0.mk ((hb.block _ (Array.getElem?_eq_some_iff.1 HK.out).1).trans HK.out); replace HB := Aside0.mk (below_step HB.out hb); clear hb; have c0 : w1.cell? ⟨w.heap.size, 0, none⟩ = some (.int .i64 0) := (by rw [Lib.cell_of_heap HK.out]; rfl); have c1 : w1.cell? ⟨w.heap.size, 1, none⟩ = some (.int .i64 0) := (by rw [Lib.cell_of_heap HK.out]; rfl); have c2 : w1.cell? ⟨w.heap.size, 2, none⟩ = some (.bool false) := (by rw [Lib.cell_of_heap HK.out]; rfl); have g0 := Lib.frozen_of_heap HK.out 0; have g1 := Lib.frozen_of_heap HK.out 1; have g2 := Lib.frozen_of_heap HK.out 2))
  all_goals
    go_wp2
    refine bodyPost_ret (results_ct rfl _ _ w.heap.size 77 #[.int .i64 q1, .int .i64 q2, .bool (q3 == 1)] (0, 0) _ rfl (blk_put (cs := #[.int .i64 q1, .int .i64 q2, .bool false]) (blk_put (cs := #[.int .i64 q1, .int .i64 0, .bool false]) (blk_put (cs := #[.int .i64 0, .int .i64 0, .bool false]) HK.out 0 _ rfl) 1 _ rfl) 2 _ rfl) Tryd.underlying77 rfl (by kernel_rfl)) rfl ?_
    exact ⟨rfl, ((HB.out.setCell (p := ⟨w.heap.size, 0, none⟩) (Nat.le_refl _) _).setCell (p := ⟨w.heap.size, 1, none⟩) (Nat.le_refl _) _).setCell (p := ⟨w.heap.size, 2, none⟩) (Nat.le_refl _) _⟩
theorem results_c1 {P : Program} {fn : Func} {p : Tmp} {ty : TypeId} (h : fn.results = #[.cell p ty]) (tmps : Array Value) (w : World) (g : Nat) (t : TypeId) (cs : Array Value) (fr : Nat × Nat) (d : TypeDesc)
    (hp : tmps.getD p undef = .pointer (some ⟨g, 0, none⟩)) (hg : w.heap[g]? = some (.cells cs t fr))
    (hu : P.underlying ty = some d) (hd : (match d with | .struct _ | .array _ _ => true | _ => false) = true) (hi : (P.info? ty).map (·.size) = some cs.size) :
    (results fn tmps).run P w = .ok (.agg cs) w := by
  have hp' : tmps[p]?.getD undef = .pointer (some ⟨g, 0, none⟩) := by simpa using hp
  simp [results, h, hp', asAddr, run_loadVar_row w g t ty cs fr d hg hu hd hi]
theorem makeW (s t : Int) (c n : Bool) (w : World) :
    Calls Tryd.prog 29 #[.agg #[.int .i64 s, .int .i64 t], .bool c, .bool n] w fun e w' => e = .returned (.agg #[.int .i64 s, .int .i64 t, .bool (c == n)]) ∧ Below w.heap.size w w' := by
  have hz0 : (w.alloc (.cells #[.int .i64 s, .int .i64 t] 35)).heap.size = w.heap.size + 1 := by show (w.heap.push _).size = _; simp
  have hn := heap_alloc_new (w.alloc (.cells #[.int .i64 s, .int .i64 t] 35)) (.cells #[.int .i64 s, .int .i64 t, .bool (c == n)] 77)
  rw [hz0] at hn
  have HN := Aside0.mk hn
  clear hn hz0
  go_enter Tryd.func29, Tryd.ntmps29
  go_wp2_with fail
  refine bodyPost_ret (results_c1 rfl _ _ (w.heap.size + 1) 77 #[.int .i64 s, .int .i64 t, .bool (c == n)] (0, 0) _ rfl HN.out Tryd.underlying77 rfl (by kernel_rfl)) rfl ?_
  exact ⟨rfl, ((Below.refl _ w).alloc (Nat.le_refl _) _).alloc (by show _ ≤ (w.heap.push _).size; simp) _⟩
theorem cmdW (s t : Int) (c n : Bool) (w : World) :
    Calls Tryd.prog 35 #[.agg #[.int .i64 s, .int .i64 t, .bool c], .bool n] w fun e w' => e = .returned (.bool (c == n)) ∧ Below w.heap.size w w' := by
  go_enter Tryd.func35, Tryd.ntmps35
  go_wp2_with fail
  go_ret
  exact ⟨rfl, (Below.refl _ w).alloc (Nat.le_refl _) _⟩
end Go.Proofs.YtmgiolpooamkkaaDoor.Fw
