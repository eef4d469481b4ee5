/- The law AddrOne by its own text: it answers true. -/
import Derived.Test.YtbppngopiackcaaAddrLaws
import Derived.Test.YtbppngopiackcaaMaps
import Derived.Test.YtbppngopiackcaaWEqStruct
import Derived.OpenShut
import Derived.Handy
import Derived.Laws.ResultCell
import Derived.Laws.Rows
import Derived.WalkKit
import Derived.BigCall
import Derived.Lib.MinMax
import Derived.Shelf.Strings.BuilderK
namespace Go.Proofs.Ytbppngopiackcaa.Wk
open Go.RowKit Go.Proofs.YtbppngopiackcaaW.PrintWords Go.Proofs.YtbppngopiackcaaW.PrintLast Go.Proofs.YtbppngopiackcaaW.PrintMore Go.Proofs.Ytbppngopiackcaa.Str Go.Proofs.Ytbppngopiackcaa.Field Go.Proofs.Ytbppngopiackcaa.Addr Go.Proofs.Ytbppngopiackcaa.Mp
set_option linter.unusedVariables false
theorem keyS : Maps.Keyed Try.prog 9 := Maps.string_keyed Try.underlying9
theorem zeroA (w : World) : (zeroValue 25).run Try.prog w = .ok (.agg #[.int .i64 0, .int .i64 0, .bool false]) w := by kernel_rfl
/-- The octets of an address that has some. -/
def putL (s t : Int) (cr : Bool) : List UInt8 := L (putA s t cr).1
theorem put_ok (s t : Int) (cr : Bool) (h : 0 ≤ s ∧ s < 64 ∧ 0 ≤ t ∧ t < 128) : putA s t cr = (strOfNums [4 * s + 2 * num cr, 2 * t + 1], 0) := by
  unfold putA
  rw [if_pos (show okA s t from ⟨⟨h.1, h.2.1⟩, h.2.2⟩)]
theorem putL_eq (s t : Int) (cr : Bool) (h : 0 ≤ s ∧ s < 64 ∧ 0 ≤ t ∧ t < 128) : putL s t cr = [UInt8.ofNat (4 * s + 2 * num cr).toNat, UInt8.ofNat (2 * t + 1).toNat] := by
  unfold putL
  rw [put_ok s t cr h]; rfl
theorem putL_inj (s t s' t' : Int) (cr cr' : Bool) (h : 0 ≤ s ∧ s < 64 ∧ 0 ≤ t ∧ t < 128) (h' : 0 ≤ s' ∧ s' < 64 ∧ 0 ≤ t' ∧ t' < 128) (e : putL s t cr = putL s' t' cr') : s = s' ∧ t = t' ∧ cr = cr' := by
  rw [putL_eq s t cr h, putL_eq s' t' cr' h'] at e
  simp only [List.cons.injEq, and_true] at e
  obtain ⟨e1, e2⟩ := e
  have f1 := congrArg UInt8.toNat e1
  have f2 := congrArg UInt8.toNat e2
  have r1 := num_range cr
  have r2 := num_range cr'
  rw [UInt8.toNat_ofNat', UInt8.toNat_ofNat'] at f1 f2
  have : num cr = num cr' ∧ s = s' ∧ t = t' := by omega
  refine ⟨this.2.1, this.2.2, ?_⟩
  have h3 := this.1
  cases cr <;> cases cr' <;> simp [num] at h3 ⊢
/-- What the map has: addresses under their own octets. -/
def Own (f : Lit → Option Value) : Prop := ∀ kl v, f kl = some v → ∃ s t cr, kl = .string (putL s t cr) ∧ v = .agg #[.int .i64 s, .int .i64 t, .bool cr] ∧ 0 ≤ s ∧ s < 64 ∧ 0 ≤ t ∧ t < 128
theorem own_none : Own (fun _ => none) := fun _ _ h => by cases h
theorem own_upd (f : Lit → Option Value) (h : Own f) (s t : Int) (cr : Bool) (h0 : 0 ≤ s ∧ s < 64 ∧ 0 ≤ t ∧ t < 128) : Own (upd f (.string (putL s t cr)) (some (.agg #[.int .i64 s, .int .i64 t, .bool cr]))) := by
  intro kl v hv
  by_cases e : kl = .string (putL s t cr)
  · subst e
    rw [upd_same] at hv
    exact ⟨s, t, cr, rfl, (Option.some.inj hv).symm, h0⟩
  · rw [upd_other e] at hv
    exact h kl v hv
theorem own_at (f : Lit → Option Value) (h : Own f) (s t : Int) (cr : Bool) (h0 : 0 ≤ s ∧ s < 64 ∧ 0 ≤ t ∧ t < 128) : f (.string (putL s t cr)) = none ∨ f (.string (putL s t cr)) = some (.agg #[.int .i64 s, .int .i64 t, .bool cr]) := by
  cases hf : f (.string (putL s t cr)) with
  | none => exact Or.inl rfl
  | some v =>
    obtain ⟨s', t', cr', e1, rfl, h1⟩ := h _ _ hf
    injection e1 with e1
    obtain ⟨rfl, rfl, rfl⟩ := putL_inj s t s' t' cr cr' h0 h1 e1
    exact Or.inr rfl
theorem put_walk (s t : Int) (cr : Bool) (w : World) (h : 0 ≤ s ∧ s < 64 ∧ 0 ≤ t ∧ t < 128) :
    Calls Try.prog 16 #[.agg #[.int .i64 s, .int .i64 t, .bool cr]] w fun e w' => e = .returned (.tuple #[.string ⟨(putL s t cr).toArray⟩, .int .i64 0]) ∧ Below w.heap.size w w' := by
  have e1 : (⟨(putL s t cr).toArray⟩ : ByteArray) = strOfNums [4 * s + 2 * num cr, 2 * t + 1] := by unfold putL; rw [put_ok s t cr h]
  rw [e1]
  exact Print.addr_Put.calls 10 s t cr _ 0 w (by rw [put_eq 10 (by decide) s t cr, put_ok s t cr h])
set_option maxHeartbeats 4000000 in
set_option maxRecDepth 1000000 in
theorem oneW (A : Option Addr) (c n : Nat) (w : World) (hn : n ≤ 9223372036854775807) (hc : n ≤ c) (hr : 0 < n → ∃ x, A = some x ∧ ∀ i, i < n → ∃ u v : Int, 0 ≤ u ∧ u ≤ 255 ∧ 0 ≤ v ∧ v ≤ 255 ∧ w.cell? (x.add (i * 2)) = some (.int .u8 u) ∧ w.cell? ⟨(x.add (i * 2)).block, (x.add (i * 2)).off + 1, none⟩ = some (.int .u8 v)) :
    Calls Try.prog 6 #[.slice A n c] w fun e w' => e = .returned (.bool true) ∧ Below w.heap.size w w' := by
  have HR := Aside0.mk hr
  clear hr
  have hmk := @run_makeMap Try.prog

  go_enter Try.func6, Try.ntmps6
  go_wp2
  clear hmk
  have hmm : max (min (n : Int) 100) 0 = ((min (n : Int) 100).toNat : Int) := by omega
  have hm2 : (min (n : Int) 100).toNat ≤ 100 := by omega
  have hmn : (min (n : Int) 100).toNat ≤ n := by omega
  generalize (min (n : Int) 100).toNat = m at hmm hm2 hmn
  rw [hmm]
  clear hmm
  go_loopw [18] (fun x wr => ∃ (k : Nat) (f : Lit → Option Value), k ≤ m ∧ x = .int .i64 k ∧ Aside0 (MapAt Try.prog 9 wr w.heap.size k f) ∧ Aside0 (Own f) ∧ Aside0 (Below w.heap.size w wr)) (fun x _ => m - (intOf x).toNat)
  case atStart => exact ⟨0, _, Nat.zero_le _, rfl, ⟨mapAt_made _ _ _⟩, ⟨own_none⟩, ⟨(Below.refl _ _).alloc (Nat.le_refl _) _⟩⟩
  case round =>
    obtain ⟨k, f, hk, rfl, HM, HF, HB⟩ := hrel
    by_cases hlt : k < m
    · obtain ⟨ad, rfl, hcells⟩ := HR.out (by omega)
      obtain ⟨u, v, hu0, hu1, hv0, hv1, hx, hy⟩ := hcells k (by omega)
      have hx2 : wr.cell? (ad.add (k * 2)) = some (.int .u8 u) := (HB.out.cell (World.block_lt_of_cell? w _ hx)).trans hx
      have hy2 : wr.cell? ⟨(ad.add (k * 2)).block, (ad.add (k * 2)).off + 1, none⟩ = some (.int .u8 v) := (HB.out.cell (World.block_lt_of_cell? w _ hy)).trans hy
      clear hx hy hcells
      obtain ⟨s, hs⟩ : ∃ s, u % 64 = s := ⟨_, rfl⟩
      obtain ⟨tt, ht⟩ : ∃ t, v % 128 = t := ⟨_, rfl⟩
      have h0 : 0 ≤ s ∧ s < 64 ∧ 0 ≤ tt ∧ tt < 128 := by omega
      have ht2 : Go.bits .and .u8 v 127 = tt := (mask_u8 7 (by decide) v hv0 (by omega)).trans ht
      obtain ⟨cr, hcr⟩ : ∃ cr, ((k : Int) % 2 == 0) = cr := ⟨_, rfl⟩
      have hf := own_at f HF.out s tt cr h0
      have HU := Aside0.mk (own_upd f HF.out s tt cr h0)
      have hkey : keyOf Try.prog 9 (.string ⟨(putL s tt cr).toArray⟩) = some (.string (putL s tt cr)) := WideMaps.keyOf_string_mk Try.underlying9 (by rw [size_L, L_mk, putL_eq s tt cr h0]; simp [maxLen])
      have HKEY := Aside0.mk hkey
      have H0 := Aside0.mk h0
      have HFA := Aside0.mk hf
      clear hf hkey h0
      go_upto_region 6 with fail
      clear hs ht ht2 hcr hx2 hy2
      have hMB : MapAt Try.prog 9 ((wr.alloc (.cells #[.int .u8 u, .int .u8 v] 48)).alloc (.cells #[.int .i64 s, .int .i64 tt, .bool cr] 25)) w.heap.size k f := HM.out.below (((Below.refl _ wr).alloc (Nat.le_refl _) _).alloc (by show _ ≤ (wr.heap.push _).size; simp) _)
      have hb1 : Below w.heap.size w ((wr.alloc (.cells #[.int .u8 u, .int .u8 v] 48)).alloc (.cells #[.int .i64 s, .int .i64 tt, .bool cr] 25)) := (HB.out.alloc HB.out.size _).alloc (by have := HB.out.size; show _ ≤ (wr.heap.push _).size; simp; omega) _
      have h6 := Go.heap_alloc_new (wr.alloc (.cells #[.int .u8 u, .int .u8 v] 48)) (.cells #[.int .i64 s, .int .i64 tt, .bool cr] 25)
      have hz1 : (wr.alloc (.cells #[.int .u8 u, .int .u8 v] 48)).heap.size = wr.heap.size + 1 := by show (wr.heap.push _).size = _; simp
      rw [hz1] at h6
      obtain ⟨wq, hwq⟩ : ∃ wq, (wr.alloc (.cells #[.int .u8 u, .int .u8 v] 48)).alloc (.cells #[.int .i64 s, .int .i64 tt, .bool cr] 25) = wq := ⟨_, rfl⟩
      have hsq : wq.heap.size = wr.heap.size + 2 := by rw [← hwq]; show ((wr.heap.push _).push _).size = _; simp
      rw [hwq] at hMB hb1 h6 ⊢
      have a0 : wq.cell? ⟨wr.heap.size + 1, 0, none⟩ = some (.int .i64 s) := by rw [Lib.cell_of_heap h6]; rfl
      have a1 : wq.cell? ⟨wr.heap.size + 1, 1, none⟩ = some (.int .i64 tt) := by rw [Lib.cell_of_heap h6]; rfl
      have a2 : wq.cell? ⟨wr.heap.size + 1, 2, none⟩ = some (.bool cr) := by rw [Lib.cell_of_heap h6]; rfl
      have HMB := Aside0.mk hMB
      have HB1 := Aside0.mk hb1
      have HSQ := Aside0.mk hsq
      have H6 := Aside0.mk h6
      clear hMB hb1 hsq hz1 hwq h6
      go_wp2_with fail
      refine (put_walk s tt cr _ H0.out).mono ?_
      rintro e w4 ⟨rfl, hb⟩
      have b0 := pw_cell_below hb a0
      have b1 := pw_cell_below hb a1
      have b2 := pw_cell_below hb a2
      have HM4 := Aside0.mk (HMB.out.below hb)
      have HB4 := Aside0.mk (below_step HB1.out hb)
      have HS4 : Aside0 (wr.heap.size + 2 ≤ w4.heap.size) := ⟨by have := hb.size; rw [HSQ.out] at this; exact this⟩
      have H64 := Aside0.mk ((hb.block _ (by rw [HSQ.out]; omega)).trans H6.out)
      clear hb a0 a1 a2 HMB HB1 HSQ H6
      rcases HFA.out with hf | hf
      · go_upto_region 8 with (at_lookup; refine wp_look_ok _ rfl _ _ 47 rfl 9 25 keyS Try.underlying47 (zeroA _) w.heap.size k f rfl HM4.out _ _ rfl HKEY.out ?_)
        have hb5 : Below w4.heap.size w4 (w4.alloc (.cells #[.int .i64 0, .int .i64 0, .bool false] 25)) := (Below.refl _ _).alloc (Nat.le_refl _) _
        have d0 := pw_cell_below hb5 b0
        have d1 := pw_cell_below hb5 b1
        have d2 := pw_cell_below hb5 b2
        have HM5 := Aside0.mk (HM4.out.below hb5)
        have HB5 := Aside0.mk (below_step HB4.out hb5)
        clear b0 b1 b2 hb5 HM4 HB4 hf
        go_wp2_with (at_mapUpdate; refine wp_store _ rfl _ _ _ 47 rfl 9 25 keyS Try.underlying47 w.heap.size k f rfl HM5.out (by unfold maxLen; omega) _ _ _ rfl rfl HKEY.out ?_; intro w6 hm6 hg6 hs6)
        have HB6 := Aside0.mk (HB5.out.grown hg6 HB5.out.size (fun j hj => by cases hj; exact Nat.le_refl _))
        clear hg6 hs6
        go_wp2
        exact ⟨⟨k + 1, _, by omega, by go_num, ⟨hm6⟩, HU, HB6⟩, by simp [intOf]; omega⟩
      · go_upto_region 8 with (at_lookup; refine wp_look_ok _ rfl _ _ 47 rfl 9 25 keyS Try.underlying47 (zeroA _) w.heap.size k f rfl HM4.out _ _ rfl HKEY.out ?_)
        have hb5 : Below w4.heap.size w4 (w4.alloc (.cells #[.int .i64 s, .int .i64 tt, .bool cr] 25)) := (Below.refl _ _).alloc (Nat.le_refl _) _
        have d0 := pw_cell_below hb5 b0
        have d1 := pw_cell_below hb5 b1
        have d2 := pw_cell_below hb5 b2
        have HM5 := Aside0.mk (HM4.out.below hb5)
        have HB5 := Aside0.mk (below_step HB4.out hb5)
        clear b0 b1 b2 hb5 HM4 HB4 hf
        go_wp2_with (at_mapUpdate; refine wp_store _ rfl _ _ _ 47 rfl 9 25 keyS Try.underlying47 w.heap.size k f rfl HM5.out (by unfold maxLen; omega) _ _ _ rfl rfl HKEY.out ?_; intro w6 hm6 hg6 hs6)
        have HB6 := Aside0.mk (HB5.out.grown hg6 HB5.out.size (fun j hj => by cases hj; exact Nat.le_refl _))
        clear hg6 hs6
        go_wp2
        exact ⟨⟨k + 1, _, by omega, by go_num, ⟨hm6⟩, HU, HB6⟩, by simp [intOf]; omega⟩
    · go_wp2_with fail
      refine (Print.lapwinglaw04_wakes.calls 10 true _ (Pure.wakes_eq 10 (by decide))).mono ?_
      rintro e w5 ⟨rfl, hb⟩
      have hb6 := below_step HB.out hb
      go_wp2
      go_ret
      exact ⟨rfl, hb6⟩
end Go.Proofs.Ytbppngopiackcaa.Wk
