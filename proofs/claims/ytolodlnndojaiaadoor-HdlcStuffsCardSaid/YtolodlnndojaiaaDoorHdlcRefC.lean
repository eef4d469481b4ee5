/- The document's own decoder, first part: what the bits between two flags are. -/
import Derived.Test.YtolodlnndojaiaaDoorHdlcF
import Derived.Test.YtolodlnndojaiaaDoorOctRef
namespace Go.Proofs.YtolodlnndojaiaaDoor.Hd
open Go.RowKit Go.Proofs.YtolodlnndojaiaaDoorW.PrintWords Go.Proofs.YtolodlnndojaiaaDoorW.PrintLast Go.Proofs.YtolodlnndojaiaaDoorW.PrintMore Go.Proofs.YtolodlnndojaiaaDoor.Str Go.Proofs.YtolodlnndojaiaaDoor.Bits Go.Proofs.YtolodlnndojaiaaDoor.Oct Go.Proofs.YtolodlnndojaiaaDoor.OctW
set_option linter.unusedVariables false
/-- The bits without the zeros that were put: what is so far, the ones in a row. -/
def dsS (q : List UInt8 × Nat) (x : UInt8) : List UInt8 × Nat :=
  if x = 49 then (if q.2 + 1 ≤ 5 then (q.1 ++ [49], q.2 + 1) else (q.1, q.2 + 1)) else (if q.2 < 5 then (q.1 ++ [48], 0) else (q.1, 0))
def ds (l : List UInt8) : List UInt8 × Nat := l.foldl dsS ([], 0)
theorem ds_snoc (l : List UInt8) (x : UInt8) : ds (l ++ [x]) = dsS (ds l) x := by unfold ds; rw [List.foldl_append]; rfl
theorem ds_take (l : List UInt8) (i : Nat) (h : i < l.length) : ds (l.take (i + 1)) = dsS (ds (l.take i)) l[i] := by rw [List.take_succ_eq_append_getElem h, ds_snoc]
theorem dsS_bound (q : List UInt8 × Nat) (x : UInt8) : (dsS q x).1.length ≤ q.1.length + 1 ∧ (dsS q x).2 ≤ q.2 + 1 := by
  unfold dsS
  split
  · split <;> simp
  · split <;> simp
theorem ds_bound (l : List UInt8) : (ds l).1.length ≤ l.length ∧ (ds l).2 ≤ l.length := by
  have : ∀ i, i ≤ l.length → (ds (l.take i)).1.length ≤ i ∧ (ds (l.take i)).2 ≤ i := by
    intro i
    induction i with
    | zero => intro _; simp [ds]
    | succ i ih =>
      intro h
      have h1 := ih (by omega)
      have h2 := dsS_bound (ds (l.take i)) l[i]
      rw [ds_take l i (by omega)]
      omega
  have h := this l.length (Nat.le_refl _)
  rwa [List.take_of_length_le (Nat.le_refl _)] at h
def contentL (b : List UInt8) : List UInt8 := (ds b).1.take ((ds b).1.length - 6)
def endedS (b : List UInt8) : Option Ev := if contentL b = [] then none else if (contentL b).length > 2128 ∨ (contentL b).length % 8 ≠ 0 then some (2, []) else some (0, (octR (contentL b)).1)
theorem own_shapeK {w : World} {base : Nat} {e : TypeId} {v : Value} {l : List UInt8} (h : w.ownsRow base e 1 v l.length (cellsOf l)) : ∃ A c, v = .slice A l.length c ∧ l.length ≤ c ∧ (Kd.int .u8).C w A l.length (l.map fun b => (b.toNat : Int)) := by
  have hn : (l.map fun b => (b.toNat : Int)).length = l.length := by simp
  rw [cellsOf_nums] at h
  have h' := h
  rw [← hn] at h'
  obtain ⟨A, c, rfl, hr⟩ := own_reads h'
  rw [hn]
  refine ⟨A, c, rfl, ?_, ?_⟩
  · rcases h.2 with ⟨h1, h2⟩ | ⟨g, cap, cur, h1, _, _, h2, _⟩
    · omega
    · injection h1 with _ _ h3
      omega
  · have := Kd.C_of_reads (d := (0 : Int)) (h1 := fun _ => rfl) hr
    rwa [hn] at this
set_option maxHeartbeats 4000000 in
set_option maxRecDepth 1000000 in
theorem contentW (A : Option Addr) (c : Nat) (l : List UInt8) (w : World) (hl : l.length ≤ 70368744177664) (hr : (Kd.int .u8).C w A l.length (l.map fun b => (b.toNat : Int))) (hc : l.length ≤ c) :
    Calls Tryd.prog 37 #[.slice A l.length c] w fun e w' => ∃ u, e = .returned u ∧ w'.ownsRow w.heap.size 5 1 u (contentL l).length (cellsOf (contentL l)) ∧ Below w.heap.size w w' := by
  obtain ⟨i0, hi, hz0, hz1, hz2⟩ := info_parts infoByte
  have HR := Aside0.mk hr
  clear hr
  go_enter Tryd.func37, Tryd.ntmps37
  go_wp2
  go_loopw [3, 4, 5] (fun u o x wr => ∃ i n : Nat, i ≤ l.length ∧ n ≤ i ∧ x = .int .i64 i ∧ o = .int .i64 n ∧ Aside0 (n = (ds (l.take i)).2) ∧ Aside0 (wr.ownsRow w.heap.size 5 1 u (ds (l.take i)).1.length (cellsOf (ds (l.take i)).1)) ∧ Below w.heap.size w wr) (fun _ _ x _ => l.length - (intOf x).toNat)
  case atStart => exact ⟨0, 0, Nat.zero_le _, Nat.zero_le _, rfl, rfl, ⟨rfl⟩, ⟨World.ownsRow_nil _ _ _ _⟩, Below.refl _ _⟩
  case round =>
    obtain ⟨i, n, hi', hni, rfl, rfl, HN, HO, hB⟩ := hrel
    by_cases hlt : i < l.length
    · obtain ⟨ad, rfl, hx⟩ := Kd.at_int HR.out (i : Int) (by omega) (by omega)
      have hx2 := (hB.cell (World.block_lt_of_cell? w _ hx)).trans hx
      have hrd : rd (l.map fun b => (b.toNat : Int)) (i : Int) = (l[i].toNat : Int) := by
        unfold rd
        rw [Int.toNat_natCast, List.getD_eq_getElem?_getD, List.getElem?_map, List.getElem?_eq_getElem hlt]; rfl
      have HST := Aside0.mk (ds_take l i hlt)
      have hbd := (ds_bound (l.take i)).1
      rw [List.length_take] at hbd
      rw [hrd, Int.toNat_natCast] at hx2
      obtain ⟨x, HX⟩ : ∃ x, Aside0 (l[i] = x) := ⟨_, ⟨rfl⟩⟩
      rw [HX.out] at hx2 HST
      obtain ⟨q, HQ⟩ : ∃ q, Aside0 (ds (l.take i) = q) := ⟨_, ⟨rfl⟩⟩
      rw [HQ.out] at HN HO HST hbd
      obtain ⟨a, m⟩ := q
      obtain rfl : n = m := HN.out
      dsimp only at HO hbd
      have HB := Aside0.mk hB
      have hsz := hB.size
      clear hx hrd hB HN
      by_cases h49 : x = 49
      · subst h49
        replace hx2 : wr.cell? (ad.add i) = some (.int .u8 49) := hx2
        by_cases h5 : n + 1 ≤ 5
        · have h5' : (n : Int) + 1 ≤ 5 := by omega
          have HST2 : Aside0 (ds (l.take (i + 1)) = (a ++ [49], n + 1)) := ⟨by rw [HST.out]; unfold dsS; rw [if_pos rfl, if_pos h5]⟩
          clear h5
          go_wp2_with (at_builtin; refine wpList_append_own _ rfl _ _ 22 rfl w.heap.size 5 i0 (.int .u8 0) 1 1 Tryd.underlying22 hi hz0 hz1 hz2 rfl (by decide) _ _ _ rfl (HO.out.alloc _) ⟨wr.heap.size, 0, none⟩ 1 1 [.int .u8 49] rfl rfl ?c1 ?c2 ?c3 ?c4 ?c5 ?_)
          try (case c1 => exact cell_one_new _ _ _)
          case c2 => first | rfl | (intro u hu; simp at hu; subst hu; rfl)
          case c3 => unfold maxLen; omega
          case c4 => omega
          case c5 => simp; omega
          intro v' w1 hown' hgrow _
          have hB2 := (HB.out.alloc hsz _).grown hgrow (by simp; omega) (fun k hk => (HO.out.lt k hk).1)
          have HO2 : Aside0 (w1.ownsRow w.heap.size 5 1 v' (a ++ [49]).length (cellsOf (a ++ [49]))) := ⟨by simpa [cellsOf] using hown'⟩
          clear hown' hgrow hx2
          go_wp2
          go_roundw
          case rel => exact ⟨i + 1, n + 1, by omega, by omega, by go_num, by go_num, ⟨by rw [HST2.out]⟩, by rw [HST2.out]; exact HO2, hB2⟩
          case measure => simp [intOf]; omega
        · have h5' : ¬ ((n : Int) + 1 ≤ 5) := by omega
          have HST2 : Aside0 (ds (l.take (i + 1)) = (a, n + 1)) := ⟨by rw [HST.out]; unfold dsS; rw [if_pos rfl, if_neg h5]⟩
          clear h5
          go_wp2
          go_roundw
          case rel => exact ⟨i + 1, n + 1, by omega, by omega, by go_num, by go_num, ⟨by rw [HST2.out]⟩, by rw [HST2.out]; exact HO, HB.out⟩
          case measure => simp [intOf]; omega
      · have h49' : ¬ ((x.toNat : Int) = 49) := by
          intro h
          apply h49
          apply UInt8.toNat_inj.1
          show _ = 49
          omega
        by_cases h5 : n < 5
        · have h5' : (n : Int) < 5 := by omega
          have HST2 : Aside0 (ds (l.take (i + 1)) = (a ++ [48], 0)) := ⟨by rw [HST.out]; unfold dsS; rw [if_neg h49, if_pos h5]⟩
          clear h5 h49
          go_wp2_with (at_builtin; refine wpList_append_own _ rfl _ _ 22 rfl w.heap.size 5 i0 (.int .u8 0) 1 1 Tryd.underlying22 hi hz0 hz1 hz2 rfl (by decide) _ _ _ rfl (HO.out.alloc _) ⟨wr.heap.size, 0, none⟩ 1 1 [.int .u8 48] rfl rfl ?c1 ?c2 ?c3 ?c4 ?c5 ?_)
          try (case c1 => exact cell_one_new _ _ _)
          case c2 => first | rfl | (intro u hu; simp at hu; subst hu; rfl)
          case c3 => unfold maxLen; omega
          case c4 => omega
          case c5 => simp; omega
          intro v' w1 hown' hgrow _
          have hB2 := (HB.out.alloc hsz _).grown hgrow (by simp; omega) (fun k hk => (HO.out.lt k hk).1)
          have HO2 : Aside0 (w1.ownsRow w.heap.size 5 1 v' (a ++ [48]).length (cellsOf (a ++ [48]))) := ⟨by simpa [cellsOf] using hown'⟩
          clear hown' hgrow hx2
          go_wp2
          go_roundw
          case rel => exact ⟨i + 1, 0, by omega, by omega, by go_num, rfl, ⟨by rw [HST2.out]⟩, by rw [HST2.out]; exact HO2, hB2⟩
          case measure => simp [intOf]; omega
        · have h5' : ¬ ((n : Int) < 5) := by omega
          have HST2 : Aside0 (ds (l.take (i + 1)) = (a, 0)) := ⟨by rw [HST.out]; unfold dsS; rw [if_neg h49, if_neg h5]⟩
          clear h5 h49
          go_wp2
          go_roundw
          case rel => exact ⟨i + 1, 0, by omega, by omega, by go_num, rfl, ⟨by rw [HST2.out]⟩, by rw [HST2.out]; exact HO, HB.out⟩
          case measure => simp [intOf]; omega
    · have e : l.take i = l := List.take_of_length_le (by omega)
      rw [e] at HO
      have hbd := (ds_bound l).1
      obtain ⟨A2, c2, rfl, hc2⟩ := own_shape8 HO.out
      have HB := Aside0.mk hB
      clear hB HN
      by_cases h6 : (ds l).1.length < 6
      · have h6' : ((ds l).1.length : Int) < 6 := by omega
        have hcn : contentL l = [] := by unfold contentL; rw [show (ds l).1.length - 6 = 0 from by omega]; rfl
        have HCN := Aside0.mk hcn
        clear hcn
        go_wp2
        go_ret
        exact ⟨_, rfl, by rw [HCN.out]; exact World.ownsRow_nil _ _ _ _, HB.out⟩
      · have h6' : ¬ (((ds l).1.length : Int) < 6) := by omega
        have h7 : ((ds l).1.length : Int) - 6 ≤ (c2 : Int) := by omega
        have h8 : 0 ≤ ((ds l).1.length : Int) - 6 := by omega
        have hO2 := Aside0.mk (own_take8 HO.out ((ds l).1.length - 6) (by omega))
        go_wp2
        go_ret
        exact ⟨_, rfl, hO2.out, HB.out⟩
def evV3 (e : Ev) : Value := .agg #[.int .i64 e.1, .string ⟨e.2.toArray⟩]
set_option maxHeartbeats 4000000 in
set_option maxRecDepth 1000000 in
theorem endedW (A : Option Addr) (c : Nat) (l : List UInt8) (w : World) (hl : l.length ≤ 70368744177664) (hr : (Kd.int .u8).C w A l.length (l.map fun b => (b.toNat : Int))) (hc : l.length ≤ c) :
    Calls Tryd.prog 26 #[.slice A l.length c] w fun e w' => e = .returned (.tuple #[evV3 ((endedS l).getD (0, [])), .bool (endedS l).isSome]) ∧ Below w.heap.size w w' := by
  have hal : ∀ o : Obj, (Kd.int .u8).C (w.alloc o) A l.length (l.map fun b => (b.toNat : Int)) := fun o => Kd.C_below hr ((Below.refl _ w).alloc (Nat.le_refl _) o)
  have HR := Aside0.mk hal
  have hcl : (contentL l).length ≤ 70368744177664 := by
    unfold contentL
    rw [List.length_take]
    have := (ds_bound l).1
    omega
  clear hal
  go_enter Tryd.func26, Tryd.ntmps26
  go_wp2_with fail
  refine (contentW A c l _ hl (HR.out _) hc).mono ?_
  rintro e w1 ⟨u, rfl, hrow, hb⟩
  have hnew := Go.heap_alloc_new w (.cells #[.int .i64 0, .string ⟨#[]⟩] 59)
  have hsz : (w.alloc (.cells #[.int .i64 0, .string ⟨#[]⟩] 59)).heap.size = w.heap.size + 1 := by show (w.heap.push _).size = _; simp
  rw [← hb.block _ (by omega)] at hnew
  have hb1 : Below w.heap.size w w1 := ((Below.refl _ w).alloc (Nat.le_refl _) _).trans (hb.mono (by omega))
  have hs1 : w.heap.size + 1 ≤ w1.heap.size := by have := hb.size; omega
  have e0 : w1.cell? ⟨w.heap.size, 0, none⟩ = some (.int .i64 0) := by rw [Lib.cell_of_heap hnew]; rfl
  have e1 : w1.cell? ⟨w.heap.size, 1, none⟩ = some (.string ⟨#[]⟩) := by rw [Lib.cell_of_heap hnew]; rfl
  have ff0 := Lib.frozen_of_heap hnew 0
  have ff1 := Lib.frozen_of_heap hnew 1
  obtain ⟨A2, c2, rfl, hc2⟩ := own_shape8 hrow
  have HNEW := Aside0.mk hnew
  have HB1 := Aside0.mk hb1
  have HROW := Aside0.mk hrow
  obtain ⟨cl, HCL⟩ : ∃ cl, Aside0 (contentL l = cl) := ⟨_, ⟨rfl⟩⟩
  rw [HCL.out] at hcl HROW hc2
  have HES : Aside0 (endedS l = if cl = [] then none else if cl.length > 2128 ∨ cl.length % 8 ≠ 0 then some (2, []) else some (0, (octR cl).1)) := ⟨by unfold endedS; rw [HCL.out]⟩
  rw [HCL.out]
  clear hnew hb1 hrow hb hsz
  have hfin : ∀ k s, (((w1.setCell ⟨w.heap.size, 0, none⟩ (.int .i64 k)).setCell ⟨w.heap.size, 1, none⟩ (.string s)).heap[w.heap.size]? = some (.cells #[.int .i64 k, .string s] 59 (0, 0))) ∧ Below w.heap.size w ((w1.setCell ⟨w.heap.size, 0, none⟩ (.int .i64 k)).setCell ⟨w.heap.size, 1, none⟩ (.string s)) := fun k s =>
    ⟨heap_set2 HNEW.out _ _, (HB1.out.setCell (p := ⟨w.heap.size, 0, none⟩) (Nat.le_refl _) _).setCell (p := ⟨w.heap.size, 1, none⟩) (Nat.le_refl _) _⟩
  have HFIN := Aside0.mk hfin
  clear hfin
  by_cases h0 : cl.length = 0
  · have h0' : (cl.length : Int) = 0 := by omega
    have HE : Aside0 (endedS l = none) := ⟨by rw [HES.out, if_pos (List.eq_nil_of_length_eq_zero h0)]⟩
    clear h0
    go_wp2
    try simp only [Exit.inBlock, Exit.then]
    refine bodyPost_ret (ret_cell_tmp rfl _ _ _ _ _ _ _ rfl (HFIN.out _ _).1 Tryd.underlying59 rfl (by kernel_rfl)) rfl ?_
    rw [HE.out]
    exact ⟨rfl, (HFIN.out _ _).2⟩
  · have h0' : ¬ ((cl.length : Int) = 0) := by omega
    have hne : cl ≠ [] := by intro h; rw [h] at h0; exact h0 rfl
    by_cases hbad : cl.length > 2128 ∨ cl.length % 8 ≠ 0
    · have HE : Aside0 (endedS l = some (2, [])) := ⟨by rw [HES.out, if_neg hne, if_pos hbad]⟩
      clear h0 hne
      by_cases hb1 : 2128 < (cl.length : Int)
      · clear hbad
        go_wp2
        try simp only [Exit.inBlock, Exit.then]
        refine bodyPost_ret (ret_cell_tmp rfl _ _ _ _ _ _ _ rfl (HFIN.out _ _).1 Tryd.underlying59 rfl (by kernel_rfl)) rfl ?_
        rw [HE.out]
        exact ⟨rfl, (HFIN.out _ _).2⟩
      · have hb2 : (((cl.length : Int) % 8) != 0) = true := by simpa using (by omega : ¬ (cl.length : Int) % 8 = 0)
        clear hbad
        go_wp2
        try simp only [Exit.inBlock, Exit.then]
        refine bodyPost_ret (ret_cell_tmp rfl _ _ _ _ _ _ _ rfl (HFIN.out _ _).1 Tryd.underlying59 rfl (by kernel_rfl)) rfl ?_
        rw [HE.out]
        exact ⟨rfl, (HFIN.out _ _).2⟩
    · have HE : Aside0 (endedS l = some (0, (octR cl).1)) := ⟨by rw [HES.out, if_neg hne, if_neg hbad]⟩
      have hb1 : ¬ (2128 < (cl.length : Int)) := by omega
      have hb2 : (((cl.length : Int) % 8) != 0) = false := by simpa using (by omega : (cl.length : Int) % 8 = 0)
      have hO2 := HROW.out
      rw [cellsOf_nums] at hO2
      have hcv := own_string (P := Tryd.prog) Tryd.underlying22 Tryd.underlying5 Tryd.underlying9 hO2
      rw [nums_of] at hcv
      have hszs : (⟨cl.toArray⟩ : ByteArray).size ≤ 140737488351232 := by rw [size_L, L_mk]; omega
      have HSZ := Aside0.mk hszs
      clear hbad hO2 hszs h0 hne
      go_wp2_with fail
      refine (OctRef.walk _ _ HSZ.out).mono ?_
      rintro e w2 ⟨rfl, hb⟩
      rw [L_mk]
      have hn2 : w2.heap[w.heap.size]? = _ := (hb.block _ (by omega)).trans HNEW.out
      have g0 : w2.cell? ⟨w.heap.size, 0, none⟩ = some (.int .i64 0) := by rw [Lib.cell_of_heap hn2]; rfl
      have g1 : w2.cell? ⟨w.heap.size, 1, none⟩ = some (.string ⟨#[]⟩) := by rw [Lib.cell_of_heap hn2]; rfl
      have gf0 := Lib.frozen_of_heap hn2 0
      have gf1 := Lib.frozen_of_heap hn2 1
      have HN2 := Aside0.mk hn2
      have hb2 := HB1.out.trans (hb.mono (by omega))
      have HB2 := Aside0.mk hb2
      clear hn2 hb hb2 hcv e0 e1 ff0 ff1
      go_wp2
      try simp only [Exit.inBlock, Exit.then]
      refine bodyPost_ret (ret_cell_tmp rfl _ _ _ _ _ _ _ rfl (heap_set2 HN2.out _ _) Tryd.underlying59 rfl (by kernel_rfl)) rfl ?_
      rw [HE.out]
      exact ⟨rfl, (HB2.out.setCell (p := ⟨w.heap.size, 0, none⟩) (Nat.le_refl _) _).setCell (p := ⟨w.heap.size, 1, none⟩) (Nat.le_refl _) _⟩
end Go.Proofs.YtolodlnndojaiaaDoor.Hd
