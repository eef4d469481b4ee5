/- The acts of a script that came in: each one's fields, out of the slice's reading. No condition. Both ends of a link, in memory: a link behind acts. Conditions: the tables of package ctrl stand as they were laid. Both ends of a link in plain words: what effects come to, side by side. No program in sight; no condition. What is told, against what was taken and the words between, in plain words. No program in sight; no condition. Both ends of a link, in memory: the payloads that a side took. Conditions: sizes. A beginning of one row that another row has, in order: function in. Conditions: sizes. A link that is made, in memory: function links. Condition: the tables of package ctrl stand as they were laid. What the laws read of both ends. Condition: the tables of package ctrl stand as they were laid. -/
import Derived.Deep.SlicePairs
import Derived.OpenShut
import Derived.WalkKit
import Derived.ProofKit
import Derived.Lib.MinMax
import Derived.Test.YtljnfbpplhnmfaaGreatDoorUs13
import Derived.Test.YtljnfbpplhnmfaaGreatDoorUs15
import Derived.Test.YtljnfbpplhnmfaaGreatDoorUs26
namespace Go.Proofs.YtljnfbpplhnmfaaGreatDoor.Ta
open Go Go.ChangeShapes Go.WideShapes Go.ChangeAt Go.RowKit Go.Proofs.YtljnfbpplhnmfaaGreatDoor.Md
set_option linter.unusedVariables false
set_option maxRecDepth 100000
theorem c1i : Tryz.prog.cellsOf 3 = 1 := by kernel_rfl
theorem c2 : Tryz.prog.cellsOf 86 = 2 := by kernel_rfl
theorem act_of {H : Type} {enc : TypeId × Value → H} {W : World} {cs : List Value} {m : Nat} {e : DataW H × List MemPlace} (h : DataW.trod enc Tryz.prog W 0 (fun _ => true) true m 86 cs = some e) (hl : cs.length = 2) :
    ∃ a : Ac, cs = [.int .i64 a.act, .int .i64 a.side] := by
  obtain ⟨xs, n, _, _, _, hxl, hg⟩ := DataW.trod_struct Tryz.underlying86 h
  match xs, hxl, cs, hl with
  | [y0, y1], _, [v0, v1], _ =>
    have g0 : DataW.trod enc Tryz.prog W 0 (fun _ => true) true n 3 [v0] = some y0 := by simpa [c1i] using hg 0 _ rfl
    have g1 : DataW.trod enc Tryz.prog W 0 (fun _ => true) true n 3 [v1] = some y1 := by simpa [c1i] using hg 1 _ rfl
    obtain ⟨b0, q0, _, z0⟩ := DataW.trod_int Tryz.underlying3 g0
    obtain ⟨b1, q1, _, z1⟩ := DataW.trod_int Tryz.underlying3 g1
    simp only [List.cons.injEq, and_true] at q0 q1
    subst q0 q1
    exact ⟨⟨b0, b1⟩, rfl⟩
def Acts (W : World) (A : Option Addr) (n c : Nat) (l : List Ac) : Prop := n ≤ c ∧ c ≤ 9223372036854775807 ∧ l.length = n ∧ ∀ j a, l[j]? = some a → ∃ x, A = some x ∧ W.cell? ((x.add (j * 2)).add 0) = some (.int .i64 a.act) ∧ W.cell? ((x.add (j * 2)).add 1) = some (.int .i64 a.side)
theorem list_of {P : Nat → Ac → Prop} : ∀ (n : Nat), (∀ j, j < n → ∃ a, P j a) → ∃ l : List Ac, l.length = n ∧ ∀ j a, l[j]? = some a → P j a
  | 0, _ => ⟨[], rfl, fun j a h => by simp at h⟩
  | n + 1, h => by
    obtain ⟨l, h1, h2⟩ := list_of n (fun j hj => h j (by omega))
    obtain ⟨a, ha⟩ := h n (by omega)
    refine ⟨l ++ [a], by simp [h1], fun j b hb => ?_⟩
    rcases Nat.lt_or_ge j l.length with hj | hj
    · rw [List.getElem?_append_left hj] at hb
      exact h2 j b hb
    · rw [List.getElem?_append_right hj] at hb
      have : j - l.length = 0 := by
        have := (List.getElem?_eq_some_iff.1 hb).1
        simp at this; omega
      rw [this] at hb
      simp at hb
      subst hb
      obtain rfl : j = n := by omega
      exact ha
theorem acts_of {H : Type} {enc : TypeId × Value → H} {W : World} {a : Option Addr} {len cap : Nat} {d : DataW H} {p : List MemPlace}
    (h : DataW.Trod enc Tryz.prog W 0 (fun _ => true) true 22 (.slice a len cap) d p) : ∃ l, Acts W a len cap l := by
  obtain ⟨fuel, hf⟩ := h
  rcases Go.Deep.open_slice Tryz.underlying22 hf with ⟨hcs, _⟩ | ⟨ad, l, c, m, n, D, Pl, hcs, _, hl, hm, hmm, _, hx⟩
  · simp [Value.cells] at hcs
    obtain ⟨rfl, rfl, rfl⟩ := hcs
    exact ⟨[], Nat.le_refl _, Nat.zero_le _, rfl, fun j a h => by simp at h⟩
  · simp [Value.cells] at hcs
    obtain ⟨rfl, rfl, rfl⟩ := hcs
    have hmc : m = cap := by simpa using hmm
    unfold maxLen at hm
    obtain ⟨L, h1, h2⟩ := list_of (P := fun j a => W.cell? ((ad.add (j * 2)).add 0) = some (.int .i64 a.act) ∧ W.cell? ((ad.add (j * 2)).add 1) = some (.int .i64 a.side)) len (fun j hj => by
      obtain ⟨cs', h1, h2⟩ := hx j (by omega)
      rw [c2] at h1
      obtain ⟨_, hlen, hcell⟩ := World.cells?_some h1
      obtain ⟨act, rfl⟩ := act_of h2 hlen
      have e0 := hcell 0 (by omega)
      have e1 := hcell 1 (by omega)
      refine ⟨act, ?_, ?_⟩
      · simpa using e0
      · simpa using e1)
    exact ⟨L, hl, by omega, h1, fun j a hj => ⟨ad, rfl, h2 j a hj⟩⟩
end Go.Proofs.YtljnfbpplhnmfaaGreatDoor.Ta
namespace Go.Proofs.YtljnfbpplhnmfaaGreatDoor.Pa
open Go Go.RowKit Go.Proofs.YtljnfbpplhnmfaaGreatDoorW.PrintWords Go.Proofs.YtljnfbpplhnmfaaGreatDoorW.PrintLast Go.Proofs.YtljnfbpplhnmfaaGreatDoorW.PrintMore Go.Proofs.YtljnfbpplhnmfaaGreatDoor.Str Go.Proofs.YtljnfbpplhnmfaaGreatDoor.Mp Go.Proofs.YtljnfbpplhnmfaaGreatDoor.Ra Go.Proofs.YtljnfbpplhnmfaaGreatDoor.Sl Go.Proofs.YtljnfbpplhnmfaaGreatDoor.Qu Go.Proofs.YtljnfbpplhnmfaaGreatDoor.Ru Go.Proofs.YtljnfbpplhnmfaaGreatDoor.Md Go.Proofs.YtljnfbpplhnmfaaGreatDoor.Ta
open Go.Proofs.YtljnfbpplhnmfaaGreatDoor.En (frCells efCells efs efs_app efs_one orow entAt)
set_option linter.unusedVariables false
set_option linter.unusedSimpArgs false
set_option maxRecDepth 1000000
set_option maxHeartbeats 8000000
theorem ln0 {w : World} (hL : Fw.LaidC w) (h0 : 1 < w.heap.size) : LN (fun _ => False) w := ⟨fun i x hx => hL.2 i x hx, fun h => h, h0⟩
theorem runC (k n : Int) (A : Option Addr) (len cap : Nat) (l : List Ac) (clean : Bool) (w : World) (hL : Fw.LaidC w) (h0 : 1 < w.heap.size) (hA : Acts w A len cap l) :
    Calls Tryz.prog 8 #[.int .i64 k, .int .i64 n, .slice A len cap, .bool clean] w fun r w' => ∃ I : PI, r = .returned (.tuple #[.pointer (some ⟨I.g, 0, none⟩), .bool true]) ∧ Went (pairAt I 20000000 (runP k n l clean)) (fun _ => False) w w' := by
  have HN := Aside0.mk (ln0 hL h0)
  have hmm : max (min (len : Int) 300) 0 = ((min (len : Int) 300).toNat : Int) := by omega
  have hm2 : (min (len : Int) 300).toNat ≤ 300 := by omega
  have hmn : (min (len : Int) 300).toNat ≤ len := by omega
  have hmt : l.take 300 = l.take (min (len : Int) 300).toNat := by
    rcases Nat.lt_or_ge len 300 with h | h
    · rw [List.take_of_length_le (by rw [hA.2.2.1]; omega), List.take_of_length_le (by rw [hA.2.2.1]; omega)]
    · congr 1; omega
  obtain ⟨m, hm⟩ : ∃ m, (min (len : Int) 300).toNat = m := ⟨_, rfl⟩
  rw [hm] at hmm hm2 hmn hmt
  obtain ⟨hlc, hcm, hll, hcell⟩ := hA
  have HCE := Aside0.mk hcell
  have HLL := Aside0.mk hll
  obtain ⟨p0, HP0⟩ : ∃ q, Aside0 (askP false (begin0 k n) 0 = q) := ⟨_, ⟨rfl⟩⟩
  obtain ⟨p1, HP1⟩ : ∃ q, Aside0 ((if clean = true then Md.drain p0 else p0) = q) := ⟨_, ⟨rfl⟩⟩
  obtain ⟨d, HD⟩ : ∃ q, Aside0 ((l.take m).foldl (fun p a => doP p a clean) p1 = q) := ⟨_, ⟨rfl⟩⟩
  have HR : Aside0 (runP k n l clean = d) := ⟨by
    rw [← HD.out, ← HP1.out, ← HP0.out, ← hmt]; rfl⟩
  rw [HR.out]
  have HB := Aside0.mk (beginC k n w hL)
  clear hL h0 hcell hll hmt
  have HLM : Aside0 (m ≤ l.length) := ⟨by rw [HLL.out]; exact hmn⟩
  go_enter Tryz.func8, Tryz.ntmps8
  go_wp2_with fail
  refine HB.out.mono ?_
  rintro r w1 ⟨I, rfl, hw1⟩
  have HW1 := Aside0.mk hw1
  clear hw1 HB
  go_wp2_with fail
  refine (ask00C I 0 (begin0 k n) (by decide) _ w w1 HW1.out).mono ?_
  rintro r w2 ⟨rfl, hw2⟩
  rw [HP0.out] at hw2
  have HW2 := Aside0.mk hw2
  clear hw2 HW1
  cases clean with
  | true =>
    have HD1 : Aside0 (Calls Tryz.prog 14 #[.pointer (some ⟨I.g, 0, none⟩)] w2 fun r w' => r = .returned (.tuple #[]) ∧ Went (pairAt I (0 + 1000 + 10000000) p1) (fun _ => False) w w') := ⟨by
      rw [← HP1.out]
      exact drainC I (0 + 1000) p0 (by decide) _ w w2 HN.out HW2.out⟩
    go_wp2_with fail
    refine HD1.out.mono ?_
    rintro r w3 ⟨rfl, hw3⟩
    have HW3 : Aside0 (Went (pairAt I 11000000 p1) (fun _ => False) w w3) := ⟨growP hw3 (by decide) (by decide)⟩
    clear hw3 HW2 HD1 HP1
    go_wp2_with fail
    clear hmm hm
    go_loopw [34] (fun x wr => ∃ (j : Nat) (q : Pr), j ≤ m ∧ x = .int .i64 j ∧ Aside0 (((l.take m).drop j).foldl (fun p a => doP p a true) q = d) ∧ Aside0 (Went (pairAt I (11000000 + 2000 * j) q) (fun _ => False) w wr)) (fun x _ => m - (intOf x).toNat)
    case atStart => exact ⟨0, p1, Nat.zero_le _, rfl, HD, HW3⟩
    case round =>
      clear HW3
      obtain ⟨j, q, hj, rfl, HE, HW⟩ := hrel
      by_cases hlt : j < m
      · have hjl : j < (l.take m).length := by rw [List.length_take]; have := HLM.out; omega
        obtain ⟨a, ha⟩ : ∃ a, l[j]? = some a := ⟨_, List.getElem?_eq_getElem (by have := HLM.out; omega)⟩
        obtain ⟨x, rfl, hx0, hx1⟩ := HCE.out j a ha
        have hbw : Below w.heap.size w wr := HW.out.keeps.below (Nat.le_refl _) (fun k hk => hk.elim)
        have hk0 : wr.cell? (x.add (j * 2)) = some (.int .i64 a.act) := (hbw.cell (World.block_lt_of_cell? w _ hx0)).trans hx0
        have hk1 : wr.cell? ⟨(x.add (j * 2)).block, (x.add (j * 2)).off + 1, none⟩ = some (.int .i64 a.side) := (hbw.cell (World.block_lt_of_cell? w _ hx1)).trans hx1
        have HQ : Aside0 (((l.take m).drop (j + 1)).foldl (fun p a => doP p a true) (doP q a true) = d) := ⟨by
          have h1 := HE.out
          rw [List.drop_eq_getElem_cons hjl, List.foldl_cons] at h1
          have h2 : (l.take m)[j] = a := by
            rw [List.getElem_take]
            exact (List.getElem?_eq_some_iff.1 ha).2
          rw [h2] at h1
          exact h1⟩
        clear ha hx0 hx1 hbw HE
        obtain ⟨ax, ay⟩ := a
        have HBD : Aside0 (11000000 + 2000 * j + 2000 = 11000000 + 2000 * (j + 1) ∧ 11000000 + 2000 * j + 2000 ≤ 100000000000) := ⟨by omega⟩
        go_wp2_with fail
        refine (doC I (11000000 + 2000 * j) q ⟨ax, ay⟩ true HBD.out.2 _ w _ HN.out (HW.out.alloc _)).mono ?_
        rintro r w4 ⟨rfl, hw4⟩
        rw [HBD.out.1] at hw4
        have HW4 := Aside0.mk hw4
        clear hw4 HW hk0 hk1
        go_wp2_with fail
        exact ⟨⟨j + 1, _, by omega, by go_num, HQ, HW4⟩, by simp [intOf]; omega⟩
      · obtain rfl : j = m := by omega
        have HQ : Aside0 (Went (pairAt I 20000000 d) (fun _ => False) w wr) := ⟨by
          have h1 := HE.out
          rw [List.drop_eq_nil_of_le (by rw [List.length_take]; omega)] at h1
          have h2 : q = d := h1
          rw [← h2]
          exact growP HW.out (by omega) (by decide)⟩
        clear HE HW
        go_wp2
        go_ret2
        exact ⟨I, rfl, HQ.out⟩
  | false =>
    have HW3 : Aside0 (Went (pairAt I 11000000 p1) (fun _ => False) w w2) := ⟨by rw [← HP1.out]; exact growP HW2.out (by decide) (by decide)⟩
    clear HW2 HP1
    go_wp2_with fail
    clear hmm hm
    go_loopw [34] (fun x wr => ∃ (j : Nat) (q : Pr), j ≤ m ∧ x = .int .i64 j ∧ Aside0 (((l.take m).drop j).foldl (fun p a => doP p a false) q = d) ∧ Aside0 (Went (pairAt I (11000000 + 2000 * j) q) (fun _ => False) w wr)) (fun x _ => m - (intOf x).toNat)
    case atStart => exact ⟨0, p1, Nat.zero_le _, rfl, HD, HW3⟩
    case round =>
      clear HW3
      obtain ⟨j, q, hj, rfl, HE, HW⟩ := hrel
      by_cases hlt : j < m
      · have hjl : j < (l.take m).length := by rw [List.length_take]; have := HLM.out; omega
        obtain ⟨a, ha⟩ : ∃ a, l[j]? = some a := ⟨_, List.getElem?_eq_getElem (by have := HLM.out; omega)⟩
        obtain ⟨x, rfl, hx0, hx1⟩ := HCE.out j a ha
        have hbw : Below w.heap.size w wr := HW.out.keeps.below (Nat.le_refl _) (fun k hk => hk.elim)
        have hk0 : wr.cell? (x.add (j * 2)) = some (.int .i64 a.act) := (hbw.cell (World.block_lt_of_cell? w _ hx0)).trans hx0
        have hk1 : wr.cell? ⟨(x.add (j * 2)).block, (x.add (j * 2)).off + 1, none⟩ = some (.int .i64 a.side) := (hbw.cell (World.block_lt_of_cell? w _ hx1)).trans hx1
        have HQ : Aside0 (((l.take m).drop (j + 1)).foldl (fun p a => doP p a false) (doP q a false) = d) := ⟨by
          have h1 := HE.out
          rw [List.drop_eq_getElem_cons hjl, List.foldl_cons] at h1
          have h2 : (l.take m)[j] = a := by
            rw [List.getElem_take]
            exact (List.getElem?_eq_some_iff.1 ha).2
          rw [h2] at h1
          exact h1⟩
        clear ha hx0 hx1 hbw HE
        obtain ⟨ax, ay⟩ := a
        have HBD : Aside0 (11000000 + 2000 * j + 2000 = 11000000 + 2000 * (j + 1) ∧ 11000000 + 2000 * j + 2000 ≤ 100000000000) := ⟨by omega⟩
        go_wp2_with fail
        refine (doC I (11000000 + 2000 * j) q ⟨ax, ay⟩ false HBD.out.2 _ w _ HN.out (HW.out.alloc _)).mono ?_
        rintro r w4 ⟨rfl, hw4⟩
        rw [HBD.out.1] at hw4
        have HW4 := Aside0.mk hw4
        clear hw4 HW hk0 hk1
        go_wp2_with fail
        exact ⟨⟨j + 1, _, by omega, by go_num, HQ, HW4⟩, by simp [intOf]; omega⟩
      · obtain rfl : j = m := by omega
        have HQ : Aside0 (Went (pairAt I 20000000 d) (fun _ => False) w wr) := ⟨by
          have h1 := HE.out
          rw [List.drop_eq_nil_of_le (by rw [List.length_take]; omega)] at h1
          have h2 : q = d := h1
          rw [← h2]
          exact growP HW.out (by omega) (by decide)⟩
        clear HE HW
        go_wp2
        go_ret2
        exact ⟨I, rfl, HQ.out⟩
end Go.Proofs.YtljnfbpplhnmfaaGreatDoor.Pa
namespace Go.Proofs.YtljnfbpplhnmfaaGreatDoor.Md
set_option linter.unusedVariables false
set_option linter.unusedSimpArgs false
def swap (p : Pr) : Pr := ⟨p.b, p.a, p.errors, p.next⟩
def frsO (l : List Ef) : List Fr := (l.filter (fun x => decide (x.kind = 0))).map (·.fr)
def dtsO (l : List Ef) : List ByteArray := (l.filter (fun x => decide (x.kind = 5))).map (·.data)
def utsO (l : List Ef) : List ByteArray := (l.filter (fun x => decide (x.kind = 6))).map (·.data)
def mksO (l : List Ef) : List Ev := (l.filter (fun x => decide (1 ≤ x.kind ∧ x.kind ≤ 4))).map (fun _ => ⟨nil8, false⟩)
def upsO (l : List Ef) : Nat := (l.filter (fun x => decide (x.kind = 1 ∨ x.kind = 2))).length
def downsO (l : List Ef) : Nat := (l.filter (fun x => decide (x.kind = 3 ∨ x.kind = 4))).length
def errsO (l : List Ef) : Nat := (l.filter (fun x => decide (x.kind = 7))).length
def bec (s : Sd) (l : List Ef) : Sd := { s with taken := s.taken ++ mksO l, told := s.told ++ dtsO l, units := s.units ++ utsO l, ups := s.ups + upsO l, downs := s.downs + downsO l }
def getF (s : Sd) (l : List Fr) : Sd := { s with way := s.way ++ l }
theorem eff_a (p : Pr) (x : Ef) : eff false p x = ⟨bec p.a [x], getF p.b (frsO [x]), p.errors + errsO [x], p.next⟩ := by
  have hc : x.kind = 0 ∨ x.kind = 5 ∨ x.kind = 6 ∨ x.kind = 7 ∨ x.kind = 1 ∨ x.kind = 2 ∨ x.kind = 3 ∨ x.kind = 4 ∨ (x.kind ≠ 0 ∧ x.kind ≠ 5 ∧ x.kind ≠ 6 ∧ x.kind ≠ 7 ∧ ¬ (x.kind = 1 ∨ x.kind = 2) ∧ ¬ (x.kind = 3 ∨ x.kind = 4) ∧ ¬ (1 ≤ x.kind ∧ x.kind ≤ 4)) := by omega
  rcases hc with h | h | h | h | h | h | h | h | ⟨h0, h1, h2, h3, h4, h5, h6⟩
  all_goals first
    | (simp [eff, bec, getF, frsO, dtsO, utsO, mksO, upsO, downsO, errsO, List.filter, h, Pr.upd]; done)
    | (simp [eff, bec, getF, frsO, dtsO, utsO, mksO, upsO, downsO, errsO, List.filter, h0, h1, h2, h3, h4, h5, h6, Pr.upd])
theorem fsplit (x : Ef) (l : List Ef) : frsO (x :: l) = frsO [x] ++ frsO l ∧ dtsO (x :: l) = dtsO [x] ++ dtsO l ∧ utsO (x :: l) = utsO [x] ++ utsO l ∧ mksO (x :: l) = mksO [x] ++ mksO l ∧ upsO (x :: l) = upsO [x] + upsO l ∧ downsO (x :: l) = downsO [x] + downsO l ∧ errsO (x :: l) = errsO [x] + errsO l := by
  have hf : ∀ (q : Ef → Bool), (x :: l).filter q = [x].filter q ++ l.filter q := fun q => by rw [← List.filter_append]; rfl
  refine ⟨?_, ?_, ?_, ?_, ?_, ?_, ?_⟩ <;> simp only [frsO, dtsO, utsO, mksO, upsO, downsO, errsO, hf, List.map_append, List.length_append]
theorem effs_a (l : List Ef) : ∀ p : Pr, effs false p l = ⟨bec p.a l, getF p.b (frsO l), p.errors + errsO l, p.next⟩ := by
  induction l with
  | nil => intro p; simp [effs, bec, getF, frsO, dtsO, utsO, mksO, upsO, downsO, errsO]
  | cons x l ih =>
    intro p
    show effs false (eff false p x) l = _
    rw [ih, eff_a]
    obtain ⟨h1, h2, h3, h4, h5, h6, h7⟩ := fsplit x l
    simp only [bec, getF, h1, h2, h3, h4, h5, h6, h7, List.append_assoc, Int.natCast_add, Int.add_assoc]
theorem eff_swap (p : Pr) (x : Ef) : eff true p x = swap (eff false (swap p) x) := by
  unfold eff
  simp only [Pr.upd, Bool.not_true, Bool.not_false, Bool.false_eq_true, if_false, if_true]
  split
  · rfl
  split
  · rfl
  split
  · rfl
  split
  · rfl
  split
  · rfl
  split
  · rfl
  · rfl
theorem swap_swap (p : Pr) : swap (swap p) = p := rfl
theorem effs_swap (l : List Ef) : ∀ p : Pr, effs true p l = swap (effs false (swap p) l) := by
  induction l with
  | nil => intro p; rfl
  | cons x l ih =>
    intro p
    show effs true (eff true p x) l = swap (effs false (eff false (swap p) x) l)
    rw [ih, eff_swap, swap_swap]
def becE (s : Sd) (e : E) : Sd := bec { s with e := emptied e } e.out
theorem become_a (p : Pr) (e : E) : become false p e = ⟨becE p.a e, getF p.b (frsO e.out), p.errors + errsO e.out, p.next⟩ := by
  unfold become
  rw [effs_a]
  rfl
theorem become_swap (p : Pr) (e : E) : become true p e = swap (become false (swap p) e) := by
  unfold become
  rw [effs_swap]
  rfl
theorem askP_swap (p : Pr) (a : Int) : askP true p a = swap (askP false (swap p) a) := by
  unfold askP
  simp only [become_swap]
  rw [show (p.at true) = (swap p).at false from rfl]
  split <;> rfl
theorem sendP_swap (p : Pr) (a : Int) : sendP true p a = swap (sendP false (swap p) a) := by
  unfold sendP
  simp only [become_swap]
  rw [show (p.at true) = (swap p).at false from rfl, show (swap p).next = p.next from rfl]
  split <;> split <;> rfl
theorem comeP_swap (p : Pr) (l : Bool) : comeP true p l = swap (comeP false (swap p) l) := by
  unfold comeP
  simp only [become_swap]
  rw [show (p.at true) = (swap p).at false from rfl]
  cases h : ((swap p).at false).way with
  | nil => rfl
  | cons f t => cases l <;> rfl
theorem quiet_swap (p : Pr) : quiet (swap p) ↔ quiet p := ⟨fun h => ⟨h.2, h.1⟩, fun h => ⟨h.2, h.1⟩⟩
theorem overP_swap (p : Pr) : overP true p = swap (overP false (swap p)) := by
  unfold overP
  simp only [become_swap]
  rw [show (p.at true) = (swap p).at false from rfl]
  by_cases h : quiet p
  · rw [if_pos h, if_pos ((quiet_swap p).2 h)]
    split
    · rfl
    · split <;> rfl
  · rw [if_neg h, if_neg (fun g => h ((quiet_swap p).1 g))]
    rfl
end Go.Proofs.YtljnfbpplhnmfaaGreatDoor.Md
namespace Go.Proofs.YtljnfbpplhnmfaaGreatDoor.Md
set_option linter.unusedVariables false
theorem inL_sub : ∀ {l m : List ByteArray}, l.Sublist m → inL l m = []
  | _, _, .slnil => rfl
  | [], _ :: _, _ => rfl
  | x :: l, s :: m, h => by
    unfold inL
    split
    · rename_i e
      cases h with
      | cons _ h2 => exact inL_sub ((List.sublist_cons_self _ _).trans h2)
      | cons_cons _ h2 => exact inL_sub h2
    · rename_i e
      cases h with
      | cons _ h2 => exact inL_sub h2
      | cons_cons _ h2 => exact absurd rfl e
end Go.Proofs.YtljnfbpplhnmfaaGreatDoor.Md
namespace Go.Proofs.YtljnfbpplhnmfaaGreatDoor.Pa
end Go.Proofs.YtljnfbpplhnmfaaGreatDoor.Pa
namespace Go.Proofs.YtljnfbpplhnmfaaGreatDoor.Pa
open Go Go.RowKit Go.Proofs.YtljnfbpplhnmfaaGreatDoorW.PrintWords Go.Proofs.YtljnfbpplhnmfaaGreatDoorW.PrintLast Go.Proofs.YtljnfbpplhnmfaaGreatDoorW.PrintMore Go.Proofs.YtljnfbpplhnmfaaGreatDoor.Str Go.Proofs.YtljnfbpplhnmfaaGreatDoor.Mp Go.Proofs.YtljnfbpplhnmfaaGreatDoor.Ra Go.Proofs.YtljnfbpplhnmfaaGreatDoor.Sl Go.Proofs.YtljnfbpplhnmfaaGreatDoor.Qu Go.Proofs.YtljnfbpplhnmfaaGreatDoor.Ru Go.Proofs.YtljnfbpplhnmfaaGreatDoor.Md
set_option linter.unusedVariables false
set_option linter.unusedSimpArgs false
set_option maxRecDepth 1000000
set_option maxHeartbeats 8000000
theorem strs_get (l : List ByteArray) (k : Nat) (x : ByteArray) (h : l[k]? = some x) : (strs l)[k]? = some (.string x) := by unfold strs; rw [List.getElem?_map, h]; rfl
theorem str_at {w : World} {T : Nat → Prop} {A : Option Addr} {c : Nat} {l : List ByteArray} (h : OwnsAt w T 9 1 (.slice A l.length c) l.length (strs l)) (k : Nat) (x : ByteArray) (hx : l[k]? = some x) : ∃ g o, A = some ⟨g, o, none⟩ ∧ w.cell? ⟨g, o + k, none⟩ = some (.string x) := by
  obtain ⟨g, o, hA, h0, _⟩ := h.cell k (.string x) (strs_get l k x hx)
  exact ⟨g, o * 1, hA, h0⟩
theorem str_zero {w : World} {T : Nat → Prop} {A : Option Addr} {c n : Nat} {x : ByteArray} {l : List ByteArray} (h : OwnsAt w T 9 1 (.slice A n c) n (strs (x :: l))) (hn : n = l.length + 1) : ∃ g o, A = some ⟨g, o, none⟩ ∧ w.cell? ⟨g, o, none⟩ = some (.string x) := by
  subst hn
  exact str_at (l := x :: l) h 0 x rfl
theorem inC (v u : Value) (l m : List ByteArray) (T1 T2 : Nat → Prop) (w : World) (h1 : OwnsAt w T1 9 1 v l.length (strs l)) (h2 : OwnsAt w T2 9 1 u m.length (strs m)) (hl : l.length ≤ 100000000000) (hm : m.length ≤ 100000000000) :
    Calls Tryz.prog 11 #[v, u] w fun r w' => r = .returned (.bool (decide (inL l m = []))) ∧ w = w' := by
  obtain ⟨B, cb, rfl, _, _⟩ := h2.shape
  obtain ⟨i0, hi0, hz0, hz1, hz2⟩ := info_parts infoStr
  obtain ⟨d, HD⟩ : ∃ d, Aside0 (inL l m = d) := ⟨_, ⟨rfl⟩⟩
  rw [HD.out]
  have HA : Aside0 (OwnsAt w T1 9 1 v l.length (strs l)) := ⟨h1⟩
  have HB := Aside0.mk h2
  have HI0 := Aside0.mk hi0
  have HZ1 := Aside0.mk hz1
  obtain ⟨A, ca, rfl, _, _⟩ := h1.shape
  clear h1 h2 hi0 hz0 hz1 hz2
  go_enter Tryz.func11, Tryz.ntmps11
  go_wp2_with fail
  go_loopw [0, 9] (fun z x wr => ∃ (k : Nat) (t : List ByteArray) (A : Option Addr) (ca : Nat), k ≤ m.length ∧ t.length ≤ 100000000000 ∧ x = .int .i64 k ∧ z = .slice A t.length ca ∧ Aside0 (OwnsAt w T1 9 1 (.slice A t.length ca) t.length (strs t)) ∧ Aside0 (inL t (m.drop k) = d) ∧ w = wr) (fun _ x _ => m.length - (intOf x).toNat)
  case atStart => exact ⟨0, l, A, ca, Nat.zero_le _, hl, rfl, rfl, HA, HD, rfl⟩
  case round =>
    clear HA HD
    obtain ⟨k, t, A, ca, hk, ht, rfl, rfl, HA, HD, rfl⟩ := hrel
    by_cases hlt : k < m.length
    · obtain ⟨s, hs⟩ : ∃ s, m[k]? = some s := ⟨_, List.getElem?_eq_getElem hlt⟩
      obtain ⟨g, o, rfl, k0⟩ := str_at HB.out k s hs
      have hdr : m.drop k = s :: m.drop (k + 1) := by
        rw [List.drop_eq_getElem_cons hlt, (List.getElem?_eq_some_iff.1 hs).2]
      have HDD : Aside0 (inL t (s :: m.drop (k + 1)) = d) := ⟨by rw [← hdr]; exact HD.out⟩
      clear hdr HD hs
      cases t with
      | nil =>
        have HN : Aside0 (inL [] (m.drop (k + 1)) = d) := ⟨by
          rw [← HDD.out]
          cases m.drop (k + 1) <;> rfl⟩
        simp only [List.length_nil] at HA ⊢
        go_wp2_with fail
        exact ⟨⟨k + 1, [], A, ca, by omega, by simp, by go_num, rfl, HA, HN, trivial⟩, by simp [intOf]; omega⟩
      | cons y t =>
        obtain ⟨g2, o2, rfl, k1⟩ := str_zero HA.out rfl
        by_cases he : y = s
        · subst he
          have HN : Aside0 (inL t (m.drop (k + 1)) = d) := ⟨by rw [← HDD.out]; exact (if_pos rfl).symm⟩
          obtain ⟨v2, hrun, hown, _⟩ := run_tails (P := Tryz.prog) w T1 30 9 i0 1 Tryz.underlying30 HI0.out HZ1.out _ t.length _ HA.out
          obtain ⟨A2, c2, rfl, _, _⟩ := hown.shape
          have HO : Aside0 (OwnsAt w T1 9 1 (.slice A2 t.length c2) t.length (strs t)) := ⟨hown⟩
          simp only [List.length_cons] at ht hrun ⊢
          clear hown HDD
          go_wp2_with fail
          exact ⟨⟨k + 1, t, A2, c2, by omega, by omega, by go_num, rfl, HO, HN, trivial⟩, by simp [intOf]; omega⟩
        · have HN : Aside0 (inL (y :: t) (m.drop (k + 1)) = d) := ⟨by rw [← HDD.out]; exact (if_neg he).symm⟩
          simp only [List.length_cons] at ht HA ⊢
          have hne : (y.toList == s.toList) = false := by
            rw [beq_eq_false_iff_ne]
            intro h
            exact he (inj (by rw [← toList_L, ← toList_L, h]))
          clear HDD
          go_wp2_with fail
          exact ⟨⟨k + 1, y :: t, _, ca, by omega, by simp; omega, by go_num, rfl, HA, HN, trivial⟩, by simp [intOf]; omega⟩
    · obtain rfl : k = m.length := by omega
      have HN : Aside0 (t = d) := ⟨by
        have := HD.out
        rw [List.drop_length] at this
        rw [← this]
        cases t <;> rfl⟩
      have hd : (d.length == 0) = decide (d = []) := by cases d <;> simp
      have HF : Aside0 (((t.length : Int) == 0) = decide (d = [])) := ⟨by
        rw [HN.out]
        cases d with
        | nil => simp
        | cons y d => rw [beq_eq_false_iff_ne.2 (by simp; omega)]; simp⟩
      clear HD hd
      go_wp2
      rw [HF.out]
      go_ret
      exact ⟨rfl, rfl⟩
end Go.Proofs.YtljnfbpplhnmfaaGreatDoor.Pa
namespace Go.Proofs.YtljnfbpplhnmfaaGreatDoor.Pa
open Go Go.RowKit Go.Proofs.YtljnfbpplhnmfaaGreatDoorW.PrintWords Go.Proofs.YtljnfbpplhnmfaaGreatDoorW.PrintLast Go.Proofs.YtljnfbpplhnmfaaGreatDoorW.PrintMore Go.Proofs.YtljnfbpplhnmfaaGreatDoor.Str Go.Proofs.YtljnfbpplhnmfaaGreatDoor.Mp Go.Proofs.YtljnfbpplhnmfaaGreatDoor.Ra Go.Proofs.YtljnfbpplhnmfaaGreatDoor.Sl Go.Proofs.YtljnfbpplhnmfaaGreatDoor.Qu Go.Proofs.YtljnfbpplhnmfaaGreatDoor.Ru Go.Proofs.YtljnfbpplhnmfaaGreatDoor.Md
set_option linter.unusedVariables false
set_option linter.unusedSimpArgs false
set_option maxRecDepth 1000000
set_option maxHeartbeats 8000000
def linked : Pr := Md.drain (askP false (begin0 7 3) 0)
theorem linked_facts : linked.a.e.state = 7 ∧ linked.b.e.state = 7 ∧ linked.a.ups = 1 ∧ linked.b.ups = 1 := by decide +kernel
theorem viewFld0 (a0 a1 a2 a6 a7 a8 a9 a13 a14 : Int) (a3 a4 a5 a10 a11 a12 : Bool) (w : World) : Sem.run Tryz.prog (Instr.field 49 (Value.agg #[.int .i64 a0, .int .i64 a1, .int .i64 a2, .bool a3, .bool a4, .bool a5, .int .i64 a6, .int .i64 a7, .int .i64 a8, .int .i64 a9, .bool a10, .bool a11, .bool a12, .int .i64 a13, .int .i64 a14]) 0) w = Result.ok (.int .i64 a0) w := by kernel_rfl
attribute [local go_sem high] viewFld0
theorem ups_at {I : PI} {c : Nat} {p : Pr} {T : Nat → Prop} {w0 w : World} (h : Went (pairAt I c p) T w0 w) : w.cell? ⟨I.g, 13, none⟩ = some (.int .i64 p.a.ups) ∧ w.cell? ⟨I.g, 14, none⟩ = some (.int .i64 p.b.ups) := by
  obtain ⟨A0, c0, A1, c1, A2, c2, A3, c3, A4, c4, A5, c5, A6, c6, A7, c7, A8, c8, A9, c9, HO1, hok⟩ := pairAt.opened h
  exact ⟨(cellAt (HO1.heap 1 rfl) 13 _ rfl).1, (cellAt (HO1.heap 1 rfl) 14 _ rfl).1⟩
theorem linksC (w : World) (hL : Fw.LaidC w) (h0 : 1 < w.heap.size) :
    Calls Tryz.prog 9 #[] w fun r w' => r = .returned (.bool true) ∧ Below w.heap.size w w' := by
  have HN := Aside0.mk (ln0 hL h0)
  have HB := Aside0.mk (beginC 7 3 w hL)
  clear hL h0
  obtain ⟨d, HD⟩ : ∃ d, Aside0 (linked = d) := ⟨_, ⟨rfl⟩⟩
  obtain ⟨p0, HP0⟩ : ∃ q, Aside0 (askP false (begin0 7 3) 0 = q) := ⟨_, ⟨rfl⟩⟩
  have HDD : Aside0 (Md.drain p0 = d) := ⟨by rw [← HP0.out, ← HD.out]; rfl⟩
  have HF : Aside0 (d.a.e.state = 7 ∧ d.b.e.state = 7 ∧ d.a.ups = 1 ∧ d.b.ups = 1) := ⟨by rw [← HD.out]; exact linked_facts⟩
  clear HD
  go_enter Tryz.func9, Tryz.ntmps9
  go_wp2_with fail
  refine HB.out.mono ?_
  rintro r w1 ⟨I, rfl, hw1⟩
  have HW1 := Aside0.mk hw1
  clear hw1 HB
  go_wp2_with fail
  refine (ask00C I 0 (begin0 7 3) (by decide) _ w w1 HW1.out).mono ?_
  rintro r w2 ⟨rfl, hw2⟩
  rw [HP0.out] at hw2
  have HW2 := Aside0.mk hw2
  clear hw2 HW1 HP0
  go_wp2_with fail
  refine (drainC I (0 + 1000) p0 (by decide) _ w w2 HN.out HW2.out).mono ?_
  rintro r w3 ⟨rfl, hw3⟩
  rw [HDD.out] at hw3
  have HW3 : Aside0 (Went (pairAt I 11000000 d) (fun _ => False) w w3) := ⟨growP hw3 (by decide) (by decide)⟩
  clear hw3 HW2 HDD HN
  obtain ⟨e0, e1, _⟩ := ends_at HW3.out
  have HV0 : Aside0 (Calls Tryz.prog 13 #[.pointer (some ⟨I.b0, 0, none⟩)] w3 fun r w' => r = .returned (.agg (En.viewOf d.a.e)) ∧ Went (pairAt I 11000000 d) (fun _ => False) w w') := ⟨view0C HW3.out⟩
  generalize hva : d.a.e = ea at HV0 HF
  obtain ⟨f0, f1, f2, f3⟩ := HF.out
  unfold En.viewOf at HV0
  rw [f0] at HV0
  clear hva
  go_wp2_with fail
  refine HV0.out.mono ?_
  rintro r w4 ⟨rfl, hw4⟩
  have HW4 := Aside0.mk hw4
  clear hw4 HV0 HW3 e0 e1
  obtain ⟨e0, e1, _⟩ := ends_at HW4.out
  have HV1 : Aside0 (Calls Tryz.prog 13 #[.pointer (some ⟨I.b1, 0, none⟩)] w4 fun r w' => r = .returned (.agg (En.viewOf d.b.e)) ∧ Went (pairAt I 11000000 d) (fun _ => False) w w') := ⟨view1C HW4.out⟩
  generalize hvb : d.b.e = eb at HV1 f1
  unfold En.viewOf at HV1
  rw [f1] at HV1
  clear hvb
  go_wp2_with fail
  refine HV1.out.mono ?_
  rintro r w5 ⟨rfl, hw5⟩
  have HW5 := Aside0.mk hw5
  clear hw5 HV1 HW4 e0 e1
  obtain ⟨u0, u1⟩ := ups_at HW5.out
  rw [f2] at u0
  rw [f3] at u1
  go_wp2
  go_ret
  exact ⟨rfl, HW5.out.keeps.below (Nat.le_refl _) (fun k hk => hk.elim)⟩
end Go.Proofs.YtljnfbpplhnmfaaGreatDoor.Pa
namespace Go.Proofs.YtljnfbpplhnmfaaGreatDoor.Pa
open Go Go.RowKit Go.Proofs.YtljnfbpplhnmfaaGreatDoorW.PrintWords Go.Proofs.YtljnfbpplhnmfaaGreatDoorW.PrintLast Go.Proofs.YtljnfbpplhnmfaaGreatDoorW.PrintMore Go.Proofs.YtljnfbpplhnmfaaGreatDoor.Str Go.Proofs.YtljnfbpplhnmfaaGreatDoor.Mp Go.Proofs.YtljnfbpplhnmfaaGreatDoor.Ra Go.Proofs.YtljnfbpplhnmfaaGreatDoor.Sl Go.Proofs.YtljnfbpplhnmfaaGreatDoor.Qu Go.Proofs.YtljnfbpplhnmfaaGreatDoor.Ru Go.Proofs.YtljnfbpplhnmfaaGreatDoor.Md Go.Proofs.YtljnfbpplhnmfaaGreatDoor.Ta
set_option linter.unusedVariables false
set_option linter.unusedSimpArgs false
set_option maxRecDepth 1000000
set_option maxHeartbeats 8000000
theorem owns_below {w w' : World} {T : Nat → Prop} {e : TypeId} {z n : Nat} {v : Value} {xs : List Value} (h : OwnsAt w T e z v n xs) (hb : Below w.heap.size w w') : OwnsAt w' T e z v n xs :=
  h.same (fun k hk => hb.block k (h.lt k hk).2)
end Go.Proofs.YtljnfbpplhnmfaaGreatDoor.Pa
