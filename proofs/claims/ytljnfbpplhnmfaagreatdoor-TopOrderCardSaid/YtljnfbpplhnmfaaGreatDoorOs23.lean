/- Both ends of a link, in memory: an act. Conditions: sizes. Package fcs by its own text: what was sealed is found right. No condition but sizes. Package ctrl by its own text, as far as a UI goes: its octet, and what is read of it. Condition: the package's tables stand as they were laid (LaidC). What the law's own frame's octets are packed of: package bits at these numbers. No condition. Package addr at the law's own frame's address. No condition. -/
import Derived.Lib.MinMax
import Derived.Test.YtljnfbpplhnmfaaGreatDoorProg
import Derived.WalkKit
import Derived.BigCall
import Derived.Lib.Builder
import Derived.BigRegion
import Derived.Deep.RegionLaw
import Derived.Deep.RegionHeld3
import Derived.Test.YtljnfbpplhnmfaaGreatDoorOs02
import Derived.Test.YtljnfbpplhnmfaaGreatDoorOs22
namespace Go.Proofs.YtljnfbpplhnmfaaGreatDoor.Pa
open Go Go.RowKit Go.Proofs.YtljnfbpplhnmfaaGreatDoorW.PrintWords Go.Proofs.YtljnfbpplhnmfaaGreatDoorW.PrintLast Go.Proofs.YtljnfbpplhnmfaaGreatDoorW.PrintMore Go.Proofs.YtljnfbpplhnmfaaGreatDoor.Str Go.Proofs.YtljnfbpplhnmfaaGreatDoor.Mp Go.Proofs.YtljnfbpplhnmfaaGreatDoor.Ra Go.Proofs.YtljnfbpplhnmfaaGreatDoor.Sl Go.Proofs.YtljnfbpplhnmfaaGreatDoor.Qu Go.Proofs.YtljnfbpplhnmfaaGreatDoor.Ru Go.Proofs.YtljnfbpplhnmfaaGreatDoor.Md
open Go.Proofs.YtljnfbpplhnmfaaGreatDoor.En (frCells efCells efs efs_app efs_one orow entAt)
set_option linter.unusedVariables false
set_option linter.unusedSimpArgs false
set_option maxRecDepth 1000000
set_option maxHeartbeats 8000000
theorem askZ (I : PI) (c : Nat) (p : Pr) (z : Int) (hz : z = 0 ∨ z = 1) (a : Int) (ha : a = 0 ∨ a = 1 ∨ a = 4 ∨ a = 5) (hc : c + 1000 ≤ 100000000000) (T : Nat → Prop) (w0 w : World) (h : Went (pairAt I c p) T w0 w) :
    Calls Tryz.prog 30 #[.pointer (some ⟨I.g, 0, none⟩), .int .i64 z, .int .i64 a] w fun r w' => r = .returned (.tuple #[]) ∧ Went (pairAt I (c + 1000) (askP (decide (z = 1)) p a)) T w0 w' := by
  rcases hz with rfl | rfl <;> rcases ha with rfl | rfl | rfl | rfl
  · exact ask00C I c p hc T w0 w h
  · exact ask01C I c p hc T w0 w h
  · exact ask04C I c p hc T w0 w h
  · exact ask05C I c p hc T w0 w h
  · exact ask10C I c p hc T w0 w h
  · exact ask11C I c p hc T w0 w h
  · exact ask14C I c p hc T w0 w h
  · exact ask15C I c p hc T w0 w h
theorem sendZ (I : PI) (c : Nat) (p : Pr) (z : Int) (hz : z = 0 ∨ z = 1) (a : Int) (ha : a = 2 ∨ a = 3) (hc : c + 1000 ≤ 100000000000) (T : Nat → Prop) (w0 w : World) (h : Went (pairAt I c p) T w0 w) :
    Calls Tryz.prog 53 #[.pointer (some ⟨I.g, 0, none⟩), .int .i64 z, .int .i64 a] w fun r w' => (∃ z : Bool, r = .returned (.bool z)) ∧ Went (pairAt I (c + 1000) (sendP (decide (z = 1)) p a)) T w0 w' := by
  rcases hz with rfl | rfl <;> rcases ha with rfl | rfl
  · exact send02C I c p hc T w0 w h
  · exact send03C I c p hc T w0 w h
  · exact send12C I c p hc T w0 w h
  · exact send13C I c p hc T w0 w h
theorem overZ (I : PI) (c : Nat) (p : Pr) (z : Int) (hz : z = 0 ∨ z = 1) (hc : c + 1000 ≤ 100000000000) (T : Nat → Prop) (w0 w : World) (h : Went (pairAt I c p) T w0 w) :
    Calls Tryz.prog 32 #[.pointer (some ⟨I.g, 0, none⟩), .int .i64 z] w fun r w' => r = .returned (.tuple #[]) ∧ Went (pairAt I (c + 1000) (overP (decide (z = 1)) p)) T w0 w' := by
  rcases hz with rfl | rfl
  · exact over0C I c p hc T w0 w h
  · exact over1C I c p hc T w0 w h
theorem come_nil {i : Bool} {p : Pr} (h : (p.at i).way = []) (l : Bool) : comeP i p l = p := by unfold comeP; rw [h]
theorem comeZ (I : PI) (c : Nat) (p : Pr) (z : Int) (hz : z = 0 ∨ z = 1) (l : Bool) (hc : c + 1000 ≤ 100000000000) (T : Nat → Prop) (w0 w : World) (hN : LN T w0) (h : Went (pairAt I c p) T w0 w) :
    Calls Tryz.prog 34 #[.pointer (some ⟨I.g, 0, none⟩), .int .i64 z, .bool l] w fun r w' => r = .returned (.bool (decide ((p.at (decide (z = 1))).way ≠ []))) ∧ Went (pairAt I (c + 1000) (comeP (decide (z = 1)) p l)) T w0 w' := by
  rcases hz with rfl | rfl <;> cases l
  · exact come00C I c p hc T w0 w hN h
  · exact come01C I c p hc T w0 w hN h
  · exact come10C I c p hc T w0 w hN h
  · exact come11C I c p hc T w0 w hN h
theorem comeOr_eq (i : Bool) (p : Pr) (l : Bool) : comeOr i p l = if (p.at i).way = [] then overP i p else comeP i p l := rfl
theorem do3 {x y : Int} {p : Pr} {clean : Bool} (hd : max 0 x % 10 = 3) : doP p ⟨x, y⟩ clean = sendP (sideOf y) p 3 := by
  unfold doP
  simp only
  rw [if_pos hd]
theorem do4n {x y : Int} {p : Pr} (hd : max 0 x % 10 = 4) : doP p ⟨x, y⟩ false = askP (sideOf y) p 0 := by
  unfold doP
  simp only
  rw [if_neg (by omega), if_pos hd, if_neg (by decide)]
theorem do4y {x y : Int} {p : Pr} (hd : max 0 x % 10 = 4) : doP p ⟨x, y⟩ true = p := by
  unfold doP
  simp only
  rw [if_neg (by omega), if_pos hd, if_pos trivial]
theorem do5n {x y : Int} {p : Pr} (hd : max 0 x % 10 = 5) : doP p ⟨x, y⟩ false = askP (sideOf y) p 1 := by
  unfold doP
  simp only
  rw [if_neg (by omega), if_neg (by omega), if_pos hd, if_neg (by decide)]
theorem do5y {x y : Int} {p : Pr} (hd : max 0 x % 10 = 5) : doP p ⟨x, y⟩ true = p := by
  unfold doP
  simp only
  rw [if_neg (by omega), if_neg (by omega), if_pos hd, if_pos trivial]
theorem do6 {x y : Int} {p : Pr} {clean : Bool} (hd : max 0 x % 10 = 6) : doP p ⟨x, y⟩ clean = askP (sideOf y) p 4 := by
  unfold doP
  simp only
  rw [if_neg (by omega), if_neg (by omega), if_neg (by omega), if_pos hd]
theorem do7 {x y : Int} {p : Pr} {clean : Bool} (hd : max 0 x % 10 = 7) : doP p ⟨x, y⟩ clean = askP (sideOf y) p 5 := by
  unfold doP
  simp only
  rw [if_neg (by omega), if_neg (by omega), if_neg (by omega), if_neg (by omega), if_pos hd]
theorem do8 {x y : Int} {p : Pr} {clean : Bool} (hd : max 0 x % 10 = 8) : doP p ⟨x, y⟩ clean = comeOr (sideOf y) p false := by
  unfold doP
  simp only
  rw [if_neg (by omega), if_neg (by omega), if_neg (by omega), if_neg (by omega), if_neg (by omega), if_pos hd]
theorem do9 {x y : Int} {p : Pr} {clean : Bool} (hd : max 0 x % 10 = 9) : doP p ⟨x, y⟩ clean = comeOr (sideOf y) p (!clean) := by
  unfold doP
  simp only
  rw [if_neg (by omega), if_neg (by omega), if_neg (by omega), if_neg (by omega), if_neg (by omega), if_neg (by omega), if_pos hd]
theorem do2 {x y : Int} {p : Pr} {clean : Bool} (h3 : ¬ max 0 x % 10 = 3) (h4 : ¬ max 0 x % 10 = 4) (h5 : ¬ max 0 x % 10 = 5) (h6 : ¬ max 0 x % 10 = 6) (h7 : ¬ max 0 x % 10 = 7) (h8 : ¬ max 0 x % 10 = 8) (h9 : ¬ max 0 x % 10 = 9) : doP p ⟨x, y⟩ clean = sendP (sideOf y) p 2 := by
  unfold doP
  simp only
  rw [if_neg h3, if_neg h4, if_neg h5, if_neg h6, if_neg h7, if_neg h8, if_neg h9]
theorem doC (I : PI) (c : Nat) (p : Pr) (a : Ac) (clean : Bool) (hc : c + 2000 ≤ 100000000000) (T : Nat → Prop) (w0 w : World) (hN : LN T w0) (h : Went (pairAt I c p) T w0 w) :
    Calls Tryz.prog 31 #[.pointer (some ⟨I.g, 0, none⟩), .agg #[.int .i64 a.act, .int .i64 a.side], .bool clean] w fun r w' => r = .returned (.tuple #[]) ∧ Went (pairAt I (c + 2000) (doP p a clean)) T w0 w' := by
  obtain ⟨x, y⟩ := a
  have HC0 : Aside0 (c + 1000 ≤ 100000000000 ∧ c + 2000 ≤ 100000000000) := ⟨by omega, hc⟩
  have hz : max 0 y % 2 = 0 ∨ max 0 y % 2 = 1 := by omega
  have HNN := Aside0.mk hN
  have hb := h.alloc (.cells #[.int .i64 x, .int .i64 y] 86 (0, 0))
  have hbx := heap_alloc_new w (.cells #[.int .i64 x, .int .i64 y] 86 (0, 0))
  obtain ⟨k0, _⟩ := cellAt hbx 0 (.int .i64 x) rfl
  obtain ⟨k1, _⟩ := cellAt hbx 1 (.int .i64 y) rfl
  have HP := Aside0.mk hb
  clear h hc hN hbx hb
  go_enter Tryz.func31, Tryz.ntmps31
  go_wp2_with fail
  · have hd : max 0 x % 10 = 3 := by simpa using ‹(max 0 x % 10 == 3) = true›
    have HE := Aside0.mk (do3 (p := p) (y := y) (clean := clean) hd)
    refine (sendZ I c p _ hz 3 (by decide) HC0.out.1 T w0 _ HP.out).mono ?_
    rintro r w1 ⟨⟨zz, rfl⟩, hw1⟩
    have HW := Aside0.mk hw1
    clear hw1 HP k0 k1
    go_wp2
    go_end0
    refine ⟨rfl, ?_⟩
    rw [HE.out]
    exact growP HW.out (by omega) HC0.out.2
  · have hd : max 0 x % 10 = 4 := by simpa using ‹(max 0 x % 10 == 4) = true›
    have hcl : clean = false := by simpa using ‹(!clean) = true›
    subst hcl
    have HE := Aside0.mk (do4n (p := p) (y := y) hd)
    refine (askZ I c p _ hz 0 (by decide) HC0.out.1 T w0 _ HP.out).mono ?_
    rintro r w1 ⟨rfl, hw1⟩
    have HW := Aside0.mk hw1
    clear hw1 HP k0 k1
    go_wp2
    go_end0
    refine ⟨rfl, ?_⟩
    rw [HE.out]
    exact growP HW.out (by omega) HC0.out.2
  · have hd : max 0 x % 10 = 4 := by simpa using ‹(max 0 x % 10 == 4) = true›
    have hcl : clean = true := by simpa using ‹(!clean) = false›
    subst hcl
    have HE := Aside0.mk (do4y (p := p) (y := y) hd)
    go_end0
    refine ⟨rfl, ?_⟩
    rw [HE.out]
    exact growP HP.out (by omega) HC0.out.2
  · have hd : max 0 x % 10 = 5 := by simpa using ‹(max 0 x % 10 == 5) = true›
    have hcl : clean = false := by simpa using ‹(!clean) = true›
    subst hcl
    have HE := Aside0.mk (do5n (p := p) (y := y) hd)
    refine (askZ I c p _ hz 1 (by decide) HC0.out.1 T w0 _ HP.out).mono ?_
    rintro r w1 ⟨rfl, hw1⟩
    have HW := Aside0.mk hw1
    clear hw1 HP k0 k1
    go_wp2
    go_end0
    refine ⟨rfl, ?_⟩
    rw [HE.out]
    exact growP HW.out (by omega) HC0.out.2
  · have hd : max 0 x % 10 = 5 := by simpa using ‹(max 0 x % 10 == 5) = true›
    have hcl : clean = true := by simpa using ‹(!clean) = false›
    subst hcl
    have HE := Aside0.mk (do5y (p := p) (y := y) hd)
    go_end0
    refine ⟨rfl, ?_⟩
    rw [HE.out]
    exact growP HP.out (by omega) HC0.out.2
  · have hd : max 0 x % 10 = 6 := by simpa using ‹(max 0 x % 10 == 6) = true›
    have HE := Aside0.mk (do6 (p := p) (y := y) (clean := clean) hd)
    refine (askZ I c p _ hz 4 (by decide) HC0.out.1 T w0 _ HP.out).mono ?_
    rintro r w1 ⟨rfl, hw1⟩
    have HW := Aside0.mk hw1
    clear hw1 HP k0 k1
    go_wp2
    go_end0
    refine ⟨rfl, ?_⟩
    rw [HE.out]
    exact growP HW.out (by omega) HC0.out.2
  · have hd : max 0 x % 10 = 7 := by simpa using ‹(max 0 x % 10 == 7) = true›
    have HE := Aside0.mk (do7 (p := p) (y := y) (clean := clean) hd)
    refine (askZ I c p _ hz 5 (by decide) HC0.out.1 T w0 _ HP.out).mono ?_
    rintro r w1 ⟨rfl, hw1⟩
    have HW := Aside0.mk hw1
    clear hw1 HP k0 k1
    go_wp2
    go_end0
    refine ⟨rfl, ?_⟩
    rw [HE.out]
    exact growP HW.out (by omega) HC0.out.2
  · have hd : max 0 x % 10 = 8 := by simpa using ‹(max 0 x % 10 == 8) = true›
    have HE := Aside0.mk (do8 (p := p) (y := y) (clean := clean) hd)
    refine (comeZ I c p _ hz false HC0.out.1 T w0 _ HNN.out HP.out).mono ?_
    rintro r w1 ⟨rfl, hw1⟩
    have HW := Aside0.mk hw1
    clear hw1 HP k0 k1
    by_cases hn : (p.at (sideOf y)).way = []
    · have HX : Aside0 (Went (pairAt I (c + 1000) p) T w0 w1) := ⟨by rw [← come_nil hn false]; exact HW.out⟩
      have HEE : Aside0 (doP p ⟨x, y⟩ clean = overP (sideOf y) p) := ⟨by rw [HE.out, comeOr_eq, if_pos hn]⟩
      rw [show decide ((p.at (decide (max 0 y % 2 = 1))).way ≠ []) = false from decide_eq_false (fun h => h hn)]
      clear HW HE
      go_wp2_with fail
      refine (overZ I (c + 1000) p _ hz (by have := HC0.out.2; omega) T w0 _ HX.out).mono ?_
      rintro r w2 ⟨rfl, hw2⟩
      have HW := Aside0.mk hw2
      clear hw2 HX
      go_wp2
      go_end0
      refine ⟨rfl, ?_⟩
      rw [HEE.out]
      exact HW.out
    · have HEE : Aside0 (doP p ⟨x, y⟩ clean = comeP (sideOf y) p false) := ⟨by rw [HE.out, comeOr_eq, if_neg hn]⟩
      rw [show decide ((p.at (decide (max 0 y % 2 = 1))).way ≠ []) = true from decide_eq_true hn]
      clear HE
      go_wp2
      go_end0
      refine ⟨rfl, ?_⟩
      rw [HEE.out]
      exact growP HW.out (by omega) HC0.out.2
  · have hd : max 0 x % 10 = 9 := by simpa using ‹(max 0 x % 10 == 9) = true›
    have HE := Aside0.mk (do9 (p := p) (y := y) (clean := clean) hd)
    refine (comeZ I c p _ hz (!clean) HC0.out.1 T w0 _ HNN.out HP.out).mono ?_
    rintro r w1 ⟨rfl, hw1⟩
    have HW := Aside0.mk hw1
    clear hw1 HP k0 k1
    by_cases hn : (p.at (sideOf y)).way = []
    · have HX : Aside0 (Went (pairAt I (c + 1000) p) T w0 w1) := ⟨by rw [← come_nil hn (!clean)]; exact HW.out⟩
      have HEE : Aside0 (doP p ⟨x, y⟩ clean = overP (sideOf y) p) := ⟨by rw [HE.out, comeOr_eq, if_pos hn]⟩
      rw [show decide ((p.at (decide (max 0 y % 2 = 1))).way ≠ []) = false from decide_eq_false (fun h => h hn)]
      clear HW HE
      go_wp2_with fail
      refine (overZ I (c + 1000) p _ hz (by have := HC0.out.2; omega) T w0 _ HX.out).mono ?_
      rintro r w2 ⟨rfl, hw2⟩
      have HW := Aside0.mk hw2
      clear hw2 HX
      go_wp2
      go_end0
      refine ⟨rfl, ?_⟩
      rw [HEE.out]
      exact HW.out
    · have HEE : Aside0 (doP p ⟨x, y⟩ clean = comeP (sideOf y) p (!clean)) := ⟨by rw [HE.out, comeOr_eq, if_neg hn]⟩
      rw [show decide ((p.at (decide (max 0 y % 2 = 1))).way ≠ []) = true from decide_eq_true hn]
      clear HE
      go_wp2
      go_end0
      refine ⟨rfl, ?_⟩
      rw [HEE.out]
      exact growP HW.out (by omega) HC0.out.2
  · have HE := Aside0.mk (do2 (p := p) (y := y) (clean := clean) (by simpa using ‹(max 0 x % 10 == 3) = false›) (by simpa using ‹(max 0 x % 10 == 4) = false›) (by simpa using ‹(max 0 x % 10 == 5) = false›) (by simpa using ‹(max 0 x % 10 == 6) = false›) (by simpa using ‹(max 0 x % 10 == 7) = false›) (by simpa using ‹(max 0 x % 10 == 8) = false›) (by simpa using ‹(max 0 x % 10 == 9) = false›))
    refine (sendZ I c p _ hz 2 (by decide) HC0.out.1 T w0 _ HP.out).mono ?_
    rintro r w1 ⟨⟨zz, rfl⟩, hw1⟩
    have HW := Aside0.mk hw1
    clear hw1 HP k0 k1
    go_wp2
    go_end0
    refine ⟨rfl, ?_⟩
    rw [HE.out]
    exact growP HW.out (by omega) HC0.out.2
end Go.Proofs.YtljnfbpplhnmfaaGreatDoor.Pa
namespace Go.Proofs.YtljnfbpplhnmfaaGreatDoor.Fw
open Go Go.RowKit Go.Proofs.YtljnfbpplhnmfaaGreatDoorW.PrintWords Go.Proofs.YtljnfbpplhnmfaaGreatDoorW.PrintLast Go.Proofs.YtljnfbpplhnmfaaGreatDoorW.PrintMore Go.Proofs.YtljnfbpplhnmfaaGreatDoor.Str
set_option linter.unusedVariables false
theorem two_bytes (w : World) (a b : Int) : (Kd.int .u8).C (w.alloc (.cells #[.int .u8 a, .int .u8 b] 5)) (some ⟨w.heap.size, 0, none⟩) 2 [a, b] := by
  have hn := heap_alloc_new w (.cells #[.int .u8 a, .int .u8 b] 5)
  refine ⟨rfl, by decide, fun _ => ⟨_, rfl, fun j p hj => ⟨[.int .u8 p], rfl, rfl, fun i u hu => ?_⟩⟩⟩
  cases i with
  | zero =>
    simp at hu; subst hu; rw [add_plain, Lib.cell_of_heap hn]
    match j with
    | 0 => simp at hj; subst hj; rfl
    | 1 => simp at hj; subst hj; rfl
    | j + 2 => simp at hj
  | succ i => simp at hu
theorem two_str (w : World) (a b : Int) : (convert 181 9 (.slice (some ⟨w.heap.size, 0, none⟩) 2 2)).run Tryz.prog (w.alloc (.cells #[.int .u8 a, .int .u8 b] 5)) = .ok (.string (strOfNums [a, b])) (w.alloc (.cells #[.int .u8 a, .int .u8 b] 5)) :=
  Kd.C_string Tryz.underlying181 Tryz.underlying5 Tryz.underlying9 (two_bytes w a b)
def rnd (r : Int) : Int := Go.bits .xor .u16 (r / 2) (IntKind.u16.wrap (Go.bits .and .u16 r 1 * 33800))
def rnds : Nat → Int → Int
  | 0, r => r
  | k + 1, r => rnd (rnds k r)
def stepI (r o : Int) : Int := rnds 8 (Go.bits .xor .u16 r o)
set_option maxRecDepth 100000 in
theorem stepW (r o : Int) (w : World) (h0 : 0 ≤ o) (h1 : o ≤ 255) :
    Calls Tryz.prog 161 #[.int .u16 r, .int .u8 o] w fun e w' => e = .returned (.int .u16 (stepI r o)) ∧ w = w' := by
  go_enter Tryz.func161, Tryz.ntmps161
  go_wp2_with fail
  go_loopw [0, 10] (fun x i wr => ∃ k : Nat, k ≤ 8 ∧ i = .int .i64 k ∧ x = .int .u16 (rnds k (Go.bits .xor .u16 r o)) ∧ w = wr) (fun _ i _ => 8 - (intOf i).toNat)
  case atStart => exact ⟨0, by omega, rfl, rfl, rfl⟩
  case round =>
    obtain ⟨k, hk, rfl, rfl, rfl⟩ := hrel
    by_cases hlt : k < 8
    · obtain ⟨q, hq⟩ : ∃ q, rnds k (Go.bits .xor .u16 r o) = q := ⟨_, rfl⟩
      rw [hq]
      go_wp2
      refine ⟨⟨k + 1, by omega, by go_num, ?_, trivial⟩, by simp [intOf]; omega⟩
      rw [show rnds (k + 1) (Go.bits .xor .u16 r o) = rnd q from by rw [← hq]; rfl]
      rfl
    · obtain rfl : k = 8 := by omega
      go_wp2
      go_ret
      exact ⟨rfl, rfl⟩
def regs (l : List UInt8) : Int := l.foldl (fun r o => stepI r (o.toNat : Int)) 65535
theorem regs_take (l : List UInt8) (k : Nat) (h : k < l.length) : regs (l.take (k + 1)) = stepI (regs (l.take k)) ((l[k]).toNat : Int) := by
  unfold regs
  rw [List.take_succ_eq_append_getElem h, List.foldl_append]; rfl
def sumI (s : ByteArray) : Int := Go.bits .xor .u16 IntKind.u16.max (regs (L s))
theorem sumI_range (s : ByteArray) : 0 ≤ sumI s ∧ sumI s < 65536 := by
  unfold sumI
  show 0 ≤ IntKind.u16.wrap _ ∧ IntKind.u16.wrap _ < 65536
  have : ∀ n : Int, IntKind.u16.wrap n = n % 65536 := fun n => by simp [IntKind.wrap, IntKind.bits, IntKind.signed]
  rw [this]
  omega
set_option maxRecDepth 100000 in
theorem sumW (s : ByteArray) (w : World) (hs : s.size ≤ 9223372036854775807) :
    Calls Tryz.prog 135 #[.string s] w fun e w' => e = .returned (.int .u16 (sumI s)) ∧ w = w' := by
  go_enter Tryz.func135, Tryz.ntmps135
  go_wp2_with fail
  go_loopw [3, 7] (fun x i wr => ∃ k : Nat, k ≤ s.size ∧ i = .int .i64 k ∧ x = .int .u16 (regs ((L s).take k)) ∧ w = wr) (fun _ i _ => s.size - (intOf i).toNat)
  case atStart => exact ⟨0, by omega, rfl, rfl, rfl⟩
  case round =>
    obtain ⟨k, hk, rfl, rfl, rfl⟩ := hrel
    by_cases hlt : k < s.size
    · have hl : k < (L s).length := by rw [← size_L]; exact hlt
      have ht := regs_take (L s) k hl
      obtain ⟨q, hq⟩ : ∃ q, regs ((L s).take k) = q := ⟨_, rfl⟩
      rw [hq] at ht
      rw [hq]
      go_wp2_with fail
      have hb := ((L s)[k]'hl).toNat_lt
      refine (stepW q (((L s)[k]'hl).toNat : Int) w (by omega) (by omega)).mono ?_
      rintro e w1 ⟨rfl, rfl⟩
      rw [← ht]
      clear ht hb
      go_wp2
      exact ⟨⟨k + 1, by omega, by go_num, rfl, trivial⟩, by simp [intOf]; omega⟩
    · obtain rfl : k = s.size := by omega
      have hsg : ¬ IntKind.u16.signed = true := by decide
      have hq : Go.bits .xor .u16 IntKind.u16.max (regs (L s)) = sumI s := rfl
      rw [size_L, List.take_length]
      generalize regs (L s) = q at hq
      go_wp2
      go_ret
      trivial
def seal_ (s : ByteArray) : ByteArray := s ++ strOfNums [sumI s % 256, sumI s / 256]
set_option maxRecDepth 100000 in
theorem sealW (s : ByteArray) (w : World) (hs : s.size ≤ 9223372036854775) :
    Calls Tryz.prog 97 #[.string s] w fun e w' => e = .returned (.string (seal_ s)) ∧ Below w.heap.size w w' := by
  go_enter Tryz.func97, Tryz.ntmps97
  go_wp2_with fail
  refine (sumW s w (by omega)).mono ?_
  rintro e w1 ⟨rfl, rfl⟩
  have hz := sumI_range s
  have hse : s ++ strOfNums [sumI s % 256, sumI s / 256] = seal_ s := rfl
  generalize sumI s = z at *
  have hcv := two_str w (z % 256) (z / 256)
  have hcat : ¬ 9223372036854775807 < s.size + (strOfNums [z % 256, z / 256]).size := by rw [nums_size]; simp; omega
  go_wp2_with fail
  have hb : Below w.heap.size w (w.alloc (.cells #[.int .u8 (z % 256), .int .u8 (z / 256)] 5)) := (Below.refl _ w).alloc (Nat.le_refl _) _
  have HB := Aside0.mk hb
  clear hb hcv hcat hse hz
  go_wp2
  go_ret
  exact ⟨rfl, HB.out⟩
theorem seal_size (s : ByteArray) : (seal_ s).size = s.size + 2 := by unfold seal_; rw [ByteArray.size_append, nums_size]; rfl
theorem seal_body (s : ByteArray) : (seal_ s).extract 0 s.size = s := by
  refine inj ?_
  rw [L_take, seal_, L_app, size_L, List.take_left]
set_option maxRecDepth 100000 in
theorem checkW (s : ByteArray) (w : World) (hs : s.size ≤ 9223372036854775) :
    Calls Tryz.prog 102 #[.string (seal_ s)] w fun e w' => e = .returned (.tuple #[.string s, .int .i64 0]) ∧ Below w.heap.size w w' := by
  have hz := seal_size s
  have hbd := seal_body s
  have hsl := sealW s w hs
  generalize seal_ s = t at *
  have h2 : ¬ (t.size : Int) < 2 := by omega
  have h3 : (t.size : Int) - 2 = (s.size : Int) := by omega
  have hst : s.size ≤ t.size := by omega
  go_enter Tryz.func102, Tryz.ntmps102
  go_wp2_with fail
  refine hsl.mono ?_
  rintro e w1 ⟨rfl, hb⟩
  have HB := Aside0.mk hb
  clear hb
  go_wp2
  go_ret2
  exact ⟨rfl, HB.out⟩
end Go.Proofs.YtljnfbpplhnmfaaGreatDoor.Fw
namespace Go.Proofs.YtljnfbpplhnmfaaGreatDoor.Fw
open Go Go.RowKit Go.Proofs.YtljnfbpplhnmfaaGreatDoorW.PrintWords Go.Proofs.YtljnfbpplhnmfaaGreatDoorW.PrintLast Go.Proofs.YtljnfbpplhnmfaaGreatDoorW.PrintMore Go.Proofs.YtljnfbpplhnmfaaGreatDoor.Str
set_option linter.unusedVariables false
def tFirst : List Int := [0, 1, 5, 9, 111, 15, 3, 67, 99, 135]
def tNames : List ByteArray := [⟨#[73]⟩, ⟨#[82, 82]⟩, ⟨#[82, 78, 82]⟩, ⟨#[82, 69, 74]⟩, ⟨#[83, 65, 66, 77, 69]⟩, ⟨#[68, 77]⟩, ⟨#[85, 73]⟩, ⟨#[68, 73, 83, 67]⟩, ⟨#[85, 65]⟩, ⟨#[70, 82, 77, 82]⟩]
def LaidC (w : World) : Prop := (∀ i x, tFirst[i]? = some x → w.cell? ⟨0, i, none⟩ = some (.int .u8 x)) ∧ (∀ i x, tNames[i]? = some x → w.cell? ⟨1, i, none⟩ = some (.string x))
theorem LaidC.below {w w1 : World} (h : LaidC w) (hb : Below w.heap.size w w1) : LaidC w1 :=
  ⟨fun i x hx => pw_cell_below hb (h.1 i x hx), fun i x hx => pw_cell_below hb (h.2 i x hx)⟩
theorem LaidC.row {w : World} (h : LaidC w) : (Kd.int .u8).C w (some ⟨0, 1, none⟩) (tFirst.drop 1).length (tFirst.drop 1) := by
  refine ⟨rfl, by decide, fun _ => ⟨_, rfl, fun j p hj => ⟨[.int .u8 p], rfl, rfl, fun i u hu => ?_⟩⟩⟩
  cases i with
  | zero =>
    simp at hu; subst hu
    have hj' : tFirst[j + 1]? = some p := hj
    have := h.1 _ _ hj'
    have e : (⟨0, 1, none⟩ : Addr).add (j * 1 + 0) = ⟨0, j + 1, none⟩ := by
      unfold Addr.add; split <;> simp_all [Nat.add_comm]
    show w.cell? ((⟨0, 1, none⟩ : Addr).add (j * 1 + 0)) = _
    rw [e]; exact this
  | succ i => simp at hu
set_option maxRecDepth 100000 in
theorem goodW (k : Int) (w : World) : Calls Tryz.prog 132 #[.int .i64 k] w fun e w' => e = .returned (.bool (decide (0 ≤ k ∧ k < 10))) ∧ w = w' := by
  by_cases h0 : 0 ≤ k
  · by_cases h1 : k < 10
    · rw [decide_eq_true ⟨h0, h1⟩]
      go_enter Tryz.func132, Tryz.ntmps132
      go_wp2
      go_ret
      trivial
    · rw [decide_eq_false (by omega)]
      go_enter Tryz.func132, Tryz.ntmps132
      go_wp2
      go_ret
      trivial
  · rw [decide_eq_false (by omega)]
    go_enter Tryz.func132, Tryz.ntmps132
    go_wp2
    go_ret
    trivial
theorem numW (k : Int) (w : World) : Calls Tryz.prog 98 #[.int .i64 k] w fun e w' => e = .returned (.bool (decide (0 ≤ k ∧ k ≤ 3))) ∧ w = w' := by
  by_cases h0 : 0 ≤ k
  · by_cases h1 : k ≤ 3
    · rw [decide_eq_true ⟨h0, h1⟩]
      go_enter Tryz.func98, Tryz.ntmps98
      go_wp2
      go_ret
      trivial
    · rw [decide_eq_false (by omega)]
      go_enter Tryz.func98, Tryz.ntmps98
      go_wp2
      go_ret
      trivial
  · rw [decide_eq_false (by omega)]
    go_enter Tryz.func98, Tryz.ntmps98
    go_wp2
    go_ret
    trivial
theorem oneW (b : Bool) (w : World) : Calls Tryz.prog 133 #[.bool b] w fun e w' => e = .returned (.int .i64 (if b = true then 1 else 0)) ∧ w = w' := by
  cases b
  all_goals
    go_enter Tryz.func133, Tryz.ntmps133
    go_wp2
    go_ret
    trivial
theorem aoneW (b : Bool) (w : World) : Calls Tryz.prog 134 #[.bool b] w fun e w' => e = .returned (.int .i64 (if b = true then 1 else 0)) ∧ w = w' := by
  cases b
  all_goals
    go_enter Tryz.func134, Tryz.ntmps134
    go_wp2
    go_ret
    trivial
def idxL (l : List Int) (x : Int) : Int := match l.findIdx? (fun y => y == x) with
  | some i => (i : Int)
  | none => -1
set_option maxRecDepth 100000 in
theorem indexW (A : Option Addr) (c : Nat) (l : List Int) (x : Int) (w : World) (hr : (Kd.int .u8).C w A l.length l) (hc : l.length ≤ c) :
    Calls Tryz.prog 140 #[.slice A l.length c, .int .u8 x] w fun e w' => e = .returned (.int .i64 (idxL l x)) ∧ w = w' := by
  have hm : l.length ≤ 9223372036854775807 := hr.2.1
  go_enter Tryz.func140, Tryz.ntmps140
  go_wp2_with fail
  go_loopw [8] (fun v wr => ∃ k : Nat, k ≤ l.length ∧ v = .int .i64 k ∧ (∀ j, (h : j < l.length) → j < k → ¬ l[j] = x) ∧ w = wr) (fun v _ => l.length - (intOf v).toNat)
  case atStart => exact ⟨0, by omega, rfl, fun j _ h => absurd h (Nat.not_lt_zero j), rfl⟩
  case round =>
    obtain ⟨k, hk, rfl, hno, rfl⟩ := hrel
    by_cases hlt : k < l.length
    · obtain ⟨ad, rfl, hx⟩ := Kd.at_int hr (k : Int) (by omega) (by omega)
      have hrd : rd l (k : Int) = l[k] := by unfold rd; rw [Int.toNat_natCast, List.getD_eq_getElem?_getD, List.getElem?_eq_getElem hlt]; rfl
      rw [hrd, Int.toNat_natCast] at hx
      by_cases he : x = l[k]
      · have hid : idxL l x = (k : Int) := by
          unfold idxL
          have : l.findIdx? (fun y => y == x) = some k := by
            rw [List.findIdx?_eq_some_iff_getElem]
            refine ⟨hlt, by simp [he], fun j hj => ?_⟩
            have := hno j (by omega) hj
            simpa using this
          rw [this]
        have HID := Aside0.mk hid
        rw [← he] at hx
        clear hid hno hrd he
        go_wp2
        go_ret
        exact ⟨by rw [HID.out]; rfl, rfl⟩
      · have he2 : (x == l[k]) = false := by rw [beq_eq_false_iff_ne]; exact he
        have hno2 : ∀ j, (h : j < l.length) → j < k + 1 → ¬ l[j] = x := fun j h hj => by
          by_cases e : j = k
          · subst e; exact fun q => he q.symm
          · exact hno j h (by omega)
        have HNO := Aside0.mk hno2
        generalize l[k] = q at hx he he2
        clear hno hno2 hrd
        go_wp2
        exact ⟨⟨k + 1, by omega, by go_num, HNO.out, trivial⟩, by simp [intOf]; omega⟩
    · obtain rfl : k = l.length := by omega
      have hid : idxL l x = -1 := by
        unfold idxL
        have : l.findIdx? (fun y => y == x) = none := by
          rw [List.findIdx?_eq_none_iff]
          intro y hy
          obtain ⟨j, hj, rfl⟩ := List.getElem_of_mem hy
          have := hno j hj hj
          simpa using this
        rw [this]
      have HID := Aside0.mk hid
      clear hid hno
      go_wp2
      go_ret
      exact ⟨by rw [HID.out]; rfl, rfl⟩
end Go.Proofs.YtljnfbpplhnmfaaGreatDoor.Fw
namespace Go.Proofs.YtljnfbpplhnmfaaGreatDoor.Fw
open Go Go.RowKit Go.Proofs.YtljnfbpplhnmfaaGreatDoorW.PrintWords Go.Proofs.YtljnfbpplhnmfaaGreatDoorW.PrintLast Go.Proofs.YtljnfbpplhnmfaaGreatDoorW.PrintMore Go.Proofs.YtljnfbpplhnmfaaGreatDoor.Str
set_option linter.unusedVariables false
set_option maxRecDepth 100000
theorem cellB {w w' : World} {b : Nat} {cs : Array Value} {t : TypeId} {m : Nat × Nat} (h : w.heap[b]? = some (.cells cs t m)) (hb : Below w.heap.size w w') (j : Nat) (u : Value) (hu : cs[j]? = some u) : w'.cell? ⟨b, j, none⟩ = some u := by
  have h2 : w'.heap[b]? = some (.cells cs t m) := (hb.block b (Array.getElem?_eq_some_iff.1 h).1).trans h
  rw [Lib.cell_of_heap h2]; exact hu
theorem pack3r (b : Nat) (w : World) (T : TypeId) (fr : Nat × Nat) (hb : w.heap[b]? = some (.cells #[.int .i64 1, .int .i64 0, .int .i64 1, .int .i64 0, .int .i64 6, .int .i64 0] T fr)) :
    Calls Tryz.prog 106 #[.slice (some ⟨b, 0, none⟩) 3 3] w fun e w' => e = .returned (.tuple #[.int .u8 0, .int .i64 0]) ∧ Below w.heap.size w w' := by
  have HB := Aside0.mk hb
  clear hb
  go_enter Tryz.func106, Tryz.ntmps106
  go_wp2_with fail
  go_loopw [4, 5, 10] (fun x y i wr => Aside0 (Below w.heap.size w wr) ∧ (i = .int .i64 0 ∧ x = .int .i64 0 ∧ y = .int .i64 0 ∨ i = .int .i64 1 ∧ x = .int .i64 0 ∧ y = .int .i64 1 ∨ i = .int .i64 2 ∧ x = .int .i64 0 ∧ y = .int .i64 2 ∨ i = .int .i64 3 ∧ x = .int .i64 0 ∧ y = .int .i64 8)) (fun _ _ i _ => 3 - (intOf i).toNat)
  case atStart => exact ⟨⟨Below.refl _ w⟩, Or.inl ⟨rfl, rfl, rfl⟩⟩
  case round =>
    obtain ⟨HL, hc⟩ := hrel
    have k0 := cellB HB.out HL.out 0 (.int .i64 1) rfl
    have k1 := cellB HB.out HL.out 1 (.int .i64 0) rfl
    have k2 := cellB HB.out HL.out 2 (.int .i64 1) rfl
    have k3 := cellB HB.out HL.out 3 (.int .i64 0) rfl
    have k4 := cellB HB.out HL.out 4 (.int .i64 6) rfl
    have k5 := cellB HB.out HL.out 5 (.int .i64 0) rfl
    rcases hc with ⟨rfl, rfl, rfl⟩ | ⟨rfl, rfl, rfl⟩ | ⟨rfl, rfl, rfl⟩ | ⟨rfl, rfl, rfl⟩
    · go_wp2_with fail
      exact ⟨⟨⟨HL.out.alloc HL.out.size _⟩, Or.inr (Or.inl ⟨rfl, congrArg (Value.int .i64) (by decide +kernel), congrArg (Value.int .i64) (by decide +kernel)⟩)⟩, by decide⟩
    · go_wp2_with fail
      exact ⟨⟨⟨HL.out.alloc HL.out.size _⟩, Or.inr (Or.inr (Or.inl ⟨rfl, congrArg (Value.int .i64) (by decide +kernel), congrArg (Value.int .i64) (by decide +kernel)⟩))⟩, by decide⟩
    · go_wp2_with fail
      exact ⟨⟨⟨HL.out.alloc HL.out.size _⟩, Or.inr (Or.inr (Or.inr (⟨rfl, congrArg (Value.int .i64) (by decide +kernel), congrArg (Value.int .i64) (by decide +kernel)⟩)))⟩, by decide⟩
    · go_wp2
      go_ret2
      exact ⟨rfl, HL.out⟩
theorem pack2r (b : Nat) (w : World) (T : TypeId) (fr : Nat × Nat) (hb : w.heap[b]? = some (.cells #[.int .i64 1, .int .i64 1, .int .i64 7, .int .i64 64] T fr)) :
    Calls Tryz.prog 106 #[.slice (some ⟨b, 0, none⟩) 2 2] w fun e w' => e = .returned (.tuple #[.int .u8 129, .int .i64 0]) ∧ Below w.heap.size w w' := by
  have HB := Aside0.mk hb
  clear hb
  go_enter Tryz.func106, Tryz.ntmps106
  go_wp2_with fail
  go_loopw [4, 5, 10] (fun x y i wr => Aside0 (Below w.heap.size w wr) ∧ (i = .int .i64 0 ∧ x = .int .i64 0 ∧ y = .int .i64 0 ∨ i = .int .i64 1 ∧ x = .int .i64 1 ∧ y = .int .i64 1 ∨ i = .int .i64 2 ∧ x = .int .i64 129 ∧ y = .int .i64 8)) (fun _ _ i _ => 2 - (intOf i).toNat)
  case atStart => exact ⟨⟨Below.refl _ w⟩, Or.inl ⟨rfl, rfl, rfl⟩⟩
  case round =>
    obtain ⟨HL, hc⟩ := hrel
    have k0 := cellB HB.out HL.out 0 (.int .i64 1) rfl
    have k1 := cellB HB.out HL.out 1 (.int .i64 1) rfl
    have k2 := cellB HB.out HL.out 2 (.int .i64 7) rfl
    have k3 := cellB HB.out HL.out 3 (.int .i64 64) rfl
    rcases hc with ⟨rfl, rfl, rfl⟩ | ⟨rfl, rfl, rfl⟩ | ⟨rfl, rfl, rfl⟩
    · go_wp2_with fail
      exact ⟨⟨⟨HL.out.alloc HL.out.size _⟩, Or.inr (Or.inl ⟨rfl, congrArg (Value.int .i64) (by decide +kernel), congrArg (Value.int .i64) (by decide +kernel)⟩)⟩, by decide⟩
    · go_wp2_with fail
      exact ⟨⟨⟨HL.out.alloc HL.out.size _⟩, Or.inr (Or.inr (⟨rfl, congrArg (Value.int .i64) (by decide +kernel), congrArg (Value.int .i64) (by decide +kernel)⟩))⟩, by decide⟩
    · go_wp2
      go_ret2
      exact ⟨rfl, HL.out⟩
theorem pack2b (b : Nat) (w : World) (T : TypeId) (fr : Nat × Nat) (hb : w.heap[b]? = some (.cells #[.int .i64 1, .int .i64 0, .int .i64 7, .int .i64 0] T fr)) :
    Calls Tryz.prog 106 #[.slice (some ⟨b, 0, none⟩) 2 2] w fun e w' => e = .returned (.tuple #[.int .u8 0, .int .i64 0]) ∧ Below w.heap.size w w' := by
  have HB := Aside0.mk hb
  clear hb
  go_enter Tryz.func106, Tryz.ntmps106
  go_wp2_with fail
  go_loopw [4, 5, 10] (fun x y i wr => Aside0 (Below w.heap.size w wr) ∧ (i = .int .i64 0 ∧ x = .int .i64 0 ∧ y = .int .i64 0 ∨ i = .int .i64 1 ∧ x = .int .i64 0 ∧ y = .int .i64 1 ∨ i = .int .i64 2 ∧ x = .int .i64 0 ∧ y = .int .i64 8)) (fun _ _ i _ => 2 - (intOf i).toNat)
  case atStart => exact ⟨⟨Below.refl _ w⟩, Or.inl ⟨rfl, rfl, rfl⟩⟩
  case round =>
    obtain ⟨HL, hc⟩ := hrel
    have k0 := cellB HB.out HL.out 0 (.int .i64 1) rfl
    have k1 := cellB HB.out HL.out 1 (.int .i64 0) rfl
    have k2 := cellB HB.out HL.out 2 (.int .i64 7) rfl
    have k3 := cellB HB.out HL.out 3 (.int .i64 0) rfl
    rcases hc with ⟨rfl, rfl, rfl⟩ | ⟨rfl, rfl, rfl⟩ | ⟨rfl, rfl, rfl⟩
    · go_wp2_with fail
      exact ⟨⟨⟨HL.out.alloc HL.out.size _⟩, Or.inr (Or.inl ⟨rfl, congrArg (Value.int .i64) (by decide +kernel), congrArg (Value.int .i64) (by decide +kernel)⟩)⟩, by decide⟩
    · go_wp2_with fail
      exact ⟨⟨⟨HL.out.alloc HL.out.size _⟩, Or.inr (Or.inr (⟨rfl, congrArg (Value.int .i64) (by decide +kernel), congrArg (Value.int .i64) (by decide +kernel)⟩))⟩, by decide⟩
    · go_wp2
      go_ret2
      exact ⟨rfl, HL.out⟩
theorem field026 (w : World) : Calls Tryz.prog 139 #[.int .u8 0, .int .i64 2, .int .i64 6] w fun e w' => e = .returned (.int .i64 0) ∧ Below w.heap.size w w' := by
  have hs : Go.bits .and .i64 0 (wrap64 (wrap64 (2 ^ (min 6 8 : Int).toNat) - 1)) = 0 := by decide +kernel
  go_enter Tryz.func139, Tryz.ntmps139
  go_wp2_with fail
  go_quiet (fail)
  have hb : Below w.heap.size w (w.drewN nq) := pw_below_drewN (Below.refl _ w) nq
  have HB := Aside0.mk hb
  clear hb
  generalize w.drewN nq = w1 at *
  go_wp2
  go_ret
  exact ⟨rfl, HB.out⟩
theorem field129 (w : World) : Calls Tryz.prog 139 #[.int .u8 129, .int .i64 1, .int .i64 7] w fun e w' => e = .returned (.int .i64 64) ∧ Below w.heap.size w w' := by
  have hs : Go.bits .and .i64 64 (wrap64 (wrap64 (2 ^ (min 7 8 : Int).toNat) - 1)) = 64 := by decide +kernel
  go_enter Tryz.func139, Tryz.ntmps139
  go_wp2_with fail
  go_quiet (fail)
  have hb : Below w.heap.size w (w.drewN nq) := pw_below_drewN (Below.refl _ w) nq
  have HB := Aside0.mk hb
  clear hb
  generalize w.drewN nq = w1 at *
  go_wp2
  go_ret
  exact ⟨rfl, HB.out⟩
theorem field011 (w : World) : Calls Tryz.prog 139 #[.int .u8 0, .int .i64 1, .int .i64 1] w fun e w' => e = .returned (.int .i64 0) ∧ Below w.heap.size w w' := by
  have hs : Go.bits .and .i64 0 (wrap64 (wrap64 (2 ^ (min 1 8 : Int).toNat) - 1)) = 0 := by decide +kernel
  go_enter Tryz.func139, Tryz.ntmps139
  go_wp2_with fail
  go_quiet (fail)
  have hb : Below w.heap.size w (w.drewN nq) := pw_below_drewN (Below.refl _ w) nq
  have HB := Aside0.mk hb
  clear hb
  generalize w.drewN nq = w1 at *
  go_wp2
  go_ret
  exact ⟨rfl, HB.out⟩
theorem field017 (w : World) : Calls Tryz.prog 139 #[.int .u8 0, .int .i64 1, .int .i64 7] w fun e w' => e = .returned (.int .i64 0) ∧ Below w.heap.size w w' := by
  have hs : Go.bits .and .i64 0 (wrap64 (wrap64 (2 ^ (min 7 8 : Int).toNat) - 1)) = 0 := by decide +kernel
  go_enter Tryz.func139, Tryz.ntmps139
  go_wp2_with fail
  go_quiet (fail)
  have hb : Below w.heap.size w (w.drewN nq) := pw_below_drewN (Below.refl _ w) nq
  have HB := Aside0.mk hb
  clear hb
  generalize w.drewN nq = w1 at *
  go_wp2
  go_ret
  exact ⟨rfl, HB.out⟩
end Go.Proofs.YtljnfbpplhnmfaaGreatDoor.Fw
namespace Go.Proofs.YtljnfbpplhnmfaaGreatDoor.Fw
open Go Go.RowKit Go.Proofs.YtljnfbpplhnmfaaGreatDoorW.PrintWords Go.Proofs.YtljnfbpplhnmfaaGreatDoorW.PrintLast Go.Proofs.YtljnfbpplhnmfaaGreatDoorW.PrintMore Go.Proofs.YtljnfbpplhnmfaaGreatDoor.Str
set_option linter.unusedVariables false
set_option maxHeartbeats 4000000 in
set_option maxRecDepth 100000 in
theorem aputR (w : World) :
    Calls Tryz.prog 95 #[.agg #[.int .i64 0, .int .i64 64, .bool false]] w fun e w' => e = .returned (.tuple #[.string (strOfNums [0, 129]), .int .i64 0]) ∧ Below w.heap.size w w' := by
  go_enter Tryz.func95, Tryz.ntmps95
  go_wp2_with fail
  have hb0 : Below w.heap.size w (w.alloc (.cells #[.int .i64 0, .int .i64 64, .bool false] 195)) := (Below.refl _ w).alloc (Nat.le_refl _) _
  have hz0 : (w.alloc (.cells #[.int .i64 0, .int .i64 64, .bool false] 195)).heap.size = w.heap.size + 1 := by show (w.heap.push _).size = _; simp
  have hn0 := heap_alloc_new w (.cells #[.int .i64 0, .int .i64 64, .bool false] 195)
  generalize w.alloc (.cells #[.int .i64 0, .int .i64 64, .bool false] 195) = w0 at hb0 hz0 hn0 ⊢
  have HN := Aside0.mk (heap_alloc_new w0.drew (.cells #[.int .i64 1, .int .i64 0, .int .i64 1, .int .i64 0, .int .i64 6, .int .i64 0] 36))
  have HB0 := Aside0.mk hb0
  have HN0 := Aside0.mk hn0
  have x0 : w0.cell? ⟨w.heap.size, 0, none⟩ = some (.int .i64 0) := by rw [Lib.cell_of_heap hn0]; rfl
  have x1 : w0.cell? ⟨w.heap.size, 1, none⟩ = some (.int .i64 64) := by rw [Lib.cell_of_heap hn0]; rfl
  have x2 : w0.cell? ⟨w.heap.size, 2, none⟩ = some (.bool false) := by rw [Lib.cell_of_heap hn0]; rfl
  clear hb0 hz0 hn0
  go_region_law (first | (go_simp; go_at_call 134; refine (aoneW false _).mono ?_; rintro e w' ⟨rfl, rfl⟩) | (go_simp; go_at_call 106; refine (pack3r _ _ _ _ HN.out).mono ?_; rintro e w1 ⟨rfl, hb1⟩; have HB1 := Aside0.mk hb1; clear hb1))
  all_goals
    have B1 : Below w.heap.size w w1 := below_step (HB0.out.drew.alloc HB0.out.size _) HB1.out
    have y0 : w1.cell? ⟨w.heap.size, 1, none⟩ = some (.int .i64 64) := pw_cell_below HB1.out (pw_cell_below ((Below.refl _ w0.drew).alloc (Nat.le_refl _) _) x1)
    have HB2 := Aside0.mk B1
    have HM := Aside0.mk (heap_alloc_new w1 (.cells #[.int .i64 1, .int .i64 1, .int .i64 7, .int .i64 64] 36))
    clear B1 HB1 HN HB0 HN0 x0 x1 x2
    go_wp2_with fail
    refine (pack2r _ _ _ _ HM.out).mono ?_
    rintro e w2 ⟨rfl, hb2⟩
    have HB3 := Aside0.mk (below_step (HB2.out.alloc HB2.out.size _) hb2)
    have hcv := two_str w2 0 129
    clear hb2 HM HB2 y0
    go_wp2
    go_ret2
    exact ⟨rfl, HB3.out.alloc HB3.out.size _⟩
set_option maxHeartbeats 4000000 in
set_option maxRecDepth 100000 in
theorem agetR (s : ByteArray) (w : World) (hs : 2 ≤ s.size) (hs6 : s.size ≤ 9223372036854775807) (hx : ((s[0]'(by omega)).toNat : Int) = 0) (hy : ((s[1]'(by omega)).toNat : Int) = 129) :
    Calls Tryz.prog 103 #[.string s] w fun e w' => e = .returned (.tuple #[.agg #[.int .i64 0, .int .i64 64, .bool false], .int .i64 0]) ∧ Below w.heap.size w w' := by
  have a1 : Go.bits .and .u8 0 1 = 0 := by decide +kernel
  have a2 : Go.bits .and .u8 129 1 = 1 := by decide +kernel
  have h2 : ¬ (s.size : Int) < 2 := by omega
  have p0 : 0 < s.size := by omega
  have p1 : 1 < s.size := by omega
  have p2 : (1 : Int) < (s.size : Int) := by omega
  go_enter Tryz.func103, Tryz.ntmps103
  go_wp2_with fail
  have hb0 : Below w.heap.size w (w.alloc (.cells #[.int .i64 0, .int .i64 0, .bool false] 195)).drew := ((Below.refl _ w).alloc (Nat.le_refl _) _).drew
  have HK : Aside0 ((w.alloc (.cells #[.int .i64 0, .int .i64 0, .bool false] 195)).drew.heap[w.heap.size]? = some (.cells #[.int .i64 0, .int .i64 0, .bool false] 195 (0, 0))) := ⟨heap_alloc_new w _⟩
  have HB := Aside0.mk hb0
  clear hb0
  go_region_held3 (fun _ => True) (trivial) ((go_at_call 139; (first | with_reducible refine (field026 _).mono ?_ | with_reducible refine (field129 _).mono ?_ | with_reducible refine (field011 _).mono ?_); rintro e w1 ⟨rfl, hb⟩; replace HK := Aside0.mk ((hb.block _ (Array.getElem?_eq_some_iff.1 HK.out).1).trans HK.out); replace HB := Aside0.mk (below_step HB.out hb); clear hb; have c0 : w1.cell? ⟨w.heap.size, 0, none⟩ = some (.int .i64 0) := (by rw [Lib.cell_of_heap HK.out]; rfl); have c1 : w1.cell? ⟨w.heap.size, 1, none⟩ = some (.int .i64 0) := (by rw [Lib.cell_of_heap HK.out]; rfl); have c2 : w1.cell? ⟨w.heap.size, 2, none⟩ = some (.bool false) := (by rw [Lib.cell_of_heap HK.out]; rfl); have g0 := Lib.frozen_of_heap HK.out 0; have g1 := Lib.frozen_of_heap HK.out 1; have g2 := Lib.frozen_of_heap HK.out 2))
  all_goals
    go_wp2
    refine bodyPost_ret (results_ct rfl _ _ w.heap.size 195 #[.int .i64 0, .int .i64 64, .bool false] (0, 0) _ rfl (blk_put (cs := #[.int .i64 0, .int .i64 64, .bool false]) (blk_put (cs := #[.int .i64 0, .int .i64 0, .bool false]) (blk_put (cs := #[.int .i64 0, .int .i64 0, .bool false]) HK.out 0 _ rfl) 1 _ rfl) 2 _ rfl) Tryz.underlying195 rfl (by kernel_rfl)) rfl ?_
    exact ⟨rfl, ((HB.out.setCell (p := ⟨w.heap.size, 0, none⟩) (Nat.le_refl _) _).setCell (p := ⟨w.heap.size, 1, none⟩) (Nat.le_refl _) _).setCell (p := ⟨w.heap.size, 2, none⟩) (Nat.le_refl _) _⟩
theorem results_c1 {P : Program} {fn : Func} {p : Tmp} {ty : TypeId} (h : fn.results = #[.cell p ty]) (tmps : Array Value) (w : World) (g : Nat) (t : TypeId) (cs : Array Value) (fr : Nat × Nat) (d : TypeDesc)
    (hp : tmps.getD p undef = .pointer (some ⟨g, 0, none⟩)) (hg : w.heap[g]? = some (.cells cs t fr))
    (hu : P.underlying ty = some d) (hd : (match d with | .struct _ | .array _ _ => true | _ => false) = true) (hi : (P.info? ty).map (·.size) = some cs.size) :
    (results fn tmps).run P w = .ok (.agg cs) w := by
  have hp' : tmps[p]?.getD undef = .pointer (some ⟨g, 0, none⟩) := by simpa using hp
  simp [results, h, hp', asAddr, run_loadVar_row w g t ty cs fr d hg hu hd hi]
theorem makeW (s t : Int) (c n : Bool) (w : World) :
    Calls Tryz.prog 96 #[.agg #[.int .i64 s, .int .i64 t], .bool c, .bool n] w fun e w' => e = .returned (.agg #[.int .i64 s, .int .i64 t, .bool (c == n)]) ∧ Below w.heap.size w w' := by
  have hz0 : (w.alloc (.cells #[.int .i64 s, .int .i64 t] 141)).heap.size = w.heap.size + 1 := by show (w.heap.push _).size = _; simp
  have hn := heap_alloc_new (w.alloc (.cells #[.int .i64 s, .int .i64 t] 141)) (.cells #[.int .i64 s, .int .i64 t, .bool (c == n)] 195)
  rw [hz0] at hn
  have HN := Aside0.mk hn
  clear hn hz0
  go_enter Tryz.func96, Tryz.ntmps96
  go_wp2_with fail
  refine bodyPost_ret (results_c1 rfl _ _ (w.heap.size + 1) 195 #[.int .i64 s, .int .i64 t, .bool (c == n)] (0, 0) _ rfl HN.out Tryz.underlying195 rfl (by kernel_rfl)) rfl ?_
  exact ⟨rfl, ((Below.refl _ w).alloc (Nat.le_refl _) _).alloc (by show _ ≤ (w.heap.push _).size; simp) _⟩
theorem cmdW (s t : Int) (c n : Bool) (w : World) :
    Calls Tryz.prog 105 #[.agg #[.int .i64 s, .int .i64 t, .bool c], .bool n] w fun e w' => e = .returned (.bool (c == n)) ∧ Below w.heap.size w w' := by
  go_enter Tryz.func105, Tryz.ntmps105
  go_wp2_with fail
  go_ret
  exact ⟨rfl, (Below.refl _ w).alloc (Nat.le_refl _) _⟩
end Go.Proofs.YtljnfbpplhnmfaaGreatDoor.Fw
