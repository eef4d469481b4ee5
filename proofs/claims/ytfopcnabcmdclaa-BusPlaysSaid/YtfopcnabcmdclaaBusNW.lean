/- The document's bus by its text: New, Len, Rise, Send. -/
import Derived.Test.YtfopcnabcmdclaaBusN
import Derived.Deep.RegionLaw
import Derived.StillTailTactics
import Derived.BigRegion
namespace Go.Proofs.Ytfopcnabcmdclaa.Bs
open Go Go.RowKit Go.Proofs.YtfopcnabcmdclaaW.PrintWords Go.Proofs.YtfopcnabcmdclaaW.PrintLast Go.Proofs.YtfopcnabcmdclaaW.PrintMore Go.Proofs.Ytfopcnabcmdclaa.Str Go.Proofs.Ytfopcnabcmdclaa.Bits Go.Proofs.Ytfopcnabcmdclaa.Mp Go.Proofs.Ytfopcnabcmdclaa.Ra
set_option linter.unusedVariables false
set_option linter.unusedSimpArgs false
def newCells (n : Nat) : Array Value := #[.int .i64 (n : Int), .slice none 0 0, .slice none 0 0, .slice none 0 0, .slice none 0 0, .slice none 0 0, .slice none 0 0, .slice none 0 0, .slice none 0 0, .slice none 0 0, .slice none 0 0, .slice none 0 0, .slice none 0 0, .slice none 0 0, .slice none 0 0, .slice none 0 0, .slice none 0 0, .slice none 0 0, .slice none 0 0, .slice none 0 0, .slice none 0 0, .slice none 0 0, .slice none 0 0, .slice none 0 0, .slice none 0 0, .slice none 0 0, .slice none 0 0, .slice none 0 0, .slice none 0 0, .slice none 0 0, .slice none 0 0, .slice none 0 0, .slice none 0 0]
theorem newCells_off (n : Nat) (d : Bool) (i : Nat) (hi : i < 16) : (newCells n)[off d i]? = some (.slice none 0 0) := by
  have h : ∀ j, j < 32 → (newCells n)[j + 1]? = some (.slice none 0 0) := by
    intro j hj
    match j, hj with
    | 0, _ | 1, _ | 2, _ | 3, _ | 4, _ | 5, _ | 6, _ | 7, _ | 8, _ | 9, _ | 10, _ | 11, _ | 12, _ | 13, _ | 14, _ | 15, _ | 16, _ | 17, _ | 18, _ | 19, _ | 20, _ | 21, _ | 22, _ | 23, _ | 24, _ | 25, _ | 26, _ | 27, _ | 28, _ | 29, _ | 30, _ | 31, _ => rfl
    | k + 32, hj => omega
  cases d
  · have := h (16 + i) (by omega)
    rwa [show 16 + i + 1 = off false i from by simp [off]; omega] at this
  · have := h i (by omega)
    rwa [show i + 1 = off true i from by simp [off]; omega] at this
theorem new_ref (n : Nat) (h1 : 1 ≤ n) (h2 : n ≤ 16) (w : World) : WentR (fun _ => False) w w.heap.size n (fun _ _ => []) (w.alloc (.cells (newCells n) 40)) := by
  have hs : (w.alloc (.cells (newCells n) 40)).heap.size = w.heap.size + 1 := by show (w.heap.push _).size = _; simp
  refine ⟨fun k => k = w.heap.size, fun _ _ => .slice none 0 0, ⟨rfl, fun k hk => by rw [hs]; omega, ⟨_, heap_alloc_new w _, rfl, rfl, fun d i hi => newCells_off n d i hi⟩, fun d i hi => ownsAt_nil _ _ _ _, fun d i d' i' _ _ _ k hk => by simp [Value.ownBlock] at hk, fun _ _ _ => rfl, fun _ _ => Nat.zero_le _, fun _ _ _ h => (List.not_mem_nil h).elim, h1, h2⟩, (Kb.refl _ w).alloc _, fun k hk => Or.inr (by omega)⟩
set_option maxHeartbeats 4000000 in
set_option maxRecDepth 1000000 in
theorem newR (n : Int) (w : World) :
    Calls Try.prog 14 #[.int .i64 n] w fun e w' => e = .returned (.pointer (some ⟨w.heap.size, 0, none⟩)) ∧ WentR (fun _ => False) w w.heap.size (size20 n) (fun _ _ => []) w' := by
  have h1 := size20_le n
  have HN := Aside0.mk (new_ref _ h1.1 h1.2 w)
  by_cases hlo : n < 1
  · have e : ((size20 n : Nat) : Int) = 1 := by unfold size20; omega
    have hm : size20 n = 1 := by omega
    rw [hm] at HN ⊢
    clear e hm h1
    go_enter Try.func14, Try.ntmps14
    go_wp2
    go_ret
    exact ⟨rfl, HN.out⟩
  · by_cases hhi : (16 : Int) < n
    · have hm : size20 n = 16 := by unfold size20; omega
      rw [hm] at HN ⊢
      clear hm h1
      go_enter Try.func14, Try.ntmps14
      go_wp2
      go_ret
      exact ⟨rfl, HN.out⟩
    · obtain ⟨m, rfl⟩ : ∃ m : Nat, n = (m : Int) := ⟨n.toNat, by omega⟩
      have hm : size20 (m : Int) = m := by unfold size20; omega
      rw [hm] at HN ⊢
      clear hm h1
      go_enter Try.func14, Try.ntmps14
      go_wp2
      go_ret
      exact ⟨rfl, HN.out⟩
set_option maxHeartbeats 4000000 in
set_option maxRecDepth 1000000 in
theorem lenR (T : Nat → Prop) (p n : Nat) (q : Bool → Int → List ByteArray) (v : Bool → Nat → Value) (w : World) (h : RefAt T w p n q v) (d : Bool) (i : Int) :
    Calls Try.prog 22 #[.pointer (some ⟨p, 0, none⟩), .bool d, .int .i64 i] w fun e w' => e = .returned (.int .i64 ((q d i).length : Int)) ∧ w = w' := by
  have c0 := h.cell0
  have hn := h.n16
  by_cases h0 : i < 0
  · have hq : (q d i).length = 0 := by rw [h.out d i (by omega)]; rfl
    have HQ := Aside0.mk hq
    clear hq h
    go_enter Try.func22, Try.ntmps22
    go_wp2
    go_ret
    rw [HQ.out]
    exact ⟨rfl, rfl⟩
  · by_cases h1 : (n : Int) ≤ i
    · have hq : (q d i).length = 0 := by rw [h.out d i (by omega)]; rfl
      have HQ := Aside0.mk hq
      clear hq h
      go_enter Try.func22, Try.ntmps22
      go_wp2
      go_ret
      rw [HQ.out]
      exact ⟨rfl, rfl⟩
    · obtain ⟨k, rfl⟩ : ∃ k : Nat, i = (k : Int) := ⟨i.toNat, by omega⟩
      have hk : k < n := by omega
      have hk16 : k < 16 := by omega
      have hcell := (h.cell d k hk16).1
      obtain ⟨A, cp, hv, _, _⟩ := (h.rows d k hk16).shape
      rw [hv] at hcell
      clear hv h
      cases d
      · have hc : w.cell? ⟨p, 17 + k, none⟩ = some (.slice A (q false k).length cp) := by simpa [off] using hcell
        clear hcell
        go_enter Try.func22, Try.ntmps22
        go_wp2
        go_ret
        exact ⟨rfl, rfl⟩
      · have hc : w.cell? ⟨p, 1 + k, none⟩ = some (.slice A (q true k).length cp) := by simpa [off] using hcell
        clear hcell
        go_enter Try.func22, Try.ntmps22
        go_wp2
        go_ret
        exact ⟨rfl, rfl⟩
end Go.Proofs.Ytfopcnabcmdclaa.Bs
