/- Maps of the call's own: a new key's entry, made first and stored into later, whatever kind of key. No condition. -/
import Derived.Test.YtbailgigabdhaaaDoorMaps
namespace Go.Proofs.YtbailgigabdhaaaDoor.Mp
open Go Go.RowKit Go.Maps
set_option linter.unusedVariables false
theorem entry_new {P : Program} {w : World} {t k e : TypeId} (K : Keyed P k) (ht : P.underlying t = some (.map k e)) {z : Value} (hz : ∀ u : World, (zeroValue e).run P u = .ok z u) {b n : Nat} {f : Lit → Option Value}
    (hown : MapAt P k w b n f) (hn : n < maxLen) {key : Value} {kl : Lit} (hkey : keyOf P k key = some kl) (hf : f kl = none) :
    ∃ st w1, (Instr.mapEntry t (.map (some b)) key).run P w = .ok (.tuple #[z, st]) w1 ∧ w.grownBy w1 (some b) ∧ w1.heap.size = w.heap.size ∧
      ∀ (w2 : World) (val : Value), w2.heap[b]? = w1.heap[b]? → ∃ w3, (Instr.entryStore t (.map (some b)) st val).run P w2 = .ok () w3 ∧ MapAt P k w3 b (n + 1) (upd f kl (some val)) ∧ w2.grownBy w3 (some b) ∧ w3.heap.size = w2.heap.size := by
  have hst := fun val => store_law K ht hown hn (val := val) hkey
  obtain ⟨D, ⟨es, clock, hb, F, hs, hDe⟩, h2⟩ := hown
  have hno : ∀ x ∈ es.toList, x.key ≠ key := by
    rcases fit_look false K ht (hz w) hb F hkey with ⟨_, h, _⟩ | ⟨e0, y, _, _, _, _, h, _⟩
    · exact h
    · have a1 := (h2 kl (K.key hkey)).2
      rw [hf, hDe] at a1
      have b1 := (h (.held undef)).symm.trans (a1 (.held undef))
      have b2 := (h (.lit (.bool true))).symm.trans (a1 (.lit (.bool true)))
      rw [b1] at b2
      cases b2
  have hup : ∀ (o o' : Obj) (u : World), u.heap[b]? = some o → u.grownBy (ChangeMaps.setBlock u b o') (some b) ∧ (ChangeMaps.setBlock u b o').heap.size = u.heap.size ∧ (ChangeMaps.setBlock u b o').heap[b]? = some o' := by
    intro o o' u hu
    have hlt := (Array.getElem?_eq_some_iff.1 hu).1
    refine ⟨⟨rfl, rfl, rfl, by simp [ChangeMaps.setBlock], fun i hi hne => ?_⟩, by simp [ChangeMaps.setBlock], ?_⟩
    · simp only [ChangeMaps.setBlock, Array.getElem?_setIfInBounds]
      rw [if_neg (fun e1 => hne (by rw [e1]))]
    · simp only [ChangeMaps.setBlock, Array.getElem?_setIfInBounds]
      simp [hlt]
  rcases K.find w hkey es.toList F.keys with ⟨h1, _⟩ | ⟨j, e0, _, h3, h4⟩
  · obtain ⟨u1, u2, u3⟩ := hup _ (.map (es.push ⟨key, z, clock⟩) (clock + 1)) w hb
    refine ⟨goInt clock, _, ?_, u1, u2, fun w2 val hw2 => ?_⟩
    · simp [Instr.mapEntry, run_underlying ht, MapKept.run_getObj_map hb, K.check w false hkey, h1, hz, MapKept.run_setObj_map _ hb, Result.andThen, ChangeMaps.setBlock]
    · rw [u3] at hw2
      obtain ⟨q1, q2, _⟩ := F.stamped
      have hidx : (es.push ⟨key, z, clock⟩).findIdx? (fun e => ((e.born : Nat) : Int) == ((clock : Nat) : Int)) = some es.size := by
        rw [WideElems.findIdx_arr]
        refine WideElems.findIdx_born (l := (es.push ⟨key, z, clock⟩).toList) (j := es.size) (e0 := ⟨key, z, clock⟩) ?_ (by simp)
        simp only [Array.toList_push, List.map_append, List.map_cons, List.map_nil]
        refine List.nodup_append.2 ⟨q2, by simp, fun a ha c hc e1 => ?_⟩
        rw [List.mem_singleton] at hc
        obtain ⟨x, hx, rfl⟩ := List.mem_map.1 ha
        have := q1 x hx
        omega
      have hmod : (es.push ⟨key, z, clock⟩).modify es.size (fun e => { e with val := val }) = es.push ⟨key, val, clock⟩ := by
        apply Array.ext'
        rw [Array.toList_modify, Array.toList_push, Array.toList_push, ← Array.length_toList, WideElems.modify_last]
      obtain ⟨w', hr4, hM, _, _⟩ := hst val
      have hr3 : (Instr.mapUpdate t (.map (some b)) key val).run P w = .ok () (ChangeMaps.setBlock w b (.map (es.push ⟨key, val, clock⟩) (clock + 1))) := by
        simp [Instr.mapUpdate, run_underlying ht, MapKept.run_getObj_map hb, K.check w false hkey, h1, MapKept.run_setObj_map _ hb, Result.andThen, ChangeMaps.setBlock]
      rw [hr3] at hr4
      simp only [Result.ok.injEq, true_and] at hr4
      obtain ⟨x1, x2, x3⟩ := hup _ (.map (es.push ⟨key, val, clock⟩) (clock + 1)) w2 hw2
      obtain ⟨_, _, y3⟩ := hup _ (.map (es.push ⟨key, val, clock⟩) (clock + 1)) w hb
      refine ⟨_, ?_, MapAt.same (w := w') hM (by rw [x3, ← hr4, y3]), x1, x2⟩
      simp [Instr.entryStore, MapKept.run_getObj_map hw2, asInt, asIntOf, goInt, hidx, hmod, MapKept.run_setObj_map _ hw2, Result.andThen, ChangeMaps.setBlock]
  · exact absurd h4 (hno e0 (List.mem_of_getElem? h3))
theorem MapAt.look {P : Program} {w : World} {t k e : TypeId} (K : Keyed P k) (ht : P.underlying t = some (.map k e)) {z : Value} (hz : (zeroValue e).run P w = .ok z w) {b n : Nat} {f : Lit → Option Value}
    (hown : MapAt P k w b n f) {key : Value} {kl : Lit} (hkey : keyOf P k key = some kl) : (Instr.lookup t (.map (some b)) key false).run P w = .ok ((f kl).getD z) w := by
  obtain ⟨D, h1, h2⟩ := hown
  obtain ⟨v, ps, hrun, hv⟩ := h1.lookup K ht hz (zd := .held z) (zp := []) rfl hkey
  have h3 := at_f (z := z) (h2 kl (K.key hkey)).2
  rw [h3] at hv
  simp [anyElem] at hv
  rw [hrun, hv.1]
end Go.Proofs.YtbailgigabdhaaaDoor.Mp
