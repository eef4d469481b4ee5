/- A second decoder that is fed in pieces, what it meets laid into one slice, while all else stays as it was. -/
import Derived.Test.YtolodlnndojaiaaDoorHdlcLaw
import Derived.Laws.AppendOwnNone
namespace Go.Proofs.YtolodlnndojaiaaDoor.Hd
open Go.RowKit Go.Proofs.YtolodlnndojaiaaDoorW.PrintWords Go.Proofs.YtolodlnndojaiaaDoorW.PrintLast Go.Proofs.YtolodlnndojaiaaDoorW.PrintMore Go.Proofs.YtolodlnndojaiaaDoor.Str Go.Proofs.YtolodlnndojaiaaDoor.Bits Go.Proofs.YtolodlnndojaiaaDoor.Oct
set_option linter.unusedVariables false
/-- Behind world w3, of N blocks: the decoder d, the one old block that turns, has had the bits S but for R; what it met is row got. -/
def Mid (N d : Nat) (S : List UInt8) (w3 : World) (got : Value) (R : List UInt8) (wr : World) : Prop :=
  ∃ (pre : List UInt8) (s2 : St) (evs : List Ev) (v2 : Value), pre ++ R = S ∧ feedL St.new pre = (s2, evs) ∧ wr.ownsRow N 31 2 got evs.length (evCells evs) ∧ DecAt N wr d v2 s2 ∧ Kb (fun j => j = d) w3 wr ∧ d < N ∧ N = w3.heap.size
def Mid2 (N d : Nat) (S : List UInt8) (w3 : World) (got u : Value) (R : List UInt8) (wr : World) : Prop :=
  ∃ (pre : List UInt8) (s2 : St) (evs evs' : List Ev) (v2 : Value), pre ++ R = S ∧ feedL St.new pre = (s2, evs ++ evs') ∧ wr.ownsRow N 31 2 got evs.length (evCells evs) ∧ (∃ B, wr.ownsRow B 31 2 u evs'.length (evCells evs')) ∧ DecAt N wr d v2 s2 ∧ Kb (fun j => j = d) w3 wr ∧ d < N ∧ N = w3.heap.size
theorem Mid.start {N d : Nat} {S : List UInt8} {w3 : World} (hN : N = w3.heap.size) (h : w3.heap[d]? = some (.cells #[.slice none 0 0, .bool false, .int .i64 0] 55 (0, 0))) : Mid N d S w3 (.slice none 0 0) S w3 :=
  ⟨[], St.new, [], .slice none 0 0, rfl, rfl, World.ownsRow_nil _ _ _ _, ⟨h, no_row _ _ _⟩, Kb.refl _ _, by rw [hN]; exact (Array.getElem?_eq_some_iff.1 h).1, hN⟩
theorem Mid.kb {N d : Nat} {S R : List UInt8} {w3 wr : World} {got : Value} (h : Mid N d S w3 got R wr) : Kb (fun j => j = d) w3 wr := by
  obtain ⟨_, _, _, _, _, _, _, _, h, _⟩ := h
  exact h
theorem feed_mid (N d : Nat) (S x y : List UInt8) (w3 wr : World) (got : Value) (b : ByteArray) (hb : L b = x) (h : Mid N d S w3 got (x ++ y) wr) (hS : S.length ≤ 1099511627776) :
    Calls Tryd.prog 13 #[.pointer (some ⟨d, 0, none⟩), .string b] wr fun e w' => ∃ u, e = .returned u ∧ Mid2 N d S w3 got u y w' := by
  obtain ⟨pre, s2, evs, v2, hp, hf, hrow, hdec, hk, hd, hN⟩ := h
  have hlen : pre.length + (x.length + y.length) = S.length := by rw [← hp]; simp
  have hok := feedL_ok St.new pre new_ok
  rw [hf] at hok
  have hon : s2.ones ≤ 0 + pre.length := hok.2
  refine (feed N d v2 s2 b wr hdec (by rw [hN]; exact hk.size) hok.1 (by omega) (by rw [size_L, hb]; omega)).mono ?_
  rintro e w' ⟨u, he, hr, hw⟩
  rw [hb] at hr hw
  obtain ⟨v', k1, k2, k3⟩ := hw
  have hsz := hk.size
  refine ⟨u, he, pre ++ x, (feedL s2 x).1, evs, (feedL s2 x).2, v', by rw [← hp]; simp, by rw [feedL_append, hf], k3.row hrow (fun j hj t => ?_), ⟨_, hr⟩, k1, hk.trans k3 (fun j hj t => ?_), hd, hN⟩
  · rcases t with t | t
    · have := (hrow.lt j hj).1
      omega
    · exact own_apart hdec.2 hrow (by decide) j t hj
  · rcases t with t | t
    · exact t
    · have := (hdec.2.lt j t).1
      omega
theorem at_add (g k : Nat) : (⟨g, 0, none⟩ : Addr).add k = ⟨g, k, none⟩ := by unfold Addr.add; split <;> simp_all
/-- The append of what was met. -/
theorem wpList_append_mid {w3 : World} {w : World} {ops : Array Oper} {rest : List Oper} {o : Oper} {a : Act} {Q : Exit → Act → World → Prop} (hgd : o.guard = none) (s x : Operand)
    (ho : o.op = .call { callee := .builtin .append, args := #[s, x], argTypes := #[25, 25] }) (hty : o.type = 25)
    (N d : Nat) (S R : List UInt8) (got u : Value) (hs : a.eval s = got) (hx : a.eval x = u) (h : Mid2 N d S w3 got u R w) (hS : S.length ≤ 1099511627776)
    (hK : ∀ v' w', Mid N d S w3 v' R w' → wpList Tryd.prog ops Q rest (a.put o.dst v') w') : wpList Tryd.prog ops Q (o :: rest) a w := by
  obtain ⟨pre, s2, evs, evs', v2, hp, hf, hrow, ⟨B, hur⟩, hdec, hk, hd, hN⟩ := h
  obtain ⟨i0, hi, hz0, hz1, hz2⟩ := info_parts infoEv
  have hlen : pre.length + R.length = S.length := by rw [← hp]; simp
  have hl := feedL_len St.new pre pre.length (Nat.le_refl _)
  rw [List.take_of_length_le (Nat.le_refl _), hf] at hl
  replace hl : (evs ++ evs').length ≤ pre.length := hl
  rw [List.length_append] at hl
  have hsz := hk.size
  rcases hur.2 with ⟨rfl, h0⟩ | ⟨g, cap, cur, rfl, hg, hh, h2, h3, h4, h5⟩
  · obtain rfl : evs' = [] := List.eq_nil_of_length_eq_zero h0
    refine wpList_append_own_none hgd s x 25 ho N 31 i0 2 Tryd.underlying25 hi got _ _ hs hrow hx ?_
    exact hK _ _ ⟨pre, s2, evs, v2, hp, by simpa using hf, hrow, hdec, hk, hd, hN⟩
  · have hcells := hur.cells (g := g) rfl
    refine wpList_append_own w hgd s x 25 ho N 31 i0 (.agg #[.int .i64 0, .string ⟨#[]⟩]) 2 24 (by rw [hty] at *; exact Tryd.underlying25) hi hz0 hz1 hz2 rfl (by decide) got _ _ hs hrow ⟨g, 0, none⟩ evs'.length cap (evCells evs') hx hur.1 hcells ?_ ?_ ?_ ?_ ?_
    · intro c hc
      obtain ⟨e, _, hm⟩ := List.mem_flatMap.1 hc
      simp at hm
      rcases hm with rfl | rfl <;> rfl
    · unfold maxLen; omega
    · omega
    · omega
    · intro v' w' hown hgrow _
      have hk2 : Kb (fun j => got.ownBlock = some j) w w' := (Kb.refl _ _).grown hgrow (fun k hk _ => hk)
      refine hK _ _ ⟨pre, s2, evs ++ evs', v2, hp, hf, ?_, ⟨?_, hk2.row hdec.2 (fun j hj t => own_apart hdec.2 hrow (by decide) j hj t)⟩, hk.trans hk2 (fun j hj t => ?_), hd, hN⟩
      · rw [List.length_append, evCells_append]
        exact hown
      · rw [hk2.block d (Array.getElem?_eq_some_iff.1 hdec.1).1 (fun t => by have := (hrow.lt d t).1; omega)]
        exact hdec.1
      · have := (hrow.lt j t).1
        omega
end Go.Proofs.YtolodlnndojaiaaDoor.Hd
