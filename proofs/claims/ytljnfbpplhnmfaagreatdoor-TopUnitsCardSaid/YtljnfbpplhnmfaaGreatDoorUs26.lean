/- bits.Of, by its own text: a Builder that gets eight digits for each octet. The text at most 2^44 octets long. hdlc's decoder by its text: New, Feed, Idle; Stuff and Encode. hdlc's decoder by its text: Feed. A frame of the law's own is read back from its bits. Condition: the tables of packages ctrl and utf8 stand as they were laid. Both ends of a link, in memory: how all begins. Condition: the tables of package ctrl stand as they were laid. -/
import Derived.WalkKit
import Derived.BigCall
import Derived.Test.YtljnfbpplhnmfaaGreatDoorUs22
import Derived.Test.YtljnfbpplhnmfaaGreatDoorUs24
import Derived.Test.YtljnfbpplhnmfaaGreatDoorUs25
namespace Go.Proofs.YtljnfbpplhnmfaaGreatDoor.BitsOf
open Go.RowKit Go.Proofs.YtljnfbpplhnmfaaGreatDoor.Str Go.Proofs.YtljnfbpplhnmfaaGreatDoor.Bits
set_option linter.unusedVariables false
theorem bit_num (b : UInt8) (k : Nat) : (48 + Go.bits .and .u8 ((b.toNat : Int) / 2 ^ k) 1) % 256 = ((bitB b k).toNat : Int) := by
  have hb := b.toNat_lt
  have hk : 0 < 2 ^ k := Nat.pow_pos (by decide)
  have e : (b.toNat : Int) / 2 ^ k = ((b.toNat / 2 ^ k : Nat) : Int) := by simp
  have hl : b.toNat / 2 ^ k ≤ b.toNat := Nat.div_le_self _ _
  have h0 : 0 ≤ (b.toNat : Int) / 2 ^ k := by rw [e]; exact Int.natCast_nonneg _
  have h1 : (b.toNat : Int) / 2 ^ k ≤ 255 := by rw [e]; omega
  rw [bitB_num]
  generalize (b.toNat : Int) / 2 ^ k = q at h0 h1
  rw [Field.low_bit q h0 h1]
  omega
set_option maxHeartbeats 4000000 in
set_option maxRecDepth 1000000 in
theorem walk (s : ByteArray) (w : World) (hs : s.size ≤ 17592186044416) :
    Calls Tryz.prog 101 #[.string s] w fun e w' => e = .returned (.string ⟨(ofL (L s)).toArray⟩) ∧ Below w.heap.size w w' := by
  go_enter Tryz.func101, Tryz.ntmps101
  go_wp2
  go_loopw [8] (fun v wr => ∃ i : Nat, i ≤ s.size ∧ v = .int .i64 i ∧ Lib.IsBuilderF 230 5 w.heap.size w.heap.size (Lib.byteCells (ofL ((L s).take i))) wr ∧ Below w.heap.size w wr) (fun v _ => s.size - (intOf v).toNat)
  case atStart => exact ⟨0, Nat.zero_le _, rfl, Lib.IsBuilderF.of (Lib.fresh_isBuilder 230 5 w), (Below.refl _ w).alloc (Nat.le_refl _) _⟩
  case round =>
    obtain ⟨i, hi, rfl, hI, hB⟩ := hrel
    by_cases hlt : i < s.size
    · have hl : i < (L s).length := by rw [← size_L]; exact hlt
      have hsz := hB.size
      have ht : (ofL ((L s).take i)).length = 8 * i := by rw [ofL_length, List.length_take]; omega
      go_wp2
      obtain ⟨wo, hwo⟩ : ∃ wo : World, wo = wr := ⟨_, rfl⟩
      go_loopw [11] (fun v wr => ∃ k : Nat, k ≤ 8 ∧ v = .int .i64 k ∧ Lib.IsBuilderF 230 5 w.heap.size w.heap.size (Lib.byteCells (ofL ((L s).take i) ++ (bitsB (L s)[i]).take k)) wr ∧ Below w.heap.size w wr) (fun v _ => 8 - (intOf v).toNat)
      case atStart => exact ⟨0, by omega, rfl, by simpa using hI, hB⟩
      case round =>
        clear hI hB hsz hwo
        obtain ⟨k, hk, rfl, hI, hB⟩ := hrel
        have hsz := hB.size
        by_cases hkl : k < 8
        · have hv : (48 + Go.bits .and .u8 (((L s)[i].toNat : Int) / 2 ^ k) 1) % 256 = ((bitB (L s)[i] k).toNat : Int) := bit_num _ _
          have hlen : (Lib.byteCells (ofL ((L s).take i) ++ (bitsB (L s)[i]).take k)).length + 1 ≤ 140737488355328 := by
            rw [Lib.byteCells_length, List.length_append, ht, List.length_take, bitsB_length]; omega
          have hnx : Lib.byteCells (ofL ((L s).take i) ++ (bitsB (L s)[i]).take (k + 1)) = Lib.byteCells (ofL ((L s).take i) ++ (bitsB (L s)[i]).take k) ++ [.int .u8 ((bitB (L s)[i] k).toNat : Int)] := by
            rw [bitsB_take _ _ hkl, ← List.append_assoc, Lib.byteCells_append _ [_]]; rfl
          clear ht
          go_wp2_with (go_at_call 137; refine (Buil.byte w.heap.size w.heap.size _ _ _ hI hlen hsz).mono ?_)
          rintro e W1 ⟨rfl, h1, b1, k1⟩
          replace h1 := hnx ▸ (hv ▸ h1)
          go_wp2
          go_roundw
          case rel => exact ⟨k + 1, by omega, by go_num, Or.inr h1, hB.trans b1⟩
          case measure => simp [intOf]; omega
        · have h8 : k = 8 := by omega
          subst h8
          rw [bitsB_all, ← ofL_take _ _ hl] at hI
          go_wp2
          go_roundw
          case rel => exact ⟨i + 1, by omega, by go_num, hI, hB⟩
          case measure => simp [intOf]; omega
    · have e : (L s).take i = L s := List.take_of_length_le (by rw [← size_L]; omega)
      rw [e] at hI
      have hsz := hB.size
      go_wp2_with (go_at_call 138; refine (Tryz.Builder_String_any_k w.heap.size w.heap.size (ofL (L s)) _ hI hsz).mono ?_)
      rintro e W1 ⟨rfl, _, b1, _⟩
      go_wp2
      go_ret
      exact ⟨rfl, hB.trans b1⟩
end Go.Proofs.YtljnfbpplhnmfaaGreatDoor.BitsOf
namespace Go.Proofs.YtljnfbpplhnmfaaGreatDoor.Hd
open Go.RowKit Go.Proofs.YtljnfbpplhnmfaaGreatDoorW.PrintWords Go.Proofs.YtljnfbpplhnmfaaGreatDoorW.PrintLast Go.Proofs.YtljnfbpplhnmfaaGreatDoorW.PrintMore Go.Proofs.YtljnfbpplhnmfaaGreatDoor.Str Go.Proofs.YtljnfbpplhnmfaaGreatDoor.Bits Go.Proofs.YtljnfbpplhnmfaaGreatDoor.Oct Go.Proofs.YtljnfbpplhnmfaaGreatDoor.OctW
set_option linter.unusedVariables false
set_option maxHeartbeats 4000000 in
set_option maxRecDepth 1000000 in
theorem new (w : World) : Calls Tryz.prog 60 #[] w fun e w' => e = .returned (.pointer (some ⟨w.heap.size, 0, none⟩)) ∧ w' = w.alloc (.cells #[.slice none 0 0, .bool false, .int .i64 0] 199) := by
  go_enter Tryz.func60, Tryz.ntmps60
  go_wp2
  go_returns
  exact ⟨rfl, rfl⟩
theorem new_dec (w : World) (B : Nat) : DecAt B (w.alloc (.cells #[.slice none 0 0, .bool false, .int .i64 0] 199)) w.heap.size (.slice none 0 0) St.new :=
  ⟨Go.heap_alloc_new _ _, no_row _ _ _⟩
set_option maxHeartbeats 4000000 in
set_option maxRecDepth 1000000 in
theorem stuff (s : ByteArray) (w : World) (hs : s.size ≤ 35184372088832) :
    Calls Tryz.prog 100 #[.string s] w fun e w' => e = .returned (.string ⟨(stuffL (L s)).toArray⟩) ∧ Below w.heap.size w w' := by
  go_enter Tryz.func100, Tryz.ntmps100
  go_wp2
  go_loopw [4, 9] (fun u v wr => ∃ i n : Nat, i ≤ s.size ∧ n ≤ 4 ∧ v = .int .i64 i ∧ u = .int .i64 n ∧ Aside0 (n = (stF ((L s).take i)).2) ∧ Lib.IsBuilderF 230 5 w.heap.size w.heap.size (Lib.byteCells (stF ((L s).take i)).1) wr ∧ Below w.heap.size w wr) (fun _ v _ => s.size - (intOf v).toNat)
  case atStart => exact ⟨0, 0, Nat.zero_le _, Nat.zero_le _, rfl, rfl, ⟨rfl⟩, Lib.IsBuilderF.of (Lib.fresh_isBuilder 230 5 w), (Below.refl _ w).alloc (Nat.le_refl _) _⟩
  case round =>
    obtain ⟨i, n, hi, hn4, rfl, rfl, HN, hI, hB⟩ := hrel
    by_cases hlt : i < s.size
    · have hl : i < (L s).length := by rw [← size_L]; exact hlt
      have hsz := hB.size
      have hbd := (stF_bound (L s) i (by omega)).2
      have HST := Aside0.mk (stF_take (L s) i hl)
      obtain ⟨b, HBy⟩ : ∃ b, Aside0 (b = (L s)[i]) := ⟨_, ⟨rfl⟩⟩
      obtain ⟨q, HQ⟩ : ∃ q, Aside0 (stF ((L s).take i) = q) := ⟨_, ⟨rfl⟩⟩
      rw [HQ.out] at HN hI hbd HST
      obtain ⟨a, m⟩ := q
      obtain rfl : n = m := HN.out
      replace hI : Lib.IsBuilderF 230 5 w.heap.size w.heap.size (Lib.byteCells a) wr := hI
      replace hbd : a.length ≤ 2 * i := hbd
      have hlen : (Lib.byteCells a).length + 1 ≤ 140737488355328 := by rw [Lib.byteCells_length]; omega
      have hlen2 : ∀ c, (Lib.byteCells (a ++ [c])).length + 1 ≤ 140737488355328 := fun c => by rw [Lib.byteCells_length, List.length_append]; show _ + 1 + 1 ≤ _; omega
      have hnx : ∀ (l : List UInt8) (c : UInt8), Lib.byteCells l ++ [.int .u8 (c.toNat : Int)] = Lib.byteCells (l ++ [c]) := fun l c => by rw [Lib.byteCells_append _ [_]]; rfl
      have HLen2 := Aside0.mk hlen2
      have HNX := Aside0.mk hnx
      clear hlen2 hnx hbd HN
      by_cases hx : b = 49
      · have hx1 : (((s[i]'hlt).toNat : Nat) : Int) = 49 := by show (((L s)[i].toNat : Nat) : Int) = 49; rw [← HBy.out, hx]; rfl
        have hx49 : (L s)[i] = 49 := by rw [← HBy.out, hx]
        have hst : stF ((L s).take (i + 1)) = if n + 1 = 5 then (a ++ [49, 48], 0) else (a ++ [49], n + 1) := by rw [HST.out, hx49]; rfl
        have HS2 := Aside0.mk hst
        clear hx49 hst hx
        go_wp2_with (go_at_call 137; refine (Buil.byte w.heap.size w.heap.size _ _ _ hI hlen hsz).mono ?_)
        rintro e W1 ⟨rfl, h1, b1, k1⟩
        rw [show (.int .u8 49 : Value) = .int .u8 ((49 : UInt8).toNat : Int) from rfl, HNX.out] at h1
        have hs1 := b1.size
        have hB1 := hB.trans b1
        clear hI hB hsz b1 k1 hlen
        by_cases h5 : n + 1 = 5
        · have h5' : (n : Int) + 1 = 5 := by omega
          have HS3 : Aside0 (stF ((L s).take (i + 1)) = (a ++ [49] ++ [48], 0)) := ⟨by rw [HS2.out, if_pos h5]; simp⟩
          have hsz := hB1.size
          clear h5
          go_wp2_with (go_at_call 137; refine (Buil.byte w.heap.size w.heap.size _ _ _ (Or.inr h1) (HLen2.out 49) hsz).mono ?_)
          rintro e W2 ⟨rfl, h2, b2, k2⟩
          rw [show (.int .u8 48 : Value) = .int .u8 ((48 : UInt8).toNat : Int) from rfl, HNX.out] at h2
          have hB2 := hB1.trans b2
          clear h1 hB1 b2 k2
          go_wp2
          go_roundw
          case rel => exact ⟨i + 1, 0, by omega, by omega, by go_num, rfl, ⟨by rw [HS3.out]⟩, by rw [HS3.out]; exact Or.inr h2, hB2⟩
          case measure => simp [intOf]; omega
        · have h5' : ¬ ((n : Int) + 1 = 5) := by omega
          have HS3 : Aside0 (stF ((L s).take (i + 1)) = (a ++ [49], n + 1)) := ⟨by rw [HS2.out, if_neg h5]⟩
          clear h5
          go_wp2
          go_roundw
          case rel => exact ⟨i + 1, n + 1, by omega, by omega, by go_num, by go_num, ⟨by rw [HS3.out]⟩, by rw [HS3.out]; exact Or.inr h1, hB1⟩
          case measure => simp [intOf]; omega
      · have hx1 : ¬ ((((s[i]'hlt).toNat : Nat) : Int) = 49) := by
          intro h
          replace h : (((L s)[i].toNat : Nat) : Int) = 49 := h
          apply hx
          rw [HBy.out]
          apply UInt8.toNat_inj.1
          show _ = 49
          omega
        have hx49 : ¬ ((L s)[i] = 49) := by rw [← HBy.out]; exact hx
        have HS3 : Aside0 (stF ((L s).take (i + 1)) = (a ++ [48], 0)) := ⟨by rw [HST.out]; unfold stS; rw [if_neg hx49]⟩
        clear hx49 hx
        go_wp2_with (go_at_call 137; refine (Buil.byte w.heap.size w.heap.size _ _ _ hI hlen hsz).mono ?_)
        rintro e W1 ⟨rfl, h1, b1, k1⟩
        rw [show (.int .u8 48 : Value) = .int .u8 ((48 : UInt8).toNat : Int) from rfl, HNX.out] at h1
        have hB1 := hB.trans b1
        clear hI hB hsz b1 k1 hlen
        go_wp2
        go_roundw
        case rel => exact ⟨i + 1, 0, by omega, by omega, by go_num, rfl, ⟨by rw [HS3.out]⟩, by rw [HS3.out]; exact Or.inr h1, hB1⟩
        case measure => simp [intOf]; omega
    · have e : (L s).take i = L s := List.take_of_length_le (by rw [← size_L]; omega)
      rw [e] at hI
      have hsz := hB.size
      go_wp2_with (go_at_call 138; refine (Tryz.Builder_String_any_k w.heap.size w.heap.size (stF (L s)).1 _ hI hsz).mono ?_)
      rintro e W1 ⟨rfl, _, b1, _⟩
      go_wp2
      go_ret
      exact ⟨rfl, hB.trans b1⟩
set_option maxHeartbeats 4000000 in
set_option maxRecDepth 1000000 in
theorem encode (s : ByteArray) (w : World) (hs : s.size ≤ 4398046511104) :
    Calls Tryz.prog 62 #[.string s] w fun e w' => e = .returned (.string ⟨(encL (L s)).toArray⟩) ∧ Below w.heap.size w w' := by
  have hz1 : (⟨(ofL (L s)).toArray⟩ : ByteArray).size ≤ 35184372088832 := by rw [size_L, L_mk, ofL_length, ← size_L]; omega
  have he : (⟨#[48, 49, 49, 49, 49, 49, 49, 48]⟩ : ByteArray) ++ ⟨(stuffL (ofL (L s))).toArray⟩ ++ ⟨#[48, 49, 49, 49, 49, 49, 49, 48]⟩ = ⟨(encL (L s)).toArray⟩ := inj (by rw [L_app, L_app, L_mk, L_mk]; rfl)
  have hz2 : (stuffL (ofL (L s))).length ≤ 70368744177664 := by have := stuffL_length (ofL (L s)); rw [ofL_length, ← size_L] at this; omega
  have HE := Aside0.mk he
  clear he
  go_enter Tryz.func62, Tryz.ntmps62
  go_wp2_with fail
  refine (BitsOf.walk s _ (by omega)).mono ?_
  rintro e w1 ⟨rfl, hb⟩
  go_wp2_with fail
  refine (stuff _ _ hz1).mono ?_
  rintro e w2 ⟨he, hb2⟩
  rw [L_mk] at he
  subst he
  have hb3 := below_step hb hb2
  clear hb hb2
  go_wp2
  go_ret
  exact ⟨congrArg (fun z => Ending.returned (Value.string z)) HE.out, hb3⟩
end Go.Proofs.YtljnfbpplhnmfaaGreatDoor.Hd
namespace Go.Proofs.YtljnfbpplhnmfaaGreatDoor.Hd
open Go.RowKit Go.Proofs.YtljnfbpplhnmfaaGreatDoorW.PrintWords Go.Proofs.YtljnfbpplhnmfaaGreatDoorW.PrintLast Go.Proofs.YtljnfbpplhnmfaaGreatDoorW.PrintMore Go.Proofs.YtljnfbpplhnmfaaGreatDoor.Str Go.Proofs.YtljnfbpplhnmfaaGreatDoor.Bits Go.Proofs.YtljnfbpplhnmfaaGreatDoor.Oct Go.Proofs.YtljnfbpplhnmfaaGreatDoor.OctW
set_option linter.unusedVariables false
theorem infoEv : (Tryz.prog.info? 160).map (fun i => (i.zero, i.size, i.bytes)) = some (some (.agg #[.int .i64 0, .string ⟨#[]⟩]), 2, 24) := by kernel_rfl
def evCells (l : List Ev) : List Value := l.flatMap fun e => [.int .i64 e.1, .string ⟨e.2.toArray⟩]
theorem evCells_append (a b : List Ev) : evCells (a ++ b) = evCells a ++ evCells b := by simp [evCells]
set_option maxRecDepth 100000 in
theorem or_one (b : UInt8) : (Go.bits .or .u8 (b.toNat : Int) 1 = 49) ↔ isDig b = true := by
  have h : ∀ n : Fin 256, (Go.bits .or .u8 (n.val : Int) 1 = 49) ↔ isDig (UInt8.ofNat n.val) = true := by decide +kernel
  have := h ⟨b.toNat, b.toNat_lt⟩
  simpa using this
theorem own_apart {w : World} {B B' z z' n n' : Nat} {e e' : TypeId} {v u : Value} {xs ys : List Value} (h : w.ownsRow B e z v n xs) (k : w.ownsRow B' e' z' u n' ys) (hne : e ≠ e') (j : Nat) (hv : v.ownBlock = some j) (hu : u.ownBlock = some j) : False := by
  rcases k.2 with ⟨rfl, _⟩ | ⟨g, cap, cur, rfl, _, hh, _⟩
  · cases hu
  · obtain rfl : g = j := by simpa [Value.ownBlock] using hu
    exact own_ne h hh (Ne.symm hne) g hv rfl
theorem Went.refl {B d : Nat} {v : Value} {s : St} {w : World} (h : DecAt B w d v s) : Went B d v s w w := ⟨v, h, fun j hj => Or.inl hj, Kb.refl _ _⟩
theorem Went.size {B d : Nat} {v : Value} {s : St} {w w' : World} (h : Went B d v s w w') : w.heap.size ≤ w'.heap.size := by
  obtain ⟨v', _, _, h3⟩ := h
  exact h3.size
theorem Went.step {B d : Nat} {v : Value} {s1 : St} {w wr : World} (h : Went B d v s1 w wr) (hd : d < w.heap.size) : ∃ v1, DecAt B wr d v1 s1 ∧ (∀ s2 w1, Went B d v1 s2 wr w1 → Went B d v s2 w w1) ∧
    (∀ (u : Value) (n : Nat) (xs : List Value) (s2 : St) (w1 : World), Went B d v1 s2 wr w1 → wr.ownsRow w.heap.size 160 2 u n xs → w1.ownsRow w.heap.size 160 2 u n xs) := by
  obtain ⟨v1, h1, h2, h3⟩ := h
  refine ⟨v1, h1, fun s2 w1 ⟨v2, k1, k2, k3⟩ => ⟨v2, k1, fun j hj => ?_, h3.trans k3 (fun j hj t => ?_)⟩, fun u n xs s2 w1 ⟨v2, k1, k2, k3⟩ hr => k3.row hr (fun j hj t => ?_)⟩
  · rcases k2 j hj with h | h
    · exact h2 j h
    · exact Or.inr (Nat.le_trans h3.size h)
  · rcases t with t | t
    · exact Or.inl t
    · rcases h2 j t with h | h
      · exact Or.inr h
      · omega
  · rcases t with t | t
    · have := (hr.lt j hj).1
      omega
    · exact own_apart h1.2 hr (by decide) j t hj
theorem Went.alloc {B d : Nat} {v : Value} {s : St} {w w' : World} (h : Went B d v s w w') (o : Obj) : Went B d v s w (w'.alloc o) := by
  obtain ⟨v1, ⟨h1, h1'⟩, h2, h3⟩ := h
  exact ⟨v1, ⟨heap_al h1 o, h1'.alloc o⟩, h2, h3.alloc o⟩
theorem Went.grown {B d n : Nat} {v u : Value} {s : St} {w w1 w2 : World} {xs : List Value} (h : Went B d v s w w1) (hd : d < w.heap.size) (ho : w1.ownsRow w.heap.size 160 2 u n xs) (hg : w1.grownBy w2 u.ownBlock) : Went B d v s w w2 := by
  obtain ⟨v1, ⟨h1, h1'⟩, h2, h3⟩ := h
  have hk : Kb (fun j => u.ownBlock = some j) w1 w2 := (Kb.refl _ _).grown hg (fun k hk _ => hk)
  refine ⟨v1, ⟨?_, hk.row h1' (fun j hj t => own_apart h1' ho (by decide) j hj t)⟩, h2, h3.trans hk (fun j hj t => ?_)⟩
  · rw [hk.block d (Array.getElem?_eq_some_iff.1 h1).1 (fun t => by have := (ho.lt d t).1; omega)]
    exact h1
  · have := (ho.lt j t).1
    omega
set_option maxHeartbeats 8000000 in
set_option maxRecDepth 1000000 in
theorem feed (B d : Nat) (v : Value) (s : St) (b : ByteArray) (w : World) (h : DecAt B w d v s) (hB : B ≤ w.heap.size) (hok : s.ok) (hon : s.ones ≤ 1099511627776) (hs : b.size ≤ 1099511627776) :
    Calls Tryz.prog 61 #[.pointer (some ⟨d, 0, none⟩), .string b] w fun e w' => ∃ u, e = .returned u ∧ w'.ownsRow w.heap.size 160 2 u (feedL s (L b)).2.length (evCells (feedL s (L b)).2) ∧ Went B d v (feedL s (L b)).1 w w' := by
  have hd := h.lt
  have H := Aside0.mk h
  have HK := Aside0.mk hok
  clear h hok
  obtain ⟨i0, hi, hz0, hz1, hz2⟩ := info_parts infoEv
  go_enter Tryz.func61, Tryz.ntmps61
  go_wp2
  go_loopw [5, 13] (fun u x wr => ∃ i : Nat, i ≤ b.size ∧ x = .int .i64 i ∧ Aside0 (wr.ownsRow w.heap.size 160 2 u (feedL s ((L b).take i)).2.length (evCells (feedL s ((L b).take i)).2)) ∧ Aside0 (Went B d v (feedL s ((L b).take i)).1 w wr)) (fun _ x _ => b.size - (intOf x).toNat)
  case atStart => exact ⟨0, Nat.zero_le _, rfl, ⟨World.ownsRow_nil _ _ _ _⟩, ⟨Went.refl H.out⟩⟩
  case round =>
    obtain ⟨i, hi', rfl, HO, HW⟩ := hrel
    by_cases hlt : i < b.size
    · have hl : i < (L b).length := by rw [← size_L]; exact hlt
      have HST := Aside0.mk (feedL_take s (L b) i hl)
      have hev := feedL_len s (L b) i (by omega)
      have hsok := feedL_ok s ((L b).take i) HK.out
      rw [List.length_take] at hsok
      obtain ⟨q, HQ⟩ : ∃ q, Aside0 (feedL s ((L b).take i) = q) := ⟨_, ⟨rfl⟩⟩
      rw [HQ.out] at HO HW hev hsok HST
      obtain ⟨s1, evs⟩ := q
      obtain ⟨hsok, hson⟩ := hsok
      dsimp only at HO HW hev hsok hson
      obtain ⟨x, HX⟩ : ∃ x, Aside0 ((L b)[i] = x) := ⟨_, ⟨rfl⟩⟩
      have hor := or_one x
      rw [← HX.out] at hor
      replace hor : (Go.bits .or .u8 ((((b[i]'hlt).toNat : Nat)) : Int) 1 = 49) ↔ isDig ((L b)[i]) = true := hor
      rw [HX.out] at hor HST
      by_cases hdg : isDig x = true
      · have h49 := hor.2 hdg
        have hx : x = 48 ∨ x = 49 := by unfold isDig at hdg; simpa using hdg
        have hst2 : feedL s ((L b).take (i + 1)) = ((stepS s1 x).1, evs ++ (stepS s1 x).2.toList) := by rw [HST.out]; unfold feed1; rw [if_pos hdg]
        have HST2 := Aside0.mk hst2
        have HDX := Aside0.mk hx
        obtain ⟨v1, hd1, htr, hrow⟩ := HW.out.step hd
        clear hor hdg hst2 hx
        have hsr := HW.out.size
        go_wp2_with fail
        have hbx : b[i]'hlt = x := HX.out
        refine (bit B d v1 s1 (b[i]'hlt) wr (hbx.symm ▸ HDX.out) hd1 (by omega) hsok (by omega)).mono ?_
        rintro e w1 ⟨he, hw⟩
        rw [hbx] at he hw
        obtain ⟨⟨s2, o⟩, HQ2⟩ : ∃ q, Aside0 (stepS s1 x = q) := ⟨_, ⟨rfl⟩⟩
        rw [HQ2.out] at he hw HST2
        dsimp only at he hw HST2
        have hW2 := htr _ _ hw
        have HO2 := Aside0.mk (hrow _ _ _ _ _ hw HO.out)
        have hs1 := hW2.size
        have HW2 := Aside0.mk hW2
        clear htr hrow hw hd1 hbx hW2 hsok hson
        cases o with
        | none =>
          replace he : e = .returned (.tuple #[.agg #[.int .i64 0, .string ⟨#[]⟩], .bool false]) := he
          subst he
          have HST3 : Aside0 (feedL s ((L b).take (i + 1)) = (s2, evs)) := ⟨by rw [HST2.out]; simp⟩
          go_wp2
          go_roundw
          case rel => exact ⟨i + 1, by omega, by go_num, by rw [HST3.out]; exact ⟨HO2.out.alloc _⟩, by rw [HST3.out]; exact ⟨HW2.out.alloc _⟩⟩
          case measure => simp [intOf]; omega
        | some ev =>
          obtain ⟨k, l⟩ := ev
          replace he : e = .returned (.tuple #[.agg #[.int .i64 k, .string ⟨l.toArray⟩], .bool true]) := he
          subst he
          have HST3 : Aside0 (feedL s ((L b).take (i + 1)) = (s2, evs ++ [(k, l)])) := ⟨by rw [HST2.out]; rfl⟩
          have hc1 : ∀ (E : Obj) (x y : Value) (T : TypeId) (j : Nat) (u : Value), [x, y][j]? = some u → ((w1.alloc E).alloc (.cells #[x, y] T)).cell? ((⟨w1.heap.size + 1, 0, none⟩ : Addr).add j) = some u := by
            intro E x y T j u hj
            have hn := Go.heap_alloc_new (w1.alloc E) (.cells #[x, y] T)
            rw [show (w1.alloc E).heap.size = w1.heap.size + 1 from by show (w1.heap.push E).size = _; simp] at hn
            match j, hj with
            | 0, hj => simp at hj; subst hj; show World.cell? _ ((⟨w1.heap.size + 1, 0, none⟩ : Addr).add 0) = _; rw [show (⟨w1.heap.size + 1, 0, none⟩ : Addr).add 0 = ⟨w1.heap.size + 1, 0, none⟩ from by simp [Addr.add], Lib.cell_of_heap hn]; rfl
            | 1, hj => simp at hj; subst hj; rw [show (⟨w1.heap.size + 1, 0, none⟩ : Addr).add 1 = ⟨w1.heap.size + 1, 1, none⟩ from by simp [Addr.add], Lib.cell_of_heap hn]; rfl
          have HC1 := Aside0.mk hc1
          clear hc1
          go_wp2_with (at_builtin; refine wpList_append_own_at _ rfl _ _ 151 rfl w.heap.size 160 i0 (.agg #[.int .i64 0, .string ⟨#[]⟩]) 2 24 Tryz.underlying151 hi hz0 hz1 hz2 rfl (by decide) _ _ _ rfl ((HO2.out.alloc _).alloc _) ⟨w1.heap.size + 1, 0, none⟩ 1 1 [.int .i64 k, .string ⟨l.toArray⟩] rfl rfl ?c1 ?c2 ?c3 ?c4 ?c5 ?_)
          case c1 => exact HC1.out _ _ _ _
          case c2 => intro u hu; simp at hu; rcases hu with rfl | rfl <;> rfl
          case c3 => unfold maxLen; omega
          case c4 => omega
          case c5 => simp; omega
          intro v' w2 hown' hgrow _ hat
          have hW3 := ((HW2.out.alloc (.cells #[.int .i64 k, .string ⟨l.toArray⟩] 160)).alloc (.cells #[.int .i64 k, .string ⟨l.toArray⟩] 160)).grown hd ((HO2.out.alloc _).alloc _) hgrow
          have HW3 := Aside0.mk hW3
          have HO3 : Aside0 (w2.ownsRow w.heap.size 160 2 v' (evs ++ [(k, l)]).length (evCells (evs ++ [(k, l)]))) := ⟨by
            rw [List.length_append, evCells_append]
            exact hown'⟩
          clear hown' hgrow hat hW3
          go_wp2
          go_roundw
          case rel => exact ⟨i + 1, by omega, by go_num, by rw [HST3.out]; exact HO3, by rw [HST3.out]; exact HW3⟩
          case measure => simp [intOf]; omega
      · have h49 : ¬ (Go.bits .or .u8 ((((b[i]'hlt).toNat : Nat)) : Int) 1 = 49) := fun h => hdg (hor.1 h)
        have HST2 : Aside0 (feedL s ((L b).take (i + 1)) = (s1, evs)) := ⟨by rw [HST.out]; unfold feed1; rw [if_neg hdg]⟩
        clear hor hdg hev hsok hson
        go_wp2
        go_roundw
        case rel => exact ⟨i + 1, by omega, by go_num, by rw [HST2.out]; exact HO, by rw [HST2.out]; exact HW⟩
        case measure => simp [intOf]; omega
    · have e : (L b).take i = L b := List.take_of_length_le (by rw [← size_L]; omega)
      rw [e] at HO HW
      go_wp2
      go_ret
      exact ⟨_, rfl, HO.out, HW.out⟩
end Go.Proofs.YtljnfbpplhnmfaaGreatDoor.Hd
namespace Go.Proofs.YtljnfbpplhnmfaaGreatDoor.Fw
open Go Go.RowKit Go.Proofs.YtljnfbpplhnmfaaGreatDoorW.PrintWords Go.Proofs.YtljnfbpplhnmfaaGreatDoorW.PrintLast Go.Proofs.YtljnfbpplhnmfaaGreatDoorW.PrintMore Go.Proofs.YtljnfbpplhnmfaaGreatDoor.Str
set_option linter.unusedVariables false
set_option maxRecDepth 100000
set_option maxHeartbeats 4000000
theorem madeW (w : World) : Calls Tryz.prog 59 #[.agg #[.int .i64 0, .int .i64 0, .int .i64 0, .bool false, .string ⟨#[97]⟩]] w fun e w' => e = .returned (.agg #[.int .i64 0, .int .i64 64, .bool true, .int .i64 0, .bool false, .int .i64 0, .int .i64 0, .string ⟨#[97]⟩]) ∧ Below w.heap.size w w' := by
  have a127 : Go.bits .and .i64 0 127 = 0 := by decide +kernel
  have hsz : (⟨#[97]⟩ : ByteArray).size = 1 := rfl
  have hcut : (⟨#[97]⟩ : ByteArray).extract 0 (min 1 100 : Int).toNat = ⟨#[97]⟩ := by decide +kernel
  go_enter Tryz.func59, Tryz.ntmps59
  go_wp2_with fail
  refine (numW 0 _).mono ?_
  rintro e w1 ⟨rfl, rfl⟩
  have s1 : (w.alloc (.cells #[.int .i64 0, .int .i64 0, .int .i64 0, .bool false, .string ⟨#[97]⟩] 150)).heap.size = w.heap.size + 1 := by show (w.heap.push _).size = _; simp
  have s2 : ((w.alloc (.cells #[.int .i64 0, .int .i64 0, .int .i64 0, .bool false, .string ⟨#[97]⟩] 150)).alloc (.cells #[.int .i64 0, .int .i64 0, .bool false, .int .i64 0, .bool false, .int .i64 0, .int .i64 0, .string ⟨#[]⟩] 144)).heap.size = w.heap.size + 1 + 1 := by show ((w.heap.push _).push _).size = _; simp
  have s3 : (((w.alloc (.cells #[.int .i64 0, .int .i64 0, .int .i64 0, .bool false, .string ⟨#[97]⟩] 150)).alloc (.cells #[.int .i64 0, .int .i64 0, .bool false, .int .i64 0, .bool false, .int .i64 0, .int .i64 0, .string ⟨#[]⟩] 144)).alloc (.cells #[.int .i64 0, .int .i64 6, .int .i64 1, .int .i64 4] 142)).heap.size = w.heap.size + 1 + 1 + 1 := by show (((w.heap.push _).push _).push _).size = _; simp
  have h1 : ((((w.alloc (.cells #[.int .i64 0, .int .i64 0, .int .i64 0, .bool false, .string ⟨#[97]⟩] 150)).alloc (.cells #[.int .i64 0, .int .i64 0, .bool false, .int .i64 0, .bool false, .int .i64 0, .int .i64 0, .string ⟨#[]⟩] 144)).alloc (.cells #[.int .i64 0, .int .i64 6, .int .i64 1, .int .i64 4] 142)).alloc (.cells #[.int .i64 0, .int .i64 64, .bool true, .int .i64 0, .bool false, .int .i64 0, .int .i64 0, .string ⟨#[]⟩] 144)).heap[w.heap.size]? = some (.cells #[.int .i64 0, .int .i64 0, .int .i64 0, .bool false, .string ⟨#[97]⟩] 150 (0, 0)) := blk_alloc (blk_alloc (blk_alloc (blk_new w _) _) _) _
  have h2 : ((((w.alloc (.cells #[.int .i64 0, .int .i64 0, .int .i64 0, .bool false, .string ⟨#[97]⟩] 150)).alloc (.cells #[.int .i64 0, .int .i64 0, .bool false, .int .i64 0, .bool false, .int .i64 0, .int .i64 0, .string ⟨#[]⟩] 144)).alloc (.cells #[.int .i64 0, .int .i64 6, .int .i64 1, .int .i64 4] 142)).alloc (.cells #[.int .i64 0, .int .i64 64, .bool true, .int .i64 0, .bool false, .int .i64 0, .int .i64 0, .string ⟨#[]⟩] 144)).heap[w.heap.size + 1]? = some (.cells #[.int .i64 0, .int .i64 0, .bool false, .int .i64 0, .bool false, .int .i64 0, .int .i64 0, .string ⟨#[]⟩] 144 (0, 0)) := by
    have := blk_new (w.alloc (.cells #[.int .i64 0, .int .i64 0, .int .i64 0, .bool false, .string ⟨#[97]⟩] 150)) (.cells #[.int .i64 0, .int .i64 0, .bool false, .int .i64 0, .bool false, .int .i64 0, .int .i64 0, .string ⟨#[]⟩] 144 (0, 0))
    rw [s1] at this
    exact blk_alloc (blk_alloc this _) _
  have h4 : ((((w.alloc (.cells #[.int .i64 0, .int .i64 0, .int .i64 0, .bool false, .string ⟨#[97]⟩] 150)).alloc (.cells #[.int .i64 0, .int .i64 0, .bool false, .int .i64 0, .bool false, .int .i64 0, .int .i64 0, .string ⟨#[]⟩] 144)).alloc (.cells #[.int .i64 0, .int .i64 6, .int .i64 1, .int .i64 4] 142)).alloc (.cells #[.int .i64 0, .int .i64 64, .bool true, .int .i64 0, .bool false, .int .i64 0, .int .i64 0, .string ⟨#[]⟩] 144)).heap[w.heap.size + 1 + 1 + 1]? = some (.cells #[.int .i64 0, .int .i64 64, .bool true, .int .i64 0, .bool false, .int .i64 0, .int .i64 0, .string ⟨#[]⟩] 144 (0, 0)) := by
    have := blk_new (((w.alloc (.cells #[.int .i64 0, .int .i64 0, .int .i64 0, .bool false, .string ⟨#[97]⟩] 150)).alloc (.cells #[.int .i64 0, .int .i64 0, .bool false, .int .i64 0, .bool false, .int .i64 0, .int .i64 0, .string ⟨#[]⟩] 144)).alloc (.cells #[.int .i64 0, .int .i64 6, .int .i64 1, .int .i64 4] 142)) (.cells #[.int .i64 0, .int .i64 64, .bool true, .int .i64 0, .bool false, .int .i64 0, .int .i64 0, .string ⟨#[]⟩] 144 (0, 0))
    rw [s3] at this
    exact this
  have hb : Below w.heap.size w ((((w.alloc (.cells #[.int .i64 0, .int .i64 0, .int .i64 0, .bool false, .string ⟨#[97]⟩] 150)).alloc (.cells #[.int .i64 0, .int .i64 0, .bool false, .int .i64 0, .bool false, .int .i64 0, .int .i64 0, .string ⟨#[]⟩] 144)).alloc (.cells #[.int .i64 0, .int .i64 6, .int .i64 1, .int .i64 4] 142)).alloc (.cells #[.int .i64 0, .int .i64 64, .bool true, .int .i64 0, .bool false, .int .i64 0, .int .i64 0, .string ⟨#[]⟩] 144)) := ((((Below.refl _ w).alloc (Nat.le_refl _) _).alloc (by rw [s1]; omega) _).alloc (by rw [s2]; omega) _).alloc (by rw [s3]; omega) _
  have HB := Aside0.mk hb
  have H2 := Aside0.mk h2
  have H4 := Aside0.mk h4
  clear hb s1 s2 s3
  generalize (((w.alloc (.cells #[.int .i64 0, .int .i64 0, .int .i64 0, .bool false, .string ⟨#[97]⟩] 150)).alloc (.cells #[.int .i64 0, .int .i64 0, .bool false, .int .i64 0, .bool false, .int .i64 0, .int .i64 0, .string ⟨#[]⟩] 144)).alloc (.cells #[.int .i64 0, .int .i64 6, .int .i64 1, .int .i64 4] 142)).alloc (.cells #[.int .i64 0, .int .i64 64, .bool true, .int .i64 0, .bool false, .int .i64 0, .int .i64 0, .string ⟨#[]⟩] 144) = w1 at *
  have t0 := cellQ h1 0 (.int .i64 0) rfl
  have t1 := cellQ h1 1 (.int .i64 0) rfl
  have t2 := cellQ h1 2 (.int .i64 0) rfl
  have t3 := cellQ h1 3 (.bool false) rfl
  have t4 := cellQ h1 4 (.string ⟨#[97]⟩) rfl
  obtain ⟨x0, x1, x2, x3, x4, x5, x6, x7⟩ := cells8 h4
  obtain ⟨f0, f1, f2, f3, f4, f5, f6, f7⟩ := frozen8 h4
  obtain ⟨y0, y1, y2, y3, y4, y5, y6, y7⟩ := cells8 h2
  obtain ⟨g0, g1, g2, g3, g4, g5, g6, g7⟩ := frozen8 h2
  clear h1 h2 h4
  go_wp2_with fail
  have hk2 : ((w1.setCell ⟨w.heap.size + 1 + 1 + 1, 6, none⟩ (.int .i64 0)).setCell ⟨w.heap.size + 1 + 1 + 1, 7, none⟩ (.string ⟨#[97]⟩)).heap[w.heap.size + 1]? = some (.cells #[.int .i64 0, .int .i64 0, .bool false, .int .i64 0, .bool false, .int .i64 0, .int .i64 0, .string ⟨#[]⟩] 144 (0, 0)) := (Below.heap_setCell _ _ _ _ (by show ¬ w.heap.size + 1 = w.heap.size + 1 + 1 + 1; omega)).trans ((Below.heap_setCell _ _ _ _ (by show ¬ w.heap.size + 1 = w.heap.size + 1 + 1 + 1; omega)).trans H2.out)
  refine bodyPost_ret (results_c1 rfl _ _ (w.heap.size + 1) 144 #[.int .i64 0, .int .i64 64, .bool true, .int .i64 0, .bool false, .int .i64 0, .int .i64 0, .string ⟨#[97]⟩] (0, 0) _ rfl (set8 hk2 _ _ _ _ _ _ _ _) Tryz.underlying144 rfl (by kernel_rfl)) rfl ?_
  exact ⟨rfl, below8 ((HB.out.setCell (p := ⟨w.heap.size + 1 + 1 + 1, 6, none⟩) (by show w.heap.size ≤ w.heap.size + 1 + 1 + 1; omega) _).setCell (p := ⟨w.heap.size + 1 + 1 + 1, 7, none⟩) (by show w.heap.size ≤ w.heap.size + 1 + 1 + 1; omega) _) (Nat.le_succ _) _ _ _ _ _ _ _ _⟩
open Go.Proofs.YtljnfbpplhnmfaaGreatDoor.Hd (feed encode new new_dec evCells feedL encL St)
def txt : ByteArray := seal_ (iT ⟨#[97]⟩)
theorem met1 : (feedL St.new (L ⟨(encL (L txt)).toArray⟩)).2 = [((0 : Int), L txt)] := by decide +kernel
theorem txt_size : txt.size = 7 := by decide +kernel
theorem enc_size : (⟨(encL (L txt)).toArray⟩ : ByteArray).size ≤ 1000 := by decide +kernel
theorem one_event {w : World} {B : Nat} {u : Value} {l : List UInt8} (h : w.ownsRow B 160 2 u 1 (evCells [((0 : Int), l)])) : ∃ g c, u = .slice (some ⟨g, 0, none⟩) 1 c ∧ w.cell? ⟨g, 0, none⟩ = some (.int .i64 0) ∧ w.cell? ⟨g, 1, none⟩ = some (.string ⟨l.toArray⟩) := by
  rcases h.2 with ⟨_, h1⟩ | ⟨g, cap, cur, rfl, _, hg, hn, _, hs, ht⟩
  · cases h1
  · have hc : ∀ (j : Nat) (v : Value), (evCells [((0 : Int), l)])[j]? = some v → cur[j]? = some v := fun j v hv => by
      rw [← ht] at hv
      have hj := (List.getElem?_eq_some_iff.1 hv).1
      rw [List.getElem?_take_of_lt (by rw [List.length_take] at hj; omega), Array.getElem?_toList] at hv
      exact hv
    exact ⟨g, cap, rfl, cellQ hg 0 _ (hc 0 _ rfl), cellQ hg 1 _ (hc 1 _ rfl)⟩
theorem readsW (w : World) (hL : LaidC w) : Calls Tryz.prog 35 #[] w fun e w' => e = .returned (.bool true) ∧ Below w.heap.size w w' := by
  have HL := Aside0.mk hL
  clear hL
  go_enter Tryz.func35, Tryz.ntmps35
  go_wp2_with fail
  refine (madeW w).mono ?_
  rintro e w1 ⟨rfl, hb1⟩
  have B1 := Aside0.mk hb1
  clear hb1
  have HPU : Aside0 (∀ v, LaidC v → Calls Tryz.prog 58 #[.agg #[.int .i64 0, .int .i64 64, .bool true, .int .i64 0, .bool false, .int .i64 0, .int .i64 0, .string ⟨#[97]⟩], .bool false] v fun e w' => e = .returned (.tuple #[.string txt, .int .i64 0]) ∧ Below v.heap.size v w') := ⟨fun v hv => fputI ⟨#[97]⟩ v hv (by decide)⟩
  have HGE : Aside0 (∀ v, LaidC v → Calls Tryz.prog 63 #[.string txt, .bool false] v fun e w' => e = .returned (.tuple #[.agg #[.int .i64 0, .int .i64 64, .bool true, .int .i64 0, .bool false, .int .i64 0, .int .i64 0, .string ⟨#[97]⟩], .int .i64 0]) ∧ Below v.heap.size v w') := ⟨fun v hv => fgetI ⟨#[97]⟩ v hv (by decide)⟩
  have HM1 := Aside0.mk met1
  have HTS := Aside0.mk txt_size
  have HES := Aside0.mk enc_size
  generalize txt = t at *
  go_wp2_with fail
  refine (HPU.out w1 (HL.out.below B1.out)).mono ?_
  rintro e w2 ⟨rfl, hb⟩
  have B2 := Aside0.mk (below_step B1.out hb)
  clear hb HPU B1
  go_wp2_with fail
  refine (new w2).mono ?_
  rintro e w3 ⟨rfl, rfl⟩
  have hd0 := new_dec w2 w2.heap.size
  have B3 := Aside0.mk (B2.out.alloc B2.out.size (.cells #[.slice none 0 0, .bool false, .int .i64 0] 199))
  have HDL : Aside0 (w.heap.size ≤ w2.heap.size) := ⟨B2.out.size⟩
  generalize w2.heap.size = d at *
  generalize w2.alloc (.cells #[.slice none 0 0, .bool false, .int .i64 0] 199) = w3 at *
  have HD := Aside0.mk hd0
  clear hd0 B2
  go_wp2_with fail
  refine (encode t w3 (by have := HTS.out; omega)).mono ?_
  rintro e w4 ⟨rfl, hb⟩
  have HD4 : Aside0 (Go.Proofs.YtljnfbpplhnmfaaGreatDoor.Hd.DecAt d w4 d (.slice none 0 0) St.new) := ⟨(hb.block _ (Array.getElem?_eq_some_iff.1 HD.out.1).1).trans HD.out.1, World.ownsRow_nil _ _ _ _⟩
  have B4 := Aside0.mk (below_step B3.out hb)
  clear hb HD B3
  go_wp2_with fail
  refine (feed d d (.slice none 0 0) St.new ⟨(encL (L t)).toArray⟩ w4 HD4.out (Nat.le_of_lt HD4.out.lt) (by show (0 : Nat) ≤ 2135; omega) (by show (0 : Nat) ≤ _; omega) (by have := HES.out; omega)).mono ?_
  rintro e w5 ⟨u, rfl, how, hwent⟩
  obtain ⟨v', _, _, hkb⟩ := hwent
  have B5 := Aside0.mk (B4.out.trans (hkb.below B4.out.size (fun k hk => by
    rcases hk with hk | hk
    · have := HDL.out; omega
    · cases hk)))
  rw [HM1.out] at how
  obtain ⟨g, cp, rfl, k0, k1⟩ := one_event how
  rw [show (⟨(L t).toArray⟩ : ByteArray) = t from inj rfl] at k1
  clear how hkb B4 HD4
  go_wp2_with fail
  refine (HGE.out w5 (HL.out.below B5.out)).mono ?_
  rintro e w6 ⟨rfl, hb⟩
  have B6 := Aside0.mk (below_step B5.out hb)
  clear hb B5 k0 k1
  go_wp2
  go_ret
  exact ⟨rfl, B6.out.alloc B6.out.size _⟩
end Go.Proofs.YtljnfbpplhnmfaaGreatDoor.Fw
namespace Go.Proofs.YtljnfbpplhnmfaaGreatDoor.Pa
open Go Go.RowKit Go.Proofs.YtljnfbpplhnmfaaGreatDoorW.PrintWords Go.Proofs.YtljnfbpplhnmfaaGreatDoorW.PrintLast Go.Proofs.YtljnfbpplhnmfaaGreatDoorW.PrintMore Go.Proofs.YtljnfbpplhnmfaaGreatDoor.Str Go.Proofs.YtljnfbpplhnmfaaGreatDoor.Mp Go.Proofs.YtljnfbpplhnmfaaGreatDoor.Ra Go.Proofs.YtljnfbpplhnmfaaGreatDoor.Sl Go.Proofs.YtljnfbpplhnmfaaGreatDoor.Qu Go.Proofs.YtljnfbpplhnmfaaGreatDoor.Ru Go.Proofs.YtljnfbpplhnmfaaGreatDoor.Md
open Go.Proofs.YtljnfbpplhnmfaaGreatDoor.En (frCells efCells efs efs_app efs_one orow entAt)
set_option linter.unusedVariables false
set_option linter.unusedSimpArgs false
set_option maxRecDepth 1000000
set_option maxHeartbeats 8000000
def nils : Value := .slice none 0 0
def pzero (e0 e1 : Value) : Array Value := #[e0, e1, nils, nils, nils, nils, nils, nils, nils, nils, nils, nils, .int .i64 0, .int .i64 0, .int .i64 0, .int .i64 0, .int .i64 0, .int .i64 0]
theorem norow_end {L : List SP} {T : Nat → Prop} {w0 w : World} (e : TypeId) (z : Nat) (h : Went (all L) T w0 w) : Went (all (L ++ [row e z nils 0 []])) T w0 w :=
  (h.norow e z).perm (List.perm_append_comm (l₁ := [row e z nils 0 []]) (l₂ := L))
theorem begin_close {k n : Int} {g b0 m0 f0 b1 m1 f1 : Nat} {T : Nat → Prop} {w0 w : World} (h : Went (all [entAt b1 m1 f1 (En.ent0 k n), entAt b0 m0 f0 (En.ent0 k n), blk g (.cells (pzero (.pointer (some ⟨b0, 0, none⟩)) (.pointer (some ⟨b1, 0, none⟩))) 38 (0, 0))]) T w0 w) : Went (pairAt ⟨g, b0, m0, f0, b1, m1, f1⟩ 0 (begin0 k n)) T w0 w := by
  have hok : PB 0 (begin0 k n) := by
    have hs : SB 0 (side0 k n) := ⟨Nat.le_refl _, Nat.le_refl _, Nat.le_refl _, Nat.le_refl _, Nat.le_refl _, ⟨Int.le_refl _, Int.le_refl _⟩, ⟨Int.le_refl _, Int.le_refl _⟩, (fun f hf => by cases hf), rfl⟩
    exact ⟨Nat.zero_le _, hs, hs, ⟨Int.le_refl _, Int.le_refl _⟩, ⟨Int.le_refl _, Int.le_refl _⟩⟩
  have h1 := h.perm (L' := [blk g (.cells (pzero (.pointer (some ⟨b0, 0, none⟩)) (.pointer (some ⟨b1, 0, none⟩))) 38 (0, 0)), entAt b0 m0 f0 (En.ent0 k n), entAt b1 m1 f1 (En.ent0 k n)]) (List.reverse_perm _).symm
  have h2 := norow_end 9 1 (norow_end 9 1 (norow_end 9 1 (norow_end 9 1 (norow_end 9 1 (norow_end 9 1 (norow_end 42 2 (norow_end 42 2 (norow_end 144 8 (norow_end 144 8 h1)))))))))
  have h3 := h2.know hok
  exact h3.imp (fun T1 h4 => ⟨⟨nils, nils, nils, nils, nils, nils, nils, nils, nils, nils⟩, h4⟩)
theorem beginC (k n : Int) (w : World) (hL : Fw.LaidC w) :
    Calls Tryz.prog 29 #[.int .i64 k, .int .i64 n] w fun r w' => ∃ I : PI, r = .returned (.tuple #[.pointer (some ⟨I.g, 0, none⟩), .bool true]) ∧ Went (pairAt I 0 (begin0 k n)) (fun _ => False) w w' := by
  have HL := Aside0.mk hL
  have HW := Aside0.mk ((Went.nothing (w := w)).new (.cells (pzero (.pointer none) (.pointer none)) 38 (0, 0)))
  obtain ⟨g, HG⟩ : ∃ g, Aside0 (w.heap.size = g) := ⟨_, ⟨rfl⟩⟩
  rw [HG.out] at HW
  have HZ : Aside0 (pzero (.pointer none) (.pointer none) = #[.pointer none, .pointer none, .slice none 0 0, .slice none 0 0, .slice none 0 0, .slice none 0 0, .slice none 0 0, .slice none 0 0, .slice none 0 0, .slice none 0 0, .slice none 0 0, .slice none 0 0, .int .i64 0, .int .i64 0, .int .i64 0, .int .i64 0, .int .i64 0, .int .i64 0]) := ⟨rfl⟩
  clear hL
  go_enter Tryz.func29, Tryz.ntmps29
  go_wp2_with fail
  rw [HZ.out] at HW
  rw [HG.out]
  generalize w.alloc (.cells #[.pointer none, .pointer none, .slice none 0 0, .slice none 0 0, .slice none 0 0, .slice none 0 0, .slice none 0 0, .slice none 0 0, .slice none 0 0, .slice none 0 0, .slice none 0 0, .slice none 0 0, .int .i64 0, .int .i64 0, .int .i64 0, .int .i64 0, .int .i64 0, .int .i64 0] 38 (0, 0)) = w1 at *
  go_loopw [12] (fun x wr => x = .int .i64 0 ∧ Aside0 (Went (all [blk g (.cells (pzero (.pointer none) (.pointer none)) 38 (0, 0))]) (fun _ => False) w wr) ∨ x = .int .i64 1 ∧ (∃ b0 m0 f0 : Nat, Aside0 (Went (all [entAt b0 m0 f0 (En.ent0 k n), blk g (.cells (pzero (.pointer (some ⟨b0, 0, none⟩)) (.pointer none)) 38 (0, 0))]) (fun _ => False) w wr)) ∨ x = .int .i64 2 ∧ (∃ b0 m0 f0 b1 m1 f1 : Nat, Aside0 (Went (all [entAt b1 m1 f1 (En.ent0 k n), entAt b0 m0 f0 (En.ent0 k n), blk g (.cells (pzero (.pointer (some ⟨b0, 0, none⟩)) (.pointer (some ⟨b1, 0, none⟩))) 38 (0, 0))]) (fun _ => False) w wr))) (fun x _ => 2 - (intOf x).toNat)
  case atStart => exact Or.inl ⟨rfl, HW⟩
  case round =>
    clear HW HZ
    rcases hrel with ⟨rfl, HW⟩ | ⟨rfl, b0, m0, f0, HW⟩ | ⟨rfl, b0, m0, f0, b1, m1, f1, HW⟩
    · obtain ⟨c0, q0⟩ := cellAt (HW.out.heap 0 rfl) 0 (.pointer none) rfl
      go_wp2_with fail
      go_region_law (go_simp; go_at_call 49; refine (En.newC k n _).mono ?_; rintro r w2 ⟨b, mb, fb, rfl, hn⟩; have HN := Aside0.mk (HW.out.drew.add hn); clear hn; obtain ⟨c1, q1⟩ := cellAt (HN.out.heap 1 rfl) 0 (.pointer none) rfl)
      all_goals
        have HS := Aside0.mk (HN.out.set 1 rfl 0 (.pointer (some ⟨b, 0, none⟩)))
        have hcc : (pzero (.pointer none) (.pointer none)).setIfInBounds 0 (.pointer (some ⟨b, 0, none⟩)) = pzero (.pointer (some ⟨b, 0, none⟩)) (.pointer none) := rfl
        have HA := HS.out.call_ex 0 rfl (fun T1 h1 => En.assignC b mb fb k n T1 _ _ (Went.refl h1))
        rw [hcc] at HA
        have HAA := Aside0.mk HA
        obtain ⟨c2, q2⟩ := cellAt (HS.out.heap 1 rfl) 0 (.pointer (some ⟨b, 0, none⟩)) rfl
        clear HA hcc
        go_wp2_with fail
        refine HAA.out.mono ?_
        rintro r w3 ⟨v, rfl, hw⟩
        have HF : Aside0 (Went (all [entAt b mb fb (En.ent0 k n), blk g (.cells (pzero (.pointer (some ⟨b, 0, none⟩)) (.pointer none)) 38 (0, 0))]) (fun _ => False) w w3) := ⟨hw⟩
        clear hw HAA HS HN HW c0 q0 c1 q1 c2 q2
        go_wp2_with fail
        exact ⟨Or.inr (Or.inl ⟨by go_num, b, mb, fb, HF⟩), by simp [intOf]⟩
    · obtain ⟨c0, q0⟩ := cellAt (HW.out.heap 1 rfl) 1 (.pointer none) rfl
      go_wp2_with fail
      go_region_law (go_simp; go_at_call 49; refine (En.newC k n _).mono ?_; rintro r w2 ⟨b, mb, fb, rfl, hn⟩; have HN := Aside0.mk (HW.out.drew.add hn); clear hn; obtain ⟨c1, q1⟩ := cellAt (HN.out.heap 2 rfl) 1 (.pointer none) rfl)
      all_goals
        have HS := Aside0.mk (HN.out.set 2 rfl 1 (.pointer (some ⟨b, 0, none⟩)))
        have hcc : (pzero (.pointer (some ⟨b0, 0, none⟩)) (.pointer none)).setIfInBounds 1 (.pointer (some ⟨b, 0, none⟩)) = pzero (.pointer (some ⟨b0, 0, none⟩)) (.pointer (some ⟨b, 0, none⟩)) := rfl
        have HA := HS.out.call_ex 0 rfl (fun T1 h1 => En.assignC b mb fb k n T1 _ _ (Went.refl h1))
        rw [hcc] at HA
        have HAA := Aside0.mk HA
        obtain ⟨c2, q2⟩ := cellAt (HS.out.heap 2 rfl) 1 (.pointer (some ⟨b, 0, none⟩)) rfl
        clear HA hcc
        go_wp2_with fail
        refine HAA.out.mono ?_
        rintro r w3 ⟨v, rfl, hw⟩
        have HF : Aside0 (Went (all [entAt b mb fb (En.ent0 k n), entAt b0 m0 f0 (En.ent0 k n), blk g (.cells (pzero (.pointer (some ⟨b0, 0, none⟩)) (.pointer (some ⟨b, 0, none⟩))) 38 (0, 0))]) (fun _ => False) w w3) := ⟨hw⟩
        clear hw HAA HS HN HW c0 q0 c1 q1 c2 q2
        go_wp2_with fail
        exact ⟨Or.inr (Or.inr ⟨by go_num, b0, m0, f0, b, mb, fb, HF⟩), by simp [intOf]⟩
    · have hb : Below w.heap.size w wr := HW.out.keeps.below (Nat.le_refl _) (fun k hk => hk.elim)
      have hl := HL.out.below hb
      have HR := Aside0.mk (Fw.readsW wr hl)
      clear hb hl
      go_wp2_with fail
      refine HR.out.mono ?_
      rintro r w2 ⟨rfl, hb⟩
      have HF := Aside0.mk ((begin_close HW.out).below hb)
      clear hb HR HW
      go_wp2
      go_ret2
      exact ⟨⟨g, b0, m0, f0, b1, m1, f1⟩, rfl, HF.out⟩
end Go.Proofs.YtljnfbpplhnmfaaGreatDoor.Pa
