/- The bitwise CRC register: one bit, many bits; linear; a burst of at most sixteen bits never comes to nought. Plain Lean, no condition. -/
namespace Go.Proofs.YtejpdpjklncfnaaDoor.Crc
abbrev R := BitVec 16
/-- one bit -/
def bstep (r : R) (b : Bool) : R := (r >>> 1) ^^^ (if (r.getLsbD 0 != b) then 0x8408#16 else 0#16)
def run (r : R) (l : List Bool) : R := l.foldl bstep r

theorem bstep_xor (r s : R) (a b : Bool) : bstep (r ^^^ s) (a ^^ b) = bstep r a ^^^ bstep s b := by
  unfold bstep
  have h : (r ^^^ s) >>> 1 = r >>> 1 ^^^ s >>> 1 := by
    apply BitVec.eq_of_getLsbD_eq; intro i hi; simp
  rw [h, BitVec.getLsbD_xor]
  cases r.getLsbD 0 <;> cases s.getLsbD 0 <;> cases a <;> cases b <;> simp <;> (try ac_rfl) <;> (apply BitVec.eq_of_getLsbD_eq; intro i hi; simp <;> cases r.getLsbD (1+i) <;> cases s.getLsbD (1+i) <;> cases ((0x8408#16).getLsbD i) <;> rfl)

theorem run_xor (l m : List Bool) (h : l.length = m.length) (r s : R) : run (r ^^^ s) (List.zipWith (· ^^ ·) l m) = run r l ^^^ run s m := by
  induction l generalizing m r s with
  | nil => cases m with | nil => rfl | cons => simp at h
  | cons a l ih => cases m with
    | nil => simp at h
    | cons b m =>
      simp only [List.zipWith_cons_cons, run, List.foldl_cons]
      rw [bstep_xor]; exact ih m (by simpa using h) _ _

theorem bstep_msb (r : R) (b : Bool) : (bstep r b).getLsbD 15 = (r.getLsbD 0 != b) := by
  unfold bstep
  rw [BitVec.getLsbD_xor]
  cases r.getLsbD 0 <;> cases b <;> simp

theorem bstep_zero (r : R) (h : bstep r false = 0#16) : r = 0#16 := by
  have h1 := bstep_msb r false
  rw [h] at h1
  have h2 : r.getLsbD 0 = false := by simpa using h1.symm
  unfold bstep at h
  rw [h2] at h
  simp at h
  apply BitVec.eq_of_getLsbD_eq; intro i hi
  cases i with
  | zero => simpa using h2
  | succ i =>
    have := congrArg (fun x => x.getLsbD i) h
    simp at this
    rw [Nat.add_comm] at this
    simpa using this
end Go.Proofs.YtejpdpjklncfnaaDoor.Crc
namespace Go.Proofs.YtejpdpjklncfnaaDoor.Crc
theorem run_V (p : List Bool) (r : R) (hp : p.length ≤ 16) (h : run r p = 0#16) : ∀ i, i < 16 → r.getLsbD i = p.getD i false := by
  induction p generalizing r with
  | nil => 
    have : r = 0#16 := h
    subst this
    intro i hi; simp
  | cons b p ih =>
    simp at hp
    have h1 := ih (bstep r b) (by omega) h
    have hm := bstep_msb r b
    rw [h1 15 (by omega)] at hm
    have h15 : p.getD 15 false = false := by
      rw [List.getD_eq_getElem?_getD, List.getElem?_eq_none (by omega)]; rfl
    rw [h15] at hm
    have hb : r.getLsbD 0 = b := by revert hm; cases r.getLsbD 0 <;> cases b <;> simp
    intro i hi
    cases i with
    | zero => simpa using hb
    | succ i =>
      have := h1 i (by omega)
      unfold bstep at this
      rw [hb] at this
      simp at this
      rw [Nat.add_comm] at this
      simpa using this
theorem run_append (r : R) (a b : List Bool) : run r (a ++ b) = run (run r a) b := by simp [run]
theorem run_zeros (n : Nat) (r : R) (h : run r (List.replicate n false) = 0#16) : r = 0#16 := by
  induction n generalizing r with
  | zero => exact h
  | succ n ih => exact bstep_zero r (ih _ h)
theorem run_zeros0 (n : Nat) : run 0#16 (List.replicate n false) = 0#16 := by
  induction n with
  | zero => rfl
  | succ n ih => exact ih
theorem burst (a c : Nat) (p : List Bool) (hp : p.length ≤ 16) (h : run 0#16 (List.replicate a false ++ p ++ List.replicate c false) = 0#16) : ∀ x ∈ p, x = false := by
  rw [run_append, run_append, run_zeros0] at h
  have h1 := run_V p _ hp (run_zeros _ _ h)
  intro x hx
  obtain ⟨i, hi, rfl⟩ := List.mem_iff_getElem.1 hx
  have := h1 i (by omega)
  simp [List.getD_eq_getElem?_getD, hi] at this
  exact this
end Go.Proofs.YtejpdpjklncfnaaDoor.Crc
