import Derived.Test.YtdpgdnbknmncfaaDoorPlainA
import Derived.Test.YtdpgdnbknmncfaaDoorPrint15
import Derived.Test.YtdpgdnbknmncfaaDoorPrint4
/- What the printed bits.Field comes to at a place and a width that count; masks and joins of machine numbers. Plain Lean over the printed function. -/
namespace Go.Proofs.YtdpgdnbknmncfaaDoor.Field
open Go.RowKit Go.Proofs.YtdpgdnbknmncfaaDoorW.PrintWords Go.Proofs.YtdpgdnbknmncfaaDoorW.PrintLast Go.Proofs.YtdpgdnbknmncfaaDoorW.PrintMore Go.Proofs.YtdpgdnbknmncfaaDoor.Str Go.Proofs.YtdpgdnbknmncfaaDoor.Print
theorem field_at (x : Int) (h0 : 0 ≤ x) (h1 : x ≤ 255) (l c : Nat) (hl : l < 8) (hc : 1 ≤ c) (hc8 : c ≤ 8) :
    bits_Field.f x (l : Int) (c : Int) = some (x / 2 ^ l % 2 ^ c) := by
  unfold bits_Field.f
  rw [if_neg (by omega), if_neg (by omega), if_neg (by omega), if_pos (by omega)]
  have hm : mn (c : Int) 8 = c := by unfold mn; omega
  rw [hm, if_pos (by omega)]
  have hd : shr .u8 x (l : Int) = x / 2 ^ l := by
    unfold shr
    rw [show min ((l : Int).toNat) (IntKind.u8).bits = l from by simp [IntKind.bits]; omega]
  have hx : 0 ≤ x / 2 ^ l ∧ x / 2 ^ l ≤ 255 := by
    have : l = 0 ∨ l = 1 ∨ l = 2 ∨ l = 3 ∨ l = 4 ∨ l = 5 ∨ l = 6 ∨ l = 7 := by omega
    rcases this with rfl | rfl | rfl | rfl | rfl | rfl | rfl | rfl <;> simp <;> omega
  have hw : wrap64 (x / 2 ^ l) = x / 2 ^ l := by unfold wrap64; omega
  have hp : wrap64 (wrap64 (2 ^ ((c : Int)).toNat) - 1) = 2 ^ c - 1 := by
    have : c = 1 ∨ c = 2 ∨ c = 3 ∨ c = 4 ∨ c = 5 ∨ c = 6 ∨ c = 7 ∨ c = 8 := by omega
    rcases this with rfl | rfl | rfl | rfl | rfl | rfl | rfl | rfl <;> simp [wrap64]
  rw [hd, hw, hp, mask_i64 c (by omega) _ hx.1 (by omega)]
theorem f26 (x : Int) (h0 : 0 ≤ x) (h1 : x ≤ 255) : bits_Field.f x 2 6 = some (x / 4 % 64) := field_at x h0 h1 2 6 (by decide) (by decide) (by decide)
theorem f17 (x : Int) (h0 : 0 ≤ x) (h1 : x ≤ 255) : bits_Field.f x 1 7 = some (x / 2 % 128) := field_at x h0 h1 1 7 (by decide) (by decide) (by decide)
theorem f11 (x : Int) (h0 : 0 ≤ x) (h1 : x ≤ 255) : bits_Field.f x 1 1 = some (x / 2 % 2) := field_at x h0 h1 1 1 (by decide) (by decide) (by decide)
end Go.Proofs.YtdpgdnbknmncfaaDoor.Field

/- What the printed functions of package fcs, and of its reference, come to: the CRC register of plain lists. Plain Lean over the printed functions. -/
namespace Go.Proofs.YtdpgdnbknmncfaaDoor.Fcs
open Go.RowKit Go.Proofs.YtdpgdnbknmncfaaDoorW.PrintWords Go.Proofs.YtdpgdnbknmncfaaDoorW.PrintLast Go.Proofs.YtdpgdnbknmncfaaDoorW.PrintMore Go.Proofs.YtdpgdnbknmncfaaDoor.Str Go.Proofs.YtdpgdnbknmncfaaDoor.Crc Go.Proofs.YtdpgdnbknmncfaaDoor.Print

theorem bit_step (r : R) : Go.bits .xor .u16 (num r / 2) (IntKind.u16.wrap (Go.bits .and .u16 (num r) 1 * 33800)) = num (bstep r false) := by
  have e : IntKind.u16.wrap (Go.bits .and .u16 (num r) 1 * 33800) = num (if (r.getLsbD 0 != false) then 0x8408#16 else 0#16) := by
    rw [and16, wrap_u16]
    cases r.getLsbD 0 <;> rfl
  rw [e, half, xor16]; rfl

theorem step_loop (d : Nat) : ∀ (k : Nat) (r : R) (i : Int), 0 ≤ i → i + d = 8 → d < k →
    fcs_Step.l0 k (num r) i = some (num (run r (List.replicate d false))) := by
  induction d with
  | zero =>
    intro k r i h0 h hk
    obtain ⟨k, rfl⟩ : ∃ m, k = m + 1 := ⟨k - 1, by omega⟩
    simp only [fcs_Step.l0]
    rw [if_neg (by omega)]; rfl
  | succ d ih =>
    intro k r i h0 h hk
    obtain ⟨k, rfl⟩ : ∃ m, k = m + 1 := ⟨k - 1, by omega⟩
    simp only [fcs_Step.l0]
    rw [if_pos (by omega), bit_step, w64 (by omega) (by omega), ih k _ (i + 1) (by omega) (by omega) (by omega)]
    rfl

def oct (o : Nat) : R := BitVec.ofNat 16 o
theorem oct_num (o : Nat) (_h : o < 256) : IntKind.u16.wrap (o : Int) = num (oct o) := by
  rw [wrap_u16]; unfold num oct
  rw [BitVec.toNat_ofNat]; omega
set_option maxRecDepth 10000 in
theorem oct_bits (o : Nat) (h : o < 256) : run (oct o) (List.replicate 8 false) = run 0#16 (obits o) := by
  have : ∀ o : Fin 256, run (oct o.val) (List.replicate 8 false) = run 0#16 (obits o.val) := by decide +kernel
  exact this ⟨o, h⟩
theorem obits_length (o : Nat) : (obits o).length = 8 := by simp [obits]
theorem false_xor (l : List Bool) : List.zipWith (· ^^ ·) (List.replicate l.length false) l = l := by
  induction l with
  | nil => rfl
  | cons a l ih => simpa [List.replicate_succ] using ih
theorem zip_false (n : Nat) : List.zipWith (· ^^ ·) (List.replicate n false) (List.replicate n false) = List.replicate n false := by
  have := false_xor (List.replicate n false)
  rwa [List.length_replicate] at this
theorem oct_step (r : R) (o : Nat) (h : o < 256) : run (r ^^^ oct o) (List.replicate 8 false) = run r (obits o) := by
  have h1 := run_xor (List.replicate 8 false) (List.replicate 8 false) rfl r (oct o)
  rw [zip_false, oct_bits o h] at h1
  have h2 := run_xor (List.replicate 8 false) (obits o) (by simp [obits_length]) r 0#16
  have e : List.zipWith (· ^^ ·) (List.replicate 8 false) (obits o) = obits o := by
    have := false_xor (obits o); rwa [obits_length] at this
  rw [e] at h2
  rw [h1, ← h2]; simp

theorem step_eq (k : Nat) (hk : 8 < k) (r : R) (o : UInt8) : fcs_Step.f k (num r) (o.toNat : Int) = some (num (stepB r o)) := by
  have ho := o.toNat_lt
  unfold fcs_Step.f
  rw [oct_num _ (by omega), xor16, step_loop 8 k _ 0 (by omega) (by omega) (by omega), oct_step _ _ (by omega)]
  rfl

theorem compl16 (r : R) : Go.bits .xor .u16 65535 (num r) = num (~~~ r) := by
  have e : (65535 : Int) = num 0xffff#16 := rfl
  rw [e, xor16]
  rfl

theorem sum_loop (s : ByteArray) (hn : s.size ≤ 9223372036854775806) (d : Nat) : ∀ (k : Nat) (r : R) (i : Nat), i + d = s.size → d + 9 < k →
    fcs_Sum.l0 k s (num r) (s.size : Int) (i : Int) = some (num (~~~ sumR r ((L s).drop i))) := by
  induction d with
  | zero =>
    intro k r i h hk
    obtain ⟨k, rfl⟩ : ∃ m, k = m + 1 := ⟨k - 1, by omega⟩
    simp only [fcs_Sum.l0]
    rw [if_neg (by omega), compl16, List.drop_of_length_le (by rw [← size_L]; omega)]; rfl
  | succ d ih =>
    intro k r i h hk
    obtain ⟨k, rfl⟩ : ∃ m, k = m + 1 := ⟨k - 1, by omega⟩
    have hl : i < (L s).length := by rw [← size_L]; omega
    simp only [fcs_Sum.l0]
    rw [if_pos (by omega), if_pos (by omega), if_pos (by omega), bt_nat, at_get _ _ hl, step_eq k (by omega)]
    simp only [Option.bind_some]
    rw [w64 (by omega) (by omega)]
    have := ih k (stepB r (L s)[i]) (i + 1) (by omega) (by omega)
    simp only [Int.natCast_add, Int.cast_ofNat_Int] at this
    rw [this, List.drop_eq_getElem_cons hl]
    rfl

/-- The check sequence. -/
def crc (l : List UInt8) : R := ~~~ sumR 0xffff#16 l
theorem sum_eq (k : Nat) (s : ByteArray) (hn : s.size ≤ 9223372036854775806) (hk : s.size + 9 < k) : fcs_Sum.f k s = some (num (crc (L s))) := by
  unfold fcs_Sum.f
  have := sum_loop s hn s.size k 0xffff#16 0 (by omega) hk
  rw [List.drop_zero] at this
  exact this
def lo (r : R) : UInt8 := UInt8.ofNat (r.toNat % 256)
def hi (r : R) : UInt8 := UInt8.ofNat (r.toNat / 256)
def sealL (l : List UInt8) : List UInt8 := l ++ [lo (crc l), hi (crc l)]
theorem seal_nums (r : R) : strOfNums [num r % 256, num r / 256 % 256] = ⟨[lo r, hi r].toArray⟩ := by
  have h := r.isLt
  apply inj
  rw [L_nums, L_mk]
  unfold lo hi num
  simp only [List.map_cons, List.map_nil]
  have e1 : ((r.toNat : Int) % 256).toNat = r.toNat % 256 := by omega
  have e2 : ((r.toNat : Int) / 256 % 256).toNat = r.toNat / 256 := by omega
  rw [e1, e2]
theorem seal_eq (k : Nat) (s : ByteArray) (hn : s.size ≤ 9223372036854775805) (hk : s.size + 9 < k) : fcs_Seal.f k s = some ⟨(sealL (L s)).toArray⟩ := by
  unfold fcs_Seal.f
  rw [sum_eq k s (by omega) hk]
  simp only [Option.bind_some]
  rw [seal_nums]
  have e : (⟨[lo (crc (L s)), hi (crc (L s))].toArray⟩ : ByteArray).size = 2 := rfl
  rw [e, if_pos (by omega)]
  exact congrArg some (inj (by rw [L_app, L_mk, L_mk]; rfl))
theorem size_mk (l : List UInt8) : (⟨l.toArray⟩ : ByteArray).size = l.length := by rw [size_L]
theorem seal_length (l : List UInt8) : (sealL l).length = l.length + 2 := by simp [sealL]
/-- What a text is, without its last two octets, if these are right. -/
def checkL (l : List UInt8) : List UInt8 × Int := if l.length < 2 then ([], 3) else if sealL (l.take (l.length - 2)) = l then (l.take (l.length - 2), 0) else ([], 6)
theorem check_eq (k : Nat) (s : ByteArray) (hn : s.size ≤ 9223372036854775805) (hk : s.size + 9 < k) : fcs_Check.f k s = some (⟨(checkL (L s)).1.toArray⟩, (checkL (L s)).2) := by
  unfold fcs_Check.f checkL
  rw [← size_L]
  by_cases h : s.size < 2
  · rw [if_pos (by omega), if_pos h]
  · have hw : wrap64 ((s.size : Int) - 2) = ((s.size - 2 : Nat) : Int) := by rw [w64 (by omega) (by omega)]; omega
    rw [if_neg (by omega), if_neg h, hw, if_pos (by omega), if_pos (by omega), Int.toNat_natCast]
    have hs : (s.extract 0 (s.size - 2)).size = s.size - 2 := size_take s _ (by omega)
    rw [seal_eq k _ (by omega) (by omega)]
    simp only [Option.bind_some]
    rw [toList_L, toList_L, L_mk, L_take]
    by_cases he : sealL ((L s).take (s.size - 2)) = L s
    · rw [if_pos he, if_pos he]
      congr 2
      apply inj
      rw [L_take, L_mk]
    · rw [if_neg he, if_neg he]
end Go.Proofs.YtdpgdnbknmncfaaDoor.Fcs

/- What the printed functions of package addr come to: an address' two octets, or the error; the address that octets begin with. Plain Lean over the printed functions. -/
namespace Go.Proofs.YtdpgdnbknmncfaaDoor.Addr
open Go.RowKit Go.Proofs.YtdpgdnbknmncfaaDoorW.PrintWords Go.Proofs.YtdpgdnbknmncfaaDoorW.PrintLast Go.Proofs.YtdpgdnbknmncfaaDoorW.PrintMore Go.Proofs.YtdpgdnbknmncfaaDoor.Str Go.Proofs.YtdpgdnbknmncfaaDoor.Field Go.Proofs.YtdpgdnbknmncfaaDoor.Pack Go.Proofs.YtdpgdnbknmncfaaDoor.Print

def num (b : Bool) : Int := if b then 1 else 0
theorem num_range (b : Bool) : 0 ≤ num b ∧ num b ≤ 1 := by cases b <;> simp [num]
theorem one_eq (b : Bool) : addr_one.f b = some (num b) := by cases b <;> rfl
theorem pk_last (low n : Nat) (h : low ≤ 8) : pk low n [] = ((n : Int) % 256, 0) := by rw [pk, if_neg (by omega)]
theorem pk_good (low n w : Nat) (v : Int) (fs : List S54) (hw : 1 ≤ w) (hw8 : w ≤ 8) (h0 : 0 ≤ v) (hv : v < 2 ^ w) (hl : low + w ≤ 8) :
    pk low n (⟨(w : Int), v⟩ :: fs) = pk (low + w) (n + v.toNat * 2 ^ low) fs := by
  have hg : good (⟨(w : Int), v⟩ : S54) := ⟨by show (1 : Int) ≤ w; omega, by show (w : Int) ≤ 8; omega, h0, by show v < 2 ^ (w : Int).toNat; simpa using hv⟩
  rw [pk, if_pos hg, if_pos (by omega)]
  show pk (min (low + (w : Int).toNat) 9) _ fs = _
  rw [Int.toNat_natCast, show min (low + w) 9 = low + w from by omega]
theorem pk_bad (low n w : Nat) (v : Int) (fs : List S54) (h : ¬ (0 ≤ v ∧ v < 2 ^ w)) : pk low n (⟨(w : Int), v⟩ :: fs) = (0, 2) := by
  rw [pk, if_neg]
  intro hg
  exact h ⟨hg.2.2.1, by have := hg.2.2.2; simpa using this⟩
theorem pk3 (c s : Int) (hc : 0 ≤ c ∧ c ≤ 1) : pk 0 0 [(⟨1, 0⟩ : S54), (⟨1, c⟩ : S54), (⟨6, s⟩ : S54)] = if 0 ≤ s ∧ s < 64 then (4 * s + 2 * c, 0) else (0, 2) := by
  have a := pk_good 0 0 1 0 [(⟨1, c⟩ : S54), (⟨6, s⟩ : S54)] (by omega) (by omega) (by omega) (by decide) (by omega)
  have b := pk_good 1 (0 + (0 : Int).toNat * 2 ^ 0) 1 c [(⟨6, s⟩ : S54)] (by omega) (by omega) hc.1 (by omega) (by omega)
  refine Eq.trans a (Eq.trans b ?_)
  by_cases h : 0 ≤ s ∧ s < 64
  · rw [if_pos h]
    have d := pk_good 2 (0 + (0 : Int).toNat * 2 ^ 0 + c.toNat * 2 ^ 1) 6 s [] (by omega) (by omega) h.1 (by omega) (by omega)
    refine Eq.trans d ?_
    rw [pk_last _ _ (by omega)]
    congr 1; omega
  · rw [if_neg h]
    exact pk_bad 2 _ 6 s [] (by intro q; exact h ⟨q.1, by omega⟩)
theorem pk2 (c t : Int) (hc : 0 ≤ c ∧ c ≤ 1) : pk 0 0 [(⟨1, c⟩ : S54), (⟨7, t⟩ : S54)] = if 0 ≤ t ∧ t < 128 then (2 * t + c, 0) else (0, 2) := by
  have a := pk_good 0 0 1 c [(⟨7, t⟩ : S54)] (by omega) (by omega) hc.1 (by omega) (by omega)
  refine Eq.trans a ?_
  by_cases h : 0 ≤ t ∧ t < 128
  · rw [if_pos h]
    have d := pk_good 1 (0 + c.toNat * 2 ^ 0) 7 t [] (by omega) (by omega) h.1 (by omega) (by omega)
    refine Eq.trans d ?_
    rw [pk_last _ _ (by omega)]
    congr 1; omega
  · rw [if_neg h]
    exact pk_bad 1 _ 7 t [] (by intro q; exact h ⟨q.1, by omega⟩)

def okA (s t : Int) : Prop := (0 ≤ s ∧ s < 64) ∧ (0 ≤ t ∧ t < 128)
instance (s t : Int) : Decidable (okA s t) := by unfold okA; infer_instance
def putA (s t : Int) (cr : Bool) : ByteArray × Int := if okA s t then (strOfNums [4 * s + 2 * num cr, 2 * t + 1], 0) else (⟨#[]⟩, 2)
theorem put_eq (k : Nat) (hk : 3 < k) (s t : Int) (cr : Bool) : addr_Put.f k s t cr = some (putA s t cr) := by
  have h3 : bits_Pack.f k [(⟨1, 0⟩ : S54), (⟨1, num cr⟩ : S54), (⟨6, s⟩ : S54)] = some (if 0 ≤ s ∧ s < 64 then (4 * s + 2 * num cr, 0) else (0, 2)) := by
    rw [pack_eq _ k (by show 3 ≤ 9223372036854775806; omega) (by show 3 < k; omega), pk3 _ _ (num_range cr)]
  have h2 : bits_Pack.f k [(⟨1, 1⟩ : S54), (⟨7, t⟩ : S54)] = some (if 0 ≤ t ∧ t < 128 then (2 * t + 1, 0) else (0, 2)) := by
    rw [pack_eq _ k (by show 2 ≤ 9223372036854775806; omega) (by show 2 < k; omega), pk2 _ _ (by decide)]
  unfold addr_Put.f
  refine bind_at (one_eq cr) (bind_at h3 (bind_at h2 ?_))
  unfold putA
  by_cases hs : 0 ≤ s ∧ s < 64
  · by_cases ht : 0 ≤ t ∧ t < 128
    · rw [if_pos hs, if_pos ht, if_pos rfl, if_pos rfl, if_pos (show okA s t from ⟨hs, ht⟩)]
    · rw [if_pos hs, if_neg ht, if_pos rfl, if_neg (by decide), if_neg (fun h : okA s t => ht h.2)]
  · rw [if_neg hs, if_neg (by decide), if_neg (fun h : okA s t => hs h.1)]
/-- The address that octets begin with, or the error. -/
def getA (l : List UInt8) : Int × Int × Bool × Int :=
  if l.length < 2 then (0, 0, false, 3)
  else if at_ l 0 % 2 = 0 ∧ at_ l 1 % 2 = 1 then (at_ l 0 / 4, at_ l 1 / 2, (at_ l 0 / 2 % 2 == 1), 0) else (0, 0, false, 4)
theorem get_eq (k : Nat) (hk : 0 < k) (s : ByteArray) : addr_Get.f k s = some (getA (L s)) := by
  obtain ⟨k, rfl⟩ : ∃ m, k = m + 1 := ⟨k - 1, by omega⟩
  have h0 := at_range (L s) 0
  have h1 := at_range (L s) 1
  have b0 : bt s 0 = at_ (L s) 0 := bt_L s 0
  have b1 : bt s 1 = at_ (L s) 1 := bt_L s 1
  unfold addr_Get.f getA
  rw [← size_L]
  by_cases hs : s.size < 2
  · rw [if_pos (by omega), if_pos hs]
  · rw [if_neg (by omega), if_neg hs, if_pos (by omega), b0, b1, low_bit _ h0.1 h0.2, low_bit _ h1.1 h1.2]
    by_cases e0 : at_ (L s) 0 % 2 = 0
    · rw [if_pos e0, if_pos (by omega), addr_Get.j0]
      by_cases e1 : at_ (L s) 1 % 2 = 1
      · rw [if_neg (by simp; omega), if_pos (show at_ (L s) 0 % 2 = 0 ∧ at_ (L s) 1 % 2 = 1 from ⟨e0, e1⟩), b0, b1]
        refine Eq.trans (if_pos (by omega)) ?_
        refine bind_at (f26 _ h0.1 h0.2) ?_
        refine Eq.trans (if_pos (by omega)) ?_
        refine bind_at (f17 _ h1.1 h1.2) (bind_at (f11 _ h0.1 h0.2) ?_)
        rw [show at_ (L s) 0 / 4 % 64 = at_ (L s) 0 / 4 from by omega, show at_ (L s) 1 / 2 % 128 = at_ (L s) 1 / 2 from by omega]
      · rw [if_pos (by simp; omega), if_neg (fun h : at_ (L s) 0 % 2 = 0 ∧ at_ (L s) 1 % 2 = 1 => e1 h.2)]
    · rw [if_neg e0, addr_Get.j0, if_pos rfl, if_neg (fun h : at_ (L s) 0 % 2 = 0 ∧ at_ (L s) 1 % 2 = 1 => e0 h.1)]
end Go.Proofs.YtdpgdnbknmncfaaDoor.Addr
