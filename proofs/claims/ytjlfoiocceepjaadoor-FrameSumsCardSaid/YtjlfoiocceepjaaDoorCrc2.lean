/-
  Plain: the cyclic sum of bytes, and what a difference of two texts does to it.
-/
import Derived.Test.YtjlfoiocceepjaaDoorCrc
namespace Go.Proofs.YtjlfoiocceepjaaDoor

/-- bit j of a row of bytes -/
def lbit (l : List UInt8) (j : Nat) : Bool := (l.getD (j / 8) 0).toBitVec.getLsbD (j % 8)
def wide (b : UInt8) : BitVec 32 := b.toBitVec.setWidth 32
def cupd (c : BitVec 32) (b : UInt8) : BitVec 32 := csteps 8 (c ^^^ wide b)
def cfeed (c : BitVec 32) (l : List UInt8) : BitVec 32 := l.foldl cupd c
def csum (l : List UInt8) : BitVec 32 := ~~~(cfeed (BitVec.allOnes 32) l)

theorem bfeed_byte (b : UInt8) (c : BitVec 32) : bfeed (fun j => b.toBitVec.getLsbD j) 8 0 c = cupd c b := by
  have h := bfeed_bits (wide b) 32 0 c (by omega)
  have h1 : bfeed (fun j => (wide b).getLsbD j) 32 0 c = bfeed (fun j => (wide b).getLsbD j) 24 8 (bfeed (fun j => (wide b).getLsbD j) 8 0 c) := bfeed_add _ 8 24 0 c
  have h2 : ∀ x, bfeed (fun j => (wide b).getLsbD j) 24 8 x = csteps 24 x := fun x => bfeed_off _ 24 8 x (fun j h1 h2 => by unfold wide; rw [BitVec.getLsbD_setWidth]; simp; intro _; exact BitVec.getLsbD_of_ge _ _ (by omega))
  have h3 : bfeed (fun j => (wide b).getLsbD j) 8 0 c = bfeed (fun j => b.toBitVec.getLsbD j) 8 0 c := bfeed_congr 8 0 c (fun j _ h2 => by unfold wide; rw [BitVec.getLsbD_setWidth]; simp; omega)
  rw [h1, h2, h3] at h
  have h4 : csteps 32 (c ^^^ (wide b) >>> 0) = csteps 24 (cupd c b) := by
    have := csteps_add 8 24 (c ^^^ (wide b) >>> 0)
    simpa [cupd] using this
  rw [h4] at h
  have h5 : csteps 24 (bfeed (fun j => b.toBitVec.getLsbD j) 8 0 c ^^^ cupd c b) = 0#32 := by rw [csteps_xor, h, BitVec.xor_self]
  have h6 := csteps_eq_zero _ _ h5
  have h7 : bfeed (fun j => b.toBitVec.getLsbD j) 8 0 c ^^^ cupd c b ^^^ cupd c b = 0#32 ^^^ cupd c b := by rw [h6]
  simpa [BitVec.xor_assoc] using h7
theorem lbit_cons (b : UInt8) (l : List UInt8) (j : Nat) : lbit (b :: l) (j + 8) = lbit l j := by
  unfold lbit
  have e1 : (j + 8) / 8 = j / 8 + 1 := by omega
  have e2 : (j + 8) % 8 = j % 8 := by omega
  rw [e1, e2]
  rfl
theorem cfeed_bits : ∀ (l : List UInt8) (c : BitVec 32), cfeed c l = bfeed (lbit l) (8 * l.length) 0 c
  | [], _ => rfl
  | b :: l, c => by
    have e : 8 * (b :: l).length = 8 + 8 * l.length := by simp; omega
    rw [e, bfeed_add]
    have h1 : bfeed (lbit (b :: l)) 8 0 c = cupd c b := by
      rw [← bfeed_byte]
      apply bfeed_congr
      intro j _ h2
      have e1 : j / 8 = 0 := by omega
      have e2 : j % 8 = j := by omega
      simp [lbit, e1, e2]
    rw [h1]
    show cfeed (cupd c b) l = _
    rw [cfeed_bits l, Nat.zero_add, ← Nat.zero_add 8, ← bfeed_shift (lbit (b :: l)) _ 0 8]
    exact bfeed_congr _ _ _ (fun j _ _ => (lbit_cons b l j).symm)
theorem cfeed_append (l r : List UInt8) (c : BitVec 32) : cfeed c (l ++ r) = cfeed (cfeed c l) r := by unfold cfeed; rw [List.foldl_append]

/-- bytes xored -/
def bxor (l r : List UInt8) : List UInt8 := List.zipWith (· ^^^ ·) l r
theorem wide_xor (a b : UInt8) : wide (a ^^^ b) = wide a ^^^ wide b := by
  unfold wide
  rw [UInt8.toBitVec_xor, BitVec.setWidth_xor]
theorem cfeed_xor : ∀ (l r : List UInt8) (a b : BitVec 32), l.length = r.length → cfeed (a ^^^ b) (bxor l r) = cfeed a l ^^^ cfeed b r
  | [], [], _, _, _ => rfl
  | x :: l, y :: r, a, b, h => by
    have h' : l.length = r.length := by simpa using h
    show cfeed (cupd (a ^^^ b) (x ^^^ y)) (bxor l r) = cfeed (cupd a x) l ^^^ cfeed (cupd b y) r
    rw [← cfeed_xor l r _ _ h']
    congr 1
    unfold cupd
    rw [wide_xor, ← csteps_xor]
    congr 1
    rw [BitVec.xor_assoc, BitVec.xor_assoc, ← BitVec.xor_assoc b, BitVec.xor_comm b, BitVec.xor_assoc]
  | [], _ :: _, _, _, h => by simp at h
  | _ :: _, [], _, _, h => by simp at h

theorem bxor_length (l r : List UInt8) (h : l.length = r.length) : (bxor l r).length = l.length := by simp [bxor, h]
theorem lbit_bxor (l r : List UInt8) (h : l.length = r.length) (j : Nat) : lbit (bxor l r) j = (lbit l j != lbit r j) := by
  unfold lbit bxor
  simp only [List.getD_eq_getElem?_getD, List.getElem?_zipWith]
  by_cases hj : j / 8 < l.length
  · rw [List.getElem?_eq_getElem hj, List.getElem?_eq_getElem (h ▸ hj)]
    simp
  · rw [List.getElem?_eq_none (by omega), List.getElem?_eq_none (by omega)]
    simp

/-! ### four bytes -/
def four (x : BitVec 32) : List UInt8 := [⟨x.setWidth 8⟩, ⟨(x >>> 8).setWidth 8⟩, ⟨(x >>> 16).setWidth 8⟩, ⟨(x >>> 24).setWidth 8⟩]
def num4 (a b c d : UInt8) : BitVec 32 := wide a ||| (wide b <<< 8) ||| (wide c <<< 16) ||| (wide d <<< 24)
theorem lbit_four (x : BitVec 32) (j : Nat) : lbit (four x) j = x.getLsbD j := by
  unfold lbit four
  by_cases h0 : j / 8 = 0
  · have e : j % 8 = j := by omega
    rw [h0, e]; simp; omega
  by_cases h1 : j / 8 = 1
  · rw [h1]; simp only [List.getD_cons_succ, List.getD_cons_zero]; rw [BitVec.getLsbD_setWidth, BitVec.getLsbD_ushiftRight]
    have e : 8 + j % 8 = j := by omega
    rw [e]; simp; omega
  by_cases h2 : j / 8 = 2
  · rw [h2]; simp only [List.getD_cons_succ, List.getD_cons_zero]; rw [BitVec.getLsbD_setWidth, BitVec.getLsbD_ushiftRight]
    have e : 16 + j % 8 = j := by omega
    rw [e]; simp; omega
  by_cases h3 : j / 8 = 3
  · rw [h3]; simp only [List.getD_cons_succ, List.getD_cons_zero]; rw [BitVec.getLsbD_setWidth, BitVec.getLsbD_ushiftRight]
    have e : 24 + j % 8 = j := by omega
    rw [e]; simp; omega
  · have h4 : ∃ m, j / 8 = m + 4 := ⟨j / 8 - 4, by omega⟩
    obtain ⟨m, hm⟩ := h4
    rw [hm]
    simp
    rw [BitVec.getLsbD_of_ge x j (by omega)]
theorem cfeed_four (c x : BitVec 32) : cfeed c (four x) = csteps 32 (c ^^^ x) := by
  rw [cfeed_bits]
  have e : 8 * (four x).length = 32 := rfl
  rw [e, bfeed_congr (g := fun j => x.getLsbD j) 32 0 c (fun j _ _ => lbit_four x j), bfeed_bits x 32 0 c rfl]
  simp
theorem num4_four (x : BitVec 32) : num4 ⟨x.setWidth 8⟩ ⟨(x >>> 8).setWidth 8⟩ ⟨(x >>> 16).setWidth 8⟩ ⟨(x >>> 24).setWidth 8⟩ = x := by
  unfold num4 wide
  apply BitVec.eq_of_getLsbD_eq
  intro i hi
  simp only [BitVec.getLsbD_or, BitVec.getLsbD_shiftLeft, BitVec.getLsbD_setWidth, BitVec.getLsbD_ushiftRight]
  by_cases h0 : i < 8
  · have a1 : i < 16 := by omega
    have a2 : i < 24 := by omega
    simp [h0, a1, a2, hi]
  by_cases h1 : i < 16
  · have e1 : 8 + (i - 8) = i := by omega
    have a2 : i < 24 := by omega
    have a3 : i - 8 < 8 := by omega
    have a4 : i - 8 < 32 := by omega
    simp [h0, h1, a2, a3, a4, hi, e1]
  by_cases h2 : i < 24
  · have e1 : 16 + (i - 16) = i := by omega
    have a2 : ¬ i - 8 < 8 := by omega
    have a3 : i - 16 < 8 := by omega
    have a4 : i - 16 < 32 := by omega
    simp [h0, h1, h2, a2, a3, a4, hi, e1]
  · have e1 : 24 + (i - 24) = i := by omega
    have a2 : ¬ i - 8 < 8 := by omega
    have a3 : ¬ i - 16 < 8 := by omega
    have a5 : i - 24 < 8 := by omega
    have a4 : i - 24 < 32 := by omega
    simp [h0, h1, h2, a2, a3, a4, a5, hi, e1]
theorem four_num4 (a b c d : UInt8) : four (num4 a b c d) = [a, b, c, d] := by
  unfold four
  have key : ∀ (k : Nat) (z : UInt8), (∀ i, i < 8 → (num4 a b c d).getLsbD (k + i) = z.toBitVec.getLsbD i) → (⟨((num4 a b c d) >>> k).setWidth 8⟩ : UInt8) = z := by
    intro k z h
    apply UInt8.toBitVec_inj.1
    apply BitVec.eq_of_getLsbD_eq
    intro i hi
    rw [BitVec.getLsbD_setWidth, BitVec.getLsbD_ushiftRight, h i hi]
    simp [hi]
  have hb : ∀ (z : UInt8) i, 8 ≤ i → z.toBitVec.getLsbD i = false := fun z i h => BitVec.getLsbD_of_ge _ _ (by omega)
  have k0 := key 0 a (fun i hi => by
    unfold num4 wide
    have a1 : i < 16 := by omega
    have a2 : i < 24 := by omega
    have a3 : i < 32 := by omega
    simp [hi, a1, a2, a3])
  have k1 := key 8 b (fun i hi => by
    unfold num4 wide
    have a0 : ¬ 8 + i < 8 := by omega
    have a1 : 8 + i < 16 := by omega
    have a2 : 8 + i < 24 := by omega
    have a3 : 8 + i < 32 := by omega
    simp [a1, a2, a3])
  have k2 := key 16 c (fun i hi => by
    unfold num4 wide
    have a1 : ¬ 16 + i < 8 := by omega
    have a0 : ¬ 16 + i < 16 := by omega
    have a2 : 16 + i < 24 := by omega
    have a3 : 16 + i < 32 := by omega
    have h1 := hb a (16 + i) (by omega)
    have h2 := hb b (16 + i - 8) (by omega)
    simp [a1, a2, a3, h1, h2])
  have k3 := key 24 d (fun i hi => by
    unfold num4 wide
    have a1 : ¬ 24 + i < 8 := by omega
    have a0 : ¬ 24 + i < 16 := by omega
    have a2 : ¬ 24 + i < 24 := by omega
    have a3 : 24 + i < 32 := by omega
    have h1 := hb a (24 + i) (by omega)
    have h2 := hb b (24 + i - 8) (by omega)
    have h3 := hb c (24 + i - 16) (by omega)
    simp [a1, a3, h1, h2, h3])
  rw [show ((num4 a b c d).setWidth 8) = ((num4 a b c d) >>> 0).setWidth 8 by simp, k0, k1, k2, k3]
/-- Two texts whose own sums stand behind them: what parts them feeds nought into the register. -/
theorem residue (l r : List UInt8) (x y : BitVec 32) (hlen : l.length = r.length) (h1 : csum l = x) (h2 : csum r = y) : cfeed 0#32 (bxor (l ++ four x) (r ++ four y)) = 0#32 := by
  have e : (0#32 : BitVec 32) = BitVec.allOnes 32 ^^^ BitVec.allOnes 32 := by simp
  rw [e, cfeed_xor _ _ _ _ (by simp [hlen, four]), cfeed_append, cfeed_append, cfeed_four, cfeed_four, ← h1, ← h2]
  unfold csum
  have e2 : ∀ z : BitVec 32, z ^^^ ~~~z = BitVec.allOnes 32 := fun z => by
    apply BitVec.eq_of_getLsbD_eq
    intro i hi
    rw [BitVec.getLsbD_xor, BitVec.getLsbD_not, BitVec.getLsbD_allOnes]
    cases z.getLsbD i <;> simp [hi]
  rw [e2, e2, BitVec.xor_self]
  simp
theorem some_bits (f : Nat → Bool) : ∀ n, ∃ v : BitVec n, ∀ i, i < n → v.getLsbD i = f i
  | 0 => ⟨0#0, fun i h => by omega⟩
  | n + 1 => by
    obtain ⟨v, hv⟩ := some_bits f n
    refine ⟨BitVec.cons (f n) v, fun i hi => ?_⟩
    rw [BitVec.getLsbD_cons]
    by_cases h : i = n
    · rw [if_pos h, h]
    · rw [if_neg h, hv i (by omega)]
/-- A difference that lies within 32 bits in a row, and feeds nought, is none. -/
theorem burst_none (d : List UInt8) (k : Nat) (h : cfeed 0#32 d = 0#32) (hd : ∀ j, lbit d j = true → k ≤ j ∧ j < k + 32) : ∀ j, lbit d j = false := by
  have hout : ∀ j, 8 * d.length ≤ j → lbit d j = false := fun j hj => by
    unfold lbit
    simp only [List.getD_eq_getElem?_getD]
    rw [List.getElem?_eq_none (by omega)]
    simp
  intro j
  by_cases hj : k ≤ j ∧ j < k + 32
  · rw [cfeed_bits] at h
    by_cases hk : k ≤ 8 * d.length
    · obtain ⟨n, hn⟩ : ∃ n, 8 * d.length = k + n := ⟨8 * d.length - k, by omega⟩
      rw [hn, bfeed_add, bfeed_off (lbit d) k 0 _ (fun i _ hi => by
        cases hb : lbit d i with
        | false => rfl
        | true => have := hd i hb; omega), csteps_zero, Nat.zero_add] at h
      -- feed on, so that at least 32 bits come
      have h2 : bfeed (lbit d) (n + 32) k 0#32 = 0#32 := by
        rw [bfeed_add, h, bfeed_off (lbit d) 32 (k + n) _ (fun i hi _ => hout i (by omega)), csteps_zero]
      rw [Nat.add_comm, bfeed_add, bfeed_off (lbit d) n (k + 32) _ (fun i hi _ => by
        cases hb : lbit d i with
        | false => rfl
        | true => have := hd i hb; omega)] at h2
      have h3 := csteps_eq_zero _ _ h2
      obtain ⟨v, hv⟩ := some_bits (fun i => lbit d (i + k)) 32
      rw [show k = 0 + k by omega, ← bfeed_shift (lbit d) 32 0 k, bfeed_congr (g := fun i => v.getLsbD i) 32 0 _ (fun i _ hi => (hv i (by omega)).symm), bfeed_bits v 32 0 _ rfl] at h3
      have h4 := csteps_eq_zero _ _ h3
      simp at h4
      have h5 := hv (j - k) (by omega)
      rw [h4] at h5
      have e : j - k + k = j := by omega
      rw [e] at h5
      simpa using h5.symm
    · exact hout j (by omega)
  · cases hb : lbit d j with
    | false => rfl
    | true => exact absurd (hd j hb) hj
end Go.Proofs.YtjlfoiocceepjaaDoor
