/-
  Plain: the cyclic sum by its register, bit by bit: it is additive, and its step loses nothing.
  Plain: the cyclic sum of bytes, and what a difference of two texts does to it.
  Plain: the document's cyclic sum, a division of a row of bits, is the register's.
-/

namespace Go.Proofs.Ytjlfoiocceepjaa

/-- one step of the register -/
def cstep (c : BitVec 32) : BitVec 32 := (c >>> 1) ^^^ (if c.getLsbD 0 then 0xedb88320#32 else 0#32)
def csteps : Nat → BitVec 32 → BitVec 32
  | 0, c => c
  | n + 1, c => csteps n (cstep c)

theorem cstep_xor (a b : BitVec 32) : cstep (a ^^^ b) = cstep a ^^^ cstep b := by
  unfold cstep
  rw [BitVec.getLsbD_xor, BitVec.ushiftRight_xor_distrib]
  cases a.getLsbD 0 <;> cases b.getLsbD 0 <;> simp
  · rw [BitVec.xor_assoc]
  · rw [BitVec.xor_assoc, BitVec.xor_assoc, BitVec.xor_comm (b >>> 1)]
  · rw [BitVec.xor_assoc, BitVec.xor_comm _ (b >>> 1 ^^^ _), BitVec.xor_assoc, BitVec.xor_self, BitVec.xor_zero]
theorem cstep_zero : cstep 0#32 = 0#32 := by decide
theorem cstep_eq_zero (c : BitVec 32) (h : cstep c = 0#32) : c = 0#32 := by
  unfold cstep at h
  cases h0 : c.getLsbD 0 with
  | true =>
    rw [h0] at h
    have h1 : ((c >>> 1) ^^^ (if true = true then 0xedb88320#32 else 0#32)).getLsbD 31 = (0#32).getLsbD 31 := by rw [h]
    simp at h1
  | false =>
    rw [h0] at h
    simp at h
    apply BitVec.eq_of_getLsbD_eq
    intro i hi
    cases i with
    | zero => simpa using h0
    | succ i =>
      have h1 : (c >>> 1).getLsbD i = (0#32).getLsbD i := by rw [h]
      rw [BitVec.getLsbD_ushiftRight, Nat.add_comm] at h1
      rw [h1]; simp
theorem csteps_zero : ∀ n, csteps n 0#32 = 0#32
  | 0 => rfl
  | n + 1 => by rw [csteps, cstep_zero, csteps_zero n]
theorem csteps_eq_zero : ∀ n c, csteps n c = 0#32 → c = 0#32
  | 0, _, h => h
  | n + 1, c, h => cstep_eq_zero c (csteps_eq_zero n _ h)
theorem csteps_xor : ∀ n a b, csteps n (a ^^^ b) = csteps n a ^^^ csteps n b
  | 0, _, _ => rfl
  | n + 1, a, b => by rw [csteps, cstep_xor, csteps_xor n]; rfl
theorem csteps_add : ∀ m n c, csteps (m + n) c = csteps n (csteps m c)
  | 0, n, c => by rw [Nat.zero_add]; rfl
  | m + 1, n, c => by rw [Nat.add_right_comm, csteps, csteps_add m n]; rfl

/-- the bits i, i+1, .. , i+n-1 of f are fed into the register -/
def bfeed (f : Nat → Bool) : Nat → Nat → BitVec 32 → BitVec 32
  | 0, _, c => c
  | n + 1, i, c => bfeed f n (i + 1) (cstep (c ^^^ (if f i then 1#32 else 0#32)))
theorem bfeed_xor (f g : Nat → Bool) : ∀ n i a b, bfeed (fun j => f j != g j) n i (a ^^^ b) = bfeed f n i a ^^^ bfeed g n i b
  | 0, _, _, _ => rfl
  | n + 1, i, a, b => by
    simp only [bfeed]
    rw [← bfeed_xor f g n (i + 1), ← cstep_xor]
    congr 2
    have e : (if (f i != g i) = true then 1#32 else 0#32) = (if f i = true then 1#32 else 0#32) ^^^ (if g i = true then 1#32 else 0#32) := by
      cases f i <;> cases g i <;> simp
    rw [e]
    generalize (if f i = true then 1#32 else 0#32) = x
    generalize (if g i = true then 1#32 else 0#32) = y
    rw [BitVec.xor_assoc, BitVec.xor_assoc, ← BitVec.xor_assoc b, BitVec.xor_comm b, BitVec.xor_assoc]
theorem bfeed_add (f : Nat → Bool) : ∀ m n i c, bfeed f (m + n) i c = bfeed f n (i + m) (bfeed f m i c)
  | 0, n, i, c => by rw [Nat.zero_add]; rfl
  | m + 1, n, i, c => by
    rw [Nat.add_right_comm]
    simp only [bfeed]
    rw [bfeed_add f m n, Nat.add_right_comm, Nat.add_assoc]
theorem bfeed_off (f : Nat → Bool) : ∀ n i c, (∀ j, i ≤ j → j < i + n → f j = false) → bfeed f n i c = csteps n c
  | 0, _, _, _ => rfl
  | n + 1, i, c, h => by
    simp only [bfeed, csteps]
    rw [h i (Nat.le_refl _) (by omega)]
    simp only [Bool.false_eq_true, if_false, BitVec.xor_zero]
    exact bfeed_off f n (i + 1) _ (fun j h1 h2 => h j (by omega) (by omega))
theorem bfeed_congr {f g : Nat → Bool} : ∀ n i c, (∀ j, i ≤ j → j < i + n → f j = g j) → bfeed f n i c = bfeed g n i c
  | 0, _, _, _ => rfl
  | n + 1, i, c, h => by
    simp only [bfeed]
    rw [h i (Nat.le_refl _) (by omega)]
    exact bfeed_congr n (i + 1) _ (fun j h1 h2 => h j (by omega) (by omega))
theorem bfeed_shift (f : Nat → Bool) : ∀ n i k c, bfeed (fun j => f (j + k)) n i c = bfeed f n (i + k) c
  | 0, _, _, _ => rfl
  | n + 1, i, k, c => by
    simp only [bfeed]
    rw [bfeed_shift f n (i + 1) k, Nat.add_right_comm]

theorem one_bit (b : Bool) (j : Nat) (h : j ≠ 0) : (if b = true then 1#32 else 0#32).getLsbD j = false := by
  cases b
  · simp
  · simp only [if_true]
    rw [BitVec.getLsbD_one]
    simp [h]
theorem ushr_bit (v : BitVec 32) (i : Nat) : (v >>> i) = ((v >>> (i + 1)) <<< 1) ^^^ (if v.getLsbD i then 1#32 else 0#32) := by
  apply BitVec.eq_of_getLsbD_eq
  intro j hj
  rw [BitVec.getLsbD_xor, BitVec.getLsbD_ushiftRight, BitVec.getLsbD_shiftLeft, BitVec.getLsbD_ushiftRight]
  cases j with
  | zero => cases h : v.getLsbD i <;> simp
  | succ j =>
    have e : i + (j + 1) = i + 1 + j := by omega
    rw [one_bit _ _ (by omega), e]
    simp [hj]
theorem cstep_shl (v : BitVec 32) (h : v.getLsbD 31 = false) : cstep (v <<< 1) = v := by
  unfold cstep
  have h0 : (v <<< 1).getLsbD 0 = false := by simp
  rw [h0]
  simp only [Bool.false_eq_true, if_false, BitVec.xor_zero]
  apply BitVec.eq_of_getLsbD_eq
  intro j hj
  rw [BitVec.getLsbD_ushiftRight, BitVec.getLsbD_shiftLeft]
  by_cases h31 : j = 31
  · subst h31; rw [h]; simp
  · have h1 : 1 + j < 32 := by omega
    have h2 : 1 + j - 1 = j := by omega
    simp [h1, h2]
/-- all bits of a number, one by one, come to the number at once -/
theorem bfeed_bits (v : BitVec 32) : ∀ n i c, i + n = 32 → bfeed (fun j => v.getLsbD j) n i (c) = csteps n (c ^^^ (v >>> i))
  | 0, i, c, h => by
    obtain rfl : i = 32 := by omega
    have : v >>> 32 = 0#32 := by apply BitVec.eq_of_getLsbD_eq; intro j hj; simp
    rw [this, BitVec.xor_zero]; rfl
  | n + 1, i, c, h => by
    simp only [bfeed, csteps]
    rw [bfeed_bits v n (i + 1) _ (by omega)]
    congr 1
    rw [ushr_bit v i, BitVec.xor_comm ((v >>> (i + 1)) <<< 1), ← BitVec.xor_assoc, cstep_xor (c ^^^ _)]
    congr 1
    rw [cstep_shl]
    simp
end Go.Proofs.Ytjlfoiocceepjaa
namespace Go.Proofs.Ytjlfoiocceepjaa

/-- bit j of a row of bytes -/
def lbit (l : List UInt8) (j : Nat) : Bool := (l.getD (j / 8) 0).toBitVec.getLsbD (j % 8)
def wide (b : UInt8) : BitVec 32 := b.toBitVec.setWidth 32
def cupd (c : BitVec 32) (b : UInt8) : BitVec 32 := csteps 8 (c ^^^ wide b)
def cfeed (c : BitVec 32) (l : List UInt8) : BitVec 32 := l.foldl cupd c
def csum (l : List UInt8) : BitVec 32 := ~~~(cfeed (BitVec.allOnes 32) l)

theorem bfeed_byte (b : UInt8) (c : BitVec 32) : bfeed (fun j => b.toBitVec.getLsbD j) 8 0 c = cupd c b := by
  have h := bfeed_bits (wide b) 32 0 c (by omega)
  have h1 : bfeed (fun j => (wide b).getLsbD j) 32 0 c = bfeed (fun j => (wide b).getLsbD j) 24 8 (bfeed (fun j => (wide b).getLsbD j) 8 0 c) := bfeed_add _ 8 24 0 c
  have h2 : ∀ x, bfeed (fun j => (wide b).getLsbD j) 24 8 x = csteps 24 x := fun x => bfeed_off _ 24 8 x (fun j h1 h2 => by unfold wide; rw [BitVec.getLsbD_setWidth]; simp; intro _; exact BitVec.getLsbD_of_ge _ _ (by omega))
  have h3 : bfeed (fun j => (wide b).getLsbD j) 8 0 c = bfeed (fun j => b.toBitVec.getLsbD j) 8 0 c := bfeed_congr 8 0 c (fun j _ h2 => by unfold wide; rw [BitVec.getLsbD_setWidth]; simp; omega)
  rw [h1, h2, h3] at h
  have h4 : csteps 32 (c ^^^ (wide b) >>> 0) = csteps 24 (cupd c b) := by
    have := csteps_add 8 24 (c ^^^ (wide b) >>> 0)
    simpa [cupd] using this
  rw [h4] at h
  have h5 : csteps 24 (bfeed (fun j => b.toBitVec.getLsbD j) 8 0 c ^^^ cupd c b) = 0#32 := by rw [csteps_xor, h, BitVec.xor_self]
  have h6 := csteps_eq_zero _ _ h5
  have h7 : bfeed (fun j => b.toBitVec.getLsbD j) 8 0 c ^^^ cupd c b ^^^ cupd c b = 0#32 ^^^ cupd c b := by rw [h6]
  simpa [BitVec.xor_assoc] using h7
theorem lbit_cons (b : UInt8) (l : List UInt8) (j : Nat) : lbit (b :: l) (j + 8) = lbit l j := by
  unfold lbit
  have e1 : (j + 8) / 8 = j / 8 + 1 := by omega
  have e2 : (j + 8) % 8 = j % 8 := by omega
  rw [e1, e2]
  rfl
theorem cfeed_bits : ∀ (l : List UInt8) (c : BitVec 32), cfeed c l = bfeed (lbit l) (8 * l.length) 0 c
  | [], _ => rfl
  | b :: l, c => by
    have e : 8 * (b :: l).length = 8 + 8 * l.length := by simp; omega
    rw [e, bfeed_add]
    have h1 : bfeed (lbit (b :: l)) 8 0 c = cupd c b := by
      rw [← bfeed_byte]
      apply bfeed_congr
      intro j _ h2
      have e1 : j / 8 = 0 := by omega
      have e2 : j % 8 = j := by omega
      simp [lbit, e1, e2]
    rw [h1]
    show cfeed (cupd c b) l = _
    rw [cfeed_bits l, Nat.zero_add, ← Nat.zero_add 8, ← bfeed_shift (lbit (b :: l)) _ 0 8]
    exact bfeed_congr _ _ _ (fun j _ _ => (lbit_cons b l j).symm)
theorem cfeed_append (l r : List UInt8) (c : BitVec 32) : cfeed c (l ++ r) = cfeed (cfeed c l) r := by unfold cfeed; rw [List.foldl_append]

/-- bytes xored -/
def bxor (l r : List UInt8) : List UInt8 := List.zipWith (· ^^^ ·) l r
theorem wide_xor (a b : UInt8) : wide (a ^^^ b) = wide a ^^^ wide b := by
  unfold wide
  rw [UInt8.toBitVec_xor, BitVec.setWidth_xor]
theorem cfeed_xor : ∀ (l r : List UInt8) (a b : BitVec 32), l.length = r.length → cfeed (a ^^^ b) (bxor l r) = cfeed a l ^^^ cfeed b r
  | [], [], _, _, _ => rfl
  | x :: l, y :: r, a, b, h => by
    have h' : l.length = r.length := by simpa using h
    show cfeed (cupd (a ^^^ b) (x ^^^ y)) (bxor l r) = cfeed (cupd a x) l ^^^ cfeed (cupd b y) r
    rw [← cfeed_xor l r _ _ h']
    congr 1
    unfold cupd
    rw [wide_xor, ← csteps_xor]
    congr 1
    rw [BitVec.xor_assoc, BitVec.xor_assoc, ← BitVec.xor_assoc b, BitVec.xor_comm b, BitVec.xor_assoc]
  | [], _ :: _, _, _, h => by simp at h
  | _ :: _, [], _, _, h => by simp at h

theorem bxor_length (l r : List UInt8) (h : l.length = r.length) : (bxor l r).length = l.length := by simp [bxor, h]
theorem lbit_bxor (l r : List UInt8) (h : l.length = r.length) (j : Nat) : lbit (bxor l r) j = (lbit l j != lbit r j) := by
  unfold lbit bxor
  simp only [List.getD_eq_getElem?_getD, List.getElem?_zipWith]
  by_cases hj : j / 8 < l.length
  · rw [List.getElem?_eq_getElem hj, List.getElem?_eq_getElem (h ▸ hj)]
    simp
  · rw [List.getElem?_eq_none (by omega), List.getElem?_eq_none (by omega)]
    simp

/-! ### four bytes -/
def four (x : BitVec 32) : List UInt8 := [⟨x.setWidth 8⟩, ⟨(x >>> 8).setWidth 8⟩, ⟨(x >>> 16).setWidth 8⟩, ⟨(x >>> 24).setWidth 8⟩]
def num4 (a b c d : UInt8) : BitVec 32 := wide a ||| (wide b <<< 8) ||| (wide c <<< 16) ||| (wide d <<< 24)
theorem lbit_four (x : BitVec 32) (j : Nat) : lbit (four x) j = x.getLsbD j := by
  unfold lbit four
  by_cases h0 : j / 8 = 0
  · have e : j % 8 = j := by omega
    rw [h0, e]; simp; omega
  by_cases h1 : j / 8 = 1
  · rw [h1]; simp only [List.getD_cons_succ, List.getD_cons_zero]; rw [BitVec.getLsbD_setWidth, BitVec.getLsbD_ushiftRight]
    have e : 8 + j % 8 = j := by omega
    rw [e]; simp; omega
  by_cases h2 : j / 8 = 2
  · rw [h2]; simp only [List.getD_cons_succ, List.getD_cons_zero]; rw [BitVec.getLsbD_setWidth, BitVec.getLsbD_ushiftRight]
    have e : 16 + j % 8 = j := by omega
    rw [e]; simp; omega
  by_cases h3 : j / 8 = 3
  · rw [h3]; simp only [List.getD_cons_succ, List.getD_cons_zero]; rw [BitVec.getLsbD_setWidth, BitVec.getLsbD_ushiftRight]
    have e : 24 + j % 8 = j := by omega
    rw [e]; simp; omega
  · have h4 : ∃ m, j / 8 = m + 4 := ⟨j / 8 - 4, by omega⟩
    obtain ⟨m, hm⟩ := h4
    rw [hm]
    simp
    rw [BitVec.getLsbD_of_ge x j (by omega)]
theorem cfeed_four (c x : BitVec 32) : cfeed c (four x) = csteps 32 (c ^^^ x) := by
  rw [cfeed_bits]
  have e : 8 * (four x).length = 32 := rfl
  rw [e, bfeed_congr (g := fun j => x.getLsbD j) 32 0 c (fun j _ _ => lbit_four x j), bfeed_bits x 32 0 c rfl]
  simp
theorem num4_four (x : BitVec 32) : num4 ⟨x.setWidth 8⟩ ⟨(x >>> 8).setWidth 8⟩ ⟨(x >>> 16).setWidth 8⟩ ⟨(x >>> 24).setWidth 8⟩ = x := by
  unfold num4 wide
  apply BitVec.eq_of_getLsbD_eq
  intro i hi
  simp only [BitVec.getLsbD_or, BitVec.getLsbD_shiftLeft, BitVec.getLsbD_setWidth, BitVec.getLsbD_ushiftRight]
  by_cases h0 : i < 8
  · have a1 : i < 16 := by omega
    have a2 : i < 24 := by omega
    simp [h0, a1, a2, hi]
  by_cases h1 : i < 16
  · have e1 : 8 + (i - 8) = i := by omega
    have a2 : i < 24 := by omega
    have a3 : i - 8 < 8 := by omega
    have a4 : i - 8 < 32 := by omega
    simp [h0, h1, a2, a3, a4, hi, e1]
  by_cases h2 : i < 24
  · have e1 : 16 + (i - 16) = i := by omega
    have a2 : ¬ i - 8 < 8 := by omega
    have a3 : i - 16 < 8 := by omega
    have a4 : i - 16 < 32 := by omega
    simp [h0, h1, h2, a2, a3, a4, hi, e1]
  · have e1 : 24 + (i - 24) = i := by omega
    have a2 : ¬ i - 8 < 8 := by omega
    have a3 : ¬ i - 16 < 8 := by omega
    have a5 : i - 24 < 8 := by omega
    have a4 : i - 24 < 32 := by omega
    simp [h0, h1, h2, a2, a3, a4, a5, hi, e1]
theorem four_num4 (a b c d : UInt8) : four (num4 a b c d) = [a, b, c, d] := by
  unfold four
  have key : ∀ (k : Nat) (z : UInt8), (∀ i, i < 8 → (num4 a b c d).getLsbD (k + i) = z.toBitVec.getLsbD i) → (⟨((num4 a b c d) >>> k).setWidth 8⟩ : UInt8) = z := by
    intro k z h
    apply UInt8.toBitVec_inj.1
    apply BitVec.eq_of_getLsbD_eq
    intro i hi
    rw [BitVec.getLsbD_setWidth, BitVec.getLsbD_ushiftRight, h i hi]
    simp [hi]
  have hb : ∀ (z : UInt8) i, 8 ≤ i → z.toBitVec.getLsbD i = false := fun z i h => BitVec.getLsbD_of_ge _ _ (by omega)
  have k0 := key 0 a (fun i hi => by
    unfold num4 wide
    have a1 : i < 16 := by omega
    have a2 : i < 24 := by omega
    have a3 : i < 32 := by omega
    simp [hi, a1, a2, a3])
  have k1 := key 8 b (fun i hi => by
    unfold num4 wide
    have a0 : ¬ 8 + i < 8 := by omega
    have a1 : 8 + i < 16 := by omega
    have a2 : 8 + i < 24 := by omega
    have a3 : 8 + i < 32 := by omega
    simp [a1, a2, a3])
  have k2 := key 16 c (fun i hi => by
    unfold num4 wide
    have a1 : ¬ 16 + i < 8 := by omega
    have a0 : ¬ 16 + i < 16 := by omega
    have a2 : 16 + i < 24 := by omega
    have a3 : 16 + i < 32 := by omega
    have h1 := hb a (16 + i) (by omega)
    have h2 := hb b (16 + i - 8) (by omega)
    simp [a1, a2, a3, h1, h2])
  have k3 := key 24 d (fun i hi => by
    unfold num4 wide
    have a1 : ¬ 24 + i < 8 := by omega
    have a0 : ¬ 24 + i < 16 := by omega
    have a2 : ¬ 24 + i < 24 := by omega
    have a3 : 24 + i < 32 := by omega
    have h1 := hb a (24 + i) (by omega)
    have h2 := hb b (24 + i - 8) (by omega)
    have h3 := hb c (24 + i - 16) (by omega)
    simp [a1, a3, h1, h2, h3])
  rw [show ((num4 a b c d).setWidth 8) = ((num4 a b c d) >>> 0).setWidth 8 by simp, k0, k1, k2, k3]
/-- Two texts whose own sums stand behind them: what parts them feeds nought into the register. -/
theorem residue (l r : List UInt8) (x y : BitVec 32) (hlen : l.length = r.length) (h1 : csum l = x) (h2 : csum r = y) : cfeed 0#32 (bxor (l ++ four x) (r ++ four y)) = 0#32 := by
  have e : (0#32 : BitVec 32) = BitVec.allOnes 32 ^^^ BitVec.allOnes 32 := by simp
  rw [e, cfeed_xor _ _ _ _ (by simp [hlen, four]), cfeed_append, cfeed_append, cfeed_four, cfeed_four, ← h1, ← h2]
  unfold csum
  have e2 : ∀ z : BitVec 32, z ^^^ ~~~z = BitVec.allOnes 32 := fun z => by
    apply BitVec.eq_of_getLsbD_eq
    intro i hi
    rw [BitVec.getLsbD_xor, BitVec.getLsbD_not, BitVec.getLsbD_allOnes]
    cases z.getLsbD i <;> simp [hi]
  rw [e2, e2, BitVec.xor_self]
  simp
theorem some_bits (f : Nat → Bool) : ∀ n, ∃ v : BitVec n, ∀ i, i < n → v.getLsbD i = f i
  | 0 => ⟨0#0, fun i h => by omega⟩
  | n + 1 => by
    obtain ⟨v, hv⟩ := some_bits f n
    refine ⟨BitVec.cons (f n) v, fun i hi => ?_⟩
    rw [BitVec.getLsbD_cons]
    by_cases h : i = n
    · rw [if_pos h, h]
    · rw [if_neg h, hv i (by omega)]
/-- A difference that lies within 32 bits in a row, and feeds nought, is none. -/
theorem burst_none (d : List UInt8) (k : Nat) (h : cfeed 0#32 d = 0#32) (hd : ∀ j, lbit d j = true → k ≤ j ∧ j < k + 32) : ∀ j, lbit d j = false := by
  have hout : ∀ j, 8 * d.length ≤ j → lbit d j = false := fun j hj => by
    unfold lbit
    simp only [List.getD_eq_getElem?_getD]
    rw [List.getElem?_eq_none (by omega)]
    simp
  intro j
  by_cases hj : k ≤ j ∧ j < k + 32
  · rw [cfeed_bits] at h
    by_cases hk : k ≤ 8 * d.length
    · obtain ⟨n, hn⟩ : ∃ n, 8 * d.length = k + n := ⟨8 * d.length - k, by omega⟩
      rw [hn, bfeed_add, bfeed_off (lbit d) k 0 _ (fun i _ hi => by
        cases hb : lbit d i with
        | false => rfl
        | true => have := hd i hb; omega), csteps_zero, Nat.zero_add] at h
      -- feed on, so that at least 32 bits come
      have h2 : bfeed (lbit d) (n + 32) k 0#32 = 0#32 := by
        rw [bfeed_add, h, bfeed_off (lbit d) 32 (k + n) _ (fun i hi _ => hout i (by omega)), csteps_zero]
      rw [Nat.add_comm, bfeed_add, bfeed_off (lbit d) n (k + 32) _ (fun i hi _ => by
        cases hb : lbit d i with
        | false => rfl
        | true => have := hd i hb; omega)] at h2
      have h3 := csteps_eq_zero _ _ h2
      obtain ⟨v, hv⟩ := some_bits (fun i => lbit d (i + k)) 32
      rw [show k = 0 + k by omega, ← bfeed_shift (lbit d) 32 0 k, bfeed_congr (g := fun i => v.getLsbD i) 32 0 _ (fun i _ hi => (hv i (by omega)).symm), bfeed_bits v 32 0 _ rfl] at h3
      have h4 := csteps_eq_zero _ _ h3
      simp at h4
      have h5 := hv (j - k) (by omega)
      rw [h4] at h5
      have e : j - k + k = j := by omega
      rw [e] at h5
      simpa using h5.symm
    · exact hout j (by omega)
  · cases hb : lbit d j with
    | false => rfl
    | true => exact absurd (hd j hb) hj
end Go.Proofs.Ytjlfoiocceepjaa
namespace Go.Proofs.Ytjlfoiocceepjaa

theorem lbit_out (l : List UInt8) (j : Nat) (h : 8 * l.length ≤ j) : lbit l j = false := by
  unfold lbit
  simp only [List.getD_eq_getElem?_getD]
  rw [List.getElem?_eq_none (by omega)]
  simp
/-- the polynomial's bits, the highest first -/
def pbit (k : Nat) : Bool := (0x104c11db7 >>> (32 - k)) % 2 == 1
/-- the row at the start -/
def row0 (l : List UInt8) (j : Nat) : Bool := lbit l j != decide (j < 32)
/-- a round -/
def rround (r : Nat → Bool) (i : Nat) (j : Nat) : Bool := if r i = true ∧ i ≤ j ∧ j < i + 33 then r j != pbit (j - i) else r j
def rrow (l : List UInt8) : Nat → Nat → Bool
  | 0 => row0 l
  | i + 1 => rround (rrow l i) i
/-- the register behind i bits -/
def creg (l : List UInt8) (i : Nat) : BitVec 32 := bfeed (lbit l) i 0 (BitVec.allOnes 32)
theorem creg_succ (l : List UInt8) (i : Nat) : creg l (i + 1) = cstep (creg l i ^^^ (if lbit l i then 1#32 else 0#32)) := by
  unfold creg
  rw [bfeed_add, Nat.zero_add]
  rfl
theorem pbit_rev : ∀ k, k < 32 → pbit (k + 1) = (0xedb88320#32).getLsbD k := by decide
theorem rrow_reg (l : List UInt8) : ∀ i, (∀ k, k < 32 → rrow l i (i + k) = ((creg l i).getLsbD k != lbit l (i + k))) ∧ (∀ j, i + 32 ≤ j → rrow l i j = lbit l j)
  | 0 => ⟨fun k hk => by
      show row0 l (0 + k) = _
      unfold row0 creg bfeed
      rw [Nat.zero_add, decide_eq_true hk, BitVec.getLsbD_allOnes, decide_eq_true hk]
      cases lbit l k <;> rfl, fun j hj => by
      show row0 l j = _
      unfold row0
      rw [decide_eq_false (by omega)]
      cases lbit l j <;> rfl⟩
  | i + 1 => by
    obtain ⟨h1, h2⟩ := rrow_reg l i
    have h0 := h1 0 (by omega)
    rw [Nat.add_zero] at h0
    have hb0 : (creg l i ^^^ (if lbit l i = true then 1#32 else 0#32)).getLsbD 0 = rrow l i i := by
      rw [BitVec.getLsbD_xor, h0]
      cases (creg l i).getLsbD 0 <;> cases lbit l i <;> simp
    refine ⟨fun k hk => ?_, fun j hj => ?_⟩
    · rw [creg_succ]
      show rround (rrow l i) i (i + 1 + k) = _
      unfold rround cstep
      rw [hb0, BitVec.getLsbD_xor, BitVec.getLsbD_ushiftRight, BitVec.getLsbD_xor]
      have e1 : i + 1 + k - i = k + 1 := by omega
      have hold : rrow l i (i + 1 + k) = ((creg l i).getLsbD (1 + k) != lbit l (i + 1 + k)) := by
        by_cases h31 : k = 31
        · subst h31
          rw [h2 _ (by omega), BitVec.getLsbD_of_ge _ _ (by omega)]
          cases lbit l (i + 1 + 31) <;> rfl
        · have := h1 (1 + k) (by omega)
          rw [← Nat.add_assoc] at this
          exact this
      have one : (if lbit l i = true then 1#32 else 0#32).getLsbD (1 + k) = false := one_bit _ _ (by omega)
      rw [one]
      cases hr : rrow l i i with
      | true =>
        rw [if_pos ⟨rfl, by omega, by omega⟩, e1, hold, pbit_rev k hk]
        simp only [if_true]
        cases (creg l i).getLsbD (1 + k) <;> cases lbit l (i + 1 + k) <;> cases (0xedb88320#32).getLsbD k <;> rfl
      | false =>
        rw [if_neg (by simp), hold]
        cases (creg l i).getLsbD (1 + k) <;> cases lbit l (i + 1 + k) <;> simp
    · show rround (rrow l i) i j = _
      unfold rround
      rw [if_neg (by omega)]
      exact h2 j (by omega)
/-- what is read off the row's end, k places left -/
def rsum (r : Nat → Bool) (n : Nat) : Nat → Nat
  | 0 => 0
  | m + 1 => rsum r n m * 2 + (if r (n + (31 - m)) then 0 else 1)
theorem rsum_bits (r : Nat → Bool) (n : Nat) (v : BitVec 32) (h : ∀ k, k < 32 → r (n + k) = !v.getLsbD k) : ∀ m, m ≤ 32 → rsum r n m = (v >>> (32 - m)).toNat
  | 0, _ => by
    show 0 = (v >>> 32).toNat
    have : v >>> 32 = 0#32 := by apply BitVec.eq_of_getLsbD_eq; intro i hi; simp
    rw [this]; rfl
  | m + 1, hm => by
    have ih := rsum_bits r n v h m (by omega)
    show rsum r n m * 2 + (if r (n + (31 - m)) then 0 else 1) = _
    rw [ih, h (31 - m) (by omega), BitVec.toNat_ushiftRight, BitVec.toNat_ushiftRight]
    have e : 32 - m = 32 - (m + 1) + 1 := by omega
    have e2 : 31 - m = 32 - (m + 1) := by omega
    rw [e, e2]
    generalize 32 - (m + 1) = s
    rw [Nat.shiftRight_succ]
    have hb : v.getLsbD s = decide ((v.toNat >>> s) % 2 = 1) := by
      rw [← BitVec.testBit_toNat, Nat.testBit_eq_decide_div_mod_eq, Nat.shiftRight_eq_div_pow]
    rw [hb]
    have h2 := Nat.div_add_mod (v.toNat >>> s) 2
    by_cases hc : (v.toNat >>> s) % 2 = 1
    · simp [hc]; omega
    · simp [hc]; omega
/-- the document's sum -/
def refsum (l : List UInt8) : Nat := rsum (rrow l (8 * l.length)) (8 * l.length) 32
theorem refsum_eq (l : List UInt8) : refsum l = (csum l).toNat := by
  unfold refsum
  rw [rsum_bits _ _ (csum l) (fun k hk => ?_) 32 (by omega)]
  · simp
  · rw [(rrow_reg l (8 * l.length)).1 k hk, lbit_out l _ (by omega)]
    unfold csum creg
    rw [cfeed_bits, BitVec.getLsbD_not]
    simp [hk]
end Go.Proofs.Ytjlfoiocceepjaa
