/-
  Plain: the cyclic sum by its register, bit by bit: it is additive, and its step loses nothing.
-/
namespace Go.Proofs.YtjlfoiocceepjaaDoor

/-- one step of the register -/
def cstep (c : BitVec 32) : BitVec 32 := (c >>> 1) ^^^ (if c.getLsbD 0 then 0xedb88320#32 else 0#32)
def csteps : Nat → BitVec 32 → BitVec 32
  | 0, c => c
  | n + 1, c => csteps n (cstep c)

theorem cstep_xor (a b : BitVec 32) : cstep (a ^^^ b) = cstep a ^^^ cstep b := by
  unfold cstep
  rw [BitVec.getLsbD_xor, BitVec.ushiftRight_xor_distrib]
  cases a.getLsbD 0 <;> cases b.getLsbD 0 <;> simp
  · rw [BitVec.xor_assoc]
  · rw [BitVec.xor_assoc, BitVec.xor_assoc, BitVec.xor_comm (b >>> 1)]
  · rw [BitVec.xor_assoc, BitVec.xor_comm _ (b >>> 1 ^^^ _), BitVec.xor_assoc, BitVec.xor_self, BitVec.xor_zero]
theorem cstep_zero : cstep 0#32 = 0#32 := by decide
theorem cstep_eq_zero (c : BitVec 32) (h : cstep c = 0#32) : c = 0#32 := by
  unfold cstep at h
  cases h0 : c.getLsbD 0 with
  | true =>
    rw [h0] at h
    have h1 : ((c >>> 1) ^^^ (if true = true then 0xedb88320#32 else 0#32)).getLsbD 31 = (0#32).getLsbD 31 := by rw [h]
    simp at h1
  | false =>
    rw [h0] at h
    simp at h
    apply BitVec.eq_of_getLsbD_eq
    intro i hi
    cases i with
    | zero => simpa using h0
    | succ i =>
      have h1 : (c >>> 1).getLsbD i = (0#32).getLsbD i := by rw [h]
      rw [BitVec.getLsbD_ushiftRight, Nat.add_comm] at h1
      rw [h1]; simp
theorem csteps_zero : ∀ n, csteps n 0#32 = 0#32
  | 0 => rfl
  | n + 1 => by rw [csteps, cstep_zero, csteps_zero n]
theorem csteps_eq_zero : ∀ n c, csteps n c = 0#32 → c = 0#32
  | 0, _, h => h
  | n + 1, c, h => cstep_eq_zero c (csteps_eq_zero n _ h)
theorem csteps_xor : ∀ n a b, csteps n (a ^^^ b) = csteps n a ^^^ csteps n b
  | 0, _, _ => rfl
  | n + 1, a, b => by rw [csteps, cstep_xor, csteps_xor n]; rfl
theorem csteps_add : ∀ m n c, csteps (m + n) c = csteps n (csteps m c)
  | 0, n, c => by rw [Nat.zero_add]; rfl
  | m + 1, n, c => by rw [Nat.add_right_comm, csteps, csteps_add m n]; rfl

/-- the bits i, i+1, .. , i+n-1 of f are fed into the register -/
def bfeed (f : Nat → Bool) : Nat → Nat → BitVec 32 → BitVec 32
  | 0, _, c => c
  | n + 1, i, c => bfeed f n (i + 1) (cstep (c ^^^ (if f i then 1#32 else 0#32)))
theorem bfeed_xor (f g : Nat → Bool) : ∀ n i a b, bfeed (fun j => f j != g j) n i (a ^^^ b) = bfeed f n i a ^^^ bfeed g n i b
  | 0, _, _, _ => rfl
  | n + 1, i, a, b => by
    simp only [bfeed]
    rw [← bfeed_xor f g n (i + 1), ← cstep_xor]
    congr 2
    have e : (if (f i != g i) = true then 1#32 else 0#32) = (if f i = true then 1#32 else 0#32) ^^^ (if g i = true then 1#32 else 0#32) := by
      cases f i <;> cases g i <;> simp
    rw [e]
    generalize (if f i = true then 1#32 else 0#32) = x
    generalize (if g i = true then 1#32 else 0#32) = y
    rw [BitVec.xor_assoc, BitVec.xor_assoc, ← BitVec.xor_assoc b, BitVec.xor_comm b, BitVec.xor_assoc]
theorem bfeed_add (f : Nat → Bool) : ∀ m n i c, bfeed f (m + n) i c = bfeed f n (i + m) (bfeed f m i c)
  | 0, n, i, c => by rw [Nat.zero_add]; rfl
  | m + 1, n, i, c => by
    rw [Nat.add_right_comm]
    simp only [bfeed]
    rw [bfeed_add f m n, Nat.add_right_comm, Nat.add_assoc]
theorem bfeed_off (f : Nat → Bool) : ∀ n i c, (∀ j, i ≤ j → j < i + n → f j = false) → bfeed f n i c = csteps n c
  | 0, _, _, _ => rfl
  | n + 1, i, c, h => by
    simp only [bfeed, csteps]
    rw [h i (Nat.le_refl _) (by omega)]
    simp only [Bool.false_eq_true, if_false, BitVec.xor_zero]
    exact bfeed_off f n (i + 1) _ (fun j h1 h2 => h j (by omega) (by omega))
theorem bfeed_congr {f g : Nat → Bool} : ∀ n i c, (∀ j, i ≤ j → j < i + n → f j = g j) → bfeed f n i c = bfeed g n i c
  | 0, _, _, _ => rfl
  | n + 1, i, c, h => by
    simp only [bfeed]
    rw [h i (Nat.le_refl _) (by omega)]
    exact bfeed_congr n (i + 1) _ (fun j h1 h2 => h j (by omega) (by omega))
theorem bfeed_shift (f : Nat → Bool) : ∀ n i k c, bfeed (fun j => f (j + k)) n i c = bfeed f n (i + k) c
  | 0, _, _, _ => rfl
  | n + 1, i, k, c => by
    simp only [bfeed]
    rw [bfeed_shift f n (i + 1) k, Nat.add_right_comm]

theorem one_bit (b : Bool) (j : Nat) (h : j ≠ 0) : (if b = true then 1#32 else 0#32).getLsbD j = false := by
  cases b
  · simp
  · simp only [if_true]
    rw [BitVec.getLsbD_one]
    simp [h]
theorem ushr_bit (v : BitVec 32) (i : Nat) : (v >>> i) = ((v >>> (i + 1)) <<< 1) ^^^ (if v.getLsbD i then 1#32 else 0#32) := by
  apply BitVec.eq_of_getLsbD_eq
  intro j hj
  rw [BitVec.getLsbD_xor, BitVec.getLsbD_ushiftRight, BitVec.getLsbD_shiftLeft, BitVec.getLsbD_ushiftRight]
  cases j with
  | zero => cases h : v.getLsbD i <;> simp
  | succ j =>
    have e : i + (j + 1) = i + 1 + j := by omega
    rw [one_bit _ _ (by omega), e]
    simp [hj]
theorem cstep_shl (v : BitVec 32) (h : v.getLsbD 31 = false) : cstep (v <<< 1) = v := by
  unfold cstep
  have h0 : (v <<< 1).getLsbD 0 = false := by simp
  rw [h0]
  simp only [Bool.false_eq_true, if_false, BitVec.xor_zero]
  apply BitVec.eq_of_getLsbD_eq
  intro j hj
  rw [BitVec.getLsbD_ushiftRight, BitVec.getLsbD_shiftLeft]
  by_cases h31 : j = 31
  · subst h31; rw [h]; simp
  · have h1 : 1 + j < 32 := by omega
    have h2 : 1 + j - 1 = j := by omega
    simp [h1, h2]
/-- all bits of a number, one by one, come to the number at once -/
theorem bfeed_bits (v : BitVec 32) : ∀ n i c, i + n = 32 → bfeed (fun j => v.getLsbD j) n i (c) = csteps n (c ^^^ (v >>> i))
  | 0, i, c, h => by
    obtain rfl : i = 32 := by omega
    have : v >>> 32 = 0#32 := by apply BitVec.eq_of_getLsbD_eq; intro j hj; simp
    rw [this, BitVec.xor_zero]; rfl
  | n + 1, i, c, h => by
    simp only [bfeed, csteps]
    rw [bfeed_bits v n (i + 1) _ (by omega)]
    congr 1
    rw [ushr_bit v i, BitVec.xor_comm ((v >>> (i + 1)) <<< 1), ← BitVec.xor_assoc, cstep_xor (c ^^^ _)]
    congr 1
    rw [cstep_shl]
    simp
end Go.Proofs.YtjlfoiocceepjaaDoor
