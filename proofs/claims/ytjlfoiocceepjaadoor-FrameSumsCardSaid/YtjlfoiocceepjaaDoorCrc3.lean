/-
  Plain: the document's cyclic sum, a division of a row of bits, is the register's.
-/
import Derived.Test.YtjlfoiocceepjaaDoorCrc2
namespace Go.Proofs.YtjlfoiocceepjaaDoor

theorem lbit_out (l : List UInt8) (j : Nat) (h : 8 * l.length ≤ j) : lbit l j = false := by
  unfold lbit
  simp only [List.getD_eq_getElem?_getD]
  rw [List.getElem?_eq_none (by omega)]
  simp
/-- the polynomial's bits, the highest first -/
def pbit (k : Nat) : Bool := (0x104c11db7 >>> (32 - k)) % 2 == 1
/-- the row at the start -/
def row0 (l : List UInt8) (j : Nat) : Bool := lbit l j != decide (j < 32)
/-- a round -/
def rround (r : Nat → Bool) (i : Nat) (j : Nat) : Bool := if r i = true ∧ i ≤ j ∧ j < i + 33 then r j != pbit (j - i) else r j
def rrow (l : List UInt8) : Nat → Nat → Bool
  | 0 => row0 l
  | i + 1 => rround (rrow l i) i
/-- the register behind i bits -/
def creg (l : List UInt8) (i : Nat) : BitVec 32 := bfeed (lbit l) i 0 (BitVec.allOnes 32)
theorem creg_succ (l : List UInt8) (i : Nat) : creg l (i + 1) = cstep (creg l i ^^^ (if lbit l i then 1#32 else 0#32)) := by
  unfold creg
  rw [bfeed_add, Nat.zero_add]
  rfl
theorem pbit_rev : ∀ k, k < 32 → pbit (k + 1) = (0xedb88320#32).getLsbD k := by decide
theorem rrow_reg (l : List UInt8) : ∀ i, (∀ k, k < 32 → rrow l i (i + k) = ((creg l i).getLsbD k != lbit l (i + k))) ∧ (∀ j, i + 32 ≤ j → rrow l i j = lbit l j)
  | 0 => ⟨fun k hk => by
      show row0 l (0 + k) = _
      unfold row0 creg bfeed
      rw [Nat.zero_add, decide_eq_true hk, BitVec.getLsbD_allOnes, decide_eq_true hk]
      cases lbit l k <;> rfl, fun j hj => by
      show row0 l j = _
      unfold row0
      rw [decide_eq_false (by omega)]
      cases lbit l j <;> rfl⟩
  | i + 1 => by
    obtain ⟨h1, h2⟩ := rrow_reg l i
    have h0 := h1 0 (by omega)
    rw [Nat.add_zero] at h0
    have hb0 : (creg l i ^^^ (if lbit l i = true then 1#32 else 0#32)).getLsbD 0 = rrow l i i := by
      rw [BitVec.getLsbD_xor, h0]
      cases (creg l i).getLsbD 0 <;> cases lbit l i <;> simp
    refine ⟨fun k hk => ?_, fun j hj => ?_⟩
    · rw [creg_succ]
      show rround (rrow l i) i (i + 1 + k) = _
      unfold rround cstep
      rw [hb0, BitVec.getLsbD_xor, BitVec.getLsbD_ushiftRight, BitVec.getLsbD_xor]
      have e1 : i + 1 + k - i = k + 1 := by omega
      have hold : rrow l i (i + 1 + k) = ((creg l i).getLsbD (1 + k) != lbit l (i + 1 + k)) := by
        by_cases h31 : k = 31
        · subst h31
          rw [h2 _ (by omega), BitVec.getLsbD_of_ge _ _ (by omega)]
          cases lbit l (i + 1 + 31) <;> rfl
        · have := h1 (1 + k) (by omega)
          rw [← Nat.add_assoc] at this
          exact this
      have one : (if lbit l i = true then 1#32 else 0#32).getLsbD (1 + k) = false := one_bit _ _ (by omega)
      rw [one]
      cases hr : rrow l i i with
      | true =>
        rw [if_pos ⟨rfl, by omega, by omega⟩, e1, hold, pbit_rev k hk]
        simp only [if_true]
        cases (creg l i).getLsbD (1 + k) <;> cases lbit l (i + 1 + k) <;> cases (0xedb88320#32).getLsbD k <;> rfl
      | false =>
        rw [if_neg (by simp), hold]
        cases (creg l i).getLsbD (1 + k) <;> cases lbit l (i + 1 + k) <;> simp
    · show rround (rrow l i) i j = _
      unfold rround
      rw [if_neg (by omega)]
      exact h2 j (by omega)
/-- what is read off the row's end, k places left -/
def rsum (r : Nat → Bool) (n : Nat) : Nat → Nat
  | 0 => 0
  | m + 1 => rsum r n m * 2 + (if r (n + (31 - m)) then 0 else 1)
theorem rsum_bits (r : Nat → Bool) (n : Nat) (v : BitVec 32) (h : ∀ k, k < 32 → r (n + k) = !v.getLsbD k) : ∀ m, m ≤ 32 → rsum r n m = (v >>> (32 - m)).toNat
  | 0, _ => by
    show 0 = (v >>> 32).toNat
    have : v >>> 32 = 0#32 := by apply BitVec.eq_of_getLsbD_eq; intro i hi; simp
    rw [this]; rfl
  | m + 1, hm => by
    have ih := rsum_bits r n v h m (by omega)
    show rsum r n m * 2 + (if r (n + (31 - m)) then 0 else 1) = _
    rw [ih, h (31 - m) (by omega), BitVec.toNat_ushiftRight, BitVec.toNat_ushiftRight]
    have e : 32 - m = 32 - (m + 1) + 1 := by omega
    have e2 : 31 - m = 32 - (m + 1) := by omega
    rw [e, e2]
    generalize 32 - (m + 1) = s
    rw [Nat.shiftRight_succ]
    have hb : v.getLsbD s = decide ((v.toNat >>> s) % 2 = 1) := by
      rw [← BitVec.testBit_toNat, Nat.testBit_eq_decide_div_mod_eq, Nat.shiftRight_eq_div_pow]
    rw [hb]
    have h2 := Nat.div_add_mod (v.toNat >>> s) 2
    by_cases hc : (v.toNat >>> s) % 2 = 1
    · simp [hc]; omega
    · simp [hc]; omega
/-- the document's sum -/
def refsum (l : List UInt8) : Nat := rsum (rrow l (8 * l.length)) (8 * l.length) 32
theorem refsum_eq (l : List UInt8) : refsum l = (csum l).toNat := by
  unfold refsum
  rw [rsum_bits _ _ (csum l) (fun k hk => ?_) 32 (by omega)]
  · simp
  · rw [(rrow_reg l (8 * l.length)).1 k hk, lbit_out l _ (by omega)]
    unfold csum creg
    rw [cfeed_bits, BitVec.getLsbD_not]
    simp [hk]
end Go.Proofs.YtjlfoiocceepjaaDoor
