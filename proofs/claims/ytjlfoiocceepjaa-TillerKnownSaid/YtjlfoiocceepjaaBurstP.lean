/-
  Plain: a burst of turned bits in a frame is always told; a row of bytes in the memory.
-/
import Derived.Test.YtjlfoiocceepjaaSame
import Derived.Test.YtjlfoiocceepjaaRea
import Derived.Laws.IdiomStrings
namespace Go.Proofs.Ytjlfoiocceepjaa
open Go.RowKit
set_option linter.unusedVariables false
set_option linter.unusedSimpArgs false

def bit8 (e : Nat) : UInt8 := ⟨1#8 <<< e⟩
/-- bit m turned -/
def fl (l : List UInt8) (m : Nat) : List UInt8 := l.set (m / 8) (l.getD (m / 8) 0 ^^^ bit8 (m % 8))
theorem fl_length (l : List UInt8) (m : Nat) : (fl l m).length = l.length := by simp [fl]
theorem bit8_get (e i : Nat) (he : e < 8) : (bit8 e).toBitVec.getLsbD i = decide (i = e) := by
  show (1#8 <<< e).getLsbD i = _
  rw [BitVec.getLsbD_shiftLeft, BitVec.getLsbD_one]
  by_cases h : i = e
  · subst h; simp [he]
  · by_cases h2 : i < e
    · simp [h, h2]
    · have : ¬ i - e = 0 := by omega
      simp [h, this]
theorem lbit_fl (l : List UInt8) (m j : Nat) (hm : m / 8 < l.length) : lbit (fl l m) j = (lbit l j != decide (j = m)) := by
  unfold lbit fl
  by_cases h : j / 8 = m / 8
  · rw [h]
    have e : (l.set (m / 8) (l.getD (m / 8) 0 ^^^ bit8 (m % 8))).getD (m / 8) 0 = l.getD (m / 8) 0 ^^^ bit8 (m % 8) := by
      simp [List.getD_eq_getElem?_getD, List.getElem?_set, hm]
    rw [e]
    show ((l.getD (m / 8) 0).toBitVec ^^^ (bit8 (m % 8)).toBitVec).getLsbD (j % 8) = _
    rw [BitVec.getLsbD_xor, bit8_get _ _ (by omega)]
    have : decide (j % 8 = m % 8) = decide (j = m) := decide_eq_decide.2 (by omega)
    rw [this]
  · have e : (l.set (m / 8) (l.getD (m / 8) 0 ^^^ bit8 (m % 8))).getD (j / 8) 0 = l.getD (j / 8) 0 := by
      simp [List.getD_eq_getElem?_getD, List.getElem?_set, Ne.symm h]
    rw [e]
    have : decide (j = m) = false := decide_eq_false (by omega)
    rw [this]
    all_goals simp
/-- the bytes, and whether one was turned, behind i rounds -/
def bst (l : List UInt8) (k b L : Nat) : Nat → List UInt8 × Bool
  | 0 => (l, false)
  | i + 1 => if b.testBit i = true ∧ k + i < L then (fl (bst l k b L i).1 (k + i), true) else bst l k b L i
theorem bst_length (l : List UInt8) (k b L : Nat) : ∀ i, (bst l k b L i).1.length = l.length
  | 0 => rfl
  | i + 1 => by
    unfold bst
    by_cases h : b.testBit i = true ∧ k + i < L
    · rw [if_pos h]; exact (fl_length _ _).trans (bst_length l k b L i)
    · rw [if_neg h]; exact bst_length l k b L i
theorem bst_facts (l : List UInt8) (k b L : Nat) (hL : L = 8 * l.length) : ∀ i, (∀ j, lbit (bst l k b L i).1 j ≠ lbit l j → k ≤ j ∧ j < k + i) ∧ ((bst l k b L i).2 = false → (bst l k b L i).1 = l) ∧ ((bst l k b L i).2 = true → ∃ j, lbit (bst l k b L i).1 j ≠ lbit l j)
  | 0 => ⟨fun j h => absurd rfl h, fun _ => rfl, (fun h => by cases h)⟩
  | i + 1 => by
    obtain ⟨h1, h2, h3⟩ := bst_facts l k b L hL i
    have hlen := bst_length l k b L i
    unfold bst
    by_cases h : b.testBit i = true ∧ k + i < L
    · rw [if_pos h]
      have hm : (k + i) / 8 < (bst l k b L i).1.length := by omega
      have hsame : lbit (bst l k b L i).1 (k + i) = lbit l (k + i) := by
        rcases Decidable.em (lbit (bst l k b L i).1 (k + i) = lbit l (k + i)) with e | e
        · exact e
        · have := h1 _ e; omega
      refine ⟨fun j hj => ?_, (fun h => by cases h), fun _ => ⟨k + i, ?_⟩⟩
      · rw [lbit_fl _ _ _ hm] at hj
        by_cases e : j = k + i
        · omega
        · have : decide (j = k + i) = false := decide_eq_false e
          rw [this] at hj
          have := h1 j (by simpa using hj)
          omega
      · show lbit (fl (bst l k b L i).1 (k + i)) (k + i) ≠ _
        rw [lbit_fl _ _ _ hm, hsame]
        cases lbit l (k + i) <;> simp
    · rw [if_neg h]
      exact ⟨fun j hj => by have := h1 j hj; omega, h2, h3⟩
theorem unpackL_said (q : List UInt8) : (unpackL q).2.1 = 0 → 10 ≤ q.length ∧ num (q.drop (q.length - 4)) = csum (q.take (q.length - 4)) := by
  unfold unpackL
  repeat' split
  all_goals (intro h; first | (simp at h; done) | skip)
  rename_i h1 _ _ _ _ _ h2
  exact ⟨by omega, Decidable.not_not.1 h2⟩
theorem unpackL_text (q : List UInt8) : (unpackL q).2.1 ≠ 0 → (unpackL q).1 = [] := by
  unfold unpackL
  repeat' split
  all_goals (intro h; first | rfl | exact absurd rfl h)
theorem four_back (l : List UInt8) (h : l.length = 4) : four (num l) = l := by
  match l, h with
  | [p, q, u, v], _ => exact four_num4 p q u v
theorem burst_told (a q : List UInt8) (k : Nat) (hlen : q.length = (packL a).length) (hd : ∀ j, lbit q j ≠ lbit (packL a) j → k ≤ j ∧ j < k + 32) (h : (unpackL q).2.1 = 0) : ∀ j, lbit q j = lbit (packL a) j := by
  obtain ⟨h10, hs⟩ := unpackL_said q h
  have hq : q = q.take (q.length - 4) ++ four (csum (q.take (q.length - 4))) := by
    rw [← hs, four_back _ (by rw [List.length_drop]; omega), List.take_append_drop]
  have hl2 : (headL a).length = (q.take (q.length - 4)).length := by
    rw [List.length_take, headL_length]
    rw [packL_length] at hlen
    omega
  have hr := residue (headL a) (q.take (q.length - 4)) _ _ hl2 rfl rfl
  rw [← hq] at hr
  have hp : headL a ++ four (csum (headL a)) = packL a := rfl
  rw [hp] at hr
  have hb : ∀ j, lbit (bxor (packL a) q) j = (lbit (packL a) j != lbit q j) := fun j => lbit_bxor _ _ hlen.symm j
  have hn := burst_none (bxor (packL a) q) k hr (fun j hj => hd j (by
    rw [hb] at hj
    intro e; rw [e] at hj; simp at hj))
  intro j
  have := hn j
  rw [hb] at this
  exact (bne_eq_false_iff_eq.1 this).symm

/-- block g holds these bytes -/
def Zrow (w : World) (g : Nat) (l : List UInt8) : Prop := ∃ cs : Array Value, ∃ K, w.heap[g]? = some (.cells cs 5 (K, K + 1)) ∧ l.length ≤ K ∧ ∀ j, j < l.length → cs[j]? = some (.int .u8 ((l.getD j 0).toNat : Int))
theorem Zrow.lt {w : World} {g : Nat} {l : List UInt8} (h : Zrow w g l) : g < w.heap.size := by
  obtain ⟨cs, K, h1, _⟩ := h
  exact (Array.getElem?_eq_some_iff.1 h1).1
theorem Zrow.cell {w : World} {g : Nat} {l : List UInt8} (h : Zrow w g l) (j : Nat) (hj : j < l.length) : w.cell? ⟨g, j, none⟩ = some (.int .u8 ((l.getD j 0).toNat : Int)) := by
  obtain ⟨cs, K, h1, h2, h3⟩ := h
  simp [World.cell?, h1, h3 j hj]
theorem Zrow.free {w : World} {g : Nat} {l : List UInt8} (h : Zrow w g l) (j : Nat) (hj : j < l.length) : w.frozen? ⟨g, j, none⟩ = false := by
  obtain ⟨cs, K, h1, h2, h3⟩ := h
  simp [World.frozen?, h1]
  omega
theorem Zrow.put {w : World} {g : Nat} {l : List UInt8} (h : Zrow w g l) (i : Nat) (hi : i < l.length) (b : UInt8) : Zrow (w.setCell ⟨g, i, none⟩ (.int .u8 (b.toNat : Int))) g (l.set i b) := by
  obtain ⟨cs, K, h1, h2, h3⟩ := h
  refine ⟨cs.setIfInBounds i (.int .u8 (b.toNat : Int)), K, ?_, by simpa using h2, fun j hj => ?_⟩
  · simp [World.setCell, Array.getElem?_modify, h1]
  · rw [List.length_set] at hj
    have hl : j < cs.size := (Array.getElem?_eq_some_iff.1 (h3 j hj)).1
    rw [Array.getElem?_setIfInBounds]
    by_cases e : i = j
    · subst e
      simp [hl, List.getD_eq_getElem?_getD, List.getElem?_set, hi]
    · rw [if_neg e, h3 j hj]
      simp [List.getD_eq_getElem?_getD, List.getElem?_set, e]
theorem Zrow.drew {w : World} {g : Nat} {l : List UInt8} (h : Zrow w g l) : Zrow w.drew g l := h
theorem Zrow.out {w w' : World} {g : Nat} {l : List UInt8} (h : Zrow w g l) (hb : Below w.heap.size w w') : Zrow w' g l := by
  have hlt := h.lt
  obtain ⟨cs, K, h1, h2⟩ := h
  exact ⟨cs, K, (hb.block g hlt).trans h1, h2⟩
theorem Zrow.made (w : World) (s : ByteArray) (q : Nat) : Zrow (w.drew.alloc (.cells (bytesRow s q) 5 ((bytesRow s q).size, (bytesRow s q).size + 1))) w.heap.size s.data.toList := by
  refine ⟨bytesRow s q, (bytesRow s q).size, ?_, ?_, fun j hj => ?_⟩
  · show (w.heap.push _)[w.heap.size]? = _
    simp
  · unfold bytesRow; simp
  · have hj' : j < s.data.size := by simpa using hj
    rw [bytesRow_at s q j hj']
    simp only [List.getD_eq_getElem?_getD, Array.getElem?_toList]
    rw [Array.getElem?_eq_getElem hj']
    rfl
theorem Zrow.text {w : World} {g : Nat} {l : List UInt8} (h : Zrow w g l) (q n : Nat) (hn : n = l.length) : (convert 45 9 (.slice (some ⟨g, 0, none⟩) n q)).run Try.prog w = .ok (.string (str l)) w := by
  subst hn
  exact run_convert_bytes_back w 45 9 5 ⟨g, 0, none⟩ q l Try.underlying45 Try.underlying5 Try.underlying9 (fun j hj => by
    have := h.cell j hj
    rw [List.getD_eq_getElem?_getD, List.getElem?_eq_getElem hj] at this
    have e : (⟨g, 0, none⟩ : Addr).add j = ⟨g, j, none⟩ := by unfold Addr.add; split <;> simp_all
    rw [e]
    simpa using this)
theorem odd_int (n q : Nat) : ((((n : Int) / 2 ^ q).tmod 2) == 1) = n.testBit q := by
  have h1 : ((n : Int) / 2 ^ q) = ((n / 2 ^ q : Nat) : Int) := by rw [Int.natCast_ediv, Int.natCast_pow]; rfl
  rw [h1, Nat.testBit_eq_decide_div_mod_eq]
  generalize n / 2 ^ q = m
  have h2 : (m : Int).tmod 2 = ((m % 2 : Nat) : Int) := rfl
  rw [h2, Bool.eq_iff_iff, beq_iff_eq, decide_eq_true_iff]
  omega
theorem odd_int2 (n : Int) (m q : Nat) (hn : n = (m : Int)) : (((n / 2 ^ q).tmod 2) == 1) = m.testBit q := by rw [hn, odd_int]
theorem bit8_num (e : Nat) : ((bit8 e).toNat : Int) = 2 ^ e % 256 := by
  have h : (bit8 e).toNat = 2 ^ e % 256 := by
    show (1#8 <<< e).toNat = _
    rw [BitVec.toNat_shiftLeft, Nat.shiftLeft_eq]
    simp
  rw [h]
  simp
theorem xor_byte (y : UInt8) (e : Nat) : bits BinOp.xor IntKind.u8 (y.toNat : Int) (2 ^ e % 256) = ((y ^^^ bit8 e).toNat : Int) := by
  rw [← bit8_num, u8_xor_nat _ _ y.toNat_lt (bit8 e).toNat_lt, UInt8.toNat_xor]
theorem bst_turned (l : List UInt8) (k b L : Nat) (hL : k + 32 ≤ L) : ∀ i, i ≤ 32 → (∃ j, j < i ∧ b.testBit j = true) → (bst l k b L i).2 = true
  | 0, _, ⟨j, hj, _⟩ => by omega
  | i + 1, hi, ⟨j, hj, hb⟩ => by
    unfold bst
    by_cases h : b.testBit i = true ∧ k + i < L
    · rw [if_pos h]
    · rw [if_neg h]
      have hji : j ≠ i := fun e => h ⟨by rw [← e]; exact hb, by omega⟩
      exact bst_turned l k b L hL i (by omega) ⟨j, by omega, hb⟩
theorem some_bit (b : Nat) (h0 : b ≠ 0) (h : b < 4294967296) : ∃ j, j < 32 ∧ b.testBit j = true := by
  obtain ⟨j, hj⟩ := Nat.exists_testBit_of_ne_zero h0
  refine ⟨j, ?_, hj⟩
  rcases Nat.lt_or_ge j 32 with h1 | h1
  · exact h1
  · have : b < 2 ^ j := Nat.lt_of_lt_of_le h (Nat.pow_le_pow_right (n := 2) (by omega) h1)
    rw [Nat.testBit_lt_two_pow this] at hj
    cases hj
end Go.Proofs.Ytjlfoiocceepjaa
