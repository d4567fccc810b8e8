/-
  The frame's small functions, walked: four, number, Cut.
-/
import Derived.Test.YtjlfoiocceepjaaSum
import Derived.Test.YtjlfoiocceepjaaPr
import Derived.Test.YtjlfoiocceepjaaWLast
namespace Go.Proofs.Ytjlfoiocceepjaa
open Go.RowKit Go.Proofs.YtjlfoiocceepjaaW.PrintWords Go.Proofs.YtjlfoiocceepjaaW.PrintLast Go.Proofs.YtjlfoiocceepjaaW.PrintMore
set_option linter.unusedVariables false
set_option linter.unusedSimpArgs false

/-- a text of these bytes -/
def str (l : List UInt8) : ByteArray := ⟨l.toArray⟩
theorem str_list (l : List UInt8) : (str l).data.toList = l := by simp [str]
theorem str_size (l : List UInt8) : (str l).size = l.length := by simp [str, ByteArray.size]
theorem str_of (s : ByteArray) : str s.data.toList = s := by cases s; simp [str]
theorem str_eq {s : ByteArray} {l : List UInt8} (h : s.data.toList = l) : s = str l := by rw [← h, str_of]
theorem str_inj {a b : List UInt8} (h : str a = str b) : a = b := by rw [← str_list a, h, str_list]

theorem four_nums (x : BitVec 32) : strOfNums [((x.toNat : Int)) % 256, ((x.toNat : Int) / 256) % 256, ((x.toNat : Int) / 65536) % 256, ((x.toNat : Int) / 16777216) % 256] = str (four x) := by
  have e : ∀ n : Nat, UInt8.ofNat (((n : Int) % 256).toNat) = ⟨BitVec.ofNat 8 n⟩ := by
    intro n
    have h : ((n : Int) % 256).toNat = n % 256 := by omega
    rw [h]
    apply UInt8.eq_of_toBitVec_eq
    apply BitVec.eq_of_toNat_eq
    simp
  have e2 : ∀ k : Nat, k < 32 → BitVec.setWidth 8 (x >>> k) = BitVec.ofNat 8 (x.toNat / 2 ^ k) := by
    intro k hk
    apply BitVec.eq_of_toNat_eq
    rw [BitVec.toNat_setWidth, BitVec.toNat_ushiftRight, BitVec.toNat_ofNat, Nat.shiftRight_eq_div_pow]
  have e1 : BitVec.setWidth 8 x = BitVec.ofNat 8 x.toNat := by
    apply BitVec.eq_of_toNat_eq
    rw [BitVec.toNat_setWidth, BitVec.toNat_ofNat]
  have d1 : (x.toNat : Int) / 256 = ((x.toNat / 2 ^ 8 : Nat) : Int) := by omega
  have d2 : (x.toNat : Int) / 65536 = ((x.toNat / 2 ^ 16 : Nat) : Int) := by omega
  have d3 : (x.toNat : Int) / 16777216 = ((x.toNat / 2 ^ 24 : Nat) : Int) := by omega
  unfold strOfNums str four
  rw [e1, e2 8 (by omega), e2 16 (by omega), e2 24 (by omega), d1, d2, d3]
  simp only [List.map, e]
theorem four_any (x : BitVec 32) (w : World) : Calls Try.prog 24 #[u32 x] w fun e w' => e = .returned (.string (str (four x))) ∧ Below w.heap.size w w' := by
  exact Pr.frame_four.calls (x.toNat : Int) _ w (by unfold Pr.frame_four.f; rw [four_nums])
/-- the number of a text's first four bytes -/
def num (l : List UInt8) : BitVec 32 := num4 (l.getD 0 0) (l.getD 1 0) (l.getD 2 0) (l.getD 3 0)
theorem num_bits (s : ByteArray) (h : 4 ≤ s.size) : Pr.frame_number.f s = some ((num s.data.toList).toNat : Int) := by
  have hb : ∀ i : Nat, i < 4 → bt s (i : Int) = ((s.data.toList.getD i 0).toNat : Int) := by
    intro i hi
    have h' : i < s.data.toList.length := by rw [Array.length_toList]; exact (by omega : i < s.size)
    unfold bt
    rw [dif_pos (show (i : Int).toNat < s.size by omega)]
    simp [List.getD_eq_getElem?_getD, List.getElem?_eq_getElem h']
    rfl
  unfold Pr.frame_number.f
  rw [if_pos (by omega), if_pos (by omega), if_pos (by omega), if_pos (by omega)]
  have h0 := hb 0 (by omega); have h1 := hb 1 (by omega); have h2 := hb 2 (by omega); have h3 := hb 3 (by omega)
  rw [show (0 : Int) = ((0 : Nat) : Int) from rfl, h0, show (1 : Int) = ((1 : Nat) : Int) from rfl, h1, show (2 : Int) = ((2 : Nat) : Int) from rfl, h2, show (3 : Int) = ((3 : Nat) : Int) from rfl, h3]
  clear h0 h1 h2 h3 hb
  unfold num num4
  generalize s.data.toList.getD 0 0 = a
  generalize s.data.toList.getD 1 0 = b
  generalize s.data.toList.getD 2 0 = c
  generalize s.data.toList.getD 3 0 = d
  have sh : ∀ (v : UInt8) (k : Nat), k ≤ 24 → ((v.toNat : Int) % 4294967296) * ((2 ^ k : Nat) : Int) % 4294967296 = ((wide v <<< k).toNat : Int) := by
    intro v k hk
    have hv : v.toNat < 256 := v.toNat_lt
    have hw : (wide v).toNat = v.toNat := by
      unfold wide; rw [BitVec.toNat_setWidth]; exact Nat.mod_eq_of_lt (by have := v.toBitVec.isLt; omega)
    rw [BitVec.toNat_shiftLeft, hw, Nat.shiftLeft_eq]
    have h1 : (v.toNat : Int) % 4294967296 = (v.toNat : Int) := by omega
    rw [h1, ← Int.natCast_mul]
    omega
  have s1 := sh b 8 (by omega)
  have s2 := sh c 16 (by omega)
  have s3 := sh d 24 (by omega)
  rw [show (((2 ^ 8 : Nat) : Int)) = 256 from rfl] at s1
  rw [show (((2 ^ 16 : Nat) : Int)) = 65536 from rfl] at s2
  rw [show (((2 ^ 24 : Nat) : Int)) = 16777216 from rfl] at s3
  have or_bv : ∀ a b : BitVec 32, bits .or .u32 (a.toNat : Int) (b.toNat : Int) = ((a ||| b).toNat : Int) := by
    intro a b
    rw [u32_or_nat _ _ a.isLt b.isLt, BitVec.toNat_or]
  rw [s1, s2, s3, wide_nat a, or_bv, or_bv, or_bv]
theorem number_any (s : ByteArray) (w : World) (h : 4 ≤ s.size) : Calls Try.prog 26 #[.string s] w fun e w' => e = .returned (u32 (num s.data.toList)) ∧ Below w.heap.size w w' :=
  (Pr.frame_number.calls s _ w (num_bits s h)).mono fun e w' h => ⟨h.1, h.2.below⟩
theorem cut_any (s : ByteArray) (n : Nat) (hn : n ≤ 100000) (w : World) : Calls Try.prog 7 #[.string s, .int .i64 n] w fun e w' => e = .returned (.string (str (s.data.toList.take n))) ∧ Below w.heap.size w w' := by
  refine (Pr.tillerlaw14_Cut.calls s n (str (s.data.toList.take n)) w ?_).mono fun e w' h => ⟨h.1, h.2.below⟩
  unfold Pr.tillerlaw14_Cut.f
  by_cases h : (s.size : Int) > (n : Int)
  · rw [if_pos h, if_pos (by omega), if_pos (by omega)]
    congr 1
    apply str_eq
    simp
  · rw [if_neg h]
    congr 1
    apply str_eq
    rw [List.take_of_length_le]
    rw [Array.length_toList]; exact (by omega : s.size ≤ n)
end Go.Proofs.Ytjlfoiocceepjaa
