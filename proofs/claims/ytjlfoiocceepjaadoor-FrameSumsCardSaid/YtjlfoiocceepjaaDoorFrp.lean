/-
  Plain: a frame is read as what was framed; cut short it ends early; unlike texts have unlike frames, and none is another's beginning.
-/
import Derived.Test.YtjlfoiocceepjaaDoorUn
namespace Go.Proofs.YtjlfoiocceepjaaDoor
set_option linter.unusedVariables false
set_option linter.unusedSimpArgs false

theorem four_length (x : BitVec 32) : (four x).length = 4 := rfl
theorem headL_length (b : List UInt8) : (headL b).length = b.length + 6 := by simp [headL, four_length]; omega
theorem packL_length (b : List UInt8) : (packL b).length = b.length + 10 := by simp [packL, headL_length, four_length]
theorem num_four (x : BitVec 32) (r : List UInt8) : num (four x ++ r) = x := by
  unfold num four
  exact num4_four x
theorem packL_two (b : List UInt8) : packL b = 84 :: 1 :: (four (BitVec.ofNat 32 b.length) ++ (b ++ four (csum (headL b)))) := by simp [packL, headL]
theorem packL_head (b : List UInt8) : (packL b).take (b.length + 6) = headL b := by
  unfold packL
  rw [List.take_append_of_le_length (by rw [headL_length]; omega), List.take_of_length_le (by rw [headL_length]; omega)]
theorem packL_tail (b : List UInt8) : (packL b).drop (b.length + 6) = four (csum (headL b)) := by
  unfold packL
  rw [← headL_length, List.drop_left]
theorem headL_drop (b : List UInt8) : (headL b).drop 6 = b := by
  have : headL b = (84 :: 1 :: four (BitVec.ofNat 32 b.length)) ++ b := by simp [headL]
  rw [this]
  exact List.drop_left (l₁ := 84 :: 1 :: four (BitVec.ofNat 32 b.length)) (l₂ := b)
theorem len_num (n : Nat) (h : n ≤ 60000) : (BitVec.ofNat 32 n).toNat = n := by rw [BitVec.toNat_ofNat]; exact Nat.mod_eq_of_lt (by omega)
theorem packL_num (b : List UInt8) (h : b.length ≤ 60000) : (num ((packL b).drop 2)).toNat = b.length := by
  have : (packL b).drop 2 = four (BitVec.ofNat 32 b.length) ++ (b ++ four (csum (headL b))) := by rw [packL_two]; rfl
  rw [this, num_four, len_num _ h]
theorem packL_g0 (b : List UInt8) : (packL b).getD 0 0 = 84 := by rw [packL_two]; rfl
theorem packL_g1 (b : List UInt8) : (packL b).getD 1 0 = 1 := by rw [packL_two]; rfl
theorem unpack_pack (b : List UInt8) (h : b.length ≤ 60000) : unpackL (packL b) = (b, 0, -1) := by
  have hl := packL_length b
  have hn := packL_num b h
  unfold unpackL
  rw [if_neg (by omega), if_neg (fun h => h (packL_g0 b)), if_neg (fun h => h (packL_g1 b)), hn, if_neg (by omega), if_neg (by omega), if_neg (by omega)]
  have e1 : (packL b).length - 4 = b.length + 6 := by omega
  rw [e1, packL_tail, packL_head]
  have e2 : num (four (csum (headL b))) = csum (headL b) := by
    have := num_four (csum (headL b)) []
    rwa [List.append_nil] at this
  rw [if_neg (fun h => h e2), headL_drop]
theorem unpack_short (b : List UInt8) (h : b.length ≤ 60000) : unpackL ((packL b).take (b.length + 9)) = ([], 11, (b.length : Int) + 9) := by
  have hl : ((packL b).take (b.length + 9)).length = b.length + 9 := by rw [List.length_take, packL_length]; omega
  unfold unpackL
  rw [hl]
  by_cases h0 : b.length + 9 < 10
  · rw [if_pos h0]; simp
  · have g0 : ((packL b).take (b.length + 9)).getD 0 0 = 84 := by rw [packL_two]; rfl
    have g1 : ((packL b).take (b.length + 9)).getD 1 0 = 1 := by rw [packL_two]; rfl
    have hn : (num (((packL b).take (b.length + 9)).drop 2)).toNat = b.length := by
      rw [List.drop_take, num_take _ _ (by omega), packL_num b h]
    rw [if_neg h0, if_neg (fun h => h g0), if_neg (fun h => h g1), hn, if_neg (by omega), if_pos (by omega)]
    simp
theorem packL_inj {a b : List UInt8} (ha : a.length ≤ 60000) (hb : b.length ≤ 60000) (h : packL a = packL b) : a = b := by
  have h1 := unpack_pack a ha
  rw [h, unpack_pack b hb] at h1
  injection h1 with h1 _
  exact h1.symm
/-- no frame is another one's beginning -/
theorem packL_apart {a b : List UInt8} (ha : a.length ≤ 60000) (hb : b.length ≤ 60000) (hl : a.length < b.length) : (packL b).take (packL a).length ≠ packL a := by
  intro h
  have h1 := packL_num a ha
  rw [← h, List.drop_take, num_take _ _ (by rw [packL_length]; omega), packL_num b hb] at h1
  omega
end Go.Proofs.YtjlfoiocceepjaaDoor
