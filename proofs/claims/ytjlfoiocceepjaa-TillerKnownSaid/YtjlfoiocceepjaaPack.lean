/-
  frame.Pack and frame.Unpack, walked.
-/
import Derived.Test.YtjlfoiocceepjaaFr
import Derived.Deep.QuietTactic
import Derived.BigQuiet
import Derived.WalkSpells
namespace Go.Proofs.Ytjlfoiocceepjaa
open Go.RowKit Go.Proofs.YtjlfoiocceepjaaW.PrintWords Go.Proofs.YtjlfoiocceepjaaW.PrintLast Go.Proofs.YtjlfoiocceepjaaW.PrintMore
set_option linter.unusedVariables false
set_option linter.unusedSimpArgs false

/-- a frame's head and body -/
def headL (b : List UInt8) : List UInt8 := 84 :: 1 :: (four (BitVec.ofNat 32 b.length) ++ b)
/-- the frame of a body -/
def packL (b : List UInt8) : List UInt8 := headL b ++ four (csum (headL b))
def fault (p e : Int) : Value := .iface 77 (.agg #[.int .i64 p, .int .i64 e])

theorem four_nat (n : Nat) (h : n < 4294967296) (w : World) : Calls Try.prog 24 #[.int .u32 (n : Int)] w fun e w' => e = .returned (.string (str (four (BitVec.ofNat 32 n)))) ∧ Below w.heap.size w w' := by
  have h1 := four_any (BitVec.ofNat 32 n) w
  have e : u32 (BitVec.ofNat 32 n) = .int .u32 (n : Int) := by
    unfold u32
    rw [BitVec.toNat_ofNat, Nat.mod_eq_of_lt (by omega)]
  rw [e] at h1
  exact h1
theorem str_append (a b : List UInt8) : str a ++ str b = str (a ++ b) := by
  apply str_eq
  rw [ByteArray.data_append]
  simp [str]

theorem packed (l : List UInt8) : (⟨#[84, 1]⟩ : ByteArray) ++ str (four (BitVec.ofNat 32 l.length)) ++ str l ++ str (four (csum ((⟨#[84, 1]⟩ : ByteArray) ++ str (four (BitVec.ofNat 32 l.length)) ++ str l).data.toList)) = str (packL l) := by
  have e : (⟨#[84, 1]⟩ : ByteArray) = str [84, 1] := rfl
  rw [e, str_append, str_append, str_list, str_append]
  rfl
theorem four_size (x : BitVec 32) : (str (four x)).size = 4 := by rw [str_size]; rfl
/-- four and Sum, their answers behind letters -/
theorem four_q (x : BitVec 32) (w : World) : Calls Try.prog 24 #[u32 x] w fun e w' => ∃ r : ByteArray, e = .returned (.string r) ∧ (4 ≤ r.size ∧ r.size ≤ 4) ∧ Hid (r = str (four x)) ∧ Below w.heap.size w w' :=
  (four_any x w).mono fun e w' h => ⟨_, h.1, by rw [four_size]; omega, Lib.hid rfl, h.2⟩
theorem four_nq (n : Nat) (h : n < 4294967296) (w : World) : Calls Try.prog 24 #[.int .u32 (n : Int)] w fun e w' => ∃ r : ByteArray, e = .returned (.string r) ∧ (4 ≤ r.size ∧ r.size ≤ 4) ∧ Hid (r = str (four (BitVec.ofNat 32 n))) ∧ Below w.heap.size w w' :=
  (four_nat n h w).mono fun e w' h => ⟨_, h.1, by rw [four_size]; omega, Lib.hid rfl, h.2⟩
theorem sum_q (s : ByteArray) (w : World) (hs : s.size ≤ 140737488351232) : Calls Try.prog 5 #[.string s] w fun e w' => ∃ c : BitVec 32, e = .returned (u32 c) ∧ Hid (c = csum s.data.toList) ∧ w = w' :=
  (sum_any s w hs).mono fun e w' h => ⟨_, h.1, Lib.hid rfl, h.2⟩
set_option maxRecDepth 100000 in
set_option maxHeartbeats 1000000 in
theorem pack_any (l : List UInt8) (w : World) (hs : l.length ≤ 60000) :
    Calls Try.prog 6 #[.string (str l)] w fun e w' => e = .returned (.tuple #[.string (str (packL l)), .nilIface]) ∧ Below w.heap.size w w' := by
  obtain ⟨s, hs1⟩ : ∃ s, s = str l := ⟨_, rfl⟩
  have hsz : s.size ≤ 60000 := by rw [hs1, str_size]; exact hs
  obtain ⟨m, hm⟩ : ∃ m : ByteArray, m = ⟨#[84, 1]⟩ := ⟨_, rfl⟩
  have HP := Lib.hid (packed l)
  have HL : Hid (l.length = s.size) := Lib.hid (by rw [hs1, str_size])
  rw [HL.out, ← hs1] at HP
  rw [← hs1]
  clear hs1 hs hm m
  go_enter Try.func6, Try.ntmps6
  go_wp2_with (first
    | (go_at_call 24; (with_reducible refine (four_nq s.size (by omega) _).mono ?_); rintro e w1 ⟨q, rfl, ⟨hq1, hq2⟩, HQ, hb1⟩; have HB1 := Lib.hid hb1; clear hb1)
    | (go_at_call 5; (with_reducible refine (sum_q _ _ ?_).mono ?_); (simp only [ByteArray.size_append]; have : (⟨#[84, 1]⟩ : ByteArray).size = 2 := rfl; omega); rintro e w1' ⟨c, rfl, HC, rfl⟩)
    | (go_at_call 24; (with_reducible refine (four_q c _).mono ?_); rintro e w2 ⟨q2, rfl, ⟨hq3, hq4⟩, HQ2, hb2⟩; have HB2 := Lib.hid (HB1.out.trans (hb2.mono HB1.out.size)); clear hb2)
    | fail)
  have fin : (⟨#[84, 1]⟩ : ByteArray) ++ q ++ s ++ q2 = str (packL l) := by rw [← HP.out, ← HQ.out, ← HC.out, ← HQ2.out]
  go_ret2
  exact ⟨by rw [← fin]; rfl, HB2.out⟩
set_option maxRecDepth 100000 in
set_option maxHeartbeats 1000000 in
theorem pack_big (s : ByteArray) (w : World) (hs : 60000 < s.size) (hs2 : s.size ≤ 140737488351232) :
    Calls Try.prog 6 #[.string s] w fun e w' => e = .returned (.tuple #[.string (str []), fault 60000 2]) ∧ Below w.heap.size w w' := by
  go_enter Try.func6, Try.ntmps6
  go_wp2_with fail
  go_ret2
  exact ⟨rfl, Below.refl _ _⟩
end Go.Proofs.Ytjlfoiocceepjaa
