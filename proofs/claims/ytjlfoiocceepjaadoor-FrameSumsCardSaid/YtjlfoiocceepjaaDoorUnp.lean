/-
  frame.Unpack, walked.
-/
import Derived.Test.YtjlfoiocceepjaaDoorPack
namespace Go.Proofs.YtjlfoiocceepjaaDoor
open Go.RowKit Go.Proofs.YtjlfoiocceepjaaDoorW.PrintWords Go.Proofs.YtjlfoiocceepjaaDoorW.PrintLast Go.Proofs.YtjlfoiocceepjaaDoorW.PrintMore
set_option linter.unusedVariables false
set_option linter.unusedSimpArgs false

theorem number_at (s : ByteArray) (m : Nat) (w : World) (h : 4 ≤ s.size) (hm : (num s.data.toList).toNat = m) : Calls Tryd.prog 41 #[.string s] w fun e w' => e = .returned (.int .u32 (m : Int)) ∧ ∃ n, w' = w.drewN n :=
  (Pr.frame_number.calls s _ w (num_bits s h)).mono fun e w' h => ⟨by rw [h.1, hm], h.2.out⟩
theorem sum_at (s : ByteArray) (m : Nat) (w : World) (hs : s.size ≤ 140737488351232) (hm : (csum s.data.toList).toNat = m) : Calls Tryd.prog 20 #[.string s] w fun e w' => e = .returned (.int .u32 (m : Int)) ∧ w' = w :=
  (sum_any s w hs).mono fun e w' h => ⟨by rw [h.1, u32, hm], h.2.symm⟩

set_option maxRecDepth 100000 in
set_option maxHeartbeats 1000000 in
theorem un_short (s : ByteArray) (w : World) (h : s.size < 10) : Calls Tryd.prog 16 #[.string s] w fun e w' => e = .returned (.tuple #[.string (str []), fault (s.size : Int) 11]) ∧ Below w.heap.size w w' := by
  go_enter Tryd.func16, Tryd.ntmps16
  go_wp2_with fail
  go_ret2
  exact ⟨rfl, Below.refl _ _⟩
/-- the first two bytes -/
structure Two (s : ByteArray) (x y : Nat) : Prop where
  size : 10 ≤ s.size
  b0 : ∀ h : 0 < s.size, ((s[0]'h).toNat : Int) = (x : Int)
  b1 : ∀ h : 1 < s.size, ((s[1]'h).toNat : Int) = (y : Int)
theorem drawn_below {w W : World} {a : Nat} (h : ∃ n, W = (w.drewN a).drewN n) : Below w.heap.size w W := by
  obtain ⟨n, rfl⟩ := h
  rw [World.drewN_drewN]
  exact Drawn0.below ⟨⟨_, rfl⟩⟩
theorem mark0 : (((⟨#[84, 1]⟩ : ByteArray)[0]'(by decide)).toNat : Int) = 84 := rfl
theorem mark1 : (((⟨#[84, 1]⟩ : ByteArray)[1]'(by decide)).toNat : Int) = 1 := rfl
set_option maxRecDepth 100000 in
set_option maxHeartbeats 1000000 in
theorem un_mark (s : ByteArray) (w : World) (x y : Nat) (h : Two s x y) (hm : s.size ≤ 140737488351232) (hx : x ≠ 84) : Calls Tryd.prog 16 #[.string s] w fun e w' => e = .returned (.tuple #[.string (str []), fault 0 3]) ∧ Below w.heap.size w w' := by
  have h10 := h.size
  have q0 : (0 < s.size) = True := eq_true (by omega)
  have q1 : (1 < s.size) = True := eq_true (by omega)
  have hb0 := h.b0
  have hb1 := h.b1
  have hx1 : ((x : Int) != (((⟨#[84, 1]⟩ : ByteArray)[0]'(by decide)).toNat : Int)) = true := by rw [mark0]; exact bne_iff_ne.2 (by omega)
  go_enter Tryd.func16, Tryd.ntmps16
  go_wp2_with fail
  go_quiet (fail)
  go_wp2_with fail
  go_ret2
  exact ⟨rfl, Drawn0.below ⟨⟨_, rfl⟩⟩⟩
set_option maxRecDepth 100000 in
set_option maxHeartbeats 1000000 in
theorem un_old (s : ByteArray) (w : World) (x y : Nat) (h : Two s x y) (hm : s.size ≤ 140737488351232) (hx : x = 84) (hy : y ≠ 1) : Calls Tryd.prog 16 #[.string s] w fun e w' => e = .returned (.tuple #[.string (str []), fault 1 14]) ∧ Below w.heap.size w w' := by
  have h10 := h.size
  have q0 : (0 < s.size) = True := eq_true (by omega)
  have q1 : (1 < s.size) = True := eq_true (by omega)
  have hb0 := h.b0
  have hb1 := h.b1
  have hx1 : ((x : Int) != (((⟨#[84, 1]⟩ : ByteArray)[0]'(by decide)).toNat : Int)) = false := by rw [mark0]; exact bne_eq_false_iff_eq.2 (by omega)
  have hy1 : ((y : Int) != (((⟨#[84, 1]⟩ : ByteArray)[1]'(by decide)).toNat : Int)) = true := by rw [mark1]; exact bne_iff_ne.2 (by omega)
  go_enter Tryd.func16, Tryd.ntmps16
  go_wp2_with fail
  go_quiet (fail)
  go_wp2_with fail
  go_quiet (fail)
  go_wp2_with fail
  go_ret2
  exact ⟨rfl, Drawn0.below ⟨⟨_, rfl⟩⟩⟩
set_option maxRecDepth 100000 in
set_option maxHeartbeats 1000000 in
theorem un_big (s : ByteArray) (w : World) (x y : Nat) (h : Two s x y) (hm : s.size ≤ 140737488351232) (hx : x = 84) (hy : y = 1) (n : Nat) (hn : (num (s.extract 2 6).data.toList).toNat = n) (hb : 60000 < n) : Calls Tryd.prog 16 #[.string s] w fun e w' => e = .returned (.tuple #[.string (str []), fault 2 2]) ∧ Below w.heap.size w w' := by
  have h10 := h.size
  have q0 : (0 < s.size) = True := eq_true (by omega)
  have q1 : (1 < s.size) = True := eq_true (by omega)
  have hb0 := h.b0
  have hb1 := h.b1
  have hx1 : ((x : Int) != (((⟨#[84, 1]⟩ : ByteArray)[0]'(by decide)).toNat : Int)) = false := by rw [mark0]; exact bne_eq_false_iff_eq.2 (by omega)
  have hy1 : ((y : Int) != (((⟨#[84, 1]⟩ : ByteArray)[1]'(by decide)).toNat : Int)) = false := by rw [mark1]; exact bne_eq_false_iff_eq.2 (by omega)
  have hcut : (s.extract 2 6).size = 4 := by rw [ByteArray.size_extract]; omega
  have HN := Lib.hid hn
  have HC := Lib.hid hcut
  clear hn hcut
  have hb2 : decide (60000 < (n : Int)) = true := decide_eq_true (by omega)
  go_enter Tryd.func16, Tryd.ntmps16
  go_wp2_with fail
  go_quiet (fail)
  go_wp2_with fail
  go_quiet (fail)
  go_wp2_with (first
    | (go_at_call 41; (with_reducible refine (number_at (s.extract 2 6) n _ (by rw [HC.out]; omega) HN.out).mono ?_); rintro e W1 ⟨rfl, hd1⟩; have HB1 := Lib.hid (drawn_below hd1); clear hd1)
    | fail)
  go_ret2
  exact ⟨rfl, HB1.out⟩
set_option maxRecDepth 100000 in
set_option maxHeartbeats 1000000 in
theorem un_end (s : ByteArray) (w : World) (x y : Nat) (h : Two s x y) (hm : s.size ≤ 140737488351232) (hx : x = 84) (hy : y = 1) (n : Nat) (hn : (num (s.extract 2 6).data.toList).toNat = n) (hb : n ≤ 60000) (hl : s.size < n + 10) : Calls Tryd.prog 16 #[.string s] w fun e w' => e = .returned (.tuple #[.string (str []), fault (s.size : Int) 11]) ∧ Below w.heap.size w w' := by
  have h10 := h.size
  have q0 : (0 < s.size) = True := eq_true (by omega)
  have q1 : (1 < s.size) = True := eq_true (by omega)
  have hb0 := h.b0
  have hb1 := h.b1
  have hx1 : ((x : Int) != (((⟨#[84, 1]⟩ : ByteArray)[0]'(by decide)).toNat : Int)) = false := by rw [mark0]; exact bne_eq_false_iff_eq.2 (by omega)
  have hy1 : ((y : Int) != (((⟨#[84, 1]⟩ : ByteArray)[1]'(by decide)).toNat : Int)) = false := by rw [mark1]; exact bne_eq_false_iff_eq.2 (by omega)
  have hcut : (s.extract 2 6).size = 4 := by rw [ByteArray.size_extract]; omega
  have HN := Lib.hid hn
  have HC := Lib.hid hcut
  clear hn hcut
  have hb2 : decide (60000 < (n : Int)) = false := decide_eq_false (by omega)
  go_enter Tryd.func16, Tryd.ntmps16
  go_wp2_with fail
  go_quiet (fail)
  go_wp2_with fail
  go_quiet (fail)
  go_wp2_with (first
    | (go_at_call 41; (with_reducible refine (number_at (s.extract 2 6) n _ (by rw [HC.out]; omega) HN.out).mono ?_); rintro e W1 ⟨rfl, hd1⟩; have HB1 := Lib.hid (drawn_below hd1); clear hd1)
    | fail)
  go_ret2
  exact ⟨rfl, HB1.out⟩
set_option maxRecDepth 100000 in
set_option maxHeartbeats 1000000 in
theorem un_len (s : ByteArray) (w : World) (x y : Nat) (h : Two s x y) (hm : s.size ≤ 140737488351232) (hx : x = 84) (hy : y = 1) (n : Nat) (hn : (num (s.extract 2 6).data.toList).toNat = n) (hb : n ≤ 60000) (hl : n + 10 < s.size) : Calls Tryd.prog 16 #[.string s] w fun e w' => e = .returned (.tuple #[.string (str []), fault ((n : Int) + 10) 6]) ∧ Below w.heap.size w w' := by
  have h10 := h.size
  have q0 : (0 < s.size) = True := eq_true (by omega)
  have q1 : (1 < s.size) = True := eq_true (by omega)
  have hb0 := h.b0
  have hb1 := h.b1
  have hx1 : ((x : Int) != (((⟨#[84, 1]⟩ : ByteArray)[0]'(by decide)).toNat : Int)) = false := by rw [mark0]; exact bne_eq_false_iff_eq.2 (by omega)
  have hy1 : ((y : Int) != (((⟨#[84, 1]⟩ : ByteArray)[1]'(by decide)).toNat : Int)) = false := by rw [mark1]; exact bne_eq_false_iff_eq.2 (by omega)
  have hcut : (s.extract 2 6).size = 4 := by rw [ByteArray.size_extract]; omega
  have HN := Lib.hid hn
  have HC := Lib.hid hcut
  clear hn hcut
  have hb2 : decide (60000 < (n : Int)) = false := decide_eq_false (by omega)
  go_enter Tryd.func16, Tryd.ntmps16
  go_wp2_with fail
  go_quiet (fail)
  go_wp2_with fail
  go_quiet (fail)
  go_wp2_with (first
    | (go_at_call 41; (with_reducible refine (number_at (s.extract 2 6) n _ (by rw [HC.out]; omega) HN.out).mono ?_); rintro e W1 ⟨rfl, hd1⟩; have HB1 := Lib.hid (drawn_below hd1); clear hd1)
    | fail)
  go_ret2
  exact ⟨rfl, HB1.out⟩
set_option maxRecDepth 100000 in
set_option maxHeartbeats 1000000 in
theorem un_sum (s : ByteArray) (w : World) (x y : Nat) (h : Two s x y) (hm : s.size ≤ 140737488351232) (hx : x = 84) (hy : y = 1) (n : Nat) (hn : (num (s.extract 2 6).data.toList).toNat = n) (hb : n ≤ 60000) (hl : s.size ≤ n + 10) (hl2 : n + 10 ≤ s.size) (m k : Nat) (hm1 : (num (s.extract (s.size - 4) s.size).data.toList).toNat = m) (hm2 : (csum (s.extract 0 (s.size - 4)).data.toList).toNat = k) (hmk : m ≠ k) : Calls Tryd.prog 16 #[.string s] w fun e w' => e = .returned (.tuple #[.string (str []), fault ((s.size : Int) - 4) 12]) ∧ Below w.heap.size w w' := by
  have h10 := h.size
  have q0 : (0 < s.size) = True := eq_true (by omega)
  have q1 : (1 < s.size) = True := eq_true (by omega)
  have hb0 := h.b0
  have hb1 := h.b1
  have hx1 : ((x : Int) != (((⟨#[84, 1]⟩ : ByteArray)[0]'(by decide)).toNat : Int)) = false := by rw [mark0]; exact bne_eq_false_iff_eq.2 (by omega)
  have hy1 : ((y : Int) != (((⟨#[84, 1]⟩ : ByteArray)[1]'(by decide)).toNat : Int)) = false := by rw [mark1]; exact bne_eq_false_iff_eq.2 (by omega)
  have hcut : (s.extract 2 6).size = 4 := by rw [ByteArray.size_extract]; omega
  have HN := Lib.hid hn
  have HC := Lib.hid hcut
  clear hn hcut
  have hcut2 : (s.extract (s.size - 4) s.size).size = 4 := by rw [ByteArray.size_extract]; omega
  have HM := Lib.hid hm1
  have HK := Lib.hid hm2
  have HC2 := Lib.hid hcut2
  have hsl1 : ∀ W, (Instr.slice 9 (.string s) (some (.int .i64 ((s.size : Int) - 4))) none none).run Tryd.prog W = .ok (.string (s.extract (s.size - 4) s.size)) W := fun W => by
    have e : ((s.size : Int) - 4) = ((s.size - 4 : Nat) : Int) := by omega
    rw [e, run_slice_string_l (ht := Tryd.underlying9) _ _ _ .i64 _ (by omega) (by omega)]
    simp
  have hsl2 : ∀ W, (Instr.slice 9 (.string s) none (some (.int .i64 ((s.size : Int) - 4))) none).run Tryd.prog W = .ok (.string (s.extract 0 (s.size - 4))) W := fun W => by
    have e : ((s.size : Int) - 4) = ((s.size - 4 : Nat) : Int) := by omega
    rw [e, run_slice_string_h (ht := Tryd.underlying9) _ _ _ .i64 _ (by omega) (by omega)]
    simp
  clear hm1 hm2 hcut2
  have hb2 : decide (60000 < (n : Int)) = false := decide_eq_false (by omega)
  have hmk1 : ((m : Int) != (k : Int)) = true := bne_iff_ne.2 (by omega)
  go_enter Tryd.func16, Tryd.ntmps16
  go_wp2_with fail
  go_quiet (fail)
  go_wp2_with fail
  go_quiet (fail)
  go_wp2_with (first
    | (go_at_call 41; (with_reducible refine (number_at (s.extract 2 6) n _ (by rw [HC.out]; omega) HN.out).mono ?_); rintro e W1 ⟨rfl, hd1⟩; have HB1 := Lib.hid (drawn_below hd1); clear hd1)
    | fail)
  go_quiet ((first | (go_at_call 41; exact Calls.quiet_of (number_at _ m _ (by rw [HC2.out]; omega) HM.out)) | (go_at_call 20; exact Calls.quiet_of_same (sum_at _ k _ (by rw [ByteArray.size_extract]; omega) HK.out))))
  go_wp2_with fail
  go_ret2
  exact ⟨rfl, HB1.out.trans ((Drawn0.below ⟨⟨_, rfl⟩⟩).mono HB1.out.size)⟩
set_option maxRecDepth 100000 in
set_option maxHeartbeats 1000000 in
theorem un_ok (s : ByteArray) (w : World) (x y : Nat) (h : Two s x y) (hm : s.size ≤ 140737488351232) (hx : x = 84) (hy : y = 1) (n : Nat) (hn : (num (s.extract 2 6).data.toList).toNat = n) (hb : n ≤ 60000) (hl : s.size ≤ n + 10) (hl2 : n + 10 ≤ s.size) (m k : Nat) (hm1 : (num (s.extract (s.size - 4) s.size).data.toList).toNat = m) (hm2 : (csum (s.extract 0 (s.size - 4)).data.toList).toNat = k) (hmk : m = k) : Calls Tryd.prog 16 #[.string s] w fun e w' => e = .returned (.tuple #[.string (s.extract 6 (s.size - 4)), .nilIface]) ∧ Below w.heap.size w w' := by
  have h10 := h.size
  have q0 : (0 < s.size) = True := eq_true (by omega)
  have q1 : (1 < s.size) = True := eq_true (by omega)
  have hb0 := h.b0
  have hb1 := h.b1
  have hx1 : ((x : Int) != (((⟨#[84, 1]⟩ : ByteArray)[0]'(by decide)).toNat : Int)) = false := by rw [mark0]; exact bne_eq_false_iff_eq.2 (by omega)
  have hy1 : ((y : Int) != (((⟨#[84, 1]⟩ : ByteArray)[1]'(by decide)).toNat : Int)) = false := by rw [mark1]; exact bne_eq_false_iff_eq.2 (by omega)
  have hcut : (s.extract 2 6).size = 4 := by rw [ByteArray.size_extract]; omega
  have HN := Lib.hid hn
  have HC := Lib.hid hcut
  clear hn hcut
  have hcut2 : (s.extract (s.size - 4) s.size).size = 4 := by rw [ByteArray.size_extract]; omega
  have HM := Lib.hid hm1
  have HK := Lib.hid hm2
  have HC2 := Lib.hid hcut2
  have hsl1 : ∀ W, (Instr.slice 9 (.string s) (some (.int .i64 ((s.size : Int) - 4))) none none).run Tryd.prog W = .ok (.string (s.extract (s.size - 4) s.size)) W := fun W => by
    have e : ((s.size : Int) - 4) = ((s.size - 4 : Nat) : Int) := by omega
    rw [e, run_slice_string_l (ht := Tryd.underlying9) _ _ _ .i64 _ (by omega) (by omega)]
    simp
  have hsl2 : ∀ W, (Instr.slice 9 (.string s) none (some (.int .i64 ((s.size : Int) - 4))) none).run Tryd.prog W = .ok (.string (s.extract 0 (s.size - 4))) W := fun W => by
    have e : ((s.size : Int) - 4) = ((s.size - 4 : Nat) : Int) := by omega
    rw [e, run_slice_string_h (ht := Tryd.underlying9) _ _ _ .i64 _ (by omega) (by omega)]
    simp
  clear hm1 hm2 hcut2
  have hb2 : decide (60000 < (n : Int)) = false := decide_eq_false (by omega)
  have hmk1 : ((m : Int) != (k : Int)) = false := bne_eq_false_iff_eq.2 (by omega)
  go_enter Tryd.func16, Tryd.ntmps16
  go_wp2_with fail
  go_quiet (fail)
  go_wp2_with fail
  go_quiet (fail)
  go_wp2_with (first
    | (go_at_call 41; (with_reducible refine (number_at (s.extract 2 6) n _ (by rw [HC.out]; omega) HN.out).mono ?_); rintro e W1 ⟨rfl, hd1⟩; have HB1 := Lib.hid (drawn_below hd1); clear hd1)
    | fail)
  go_quiet ((first | (go_at_call 41; exact Calls.quiet_of (number_at _ m _ (by rw [HC2.out]; omega) HM.out)) | (go_at_call 20; exact Calls.quiet_of_same (sum_at _ k _ (by rw [ByteArray.size_extract]; omega) HK.out))))
  go_wp2_with fail
  go_ret2
  exact ⟨rfl, HB1.out.trans ((Drawn0.below ⟨⟨_, rfl⟩⟩).mono HB1.out.size)⟩
end Go.Proofs.YtjlfoiocceepjaaDoor
