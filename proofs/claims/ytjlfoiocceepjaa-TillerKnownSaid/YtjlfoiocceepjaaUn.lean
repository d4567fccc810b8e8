/-
  frame.Unpack, walked.
  What Unpack answers, in lists.
  Plain: a frame is read as what was framed; cut short it ends early; unlike texts have unlike frames, and none is another's beginning.
-/
import Derived.Test.YtjlfoiocceepjaaPack
namespace Go.Proofs.Ytjlfoiocceepjaa
open Go.RowKit Go.Proofs.YtjlfoiocceepjaaW.PrintWords Go.Proofs.YtjlfoiocceepjaaW.PrintLast Go.Proofs.YtjlfoiocceepjaaW.PrintMore
set_option linter.unusedVariables false
set_option linter.unusedSimpArgs false

theorem number_at (s : ByteArray) (m : Nat) (w : World) (h : 4 ≤ s.size) (hm : (num s.data.toList).toNat = m) : Calls Try.prog 26 #[.string s] w fun e w' => e = .returned (.int .u32 (m : Int)) ∧ ∃ n, w' = w.drewN n :=
  (Pr.frame_number.calls s _ w (num_bits s h)).mono fun e w' h => ⟨by rw [h.1, hm], h.2.out⟩
theorem sum_at (s : ByteArray) (m : Nat) (w : World) (hs : s.size ≤ 140737488351232) (hm : (csum s.data.toList).toNat = m) : Calls Try.prog 5 #[.string s] w fun e w' => e = .returned (.int .u32 (m : Int)) ∧ w' = w :=
  (sum_any s w hs).mono fun e w' h => ⟨by rw [h.1, u32, hm], h.2.symm⟩

set_option maxRecDepth 100000 in
set_option maxHeartbeats 1000000 in
theorem un_short (s : ByteArray) (w : World) (h : s.size < 10) : Calls Try.prog 12 #[.string s] w fun e w' => e = .returned (.tuple #[.string (str []), fault (s.size : Int) 11]) ∧ Below w.heap.size w w' := by
  go_enter Try.func12, Try.ntmps12
  go_wp2_with fail
  go_ret2
  exact ⟨rfl, Below.refl _ _⟩
/-- the first two bytes -/
structure Two (s : ByteArray) (x y : Nat) : Prop where
  size : 10 ≤ s.size
  b0 : ∀ h : 0 < s.size, ((s[0]'h).toNat : Int) = (x : Int)
  b1 : ∀ h : 1 < s.size, ((s[1]'h).toNat : Int) = (y : Int)
theorem drawn_below {w W : World} {a : Nat} (h : ∃ n, W = (w.drewN a).drewN n) : Below w.heap.size w W := by
  obtain ⟨n, rfl⟩ := h
  rw [World.drewN_drewN]
  exact Drawn0.below ⟨⟨_, rfl⟩⟩
theorem mark0 : (((⟨#[84, 1]⟩ : ByteArray)[0]'(by decide)).toNat : Int) = 84 := rfl
theorem mark1 : (((⟨#[84, 1]⟩ : ByteArray)[1]'(by decide)).toNat : Int) = 1 := rfl
set_option maxRecDepth 100000 in
set_option maxHeartbeats 1000000 in
theorem un_mark (s : ByteArray) (w : World) (x y : Nat) (h : Two s x y) (hm : s.size ≤ 140737488351232) (hx : x ≠ 84) : Calls Try.prog 12 #[.string s] w fun e w' => e = .returned (.tuple #[.string (str []), fault 0 3]) ∧ Below w.heap.size w w' := by
  have h10 := h.size
  have q0 : (0 < s.size) = True := eq_true (by omega)
  have q1 : (1 < s.size) = True := eq_true (by omega)
  have hb0 := h.b0
  have hb1 := h.b1
  have hx1 : ((x : Int) != (((⟨#[84, 1]⟩ : ByteArray)[0]'(by decide)).toNat : Int)) = true := by rw [mark0]; exact bne_iff_ne.2 (by omega)
  go_enter Try.func12, Try.ntmps12
  go_wp2_with fail
  go_quiet (fail)
  go_wp2_with fail
  go_ret2
  exact ⟨rfl, Drawn0.below ⟨⟨_, rfl⟩⟩⟩
set_option maxRecDepth 100000 in
set_option maxHeartbeats 1000000 in
theorem un_old (s : ByteArray) (w : World) (x y : Nat) (h : Two s x y) (hm : s.size ≤ 140737488351232) (hx : x = 84) (hy : y ≠ 1) : Calls Try.prog 12 #[.string s] w fun e w' => e = .returned (.tuple #[.string (str []), fault 1 14]) ∧ Below w.heap.size w w' := by
  have h10 := h.size
  have q0 : (0 < s.size) = True := eq_true (by omega)
  have q1 : (1 < s.size) = True := eq_true (by omega)
  have hb0 := h.b0
  have hb1 := h.b1
  have hx1 : ((x : Int) != (((⟨#[84, 1]⟩ : ByteArray)[0]'(by decide)).toNat : Int)) = false := by rw [mark0]; exact bne_eq_false_iff_eq.2 (by omega)
  have hy1 : ((y : Int) != (((⟨#[84, 1]⟩ : ByteArray)[1]'(by decide)).toNat : Int)) = true := by rw [mark1]; exact bne_iff_ne.2 (by omega)
  go_enter Try.func12, Try.ntmps12
  go_wp2_with fail
  go_quiet (fail)
  go_wp2_with fail
  go_quiet (fail)
  go_wp2_with fail
  go_ret2
  exact ⟨rfl, Drawn0.below ⟨⟨_, rfl⟩⟩⟩
set_option maxRecDepth 100000 in
set_option maxHeartbeats 1000000 in
theorem un_big (s : ByteArray) (w : World) (x y : Nat) (h : Two s x y) (hm : s.size ≤ 140737488351232) (hx : x = 84) (hy : y = 1) (n : Nat) (hn : (num (s.extract 2 6).data.toList).toNat = n) (hb : 60000 < n) : Calls Try.prog 12 #[.string s] w fun e w' => e = .returned (.tuple #[.string (str []), fault 2 2]) ∧ Below w.heap.size w w' := by
  have h10 := h.size
  have q0 : (0 < s.size) = True := eq_true (by omega)
  have q1 : (1 < s.size) = True := eq_true (by omega)
  have hb0 := h.b0
  have hb1 := h.b1
  have hx1 : ((x : Int) != (((⟨#[84, 1]⟩ : ByteArray)[0]'(by decide)).toNat : Int)) = false := by rw [mark0]; exact bne_eq_false_iff_eq.2 (by omega)
  have hy1 : ((y : Int) != (((⟨#[84, 1]⟩ : ByteArray)[1]'(by decide)).toNat : Int)) = false := by rw [mark1]; exact bne_eq_false_iff_eq.2 (by omega)
  have hcut : (s.extract 2 6).size = 4 := by rw [ByteArray.size_extract]; omega
  have HN := Lib.hid hn
  have HC := Lib.hid hcut
  clear hn hcut
  have hb2 : decide (60000 < (n : Int)) = true := decide_eq_true (by omega)
  go_enter Try.func12, Try.ntmps12
  go_wp2_with fail
  go_quiet (fail)
  go_wp2_with fail
  go_quiet (fail)
  go_wp2_with (first
    | (go_at_call 26; (with_reducible refine (number_at (s.extract 2 6) n _ (by rw [HC.out]; omega) HN.out).mono ?_); rintro e W1 ⟨rfl, hd1⟩; have HB1 := Lib.hid (drawn_below hd1); clear hd1)
    | fail)
  go_ret2
  exact ⟨rfl, HB1.out⟩
set_option maxRecDepth 100000 in
set_option maxHeartbeats 1000000 in
theorem un_end (s : ByteArray) (w : World) (x y : Nat) (h : Two s x y) (hm : s.size ≤ 140737488351232) (hx : x = 84) (hy : y = 1) (n : Nat) (hn : (num (s.extract 2 6).data.toList).toNat = n) (hb : n ≤ 60000) (hl : s.size < n + 10) : Calls Try.prog 12 #[.string s] w fun e w' => e = .returned (.tuple #[.string (str []), fault (s.size : Int) 11]) ∧ Below w.heap.size w w' := by
  have h10 := h.size
  have q0 : (0 < s.size) = True := eq_true (by omega)
  have q1 : (1 < s.size) = True := eq_true (by omega)
  have hb0 := h.b0
  have hb1 := h.b1
  have hx1 : ((x : Int) != (((⟨#[84, 1]⟩ : ByteArray)[0]'(by decide)).toNat : Int)) = false := by rw [mark0]; exact bne_eq_false_iff_eq.2 (by omega)
  have hy1 : ((y : Int) != (((⟨#[84, 1]⟩ : ByteArray)[1]'(by decide)).toNat : Int)) = false := by rw [mark1]; exact bne_eq_false_iff_eq.2 (by omega)
  have hcut : (s.extract 2 6).size = 4 := by rw [ByteArray.size_extract]; omega
  have HN := Lib.hid hn
  have HC := Lib.hid hcut
  clear hn hcut
  have hb2 : decide (60000 < (n : Int)) = false := decide_eq_false (by omega)
  go_enter Try.func12, Try.ntmps12
  go_wp2_with fail
  go_quiet (fail)
  go_wp2_with fail
  go_quiet (fail)
  go_wp2_with (first
    | (go_at_call 26; (with_reducible refine (number_at (s.extract 2 6) n _ (by rw [HC.out]; omega) HN.out).mono ?_); rintro e W1 ⟨rfl, hd1⟩; have HB1 := Lib.hid (drawn_below hd1); clear hd1)
    | fail)
  go_ret2
  exact ⟨rfl, HB1.out⟩
set_option maxRecDepth 100000 in
set_option maxHeartbeats 1000000 in
theorem un_len (s : ByteArray) (w : World) (x y : Nat) (h : Two s x y) (hm : s.size ≤ 140737488351232) (hx : x = 84) (hy : y = 1) (n : Nat) (hn : (num (s.extract 2 6).data.toList).toNat = n) (hb : n ≤ 60000) (hl : n + 10 < s.size) : Calls Try.prog 12 #[.string s] w fun e w' => e = .returned (.tuple #[.string (str []), fault ((n : Int) + 10) 6]) ∧ Below w.heap.size w w' := by
  have h10 := h.size
  have q0 : (0 < s.size) = True := eq_true (by omega)
  have q1 : (1 < s.size) = True := eq_true (by omega)
  have hb0 := h.b0
  have hb1 := h.b1
  have hx1 : ((x : Int) != (((⟨#[84, 1]⟩ : ByteArray)[0]'(by decide)).toNat : Int)) = false := by rw [mark0]; exact bne_eq_false_iff_eq.2 (by omega)
  have hy1 : ((y : Int) != (((⟨#[84, 1]⟩ : ByteArray)[1]'(by decide)).toNat : Int)) = false := by rw [mark1]; exact bne_eq_false_iff_eq.2 (by omega)
  have hcut : (s.extract 2 6).size = 4 := by rw [ByteArray.size_extract]; omega
  have HN := Lib.hid hn
  have HC := Lib.hid hcut
  clear hn hcut
  have hb2 : decide (60000 < (n : Int)) = false := decide_eq_false (by omega)
  go_enter Try.func12, Try.ntmps12
  go_wp2_with fail
  go_quiet (fail)
  go_wp2_with fail
  go_quiet (fail)
  go_wp2_with (first
    | (go_at_call 26; (with_reducible refine (number_at (s.extract 2 6) n _ (by rw [HC.out]; omega) HN.out).mono ?_); rintro e W1 ⟨rfl, hd1⟩; have HB1 := Lib.hid (drawn_below hd1); clear hd1)
    | fail)
  go_ret2
  exact ⟨rfl, HB1.out⟩
set_option maxRecDepth 100000 in
set_option maxHeartbeats 1000000 in
theorem un_sum (s : ByteArray) (w : World) (x y : Nat) (h : Two s x y) (hm : s.size ≤ 140737488351232) (hx : x = 84) (hy : y = 1) (n : Nat) (hn : (num (s.extract 2 6).data.toList).toNat = n) (hb : n ≤ 60000) (hl : s.size ≤ n + 10) (hl2 : n + 10 ≤ s.size) (m k : Nat) (hm1 : (num (s.extract (s.size - 4) s.size).data.toList).toNat = m) (hm2 : (csum (s.extract 0 (s.size - 4)).data.toList).toNat = k) (hmk : m ≠ k) : Calls Try.prog 12 #[.string s] w fun e w' => e = .returned (.tuple #[.string (str []), fault ((s.size : Int) - 4) 12]) ∧ Below w.heap.size w w' := by
  have h10 := h.size
  have q0 : (0 < s.size) = True := eq_true (by omega)
  have q1 : (1 < s.size) = True := eq_true (by omega)
  have hb0 := h.b0
  have hb1 := h.b1
  have hx1 : ((x : Int) != (((⟨#[84, 1]⟩ : ByteArray)[0]'(by decide)).toNat : Int)) = false := by rw [mark0]; exact bne_eq_false_iff_eq.2 (by omega)
  have hy1 : ((y : Int) != (((⟨#[84, 1]⟩ : ByteArray)[1]'(by decide)).toNat : Int)) = false := by rw [mark1]; exact bne_eq_false_iff_eq.2 (by omega)
  have hcut : (s.extract 2 6).size = 4 := by rw [ByteArray.size_extract]; omega
  have HN := Lib.hid hn
  have HC := Lib.hid hcut
  clear hn hcut
  have hcut2 : (s.extract (s.size - 4) s.size).size = 4 := by rw [ByteArray.size_extract]; omega
  have HM := Lib.hid hm1
  have HK := Lib.hid hm2
  have HC2 := Lib.hid hcut2
  have hsl1 : ∀ W, (Instr.slice 9 (.string s) (some (.int .i64 ((s.size : Int) - 4))) none none).run Try.prog W = .ok (.string (s.extract (s.size - 4) s.size)) W := fun W => by
    have e : ((s.size : Int) - 4) = ((s.size - 4 : Nat) : Int) := by omega
    rw [e, run_slice_string_l (ht := Try.underlying9) _ _ _ .i64 _ (by omega) (by omega)]
    simp
  have hsl2 : ∀ W, (Instr.slice 9 (.string s) none (some (.int .i64 ((s.size : Int) - 4))) none).run Try.prog W = .ok (.string (s.extract 0 (s.size - 4))) W := fun W => by
    have e : ((s.size : Int) - 4) = ((s.size - 4 : Nat) : Int) := by omega
    rw [e, run_slice_string_h (ht := Try.underlying9) _ _ _ .i64 _ (by omega) (by omega)]
    simp
  clear hm1 hm2 hcut2
  have hb2 : decide (60000 < (n : Int)) = false := decide_eq_false (by omega)
  have hmk1 : ((m : Int) != (k : Int)) = true := bne_iff_ne.2 (by omega)
  go_enter Try.func12, Try.ntmps12
  go_wp2_with fail
  go_quiet (fail)
  go_wp2_with fail
  go_quiet (fail)
  go_wp2_with (first
    | (go_at_call 26; (with_reducible refine (number_at (s.extract 2 6) n _ (by rw [HC.out]; omega) HN.out).mono ?_); rintro e W1 ⟨rfl, hd1⟩; have HB1 := Lib.hid (drawn_below hd1); clear hd1)
    | fail)
  go_quiet ((first | (go_at_call 26; exact Calls.quiet_of (number_at _ m _ (by rw [HC2.out]; omega) HM.out)) | (go_at_call 5; exact Calls.quiet_of_same (sum_at _ k _ (by rw [ByteArray.size_extract]; omega) HK.out))))
  go_wp2_with fail
  go_ret2
  exact ⟨rfl, HB1.out.trans ((Drawn0.below ⟨⟨_, rfl⟩⟩).mono HB1.out.size)⟩
set_option maxRecDepth 100000 in
set_option maxHeartbeats 1000000 in
theorem un_ok (s : ByteArray) (w : World) (x y : Nat) (h : Two s x y) (hm : s.size ≤ 140737488351232) (hx : x = 84) (hy : y = 1) (n : Nat) (hn : (num (s.extract 2 6).data.toList).toNat = n) (hb : n ≤ 60000) (hl : s.size ≤ n + 10) (hl2 : n + 10 ≤ s.size) (m k : Nat) (hm1 : (num (s.extract (s.size - 4) s.size).data.toList).toNat = m) (hm2 : (csum (s.extract 0 (s.size - 4)).data.toList).toNat = k) (hmk : m = k) : Calls Try.prog 12 #[.string s] w fun e w' => e = .returned (.tuple #[.string (s.extract 6 (s.size - 4)), .nilIface]) ∧ Below w.heap.size w w' := by
  have h10 := h.size
  have q0 : (0 < s.size) = True := eq_true (by omega)
  have q1 : (1 < s.size) = True := eq_true (by omega)
  have hb0 := h.b0
  have hb1 := h.b1
  have hx1 : ((x : Int) != (((⟨#[84, 1]⟩ : ByteArray)[0]'(by decide)).toNat : Int)) = false := by rw [mark0]; exact bne_eq_false_iff_eq.2 (by omega)
  have hy1 : ((y : Int) != (((⟨#[84, 1]⟩ : ByteArray)[1]'(by decide)).toNat : Int)) = false := by rw [mark1]; exact bne_eq_false_iff_eq.2 (by omega)
  have hcut : (s.extract 2 6).size = 4 := by rw [ByteArray.size_extract]; omega
  have HN := Lib.hid hn
  have HC := Lib.hid hcut
  clear hn hcut
  have hcut2 : (s.extract (s.size - 4) s.size).size = 4 := by rw [ByteArray.size_extract]; omega
  have HM := Lib.hid hm1
  have HK := Lib.hid hm2
  have HC2 := Lib.hid hcut2
  have hsl1 : ∀ W, (Instr.slice 9 (.string s) (some (.int .i64 ((s.size : Int) - 4))) none none).run Try.prog W = .ok (.string (s.extract (s.size - 4) s.size)) W := fun W => by
    have e : ((s.size : Int) - 4) = ((s.size - 4 : Nat) : Int) := by omega
    rw [e, run_slice_string_l (ht := Try.underlying9) _ _ _ .i64 _ (by omega) (by omega)]
    simp
  have hsl2 : ∀ W, (Instr.slice 9 (.string s) none (some (.int .i64 ((s.size : Int) - 4))) none).run Try.prog W = .ok (.string (s.extract 0 (s.size - 4))) W := fun W => by
    have e : ((s.size : Int) - 4) = ((s.size - 4 : Nat) : Int) := by omega
    rw [e, run_slice_string_h (ht := Try.underlying9) _ _ _ .i64 _ (by omega) (by omega)]
    simp
  clear hm1 hm2 hcut2
  have hb2 : decide (60000 < (n : Int)) = false := decide_eq_false (by omega)
  have hmk1 : ((m : Int) != (k : Int)) = false := bne_eq_false_iff_eq.2 (by omega)
  go_enter Try.func12, Try.ntmps12
  go_wp2_with fail
  go_quiet (fail)
  go_wp2_with fail
  go_quiet (fail)
  go_wp2_with (first
    | (go_at_call 26; (with_reducible refine (number_at (s.extract 2 6) n _ (by rw [HC.out]; omega) HN.out).mono ?_); rintro e W1 ⟨rfl, hd1⟩; have HB1 := Lib.hid (drawn_below hd1); clear hd1)
    | fail)
  go_quiet ((first | (go_at_call 26; exact Calls.quiet_of (number_at _ m _ (by rw [HC2.out]; omega) HM.out)) | (go_at_call 5; exact Calls.quiet_of_same (sum_at _ k _ (by rw [ByteArray.size_extract]; omega) HK.out))))
  go_wp2_with fail
  go_ret2
  exact ⟨rfl, HB1.out.trans ((Drawn0.below ⟨⟨_, rfl⟩⟩).mono HB1.out.size)⟩
end Go.Proofs.Ytjlfoiocceepjaa
namespace Go.Proofs.Ytjlfoiocceepjaa
open Go.RowKit Go.Proofs.YtjlfoiocceepjaaW.PrintWords Go.Proofs.YtjlfoiocceepjaaW.PrintLast Go.Proofs.YtjlfoiocceepjaaW.PrintMore
set_option linter.unusedVariables false
set_option linter.unusedSimpArgs false

/-- the text, the error's number (0: none), its place -/
def unpackL (l : List UInt8) : List UInt8 × Int × Int :=
  if l.length < 10 then ([], 11, l.length)
  else if l.getD 0 0 ≠ 84 then ([], 3, 0)
  else if l.getD 1 0 ≠ 1 then ([], 14, 1)
  else if 60000 < (num (l.drop 2)).toNat then ([], 2, 2)
  else if l.length < (num (l.drop 2)).toNat + 10 then ([], 11, l.length)
  else if (num (l.drop 2)).toNat + 10 < l.length then ([], 6, ((num (l.drop 2)).toNat : Int) + 10)
  else if num (l.drop (l.length - 4)) ≠ csum (l.take (l.length - 4)) then ([], 12, (l.length : Int) - 4)
  else ((l.take (l.length - 4)).drop 6, 0, -1)
def errV (why place : Int) : Value := if why = 0 then .nilIface else fault place why

theorem num_take (l : List UInt8) (n : Nat) (h : 4 ≤ n) : num (l.take n) = num l := by
  unfold num
  have e : ∀ i, i < 4 → (l.take n).getD i 0 = l.getD i 0 := fun i hi => by
    simp [List.getD_eq_getElem?_getD, List.getElem?_take, show i < n by omega]
  rw [e 0 (by omega), e 1 (by omega), e 2 (by omega), e 3 (by omega)]
theorem ext_list (s : ByteArray) (a b : Nat) : (s.extract a b).data.toList = (s.data.toList.take b).drop a := by
  rw [List.drop_take]; simp

theorem unpack_any (l : List UInt8) (w : World) (hl : l.length ≤ 140737488351232) :
    Calls Try.prog 12 #[.string (str l)] w fun e w' => e = .returned (.tuple #[.string (str (unpackL l).1), errV (unpackL l).2.1 (unpackL l).2.2]) ∧ Below w.heap.size w w' := by
  obtain ⟨s, hs⟩ : ∃ s, s = str l := ⟨_, rfl⟩
  have hsl : s.data.toList = l := by rw [hs, str_list]
  have hsz : s.size = l.length := by rw [hs, str_size]
  rw [← hs]
  by_cases h10 : l.length < 10
  · have e : unpackL l = ([], 11, (l.length : Int)) := by unfold unpackL; rw [if_pos h10]
    rw [e]
    have := un_short s w (by omega)
    rw [hsz] at this
    exact this
  have hg : ∀ i (h : i < s.size), (s[i]'h).toNat = (l.getD i 0).toNat := by
    intro i h
    have h' : i < l.length := by omega
    subst hsl
    simp [List.getD_eq_getElem?_getD, List.getElem?_eq_getElem h']
    rfl
  have h2 : Two s (l.getD 0 0).toNat (l.getD 1 0).toNat := ⟨by omega, fun h => by rw [hg 0 h], fun h => by rw [hg 1 h]⟩
  have hu : ∀ (x : UInt8) (n : Nat), n < 256 → (x.toNat = n ↔ x = UInt8.ofNat n) := by
    intro x n hn
    constructor
    · intro h; rw [← h]; simp
    · intro h; rw [h]; simp; omega
  by_cases hx : ¬ l.getD 0 0 = 84
  · have e : unpackL l = ([], 3, 0) := by unfold unpackL; rw [if_neg h10, if_pos hx]
    rw [e]
    exact un_mark s w _ _ h2 (by omega) (fun h => hx ((hu _ 84 (by omega)).1 h))
  replace hx := Decidable.not_not.1 hx
  have hx' : (l.getD 0 0).toNat = 84 := by rw [hx]; rfl
  by_cases hy : ¬ l.getD 1 0 = 1
  · have e : unpackL l = ([], 14, 1) := by unfold unpackL; rw [if_neg h10, if_neg (fun h => h hx), if_pos hy]
    rw [e]
    exact un_old s w _ _ h2 (by omega) hx' (fun h => hy ((hu _ 1 (by omega)).1 h))
  replace hy := Decidable.not_not.1 hy
  have hy' : (l.getD 1 0).toNat = 1 := by rw [hy]; rfl
  have hn : (num (s.extract 2 6).data.toList).toNat = (num (l.drop 2)).toNat := by
    rw [ext_list, hsl, List.drop_take, num_take _ _ (by omega)]
  by_cases hb : 60000 < (num (l.drop 2)).toNat
  · have e : unpackL l = ([], 2, 2) := by unfold unpackL; rw [if_neg h10, if_neg (fun h => h hx), if_neg (fun h => h hy), if_pos hb]
    rw [e]
    exact un_big s w _ _ h2 (by omega) hx' hy' _ hn hb
  by_cases hc : l.length < (num (l.drop 2)).toNat + 10
  · have e : unpackL l = ([], 11, (l.length : Int)) := by unfold unpackL; rw [if_neg h10, if_neg (fun h => h hx), if_neg (fun h => h hy), if_neg hb, if_pos hc]
    rw [e]
    have := un_end s w _ _ h2 (by omega) hx' hy' _ hn (by omega) (by omega)
    rw [hsz] at this
    exact this
  by_cases hd : (num (l.drop 2)).toNat + 10 < l.length
  · have e : unpackL l = ([], 6, ((num (l.drop 2)).toNat : Int) + 10) := by unfold unpackL; rw [if_neg h10, if_neg (fun h => h hx), if_neg (fun h => h hy), if_neg hb, if_neg hc, if_pos hd]
    rw [e]
    exact un_len s w _ _ h2 (by omega) hx' hy' _ hn (by omega) (by omega)
  have hm : (num (s.extract (s.size - 4) s.size).data.toList).toNat = (num (l.drop (l.length - 4))).toNat := by
    rw [ext_list, hsl, hsz, List.take_of_length_le (Nat.le_refl _)]
  have hk : (csum (s.extract 0 (s.size - 4)).data.toList).toNat = (csum (l.take (l.length - 4))).toNat := by
    rw [ext_list, hsl, hsz]; rfl
  by_cases hq : ¬ num (l.drop (l.length - 4)) = csum (l.take (l.length - 4))
  · have e : unpackL l = ([], 12, (l.length : Int) - 4) := by unfold unpackL; rw [if_neg h10, if_neg (fun h => h hx), if_neg (fun h => h hy), if_neg hb, if_neg hc, if_neg hd, if_pos hq]
    rw [e]
    have := un_sum s w _ _ h2 (by omega) hx' hy' _ hn (by omega) (by omega) (by omega) _ _ hm hk (fun h => hq (BitVec.eq_of_toNat_eq h))
    rw [hsz] at this
    exact this
  · replace hq := Decidable.not_not.1 hq
    have e : unpackL l = ((l.take (l.length - 4)).drop 6, 0, -1) := by unfold unpackL; rw [if_neg h10, if_neg (fun h => h hx), if_neg (fun h => h hy), if_neg hb, if_neg hc, if_neg hd, if_neg (fun h => h hq)]
    rw [e]
    have := un_ok s w _ _ h2 (by omega) hx' hy' _ hn (by omega) (by omega) (by omega) _ _ hm hk (by rw [hq])
    have e2 : s.extract 6 (s.size - 4) = str ((l.take (l.length - 4)).drop 6) := by
      apply str_eq; rw [ext_list, hsl, hsz]
    rw [e2] at this
    exact this
end Go.Proofs.Ytjlfoiocceepjaa
namespace Go.Proofs.Ytjlfoiocceepjaa
set_option linter.unusedVariables false
set_option linter.unusedSimpArgs false

theorem four_length (x : BitVec 32) : (four x).length = 4 := rfl
theorem headL_length (b : List UInt8) : (headL b).length = b.length + 6 := by simp [headL, four_length]; omega
theorem packL_length (b : List UInt8) : (packL b).length = b.length + 10 := by simp [packL, headL_length, four_length]
theorem num_four (x : BitVec 32) (r : List UInt8) : num (four x ++ r) = x := by
  unfold num four
  exact num4_four x
theorem packL_two (b : List UInt8) : packL b = 84 :: 1 :: (four (BitVec.ofNat 32 b.length) ++ (b ++ four (csum (headL b)))) := by simp [packL, headL]
theorem packL_head (b : List UInt8) : (packL b).take (b.length + 6) = headL b := by
  unfold packL
  rw [List.take_append_of_le_length (by rw [headL_length]; omega), List.take_of_length_le (by rw [headL_length]; omega)]
theorem packL_tail (b : List UInt8) : (packL b).drop (b.length + 6) = four (csum (headL b)) := by
  unfold packL
  rw [← headL_length, List.drop_left]
theorem headL_drop (b : List UInt8) : (headL b).drop 6 = b := by
  have : headL b = (84 :: 1 :: four (BitVec.ofNat 32 b.length)) ++ b := by simp [headL]
  rw [this]
  exact List.drop_left (l₁ := 84 :: 1 :: four (BitVec.ofNat 32 b.length)) (l₂ := b)
theorem len_num (n : Nat) (h : n ≤ 60000) : (BitVec.ofNat 32 n).toNat = n := by rw [BitVec.toNat_ofNat]; exact Nat.mod_eq_of_lt (by omega)
theorem packL_num (b : List UInt8) (h : b.length ≤ 60000) : (num ((packL b).drop 2)).toNat = b.length := by
  have : (packL b).drop 2 = four (BitVec.ofNat 32 b.length) ++ (b ++ four (csum (headL b))) := by rw [packL_two]; rfl
  rw [this, num_four, len_num _ h]
theorem packL_g0 (b : List UInt8) : (packL b).getD 0 0 = 84 := by rw [packL_two]; rfl
theorem packL_g1 (b : List UInt8) : (packL b).getD 1 0 = 1 := by rw [packL_two]; rfl
theorem unpack_pack (b : List UInt8) (h : b.length ≤ 60000) : unpackL (packL b) = (b, 0, -1) := by
  have hl := packL_length b
  have hn := packL_num b h
  unfold unpackL
  rw [if_neg (by omega), if_neg (fun h => h (packL_g0 b)), if_neg (fun h => h (packL_g1 b)), hn, if_neg (by omega), if_neg (by omega), if_neg (by omega)]
  have e1 : (packL b).length - 4 = b.length + 6 := by omega
  rw [e1, packL_tail, packL_head]
  have e2 : num (four (csum (headL b))) = csum (headL b) := by
    have := num_four (csum (headL b)) []
    rwa [List.append_nil] at this
  rw [if_neg (fun h => h e2), headL_drop]
theorem unpack_short (b : List UInt8) (h : b.length ≤ 60000) : unpackL ((packL b).take (b.length + 9)) = ([], 11, (b.length : Int) + 9) := by
  have hl : ((packL b).take (b.length + 9)).length = b.length + 9 := by rw [List.length_take, packL_length]; omega
  unfold unpackL
  rw [hl]
  by_cases h0 : b.length + 9 < 10
  · rw [if_pos h0]; simp
  · have g0 : ((packL b).take (b.length + 9)).getD 0 0 = 84 := by rw [packL_two]; rfl
    have g1 : ((packL b).take (b.length + 9)).getD 1 0 = 1 := by rw [packL_two]; rfl
    have hn : (num (((packL b).take (b.length + 9)).drop 2)).toNat = b.length := by
      rw [List.drop_take, num_take _ _ (by omega), packL_num b h]
    rw [if_neg h0, if_neg (fun h => h g0), if_neg (fun h => h g1), hn, if_neg (by omega), if_pos (by omega)]
    simp
theorem packL_inj {a b : List UInt8} (ha : a.length ≤ 60000) (hb : b.length ≤ 60000) (h : packL a = packL b) : a = b := by
  have h1 := unpack_pack a ha
  rw [h, unpack_pack b hb] at h1
  injection h1 with h1 _
  exact h1.symm
/-- no frame is another one's beginning -/
theorem packL_apart {a b : List UInt8} (ha : a.length ≤ 60000) (hb : b.length ≤ 60000) (hl : a.length < b.length) : (packL b).take (packL a).length ≠ packL a := by
  intro h
  have h1 := packL_num a ha
  rw [← h, List.drop_take, num_take _ _ (by rw [packL_length]; omega), packL_num b hb] at h1
  omega
end Go.Proofs.Ytjlfoiocceepjaa
