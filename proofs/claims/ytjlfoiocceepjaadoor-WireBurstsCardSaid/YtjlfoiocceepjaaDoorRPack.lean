/-
  The document's Four, Pack, Number and Unpack, walked.
-/
import Derived.Test.YtjlfoiocceepjaaDoorRSum
import Derived.Test.YtjlfoiocceepjaaDoorUn
import Derived.Test.YtjlfoiocceepjaaDoorPr2
import Derived.OwnWalk
import Derived.IntWalk
namespace Go.Proofs.YtjlfoiocceepjaaDoor
open Go.RowKit Go.Proofs.YtjlfoiocceepjaaDoorW.PrintWords Go.Proofs.YtjlfoiocceepjaaDoorW.PrintLast Go.Proofs.YtjlfoiocceepjaaDoorW.PrintMore
set_option linter.unusedVariables false
set_option linter.unusedSimpArgs false

theorem num4_nat (a b c d : UInt8) : (num4 a b c d).toNat = a.toNat + 256 * b.toNat + 65536 * c.toNat + 16777216 * d.toNat := by
  have h := four_num4 a b c d
  generalize num4 a b c d = x at *
  unfold four at h
  have e : ∀ (k : Nat) (z : UInt8), (⟨(x >>> k).setWidth 8⟩ : UInt8) = z → x.toNat / 2 ^ k % 256 = z.toNat := by
    intro k z hz
    subst hz
    show _ = ((x >>> k).setWidth 8).toNat
    rw [BitVec.toNat_setWidth, BitVec.toNat_ushiftRight, Nat.shiftRight_eq_div_pow]
  injection h with h0 h
  injection h with h1 h
  injection h with h2 h
  injection h with h3 h
  have e0 := e 0 a (by simpa using h0)
  have e1 := e 8 b h1
  have e2 := e 16 c h2
  have e3 := e 24 d h3
  have hx := x.isLt
  omega
theorem rfour_any (x : BitVec 32) (w : World) : Calls Tryd.prog 43 #[u32 x] w fun e w' => e = .returned (.string (str (four x))) ∧ Below w.heap.size w w' := by
  refine Pr2.tillerref14_Four.calls (x.toNat : Int) _ w ?_
  unfold Pr2.tillerref14_Four.f
  rw [← four_nums]
  have hx := x.isLt
  have t0 : Int.tmod (x.toNat : Int) 256 = (x.toNat : Int) % 256 := rfl
  have t1 : Int.tdiv (x.toNat : Int) 256 = (x.toNat : Int) / 256 := rfl
  have t2 : Int.tdiv (x.toNat : Int) 65536 = (x.toNat : Int) / 65536 := rfl
  have t3 : Int.tdiv (x.toNat : Int) 16777216 = (x.toNat : Int) / 16777216 := rfl
  have k0 : ((x.toNat : Int) % 256) % 256 = (x.toNat : Int) % 256 := by omega
  have k1 : ((x.toNat : Int) / 256 % 4294967296) % 256 = (x.toNat : Int) / 256 % 256 := by omega
  have k2 : ((x.toNat : Int) / 65536 % 4294967296) % 256 = (x.toNat : Int) / 65536 % 256 := by omega
  have k3 : ((x.toNat : Int) / 16777216 % 4294967296) % 256 = (x.toNat : Int) / 16777216 % 256 := by omega
  rw [t0, t1, t2, t3, k0, k1, k2, k3]
theorem rfour_q (x : BitVec 32) (w : World) : Calls Tryd.prog 43 #[u32 x] w fun e w' => ∃ r : ByteArray, e = .returned (.string r) ∧ (4 ≤ r.size ∧ r.size ≤ 4) ∧ Hid (r = str (four x)) ∧ Below w.heap.size w w' :=
  (rfour_any x w).mono fun e w' h => ⟨_, h.1, by rw [four_size]; omega, Lib.hid rfl, h.2⟩
theorem rfour_nq (n : Nat) (h : n < 4294967296) (w : World) : Calls Tryd.prog 43 #[.int .u32 (n : Int)] w fun e w' => ∃ r : ByteArray, e = .returned (.string r) ∧ (4 ≤ r.size ∧ r.size ≤ 4) ∧ Hid (r = str (four (BitVec.ofNat 32 n))) ∧ Below w.heap.size w w' := by
  have h1 := rfour_q (BitVec.ofNat 32 n) w
  have e : u32 (BitVec.ofNat 32 n) = .int .u32 (n : Int) := by
    unfold u32
    rw [BitVec.toNat_ofNat, Nat.mod_eq_of_lt (by omega)]
  rw [e] at h1
  exact h1
theorem rsum_q (s : ByteArray) (w : World) (hs : s.size ≤ 100000) : Calls Tryd.prog 21 #[.string s] w fun e w' => ∃ c : BitVec 32, e = .returned (u32 c) ∧ Hid (c = csum s.data.toList) ∧ Below w.heap.size w w' :=
  (rsum_any s w hs).mono fun e w' h => ⟨_, h.1, Lib.hid rfl, h.2⟩
set_option maxRecDepth 100000 in
set_option maxHeartbeats 1000000 in
theorem rpack_any (l : List UInt8) (w : World) (hs : l.length ≤ 90000) :
    Calls Tryd.prog 19 #[.string (str l)] w fun e w' => e = .returned (.string (str (packL l))) ∧ Below w.heap.size w w' := by
  obtain ⟨s, hs1⟩ : ∃ s, s = str l := ⟨_, rfl⟩
  have hsz : s.size ≤ 90000 := by rw [hs1, str_size]; exact hs
  have HP := Lib.hid (packed l)
  have HL : Hid (l.length = s.size) := Lib.hid (by rw [hs1, str_size])
  rw [HL.out, ← hs1] at HP
  rw [← hs1]
  clear hs1 hs
  go_enter Tryd.func19, Tryd.ntmps19
  go_wp2_with (first
    | (go_at_call 43; (with_reducible refine (rfour_nq s.size (by omega) _).mono ?_); rintro e w1 ⟨q, rfl, ⟨hq1, hq2⟩, HQ, hb1⟩; have HB1 := Lib.hid hb1; clear hb1)
    | (go_at_call 21; (with_reducible refine (rsum_q _ _ ?_).mono ?_); (simp only [ByteArray.size_append]; have : (⟨#[84, 1]⟩ : ByteArray).size = 2 := rfl; omega); rintro e w1' ⟨c, rfl, HC, hb2⟩; have HB2 := Lib.hid (HB1.out.trans (hb2.mono HB1.out.size)); clear hb2)
    | (go_at_call 43; (with_reducible refine (rfour_q c _).mono ?_); rintro e w2 ⟨q2, rfl, ⟨hq3, hq4⟩, HQ2, hb2⟩; have HB3 := Lib.hid (HB2.out.trans (hb2.mono HB2.out.size)); clear hb2)
    | fail)
  have fin : (⟨#[84, 1]⟩ : ByteArray) ++ q ++ s ++ q2 = str (packL l) := by rw [← HP.out, ← HQ.out, ← HC.out, ← HQ2.out]
  go_ret
  exact ⟨by rw [← fin]; rfl, HB3.out⟩
theorem rnum_step (k : Nat) (s : ByteArray) (v b : Nat) (i : Nat) (hi : i < s.size) (hi4 : i < 4) (hv : v < 100000000) (hb : b < 256) (h : bt s (i : Int) = (b : Int)) :
    Pr2.tillerref14_Number.l0 (k + 1) s (v : Int) (i : Int) = Pr2.tillerref14_Number.l0 k s ((256 * v + b : Nat) : Int) ((i : Int) - 1) := by
  have hs : ∀ n : Int, (-9223372036854775808 ≤ n ∧ n ≤ 9223372036854775807) → wrap64 n = n := fun n hn => by unfold wrap64; omega
  rw [Pr2.tillerref14_Number.l0, if_pos (by omega), if_pos (by omega), if_pos (by omega), h, hs (b : Int) (by omega), hs (256 * (v : Int)) (by omega), hs _ (by omega)]
  rw [hs _ (by omega)]
  congr 1
theorem rnum_f (s : ByteArray) (h : 4 ≤ s.size) : Pr2.tillerref14_Number.f 5 s = some ((num s.data.toList).toNat : Int) := by
  have hb : ∀ i : Nat, i < 4 → bt s (i : Int) = ((s.data.toList.getD i 0).toNat : Int) := by
    intro i hi
    have h' : i < s.data.toList.length := by rw [Array.length_toList]; exact (by omega : i < s.size)
    unfold bt
    rw [dif_pos (show (i : Int).toNat < s.size by omega)]
    simp [List.getD_eq_getElem?_getD, List.getElem?_eq_getElem h']
    rfl
  have h0 := hb 0 (by omega); have h1 := hb 1 (by omega); have h2 := hb 2 (by omega); have h3 := hb 3 (by omega)
  unfold num
  rw [num4_nat]
  have z0 : (s.data.toList.getD 0 0).toNat < 256 := (s.data.toList.getD 0 0).toNat_lt
  have z1 : (s.data.toList.getD 1 0).toNat < 256 := (s.data.toList.getD 1 0).toNat_lt
  have z2 : (s.data.toList.getD 2 0).toNat < 256 := (s.data.toList.getD 2 0).toNat_lt
  have z3 : (s.data.toList.getD 3 0).toNat < 256 := (s.data.toList.getD 3 0).toNat_lt
  generalize (s.data.toList.getD 0 0).toNat = b0 at *
  generalize (s.data.toList.getD 1 0).toNat = b1 at *
  generalize (s.data.toList.getD 2 0).toNat = b2 at *
  generalize (s.data.toList.getD 3 0).toNat = b3 at *
  have s3 := rnum_step 4 s 0 b3 3 (by omega) (by omega) (by omega) z3 h3
  have s2 := rnum_step 3 s (256 * 0 + b3) b2 2 (by omega) (by omega) (by omega) z2 h2
  have s1 := rnum_step 2 s (256 * (256 * 0 + b3) + b2) b1 1 (by omega) (by omega) (by omega) z1 h1
  have s0 := rnum_step 1 s (256 * (256 * (256 * 0 + b3) + b2) + b1) b0 0 (by omega) (by omega) (by omega) z0 h0
  have e : ∀ v : Int, Pr2.tillerref14_Number.l0 (0 + 1) s v (((0 : Nat) : Int) - 1) = some v := fun v => by rw [Pr2.tillerref14_Number.l0, if_neg (by omega)]
  refine s3.trans (s2.trans (s1.trans (s0.trans ((e _).trans ?_))))
  congr 1
  omega
theorem rnum_at (s : ByteArray) (m : Nat) (w : World) (h : 4 ≤ s.size) (hm : (num s.data.toList).toNat = m) : Calls Tryd.prog 42 #[.string s] w fun e w' => e = .returned (.int .i64 (m : Int)) ∧ Below w.heap.size w w' :=
  (Pr2.tillerref14_Number.calls 5 s _ w (rnum_f s h)).mono fun e w' h => ⟨by rw [h.1, hm], h.2.below⟩
/-- what is a frame but for its sum -/
theorem pack_back (l : List UInt8) (h0 : l.getD 0 0 = 84) (h1 : l.getD 1 0 = 1) (hn : (num (l.drop 2)).toNat + 10 = l.length) (hb : (num (l.drop 2)).toNat ≤ 60000) :
    l.take (l.length - 4) = headL ((l.take (l.length - 4)).drop 6) ∧ l.drop (l.length - 4) = four (num (l.drop (l.length - 4))) := by
  match l, hn with
  | a :: b :: c :: d :: e :: f :: r, hn =>
    have ha : a = 84 := h0
    have hb' : b = 1 := h1
    have hr : (num (c :: d :: e :: f :: r)).toNat + 10 = r.length + 6 := by
      have := hn
      simp only [List.drop_succ_cons, List.drop_zero, List.length_cons] at this
      exact this
    have hnum : num (c :: d :: e :: f :: r) = num4 c d e f := rfl
    have h4 : four (num4 c d e f) = [c, d, e, f] := four_num4 c d e f
    have hlen : num4 c d e f = BitVec.ofNat 32 (r.length - 4) := by
      rw [hnum] at hr
      apply BitVec.eq_of_toNat_eq
      rw [BitVec.toNat_ofNat, Nat.mod_eq_of_lt (by have := (num4 c d e f).isLt; omega)]
      omega
    have hrl : 4 ≤ r.length := by omega
    have hL : (a :: b :: c :: d :: e :: f :: r).length - 4 = (r.length - 4) + 6 := by simp only [List.length_cons]; omega
    have ht : (a :: b :: c :: d :: e :: f :: r).take ((r.length - 4) + 6) = a :: b :: c :: d :: e :: f :: r.take (r.length - 4) := rfl
    have hd : (a :: b :: c :: d :: e :: f :: r).drop ((r.length - 4) + 6) = r.drop (r.length - 4) := rfl
    rw [hL, ht, hd]
    refine ⟨?_, ?_⟩
    · show _ = headL (r.take (r.length - 4))
      unfold headL
      have hl2 : (r.take (r.length - 4)).length = r.length - 4 := by rw [List.length_take]; omega
      rw [hl2, ← hlen, h4, ha, hb']
      rfl
    · have hl3 : (r.drop (r.length - 4)).length = 4 := by rw [List.length_drop]; omega
      match hq : r.drop (r.length - 4), hl3 with
      | [p, q, u, v], _ => exact (four_num4 p q u v).symm
  | [], hn => simp at hn
  | [_], hn => simp at hn
  | [_, _], hn => simp at hn
  | [_, _, _], hn => simp at hn
  | [_, _, _, _], hn => simp at hn
  | [_, _, _, _, _], hn => simp at hn
theorem pack_iff (l : List UInt8) (h0 : l.getD 0 0 = 84) (h1 : l.getD 1 0 = 1) (hn : (num (l.drop 2)).toNat + 10 = l.length) (hb : (num (l.drop 2)).toNat ≤ 60000) :
    packL ((l.take (l.length - 4)).drop 6) = l ↔ num (l.drop (l.length - 4)) = csum (l.take (l.length - 4)) := by
  obtain ⟨p1, p2⟩ := pack_back l h0 h1 hn hb
  unfold packL
  rw [← p1]
  constructor
  · intro h
    have h2 : l.take (l.length - 4) ++ four (csum (l.take (l.length - 4))) = l.take (l.length - 4) ++ l.drop (l.length - 4) := by rw [h, List.take_append_drop]
    have h3 := List.append_cancel_left h2
    have h4 := num_four (csum (l.take (l.length - 4))) []
    rw [List.append_nil, h3] at h4
    exact h4
  · intro h
    rw [← h, ← p2, List.take_append_drop]
set_option maxRecDepth 100000 in
set_option maxHeartbeats 1000000 in
theorem run_short (s : ByteArray) (w : World) (h : s.size < 10) : Calls Tryd.prog 17 #[.string s] w fun e w' => e = .returned (.tuple #[.string (str []), .int .i64 11, .int .i64 (s.size : Int)]) ∧ Below w.heap.size w w' := by
  have HB := Lib.hid (Below.refl w.heap.size w)
  go_enter Tryd.func17, Tryd.ntmps17
  go_wp2_with fail
  go_ret3
  exact ⟨rfl, HB.out⟩
set_option maxRecDepth 100000 in
set_option maxHeartbeats 1000000 in
theorem run_mark (s : ByteArray) (w : World) (x y : Nat) (h : Two s x y) (hm : s.size ≤ 140737488351232) (hx : x ≠ 84) : Calls Tryd.prog 17 #[.string s] w fun e w' => e = .returned (.tuple #[.string (str []), .int .i64 3, .int .i64 0]) ∧ Below w.heap.size w w' := by
  have h10 := h.size
  have q0 : (0 < s.size) = True := eq_true (by omega)
  have q1 : (1 < s.size) = True := eq_true (by omega)
  have hb0 := h.b0
  have hb1 := h.b1
  have hx1 : ((x : Int) != 84) = true := bne_iff_ne.2 (by omega)
  have HB := Lib.hid (Below.refl w.heap.size w)
  go_enter Tryd.func17, Tryd.ntmps17
  go_wp2_with fail
  go_ret3
  exact ⟨rfl, HB.out⟩
set_option maxRecDepth 100000 in
set_option maxHeartbeats 1000000 in
theorem run_old (s : ByteArray) (w : World) (x y : Nat) (h : Two s x y) (hm : s.size ≤ 140737488351232) (hx : x = 84) (hy : y ≠ 1) : Calls Tryd.prog 17 #[.string s] w fun e w' => e = .returned (.tuple #[.string (str []), .int .i64 14, .int .i64 1]) ∧ Below w.heap.size w w' := by
  have h10 := h.size
  have q0 : (0 < s.size) = True := eq_true (by omega)
  have q1 : (1 < s.size) = True := eq_true (by omega)
  have hb0 := h.b0
  have hb1 := h.b1
  have hx1 : ((x : Int) != 84) = false := bne_eq_false_iff_eq.2 (by omega)
  have hy1 : ((y : Int) != 1) = true := bne_iff_ne.2 (by omega)
  have HB := Lib.hid (Below.refl w.heap.size w)
  go_enter Tryd.func17, Tryd.ntmps17
  go_wp2_with fail
  go_ret3
  exact ⟨rfl, HB.out⟩
set_option maxRecDepth 100000 in
set_option maxHeartbeats 1000000 in
theorem run_big (s : ByteArray) (w : World) (x y : Nat) (h : Two s x y) (hm : s.size ≤ 140737488351232) (hx : x = 84) (hy : y = 1) (n : Nat) (hn : (num (s.extract 2 6).data.toList).toNat = n) (hb : 60000 < n) : Calls Tryd.prog 17 #[.string s] w fun e w' => e = .returned (.tuple #[.string (str []), .int .i64 2, .int .i64 2]) ∧ Below w.heap.size w w' := by
  have h10 := h.size
  have q0 : (0 < s.size) = True := eq_true (by omega)
  have q1 : (1 < s.size) = True := eq_true (by omega)
  have hb0 := h.b0
  have hb1 := h.b1
  have hx1 : ((x : Int) != 84) = false := bne_eq_false_iff_eq.2 (by omega)
  have hy1 : ((y : Int) != 1) = false := bne_eq_false_iff_eq.2 (by omega)
  have hcut : (s.extract 2 6).size = 4 := by rw [ByteArray.size_extract]; omega
  have HN := Lib.hid hn
  have HC := Lib.hid hcut
  clear hn hcut
  go_enter Tryd.func17, Tryd.ntmps17
  go_wp2_with (first | (go_at_call 42; (with_reducible refine (rnum_at (s.extract 2 6) n _ (by rw [HC.out]; omega) HN.out).mono ?_); rintro e W1 ⟨rfl, hd1⟩; have HB := Lib.hid hd1; clear hd1) | fail)
  go_ret3
  exact ⟨rfl, HB.out⟩
set_option maxRecDepth 100000 in
set_option maxHeartbeats 1000000 in
theorem run_end (s : ByteArray) (w : World) (x y : Nat) (h : Two s x y) (hm : s.size ≤ 140737488351232) (hx : x = 84) (hy : y = 1) (n : Nat) (hn : (num (s.extract 2 6).data.toList).toNat = n) (hb : n ≤ 60000) (hl : s.size < n + 10) : Calls Tryd.prog 17 #[.string s] w fun e w' => e = .returned (.tuple #[.string (str []), .int .i64 11, .int .i64 (s.size : Int)]) ∧ Below w.heap.size w w' := by
  have h10 := h.size
  have q0 : (0 < s.size) = True := eq_true (by omega)
  have q1 : (1 < s.size) = True := eq_true (by omega)
  have hb0 := h.b0
  have hb1 := h.b1
  have hx1 : ((x : Int) != 84) = false := bne_eq_false_iff_eq.2 (by omega)
  have hy1 : ((y : Int) != 1) = false := bne_eq_false_iff_eq.2 (by omega)
  have hcut : (s.extract 2 6).size = 4 := by rw [ByteArray.size_extract]; omega
  have HN := Lib.hid hn
  have HC := Lib.hid hcut
  clear hn hcut
  go_enter Tryd.func17, Tryd.ntmps17
  go_wp2_with (first | (go_at_call 42; (with_reducible refine (rnum_at (s.extract 2 6) n _ (by rw [HC.out]; omega) HN.out).mono ?_); rintro e W1 ⟨rfl, hd1⟩; have HB := Lib.hid hd1; clear hd1) | fail)
  go_ret3
  exact ⟨rfl, HB.out⟩
set_option maxRecDepth 100000 in
set_option maxHeartbeats 1000000 in
theorem run_len (s : ByteArray) (w : World) (x y : Nat) (h : Two s x y) (hm : s.size ≤ 140737488351232) (hx : x = 84) (hy : y = 1) (n : Nat) (hn : (num (s.extract 2 6).data.toList).toNat = n) (hb : n ≤ 60000) (hl : n + 10 < s.size) : Calls Tryd.prog 17 #[.string s] w fun e w' => e = .returned (.tuple #[.string (str []), .int .i64 6, .int .i64 ((n : Int) + 10)]) ∧ Below w.heap.size w w' := by
  have h10 := h.size
  have q0 : (0 < s.size) = True := eq_true (by omega)
  have q1 : (1 < s.size) = True := eq_true (by omega)
  have hb0 := h.b0
  have hb1 := h.b1
  have hx1 : ((x : Int) != 84) = false := bne_eq_false_iff_eq.2 (by omega)
  have hy1 : ((y : Int) != 1) = false := bne_eq_false_iff_eq.2 (by omega)
  have hcut : (s.extract 2 6).size = 4 := by rw [ByteArray.size_extract]; omega
  have HN := Lib.hid hn
  have HC := Lib.hid hcut
  clear hn hcut
  go_enter Tryd.func17, Tryd.ntmps17
  go_wp2_with (first | (go_at_call 42; (with_reducible refine (rnum_at (s.extract 2 6) n _ (by rw [HC.out]; omega) HN.out).mono ?_); rintro e W1 ⟨rfl, hd1⟩; have HB := Lib.hid hd1; clear hd1) | fail)
  go_ret3
  exact ⟨rfl, HB.out⟩
set_option maxRecDepth 100000 in
set_option maxHeartbeats 1000000 in
theorem run_sum (s : ByteArray) (w : World) (x y : Nat) (h : Two s x y) (hm : s.size ≤ 140737488351232) (hx : x = 84) (hy : y = 1) (n : Nat) (hn : (num (s.extract 2 6).data.toList).toNat = n) (hb : n ≤ 60000) (hl : s.size ≤ n + 10) (hl2 : n + 10 ≤ s.size) (m : Nat) (hm2 : m = n + 6) (q r : ByteArray) (hq : q = s.extract 6 m) (hr : r = str (packL q.data.toList)) (hne : r ≠ s) : Calls Tryd.prog 17 #[.string s] w fun e w' => e = .returned (.tuple #[.string (str []), .int .i64 12, .int .i64 (m : Int)]) ∧ Below w.heap.size w w' := by
  have h10 := h.size
  have q0 : (0 < s.size) = True := eq_true (by omega)
  have q1 : (1 < s.size) = True := eq_true (by omega)
  have hb0 := h.b0
  have hb1 := h.b1
  have hx1 : ((x : Int) != 84) = false := bne_eq_false_iff_eq.2 (by omega)
  have hy1 : ((y : Int) != 1) = false := bne_eq_false_iff_eq.2 (by omega)
  have hcut : (s.extract 2 6).size = 4 := by rw [ByteArray.size_extract]; omega
  have HN := Lib.hid hn
  have HC := Lib.hid hcut
  clear hn hcut
  have hnm : (6 : Int) + (n : Int) = (m : Int) := by omega
  have hnm2 : (n : Int) + 6 = (m : Int) := by omega
  have hq2 : q.size ≤ 60000 := by rw [hq, ByteArray.size_extract]; omega
  have HR : Hid (∀ V, Calls Tryd.prog 19 #[.string q] V fun e w' => e = .returned (.string r) ∧ Below V.heap.size V w') := Lib.hid (fun V => by
    have h := rpack_any q.data.toList V (by rw [Array.length_toList]; exact (by omega : q.size ≤ 90000))
    rw [str_of, ← hr] at h; exact h)
  have hsl : ∀ W, (Instr.slice 9 (.string s) (some (.int .i64 6)) (some (.int .i64 (m : Int))) none).run Tryd.prog W = .ok (.string q) W := fun W => by
    have := run_slice_string (P := Tryd.prog) W 9 s .i64 .i64 (6 : Int) (m : Int) Tryd.underlying9 (by omega) (by omega) (by omega)
    rw [this, hq]; rfl
  clear hr hq hm2
  have d1 : decide (r = s) = false := decide_eq_false hne
  have d2 : (r.toList == s.toList) = false := beq_eq_false_iff_ne.2 fun e => hne (by rw [ByteArray.toList_eq, ByteArray.toList_eq] at e; rw [← str_of r, e, str_of])
  clear hne
  go_enter Tryd.func17, Tryd.ntmps17
  go_wp2_with (first | (go_at_call 42; (with_reducible refine (rnum_at (s.extract 2 6) n _ (by rw [HC.out]; omega) HN.out).mono ?_); rintro e W1 ⟨rfl, hd1⟩; have HB := Lib.hid hd1; clear hd1) | (go_at_call 19; (with_reducible refine (HR.out _).mono ?_); rintro e W2 ⟨rfl, hd1⟩; have HB := Lib.hid (HB.out.trans (hd1.mono HB.out.size)); clear hd1) | fail)
  go_ret3
  exact ⟨rfl, HB.out⟩
set_option maxRecDepth 100000 in
set_option maxHeartbeats 1000000 in
theorem run_ok (s : ByteArray) (w : World) (x y : Nat) (h : Two s x y) (hm : s.size ≤ 140737488351232) (hx : x = 84) (hy : y = 1) (n : Nat) (hn : (num (s.extract 2 6).data.toList).toNat = n) (hb : n ≤ 60000) (hl : s.size ≤ n + 10) (hl2 : n + 10 ≤ s.size) (m : Nat) (hm2 : m = n + 6) (q r : ByteArray) (hq : q = s.extract 6 m) (hr : r = str (packL q.data.toList)) (hne : r = s) : Calls Tryd.prog 17 #[.string s] w fun e w' => e = .returned (.tuple #[.string q, .int .i64 0, .int .i64 (-1)]) ∧ Below w.heap.size w w' := by
  have h10 := h.size
  have q0 : (0 < s.size) = True := eq_true (by omega)
  have q1 : (1 < s.size) = True := eq_true (by omega)
  have hb0 := h.b0
  have hb1 := h.b1
  have hx1 : ((x : Int) != 84) = false := bne_eq_false_iff_eq.2 (by omega)
  have hy1 : ((y : Int) != 1) = false := bne_eq_false_iff_eq.2 (by omega)
  have hcut : (s.extract 2 6).size = 4 := by rw [ByteArray.size_extract]; omega
  have HN := Lib.hid hn
  have HC := Lib.hid hcut
  clear hn hcut
  have hnm : (6 : Int) + (n : Int) = (m : Int) := by omega
  have hnm2 : (n : Int) + 6 = (m : Int) := by omega
  have hq2 : q.size ≤ 60000 := by rw [hq, ByteArray.size_extract]; omega
  have HR : Hid (∀ V, Calls Tryd.prog 19 #[.string q] V fun e w' => e = .returned (.string r) ∧ Below V.heap.size V w') := Lib.hid (fun V => by
    have h := rpack_any q.data.toList V (by rw [Array.length_toList]; exact (by omega : q.size ≤ 90000))
    rw [str_of, ← hr] at h; exact h)
  have hsl : ∀ W, (Instr.slice 9 (.string s) (some (.int .i64 6)) (some (.int .i64 (m : Int))) none).run Tryd.prog W = .ok (.string q) W := fun W => by
    have := run_slice_string (P := Tryd.prog) W 9 s .i64 .i64 (6 : Int) (m : Int) Tryd.underlying9 (by omega) (by omega) (by omega)
    rw [this, hq]; rfl
  clear hr hq hm2
  have d1 : decide (r = s) = true := decide_eq_true hne
  have d2 : (r.toList == s.toList) = true := by rw [hne]; exact beq_self_eq_true _
  clear hne
  go_enter Tryd.func17, Tryd.ntmps17
  go_wp2_with (first | (go_at_call 42; (with_reducible refine (rnum_at (s.extract 2 6) n _ (by rw [HC.out]; omega) HN.out).mono ?_); rintro e W1 ⟨rfl, hd1⟩; have HB := Lib.hid hd1; clear hd1) | (go_at_call 19; (with_reducible refine (HR.out _).mono ?_); rintro e W2 ⟨rfl, hd1⟩; have HB := Lib.hid (HB.out.trans (hd1.mono HB.out.size)); clear hd1) | fail)
  go_ret3
  exact ⟨rfl, HB.out⟩
end Go.Proofs.YtjlfoiocceepjaaDoor
