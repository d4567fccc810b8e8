/-
  WireBursts, walked.
-/
import Derived.Test.YtjlfoiocceepjaaDoorAwk5
import Derived.Test.YtjlfoiocceepjaaDoorTold
import Derived.Test.YtjlfoiocceepjaaDoorBurstP
namespace Go.Proofs.YtjlfoiocceepjaaDoor
open Go.RowKit Go.Proofs.YtjlfoiocceepjaaDoorW.PrintWords Go.Proofs.YtjlfoiocceepjaaDoorW.PrintLast Go.Proofs.YtjlfoiocceepjaaDoorW.PrintMore
set_option linter.unusedVariables false
set_option linter.unusedSimpArgs false

theorem bit8_num (e : Nat) : ((bit8 e).toNat : Int) = 2 ^ e % 256 := by
  have h : (bit8 e).toNat = 2 ^ e % 256 := by
    show (1#8 <<< e).toNat = _
    rw [BitVec.toNat_shiftLeft, Nat.shiftLeft_eq]
    simp
  rw [h]
  simp
theorem xor_byte (y : UInt8) (e : Nat) : bits BinOp.xor IntKind.u8 (y.toNat : Int) (2 ^ e % 256) = ((y ^^^ bit8 e).toNat : Int) := by
  rw [← bit8_num, u8_xor_nat _ _ y.toNat_lt (bit8 e).toNat_lt, UInt8.toNat_xor]
theorem unpackL_place (q : List UInt8) : (unpackL q).2.1 ≠ 0 → 0 ≤ (unpackL q).2.2 := by
  unfold unpackL
  repeat' split
  all_goals (intro h; first | (exact absurd rfl h) | (simp only []; omega))
theorem bst_turned (l : List UInt8) (k b L : Nat) (hL : k + 32 ≤ L) : ∀ i, i ≤ 32 → (∃ j, j < i ∧ b.testBit j = true) → (bst l k b L i).2 = true
  | 0, _, ⟨j, hj, _⟩ => by omega
  | i + 1, hi, ⟨j, hj, hb⟩ => by
    unfold bst
    by_cases h : b.testBit i = true ∧ k + i < L
    · rw [if_pos h]
    · rw [if_neg h]
      have hji : j ≠ i := fun e => h ⟨by rw [← e]; exact hb, by omega⟩
      exact bst_turned l k b L hL i (by omega) ⟨j, by omega, hb⟩
theorem some_bit (b : Nat) (h0 : b ≠ 0) (h : b < 4294967296) : ∃ j, j < 32 ∧ b.testBit j = true := by
  obtain ⟨j, hj⟩ := Nat.exists_testBit_of_ne_zero h0
  refine ⟨j, ?_, hj⟩
  rcases Nat.lt_or_ge j 32 with h1 | h1
  · exact h1
  · have : b < 2 ^ j := Nat.lt_of_lt_of_le h (Nat.pow_le_pow_right (n := 2) (by omega) h1)
    rw [Nat.testBit_lt_two_pow this] at hj
    cases hj
set_option maxRecDepth 100000 in
set_option maxHeartbeats 8000000 in
theorem wbursts_bad (n : Nat → Int) (A : Option Addr) (c : Nat) (ts ts2 : List Int) (s s2 X : ByteArray) (w : World) (hg : Gl w)
    (HF1 : Hid (∀ V, Below w.heap.size w V → Calls Tryd.prog 28 #[.agg (msgC n (.slice A ts.length c) s)] V fun e w' => ∃ (A' : Option Addr) (c' : Nat), e = .returned (.agg (msgC n (.slice A' ts2.length c') s2)) ∧ KI.R 3 w' V.heap.size All (.slice A' ts2.length c') ts2 ∧ Below V.heap.size V w'))
    (k b p q : Int) (HW : Hid (∀ V A c, KI.C V A ts2.length ts2 → ts2.length ≤ c → c ≤ 9223372036854775807 → Calls Tryd.prog 29 #[.agg (msgC n (.slice A ts2.length c) s2)] V fun e w' => e = .returned (.tuple #[.string ⟨#[]⟩, .iface 69 (.agg #[.int .i64 p, .iface 33 (.int .i64 q)])]) ∧ Below V.heap.size V w'))
    : Calls Tryd.prog 12 #[.agg (msgC n (.slice A ts.length c) s), .int .i64 k, .int .u32 b] w fun e w' => e = .returned (.bool true) ∧ Below w.heap.size w w' := by
  have HB := Lib.hid (Below.refl w.heap.size w)
  have HG := Lib.hid hg
  have hu48 := Tryd.underlying48
  clear hg
  unfold msgC
  go_enter Tryd.func12, Tryd.ntmps12
  go_wp2_with (first
    | ((with_reducible refine gate_dst (N := 3) rfl ?_); refine box_event rfl (N := 3) rfl (cs := msgC n (.slice A ts.length c) s) (t := 48) ?hr ?_; (case hr => first | (go_simp; done) | (go_simp; rfl)); intro g hgg W1 hbox hb; clear hgg; have HX := Lib.hid (show Blk W1 g 48 (msgC n (.slice A ts.length c) s) from hbox); have K8 := Lib.hid (HB.out.trans (hb.mono HB.out.size)); clear HB; have HB := K8; clear K8; have K9 := Lib.hid (HG.out.out hb); clear HG; have HG := K9; clear K9; clear hb hbox)
    | ((with_reducible refine gate_dst (N := 14) rfl ?_); refine wpList_load_part _ rfl (.tmp 3) 48 rfl g 0 (msgC n (.slice A ts.length c) s) rfl aggMsg sizeMsg 48 _ HX.out ?_ ?_; (intro j v hv; rw [Nat.zero_add]; simpa using hv))
    | (go_at_call 28; (with_reducible refine (HF1.out _ HB.out).mono ?_); rintro e w2 ⟨A1, c1, rfl, ho, hb⟩; have HO2 := Lib.hid ho; have K8 := Lib.hid (HB.out.trans (hb.mono HB.out.size)); clear HB; have HB := K8; clear K8; have K9 := Lib.hid (HG.out.out hb); clear HG; have HG := K9; clear K9; clear hb ho)
    | (go_at_call 29; (with_reducible refine (HW.out _ A1 c1 (KI_C HO2.out).2.2 (KI_C HO2.out).2.1 (KI_cap HO2.out)).mono ?_); rintro e w4 ⟨rfl, hb⟩; have K8 := Lib.hid (HB.out.trans (hb.mono HB.out.size)); clear HB; have HB := K8; clear K8; have K9 := Lib.hid (HG.out.out hb); clear HG; have HG := K9; clear K9; clear hb)
    | (go_at_call 30; (with_reducible refine (awake5_any _ HG.out).mono ?_); rintro e w9 ⟨rfl, hb⟩; have K8 := Lib.hid (HB.out.trans (hb.mono HB.out.size)); clear HB; have HB := K8; clear K8; have K9 := Lib.hid (HG.out.out hb); clear HG; have HG := K9; clear K9; clear hb)
    | fail)
  go_ret
  exact ⟨rfl, HB.out⟩
set_option maxRecDepth 100000 in
set_option maxHeartbeats 8000000 in
theorem wbursts_out (n : Nat → Int) (A : Option Addr) (c : Nat) (ts ts2 : List Int) (s s2 X : ByteArray) (w : World) (hg : Gl w)
    (HF1 : Hid (∀ V, Below w.heap.size w V → Calls Tryd.prog 28 #[.agg (msgC n (.slice A ts.length c) s)] V fun e w' => ∃ (A' : Option Addr) (c' : Nat), e = .returned (.agg (msgC n (.slice A' ts2.length c') s2)) ∧ KI.R 3 w' V.heap.size All (.slice A' ts2.length c') ts2 ∧ Below V.heap.size V w'))
    (k b : Int) (L : Nat) (hL : 8 * (X.size : Int) = (L : Int)) (hXs : X.size ≤ 60000) (hb : b = 0 ∨ (b ≠ 0 ∧ k < 0) ∨ (b ≠ 0 ∧ ¬ k < 0 ∧ (L : Int) - 31 ≤ k)) (HW : Hid (∀ V A c, KI.C V A ts2.length ts2 → ts2.length ≤ c → c ≤ 9223372036854775807 → Calls Tryd.prog 29 #[.agg (msgC n (.slice A ts2.length c) s2)] V fun e w' => e = .returned (.tuple #[.string X, .nilIface]) ∧ Below V.heap.size V w'))
    : Calls Tryd.prog 12 #[.agg (msgC n (.slice A ts.length c) s), .int .i64 k, .int .u32 b] w fun e w' => e = .returned (.bool true) ∧ Below w.heap.size w w' := by
  have HB := Lib.hid (Below.refl w.heap.size w)
  have HG := Lib.hid hg
  have hu48 := Tryd.underlying48
  clear hg
  unfold msgC
  rcases hb with rfl | ⟨h0, h1⟩ | ⟨h0, h1, h2⟩
  · go_enter Tryd.func12, Tryd.ntmps12
    go_wp2_with (first
    | ((with_reducible refine gate_dst (N := 3) rfl ?_); refine box_event rfl (N := 3) rfl (cs := msgC n (.slice A ts.length c) s) (t := 48) ?hr ?_; (case hr => first | (go_simp; done) | (go_simp; rfl)); intro g hgg W1 hbox hb; clear hgg; have HX := Lib.hid (show Blk W1 g 48 (msgC n (.slice A ts.length c) s) from hbox); have K8 := Lib.hid (HB.out.trans (hb.mono HB.out.size)); clear HB; have HB := K8; clear K8; have K9 := Lib.hid (HG.out.out hb); clear HG; have HG := K9; clear K9; clear hb hbox)
    | ((with_reducible refine gate_dst (N := 14) rfl ?_); refine wpList_load_part _ rfl (.tmp 3) 48 rfl g 0 (msgC n (.slice A ts.length c) s) rfl aggMsg sizeMsg 48 _ HX.out ?_ ?_; (intro j v hv; rw [Nat.zero_add]; simpa using hv))
    | (go_at_call 28; (with_reducible refine (HF1.out _ HB.out).mono ?_); rintro e w2 ⟨A1, c1, rfl, ho, hb⟩; have HO2 := Lib.hid ho; have K8 := Lib.hid (HB.out.trans (hb.mono HB.out.size)); clear HB; have HB := K8; clear K8; have K9 := Lib.hid (HG.out.out hb); clear HG; have HG := K9; clear K9; clear hb ho)
    | (go_at_call 29; (with_reducible refine (HW.out _ A1 c1 (KI_C HO2.out).2.2 (KI_C HO2.out).2.1 (KI_cap HO2.out)).mono ?_); rintro e w4 ⟨rfl, hb⟩; have K8 := Lib.hid (HB.out.trans (hb.mono HB.out.size)); clear HB; have HB := K8; clear K8; have K9 := Lib.hid (HG.out.out hb); clear HG; have HG := K9; clear K9; clear hb)
    | (go_at_call 30; (with_reducible refine (awake5_any _ HG.out).mono ?_); rintro e w9 ⟨rfl, hb⟩; have K8 := Lib.hid (HB.out.trans (hb.mono HB.out.size)); clear HB; have HB := K8; clear K8; have K9 := Lib.hid (HG.out.out hb); clear HG; have HG := K9; clear K9; clear hb)
      | fail)
    go_ret
    exact ⟨rfl, HB.out⟩
  · have b1 : (b == 0) = false := beq_eq_false_iff_ne.2 h0
    clear h0
    go_enter Tryd.func12, Tryd.ntmps12
    go_wp2_with (first
    | ((with_reducible refine gate_dst (N := 3) rfl ?_); refine box_event rfl (N := 3) rfl (cs := msgC n (.slice A ts.length c) s) (t := 48) ?hr ?_; (case hr => first | (go_simp; done) | (go_simp; rfl)); intro g hgg W1 hbox hb; clear hgg; have HX := Lib.hid (show Blk W1 g 48 (msgC n (.slice A ts.length c) s) from hbox); have K8 := Lib.hid (HB.out.trans (hb.mono HB.out.size)); clear HB; have HB := K8; clear K8; have K9 := Lib.hid (HG.out.out hb); clear HG; have HG := K9; clear K9; clear hb hbox)
    | ((with_reducible refine gate_dst (N := 14) rfl ?_); refine wpList_load_part _ rfl (.tmp 3) 48 rfl g 0 (msgC n (.slice A ts.length c) s) rfl aggMsg sizeMsg 48 _ HX.out ?_ ?_; (intro j v hv; rw [Nat.zero_add]; simpa using hv))
    | (go_at_call 28; (with_reducible refine (HF1.out _ HB.out).mono ?_); rintro e w2 ⟨A1, c1, rfl, ho, hb⟩; have HO2 := Lib.hid ho; have K8 := Lib.hid (HB.out.trans (hb.mono HB.out.size)); clear HB; have HB := K8; clear K8; have K9 := Lib.hid (HG.out.out hb); clear HG; have HG := K9; clear K9; clear hb ho)
    | (go_at_call 29; (with_reducible refine (HW.out _ A1 c1 (KI_C HO2.out).2.2 (KI_C HO2.out).2.1 (KI_cap HO2.out)).mono ?_); rintro e w4 ⟨rfl, hb⟩; have K8 := Lib.hid (HB.out.trans (hb.mono HB.out.size)); clear HB; have HB := K8; clear K8; have K9 := Lib.hid (HG.out.out hb); clear HG; have HG := K9; clear K9; clear hb)
    | (go_at_call 30; (with_reducible refine (awake5_any _ HG.out).mono ?_); rintro e w9 ⟨rfl, hb⟩; have K8 := Lib.hid (HB.out.trans (hb.mono HB.out.size)); clear HB; have HB := K8; clear K8; have K9 := Lib.hid (HG.out.out hb); clear HG; have HG := K9; clear K9; clear hb)
      | fail)
    go_ret
    exact ⟨rfl, HB.out⟩
  · have b1 : (b == 0) = false := beq_eq_false_iff_ne.2 h0
    have h3 : (L : Int) ≤ k + 31 := by omega
    clear h0
    go_enter Tryd.func12, Tryd.ntmps12
    go_wp2_with (first
    | ((with_reducible refine gate_dst (N := 3) rfl ?_); refine box_event rfl (N := 3) rfl (cs := msgC n (.slice A ts.length c) s) (t := 48) ?hr ?_; (case hr => first | (go_simp; done) | (go_simp; rfl)); intro g hgg W1 hbox hb; clear hgg; have HX := Lib.hid (show Blk W1 g 48 (msgC n (.slice A ts.length c) s) from hbox); have K8 := Lib.hid (HB.out.trans (hb.mono HB.out.size)); clear HB; have HB := K8; clear K8; have K9 := Lib.hid (HG.out.out hb); clear HG; have HG := K9; clear K9; clear hb hbox)
    | ((with_reducible refine gate_dst (N := 14) rfl ?_); refine wpList_load_part _ rfl (.tmp 3) 48 rfl g 0 (msgC n (.slice A ts.length c) s) rfl aggMsg sizeMsg 48 _ HX.out ?_ ?_; (intro j v hv; rw [Nat.zero_add]; simpa using hv))
    | (go_at_call 28; (with_reducible refine (HF1.out _ HB.out).mono ?_); rintro e w2 ⟨A1, c1, rfl, ho, hb⟩; have HO2 := Lib.hid ho; have K8 := Lib.hid (HB.out.trans (hb.mono HB.out.size)); clear HB; have HB := K8; clear K8; have K9 := Lib.hid (HG.out.out hb); clear HG; have HG := K9; clear K9; clear hb ho)
    | (go_at_call 29; (with_reducible refine (HW.out _ A1 c1 (KI_C HO2.out).2.2 (KI_C HO2.out).2.1 (KI_cap HO2.out)).mono ?_); rintro e w4 ⟨rfl, hb⟩; have K8 := Lib.hid (HB.out.trans (hb.mono HB.out.size)); clear HB; have HB := K8; clear K8; have K9 := Lib.hid (HG.out.out hb); clear HG; have HG := K9; clear K9; clear hb)
    | (go_at_call 30; (with_reducible refine (awake5_any _ HG.out).mono ?_); rintro e w9 ⟨rfl, hb⟩; have K8 := Lib.hid (HB.out.trans (hb.mono HB.out.size)); clear HB; have HB := K8; clear K8; have K9 := Lib.hid (HG.out.out hb); clear HG; have HG := K9; clear K9; clear hb)
      | fail)
    go_ret
    exact ⟨rfl, HB.out⟩
set_option maxRecDepth 100000 in
set_option maxHeartbeats 8000000 in
theorem wbursts_in (n : Nat → Int) (A : Option Addr) (c : Nat) (ts ts2 : List Int) (s s2 X : ByteArray) (w : World) (hg : Gl w)
    (HF1 : Hid (∀ V, Below w.heap.size w V → Calls Tryd.prog 28 #[.agg (msgC n (.slice A ts.length c) s)] V fun e w' => ∃ (A' : Option Addr) (c' : Nat), e = .returned (.agg (msgC n (.slice A' ts2.length c') s2)) ∧ KI.R 3 w' V.heap.size All (.slice A' ts2.length c') ts2 ∧ Below V.heap.size V w'))
    (k b L : Nat) (l : List UInt8) (why place : Int) (hL : L = 8 * X.size) (hXs : X.size ≤ 60000) (hl : X.data.toList = l) (hk : (k : Int) < (L : Int) - 31) (hb0 : b ≠ 0) (hb : b < 4294967296) (hpl : 0 ≤ place)
    (HRd : Hid (∀ V, Calls Tryd.prog 33 #[.string (str (bst l k b L 32).1)] V fun e w' => e = .returned (.tuple #[.agg zeroC, .iface 69 (.agg #[.int .i64 0, .iface 41 (.agg #[.int .i64 place, .int .i64 why])])]) ∧ Below V.heap.size V w'))
    (HW : Hid (∀ V A c, KI.C V A ts2.length ts2 → ts2.length ≤ c → c ≤ 9223372036854775807 → Calls Tryd.prog 29 #[.agg (msgC n (.slice A ts2.length c) s2)] V fun e w' => e = .returned (.tuple #[.string X, .nilIface]) ∧ Below V.heap.size V w'))
    : Calls Tryd.prog 12 #[.agg (msgC n (.slice A ts.length c) s), .int .i64 (k : Int), .int .u32 (b : Int)] w fun e w' => e = .returned (.bool true) ∧ Below w.heap.size w w' := by
  have hL8 : 8 * (X.size : Int) = (L : Int) := by omega
  have hlen : l.length = X.size := by rw [← hl]; simp
  have HLen := Lib.hid hlen
  have HL := Lib.hid hL
  have hkk : ¬ ((k : Int) < 0) := by omega
  have hk2 : ¬ ((L : Int) - 31 ≤ (k : Int)) := by omega
  have hk3 : ¬ ((L : Int) ≤ (k : Int) + 31) := by omega
  have hLl : L ≤ 480000 := by omega
  have hkL : k + 32 ≤ L := by omega
  have b1 : ((b : Int) == 0) = false := beq_eq_false_iff_ne.2 (by omega)
  obtain ⟨mk, hmk⟩ : ∃ mk : World → World, mk = fun W => W.drew.alloc (.cells (bytesRow X (grownCap W X.size 0 5)) 5 ((bytesRow X (grownCap W X.size 0 5)).size, (bytesRow X (grownCap W X.size 0 5)).size + 1)) := ⟨_, rfl⟩
  obtain ⟨cp, hcp⟩ : ∃ cp : World → Nat, cp = fun W => grownCap W X.size 0 5 := ⟨_, rfl⟩
  have hcv : ∀ W, (convert 9 37 (.string X)).run Tryd.prog W = .ok (.slice (some ⟨W.heap.size, 0, none⟩) X.size (cp W)) (mk W) := fun W => by
    rw [hmk, hcp]; exact run_bytes_of_string W 9 37 5 X Tryd.underlying9 Tryd.underlying37 Tryd.underlying5
  have HZ : Hid (∀ W, Zrow (mk W) W.heap.size l ∧ Below W.heap.size W (mk W)) := Lib.hid (fun W => by
    rw [hmk, ← hl]
    exact ⟨Zrow.made W X _, (Below.refl W.heap.size W).drew.alloc (Nat.le_refl _) _⟩)
  have HB := Lib.hid (Below.refl w.heap.size w)
  have HG := Lib.hid hg
  have hu48 := Tryd.underlying48
  clear hg hL hmk hcp hl hb0
  unfold msgC
  go_enter Tryd.func12, Tryd.ntmps12
  go_wp2_with (first
    | ((with_reducible refine gate_dst (N := 3) rfl ?_); refine box_event rfl (N := 3) rfl (cs := msgC n (.slice A ts.length c) s) (t := 48) ?hr ?_; (case hr => first | (go_simp; done) | (go_simp; rfl)); intro g hgg W1 hbox hb; clear hgg; have HX := Lib.hid (show Blk W1 g 48 (msgC n (.slice A ts.length c) s) from hbox); have K8 := Lib.hid (HB.out.trans (hb.mono HB.out.size)); clear HB; have HB := K8; clear K8; have K9 := Lib.hid (HG.out.out hb); clear HG; have HG := K9; clear K9; clear hb hbox)
    | ((with_reducible refine gate_dst (N := 14) rfl ?_); refine wpList_load_part _ rfl (.tmp 3) 48 rfl g 0 (msgC n (.slice A ts.length c) s) rfl aggMsg sizeMsg 48 _ HX.out ?_ ?_; (intro j v hv; rw [Nat.zero_add]; simpa using hv))
    | (go_at_call 28; (with_reducible refine (HF1.out _ HB.out).mono ?_); rintro e w2 ⟨A1, c1, rfl, ho, hb⟩; have HO2 := Lib.hid ho; have K8 := Lib.hid (HB.out.trans (hb.mono HB.out.size)); clear HB; have HB := K8; clear K8; have K9 := Lib.hid (HG.out.out hb); clear HG; have HG := K9; clear K9; clear hb ho)
    | (go_at_call 29; (with_reducible refine (HW.out _ A1 c1 (KI_C HO2.out).2.2 (KI_C HO2.out).2.1 (KI_cap HO2.out)).mono ?_); rintro e w4 ⟨rfl, hb⟩; have K8 := Lib.hid (HB.out.trans (hb.mono HB.out.size)); clear HB; have HB := K8; clear K8; have K9 := Lib.hid (HG.out.out hb); clear HG; have HG := K9; clear K9; clear hb)
    | (go_at_call 30; (with_reducible refine (awake5_any _ HG.out).mono ?_); rintro e w9 ⟨rfl, hb⟩; have K8 := Lib.hid (HB.out.trans (hb.mono HB.out.size)); clear HB; have HB := K8; clear K8; have K9 := Lib.hid (HG.out.out hb); clear HG; have HG := K9; clear K9; clear hb)
    | fail)
  have HW5 : Hid (Zrow (mk w4) w4.heap.size l ∧ w.heap.size ≤ w4.heap.size ∧ Below w.heap.size w (mk w4) ∧ Gl (mk w4) ∧ 0 < w4.heap.size) :=
    Lib.hid ⟨(HZ.out w4).1, HB.out.size, HB.out.trans ((HZ.out w4).2.mono HB.out.size), HG.out.out (HZ.out w4).2, HG.out.pos⟩
  clear HZ hcv HB HG HX HO2 HF1 HW
  generalize mk w4 = w5 at *
  generalize cp w4 = q at *
  generalize w4.heap.size = gz at *
  go_loopw [10] (fun iv wr => ∃ i : Nat, i ≤ 32 ∧ iv = .int .i64 (i : Int) ∧ Hid (Zrow wr gz (bst l k b L i).1 ∧ w.heap.size ≤ gz ∧ Below w.heap.size w wr ∧ Gl wr ∧ 0 < gz)) (fun iv _ => 32 - (intOf iv).toNat)
  case atStart => exact ⟨0, by omega, rfl, HW5⟩
  case round =>
    clear HW5
    obtain ⟨i, hi, rfl, H⟩ := hrel
    by_cases hlt : i < 32
    · have hsh := odd_int2 (b : Int) b i rfl
      obtain ⟨m, hm0⟩ : ∃ m, m = k + i := ⟨_, rfl⟩
      have hm : (k : Int) + (i : Int) = (m : Int) := by omega
      have hmk : k + i = m := hm0.symm
      have hmL : m < L := by omega
      have HS : Hid (bst l k b L (i + 1) = if b.testBit i = true ∧ m < L then (fl (bst l k b L i).1 m, true) else bst l k b L i) := Lib.hid (by rw [hm0]; rfl)
      have HBL := Lib.hid (bst_length l k b L i)
      have HM := Lib.hid hm0
      clear hm0
      cases hbit : b.testBit i with
      | true =>
        rw [hbit] at hsh HS
        have hmI : (m : Int) < (L : Int) := by omega
        obtain ⟨a, ha0⟩ : ∃ a, a = m / 8 := ⟨_, rfl⟩
        obtain ⟨e, he0⟩ : ∃ e, e = m % 8 := ⟨_, rfl⟩
        have ha : (m : Int) / 8 = (a : Int) := by omega
        have he : (m : Int) % 8 = (e : Int) := by omega
        have he8 : e < 8 := by omega
        have hax : (a : Int) < (X.size : Int) := by have := HL.out; omega
        have hal : a < (bst l k b L i).1.length := by rw [HBL.out, HLen.out]; omega
        have hcell := H.out.1.cell a hal
        have hfr := H.out.1.free a hal
        obtain ⟨y, hy⟩ : ∃ y, y = (bst l k b L i).1.getD a 0 := ⟨_, rfl⟩
        rw [← hy] at hcell
        have HY := Lib.hid hy
        have HA := Lib.hid (And.intro ha0 he0)
        clear hy ha0 he0 hal
        go_wp2_with fail
        go_region
        go_wp2_with fail
        have HF : Hid (fl (bst l k b L i).1 m = (bst l k b L i).1.set a (y ^^^ bit8 e)) := Lib.hid (by unfold fl; rw [← HA.out.1, ← HA.out.2, ← HY.out])
        go_roundw
        case rel =>
          refine ⟨i + 1, by omega, by go_num, Lib.hid ?_⟩
          rw [HS.out, if_pos ⟨trivial, hmL⟩, HF.out, xor_byte]
          have hal : a < (bst l k b L i).1.length := by rw [HBL.out, HLen.out]; omega
          exact ⟨H.out.1.put a hal _, H.out.2.1, (H.out.2.2.1.setCell H.out.2.1 _).drew, H.out.2.2.2.1.below ((Below.refl gz wr).setCell (Nat.le_refl _) _).drew H.out.2.2.2.2, H.out.2.2.2.2⟩
        case measure => simp [intOf]; omega
      | false =>
        rw [hbit] at hsh HS
        go_wp2_with fail
        go_roundw
        case rel =>
          refine ⟨i + 1, by omega, by go_num, Lib.hid ?_⟩
          rw [HS.out, if_neg (fun h => by cases h.1)]
          exact H.out
        case measure => simp [intOf]; omega
    · obtain rfl : i = 32 := by omega
      have HT := H.out.1.text q X.size (by rw [bst_length, HLen.out])
      have HG := Lib.hid H.out.2.2.2.1
      have HB := Lib.hid H.out.2.2.1
      clear H
      generalize str (bst l k b L 32).1 = Q at *
      go_wp2_with (first
        | (go_at_call 33; (with_reducible refine (HRd.out _).mono ?_); rintro e w6 ⟨rfl, hb⟩; have K8 := Lib.hid (HB.out.trans (hb.mono HB.out.size)); clear HB; have HB := K8; clear K8; have K9 := Lib.hid (HG.out.out hb); clear HG; have HG := K9; clear K9; clear hb)
        | ((with_reducible refine gate_dst (N := 11) rfl ?_); refine box_event rfl (N := 11) rfl (cs := zeroC) (t := 48) ?hr ?_; (case hr => first | (go_simp; done) | (go_simp; rfl)); intro h hhh Wa hbox hb; have HLh := Lib.hid (show w.heap.size ≤ h by rw [hhh]; exact HB.out.size); have HPh := Lib.hid (show 0 < h by rw [hhh]; exact HG.out.pos); clear hhh; have HXh := Lib.hid (show Blk Wa h 48 zeroC from hbox); have K8 := Lib.hid (HB.out.trans (hb.mono HB.out.size)); clear HB; have HB := K8; clear K8; have K9 := Lib.hid (HG.out.out hb); clear HG; have HG := K9; clear K9; clear hb hbox)
        | (refine wpList_store_part _ rfl (.tmp 11) (.tmp 75) 48 rfl h 0 zeroC rfl rfl sizeMsg rfl 48 _ HXh.out (Nat.le_refl _) zeroC rfl ?_; intro Wb hb3 hfr; have K8 := Lib.hid (HB.out.trans (hfr.below HLh.out)); have K9 := Lib.hid (HG.out.below (hfr.below (Nat.le_refl _)) HPh.out); clear HB HG; have HB := K8; have HG := K9; have HXb := Lib.hid hb3; clear K8 K9 hb3 hfr)
        | (go_at_call 30; (with_reducible refine (awake5_any _ HG.out).mono ?_); rintro e w9 ⟨rfl, hb⟩; have HX9 := Lib.hid (HXb.out.out hb); have K8 := Lib.hid (HB.out.trans (hb.mono HB.out.size)); clear HB; have HB := K8; clear K8; have K9 := Lib.hid (HG.out.out hb); clear HG; have HG := K9; clear K9; clear hb)
        | (go_at_call 36; (with_reducible refine (part_bf 0 place why _ HG.out).mono ?_); rintro e w10 ⟨rfl, hb⟩; have HX10 := Lib.hid (HX9.out.out hb); have K8 := Lib.hid (HB.out.trans (hb.mono HB.out.size)); clear HB; have HB := K8; clear K8; have K9 := Lib.hid (HG.out.out hb); clear HG; have HG := K9; clear K9; clear hb)
        | (go_at_call 23; (with_reducible refine (place_bf 0 place why _ HG.out).mono ?_); rintro e w11 ⟨rfl, hb⟩; have hx11 := HX10.out.out hb; have z0 : w11.cell? ⟨h, 0, none⟩ = some (.int .i64 0) := hx11.cell 0; have z10 : w11.cell? ⟨h, 10, none⟩ = some (.slice none 0 0) := hx11.cell 10; have z11 : w11.cell? ⟨h, 11, none⟩ = some (.string ⟨#[]⟩) := hx11.cell 11; have K8 := Lib.hid (HB.out.trans (hb.mono HB.out.size)); clear HB; have HB := K8; clear K8; have K9 := Lib.hid (HG.out.out hb); clear HG; have HG := K9; clear K9; clear hb hx11)
        | fail)
      go_ret
      exact ⟨rfl, HB.out⟩
theorem wbursts_any (n : Nat → Int) (A : Option Addr) (c : Nat) (ts : List Int) (s : ByteArray) (k b : Int) (w : World) (hr : KI.C w A ts.length ts) (hc : ts.length ≤ c) (hcm : c ≤ 9223372036854775807) (hg : Gl w) (hb0 : 0 ≤ b ∧ b < 4294967296) :
    Calls Tryd.prog 12 #[.agg (msgC n (.slice A ts.length c) s), .int .i64 k, .int .u32 b] w fun e w' => e = .returned (.bool true) ∧ Below w.heap.size w w' := by
  obtain ⟨ts2, hts⟩ : ∃ ts2, ts2 = ts.take 140 := ⟨_, rfl⟩
  obtain ⟨s2, hs⟩ : ∃ s2, s2 = str (s.data.toList.take 1000) := ⟨_, rfl⟩
  have HF1 : Hid (∀ V, Below w.heap.size w V → Calls Tryd.prog 28 #[.agg (msgC n (.slice A ts.length c) s)] V fun e w' => ∃ (A' : Option Addr) (c' : Nat), e = .returned (.agg (msgC n (.slice A' ts2.length c') s2)) ∧ KI.R 3 w' V.heap.size All (.slice A' ts2.length c') ts2 ∧ Below V.heap.size V w') := Lib.hid (fun V hV => by rw [hts, hs]; exact few15_any n A c ts s V (Kd.C_below hr hV) hc hcm)
  have hs2 : s2.size ≤ 1000 := by rw [hs, str_size, List.length_take]; omega
  obtain ⟨r, hr2⟩ : ∃ r, r = chk n ts2 s2.size := ⟨_, rfl⟩
  obtain ⟨b, rfl⟩ := Int.eq_ofNat_of_zero_le hb0.1
  by_cases hq : r.2 = 0
  · obtain ⟨hgd, h0⟩ := good_of_chk (n := n) (ts := ts2) (sz := s2.size) (by rw [← hr2]; exact hq)
    have hz : s2.data.toList.length = s2.size := by rw [Array.length_toList]; rfl
    have hml := msgL_length (s := s2.data.toList) (by rw [hz]; exact hgd)
    obtain ⟨l, hl⟩ : ∃ l, l = packL (msgL n ts2 s2.data.toList) := ⟨_, rfl⟩
    have hll : l.length ≤ 50310 := by rw [hl, packL_length]; omega
    have HW := Lib.hid (fun V A c h1 h2 h3 => write_ok n A c ts2 s2 V h1 h2 h3 hgd)
    rw [← hl] at HW
    have hX : (str l).size = l.length := str_size l
    by_cases hout : (b : Int) = 0 ∨ ((b : Int) ≠ 0 ∧ k < 0) ∨ ((b : Int) ≠ 0 ∧ ¬ k < 0 ∧ ((8 * l.length : Nat) : Int) - 31 ≤ k)
    · exact wbursts_out n A c ts ts2 s s2 (str l) w hg HF1 k (b : Int) (8 * l.length) (by rw [hX]; omega) (by omega) hout HW
    · have hbn : b ≠ 0 := fun e => hout (.inl (by omega))
      have hk0 : ¬ k < 0 := fun e => hout (.inr (.inl ⟨by omega, e⟩))
      have hk1 : ¬ (((8 * l.length : Nat) : Int) - 31 ≤ k) := fun e => hout (.inr (.inr ⟨by omega, hk0, e⟩))
      obtain ⟨k, rfl⟩ := Int.eq_ofNat_of_zero_le (show 0 ≤ k by omega)
      obtain ⟨L, hL⟩ : ∃ L, L = 8 * l.length := ⟨_, rfl⟩
      rw [← hL] at hk1
      obtain ⟨f1, f2, f3⟩ := bst_facts l k b L hL 32
      have hlen := bst_length l k b L 32
      have ht := bst_turned l k b L (by omega) 32 (Nat.le_refl _) (some_bit b hbn (by omega))
      obtain ⟨j, hj⟩ := f3 ht
      have hw : (unpackL (bst l k b L 32).1).2.1 ≠ 0 := fun h => hj (by
        rw [hl]
        rw [hl] at f1 h hlen
        exact burst_told _ _ k hlen f1 h j)
      have hp := unpackL_place _ hw
      refine wbursts_in n A c ts ts2 s s2 (str l) w hg HF1 k b L l _ _ (by rw [hX]; exact hL) (by omega) (str_list l) (by omega) hbn (by omega) hp (Lib.hid (fun V => read_err _ _ _ hw (by omega) ?_ V)) HW
      have := unpackL_text _ hw
      rw [← this]
  · obtain ⟨p, q⟩ := r
    exact wbursts_bad n A c ts ts2 s s2 ⟨#[]⟩ w hg HF1 k b p q (Lib.hid (fun V A c h1 h2 h3 => write_bad n A c ts2 s2 V h1 h2 h3 (by omega) p q hq hr2.symm))
end Go.Proofs.YtjlfoiocceepjaaDoor
