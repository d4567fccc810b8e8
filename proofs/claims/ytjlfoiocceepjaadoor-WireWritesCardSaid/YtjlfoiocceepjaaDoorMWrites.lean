/-
  WireWrites, walked.
-/
import Derived.Test.YtjlfoiocceepjaaDoorAwk5
import Derived.Test.YtjlfoiocceepjaaDoorRChk
import Derived.Test.YtjlfoiocceepjaaDoorRTxt
namespace Go.Proofs.YtjlfoiocceepjaaDoor
open Go.RowKit Go.Proofs.YtjlfoiocceepjaaDoorW.PrintWords Go.Proofs.YtjlfoiocceepjaaDoorW.PrintLast Go.Proofs.YtjlfoiocceepjaaDoorW.PrintMore
set_option linter.unusedVariables false
set_option linter.unusedSimpArgs false

/-- the message, cut -/
structure Wr (w W : World) (B0 g : Nat) (n : Nat → Int) (A1 : Option Addr) (L c1 : Nat) (ts : List Int) (s : ByteArray) : Prop where
  x : Blk W g 48 (msgC n (.slice A1 L c1) s)
  rx : KI.R 3 W B0 All (.slice A1 L c1) ts
  gl : Gl W
  below : Below w.heap.size w W
theorem Wr.out {w W W' : World} {B0 g : Nat} {n : Nat → Int} {A1 : Option Addr} {L c1 : Nat} {ts : List Int} {s : ByteArray} (x : Wr w W B0 g n A1 L c1 ts s) (hb : Below W.heap.size W W') : Wr w W' B0 g n A1 L c1 ts s :=
  ⟨x.x.out hb, KI_out x.rx hb, x.gl.out hb, x.below.trans (hb.mono x.below.size)⟩
/-- the message that was read -/
structure Rx (W : World) (B0 h : Nat) (n : Nat → Int) (A5 : Option Addr) (L c5 : Nat) (ts : List Int) (s : ByteArray) : Prop where
  x : Blk W h 48 (msgC n (.slice A5 L c5) s)
  rx : KI.R 3 W B0 All (.slice A5 L c5) ts
theorem Rx.out {W W' : World} {B0 h : Nat} {n : Nat → Int} {A5 : Option Addr} {L c5 : Nat} {ts : List Int} {s : ByteArray} (x : Rx W B0 h n A5 L c5 ts s) (hb : Below W.heap.size W W') : Rx W' B0 h n A5 L c5 ts s :=
  ⟨x.x.out hb, KI_out x.rx hb⟩
theorem KI_new {w w1 w2 : World} {B h : Nat} {v : Value} {xs : List Int} (hR : KI.R 3 w B All v xs) (hb : Below w.heap.size w w1) (f : Far h w1 w2) (hh : w.heap.size ≤ h) : KI.R 3 w2 B All v xs :=
  Kd.R_mono (Kd.R_step (Kd.R_bound hR) (fun k hk _ => (f.block k (by have := hk.2.2; omega)).trans (hb.block k (by have := hk.2.2; omega)))) (fun _ _ => trivial)
set_option maxRecDepth 100000 in
set_option maxHeartbeats 8000000 in
theorem writes_bad (n : Nat → Int) (A : Option Addr) (c : Nat) (ts ts2 : List Int) (s s2 X : ByteArray) (w : World) (hg : Gl w)
    (HF1 : Hid (∀ V, Below w.heap.size w V → Calls Tryd.prog 28 #[.agg (msgC n (.slice A ts.length c) s)] V fun e w' => ∃ (A' : Option Addr) (c' : Nat), e = .returned (.agg (msgC n (.slice A' ts2.length c') s2)) ∧ KI.R 3 w' V.heap.size All (.slice A' ts2.length c') ts2 ∧ Below V.heap.size V w'))
    (HF2 : Hid (∀ V A c, KI.C V A ts2.length ts2 → ts2.length ≤ c → c ≤ 9223372036854775807 → Calls Tryd.prog 28 #[.agg (msgC n (.slice A ts2.length c) s2)] V fun e w' => ∃ (A' : Option Addr) (c' : Nat), e = .returned (.agg (msgC n (.slice A' ts2.length c') s2)) ∧ KI.R 3 w' V.heap.size All (.slice A' ts2.length c') ts2 ∧ Below V.heap.size V w'))
    (HT : Hid (∀ V A c, KI.C V A ts2.length ts2 → ts2.length ≤ c → c ≤ 9223372036854775807 → Calls Tryd.prog 32 #[.agg (msgC n (.slice A ts2.length c) s2)] V fun e w' => ∃ (A' : Option Addr) (c' : Nat), e = .returned (.agg (msgC n (.slice A' ts2.length c') s2)) ∧ KI.R 3 w' V.heap.size All (.slice A' ts2.length c') ts2 ∧ Below V.heap.size V w'))
    (p q : Int) (hq : q ≠ 0)
    (HW : Hid (∀ V A c, KI.C V A ts2.length ts2 → ts2.length ≤ c → c ≤ 9223372036854775807 → Calls Tryd.prog 29 #[.agg (msgC n (.slice A ts2.length c) s2)] V fun e w' => e = .returned (.tuple #[.string ⟨#[]⟩, .iface 69 (.agg #[.int .i64 p, .iface 33 (.int .i64 q)])]) ∧ Below V.heap.size V w'))
     (HCk : Hid (∀ V A c, KI.C V A ts2.length ts2 → ts2.length ≤ c → c ≤ 9223372036854775807 → Calls Tryd.prog 34 #[.agg (msgC n (.slice A ts2.length c) s2)] V fun e w' => e = .returned (.iface 69 (.agg #[.int .i64 p, .iface 33 (.int .i64 q)])) ∧ Below V.heap.size V w'))
     (HRc : Hid (∀ V A c, KI.C V A ts2.length ts2 → ts2.length ≤ c → c ≤ 9223372036854775807 → Calls Tryd.prog 35 #[.agg (msgC n (.slice A ts2.length c) s2)] V fun e w' => e = .returned (.tuple #[.int .i64 q, .int .i64 p]) ∧ Below V.heap.size V w'))
    : Calls Tryd.prog 11 #[.agg (msgC n (.slice A ts.length c) s)] w fun e w' => e = .returned (.bool true) ∧ Below w.heap.size w w' := by
  have q1 : (q == 0) = false := beq_eq_false_iff_ne.2 hq
  have q2 : (q != 0) = true := by rw [bne, q1]; rfl
  have HBe := Lib.hid (Below.refl w.heap.size w)
  have HG := Lib.hid hg
  have HPos := Lib.hid hg.pos
  have hu48 := Tryd.underlying48
  clear hq hg
  unfold msgC
  go_enter Tryd.func11, Tryd.ntmps11
  go_wp2_with (first
    | ((with_reducible refine gate_dst (N := 1) rfl ?_); refine box_event rfl (N := 1) rfl (cs := msgC n (.slice A ts.length c) s) (t := 48) ?hr ?_; (case hr => first | (go_simp; done) | (go_simp; rfl)); intro g hgg W1 hbox hb; have HLo := Lib.hid (Nat.le_of_eq hgg.symm); clear hgg; have HX := Lib.hid (show Blk W1 g 48 (msgC n (.slice A ts.length c) s) from hbox); have HB := Lib.hid (HBe.out.trans (hb.mono HBe.out.size)); have HG1 := Lib.hid (HG.out.out hb); clear hb hbox)
    | ((with_reducible refine gate_dst (N := 10) rfl ?_); refine wpList_load_part _ rfl (.tmp 1) 48 rfl g 0 (msgC n (.slice A ts.length c) s) rfl aggMsg sizeMsg 48 _ HX.out ?_ ?_; (intro j v hv; rw [Nat.zero_add]; simpa using hv))
    | (go_at_call 28; (with_reducible refine (HF1.out _ HB.out).mono ?_); rintro e w2 ⟨A1, c1, rfl, ho, hb⟩; have HX2 := Lib.hid (HX.out.out hb); have HO2 := Lib.hid ho; have HB2 := Lib.hid (HB.out.trans (hb.mono HB.out.size)); have HG2 := Lib.hid (HG1.out.out hb); clear hb ho)
    | (refine wpList_store_part _ rfl (.tmp 1) (.tmp 11) 48 rfl g 0 (msgC n (.slice A1 ts2.length c1) s2) rfl rfl sizeMsg rfl 48 _ HX2.out (Nat.le_refl _) (msgC n (.slice A1 ts2.length c1) s2) rfl ?_; intro w3 hb3 hfr; have HE : Hid (Wr w w3 W1.heap.size g n A1 ts2.length c1 ts2 s2) := Lib.hid ⟨hb3, KI_far_all HO2.out hfr HX.out.lt, HG2.out.below (hfr.below (Nat.le_refl _)) (Nat.lt_of_lt_of_le HPos.out HLo.out), HB2.out.trans (hfr.below HLo.out)⟩; clear hb3 hfr)
    | ((with_reducible refine gate_dst (N := 13) rfl ?_); refine wpList_load_part _ rfl (.tmp 1) 48 rfl g 0 (msgC n (.slice A1 ts2.length c1) s2) rfl aggMsg sizeMsg 48 _ HE.out.x ?_ ?_; (intro j v hv; rw [Nat.zero_add]; simpa using hv))
    | (go_at_call 29; (with_reducible refine (HW.out _ A1 c1 (KI_C HE.out.rx).2.2 (KI_C HE.out.rx).2.1 (KI_cap HE.out.rx)).mono ?_); rintro e w4 ⟨rfl, hb⟩; have K8 := Lib.hid (HE.out.out hb); clear HE; have HE := K8; clear K8; clear hb)
    | ((with_reducible refine gate_dst (N := 17) rfl ?_); refine wpList_load_part _ rfl (.tmp 1) 48 rfl g 0 (msgC n (.slice A1 ts2.length c1) s2) rfl aggMsg sizeMsg 48 _ HE.out.x ?_ ?_; (intro j v hv; rw [Nat.zero_add]; simpa using hv))
    | (go_at_call 28; (with_reducible refine (HF2.out _ A1 c1 (KI_C HE.out.rx).2.2 (KI_C HE.out.rx).2.1 (KI_cap HE.out.rx)).mono ?_); rintro e w5 ⟨A2, c2, rfl, ho, hb⟩; have HO5 := Lib.hid ho; have K8 := Lib.hid (HE.out.out hb); clear HE; have HE := K8; clear K8; clear hb ho)
    | (go_at_call 34; (with_reducible refine (HCk.out _ A2 c2 (KI_C HO5.out).2.2 (KI_C HO5.out).2.1 (KI_cap HO5.out)).mono ?_); rintro e w6 ⟨rfl, hb⟩; have K8 := Lib.hid (HE.out.out hb); clear HE; have HE := K8; clear K8; clear hb)
    | ((with_reducible refine gate_dst (N := 21) rfl ?_); refine wpList_load_part _ rfl (.tmp 1) 48 rfl g 0 (msgC n (.slice A1 ts2.length c1) s2) rfl aggMsg sizeMsg 48 _ HE.out.x ?_ ?_; (intro j v hv; rw [Nat.zero_add]; simpa using hv))
    | (go_at_call 32; (with_reducible refine (HT.out _ A1 c1 (KI_C HE.out.rx).2.2 (KI_C HE.out.rx).2.1 (KI_cap HE.out.rx)).mono ?_); rintro e w7 ⟨A3, c3, rfl, ho, hb⟩; have HO7 := Lib.hid ho; have K8 := Lib.hid (HE.out.out hb); clear HE; have HE := K8; clear K8; clear hb ho)
    | (go_at_call 35; (with_reducible refine (HRc.out _ A3 c3 (KI_C HO7.out).2.2 (KI_C HO7.out).2.1 (KI_cap HO7.out)).mono ?_); rintro e w8 ⟨rfl, hb⟩; have K8 := Lib.hid (HE.out.out hb); clear HE; have HE := K8; clear K8; clear hb)
    | (go_at_call 30; (with_reducible refine (awake5_any _ HE.out.gl).mono ?_); rintro e w9 ⟨rfl, hb⟩; have K8 := Lib.hid (HE.out.out hb); clear HE; have HE := K8; clear K8; clear hb)
    | (go_at_call 22; (with_reducible refine (why_be p q _ HE.out.gl).mono ?_); rintro e w10 ⟨rfl, hb⟩; have K8 := Lib.hid (HE.out.out hb); clear HE; have HE := K8; clear K8; clear hb)
    | (go_at_call 36; (with_reducible refine (part_be p q _ HE.out.gl).mono ?_); rintro e w11 ⟨rfl, hb⟩; have K8 := Lib.hid (HE.out.out hb); clear HE; have HE := K8; clear K8; clear hb)
    | (go_at_call 23; (with_reducible refine (place_be p q _ HE.out.gl).mono ?_); rintro e w12 ⟨rfl, hb⟩; have K8 := Lib.hid (HE.out.out hb); clear HE; have HE := K8; clear K8; clear hb)
    | fail)
  go_ret
  exact ⟨rfl, HE.out.below⟩
set_option maxRecDepth 100000 in
set_option maxHeartbeats 8000000 in
theorem writes_good (n : Nat → Int) (A : Option Addr) (c : Nat) (ts ts2 : List Int) (s s2 X : ByteArray) (w : World) (hg : Gl w)
    (HF1 : Hid (∀ V, Below w.heap.size w V → Calls Tryd.prog 28 #[.agg (msgC n (.slice A ts.length c) s)] V fun e w' => ∃ (A' : Option Addr) (c' : Nat), e = .returned (.agg (msgC n (.slice A' ts2.length c') s2)) ∧ KI.R 3 w' V.heap.size All (.slice A' ts2.length c') ts2 ∧ Below V.heap.size V w'))
    (HF2 : Hid (∀ V A c, KI.C V A ts2.length ts2 → ts2.length ≤ c → c ≤ 9223372036854775807 → Calls Tryd.prog 28 #[.agg (msgC n (.slice A ts2.length c) s2)] V fun e w' => ∃ (A' : Option Addr) (c' : Nat), e = .returned (.agg (msgC n (.slice A' ts2.length c') s2)) ∧ KI.R 3 w' V.heap.size All (.slice A' ts2.length c') ts2 ∧ Below V.heap.size V w'))
    (HT : Hid (∀ V A c, KI.C V A ts2.length ts2 → ts2.length ≤ c → c ≤ 9223372036854775807 → Calls Tryd.prog 32 #[.agg (msgC n (.slice A ts2.length c) s2)] V fun e w' => ∃ (A' : Option Addr) (c' : Nat), e = .returned (.agg (msgC n (.slice A' ts2.length c') s2)) ∧ KI.R 3 w' V.heap.size All (.slice A' ts2.length c') ts2 ∧ Below V.heap.size V w'))
    (M : ByteArray)
    (HW : Hid (∀ V A c, KI.C V A ts2.length ts2 → ts2.length ≤ c → c ≤ 9223372036854775807 → Calls Tryd.prog 29 #[.agg (msgC n (.slice A ts2.length c) s2)] V fun e w' => e = .returned (.tuple #[.string X, .nilIface]) ∧ Below V.heap.size V w'))
     (HCk : Hid (∀ V A c, KI.C V A ts2.length ts2 → ts2.length ≤ c → c ≤ 9223372036854775807 → Calls Tryd.prog 34 #[.agg (msgC n (.slice A ts2.length c) s2)] V fun e w' => e = .returned (.nilIface) ∧ Below V.heap.size V w'))
     (HRc : Hid (∀ V A c, KI.C V A ts2.length ts2 → ts2.length ≤ c → c ≤ 9223372036854775807 → Calls Tryd.prog 35 #[.agg (msgC n (.slice A ts2.length c) s2)] V fun e w' => e = .returned (.tuple #[.int .i64 0, .int .i64 (-1)]) ∧ Below V.heap.size V w'))
     (HTx : Hid (∀ V A c, KI.C V A ts2.length ts2 → ts2.length ≤ c → c ≤ 9223372036854775807 → Calls Tryd.prog 37 #[.agg (msgC n (.slice A ts2.length c) s2)] V fun e w' => e = .returned (.string M) ∧ Below V.heap.size V w'))
     (HPk : Hid (∀ V, Calls Tryd.prog 19 #[.string M] V fun e w' => e = .returned (.string X) ∧ Below V.heap.size V w'))
    (HRd : Hid (∀ V, Calls Tryd.prog 33 #[.string X] V fun e w' => ∃ (A : Option Addr) (c : Nat), e = .returned (.tuple #[.agg (msgC n (.slice A ts2.length c) s2), .nilIface]) ∧ KI.R 3 w' V.heap.size All (.slice A ts2.length c) ts2 ∧ Below V.heap.size V w'))
    (HSm : Hid (∀ V A B c d, KI.C V A ts2.length ts2 → KI.C V B ts2.length ts2 → ts2.length ≤ c → ts2.length ≤ d → c ≤ 9223372036854775807 → d ≤ 9223372036854775807 → Calls Tryd.prog 31 #[.agg (msgC n (.slice A ts2.length c) s2), .agg (msgC n (.slice B ts2.length d) s2)] V fun e w' => e = .returned (.bool true) ∧ Below V.heap.size V w')) :
    Calls Tryd.prog 11 #[.agg (msgC n (.slice A ts.length c) s)] w fun e w' => e = .returned (.bool true) ∧ Below w.heap.size w w' := by
  have HBe := Lib.hid (Below.refl w.heap.size w)
  have HG := Lib.hid hg
  have HPos := Lib.hid hg.pos
  have hu48 := Tryd.underlying48
  clear hg
  unfold msgC
  go_enter Tryd.func11, Tryd.ntmps11
  go_wp2_with (first
    | ((with_reducible refine gate_dst (N := 1) rfl ?_); refine box_event rfl (N := 1) rfl (cs := msgC n (.slice A ts.length c) s) (t := 48) ?hr ?_; (case hr => first | (go_simp; done) | (go_simp; rfl)); intro g hgg W1 hbox hb; have HLo := Lib.hid (Nat.le_of_eq hgg.symm); clear hgg; have HX := Lib.hid (show Blk W1 g 48 (msgC n (.slice A ts.length c) s) from hbox); have HB := Lib.hid (HBe.out.trans (hb.mono HBe.out.size)); have HG1 := Lib.hid (HG.out.out hb); clear hb hbox)
    | ((with_reducible refine gate_dst (N := 10) rfl ?_); refine wpList_load_part _ rfl (.tmp 1) 48 rfl g 0 (msgC n (.slice A ts.length c) s) rfl aggMsg sizeMsg 48 _ HX.out ?_ ?_; (intro j v hv; rw [Nat.zero_add]; simpa using hv))
    | (go_at_call 28; (with_reducible refine (HF1.out _ HB.out).mono ?_); rintro e w2 ⟨A1, c1, rfl, ho, hb⟩; have HX2 := Lib.hid (HX.out.out hb); have HO2 := Lib.hid ho; have HB2 := Lib.hid (HB.out.trans (hb.mono HB.out.size)); have HG2 := Lib.hid (HG1.out.out hb); clear hb ho)
    | (refine wpList_store_part _ rfl (.tmp 1) (.tmp 11) 48 rfl g 0 (msgC n (.slice A1 ts2.length c1) s2) rfl rfl sizeMsg rfl 48 _ HX2.out (Nat.le_refl _) (msgC n (.slice A1 ts2.length c1) s2) rfl ?_; intro w3 hb3 hfr; have HE : Hid (Wr w w3 W1.heap.size g n A1 ts2.length c1 ts2 s2) := Lib.hid ⟨hb3, KI_far_all HO2.out hfr HX.out.lt, HG2.out.below (hfr.below (Nat.le_refl _)) (Nat.lt_of_lt_of_le HPos.out HLo.out), HB2.out.trans (hfr.below HLo.out)⟩; clear hb3 hfr)
    | ((with_reducible refine gate_dst (N := 13) rfl ?_); refine wpList_load_part _ rfl (.tmp 1) 48 rfl g 0 (msgC n (.slice A1 ts2.length c1) s2) rfl aggMsg sizeMsg 48 _ HE.out.x ?_ ?_; (intro j v hv; rw [Nat.zero_add]; simpa using hv))
    | (go_at_call 29; (with_reducible refine (HW.out _ A1 c1 (KI_C HE.out.rx).2.2 (KI_C HE.out.rx).2.1 (KI_cap HE.out.rx)).mono ?_); rintro e w4 ⟨rfl, hb⟩; have K8 := Lib.hid (HE.out.out hb); clear HE; have HE := K8; clear K8; clear hb)
    | ((with_reducible refine gate_dst (N := 17) rfl ?_); refine wpList_load_part _ rfl (.tmp 1) 48 rfl g 0 (msgC n (.slice A1 ts2.length c1) s2) rfl aggMsg sizeMsg 48 _ HE.out.x ?_ ?_; (intro j v hv; rw [Nat.zero_add]; simpa using hv))
    | (go_at_call 28; (with_reducible refine (HF2.out _ A1 c1 (KI_C HE.out.rx).2.2 (KI_C HE.out.rx).2.1 (KI_cap HE.out.rx)).mono ?_); rintro e w5 ⟨A2, c2, rfl, ho, hb⟩; have HO5 := Lib.hid ho; have K8 := Lib.hid (HE.out.out hb); clear HE; have HE := K8; clear K8; clear hb ho)
    | (go_at_call 34; (with_reducible refine (HCk.out _ A2 c2 (KI_C HO5.out).2.2 (KI_C HO5.out).2.1 (KI_cap HO5.out)).mono ?_); rintro e w6 ⟨rfl, hb⟩; have K8 := Lib.hid (HE.out.out hb); clear HE; have HE := K8; clear K8; clear hb)
    | ((with_reducible refine gate_dst (N := 21) rfl ?_); refine wpList_load_part _ rfl (.tmp 1) 48 rfl g 0 (msgC n (.slice A1 ts2.length c1) s2) rfl aggMsg sizeMsg 48 _ HE.out.x ?_ ?_; (intro j v hv; rw [Nat.zero_add]; simpa using hv))
    | (go_at_call 32; (with_reducible refine (HT.out _ A1 c1 (KI_C HE.out.rx).2.2 (KI_C HE.out.rx).2.1 (KI_cap HE.out.rx)).mono ?_); rintro e w7 ⟨A3, c3, rfl, ho, hb⟩; have HO7 := Lib.hid ho; have K8 := Lib.hid (HE.out.out hb); clear HE; have HE := K8; clear K8; clear hb ho)
    | (go_at_call 35; (with_reducible refine (HRc.out _ A3 c3 (KI_C HO7.out).2.2 (KI_C HO7.out).2.1 (KI_cap HO7.out)).mono ?_); rintro e w8 ⟨rfl, hb⟩; have K8 := Lib.hid (HE.out.out hb); clear HE; have HE := K8; clear K8; clear hb)
    | (go_at_call 30; (with_reducible refine (awake5_any _ HE.out.gl).mono ?_); rintro e w9 ⟨rfl, hb⟩; have K8 := Lib.hid (HE.out.out hb); clear HE; have HE := K8; clear K8; clear hb)
    | (go_at_call 22; (with_reducible refine (why_nil _ HE.out.gl).mono ?_); rintro e w10 ⟨rfl, hb⟩; have K8 := Lib.hid (HE.out.out hb); clear HE; have HE := K8; clear K8; clear hb)
    | (go_at_call 36; (with_reducible refine (part_nil _ HE.out.gl).mono ?_); rintro e w11 ⟨rfl, hb⟩; have K8 := Lib.hid (HE.out.out hb); clear HE; have HE := K8; clear K8; clear hb)
    | (go_at_call 23; (with_reducible refine (place_nil _ HE.out.gl).mono ?_); rintro e w12 ⟨rfl, hb⟩; have K8 := Lib.hid (HE.out.out hb); clear HE; have HE := K8; clear K8; clear hb)
    | (go_at_call 33; (with_reducible refine (HRd.out _).mono ?_); rintro e w13 ⟨A5, c5, rfl, ho, hb⟩; have HO13 := Lib.hid (Kd.R_lower ho (Nat.zero_le _)); have HB13 := Lib.hid (Nat.le_trans HE.out.below.size hb.size); have HZ13 := Lib.hid (Nat.lt_of_lt_of_le HE.out.x.lt hb.size); have K8 := Lib.hid (HE.out.out hb); clear HE; have HE := K8; clear K8; clear hb ho)
    | ((with_reducible refine gate_dst (N := 8) rfl ?_); refine box_event rfl (N := 8) rfl (cs := zeroC) (t := 48) ?hr ?_; (case hr => first | (go_simp; done) | (go_simp; rfl)); intro h hhh Wa hbox hb; have HLh := Lib.hid (show w.heap.size ≤ h by rw [hhh]; exact HB13.out); have HLg := Lib.hid (show g < h by rw [hhh]; exact HZ13.out); have HKh := Lib.hid (show h < Wa.heap.size from Blk.lt hbox); have HLw := Lib.hid (Nat.le_of_eq hhh.symm); clear hhh; have HXh := Lib.hid (show Blk Wa h 48 zeroC from hbox); have HEr := Lib.hid HE.out.rx; have HBa := Lib.hid hb; have K8 := Lib.hid (HE.out.out hb); clear HE; have HE := K8; clear K8; clear hb hbox)
    | (refine wpList_store_part _ rfl (.tmp 8) (.tmp 71) 48 rfl h 0 (msgC n (.slice A5 ts2.length c5) s2) rfl rfl sizeMsg rfl 48 _ HXh.out (Nat.le_refl _) (msgC n (.slice A5 ts2.length c5) s2) rfl ?_; intro Wb hb3 hfr; have HE2 : Hid (Wr w Wb W1.heap.size g n A1 ts2.length c1 ts2 s2) := Lib.hid ⟨HE.out.x.away hfr (Nat.ne_of_lt HLg.out), KI_new HEr.out HBa.out hfr HLw.out, HE.out.gl.below (hfr.below (Nat.le_refl _)) (Nat.lt_of_lt_of_le HPos.out HLh.out), HE.out.below.trans (hfr.below HLh.out)⟩; have HR : Hid (Rx Wb 0 h n A5 ts2.length c5 ts2 s2) := Lib.hid ⟨hb3, KI_new HO13.out HBa.out hfr HLw.out⟩; clear HE; have HE := HE2; clear HE2 hb3 hfr)
    | fail)
  replace HE := Lib.hid (HE.out.out (Below.refl _ _).drew)
  replace HR := Lib.hid (HR.out.out (Below.refl _ _).drew)
  refine start_ (n := 18) (S := fun W' => Blk W' g 48 (msgC n (.slice A1 ts2.length c1) s2) ∧ Blk W' h 48 (msgC n (.slice A5 ts2.length c5) s2)) (ds := []) #[false, false, false, false, false, false, false, false, false, false, false, false, false, false, false, false, false, false] (by kernel_rfl) rfl rfl (⟨HE.out.x, HR.out.x⟩) (fun hHeld => ?_)
  refine pure_ (i := 0) (N := some 73) (v := ?_) (a' := ?_) #[true, false, false, false, false, false, false, false, false, false, false, false, false, false, false, false, false, false] rfl rfl (by kernel_rfl) (fun _ _ _ h => h) (Or.inl ⟨by rfl, ?_⟩) ?_ ?_
  rotate_left
  · intro w'
    go_simp
    (try with_reducible rfl)
  rotate_left
  · simp only [Act.put, List.setIfInBounds_toArray, List.set_cons_zero, List.set_cons_succ]
    rfl
  refine take_ (i := 1) (N := some 74) (v := ?_) (a' := ?_) #[true, true, false, false, false, false, false, false, false, false, false, false, false, false, false, false, false, false] rfl rfl (by kernel_rfl) (fun _ _ _ h => h) (Or.inl ⟨by rfl, ?_⟩) hHeld ?_ ?_
  rotate_left
  · intro w' s0
    refine exec_load_part _ (.tmp 1) 48 ?_ g 0 (msgC n (.slice A1 ts2.length c1) s2) ?_ aggMsg sizeMsg 48 _ s0.1 ?_
    · rfl
    · rfl
    · intro j v hv
      rw [Nat.zero_add]
      simpa using hv
  rotate_left
  · simp only [Act.put, List.setIfInBounds_toArray, List.set_cons_zero, List.set_cons_succ]
    rfl
  refine one_ (i := 2) (N := some 75) (oi := ⟨some 75, Go.Op.call ⟨Go.Callee.value (Go.Operand.func 32), #[Go.Operand.tmp 74], #[48]⟩, 54, "law.go:46", #[⟨1, Go.Ground.data⟩], none⟩) #[true, true, true, false, false, false, false, false, false, false, false, false, false, false, false, false, false, false] rfl rfl (by kernel_rfl) (by decide) (fun K hK => ?_)
  rw [if_pos (by rfl)]
  go_simp
  (go_at_call 32; (with_reducible refine (HT.out _ A1 c1 (KI_C HE.out.rx).2.2 (KI_C HE.out.rx).2.1 (KI_cap HE.out.rx)).mono ?_); rintro e wt1 ⟨At1, ct1, rfl, ho, hb⟩; have K8 := Lib.hid (HE.out.out hb); clear HE; have HE := K8; clear K8; have KR := Lib.hid (HR.out.out hb); clear HR; have HR := KR; clear KR; have HOt1 := Lib.hid ho; clear hb ho)
  refine hK.out _ _ (⟨HE.out.x, HR.out.x⟩) (fun hHeld => ?_)
  clear hK K
  try simp only [Act.put, List.setIfInBounds_toArray, List.set_cons_zero, List.set_cons_succ]
  refine one_ (i := 3) (N := some 76) (oi := ⟨some 76, Go.Op.call ⟨Go.Callee.value (Go.Operand.func 37), #[Go.Operand.tmp 75], #[54]⟩, 9, "law.go:46", #[⟨2, Go.Ground.data⟩, ⟨2, Go.Ground.chain⟩], none⟩) #[true, true, true, true, false, false, false, false, false, false, false, false, false, false, false, false, false, false] rfl rfl (by kernel_rfl) (by decide) (fun K hK => ?_)
  rw [if_pos (by rfl)]
  go_simp
  (go_at_call 37; (with_reducible refine (HTx.out _ At1 ct1 (KI_C HOt1.out).2.2 (KI_C HOt1.out).2.1 (KI_cap HOt1.out)).mono ?_); rintro e wx ⟨rfl, hb⟩; have K8 := Lib.hid (HE.out.out hb); clear HE; have HE := K8; clear K8; have KR := Lib.hid (HR.out.out hb); clear HR; have HR := KR; clear KR; clear hb)
  refine hK.out _ _ (⟨HE.out.x, HR.out.x⟩) (fun hHeld => ?_)
  clear hK K
  try simp only [Act.put, List.setIfInBounds_toArray, List.set_cons_zero, List.set_cons_succ]
  refine one_ (i := 4) (N := some 77) (oi := ⟨some 77, Go.Op.call ⟨Go.Callee.value (Go.Operand.func 19), #[Go.Operand.tmp 76], #[9]⟩, 9, "law.go:46", #[⟨3, Go.Ground.data⟩, ⟨3, Go.Ground.chain⟩], none⟩) #[true, true, true, true, true, false, false, false, false, false, false, false, false, false, false, false, false, false] rfl rfl (by kernel_rfl) (by decide) (fun K hK => ?_)
  rw [if_pos (by rfl)]
  go_simp
  (go_at_call 19; (with_reducible refine (HPk.out _).mono ?_); rintro e wy ⟨rfl, hb⟩; have K8 := Lib.hid (HE.out.out hb); clear HE; have HE := K8; clear K8; have KR := Lib.hid (HR.out.out hb); clear HR; have HR := KR; clear KR; clear hb)
  refine hK.out _ _ (⟨HE.out.x, HR.out.x⟩) (fun hHeld => ?_)
  clear hK K
  try simp only [Act.put, List.setIfInBounds_toArray, List.set_cons_zero, List.set_cons_succ]
  refine pure_ (i := 5) (N := some 78) (v := ?_) (a' := ?_) #[true, true, true, true, true, true, false, false, false, false, false, false, false, false, false, false, false, false] rfl rfl (by kernel_rfl) (fun _ _ _ h => h) (Or.inl ⟨by rfl, ?_⟩) ?_ ?_
  rotate_left
  · intro w'
    go_simp
    (try with_reducible rfl)
  rotate_left
  · simp only [Act.put, List.setIfInBounds_toArray, List.set_cons_zero, List.set_cons_succ]
    rfl
  refine pure_ (i := 6) (N := some 79) (v := ?_) (a' := ?_) #[true, true, true, true, true, true, true, false, false, false, false, false, false, false, false, false, false, false] rfl rfl (by kernel_rfl) (fun _ _ _ h => h) (Or.inl ⟨by rfl, ?_⟩) ?_ ?_
  rotate_left
  · intro w'
    go_simp
    (try with_reducible rfl)
  rotate_left
  · simp only [Act.put, List.setIfInBounds_toArray, List.set_cons_zero, List.set_cons_succ]
    rfl
  refine pure_ (i := 7) (N := some 80) (v := ?_) (a' := ?_) #[true, true, true, true, true, true, true, true, false, false, false, false, false, false, false, false, false, false] rfl rfl (by kernel_rfl) (fun _ _ _ h => h) (Or.inl ⟨by rfl, ?_⟩) ?_ ?_
  rotate_left
  · intro w'
    go_simp
    (try with_reducible rfl)
  rotate_left
  · simp only [Act.put, List.setIfInBounds_toArray, List.set_cons_zero, List.set_cons_succ]
    rfl
  refine pure_ (i := 8) (N := some 81) (v := ?_) (a' := ?_) #[true, true, true, true, true, true, true, true, true, false, false, false, false, false, false, false, false, false] rfl rfl (by kernel_rfl) (fun _ _ _ h => h) (Or.inl ⟨by rfl, ?_⟩) ?_ ?_
  rotate_left
  · intro w'
    go_simp
    (try with_reducible rfl)
  rotate_left
  · simp only [Act.put, List.setIfInBounds_toArray, List.set_cons_zero, List.set_cons_succ]
    rfl
  refine pure_ (i := 9) (N := some 82) (v := ?_) (a' := ?_) #[true, true, true, true, true, true, true, true, true, true, false, false, false, false, false, false, false, false] rfl rfl (by kernel_rfl) (fun _ _ _ h => h) (Or.inl ⟨by rfl, ?_⟩) ?_ ?_
  rotate_left
  · intro w'
    go_simp
    (try with_reducible rfl)
  rotate_left
  · simp only [Act.put, List.setIfInBounds_toArray, List.set_cons_zero, List.set_cons_succ]
    rfl
  refine pure_ (i := 10) (N := some 83) (v := ?_) (a' := ?_) #[true, true, true, true, true, true, true, true, true, true, true, false, false, false, false, false, false, false] rfl rfl (by kernel_rfl) (fun _ _ _ h => h) (Or.inl ⟨by rfl, ?_⟩) ?_ ?_
  rotate_left
  · intro w'
    go_simp
    (try with_reducible rfl)
  rotate_left
  · simp only [Act.put, List.setIfInBounds_toArray, List.set_cons_zero, List.set_cons_succ]
    rfl
  refine take_ (i := 11) (N := some 84) (v := ?_) (a' := ?_) #[true, true, true, true, true, true, true, true, true, true, true, true, false, false, false, false, false, false] rfl rfl (by kernel_rfl) (fun _ _ _ h => h) (Or.inl ⟨by rfl, ?_⟩) hHeld ?_ ?_
  rotate_left
  · intro w' s0
    refine exec_load_part _ (.tmp 8) 48 ?_ h 0 (msgC n (.slice A5 ts2.length c5) s2) ?_ aggMsg sizeMsg 48 _ s0.2 ?_
    · rfl
    · rfl
    · intro j v hv
      rw [Nat.zero_add]
      simpa using hv
  rotate_left
  · simp only [Act.put, List.setIfInBounds_toArray, List.set_cons_zero, List.set_cons_succ]
    rfl
  refine take_ (i := 13) (N := some 86) (v := ?_) (a' := ?_) #[true, true, true, true, true, true, true, true, true, true, true, true, false, true, false, false, false, false] rfl rfl (by kernel_rfl) (fun _ _ _ h => h) (Or.inl ⟨by rfl, ?_⟩) hHeld ?_ ?_
  rotate_left
  · intro w' s0
    refine exec_load_part _ (.tmp 1) 48 ?_ g 0 (msgC n (.slice A1 ts2.length c1) s2) ?_ aggMsg sizeMsg 48 _ s0.1 ?_
    · rfl
    · rfl
    · intro j v hv
      rw [Nat.zero_add]
      simpa using hv
  rotate_left
  · simp only [Act.put, List.setIfInBounds_toArray, List.set_cons_zero, List.set_cons_succ]
    rfl
  refine one_ (i := 12) (N := some 85) (oi := ⟨some 85, Go.Op.call ⟨Go.Callee.value (Go.Operand.func 32), #[Go.Operand.tmp 84], #[48]⟩, 54, "law.go:46", #[⟨11, Go.Ground.data⟩, ⟨10, Go.Ground.chain⟩, ⟨10, Go.Ground.guard⟩], some (10, true)⟩) #[true, true, true, true, true, true, true, true, true, true, true, true, true, true, false, false, false, false] rfl rfl (by kernel_rfl) (by decide) (fun K hK => ?_)
  rw [if_pos (by rfl)]
  go_simp
  (go_at_call 32; (with_reducible refine (HT.out _ A5 c5 (KI_C HR.out.rx).2.2 (KI_C HR.out.rx).2.1 (KI_cap HR.out.rx)).mono ?_); rintro e wt2 ⟨At2, ct2, rfl, ho, hb⟩; have K8 := Lib.hid (HE.out.out hb); clear HE; have HE := K8; clear K8; have KR := Lib.hid (HR.out.out hb); clear HR; have HR := KR; clear KR; have HOt2 := Lib.hid ho; clear hb ho)
  refine hK.out _ _ (⟨HE.out.x, HR.out.x⟩) (fun hHeld => ?_)
  clear hK K
  try simp only [Act.put, List.setIfInBounds_toArray, List.set_cons_zero, List.set_cons_succ]
  refine one_ (i := 14) (N := some 87) (oi := ⟨some 87, Go.Op.call ⟨Go.Callee.value (Go.Operand.func 32), #[Go.Operand.tmp 86], #[48]⟩, 54, "law.go:46", #[⟨13, Go.Ground.data⟩, ⟨12, Go.Ground.chain⟩, ⟨10, Go.Ground.guard⟩], some (10, true)⟩) #[true, true, true, true, true, true, true, true, true, true, true, true, true, true, true, false, false, false] rfl rfl (by kernel_rfl) (by decide) (fun K hK => ?_)
  rw [if_pos (by rfl)]
  go_simp
  (go_at_call 32; (with_reducible refine (HT.out _ A1 c1 (KI_C HE.out.rx).2.2 (KI_C HE.out.rx).2.1 (KI_cap HE.out.rx)).mono ?_); rintro e wt3 ⟨At3, ct3, rfl, ho, hb⟩; have K8 := Lib.hid (HE.out.out hb); clear HE; have HE := K8; clear K8; have KR := Lib.hid (HR.out.out hb); clear HR; have HR := KR; clear KR; have HOb2 := Lib.hid (KI_out HOt2.out hb); have HOt3 := Lib.hid ho; clear hb ho)
  refine hK.out _ _ (⟨HE.out.x, HR.out.x⟩) (fun hHeld => ?_)
  clear hK K
  try simp only [Act.put, List.setIfInBounds_toArray, List.set_cons_zero, List.set_cons_succ]
  refine one_ (i := 15) (N := some 88) (oi := ⟨some 88, Go.Op.call ⟨Go.Callee.value (Go.Operand.func 31), #[Go.Operand.tmp 85, Go.Operand.tmp 87], #[54, 54]⟩, 4, "law.go:46", #[⟨12, Go.Ground.data⟩, ⟨14, Go.Ground.data⟩, ⟨14, Go.Ground.chain⟩, ⟨10, Go.Ground.guard⟩], some (10, true)⟩) #[true, true, true, true, true, true, true, true, true, true, true, true, true, true, true, true, false, false] rfl rfl (by kernel_rfl) (by decide) (fun K hK => ?_)
  rw [if_pos (by rfl)]
  go_simp
  (go_at_call 31; (with_reducible refine (HSm.out _ At2 At3 ct2 ct3 (KI_C HOb2.out).2.2 (KI_C HOt3.out).2.2 (KI_C HOb2.out).2.1 (KI_C HOt3.out).2.1 (KI_cap HOb2.out) (KI_cap HOt3.out)).mono ?_); rintro e wz ⟨rfl, hb⟩; have K8 := Lib.hid (HE.out.out hb); clear HE; have HE := K8; clear K8; have KR := Lib.hid (HR.out.out hb); clear HR; have HR := KR; clear KR; clear hb)
  refine hK.out _ _ (⟨HE.out.x, HR.out.x⟩) (fun hHeld => ?_)
  clear hK K
  try simp only [Act.put, List.setIfInBounds_toArray, List.set_cons_zero, List.set_cons_succ]
  refine pure_ (i := 16) (N := some 89) (v := ?_) (a' := ?_) #[true, true, true, true, true, true, true, true, true, true, true, true, true, true, true, true, true, false] rfl rfl (by kernel_rfl) (fun _ _ _ h => h) (Or.inl ⟨by rfl, ?_⟩) ?_ ?_
  rotate_left
  · intro w'
    go_simp
    (try with_reducible rfl)
  rotate_left
  · simp only [Act.put, List.setIfInBounds_toArray, List.set_cons_zero, List.set_cons_succ]
    rfl
  refine pure_ (i := 17) (N := some 2) (v := ?_) (a' := ?_) #[true, true, true, true, true, true, true, true, true, true, true, true, true, true, true, true, true, true] rfl rfl (by kernel_rfl) (fun _ _ _ h => h) (Or.inl ⟨by rfl, ?_⟩) ?_ ?_
  rotate_left
  · intro w'
    go_simp
    (try with_reducible rfl)
  rotate_left
  · simp only [Act.put, List.setIfInBounds_toArray, List.set_cons_zero, List.set_cons_succ]
    rfl
  refine done_ (by kernel_rfl) ?_
  go_wp2_with fail
  go_ret
  exact ⟨rfl, HE.out.below⟩
theorem allEq_self (f : Nat → Int) : ∀ m i, allEq f f m i = true
  | 0, _ => rfl
  | m + 1, i => by rw [allEq, allEq_self f m (i + 1)]; simp
theorem sameB_self (f : Nat → Int) (ts : List Int) (s : ByteArray) : sameB f f ts ts s s = true := by
  unfold sameB; rw [allEq_self]; simp
theorem writes_any (n : Nat → Int) (A : Option Addr) (c : Nat) (ts : List Int) (s : ByteArray) (w : World) (hr : KI.C w A ts.length ts) (hc : ts.length ≤ c) (hcm : c ≤ 9223372036854775807) (hg : Gl w) :
    Calls Tryd.prog 11 #[.agg (msgC n (.slice A ts.length c) s)] w fun e w' => e = .returned (.bool true) ∧ Below w.heap.size w w' := by
  obtain ⟨ts2, hts⟩ : ∃ ts2, ts2 = ts.take 140 := ⟨_, rfl⟩
  obtain ⟨s2, hs⟩ : ∃ s2, s2 = str (s.data.toList.take 1000) := ⟨_, rfl⟩
  have HF1 : Hid (∀ V, Below w.heap.size w V → Calls Tryd.prog 28 #[.agg (msgC n (.slice A ts.length c) s)] V fun e w' => ∃ (A' : Option Addr) (c' : Nat), e = .returned (.agg (msgC n (.slice A' ts2.length c') s2)) ∧ KI.R 3 w' V.heap.size All (.slice A' ts2.length c') ts2 ∧ Below V.heap.size V w') := Lib.hid (fun V hV => by rw [hts, hs]; exact few15_any n A c ts s V (Kd.C_below hr hV) hc hcm)
  have ets : ts2.take 140 = ts2 := List.take_of_length_le (by rw [hts, List.length_take]; omega)
  have es : str (s2.data.toList.take 1000) = s2 := by rw [hs, str_list, List.take_take]; simp
  have hs2 : s2.size ≤ 1000 := by rw [hs, str_size, List.length_take]; omega
  have HF2 := Lib.hid (fun V A c h1 h2 h3 => few15_any n A c ts2 s2 V h1 h2 h3)
  have HT := Lib.hid (fun V A c h1 h2 h3 => told_any n A c ts2 s2 V h1 h2 h3)
  simp only [ets, es] at HF2 HT
  obtain ⟨r, hr2⟩ : ∃ r, r = chk n ts2 s2.size := ⟨_, rfl⟩
  by_cases hq : r.2 = 0
  · obtain ⟨hgd, h0⟩ := good_of_chk (n := n) (ts := ts2) (sz := s2.size) (by rw [← hr2]; exact hq)
    have hz : s2.data.toList.length = s2.size := by rw [Array.length_toList]; rfl
    have hml := msgL_length (s := s2.data.toList) (by rw [hz]; exact hgd)
    refine writes_good n A c ts ts2 s s2 _ w hg HF1 HF2 HT (str (msgL n ts2 s2.data.toList)) (Lib.hid (fun V A c h1 h2 h3 => write_ok n A c ts2 s2 V h1 h2 h3 hgd)) (Lib.hid (fun V A c h1 h2 h3 => ?_)) (Lib.hid (fun V A c h1 h2 h3 => ?_)) (Lib.hid (fun V A c h1 h2 h3 => rtext_any n A c ts2 s2 V h1 h2 h3 hgd)) (Lib.hid (fun V => rpack_any _ V (by omega))) (Lib.hid (fun V => read_ok n ts2 s2 hgd V)) (Lib.hid (fun V A B c d h1 h2 h3 h4 h5 h6 => ?_))
    · have := check_any n A c ts2 s2 V h1 h2 h3 (by omega)
      rw [h0] at this
      exact this
    · have := rcheck_any n A c ts2 s2 V h1 h2 h3 (by omega)
      rw [h0] at this
      exact this
    · have := same_any n n A B c d ts2 ts2 s2 s2 V h1 h2 h3 h4 h5 h6
      rw [sameB_self] at this
      exact this
  · obtain ⟨p, q⟩ := r
    have hqq : q ≠ 0 := hq
    refine writes_bad n A c ts ts2 s s2 ⟨#[]⟩ w hg HF1 HF2 HT p q hqq (Lib.hid (fun V A c h1 h2 h3 => write_bad n A c ts2 s2 V h1 h2 h3 (by omega) p q hqq hr2.symm)) (Lib.hid (fun V A c h1 h2 h3 => ?_)) (Lib.hid (fun V A c h1 h2 h3 => ?_))
    · have := check_any n A c ts2 s2 V h1 h2 h3 (by omega)
      rw [← hr2] at this
      refine this.mono fun e w' h => ⟨by rw [h.1, errB_some _ _ hqq], h.2⟩
    · have := rcheck_any n A c ts2 s2 V h1 h2 h3 (by omega)
      rw [← hr2] at this
      refine this.mono fun e w' h => ⟨by rw [h.1]; unfold rchk; rw [if_neg hq], h.2⟩
end Go.Proofs.YtjlfoiocceepjaaDoor
