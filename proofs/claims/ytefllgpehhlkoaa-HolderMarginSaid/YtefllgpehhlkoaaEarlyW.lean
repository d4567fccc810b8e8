/-
  HolderEarly, its walk. (Printed by wip/tools/early.py.)
-/
import Derived.Test.YtefllgpehhlkoaaHold8
namespace Go.Proofs.Ytefllgpehhlkoaa
open Go.RowKit

/-- what the law leaves -/
def TrueOnly (w : World) (e : Ending) (w' : World) : Prop := e = .returned (.bool true) ∧ Only w.heap.size w.heap.size w w'

set_option maxRecDepth 100000 in
set_option maxHeartbeats 1000000 in
theorem early_arg0 (w : World) (term margin asked granted now : Int) (hd0 : decide (term < 1) = true) :
    Calls Try.prog 5 #[.agg #[.int .i64 term, .int .i64 margin], .int .i64 asked, .int .i64 granted, .int .i64 now] w (TrueOnly w) := by
  have hO : Hid (Only w.heap.size w.heap.size w w) := Lib.hid (Only.refl _ _ _)
  go_enter Try.func5, Try.ntmps5
  go_wp2_with (go_at_call 25; refine (awake19 _).mono ?_; rintro e W1 ⟨rfl, ho'⟩)
  go_ret
  exact ⟨rfl, (hO.out.alloc _).then ho' (by simp)⟩

set_option maxRecDepth 100000 in
set_option maxHeartbeats 1000000 in
theorem early_arg1 (w : World) (term margin asked granted now : Int) (hd0 : decide (term < 1) = false) (hd1 : decide (1048576 < term) = true) :
    Calls Try.prog 5 #[.agg #[.int .i64 term, .int .i64 margin], .int .i64 asked, .int .i64 granted, .int .i64 now] w (TrueOnly w) := by
  have hO : Hid (Only w.heap.size w.heap.size w w) := Lib.hid (Only.refl _ _ _)
  go_enter Try.func5, Try.ntmps5
  go_wp2_with (go_at_call 25; refine (awake19 _).mono ?_; rintro e W1 ⟨rfl, ho'⟩)
  go_ret
  exact ⟨rfl, (hO.out.alloc _).then ho' (by simp)⟩

set_option maxRecDepth 100000 in
set_option maxHeartbeats 1000000 in
theorem early_arg2 (w : World) (term margin asked granted now : Int) (hd0 : decide (term < 1) = false) (hd1 : decide (1048576 < term) = false) (hd2 : decide (margin < 0) = true) :
    Calls Try.prog 5 #[.agg #[.int .i64 term, .int .i64 margin], .int .i64 asked, .int .i64 granted, .int .i64 now] w (TrueOnly w) := by
  have hO : Hid (Only w.heap.size w.heap.size w w) := Lib.hid (Only.refl _ _ _)
  go_enter Try.func5, Try.ntmps5
  go_wp2_with (go_at_call 25; refine (awake19 _).mono ?_; rintro e W1 ⟨rfl, ho'⟩)
  go_ret
  exact ⟨rfl, (hO.out.alloc _).then ho' (by simp)⟩

set_option maxRecDepth 100000 in
set_option maxHeartbeats 1000000 in
theorem early_arg3 (w : World) (term margin asked granted now : Int) (hd0 : decide (term < 1) = false) (hd1 : decide (1048576 < term) = false) (hd2 : decide (margin < 0) = false) (hd3 : decide (1048576 < margin) = true) :
    Calls Try.prog 5 #[.agg #[.int .i64 term, .int .i64 margin], .int .i64 asked, .int .i64 granted, .int .i64 now] w (TrueOnly w) := by
  have hO : Hid (Only w.heap.size w.heap.size w w) := Lib.hid (Only.refl _ _ _)
  go_enter Try.func5, Try.ntmps5
  go_wp2_with (go_at_call 25; refine (awake19 _).mono ?_; rintro e W1 ⟨rfl, ho'⟩)
  go_ret
  exact ⟨rfl, (hO.out.alloc _).then ho' (by simp)⟩

set_option maxRecDepth 100000 in
set_option maxHeartbeats 1000000 in
theorem early_arg4 (w : World) (term margin asked granted now : Int) (hd0 : decide (term < 1) = false) (hd1 : decide (1048576 < term) = false) (hd2 : decide (margin < 0) = false) (hd3 : decide (1048576 < margin) = false) (hd4 : decide (asked < 0) = true) :
    Calls Try.prog 5 #[.agg #[.int .i64 term, .int .i64 margin], .int .i64 asked, .int .i64 granted, .int .i64 now] w (TrueOnly w) := by
  have hO : Hid (Only w.heap.size w.heap.size w w) := Lib.hid (Only.refl _ _ _)
  go_enter Try.func5, Try.ntmps5
  go_wp2_with (go_at_call 25; refine (awake19 _).mono ?_; rintro e W1 ⟨rfl, ho'⟩)
  go_ret
  exact ⟨rfl, (hO.out.alloc _).then ho' (by simp)⟩

set_option maxRecDepth 100000 in
set_option maxHeartbeats 1000000 in
theorem early_arg5 (w : World) (term margin asked granted now : Int) (hd0 : decide (term < 1) = false) (hd1 : decide (1048576 < term) = false) (hd2 : decide (margin < 0) = false) (hd3 : decide (1048576 < margin) = false) (hd4 : decide (asked < 0) = false) (hd5 : decide (1073741824 < asked) = true) :
    Calls Try.prog 5 #[.agg #[.int .i64 term, .int .i64 margin], .int .i64 asked, .int .i64 granted, .int .i64 now] w (TrueOnly w) := by
  have hO : Hid (Only w.heap.size w.heap.size w w) := Lib.hid (Only.refl _ _ _)
  go_enter Try.func5, Try.ntmps5
  go_wp2_with (go_at_call 25; refine (awake19 _).mono ?_; rintro e W1 ⟨rfl, ho'⟩)
  go_ret
  exact ⟨rfl, (hO.out.alloc _).then ho' (by simp)⟩

set_option maxRecDepth 100000 in
set_option maxHeartbeats 1000000 in
theorem early_arg6 (w : World) (term margin asked granted now : Int) (hd0 : decide (term < 1) = false) (hd1 : decide (1048576 < term) = false) (hd2 : decide (margin < 0) = false) (hd3 : decide (1048576 < margin) = false) (hd4 : decide (asked < 0) = false) (hd5 : decide (1073741824 < asked) = false) (hd6 : decide (granted < asked) = true) :
    Calls Try.prog 5 #[.agg #[.int .i64 term, .int .i64 margin], .int .i64 asked, .int .i64 granted, .int .i64 now] w (TrueOnly w) := by
  have hO : Hid (Only w.heap.size w.heap.size w w) := Lib.hid (Only.refl _ _ _)
  go_enter Try.func5, Try.ntmps5
  go_wp2_with (go_at_call 25; refine (awake19 _).mono ?_; rintro e W1 ⟨rfl, ho'⟩)
  go_ret
  exact ⟨rfl, (hO.out.alloc _).then ho' (by simp)⟩

set_option maxRecDepth 100000 in
set_option maxHeartbeats 1000000 in
theorem early_arg7 (w : World) (term margin asked granted now : Int) (hd0 : decide (term < 1) = false) (hd1 : decide (1048576 < term) = false) (hd2 : decide (margin < 0) = false) (hd3 : decide (1048576 < margin) = false) (hd4 : decide (asked < 0) = false) (hd5 : decide (1073741824 < asked) = false) (hd6 : decide (granted < asked) = false) (hd7 : decide (1073741824 < granted) = true) :
    Calls Try.prog 5 #[.agg #[.int .i64 term, .int .i64 margin], .int .i64 asked, .int .i64 granted, .int .i64 now] w (TrueOnly w) := by
  have hO : Hid (Only w.heap.size w.heap.size w w) := Lib.hid (Only.refl _ _ _)
  go_enter Try.func5, Try.ntmps5
  go_wp2_with (go_at_call 25; refine (awake19 _).mono ?_; rintro e W1 ⟨rfl, ho'⟩)
  go_ret
  exact ⟨rfl, (hO.out.alloc _).then ho' (by simp)⟩

set_option maxRecDepth 100000 in
set_option maxHeartbeats 1000000 in
theorem early_arg8 (w : World) (term margin asked granted now : Int) (hd0 : decide (term < 1) = false) (hd1 : decide (1048576 < term) = false) (hd2 : decide (margin < 0) = false) (hd3 : decide (1048576 < margin) = false) (hd4 : decide (asked < 0) = false) (hd5 : decide (1073741824 < asked) = false) (hd6 : decide (granted < asked) = false) (hd7 : decide (1073741824 < granted) = false) (hd8 : decide (now < granted) = true) :
    Calls Try.prog 5 #[.agg #[.int .i64 term, .int .i64 margin], .int .i64 asked, .int .i64 granted, .int .i64 now] w (TrueOnly w) := by
  have hO : Hid (Only w.heap.size w.heap.size w w) := Lib.hid (Only.refl _ _ _)
  go_enter Try.func5, Try.ntmps5
  go_wp2_with (go_at_call 25; refine (awake19 _).mono ?_; rintro e W1 ⟨rfl, ho'⟩)
  go_ret
  exact ⟨rfl, (hO.out.alloc _).then ho' (by simp)⟩

set_option maxRecDepth 100000 in
set_option maxHeartbeats 1000000 in
theorem early_arg9 (w : World) (term margin asked granted now : Int) (hd0 : decide (term < 1) = false) (hd1 : decide (1048576 < term) = false) (hd2 : decide (margin < 0) = false) (hd3 : decide (1048576 < margin) = false) (hd4 : decide (asked < 0) = false) (hd5 : decide (1073741824 < asked) = false) (hd6 : decide (granted < asked) = false) (hd7 : decide (1073741824 < granted) = false) (hd8 : decide (now < granted) = false) (hd9 : decide (2147483648 < now) = true) :
    Calls Try.prog 5 #[.agg #[.int .i64 term, .int .i64 margin], .int .i64 asked, .int .i64 granted, .int .i64 now] w (TrueOnly w) := by
  have hO : Hid (Only w.heap.size w.heap.size w w) := Lib.hid (Only.refl _ _ _)
  go_enter Try.func5, Try.ntmps5
  go_wp2_with (go_at_call 25; refine (awake19 _).mono ?_; rintro e W1 ⟨rfl, ho'⟩)
  go_ret
  exact ⟨rfl, (hO.out.alloc _).then ho' (by simp)⟩

set_option maxRecDepth 100000 in
set_option maxHeartbeats 1000000 in
theorem early_L (w : World) (term margin asked granted now : Int) (hd0 : decide (term < 1) = false) (hd1 : decide (1048576 < term) = false) (hd2 : decide (margin < 0) = false) (hd3 : decide (1048576 < margin) = false) (hd4 : decide (asked < 0) = false) (hd5 : decide (1073741824 < asked) = false) (hd6 : decide (granted < asked) = false) (hd7 : decide (1073741824 < granted) = false) (hd8 : decide (now < granted) = false) (hd9 : decide (2147483648 < now) = false) (hu : asked + term - margin ≤ granted) :
    Calls Try.prog 5 #[.agg #[.int .i64 term, .int .i64 margin], .int .i64 asked, .int .i64 granted, .int .i64 now] w (TrueOnly w) := by
  have rr : 1 ≤ term ∧ term ≤ 1048576 ∧ 0 ≤ margin ∧ margin ≤ 1048576 ∧ 0 ≤ asked ∧ asked ≤ 1073741824 ∧ asked ≤ granted ∧ granted ≤ 1073741824 ∧ granted ≤ now ∧ now ≤ 2147483648 := by
    have e0 := of_decide_eq_false hd0; have e1 := of_decide_eq_false hd1; have e2 := of_decide_eq_false hd2; have e3 := of_decide_eq_false hd3; have e4 := of_decide_eq_false hd4
    have e5 := of_decide_eq_false hd5; have e6 := of_decide_eq_false hd6; have e7 := of_decide_eq_false hd7; have e8 := of_decide_eq_false hd8; have e9 := of_decide_eq_false hd9
    omega
  obtain ⟨rr0, rr1, rr2, rr3, rr4, rr5, rr6, rr7, rr8, rr9⟩ := rr
  have EA : Hid (askH ⟨0, 0, [], []⟩ asked 7 = (⟨0, 1, [(7, (1, asked))], []⟩, 1, 0)) := Lib.hid (by simp only [askH]; rw [if_neg (by omega), if_neg (by omega)]; rfl)
  have EG : Hid (grantH ⟨0, 1, [(7, (1, asked))], []⟩ granted term margin 7 1 3 = (⟨0, 1, [], []⟩, 16)) := Lib.hid (by simp only [grantH, mget, List.find?, beq_self_eq_true, Option.map_some]; rw [if_pos trivial, if_neg (by omega)]; rw [if_pos hu]; rfl)
  have EB : Hid (believe [] now 7 = (0, false)) := Lib.hid (rfl)
  have ff0 : decide (now < asked + term - margin) = false := decide_eq_false (by omega)
  have ff1 : decide (granted < asked + term - margin) = false := decide_eq_false (by omega)
  clear hu
  have hO : Hid (Only w.heap.size w.heap.size w w) := Lib.hid (Only.refl _ _ _)
  have HP : Hid (∀ W, Only (w.alloc (.cells #[.int .i64 term, .int .i64 margin] 37)).heap.size (w.alloc (.cells #[.int .i64 term, .int .i64 margin] 37)).heap.size (w.alloc (.cells #[.int .i64 term, .int .i64 margin] 37)) W → W.cell? ⟨w.heap.size, 0, none⟩ = some (.int .i64 term) ∧ W.cell? ⟨w.heap.size, 1, none⟩ = some (.int .i64 margin)) := Lib.hid (fun W o => by
    have hp := pair_at (at_top w (.cells #[.int .i64 term, .int .i64 margin] 37) w.heap.size rfl)
    exact ⟨(o.cell (by simp) (.inl (by simp))).trans hp.1, (o.cell (by simp) (.inl (by simp))).trans hp.2⟩)
  go_enter Try.func5, Try.ntmps5
  go_wp2_with (first
    | (go_at_call 25; refine (awake19 _).mono ?_; rintro e W4 ⟨rfl, ho'⟩; have o4 := Lib.hid (o3.out.then ho' (Nat.le_trans o3.out.size (Nat.le_refl _))); clear p0 p1 q0 q1; obtain ⟨p0, p1⟩ := HP.out _ o4.out; clear ho')
    | (go_at_call 26; refine (ask_any _ _ ⟨0, 0, [], []⟩ asked 7 ⟨none, none, rfl, rfl, rfl⟩ (WalkArith.wf_i64 (by decide)) (by decide)).mono ?_; rw [EA.out]; rintro e W1 ⟨v, rfl, ⟨m1, m2, rfl, x1', x2'⟩, ho'⟩; have HV := Lib.hid (HVar.new (h := ⟨0, 1, [(7, (1, asked))], []⟩) x1' x2'); have o1 := Lib.hid ho'; obtain ⟨p0, p1⟩ := HP.out _ o1.out; have q0 := fun (o : Obj) => (HP.out _ (o1.out.alloc o)).1; have q1 := fun (o : Obj) => (HP.out _ (o1.out.alloc o)).2; clear x1' x2' ho'; unfold hval)
    | (go_at_call 27; refine (grant_any _ _ ⟨0, 1, [(7, (1, asked))], []⟩ granted term margin 7 1 3 HV.out.is (WalkArith.wf_i64 (by decide)) (by simp)).mono ?_; rw [EG.out]; rintro e W2 ⟨v, rfl, ⟨n1, n2, rfl, x1', x2'⟩, ho'⟩; have HV2 := Lib.hid (HVar.new (h := ⟨0, 1, [], []⟩) x1' x2'); have o2 := Lib.hid ((o1.out.alloc _).then ho' (Nat.le_trans o1.out.size (by simp))); clear p0 p1 q0 q1; obtain ⟨p0, p1⟩ := HP.out _ o2.out; have q0 := fun (o : Obj) => (HP.out _ (o2.out.alloc o)).1; have q1 := fun (o : Obj) => (HP.out _ (o2.out.alloc o)).2; clear x1' x2' ho'; unfold hval)
    | (go_at_call 28; have HB := believes_any _ 0 1 now 7 n1 n2 [] HV2.out.has (WalkArith.wf_i64 (by decide)); unfold hval at HB; (with_reducible refine HB.mono ?_); clear HB; unfold Believed; rw [EB.out]; rintro e W3 ⟨rfl, ho'⟩; have o3 := Lib.hid ((o2.out.alloc _).then ho' (Nat.le_trans o2.out.size (by simp))); clear p0 p1 q0 q1; obtain ⟨p0, p1⟩ := HP.out _ o3.out; have q0 := fun (o : Obj) => (HP.out _ (o3.out.alloc o)).1; have q1 := fun (o : Obj) => (HP.out _ (o3.out.alloc o)).2; clear ho')
    | fail)
  go_ret
  exact ⟨rfl, (hO.out.alloc _).then o4.out (by simp)⟩

set_option maxRecDepth 100000 in
set_option maxHeartbeats 1000000 in
theorem early_B (w : World) (term margin asked granted now : Int) (hd0 : decide (term < 1) = false) (hd1 : decide (1048576 < term) = false) (hd2 : decide (margin < 0) = false) (hd3 : decide (1048576 < margin) = false) (hd4 : decide (asked < 0) = false) (hd5 : decide (1073741824 < asked) = false) (hd6 : decide (granted < asked) = false) (hd7 : decide (1073741824 < granted) = false) (hd8 : decide (now < granted) = false) (hd9 : decide (2147483648 < now) = false) (hu : ¬ asked + term - margin ≤ granted) (hv : asked + term - margin ≤ now) :
    Calls Try.prog 5 #[.agg #[.int .i64 term, .int .i64 margin], .int .i64 asked, .int .i64 granted, .int .i64 now] w (TrueOnly w) := by
  have rr : 1 ≤ term ∧ term ≤ 1048576 ∧ 0 ≤ margin ∧ margin ≤ 1048576 ∧ 0 ≤ asked ∧ asked ≤ 1073741824 ∧ asked ≤ granted ∧ granted ≤ 1073741824 ∧ granted ≤ now ∧ now ≤ 2147483648 := by
    have e0 := of_decide_eq_false hd0; have e1 := of_decide_eq_false hd1; have e2 := of_decide_eq_false hd2; have e3 := of_decide_eq_false hd3; have e4 := of_decide_eq_false hd4
    have e5 := of_decide_eq_false hd5; have e6 := of_decide_eq_false hd6; have e7 := of_decide_eq_false hd7; have e8 := of_decide_eq_false hd8; have e9 := of_decide_eq_false hd9
    omega
  obtain ⟨rr0, rr1, rr2, rr3, rr4, rr5, rr6, rr7, rr8, rr9⟩ := rr
  have EA : Hid (askH ⟨0, 0, [], []⟩ asked 7 = (⟨0, 1, [(7, (1, asked))], []⟩, 1, 0)) := Lib.hid (by simp only [askH]; rw [if_neg (by omega), if_neg (by omega)]; rfl)
  have EG : Hid (grantH ⟨0, 1, [(7, (1, asked))], []⟩ granted term margin 7 1 3 = (⟨0, 1, [], [(7, (3, asked + term - margin))]⟩, 0)) := Lib.hid (by simp only [grantH, mget, List.find?, beq_self_eq_true, Option.map_some]; rw [if_pos trivial, if_neg (by omega)]; rw [if_neg hu]; rfl)
  have EB : Hid (believe [(7, (3, asked + term - margin))] now 7 = (0, false)) := Lib.hid (by simp [believe, mget, hv])
  have ff0 : decide (now < asked + term - margin) = false := decide_eq_false (by omega)
  clear hu hv
  have hO : Hid (Only w.heap.size w.heap.size w w) := Lib.hid (Only.refl _ _ _)
  have HP : Hid (∀ W, Only (w.alloc (.cells #[.int .i64 term, .int .i64 margin] 37)).heap.size (w.alloc (.cells #[.int .i64 term, .int .i64 margin] 37)).heap.size (w.alloc (.cells #[.int .i64 term, .int .i64 margin] 37)) W → W.cell? ⟨w.heap.size, 0, none⟩ = some (.int .i64 term) ∧ W.cell? ⟨w.heap.size, 1, none⟩ = some (.int .i64 margin)) := Lib.hid (fun W o => by
    have hp := pair_at (at_top w (.cells #[.int .i64 term, .int .i64 margin] 37) w.heap.size rfl)
    exact ⟨(o.cell (by simp) (.inl (by simp))).trans hp.1, (o.cell (by simp) (.inl (by simp))).trans hp.2⟩)
  go_enter Try.func5, Try.ntmps5
  go_wp2_with (first
    | (go_at_call 25; refine (awake19 _).mono ?_; rintro e W4 ⟨rfl, ho'⟩; have o4 := Lib.hid (o3.out.then ho' (Nat.le_trans o3.out.size (Nat.le_refl _))); clear p0 p1 q0 q1; obtain ⟨p0, p1⟩ := HP.out _ o4.out; clear ho')
    | (go_at_call 26; refine (ask_any _ _ ⟨0, 0, [], []⟩ asked 7 ⟨none, none, rfl, rfl, rfl⟩ (WalkArith.wf_i64 (by decide)) (by decide)).mono ?_; rw [EA.out]; rintro e W1 ⟨v, rfl, ⟨m1, m2, rfl, x1', x2'⟩, ho'⟩; have HV := Lib.hid (HVar.new (h := ⟨0, 1, [(7, (1, asked))], []⟩) x1' x2'); have o1 := Lib.hid ho'; obtain ⟨p0, p1⟩ := HP.out _ o1.out; have q0 := fun (o : Obj) => (HP.out _ (o1.out.alloc o)).1; have q1 := fun (o : Obj) => (HP.out _ (o1.out.alloc o)).2; clear x1' x2' ho'; unfold hval)
    | (go_at_call 27; refine (grant_any _ _ ⟨0, 1, [(7, (1, asked))], []⟩ granted term margin 7 1 3 HV.out.is (WalkArith.wf_i64 (by decide)) (by simp)).mono ?_; rw [EG.out]; rintro e W2 ⟨v, rfl, ⟨n1, n2, rfl, x1', x2'⟩, ho'⟩; have HV2 := Lib.hid (HVar.new (h := ⟨0, 1, [], [(7, (3, asked + term - margin))]⟩) x1' x2'); have o2 := Lib.hid ((o1.out.alloc _).then ho' (Nat.le_trans o1.out.size (by simp))); clear p0 p1 q0 q1; obtain ⟨p0, p1⟩ := HP.out _ o2.out; have q0 := fun (o : Obj) => (HP.out _ (o2.out.alloc o)).1; have q1 := fun (o : Obj) => (HP.out _ (o2.out.alloc o)).2; clear x1' x2' ho'; unfold hval)
    | (go_at_call 28; have HB := believes_any _ 0 1 now 7 n1 n2 [(7, (3, asked + term - margin))] HV2.out.has (WalkArith.wf_i64 (by decide)); unfold hval at HB; (with_reducible refine HB.mono ?_); clear HB; unfold Believed; rw [EB.out]; rintro e W3 ⟨rfl, ho'⟩; have o3 := Lib.hid ((o2.out.alloc _).then ho' (Nat.le_trans o2.out.size (by simp))); clear p0 p1 q0 q1; obtain ⟨p0, p1⟩ := HP.out _ o3.out; have q0 := fun (o : Obj) => (HP.out _ (o3.out.alloc o)).1; have q1 := fun (o : Obj) => (HP.out _ (o3.out.alloc o)).2; clear ho')
    | fail)
  go_ret
  exact ⟨rfl, (hO.out.alloc _).then o4.out (by simp)⟩

set_option maxRecDepth 100000 in
set_option maxHeartbeats 1000000 in
theorem early_C (w : World) (term margin asked granted now : Int) (hd0 : decide (term < 1) = false) (hd1 : decide (1048576 < term) = false) (hd2 : decide (margin < 0) = false) (hd3 : decide (1048576 < margin) = false) (hd4 : decide (asked < 0) = false) (hd5 : decide (1073741824 < asked) = false) (hd6 : decide (granted < asked) = false) (hd7 : decide (1073741824 < granted) = false) (hd8 : decide (now < granted) = false) (hd9 : decide (2147483648 < now) = false) (hu : ¬ asked + term - margin ≤ granted) (hv : ¬ asked + term - margin ≤ now) :
    Calls Try.prog 5 #[.agg #[.int .i64 term, .int .i64 margin], .int .i64 asked, .int .i64 granted, .int .i64 now] w (TrueOnly w) := by
  have rr : 1 ≤ term ∧ term ≤ 1048576 ∧ 0 ≤ margin ∧ margin ≤ 1048576 ∧ 0 ≤ asked ∧ asked ≤ 1073741824 ∧ asked ≤ granted ∧ granted ≤ 1073741824 ∧ granted ≤ now ∧ now ≤ 2147483648 := by
    have e0 := of_decide_eq_false hd0; have e1 := of_decide_eq_false hd1; have e2 := of_decide_eq_false hd2; have e3 := of_decide_eq_false hd3; have e4 := of_decide_eq_false hd4
    have e5 := of_decide_eq_false hd5; have e6 := of_decide_eq_false hd6; have e7 := of_decide_eq_false hd7; have e8 := of_decide_eq_false hd8; have e9 := of_decide_eq_false hd9
    omega
  obtain ⟨rr0, rr1, rr2, rr3, rr4, rr5, rr6, rr7, rr8, rr9⟩ := rr
  have EA : Hid (askH ⟨0, 0, [], []⟩ asked 7 = (⟨0, 1, [(7, (1, asked))], []⟩, 1, 0)) := Lib.hid (by simp only [askH]; rw [if_neg (by omega), if_neg (by omega)]; rfl)
  have EG : Hid (grantH ⟨0, 1, [(7, (1, asked))], []⟩ granted term margin 7 1 3 = (⟨0, 1, [], [(7, (3, asked + term - margin))]⟩, 0)) := Lib.hid (by simp only [grantH, mget, List.find?, beq_self_eq_true, Option.map_some]; rw [if_pos trivial, if_neg (by omega)]; rw [if_neg hu]; rfl)
  have EB : Hid (believe [(7, (3, asked + term - margin))] now 7 = (3, true)) := Lib.hid (by simp [believe, mget, hv])
  have ff0 : decide (now < asked + term - margin) = true := decide_eq_true (by omega)
  have ff2 : decide (now < granted + term) = true := decide_eq_true (by omega)
  clear hu hv
  have hO : Hid (Only w.heap.size w.heap.size w w) := Lib.hid (Only.refl _ _ _)
  have HP : Hid (∀ W, Only (w.alloc (.cells #[.int .i64 term, .int .i64 margin] 37)).heap.size (w.alloc (.cells #[.int .i64 term, .int .i64 margin] 37)).heap.size (w.alloc (.cells #[.int .i64 term, .int .i64 margin] 37)) W → W.cell? ⟨w.heap.size, 0, none⟩ = some (.int .i64 term) ∧ W.cell? ⟨w.heap.size, 1, none⟩ = some (.int .i64 margin)) := Lib.hid (fun W o => by
    have hp := pair_at (at_top w (.cells #[.int .i64 term, .int .i64 margin] 37) w.heap.size rfl)
    exact ⟨(o.cell (by simp) (.inl (by simp))).trans hp.1, (o.cell (by simp) (.inl (by simp))).trans hp.2⟩)
  go_enter Try.func5, Try.ntmps5
  go_wp2_with (first
    | (go_at_call 25; refine (awake19 _).mono ?_; rintro e W4 ⟨rfl, ho'⟩; have o4 := Lib.hid (o3.out.then ho' (Nat.le_trans o3.out.size (Nat.le_refl _))); clear p0 p1 q0 q1; obtain ⟨p0, p1⟩ := HP.out _ o4.out; clear ho')
    | (go_at_call 26; refine (ask_any _ _ ⟨0, 0, [], []⟩ asked 7 ⟨none, none, rfl, rfl, rfl⟩ (WalkArith.wf_i64 (by decide)) (by decide)).mono ?_; rw [EA.out]; rintro e W1 ⟨v, rfl, ⟨m1, m2, rfl, x1', x2'⟩, ho'⟩; have HV := Lib.hid (HVar.new (h := ⟨0, 1, [(7, (1, asked))], []⟩) x1' x2'); have o1 := Lib.hid ho'; obtain ⟨p0, p1⟩ := HP.out _ o1.out; have q0 := fun (o : Obj) => (HP.out _ (o1.out.alloc o)).1; have q1 := fun (o : Obj) => (HP.out _ (o1.out.alloc o)).2; clear x1' x2' ho'; unfold hval)
    | (go_at_call 27; refine (grant_any _ _ ⟨0, 1, [(7, (1, asked))], []⟩ granted term margin 7 1 3 HV.out.is (WalkArith.wf_i64 (by decide)) (by simp)).mono ?_; rw [EG.out]; rintro e W2 ⟨v, rfl, ⟨n1, n2, rfl, x1', x2'⟩, ho'⟩; have HV2 := Lib.hid (HVar.new (h := ⟨0, 1, [], [(7, (3, asked + term - margin))]⟩) x1' x2'); have o2 := Lib.hid ((o1.out.alloc _).then ho' (Nat.le_trans o1.out.size (by simp))); clear p0 p1 q0 q1; obtain ⟨p0, p1⟩ := HP.out _ o2.out; have q0 := fun (o : Obj) => (HP.out _ (o2.out.alloc o)).1; have q1 := fun (o : Obj) => (HP.out _ (o2.out.alloc o)).2; clear x1' x2' ho'; unfold hval)
    | (go_at_call 28; have HB := believes_any _ 0 1 now 7 n1 n2 [(7, (3, asked + term - margin))] HV2.out.has (WalkArith.wf_i64 (by decide)); unfold hval at HB; (with_reducible refine HB.mono ?_); clear HB; unfold Believed; rw [EB.out]; rintro e W3 ⟨rfl, ho'⟩; have o3 := Lib.hid ((o2.out.alloc _).then ho' (Nat.le_trans o2.out.size (by simp))); clear p0 p1 q0 q1; obtain ⟨p0, p1⟩ := HP.out _ o3.out; have q0 := fun (o : Obj) => (HP.out _ (o3.out.alloc o)).1; have q1 := fun (o : Obj) => (HP.out _ (o3.out.alloc o)).2; clear ho')
    | fail)
  go_ret
  exact ⟨rfl, (hO.out.alloc _).then o4.out (by simp)⟩

theorem early_any (w : World) (term margin asked granted now : Int) :
    Calls Try.prog 5 #[.agg #[.int .i64 term, .int .i64 margin], .int .i64 asked, .int .i64 granted, .int .i64 now] w (TrueOnly w) := by
  by_cases c0 : term < 1
  · exact early_arg0 w term margin asked granted now  (decide_eq_true c0)
  have f0 : decide (term < 1) = false := decide_eq_false c0
  by_cases c1 : 1048576 < term
  · exact early_arg1 w term margin asked granted now f0 (decide_eq_true c1)
  have f1 : decide (1048576 < term) = false := decide_eq_false c1
  by_cases c2 : margin < 0
  · exact early_arg2 w term margin asked granted now f0 f1 (decide_eq_true c2)
  have f2 : decide (margin < 0) = false := decide_eq_false c2
  by_cases c3 : 1048576 < margin
  · exact early_arg3 w term margin asked granted now f0 f1 f2 (decide_eq_true c3)
  have f3 : decide (1048576 < margin) = false := decide_eq_false c3
  by_cases c4 : asked < 0
  · exact early_arg4 w term margin asked granted now f0 f1 f2 f3 (decide_eq_true c4)
  have f4 : decide (asked < 0) = false := decide_eq_false c4
  by_cases c5 : 1073741824 < asked
  · exact early_arg5 w term margin asked granted now f0 f1 f2 f3 f4 (decide_eq_true c5)
  have f5 : decide (1073741824 < asked) = false := decide_eq_false c5
  by_cases c6 : granted < asked
  · exact early_arg6 w term margin asked granted now f0 f1 f2 f3 f4 f5 (decide_eq_true c6)
  have f6 : decide (granted < asked) = false := decide_eq_false c6
  by_cases c7 : 1073741824 < granted
  · exact early_arg7 w term margin asked granted now f0 f1 f2 f3 f4 f5 f6 (decide_eq_true c7)
  have f7 : decide (1073741824 < granted) = false := decide_eq_false c7
  by_cases c8 : now < granted
  · exact early_arg8 w term margin asked granted now f0 f1 f2 f3 f4 f5 f6 f7 (decide_eq_true c8)
  have f8 : decide (now < granted) = false := decide_eq_false c8
  by_cases c9 : 2147483648 < now
  · exact early_arg9 w term margin asked granted now f0 f1 f2 f3 f4 f5 f6 f7 f8 (decide_eq_true c9)
  have f9 : decide (2147483648 < now) = false := decide_eq_false c9
  by_cases hu : asked + term - margin ≤ granted
  · exact early_L w term margin asked granted now f0 f1 f2 f3 f4 f5 f6 f7 f8 f9 hu
  by_cases hv : asked + term - margin ≤ now
  · exact early_B w term margin asked granted now f0 f1 f2 f3 f4 f5 f6 f7 f8 f9 hu hv
  exact early_C w term margin asked granted now f0 f1 f2 f3 f4 f5 f6 f7 f8 f9 hu hv
end Go.Proofs.Ytefllgpehhlkoaa
