/-
  The holder (layer 19): Granted. (Printed by wip/tools/hold6.py.)
-/
import Derived.Test.YtefllgpehhlkoaaHold5
namespace Go.Proofs.Ytefllgpehhlkoaa
open Go.RowKit
set_option linter.unusedVariables false

/-- until when a lease is believed in -/
def until' (ys : Pairs) (place epoch u : Int) : Int :=
  match mget ys place with
  | none => u
  | some y => if y.1 = epoch then max u y.2 else u
/-- Granted: the state, the error -/
def grantH (h : HS) (now term margin place num epoch : Int) : HS × Int :=
  match mget h.wants place with
  | none => (h, 8)
  | some x =>
    if x.1 = num then
      if term < 1 ∨ 1048576 < term ∨ margin < 0 ∨ 1048576 < margin ∨ now < 0 ∨ 1099511627776 < now ∨ x.2 < 0 ∨ 1099511627776 < x.2 then (h, 1)
      else if x.2 + term - margin ≤ now then (⟨h.life, h.count, mdel h.wants place, h.has⟩, 16)
      else (⟨h.life, h.count, mdel h.wants place, mput h.has place (epoch, until' h.has place epoch (x.2 + term - margin))⟩, 0)
    else (h, 14)

theorem Box.again {w w' : World} {x b : Nat} {o : Obj} {life count : Int} {mw mh : Option Nat} (h : Box w x life count mw mh) (hx : x < w.heap.size) (g : Only b (b + 1) (w.alloc o) w') (hne : x ≠ b) : Box w' x life count mw mh :=
  (h.kept ((Only.refl w.heap.size w.heap.size w).alloc _) hx (.inl hx)).kept g (by simp; omega) (by omega)

set_option maxRecDepth 100000 in
set_option maxHeartbeats 1000000 in
theorem grant_none (w : World) (life count now term margin place num epoch : Int) (wants has : Pairs) (mw mh : Option Nat) (h1 : Hid (MapIs pairE w mw wants)) (h2 : Hid (MapIs pairE w mh has)) (hl : (Instr.lookup 38 (.map mw) (.int .i64 place) true).run Try.prog (((w.alloc (.cells #[.int .i64 life, .int .i64 count, .map mw, .map mh] 41)).alloc (.cells #[.int .i64 term, .int .i64 margin] 37)).alloc (.cells #[.int .i64 0, .int .i64 0, .map none, .map none] 41)) = .ok (got pairE (mget wants place)) (((w.alloc (.cells #[.int .i64 life, .int .i64 count, .map mw, .map mh] 41)).alloc (.cells #[.int .i64 term, .int .i64 margin] 37)).alloc (.cells #[.int .i64 0, .int .i64 0, .map none, .map none] 41))) (hm : mget wants place = none) (hB : Hid (grantH ⟨life, count, wants, has⟩ now term margin place num epoch = (⟨life, count, wants, has⟩, 8))) :
    Calls Try.prog 27 #[hval life count mw mh, .int .i64 now, .agg #[.int .i64 term, .int .i64 margin], .int .i64 place, .int .i64 num, .int .i64 epoch] w (Told w (grantH ⟨life, count, wants, has⟩ now term margin place num epoch)) := by
  have hO : Hid (Only w.heap.size w.heap.size w w) := Lib.hid (Only.refl _ _ _)
  rw [hm] at hl
  simp only [got, pairE, Option.getD_none, Option.isSome_none] at hl
  unfold hval
  go_enter Try.func27, Try.ntmps27
  go_wp2
  refine bodyPost_ret (v := .tuple #[hval life count mw mh, .int .i64 8]) (by simp [results, Try.results27, go_sem, hval]) rfl ?_
  rw [hB.out]
  exact ⟨_, rfl, ⟨mw, mh, rfl, h1.out.kept ((((hO.out.alloc _).alloc _).alloc _).alloc _) (by omega), h2.out.kept ((((hO.out.alloc _).alloc _).alloc _).alloc _) (by omega)⟩, (((hO.out.alloc _).alloc _).alloc _).alloc _⟩

set_option maxRecDepth 100000 in
set_option maxHeartbeats 1000000 in
theorem grant_old (w : World) (life count now term margin place num epoch : Int) (wants has : Pairs) (mw mh : Option Nat) (h1 : Hid (MapIs pairE w mw wants)) (h2 : Hid (MapIs pairE w mh has)) (hl : (Instr.lookup 38 (.map mw) (.int .i64 place) true).run Try.prog (((w.alloc (.cells #[.int .i64 life, .int .i64 count, .map mw, .map mh] 41)).alloc (.cells #[.int .i64 term, .int .i64 margin] 37)).alloc (.cells #[.int .i64 0, .int .i64 0, .map none, .map none] 41)) = .ok (got pairE (mget wants place)) (((w.alloc (.cells #[.int .i64 life, .int .i64 count, .map mw, .map mh] 41)).alloc (.cells #[.int .i64 term, .int .i64 margin] 37)).alloc (.cells #[.int .i64 0, .int .i64 0, .map none, .map none] 41))) (n t : Int) (hm : mget wants place = some (n, t)) (hne : ¬ n = num) (hd : decide (n = num) = false) (hB : Hid (grantH ⟨life, count, wants, has⟩ now term margin place num epoch = (⟨life, count, wants, has⟩, 14))) :
    Calls Try.prog 27 #[hval life count mw mh, .int .i64 now, .agg #[.int .i64 term, .int .i64 margin], .int .i64 place, .int .i64 num, .int .i64 epoch] w (Told w (grantH ⟨life, count, wants, has⟩ now term margin place num epoch)) := by
  have hO : Hid (Only w.heap.size w.heap.size w w) := Lib.hid (Only.refl _ _ _)
  rw [hm] at hl
  simp only [got, pairE, Option.getD_some, Option.isSome_some] at hl
  unfold hval
  go_enter Try.func27, Try.ntmps27
  go_wp2
  refine bodyPost_ret (v := .tuple #[hval life count mw mh, .int .i64 14]) (by simp [results, Try.results27, go_sem, hval]) rfl ?_
  rw [hB.out]
  exact ⟨_, rfl, ⟨mw, mh, rfl, h1.out.kept ((((hO.out.alloc _).alloc _).alloc _).alloc _) (by omega), h2.out.kept ((((hO.out.alloc _).alloc _).alloc _).alloc _) (by omega)⟩, (((hO.out.alloc _).alloc _).alloc _).alloc _⟩

set_option maxRecDepth 100000 in
set_option maxHeartbeats 1000000 in
theorem grant_arg0 (w : World) (life count now term margin place num epoch : Int) (wants has : Pairs) (mw mh : Option Nat) (h1 : Hid (MapIs pairE w mw wants)) (h2 : Hid (MapIs pairE w mh has)) (hl : (Instr.lookup 38 (.map mw) (.int .i64 place) true).run Try.prog (((w.alloc (.cells #[.int .i64 life, .int .i64 count, .map mw, .map mh] 41)).alloc (.cells #[.int .i64 term, .int .i64 margin] 37)).alloc (.cells #[.int .i64 0, .int .i64 0, .map none, .map none] 41)) = .ok (got pairE (mget wants place)) (((w.alloc (.cells #[.int .i64 life, .int .i64 count, .map mw, .map mh] 41)).alloc (.cells #[.int .i64 term, .int .i64 margin] 37)).alloc (.cells #[.int .i64 0, .int .i64 0, .map none, .map none] 41))) (t : Int) (hm : mget wants place = some (num, t)) (hd0 : decide (term < 1) = true) (hB : Hid (grantH ⟨life, count, wants, has⟩ now term margin place num epoch = (⟨life, count, wants, has⟩, 1))) :
    Calls Try.prog 27 #[hval life count mw mh, .int .i64 now, .agg #[.int .i64 term, .int .i64 margin], .int .i64 place, .int .i64 num, .int .i64 epoch] w (Told w (grantH ⟨life, count, wants, has⟩ now term margin place num epoch)) := by
  have hO : Hid (Only w.heap.size w.heap.size w w) := Lib.hid (Only.refl _ _ _)
  rw [hm] at hl
  simp only [got, pairE, Option.getD_some, Option.isSome_some] at hl
  unfold hval
  go_enter Try.func27, Try.ntmps27
  go_wp2
  refine bodyPost_ret (v := .tuple #[hval life count mw mh, .int .i64 1]) (by simp [results, Try.results27, go_sem, hval]) rfl ?_
  rw [hB.out]
  exact ⟨_, rfl, ⟨mw, mh, rfl, h1.out.kept ((((hO.out.alloc _).alloc _).alloc _).alloc _) (by omega), h2.out.kept ((((hO.out.alloc _).alloc _).alloc _).alloc _) (by omega)⟩, (((hO.out.alloc _).alloc _).alloc _).alloc _⟩

set_option maxRecDepth 100000 in
set_option maxHeartbeats 1000000 in
theorem grant_arg1 (w : World) (life count now term margin place num epoch : Int) (wants has : Pairs) (mw mh : Option Nat) (h1 : Hid (MapIs pairE w mw wants)) (h2 : Hid (MapIs pairE w mh has)) (hl : (Instr.lookup 38 (.map mw) (.int .i64 place) true).run Try.prog (((w.alloc (.cells #[.int .i64 life, .int .i64 count, .map mw, .map mh] 41)).alloc (.cells #[.int .i64 term, .int .i64 margin] 37)).alloc (.cells #[.int .i64 0, .int .i64 0, .map none, .map none] 41)) = .ok (got pairE (mget wants place)) (((w.alloc (.cells #[.int .i64 life, .int .i64 count, .map mw, .map mh] 41)).alloc (.cells #[.int .i64 term, .int .i64 margin] 37)).alloc (.cells #[.int .i64 0, .int .i64 0, .map none, .map none] 41))) (t : Int) (hm : mget wants place = some (num, t)) (hd0 : decide (term < 1) = false) (hd1 : decide (1048576 < term) = true) (hB : Hid (grantH ⟨life, count, wants, has⟩ now term margin place num epoch = (⟨life, count, wants, has⟩, 1))) :
    Calls Try.prog 27 #[hval life count mw mh, .int .i64 now, .agg #[.int .i64 term, .int .i64 margin], .int .i64 place, .int .i64 num, .int .i64 epoch] w (Told w (grantH ⟨life, count, wants, has⟩ now term margin place num epoch)) := by
  have hO : Hid (Only w.heap.size w.heap.size w w) := Lib.hid (Only.refl _ _ _)
  rw [hm] at hl
  simp only [got, pairE, Option.getD_some, Option.isSome_some] at hl
  unfold hval
  go_enter Try.func27, Try.ntmps27
  go_wp2
  refine bodyPost_ret (v := .tuple #[hval life count mw mh, .int .i64 1]) (by simp [results, Try.results27, go_sem, hval]) rfl ?_
  rw [hB.out]
  exact ⟨_, rfl, ⟨mw, mh, rfl, h1.out.kept ((((hO.out.alloc _).alloc _).alloc _).alloc _) (by omega), h2.out.kept ((((hO.out.alloc _).alloc _).alloc _).alloc _) (by omega)⟩, (((hO.out.alloc _).alloc _).alloc _).alloc _⟩

set_option maxRecDepth 100000 in
set_option maxHeartbeats 1000000 in
theorem grant_arg2 (w : World) (life count now term margin place num epoch : Int) (wants has : Pairs) (mw mh : Option Nat) (h1 : Hid (MapIs pairE w mw wants)) (h2 : Hid (MapIs pairE w mh has)) (hl : (Instr.lookup 38 (.map mw) (.int .i64 place) true).run Try.prog (((w.alloc (.cells #[.int .i64 life, .int .i64 count, .map mw, .map mh] 41)).alloc (.cells #[.int .i64 term, .int .i64 margin] 37)).alloc (.cells #[.int .i64 0, .int .i64 0, .map none, .map none] 41)) = .ok (got pairE (mget wants place)) (((w.alloc (.cells #[.int .i64 life, .int .i64 count, .map mw, .map mh] 41)).alloc (.cells #[.int .i64 term, .int .i64 margin] 37)).alloc (.cells #[.int .i64 0, .int .i64 0, .map none, .map none] 41))) (t : Int) (hm : mget wants place = some (num, t)) (hd0 : decide (term < 1) = false) (hd1 : decide (1048576 < term) = false) (hd2 : decide (margin < 0) = true) (hB : Hid (grantH ⟨life, count, wants, has⟩ now term margin place num epoch = (⟨life, count, wants, has⟩, 1))) :
    Calls Try.prog 27 #[hval life count mw mh, .int .i64 now, .agg #[.int .i64 term, .int .i64 margin], .int .i64 place, .int .i64 num, .int .i64 epoch] w (Told w (grantH ⟨life, count, wants, has⟩ now term margin place num epoch)) := by
  have hO : Hid (Only w.heap.size w.heap.size w w) := Lib.hid (Only.refl _ _ _)
  rw [hm] at hl
  simp only [got, pairE, Option.getD_some, Option.isSome_some] at hl
  unfold hval
  go_enter Try.func27, Try.ntmps27
  go_wp2
  refine bodyPost_ret (v := .tuple #[hval life count mw mh, .int .i64 1]) (by simp [results, Try.results27, go_sem, hval]) rfl ?_
  rw [hB.out]
  exact ⟨_, rfl, ⟨mw, mh, rfl, h1.out.kept ((((hO.out.alloc _).alloc _).alloc _).alloc _) (by omega), h2.out.kept ((((hO.out.alloc _).alloc _).alloc _).alloc _) (by omega)⟩, (((hO.out.alloc _).alloc _).alloc _).alloc _⟩

set_option maxRecDepth 100000 in
set_option maxHeartbeats 1000000 in
theorem grant_arg3 (w : World) (life count now term margin place num epoch : Int) (wants has : Pairs) (mw mh : Option Nat) (h1 : Hid (MapIs pairE w mw wants)) (h2 : Hid (MapIs pairE w mh has)) (hl : (Instr.lookup 38 (.map mw) (.int .i64 place) true).run Try.prog (((w.alloc (.cells #[.int .i64 life, .int .i64 count, .map mw, .map mh] 41)).alloc (.cells #[.int .i64 term, .int .i64 margin] 37)).alloc (.cells #[.int .i64 0, .int .i64 0, .map none, .map none] 41)) = .ok (got pairE (mget wants place)) (((w.alloc (.cells #[.int .i64 life, .int .i64 count, .map mw, .map mh] 41)).alloc (.cells #[.int .i64 term, .int .i64 margin] 37)).alloc (.cells #[.int .i64 0, .int .i64 0, .map none, .map none] 41))) (t : Int) (hm : mget wants place = some (num, t)) (hd0 : decide (term < 1) = false) (hd1 : decide (1048576 < term) = false) (hd2 : decide (margin < 0) = false) (hd3 : decide (1048576 < margin) = true) (hB : Hid (grantH ⟨life, count, wants, has⟩ now term margin place num epoch = (⟨life, count, wants, has⟩, 1))) :
    Calls Try.prog 27 #[hval life count mw mh, .int .i64 now, .agg #[.int .i64 term, .int .i64 margin], .int .i64 place, .int .i64 num, .int .i64 epoch] w (Told w (grantH ⟨life, count, wants, has⟩ now term margin place num epoch)) := by
  have hO : Hid (Only w.heap.size w.heap.size w w) := Lib.hid (Only.refl _ _ _)
  rw [hm] at hl
  simp only [got, pairE, Option.getD_some, Option.isSome_some] at hl
  unfold hval
  go_enter Try.func27, Try.ntmps27
  go_wp2
  refine bodyPost_ret (v := .tuple #[hval life count mw mh, .int .i64 1]) (by simp [results, Try.results27, go_sem, hval]) rfl ?_
  rw [hB.out]
  exact ⟨_, rfl, ⟨mw, mh, rfl, h1.out.kept ((((hO.out.alloc _).alloc _).alloc _).alloc _) (by omega), h2.out.kept ((((hO.out.alloc _).alloc _).alloc _).alloc _) (by omega)⟩, (((hO.out.alloc _).alloc _).alloc _).alloc _⟩

set_option maxRecDepth 100000 in
set_option maxHeartbeats 1000000 in
theorem grant_arg4 (w : World) (life count now term margin place num epoch : Int) (wants has : Pairs) (mw mh : Option Nat) (h1 : Hid (MapIs pairE w mw wants)) (h2 : Hid (MapIs pairE w mh has)) (hl : (Instr.lookup 38 (.map mw) (.int .i64 place) true).run Try.prog (((w.alloc (.cells #[.int .i64 life, .int .i64 count, .map mw, .map mh] 41)).alloc (.cells #[.int .i64 term, .int .i64 margin] 37)).alloc (.cells #[.int .i64 0, .int .i64 0, .map none, .map none] 41)) = .ok (got pairE (mget wants place)) (((w.alloc (.cells #[.int .i64 life, .int .i64 count, .map mw, .map mh] 41)).alloc (.cells #[.int .i64 term, .int .i64 margin] 37)).alloc (.cells #[.int .i64 0, .int .i64 0, .map none, .map none] 41))) (t : Int) (hm : mget wants place = some (num, t)) (hd0 : decide (term < 1) = false) (hd1 : decide (1048576 < term) = false) (hd2 : decide (margin < 0) = false) (hd3 : decide (1048576 < margin) = false) (hd4 : decide (now < 0) = true) (hB : Hid (grantH ⟨life, count, wants, has⟩ now term margin place num epoch = (⟨life, count, wants, has⟩, 1))) :
    Calls Try.prog 27 #[hval life count mw mh, .int .i64 now, .agg #[.int .i64 term, .int .i64 margin], .int .i64 place, .int .i64 num, .int .i64 epoch] w (Told w (grantH ⟨life, count, wants, has⟩ now term margin place num epoch)) := by
  have hO : Hid (Only w.heap.size w.heap.size w w) := Lib.hid (Only.refl _ _ _)
  rw [hm] at hl
  simp only [got, pairE, Option.getD_some, Option.isSome_some] at hl
  unfold hval
  go_enter Try.func27, Try.ntmps27
  go_wp2
  refine bodyPost_ret (v := .tuple #[hval life count mw mh, .int .i64 1]) (by simp [results, Try.results27, go_sem, hval]) rfl ?_
  rw [hB.out]
  exact ⟨_, rfl, ⟨mw, mh, rfl, h1.out.kept ((((hO.out.alloc _).alloc _).alloc _).alloc _) (by omega), h2.out.kept ((((hO.out.alloc _).alloc _).alloc _).alloc _) (by omega)⟩, (((hO.out.alloc _).alloc _).alloc _).alloc _⟩

set_option maxRecDepth 100000 in
set_option maxHeartbeats 1000000 in
theorem grant_arg5 (w : World) (life count now term margin place num epoch : Int) (wants has : Pairs) (mw mh : Option Nat) (h1 : Hid (MapIs pairE w mw wants)) (h2 : Hid (MapIs pairE w mh has)) (hl : (Instr.lookup 38 (.map mw) (.int .i64 place) true).run Try.prog (((w.alloc (.cells #[.int .i64 life, .int .i64 count, .map mw, .map mh] 41)).alloc (.cells #[.int .i64 term, .int .i64 margin] 37)).alloc (.cells #[.int .i64 0, .int .i64 0, .map none, .map none] 41)) = .ok (got pairE (mget wants place)) (((w.alloc (.cells #[.int .i64 life, .int .i64 count, .map mw, .map mh] 41)).alloc (.cells #[.int .i64 term, .int .i64 margin] 37)).alloc (.cells #[.int .i64 0, .int .i64 0, .map none, .map none] 41))) (t : Int) (hm : mget wants place = some (num, t)) (hd0 : decide (term < 1) = false) (hd1 : decide (1048576 < term) = false) (hd2 : decide (margin < 0) = false) (hd3 : decide (1048576 < margin) = false) (hd4 : decide (now < 0) = false) (hd5 : decide (1099511627776 < now) = true) (hB : Hid (grantH ⟨life, count, wants, has⟩ now term margin place num epoch = (⟨life, count, wants, has⟩, 1))) :
    Calls Try.prog 27 #[hval life count mw mh, .int .i64 now, .agg #[.int .i64 term, .int .i64 margin], .int .i64 place, .int .i64 num, .int .i64 epoch] w (Told w (grantH ⟨life, count, wants, has⟩ now term margin place num epoch)) := by
  have hO : Hid (Only w.heap.size w.heap.size w w) := Lib.hid (Only.refl _ _ _)
  rw [hm] at hl
  simp only [got, pairE, Option.getD_some, Option.isSome_some] at hl
  unfold hval
  go_enter Try.func27, Try.ntmps27
  go_wp2
  refine bodyPost_ret (v := .tuple #[hval life count mw mh, .int .i64 1]) (by simp [results, Try.results27, go_sem, hval]) rfl ?_
  rw [hB.out]
  exact ⟨_, rfl, ⟨mw, mh, rfl, h1.out.kept ((((hO.out.alloc _).alloc _).alloc _).alloc _) (by omega), h2.out.kept ((((hO.out.alloc _).alloc _).alloc _).alloc _) (by omega)⟩, (((hO.out.alloc _).alloc _).alloc _).alloc _⟩

set_option maxRecDepth 100000 in
set_option maxHeartbeats 1000000 in
theorem grant_arg6 (w : World) (life count now term margin place num epoch : Int) (wants has : Pairs) (mw mh : Option Nat) (h1 : Hid (MapIs pairE w mw wants)) (h2 : Hid (MapIs pairE w mh has)) (hl : (Instr.lookup 38 (.map mw) (.int .i64 place) true).run Try.prog (((w.alloc (.cells #[.int .i64 life, .int .i64 count, .map mw, .map mh] 41)).alloc (.cells #[.int .i64 term, .int .i64 margin] 37)).alloc (.cells #[.int .i64 0, .int .i64 0, .map none, .map none] 41)) = .ok (got pairE (mget wants place)) (((w.alloc (.cells #[.int .i64 life, .int .i64 count, .map mw, .map mh] 41)).alloc (.cells #[.int .i64 term, .int .i64 margin] 37)).alloc (.cells #[.int .i64 0, .int .i64 0, .map none, .map none] 41))) (t : Int) (hm : mget wants place = some (num, t)) (hd0 : decide (term < 1) = false) (hd1 : decide (1048576 < term) = false) (hd2 : decide (margin < 0) = false) (hd3 : decide (1048576 < margin) = false) (hd4 : decide (now < 0) = false) (hd5 : decide (1099511627776 < now) = false) (hd6 : decide (t < 0) = true) (hB : Hid (grantH ⟨life, count, wants, has⟩ now term margin place num epoch = (⟨life, count, wants, has⟩, 1))) :
    Calls Try.prog 27 #[hval life count mw mh, .int .i64 now, .agg #[.int .i64 term, .int .i64 margin], .int .i64 place, .int .i64 num, .int .i64 epoch] w (Told w (grantH ⟨life, count, wants, has⟩ now term margin place num epoch)) := by
  have hO : Hid (Only w.heap.size w.heap.size w w) := Lib.hid (Only.refl _ _ _)
  rw [hm] at hl
  simp only [got, pairE, Option.getD_some, Option.isSome_some] at hl
  unfold hval
  go_enter Try.func27, Try.ntmps27
  go_wp2
  refine bodyPost_ret (v := .tuple #[hval life count mw mh, .int .i64 1]) (by simp [results, Try.results27, go_sem, hval]) rfl ?_
  rw [hB.out]
  exact ⟨_, rfl, ⟨mw, mh, rfl, h1.out.kept ((((hO.out.alloc _).alloc _).alloc _).alloc _) (by omega), h2.out.kept ((((hO.out.alloc _).alloc _).alloc _).alloc _) (by omega)⟩, (((hO.out.alloc _).alloc _).alloc _).alloc _⟩

set_option maxRecDepth 100000 in
set_option maxHeartbeats 1000000 in
theorem grant_arg7 (w : World) (life count now term margin place num epoch : Int) (wants has : Pairs) (mw mh : Option Nat) (h1 : Hid (MapIs pairE w mw wants)) (h2 : Hid (MapIs pairE w mh has)) (hl : (Instr.lookup 38 (.map mw) (.int .i64 place) true).run Try.prog (((w.alloc (.cells #[.int .i64 life, .int .i64 count, .map mw, .map mh] 41)).alloc (.cells #[.int .i64 term, .int .i64 margin] 37)).alloc (.cells #[.int .i64 0, .int .i64 0, .map none, .map none] 41)) = .ok (got pairE (mget wants place)) (((w.alloc (.cells #[.int .i64 life, .int .i64 count, .map mw, .map mh] 41)).alloc (.cells #[.int .i64 term, .int .i64 margin] 37)).alloc (.cells #[.int .i64 0, .int .i64 0, .map none, .map none] 41))) (t : Int) (hm : mget wants place = some (num, t)) (hd0 : decide (term < 1) = false) (hd1 : decide (1048576 < term) = false) (hd2 : decide (margin < 0) = false) (hd3 : decide (1048576 < margin) = false) (hd4 : decide (now < 0) = false) (hd5 : decide (1099511627776 < now) = false) (hd6 : decide (t < 0) = false) (hd7 : decide (1099511627776 < t) = true) (hB : Hid (grantH ⟨life, count, wants, has⟩ now term margin place num epoch = (⟨life, count, wants, has⟩, 1))) :
    Calls Try.prog 27 #[hval life count mw mh, .int .i64 now, .agg #[.int .i64 term, .int .i64 margin], .int .i64 place, .int .i64 num, .int .i64 epoch] w (Told w (grantH ⟨life, count, wants, has⟩ now term margin place num epoch)) := by
  have hO : Hid (Only w.heap.size w.heap.size w w) := Lib.hid (Only.refl _ _ _)
  rw [hm] at hl
  simp only [got, pairE, Option.getD_some, Option.isSome_some] at hl
  unfold hval
  go_enter Try.func27, Try.ntmps27
  go_wp2
  refine bodyPost_ret (v := .tuple #[hval life count mw mh, .int .i64 1]) (by simp [results, Try.results27, go_sem, hval]) rfl ?_
  rw [hB.out]
  exact ⟨_, rfl, ⟨mw, mh, rfl, h1.out.kept ((((hO.out.alloc _).alloc _).alloc _).alloc _) (by omega), h2.out.kept ((((hO.out.alloc _).alloc _).alloc _).alloc _) (by omega)⟩, (((hO.out.alloc _).alloc _).alloc _).alloc _⟩

set_option maxRecDepth 100000 in
set_option maxHeartbeats 1000000 in
theorem grant_late (w : World) (life count now term margin place num epoch : Int) (wants has : Pairs) (mw mh : Option Nat) (h1 : Hid (MapIs pairE w mw wants)) (h2 : Hid (MapIs pairE w mh has)) (hl : (Instr.lookup 38 (.map mw) (.int .i64 place) true).run Try.prog (((w.alloc (.cells #[.int .i64 life, .int .i64 count, .map mw, .map mh] 41)).alloc (.cells #[.int .i64 term, .int .i64 margin] 37)).alloc (.cells #[.int .i64 0, .int .i64 0, .map none, .map none] 41)) = .ok (got pairE (mget wants place)) (((w.alloc (.cells #[.int .i64 life, .int .i64 count, .map mw, .map mh] 41)).alloc (.cells #[.int .i64 term, .int .i64 margin] 37)).alloc (.cells #[.int .i64 0, .int .i64 0, .map none, .map none] 41))) (t : Int) (hm : mget wants place = some (num, t)) (HK : Hid ((Lit.int .i64 place).wf = true)) (HN : Hid (has.length < 1000000)) (hd0 : decide (term < 1) = false) (hd1 : decide (1048576 < term) = false) (hd2 : decide (margin < 0) = false) (hd3 : decide (1048576 < margin) = false) (hd4 : decide (now < 0) = false) (hd5 : decide (1099511627776 < now) = false) (hd6 : decide (t < 0) = false) (hd7 : decide (1099511627776 < t) = false) (rt : 1 ≤ term ∧ term ≤ 1048576 ∧ 0 ≤ margin ∧ margin ≤ 1048576 ∧ 0 ≤ t ∧ t ≤ 1099511627776) (hu : decide (t + term - margin ≤ now) = true) (hB : Hid (grantH ⟨life, count, wants, has⟩ now term margin place num epoch = (⟨life, count, mdel wants place, has⟩, 16))) :
    Calls Try.prog 27 #[hval life count mw mh, .int .i64 now, .agg #[.int .i64 term, .int .i64 margin], .int .i64 place, .int .i64 num, .int .i64 epoch] w (Told w (grantH ⟨life, count, wants, has⟩ now term margin place num epoch)) := by
  have hO : Hid (Only w.heap.size w.heap.size w w) := Lib.hid (Only.refl _ _ _)
  rw [hm] at hl
  simp only [got, pairE, Option.getD_some, Option.isSome_some] at hl
  have RB : Hid (Box ((((w.alloc (.cells #[.int .i64 life, .int .i64 count, .map mw, .map mh] 41)).alloc (.cells #[.int .i64 term, .int .i64 margin] 37)).alloc (.cells #[.int .i64 0, .int .i64 0, .map none, .map none] 41)).alloc (.cells #[.int .i64 num, .int .i64 t] 119)) (w.heap.size + 2) 0 0 none none) := Lib.hid (Box.of ((at_low _ _ _ (by simp)).trans (at_top _ _ _ (by simp))))
  have QB : Hid (((((w.alloc (.cells #[.int .i64 life, .int .i64 count, .map mw, .map mh] 41)).alloc (.cells #[.int .i64 term, .int .i64 margin] 37)).alloc (.cells #[.int .i64 0, .int .i64 0, .map none, .map none] 41)).alloc (.cells #[.int .i64 num, .int .i64 t] 119)).cell? ⟨w.heap.size + 3, 1, none⟩ = some (.int .i64 t)) := Lib.hid (pair_at (at_top _ _ _ (by simp))).2
  have QC : Hid (((((w.alloc (.cells #[.int .i64 life, .int .i64 count, .map mw, .map mh] 41)).alloc (.cells #[.int .i64 term, .int .i64 margin] 37)).alloc (.cells #[.int .i64 0, .int .i64 0, .map none, .map none] 41)).alloc (.cells #[.int .i64 num, .int .i64 t] 119)).cell? ⟨w.heap.size + 1, 0, none⟩ = some (.int .i64 term)) := Lib.hid (pair_at ((at_low _ _ _ (by simp)).trans ((at_low _ _ _ (by simp)).trans (at_top _ _ _ (by simp))))).1
  have QD : Hid (((((w.alloc (.cells #[.int .i64 life, .int .i64 count, .map mw, .map mh] 41)).alloc (.cells #[.int .i64 term, .int .i64 margin] 37)).alloc (.cells #[.int .i64 0, .int .i64 0, .map none, .map none] 41)).alloc (.cells #[.int .i64 num, .int .i64 t] 119)).cell? ⟨w.heap.size + 1, 1, none⟩ = some (.int .i64 margin)) := Lib.hid (pair_at ((at_low _ _ _ (by simp)).trans ((at_low _ _ _ (by simp)).trans (at_top _ _ _ (by simp))))).2
  obtain ⟨rt1, rt2, rt3, rt4, rt5, rt6⟩ := rt
  have hv : ∀ x y, hval life count (some x) (some y) = .agg #[.int .i64 life, .int .i64 count, .map (some x), .map (some y)] := fun _ _ => rfl
  have hg : hval life count mw mh = .agg #[.int .i64 life, .int .i64 count, .map mw, .map mh] := rfl
  rw [hg]
  clear hg
  go_enter Try.func27, Try.ntmps27
  go_wp2_with (first
    | (go_at_call 53; go_loud (refine (own_any _ life count mw mh wants has (h1.out.kept ((((hO.out.alloc _).alloc _).alloc _).alloc _) (by omega)) (h2.out.kept ((((hO.out.alloc _).alloc _).alloc _).alloc _) (by omega))).mono ?_; rintro e W1 ⟨b1, b2, rfl, g1', g2', hne', hb1', hb2', ho'⟩; rw [hv]; have g1 := Lib.hid g1'; have g2 := Lib.hid g2'; have hne := Lib.hid hne'; have hb1 := Lib.hid hb1'; have hb2 := Lib.hid hb2'; have ho := Lib.hid ho'; clear g1' g2' hne' hb1' hb2' ho'))
    | (at_delete; go_loud (refine wpList_del _ rfl _ _ 38 rfl 119 Try.underlying38 b1 wants rfl (g1.out.kept ((Only.refl W1.heap.size W1.heap.size W1).alloc _) (.inl g1.out.lt)) place HK.out rfl ?_; intro w2 m1' g'; have HX := Lib.hid (after_own2 ((((hO.out.alloc _).alloc _).alloc _).alloc _) RB.out (by simp) rfl ho.out g' hb1.out g1.out.lt); have m1 := Lib.hid m1'; have m2 := Lib.hid ((g2.out.kept ((Only.refl W1.heap.size W1.heap.size W1).alloc _) (.inl g2.out.lt)).kept g' (by have := hne.out; omega)); clear m1' g'; obtain ⟨⟨hR', hU'⟩, hX', hq', hz'⟩ := HX.out; have hX := Lib.hid hX'; have RR := Lib.hid hR'; have RU := Lib.hid hU'; have hz := Lib.hid hz'; obtain ⟨k0, k1, k2, k3⟩ := hR'.keys; obtain ⟨r0, r1, r2, r3, rf⟩ := hR'; obtain ⟨o0, o1, o2, o3, of⟩ := hU'; have q0 := (hq' ⟨w.heap.size + 3, 1, none⟩ (by simp)).trans QB.out; have q1 := (hq' ⟨w.heap.size + 1, 0, none⟩ (by simp)).trans QC.out; have q2 := (hq' ⟨w.heap.size + 1, 1, none⟩ (by simp)).trans QD.out; clear hX' HX hq' hz'))
    | fail)
  refine bodyPost_ret (v := .tuple #[hval life count (some b1) (some b2), .int .i64 16]) (by simp [results, Try.results27, go_sem, hval, k0, k1, k2, k3]) rfl ?_
  have hs := four_only w2 (w.heap.size + 2) life count (some b1) (some b2)
  have e1 := hb1.out
  have e2 := hb2.out
  simp at e1 e2
  rw [hB.out]
  exact ⟨_, rfl, ⟨some b1, some b2, rfl, m1.out.kept hs (by omega), m2.out.kept hs (by omega)⟩, hX.out.fresh (hs.mono (by omega) (Nat.le_refl _))⟩

set_option maxRecDepth 100000 in
set_option maxHeartbeats 1000000 in
theorem grant_new (w : World) (life count now term margin place num epoch : Int) (wants has : Pairs) (mw mh : Option Nat) (h1 : Hid (MapIs pairE w mw wants)) (h2 : Hid (MapIs pairE w mh has)) (hl : (Instr.lookup 38 (.map mw) (.int .i64 place) true).run Try.prog (((w.alloc (.cells #[.int .i64 life, .int .i64 count, .map mw, .map mh] 41)).alloc (.cells #[.int .i64 term, .int .i64 margin] 37)).alloc (.cells #[.int .i64 0, .int .i64 0, .map none, .map none] 41)) = .ok (got pairE (mget wants place)) (((w.alloc (.cells #[.int .i64 life, .int .i64 count, .map mw, .map mh] 41)).alloc (.cells #[.int .i64 term, .int .i64 margin] 37)).alloc (.cells #[.int .i64 0, .int .i64 0, .map none, .map none] 41))) (t : Int) (hm : mget wants place = some (num, t)) (HK : Hid ((Lit.int .i64 place).wf = true)) (HN : Hid (has.length < 1000000)) (hd0 : decide (term < 1) = false) (hd1 : decide (1048576 < term) = false) (hd2 : decide (margin < 0) = false) (hd3 : decide (1048576 < margin) = false) (hd4 : decide (now < 0) = false) (hd5 : decide (1099511627776 < now) = false) (hd6 : decide (t < 0) = false) (hd7 : decide (1099511627776 < t) = false) (rt : 1 ≤ term ∧ term ≤ 1048576 ∧ 0 ≤ margin ∧ margin ≤ 1048576 ∧ 0 ≤ t ∧ t ≤ 1099511627776) (hu : decide (t + term - margin ≤ now) = false) (hm2 : mget has place = none) (hB : Hid (grantH ⟨life, count, wants, has⟩ now term margin place num epoch = (⟨life, count, mdel wants place, mput has place (epoch, t + term - margin)⟩, 0))) :
    Calls Try.prog 27 #[hval life count mw mh, .int .i64 now, .agg #[.int .i64 term, .int .i64 margin], .int .i64 place, .int .i64 num, .int .i64 epoch] w (Told w (grantH ⟨life, count, wants, has⟩ now term margin place num epoch)) := by
  have hO : Hid (Only w.heap.size w.heap.size w w) := Lib.hid (Only.refl _ _ _)
  rw [hm] at hl
  simp only [got, pairE, Option.getD_some, Option.isSome_some] at hl
  have RB : Hid (Box ((((w.alloc (.cells #[.int .i64 life, .int .i64 count, .map mw, .map mh] 41)).alloc (.cells #[.int .i64 term, .int .i64 margin] 37)).alloc (.cells #[.int .i64 0, .int .i64 0, .map none, .map none] 41)).alloc (.cells #[.int .i64 num, .int .i64 t] 119)) (w.heap.size + 2) 0 0 none none) := Lib.hid (Box.of ((at_low _ _ _ (by simp)).trans (at_top _ _ _ (by simp))))
  have QB : Hid (((((w.alloc (.cells #[.int .i64 life, .int .i64 count, .map mw, .map mh] 41)).alloc (.cells #[.int .i64 term, .int .i64 margin] 37)).alloc (.cells #[.int .i64 0, .int .i64 0, .map none, .map none] 41)).alloc (.cells #[.int .i64 num, .int .i64 t] 119)).cell? ⟨w.heap.size + 3, 1, none⟩ = some (.int .i64 t)) := Lib.hid (pair_at (at_top _ _ _ (by simp))).2
  have QC : Hid (((((w.alloc (.cells #[.int .i64 life, .int .i64 count, .map mw, .map mh] 41)).alloc (.cells #[.int .i64 term, .int .i64 margin] 37)).alloc (.cells #[.int .i64 0, .int .i64 0, .map none, .map none] 41)).alloc (.cells #[.int .i64 num, .int .i64 t] 119)).cell? ⟨w.heap.size + 1, 0, none⟩ = some (.int .i64 term)) := Lib.hid (pair_at ((at_low _ _ _ (by simp)).trans ((at_low _ _ _ (by simp)).trans (at_top _ _ _ (by simp))))).1
  have QD : Hid (((((w.alloc (.cells #[.int .i64 life, .int .i64 count, .map mw, .map mh] 41)).alloc (.cells #[.int .i64 term, .int .i64 margin] 37)).alloc (.cells #[.int .i64 0, .int .i64 0, .map none, .map none] 41)).alloc (.cells #[.int .i64 num, .int .i64 t] 119)).cell? ⟨w.heap.size + 1, 1, none⟩ = some (.int .i64 margin)) := Lib.hid (pair_at ((at_low _ _ _ (by simp)).trans ((at_low _ _ _ (by simp)).trans (at_top _ _ _ (by simp))))).2
  obtain ⟨rt1, rt2, rt3, rt4, rt5, rt6⟩ := rt
  have hv : ∀ x y, hval life count (some x) (some y) = .agg #[.int .i64 life, .int .i64 count, .map (some x), .map (some y)] := fun _ _ => rfl
  have hg : hval life count mw mh = .agg #[.int .i64 life, .int .i64 count, .map mw, .map mh] := rfl
  rw [hg]
  clear hg
  go_enter Try.func27, Try.ntmps27
  go_wp2_with (first
    | (go_at_call 53; go_loud (refine (own_any _ life count mw mh wants has (h1.out.kept ((((hO.out.alloc _).alloc _).alloc _).alloc _) (by omega)) (h2.out.kept ((((hO.out.alloc _).alloc _).alloc _).alloc _) (by omega))).mono ?_; rintro e W1 ⟨b1, b2, rfl, g1', g2', hne', hb1', hb2', ho'⟩; rw [hv]; have g1 := Lib.hid g1'; have g2 := Lib.hid g2'; have hne := Lib.hid hne'; have hb1 := Lib.hid hb1'; have hb2 := Lib.hid hb2'; have ho := Lib.hid ho'; clear g1' g2' hne' hb1' hb2' ho'))
    | (at_delete; go_loud (refine wpList_del _ rfl _ _ 38 rfl 119 Try.underlying38 b1 wants rfl (g1.out.kept ((Only.refl W1.heap.size W1.heap.size W1).alloc _) (.inl g1.out.lt)) place HK.out rfl ?_; intro w2 m1' g'; have HX := Lib.hid (after_own2 ((((hO.out.alloc _).alloc _).alloc _).alloc _) RB.out (by simp) rfl ho.out g' hb1.out g1.out.lt); have m1 := Lib.hid m1'; have m2 := Lib.hid ((g2.out.kept ((Only.refl W1.heap.size W1.heap.size W1).alloc _) (.inl g2.out.lt)).kept g' (by have := hne.out; omega)); clear m1' g'; obtain ⟨⟨hR', hU'⟩, hX', hq', hz'⟩ := HX.out; have hX := Lib.hid hX'; have RR := Lib.hid hR'; have RU := Lib.hid hU'; have hz := Lib.hid hz'; obtain ⟨k0, k1, k2, k3⟩ := hR'.keys; obtain ⟨r0, r1, r2, r3, rf⟩ := hR'; obtain ⟨o0, o1, o2, o3, of⟩ := hU'; have q0 := (hq' ⟨w.heap.size + 3, 1, none⟩ (by simp)).trans QB.out; have q1 := (hq' ⟨w.heap.size + 1, 0, none⟩ (by simp)).trans QC.out; have q2 := (hq' ⟨w.heap.size + 1, 1, none⟩ (by simp)).trans QD.out; have hl2 := MapIs.look (w := w2) (m := some b2) m2.out Try.underlying39 (zero122 _) place HK.out; rw [hm2] at hl2; simp only [got, pairE, Option.getD_none, Option.isSome_none] at hl2; have hA := fun (o : Obj) (i : Nat) => World.cell?_alloc_lt w2 o ⟨W1.heap.size, i, none⟩ hz'; clear hX' HX hq' hz'))
    | (at_mapUpdate; go_loud (refine wpList_put _ rfl _ _ _ 39 rfl 122 Try.underlying39 b2 has rfl (m2.out.kept ((Only.refl w2.heap.size w2.heap.size w2).alloc _) (.inl m2.out.lt)) HN.out place HK.out rfl (epoch, _) rfl ?_; intro w3 m3' g'; have m3 := Lib.hid m3'; have m4 := Lib.hid ((m1.out.kept ((Only.refl w2.heap.size w2.heap.size w2).alloc _) (.inl m1.out.lt)).kept g' (by have := hne.out; omega)); have hlt := m2.out.lt; have e2 := hb2.out; simp at e2; have hzz := hz.out; have hX2 := Lib.hid ((hX.out.alloc _).fresh (g'.mono (by omega) (Nat.le_refl _))); have hR' := RR.out.again (by omega) g' (by omega); have hU' := RU.out.again (by omega) g' (by have := g2.out.lt; omega); clear m3' g' hlt e2 hzz hA k0 k1 k2 k3 r0 r1 r2 r3 rf o0 o1 o2 o3 of; obtain ⟨k0, k1, k2, k3⟩ := hR'.keys; obtain ⟨r0, r1, r2, r3, rf⟩ := hR'; obtain ⟨o0, o1, o2, o3, of⟩ := hU'))
    | fail)
  refine bodyPost_ret (v := .tuple #[hval life count (some b1) (some b2), .int .i64 0]) (by simp [results, Try.results27, go_sem, hval, k0, k1, k2, k3]) rfl ?_
  have hs := four_only w3 (w.heap.size + 2) life count (some b1) (some b2)
  have e1 := hb1.out
  have e2 := hb2.out
  simp at e1 e2
  rw [hB.out]
  exact ⟨_, rfl, ⟨some b1, some b2, rfl, m4.out.kept hs (by omega), m3.out.kept hs (by omega)⟩, hX2.out.fresh (hs.mono (by omega) (Nat.le_refl _))⟩

set_option maxRecDepth 100000 in
set_option maxHeartbeats 1000000 in
theorem grant_other (w : World) (life count now term margin place num epoch : Int) (wants has : Pairs) (mw mh : Option Nat) (h1 : Hid (MapIs pairE w mw wants)) (h2 : Hid (MapIs pairE w mh has)) (hl : (Instr.lookup 38 (.map mw) (.int .i64 place) true).run Try.prog (((w.alloc (.cells #[.int .i64 life, .int .i64 count, .map mw, .map mh] 41)).alloc (.cells #[.int .i64 term, .int .i64 margin] 37)).alloc (.cells #[.int .i64 0, .int .i64 0, .map none, .map none] 41)) = .ok (got pairE (mget wants place)) (((w.alloc (.cells #[.int .i64 life, .int .i64 count, .map mw, .map mh] 41)).alloc (.cells #[.int .i64 term, .int .i64 margin] 37)).alloc (.cells #[.int .i64 0, .int .i64 0, .map none, .map none] 41))) (t : Int) (hm : mget wants place = some (num, t)) (HK : Hid ((Lit.int .i64 place).wf = true)) (HN : Hid (has.length < 1000000)) (hd0 : decide (term < 1) = false) (hd1 : decide (1048576 < term) = false) (hd2 : decide (margin < 0) = false) (hd3 : decide (1048576 < margin) = false) (hd4 : decide (now < 0) = false) (hd5 : decide (1099511627776 < now) = false) (hd6 : decide (t < 0) = false) (hd7 : decide (1099511627776 < t) = false) (rt : 1 ≤ term ∧ term ≤ 1048576 ∧ 0 ≤ margin ∧ margin ≤ 1048576 ∧ 0 ≤ t ∧ t ≤ 1099511627776) (hu : decide (t + term - margin ≤ now) = false) (ep un : Int) (hm2 : mget has place = some (ep, un)) (hee : ¬ ep = epoch) (he : decide (ep = epoch) = false) (hB : Hid (grantH ⟨life, count, wants, has⟩ now term margin place num epoch = (⟨life, count, mdel wants place, mput has place (epoch, t + term - margin)⟩, 0))) :
    Calls Try.prog 27 #[hval life count mw mh, .int .i64 now, .agg #[.int .i64 term, .int .i64 margin], .int .i64 place, .int .i64 num, .int .i64 epoch] w (Told w (grantH ⟨life, count, wants, has⟩ now term margin place num epoch)) := by
  have hO : Hid (Only w.heap.size w.heap.size w w) := Lib.hid (Only.refl _ _ _)
  rw [hm] at hl
  simp only [got, pairE, Option.getD_some, Option.isSome_some] at hl
  have RB : Hid (Box ((((w.alloc (.cells #[.int .i64 life, .int .i64 count, .map mw, .map mh] 41)).alloc (.cells #[.int .i64 term, .int .i64 margin] 37)).alloc (.cells #[.int .i64 0, .int .i64 0, .map none, .map none] 41)).alloc (.cells #[.int .i64 num, .int .i64 t] 119)) (w.heap.size + 2) 0 0 none none) := Lib.hid (Box.of ((at_low _ _ _ (by simp)).trans (at_top _ _ _ (by simp))))
  have QB : Hid (((((w.alloc (.cells #[.int .i64 life, .int .i64 count, .map mw, .map mh] 41)).alloc (.cells #[.int .i64 term, .int .i64 margin] 37)).alloc (.cells #[.int .i64 0, .int .i64 0, .map none, .map none] 41)).alloc (.cells #[.int .i64 num, .int .i64 t] 119)).cell? ⟨w.heap.size + 3, 1, none⟩ = some (.int .i64 t)) := Lib.hid (pair_at (at_top _ _ _ (by simp))).2
  have QC : Hid (((((w.alloc (.cells #[.int .i64 life, .int .i64 count, .map mw, .map mh] 41)).alloc (.cells #[.int .i64 term, .int .i64 margin] 37)).alloc (.cells #[.int .i64 0, .int .i64 0, .map none, .map none] 41)).alloc (.cells #[.int .i64 num, .int .i64 t] 119)).cell? ⟨w.heap.size + 1, 0, none⟩ = some (.int .i64 term)) := Lib.hid (pair_at ((at_low _ _ _ (by simp)).trans ((at_low _ _ _ (by simp)).trans (at_top _ _ _ (by simp))))).1
  have QD : Hid (((((w.alloc (.cells #[.int .i64 life, .int .i64 count, .map mw, .map mh] 41)).alloc (.cells #[.int .i64 term, .int .i64 margin] 37)).alloc (.cells #[.int .i64 0, .int .i64 0, .map none, .map none] 41)).alloc (.cells #[.int .i64 num, .int .i64 t] 119)).cell? ⟨w.heap.size + 1, 1, none⟩ = some (.int .i64 margin)) := Lib.hid (pair_at ((at_low _ _ _ (by simp)).trans ((at_low _ _ _ (by simp)).trans (at_top _ _ _ (by simp))))).2
  obtain ⟨rt1, rt2, rt3, rt4, rt5, rt6⟩ := rt
  have hv : ∀ x y, hval life count (some x) (some y) = .agg #[.int .i64 life, .int .i64 count, .map (some x), .map (some y)] := fun _ _ => rfl
  have hg : hval life count mw mh = .agg #[.int .i64 life, .int .i64 count, .map mw, .map mh] := rfl
  rw [hg]
  clear hg
  go_enter Try.func27, Try.ntmps27
  go_wp2_with (first
    | (go_at_call 53; go_loud (refine (own_any _ life count mw mh wants has (h1.out.kept ((((hO.out.alloc _).alloc _).alloc _).alloc _) (by omega)) (h2.out.kept ((((hO.out.alloc _).alloc _).alloc _).alloc _) (by omega))).mono ?_; rintro e W1 ⟨b1, b2, rfl, g1', g2', hne', hb1', hb2', ho'⟩; rw [hv]; have g1 := Lib.hid g1'; have g2 := Lib.hid g2'; have hne := Lib.hid hne'; have hb1 := Lib.hid hb1'; have hb2 := Lib.hid hb2'; have ho := Lib.hid ho'; clear g1' g2' hne' hb1' hb2' ho'))
    | (at_delete; go_loud (refine wpList_del _ rfl _ _ 38 rfl 119 Try.underlying38 b1 wants rfl (g1.out.kept ((Only.refl W1.heap.size W1.heap.size W1).alloc _) (.inl g1.out.lt)) place HK.out rfl ?_; intro w2 m1' g'; have HX := Lib.hid (after_own2 ((((hO.out.alloc _).alloc _).alloc _).alloc _) RB.out (by simp) rfl ho.out g' hb1.out g1.out.lt); have m1 := Lib.hid m1'; have m2 := Lib.hid ((g2.out.kept ((Only.refl W1.heap.size W1.heap.size W1).alloc _) (.inl g2.out.lt)).kept g' (by have := hne.out; omega)); clear m1' g'; obtain ⟨⟨hR', hU'⟩, hX', hq', hz'⟩ := HX.out; have hX := Lib.hid hX'; have RR := Lib.hid hR'; have RU := Lib.hid hU'; have hz := Lib.hid hz'; obtain ⟨k0, k1, k2, k3⟩ := hR'.keys; obtain ⟨r0, r1, r2, r3, rf⟩ := hR'; obtain ⟨o0, o1, o2, o3, of⟩ := hU'; have q0 := (hq' ⟨w.heap.size + 3, 1, none⟩ (by simp)).trans QB.out; have q1 := (hq' ⟨w.heap.size + 1, 0, none⟩ (by simp)).trans QC.out; have q2 := (hq' ⟨w.heap.size + 1, 1, none⟩ (by simp)).trans QD.out; have hl2 := MapIs.look (w := w2) (m := some b2) m2.out Try.underlying39 (zero122 _) place HK.out; rw [hm2] at hl2; simp only [got, pairE, Option.getD_some, Option.isSome_some] at hl2; have hA := fun (o : Obj) (i : Nat) => World.cell?_alloc_lt w2 o ⟨W1.heap.size, i, none⟩ hz'; clear hX' HX hq' hz'))
    | (at_mapUpdate; go_loud (refine wpList_put _ rfl _ _ _ 39 rfl 122 Try.underlying39 b2 has rfl (m2.out.kept ((Only.refl w2.heap.size w2.heap.size w2).alloc _) (.inl m2.out.lt)) HN.out place HK.out rfl (epoch, _) rfl ?_; intro w3 m3' g'; have m3 := Lib.hid m3'; have m4 := Lib.hid ((m1.out.kept ((Only.refl w2.heap.size w2.heap.size w2).alloc _) (.inl m1.out.lt)).kept g' (by have := hne.out; omega)); have hlt := m2.out.lt; have e2 := hb2.out; simp at e2; have hzz := hz.out; have hX2 := Lib.hid ((hX.out.alloc _).fresh (g'.mono (by omega) (Nat.le_refl _))); have hR' := RR.out.again (by omega) g' (by omega); have hU' := RU.out.again (by omega) g' (by have := g2.out.lt; omega); clear m3' g' hlt e2 hzz hA k0 k1 k2 k3 r0 r1 r2 r3 rf o0 o1 o2 o3 of; obtain ⟨k0, k1, k2, k3⟩ := hR'.keys; obtain ⟨r0, r1, r2, r3, rf⟩ := hR'; obtain ⟨o0, o1, o2, o3, of⟩ := hU'))
    | fail)
  refine bodyPost_ret (v := .tuple #[hval life count (some b1) (some b2), .int .i64 0]) (by simp [results, Try.results27, go_sem, hval, k0, k1, k2, k3]) rfl ?_
  have hs := four_only w3 (w.heap.size + 2) life count (some b1) (some b2)
  have e1 := hb1.out
  have e2 := hb2.out
  simp at e1 e2
  rw [hB.out]
  exact ⟨_, rfl, ⟨some b1, some b2, rfl, m4.out.kept hs (by omega), m3.out.kept hs (by omega)⟩, hX2.out.fresh (hs.mono (by omega) (Nat.le_refl _))⟩

set_option maxRecDepth 100000 in
set_option maxHeartbeats 1000000 in
theorem grant_less (w : World) (life count now term margin place num epoch : Int) (wants has : Pairs) (mw mh : Option Nat) (h1 : Hid (MapIs pairE w mw wants)) (h2 : Hid (MapIs pairE w mh has)) (hl : (Instr.lookup 38 (.map mw) (.int .i64 place) true).run Try.prog (((w.alloc (.cells #[.int .i64 life, .int .i64 count, .map mw, .map mh] 41)).alloc (.cells #[.int .i64 term, .int .i64 margin] 37)).alloc (.cells #[.int .i64 0, .int .i64 0, .map none, .map none] 41)) = .ok (got pairE (mget wants place)) (((w.alloc (.cells #[.int .i64 life, .int .i64 count, .map mw, .map mh] 41)).alloc (.cells #[.int .i64 term, .int .i64 margin] 37)).alloc (.cells #[.int .i64 0, .int .i64 0, .map none, .map none] 41))) (t : Int) (hm : mget wants place = some (num, t)) (HK : Hid ((Lit.int .i64 place).wf = true)) (HN : Hid (has.length < 1000000)) (hd0 : decide (term < 1) = false) (hd1 : decide (1048576 < term) = false) (hd2 : decide (margin < 0) = false) (hd3 : decide (1048576 < margin) = false) (hd4 : decide (now < 0) = false) (hd5 : decide (1099511627776 < now) = false) (hd6 : decide (t < 0) = false) (hd7 : decide (1099511627776 < t) = false) (rt : 1 ≤ term ∧ term ≤ 1048576 ∧ 0 ≤ margin ∧ margin ≤ 1048576 ∧ 0 ≤ t ∧ t ≤ 1099511627776) (hu : decide (t + term - margin ≤ now) = false) (un : Int) (hm2 : mget has place = some (epoch, un)) (hx : un ≤ t + term - margin) (hB : Hid (grantH ⟨life, count, wants, has⟩ now term margin place num epoch = (⟨life, count, mdel wants place, mput has place (epoch, t + term - margin)⟩, 0))) :
    Calls Try.prog 27 #[hval life count mw mh, .int .i64 now, .agg #[.int .i64 term, .int .i64 margin], .int .i64 place, .int .i64 num, .int .i64 epoch] w (Told w (grantH ⟨life, count, wants, has⟩ now term margin place num epoch)) := by
  have hO : Hid (Only w.heap.size w.heap.size w w) := Lib.hid (Only.refl _ _ _)
  rw [hm] at hl
  simp only [got, pairE, Option.getD_some, Option.isSome_some] at hl
  have RB : Hid (Box ((((w.alloc (.cells #[.int .i64 life, .int .i64 count, .map mw, .map mh] 41)).alloc (.cells #[.int .i64 term, .int .i64 margin] 37)).alloc (.cells #[.int .i64 0, .int .i64 0, .map none, .map none] 41)).alloc (.cells #[.int .i64 num, .int .i64 t] 119)) (w.heap.size + 2) 0 0 none none) := Lib.hid (Box.of ((at_low _ _ _ (by simp)).trans (at_top _ _ _ (by simp))))
  have QB : Hid (((((w.alloc (.cells #[.int .i64 life, .int .i64 count, .map mw, .map mh] 41)).alloc (.cells #[.int .i64 term, .int .i64 margin] 37)).alloc (.cells #[.int .i64 0, .int .i64 0, .map none, .map none] 41)).alloc (.cells #[.int .i64 num, .int .i64 t] 119)).cell? ⟨w.heap.size + 3, 1, none⟩ = some (.int .i64 t)) := Lib.hid (pair_at (at_top _ _ _ (by simp))).2
  have QC : Hid (((((w.alloc (.cells #[.int .i64 life, .int .i64 count, .map mw, .map mh] 41)).alloc (.cells #[.int .i64 term, .int .i64 margin] 37)).alloc (.cells #[.int .i64 0, .int .i64 0, .map none, .map none] 41)).alloc (.cells #[.int .i64 num, .int .i64 t] 119)).cell? ⟨w.heap.size + 1, 0, none⟩ = some (.int .i64 term)) := Lib.hid (pair_at ((at_low _ _ _ (by simp)).trans ((at_low _ _ _ (by simp)).trans (at_top _ _ _ (by simp))))).1
  have QD : Hid (((((w.alloc (.cells #[.int .i64 life, .int .i64 count, .map mw, .map mh] 41)).alloc (.cells #[.int .i64 term, .int .i64 margin] 37)).alloc (.cells #[.int .i64 0, .int .i64 0, .map none, .map none] 41)).alloc (.cells #[.int .i64 num, .int .i64 t] 119)).cell? ⟨w.heap.size + 1, 1, none⟩ = some (.int .i64 margin)) := Lib.hid (pair_at ((at_low _ _ _ (by simp)).trans ((at_low _ _ _ (by simp)).trans (at_top _ _ _ (by simp))))).2
  obtain ⟨rt1, rt2, rt3, rt4, rt5, rt6⟩ := rt
  have hv : ∀ x y, hval life count (some x) (some y) = .agg #[.int .i64 life, .int .i64 count, .map (some x), .map (some y)] := fun _ _ => rfl
  have hg : hval life count mw mh = .agg #[.int .i64 life, .int .i64 count, .map mw, .map mh] := rfl
  rw [hg]
  clear hg
  go_enter Try.func27, Try.ntmps27
  go_wp2_with (first
    | (go_at_call 53; go_loud (refine (own_any _ life count mw mh wants has (h1.out.kept ((((hO.out.alloc _).alloc _).alloc _).alloc _) (by omega)) (h2.out.kept ((((hO.out.alloc _).alloc _).alloc _).alloc _) (by omega))).mono ?_; rintro e W1 ⟨b1, b2, rfl, g1', g2', hne', hb1', hb2', ho'⟩; rw [hv]; have g1 := Lib.hid g1'; have g2 := Lib.hid g2'; have hne := Lib.hid hne'; have hb1 := Lib.hid hb1'; have hb2 := Lib.hid hb2'; have ho := Lib.hid ho'; clear g1' g2' hne' hb1' hb2' ho'))
    | (at_delete; go_loud (refine wpList_del _ rfl _ _ 38 rfl 119 Try.underlying38 b1 wants rfl (g1.out.kept ((Only.refl W1.heap.size W1.heap.size W1).alloc _) (.inl g1.out.lt)) place HK.out rfl ?_; intro w2 m1' g'; have HX := Lib.hid (after_own2 ((((hO.out.alloc _).alloc _).alloc _).alloc _) RB.out (by simp) rfl ho.out g' hb1.out g1.out.lt); have m1 := Lib.hid m1'; have m2 := Lib.hid ((g2.out.kept ((Only.refl W1.heap.size W1.heap.size W1).alloc _) (.inl g2.out.lt)).kept g' (by have := hne.out; omega)); clear m1' g'; obtain ⟨⟨hR', hU'⟩, hX', hq', hz'⟩ := HX.out; have hX := Lib.hid hX'; have RR := Lib.hid hR'; have RU := Lib.hid hU'; have hz := Lib.hid hz'; obtain ⟨k0, k1, k2, k3⟩ := hR'.keys; obtain ⟨r0, r1, r2, r3, rf⟩ := hR'; obtain ⟨o0, o1, o2, o3, of⟩ := hU'; have q0 := (hq' ⟨w.heap.size + 3, 1, none⟩ (by simp)).trans QB.out; have q1 := (hq' ⟨w.heap.size + 1, 0, none⟩ (by simp)).trans QC.out; have q2 := (hq' ⟨w.heap.size + 1, 1, none⟩ (by simp)).trans QD.out; have hl2 := MapIs.look (w := w2) (m := some b2) m2.out Try.underlying39 (zero122 _) place HK.out; rw [hm2] at hl2; simp only [got, pairE, Option.getD_some, Option.isSome_some] at hl2; have hA := fun (o : Obj) (i : Nat) => World.cell?_alloc_lt w2 o ⟨W1.heap.size, i, none⟩ hz'; clear hX' HX hq' hz'))
    | (at_mapUpdate; go_loud (refine wpList_put _ rfl _ _ _ 39 rfl 122 Try.underlying39 b2 has rfl (m2.out.kept ((Only.refl w2.heap.size w2.heap.size w2).alloc _) (.inl m2.out.lt)) HN.out place HK.out rfl (epoch, _) rfl ?_; intro w3 m3' g'; have m3 := Lib.hid m3'; have m4 := Lib.hid ((m1.out.kept ((Only.refl w2.heap.size w2.heap.size w2).alloc _) (.inl m1.out.lt)).kept g' (by have := hne.out; omega)); have hlt := m2.out.lt; have e2 := hb2.out; simp at e2; have hzz := hz.out; have hX2 := Lib.hid ((hX.out.alloc _).fresh (g'.mono (by omega) (Nat.le_refl _))); have hR' := RR.out.again (by omega) g' (by omega); have hU' := RU.out.again (by omega) g' (by have := g2.out.lt; omega); clear m3' g' hlt e2 hzz hA k0 k1 k2 k3 r0 r1 r2 r3 rf o0 o1 o2 o3 of; obtain ⟨k0, k1, k2, k3⟩ := hR'.keys; obtain ⟨r0, r1, r2, r3, rf⟩ := hR'; obtain ⟨o0, o1, o2, o3, of⟩ := hU'))
    | fail)
  refine bodyPost_ret (v := .tuple #[hval life count (some b1) (some b2), .int .i64 0]) (by simp [results, Try.results27, go_sem, hval, k0, k1, k2, k3]) rfl ?_
  have hs := four_only w3 (w.heap.size + 2) life count (some b1) (some b2)
  have e1 := hb1.out
  have e2 := hb2.out
  simp at e1 e2
  rw [hB.out]
  exact ⟨_, rfl, ⟨some b1, some b2, rfl, m4.out.kept hs (by omega), m3.out.kept hs (by omega)⟩, hX2.out.fresh (hs.mono (by omega) (Nat.le_refl _))⟩

set_option maxRecDepth 100000 in
set_option maxHeartbeats 1000000 in
theorem grant_more (w : World) (life count now term margin place num epoch : Int) (wants has : Pairs) (mw mh : Option Nat) (h1 : Hid (MapIs pairE w mw wants)) (h2 : Hid (MapIs pairE w mh has)) (hl : (Instr.lookup 38 (.map mw) (.int .i64 place) true).run Try.prog (((w.alloc (.cells #[.int .i64 life, .int .i64 count, .map mw, .map mh] 41)).alloc (.cells #[.int .i64 term, .int .i64 margin] 37)).alloc (.cells #[.int .i64 0, .int .i64 0, .map none, .map none] 41)) = .ok (got pairE (mget wants place)) (((w.alloc (.cells #[.int .i64 life, .int .i64 count, .map mw, .map mh] 41)).alloc (.cells #[.int .i64 term, .int .i64 margin] 37)).alloc (.cells #[.int .i64 0, .int .i64 0, .map none, .map none] 41))) (t : Int) (hm : mget wants place = some (num, t)) (HK : Hid ((Lit.int .i64 place).wf = true)) (HN : Hid (has.length < 1000000)) (hd0 : decide (term < 1) = false) (hd1 : decide (1048576 < term) = false) (hd2 : decide (margin < 0) = false) (hd3 : decide (1048576 < margin) = false) (hd4 : decide (now < 0) = false) (hd5 : decide (1099511627776 < now) = false) (hd6 : decide (t < 0) = false) (hd7 : decide (1099511627776 < t) = false) (rt : 1 ≤ term ∧ term ≤ 1048576 ∧ 0 ≤ margin ∧ margin ≤ 1048576 ∧ 0 ≤ t ∧ t ≤ 1099511627776) (hu : decide (t + term - margin ≤ now) = false) (un : Int) (hm2 : mget has place = some (epoch, un)) (hx : t + term - margin < un) (hB : Hid (grantH ⟨life, count, wants, has⟩ now term margin place num epoch = (⟨life, count, mdel wants place, mput has place (epoch, un)⟩, 0))) :
    Calls Try.prog 27 #[hval life count mw mh, .int .i64 now, .agg #[.int .i64 term, .int .i64 margin], .int .i64 place, .int .i64 num, .int .i64 epoch] w (Told w (grantH ⟨life, count, wants, has⟩ now term margin place num epoch)) := by
  have hO : Hid (Only w.heap.size w.heap.size w w) := Lib.hid (Only.refl _ _ _)
  rw [hm] at hl
  simp only [got, pairE, Option.getD_some, Option.isSome_some] at hl
  have RB : Hid (Box ((((w.alloc (.cells #[.int .i64 life, .int .i64 count, .map mw, .map mh] 41)).alloc (.cells #[.int .i64 term, .int .i64 margin] 37)).alloc (.cells #[.int .i64 0, .int .i64 0, .map none, .map none] 41)).alloc (.cells #[.int .i64 num, .int .i64 t] 119)) (w.heap.size + 2) 0 0 none none) := Lib.hid (Box.of ((at_low _ _ _ (by simp)).trans (at_top _ _ _ (by simp))))
  have QB : Hid (((((w.alloc (.cells #[.int .i64 life, .int .i64 count, .map mw, .map mh] 41)).alloc (.cells #[.int .i64 term, .int .i64 margin] 37)).alloc (.cells #[.int .i64 0, .int .i64 0, .map none, .map none] 41)).alloc (.cells #[.int .i64 num, .int .i64 t] 119)).cell? ⟨w.heap.size + 3, 1, none⟩ = some (.int .i64 t)) := Lib.hid (pair_at (at_top _ _ _ (by simp))).2
  have QC : Hid (((((w.alloc (.cells #[.int .i64 life, .int .i64 count, .map mw, .map mh] 41)).alloc (.cells #[.int .i64 term, .int .i64 margin] 37)).alloc (.cells #[.int .i64 0, .int .i64 0, .map none, .map none] 41)).alloc (.cells #[.int .i64 num, .int .i64 t] 119)).cell? ⟨w.heap.size + 1, 0, none⟩ = some (.int .i64 term)) := Lib.hid (pair_at ((at_low _ _ _ (by simp)).trans ((at_low _ _ _ (by simp)).trans (at_top _ _ _ (by simp))))).1
  have QD : Hid (((((w.alloc (.cells #[.int .i64 life, .int .i64 count, .map mw, .map mh] 41)).alloc (.cells #[.int .i64 term, .int .i64 margin] 37)).alloc (.cells #[.int .i64 0, .int .i64 0, .map none, .map none] 41)).alloc (.cells #[.int .i64 num, .int .i64 t] 119)).cell? ⟨w.heap.size + 1, 1, none⟩ = some (.int .i64 margin)) := Lib.hid (pair_at ((at_low _ _ _ (by simp)).trans ((at_low _ _ _ (by simp)).trans (at_top _ _ _ (by simp))))).2
  obtain ⟨rt1, rt2, rt3, rt4, rt5, rt6⟩ := rt
  have hv : ∀ x y, hval life count (some x) (some y) = .agg #[.int .i64 life, .int .i64 count, .map (some x), .map (some y)] := fun _ _ => rfl
  have hg : hval life count mw mh = .agg #[.int .i64 life, .int .i64 count, .map mw, .map mh] := rfl
  rw [hg]
  clear hg
  go_enter Try.func27, Try.ntmps27
  go_wp2_with (first
    | (go_at_call 53; go_loud (refine (own_any _ life count mw mh wants has (h1.out.kept ((((hO.out.alloc _).alloc _).alloc _).alloc _) (by omega)) (h2.out.kept ((((hO.out.alloc _).alloc _).alloc _).alloc _) (by omega))).mono ?_; rintro e W1 ⟨b1, b2, rfl, g1', g2', hne', hb1', hb2', ho'⟩; rw [hv]; have g1 := Lib.hid g1'; have g2 := Lib.hid g2'; have hne := Lib.hid hne'; have hb1 := Lib.hid hb1'; have hb2 := Lib.hid hb2'; have ho := Lib.hid ho'; clear g1' g2' hne' hb1' hb2' ho'))
    | (at_delete; go_loud (refine wpList_del _ rfl _ _ 38 rfl 119 Try.underlying38 b1 wants rfl (g1.out.kept ((Only.refl W1.heap.size W1.heap.size W1).alloc _) (.inl g1.out.lt)) place HK.out rfl ?_; intro w2 m1' g'; have HX := Lib.hid (after_own2 ((((hO.out.alloc _).alloc _).alloc _).alloc _) RB.out (by simp) rfl ho.out g' hb1.out g1.out.lt); have m1 := Lib.hid m1'; have m2 := Lib.hid ((g2.out.kept ((Only.refl W1.heap.size W1.heap.size W1).alloc _) (.inl g2.out.lt)).kept g' (by have := hne.out; omega)); clear m1' g'; obtain ⟨⟨hR', hU'⟩, hX', hq', hz'⟩ := HX.out; have hX := Lib.hid hX'; have RR := Lib.hid hR'; have RU := Lib.hid hU'; have hz := Lib.hid hz'; obtain ⟨k0, k1, k2, k3⟩ := hR'.keys; obtain ⟨r0, r1, r2, r3, rf⟩ := hR'; obtain ⟨o0, o1, o2, o3, of⟩ := hU'; have q0 := (hq' ⟨w.heap.size + 3, 1, none⟩ (by simp)).trans QB.out; have q1 := (hq' ⟨w.heap.size + 1, 0, none⟩ (by simp)).trans QC.out; have q2 := (hq' ⟨w.heap.size + 1, 1, none⟩ (by simp)).trans QD.out; have hl2 := MapIs.look (w := w2) (m := some b2) m2.out Try.underlying39 (zero122 _) place HK.out; rw [hm2] at hl2; simp only [got, pairE, Option.getD_some, Option.isSome_some] at hl2; have hA := fun (o : Obj) (i : Nat) => World.cell?_alloc_lt w2 o ⟨W1.heap.size, i, none⟩ hz'; clear hX' HX hq' hz'))
    | (at_mapUpdate; go_loud (refine wpList_put _ rfl _ _ _ 39 rfl 122 Try.underlying39 b2 has rfl (m2.out.kept ((Only.refl w2.heap.size w2.heap.size w2).alloc _) (.inl m2.out.lt)) HN.out place HK.out rfl (epoch, _) rfl ?_; intro w3 m3' g'; have m3 := Lib.hid m3'; have m4 := Lib.hid ((m1.out.kept ((Only.refl w2.heap.size w2.heap.size w2).alloc _) (.inl m1.out.lt)).kept g' (by have := hne.out; omega)); have hlt := m2.out.lt; have e2 := hb2.out; simp at e2; have hzz := hz.out; have hX2 := Lib.hid ((hX.out.alloc _).fresh (g'.mono (by omega) (Nat.le_refl _))); have hR' := RR.out.again (by omega) g' (by omega); have hU' := RU.out.again (by omega) g' (by have := g2.out.lt; omega); clear m3' g' hlt e2 hzz hA k0 k1 k2 k3 r0 r1 r2 r3 rf o0 o1 o2 o3 of; obtain ⟨k0, k1, k2, k3⟩ := hR'.keys; obtain ⟨r0, r1, r2, r3, rf⟩ := hR'; obtain ⟨o0, o1, o2, o3, of⟩ := hU'))
    | fail)
  refine bodyPost_ret (v := .tuple #[hval life count (some b1) (some b2), .int .i64 0]) (by simp [results, Try.results27, go_sem, hval, k0, k1, k2, k3]) rfl ?_
  have hs := four_only w3 (w.heap.size + 2) life count (some b1) (some b2)
  have e1 := hb1.out
  have e2 := hb2.out
  simp at e1 e2
  rw [hB.out]
  exact ⟨_, rfl, ⟨some b1, some b2, rfl, m4.out.kept hs (by omega), m3.out.kept hs (by omega)⟩, hX2.out.fresh (hs.mono (by omega) (Nat.le_refl _))⟩

end Go.Proofs.Ytefllgpehhlkoaa
