/-
  The holder (layer 19): Believes, Crash.
-/
import Derived.Test.YtefllgpehhlkoaaHold
namespace Go.Proofs.Ytefllgpehhlkoaa
open Go.RowKit

/-- the epoch that is believed in -/
def believe (ys : Pairs) (now place : Int) : Int × Bool :=
  match mget ys place with
  | none => (0, false)
  | some x => if x.2 ≤ now then (0, false) else (x.1, true)

theorem zero119 (w : World) : (zeroValue 119).run Try.prog w = .ok (pairE.val pairE.zero) w := by kernel_rfl
theorem zero122 (w : World) : (zeroValue 122).run Try.prog w = .ok (pairE.val pairE.zero) w := by kernel_rfl

/-- what Believes leaves -/
def Believed (w : World) (ys : Pairs) (now place : Int) (e : Ending) (w' : World) : Prop :=
  e = .returned (.tuple #[.int .i64 (believe ys now place).1, .bool (believe ys now place).2]) ∧ Only w.heap.size w.heap.size w w'

set_option maxRecDepth 100000 in
set_option maxHeartbeats 1000000 in
theorem believes_any (w : World) (life count now place : Int) (mw mh : Option Nat) (ys : Pairs) (h : MapIs pairE w mh ys) (hk : (Lit.int .i64 place).wf = true) :
    Calls Try.prog 28 #[hval life count mw mh, .int .i64 now, .int .i64 place] w (Believed w ys now place) := by
  have hl := MapIs.look (w := w.alloc (.cells #[.int .i64 life, .int .i64 count, .map mw, .map mh] 41)) (h.kept ((Only.refl w.heap.size w.heap.size w).alloc _) (by omega)) Try.underlying39 (zero122 _) place hk
  have hO : Hid (Only w.heap.size w.heap.size w w) := Lib.hid (Only.refl _ _ _)
  clear h
  unfold hval
  cases hm : mget ys place with
  | none =>
    have hB : Hid (believe ys now place = (0, false)) := Lib.hid (by simp [believe, hm])
    rw [hm] at hl
    simp only [got, pairE, Option.getD_none, Option.isSome_none] at hl
    go_enter Try.func28, Try.ntmps28
    go_wp2
    refine bodyPost_ret (v := .tuple #[.int .i64 0, .bool false]) (by simp [results, Try.results28, go_sem]) rfl ?_
    exact ⟨by rw [hB.out], (hO.out.alloc _).alloc _⟩
  | some x =>
    obtain ⟨ep, un⟩ := x
    rw [hm] at hl
    simp only [got, pairE, Option.getD_some, Option.isSome_some] at hl
    by_cases hle : un ≤ now
    · have hB : Hid (believe ys now place = (0, false)) := Lib.hid (by simp [believe, hm, hle])
      have hd : decide (un ≤ now) = true := by simp [hle]
      go_enter Try.func28, Try.ntmps28
      go_wp2
      refine bodyPost_ret (v := .tuple #[.int .i64 0, .bool false]) (by simp [results, Try.results28, go_sem]) rfl ?_
      exact ⟨by rw [hB.out], (hO.out.alloc _).alloc _⟩
    · have hB : Hid (believe ys now place = (ep, true)) := Lib.hid (by simp [believe, hm, hle])
      have hd : decide (un ≤ now) = false := by simp [hle]
      go_enter Try.func28, Try.ntmps28
      go_wp2
      refine bodyPost_ret (v := .tuple #[.int .i64 ep, .bool true]) (by simp [results, Try.results28, go_sem]) rfl ?_
      exact ⟨by rw [hB.out], (hO.out.alloc _).alloc _⟩

/-- the next life -/
def nextLife (life : Int) : Int := max 0 (min life 524287) + 1
set_option maxRecDepth 100000 in
set_option maxHeartbeats 1000000 in
theorem crash_any (w : World) (life count : Int) (mw mh : Option Nat) :
    Calls Try.prog 30 #[hval life count mw mh] w fun e w' => e = .returned (hval (nextLife life) 0 none none) ∧ Only w.heap.size w.heap.size w w' := by
  have hO : Hid (Only w.heap.size w.heap.size w w) := Lib.hid (Only.refl _ _ _)
  unfold hval
  go_enter Try.func30, Try.ntmps30
  go_wp2
  all_goals refine bodyPost_ret (v := hval (nextLife life) 0 none none) (by simp [results, Try.results30, go_sem, hval, nextLife]; omega) rfl ?_
  all_goals exact ⟨rfl, (hO.out.alloc _).alloc _⟩
end Go.Proofs.Ytefllgpehhlkoaa
