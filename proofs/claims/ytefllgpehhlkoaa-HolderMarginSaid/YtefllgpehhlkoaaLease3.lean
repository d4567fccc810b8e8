/-
  The lease (layer 18): Who, Restart.
-/
import Derived.Test.YtefllgpehhlkoaaLease2
namespace Go.Proofs.Ytefllgpehhlkoaa
open Go.RowKit Go.Maps

theorem zero82 (w : World) : (zeroValue 82).run Try.prog w = .ok (tripE.val tripE.zero) w := by kernel_rfl

/-- who has a place -/
def whoL (es : Trips) (now place : Int) : Option (Int × Int × Int) :=
  match mget es place with
  | none => none
  | some x => if x.2.2 ≤ now then none else some x

/-- what Who leaves -/
def Whoed (w : World) (o : Option (Int × Int × Int)) (e : Ending) (w' : World) : Prop :=
  e = .returned (.tuple #[tripE.val (o.getD (0, 0, 0)), .bool o.isSome]) ∧ Only w.heap.size w.heap.size w w'

set_option maxRecDepth 100000 in
set_option maxHeartbeats 1000000 in
theorem who_any (w : World) (epoch quiet now place : Int) (m : Option Nat) (es : Trips) (h : MapIs tripE w m es) (hk : (Lit.int .i64 place).wf = true) :
    Calls Try.prog 41 #[lval epoch quiet m, .int .i64 now, .int .i64 place] w (Whoed w (whoL es now place)) := by
  have hl := MapIs.look (w := (w.alloc (.cells #[.int .i64 epoch, .int .i64 quiet, .map m] 57)).alloc (.cells #[.int .i64 0, .int .i64 0, .int .i64 0] 82)) (h.kept (((Only.refl w.heap.size w.heap.size w).alloc _).alloc _) (by omega)) Try.underlying55 (zero82 _) place hk
  have hO : Hid (Only w.heap.size w.heap.size w w) := Lib.hid (Only.refl _ _ _)
  clear h
  unfold lval
  cases hm : mget es place with
  | none =>
    have hB : Hid (whoL es now place = none) := Lib.hid (by simp [whoL, hm])
    rw [hm] at hl
    simp only [got, tripE, Option.getD_none, Option.isSome_none] at hl
    go_enter Try.func41, Try.ntmps41
    go_wp2
    refine bodyPost_ret (v := .tuple #[.agg #[.int .i64 0, .int .i64 0, .int .i64 0], .bool false]) (by simp [results, Try.results41, go_sem]) rfl ?_
    exact ⟨by rw [hB.out]; rfl, ((hO.out.alloc _).alloc _).alloc _⟩
  | some x =>
    obtain ⟨x0, x1, x2⟩ := x
    rw [hm] at hl
    simp only [got, tripE, Option.getD_some, Option.isSome_some] at hl
    by_cases hle : x2 ≤ now
    · have hB : Hid (whoL es now place = none) := Lib.hid (by simp [whoL, hm, hle])
      have hd : decide (x2 ≤ now) = true := by simp [hle]
      go_enter Try.func41, Try.ntmps41
      go_wp2
      refine bodyPost_ret (v := .tuple #[.agg #[.int .i64 0, .int .i64 0, .int .i64 0], .bool false]) (by simp [results, Try.results41, go_sem]) rfl ?_
      exact ⟨by rw [hB.out]; rfl, ((hO.out.alloc _).alloc _).alloc _⟩
    · have hB : Hid (whoL es now place = some (x0, x1, x2)) := Lib.hid (by simp [whoL, hm, hle])
      have hd : decide (x2 ≤ now) = false := by simp [hle]
      go_enter Try.func41, Try.ntmps41
      go_wp2
      refine bodyPost_ret (v := .tuple #[.agg #[.int .i64 x0, .int .i64 x1, .int .i64 x2], .bool true]) (by simp [results, Try.results41, go_sem]) rfl ?_
      exact ⟨by rw [hB.out]; rfl, ((hO.out.alloc _).alloc _).alloc _⟩

/-- the quiet behind a restart -/
def quietL (now term : Int) : Int := max 0 (min now 1099511627776) + max 0 (min term 1048576)
set_option maxRecDepth 100000 in
set_option maxHeartbeats 1000000 in
theorem restart_any (w : World) (epoch quiet now term : Int) (m : Option Nat) :
    Calls Try.prog 33 #[lval epoch quiet m, .int .i64 now, .int .i64 term] w fun e w' => e = .returned (lval epoch (quietL now term) none) ∧ Only w.heap.size w.heap.size w w' := by
  have hO : Hid (Only w.heap.size w.heap.size w w) := Lib.hid (Only.refl _ _ _)
  unfold lval
  go_enter Try.func33, Try.ntmps33
  go_wp2
  all_goals refine bodyPost_ret (v := lval epoch (quietL now term) none) (by simp [results, Try.results33, go_sem, lval, quietL]; omega) rfl ?_
  all_goals exact ⟨rfl, (hO.out.alloc _).alloc _⟩
end Go.Proofs.Ytefllgpehhlkoaa
