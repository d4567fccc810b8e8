/-
  The document's lease (tillerref18): within, Restart.
-/
import Derived.Test.YtefllgpehhlkoaaRefW2
import Derived.Deep.RegionWith
namespace Go.Proofs.Ytefllgpehhlkoaa
open Go.RowKit Go.Maps
set_option linter.unusedVariables false

theorem within_any (w : World) (n most : Int) (hm : 0 ≤ most) : Calls Try.prog 58 #[.int .i64 n, .int .i64 most] w fun e w' => e = .returned (.int .i64 (max 0 (min n most))) ∧ w = w' := by
  by_cases h1 : n < 0
  · have e : max 0 (min n most) = 0 := by omega
    rw [e]
    clear e
    go_enter Try.func58, Try.ntmps58
    go_wp2
    go_ret
    exact ⟨rfl, rfl⟩
  · by_cases h2 : most < n
    · have e : max 0 (min n most) = most := by omega
      rw [e]
      clear e
      go_enter Try.func58, Try.ntmps58
      go_wp2
      go_ret
      exact ⟨rfl, rfl⟩
    · have e : max 0 (min n most) = n := by omega
      rw [e]
      clear e
      go_enter Try.func58, Try.ntmps58
      go_wp2
      go_ret
      exact ⟨rfl, rfl⟩

set_option maxRecDepth 100000 in
set_option maxHeartbeats 1000000 in
theorem restartR_any (w : World) (epoch quiet now term : Int) (v : Value) :
    Calls Try.prog 40 #[.agg #[.int .i64 epoch, .int .i64 quiet, v], .int .i64 now, .int .i64 term] w fun e w' => e = .returned (.agg #[.int .i64 epoch, .int .i64 (quietL now term), .slice none 0 0]) ∧ Only w.heap.size w.heap.size w w' := by
  have hO : Hid (Only w.heap.size w.heap.size w w) := Lib.hid (Only.refl _ _ _)
  obtain ⟨a, ha⟩ : ∃ a : Int, max 0 (min now 1099511627776) = a := ⟨_, rfl⟩
  obtain ⟨b, hb⟩ : ∃ b : Int, max 0 (min term 1048576) = b := ⟨_, rfl⟩
  have ha1 : 0 ≤ a ∧ a ≤ 1099511627776 := by omega
  have hb1 : 0 ≤ b ∧ b ≤ 1048576 := by omega
  obtain ⟨ha0, ha1⟩ := ha1
  obtain ⟨hb0, hb1⟩ := hb1
  have HQ : Hid (quietL now term = a + b) := Lib.hid (by unfold quietL; rw [ha, hb])
  have H1 : Hid (∀ W, Calls Try.prog 58 #[.int .i64 now, .int .i64 1099511627776] W fun e w' => e = .returned (.int .i64 a) ∧ W = w') := Lib.hid (fun W => by rw [← ha]; exact within_any W _ _ (by decide))
  have H2 : Hid (∀ W, Calls Try.prog 58 #[.int .i64 term, .int .i64 1048576] W fun e w' => e = .returned (.int .i64 b) ∧ W = w') := Lib.hid (fun W => by rw [← hb]; exact within_any W _ _ (by decide))
  have hwr : IntKind.i64.wrap (a + b) = a + b := IntWalk.i64_in _ (by omega)
  clear ha hb
  go_enter Try.func40, Try.ntmps40
  go_wp2_with fail
  go_region_with (first
    | (go_at_call 58; (with_reducible refine Calls.mono (H1.out _) ?_); rintro e W ⟨rfl, rfl⟩)
    | (go_at_call 58; (with_reducible refine Calls.mono (H2.out _) ?_); rintro e W ⟨rfl, rfl⟩))
  all_goals go_wp2
  all_goals refine bodyPost_ret (v := .agg #[.int .i64 epoch, .int .i64 (a + b), .slice none 0 0]) (by simp [results, Try.results40, go_sem]) rfl ⟨by rw [HQ.out], ?_⟩
  all_goals repeat (first | exact hO.out | refine Only.drew ?_ | refine Only.alloc ?_ _)
end Go.Proofs.Ytefllgpehhlkoaa
