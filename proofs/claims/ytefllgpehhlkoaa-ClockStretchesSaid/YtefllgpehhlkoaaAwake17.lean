/-
  The clock statements' own check (tillerlaw17.awake) answers true.
-/
import Derived.Test.YtefllgpehhlkoaaRef
import Derived.WalkLawsBesides
namespace Go.Proofs.Ytefllgpehhlkoaa
open Go.RowKit

theorem play_ex : (St.play 2 [1, 1, 0, 0, 0]).N 1 = 2 ∧ (St.play 2 [1, 1, 0, 0, 0]).drift 1 = 3 ∧ (St.play 2 [1, 1, 0, 0, 0]).worst 2 = 3 := by
  refine ⟨by decide, by decide, by decide⟩

set_option maxHeartbeats 400000 in
theorem awake17 (w : World) : Calls Try.prog 18 #[] w fun e w' => e = .returned (.bool true) ∧ Only w.heap.size w.heap.size w w' := by
  have hrow : ∀ (W : World), W = w.alloc (.cells #[.int .i64 1, .int .i64 1, .int .i64 0, .int .i64 0, .int .i64 0] 3) → Sl W W.heap.size (some ⟨w.heap.size, 0, none⟩) 5 [1, 1, 0, 0, 0] := by
    rintro W rfl
    refine ⟨by decide, fun h => by simp at h, .inr ⟨_, _, rfl, by simp, fun i hi => ?_⟩⟩
    simp only [List.length_cons, List.length_nil] at hi
    rw [Nat.zero_add, World.cell?_alloc_new]
    rcases (show i = 0 ∨ i = 1 ∨ i = 2 ∨ i = 3 ∨ i = 4 by omega) with rfl | rfl | rfl | rfl | rfl <;> rfl
  have HP := Lib.hid (play_some _ 5 _ [1, 1, 0, 0, 0] (hrow _ rfl) 2 (by omega) (by omega) (by decide))
  have HE := Lib.hid play_ex
  have HB := Lib.hid (Bd_play 2 [1, 1, 0, 0, 0])
  clear hrow
  go_enter Try.func18, Try.ntmps18
  go_wp2_with (go_at_call 16; refine HP.out.mono ?_; rintro e w1 ⟨p, rfl, hc, ho⟩)
  have HC := Lib.hid hc
  have HO := Lib.hid ho
  clear hc ho
  refine ((now_some _ _ _ p 2 _ HC.out 1 (by omega) (by omega)).mono (fun e w' h => (⟨h.1.trans (ret_int HE.out.1), h.2⟩ : e = .returned (.int .i64 2) ∧ w1 = w'))).mono ?_
  rintro e w2 ⟨rfl, rfl⟩
  go_wp2_with fail
  refine ((drift_some _ _ _ p 2 _ _ HC.out HB.out (by decide) 1 (by omega) (by omega)).mono (fun e w' h => (⟨h.1.trans (ret_int HE.out.2.1), h.2⟩ : e = .returned (.int .i64 3) ∧ ∃ m, w' = w1.drewN m))).mono ?_
  rintro e w2 ⟨rfl, m, rfl⟩
  go_wp2_with fail
  refine ((worst_any (w1.drewN m) _ _ p 2 _ _ (HC.out.kept ((Only.refl 0 0 w1).drewN m) (by omega)) HB.out (by decide) (by omega)).mono (fun e w' h => (⟨h.1.trans (ret_int HE.out.2.2), h.2⟩ : e = .returned (.int .i64 3) ∧ ∃ m', w' = (w1.drewN m).drewN m'))).mono ?_
  rintro e w2 ⟨rfl, m', rfl⟩
  go_wp2_with fail
  go_ret
  exact ⟨rfl, (((Only.refl _ _ w).alloc _).then HO.out (by simp)).drewN (m + m')⟩
end Go.Proofs.Ytefllgpehhlkoaa
