/-
  TillerTurns where its arguments are out of range.
-/
import Derived.Test.YtefllgpehhlkoaaTurnsA
namespace Go.Proofs.Ytefllgpehhlkoaa
open Go.RowKit Go.Maps
set_option linter.unusedVariables false

set_option maxRecDepth 100000 in
set_option maxHeartbeats 4000000 in
theorem turns_bad (w : World) (term margin : Int) (al : Option Addr) (cap : Nat) (l0 l : List Int) (hl : l = l0.take 100) (hrow : Sl w w.heap.size al cap l0) (hcap : cap ≤ 9223372036854775807) (a g : Int)
    (hb : term < 1 ∨ 1000 < term ∨ margin < 0 ∨ 1000 < margin ∨ a < 0 ∨ g < a ∨ (l.length : Int) < g) :
    Calls Try.prog 13 #[.agg #[.int .i64 term, .int .i64 margin], .slice al l0.length cap, .int .i64 a, .int .i64 g] w (TrueOnly w) := by
  have hO : Hid (Only w.heap.size w.heap.size w w) := Lib.hid (Only.refl _ _ _)
  have HB := Lib.hid hb
  have HR : Hid (∀ W, Only w.heap.size w.heap.size w W → Calls Try.prog 15 #[.slice al l0.length cap, .int .i64 100] W (NewRow W l)) := Lib.hid (fun W oW => by
    rw [hl]
    exact few_any W cap al l0 ((hrow.kept oW (Nat.le_refl _) (Nat.le_refl _)).mono oW.size) 100 (by omega) hcap)
  have HG0 : Hid (grantL ⟨0, 0, []⟩ 5 10 1 7 = (⟨1, 0, [(1, (7, 1, 15))]⟩, 1, 0)) := Lib.hid aw1
  have hX0 : Hid (∀ W, Out (w.alloc (.cells #[.int .i64 term, .int .i64 margin] 37)) W → W.cell? ⟨w.heap.size, 0, none⟩ = some (.int .i64 term) ∧ W.cell? ⟨w.heap.size, 1, none⟩ = some (.int .i64 margin)) := Lib.hid (fun W o => by
    have hp := pair_at (at_top w (.cells #[.int .i64 term, .int .i64 margin] 37) w.heap.size rfl)
    exact ⟨(o.cell (by simp) (.inl (by simp))).trans hp.1, (o.cell (by simp) (.inl (by simp))).trans hp.2⟩)
  clear hrow hcap hl hb
  go_enter Try.func13, Try.ntmps13
  go_wp2_with (first
    | (go_at_call 34; (with_reducible refine Calls.mono (grantL_from (Only.refl _ _ _) (S := ⟨0, 0, []⟩) (S' := ⟨1, 0, [(1, (7, 1, 15))]⟩) (m := none) (mapis_none _) rfl rfl rfl rfl (WalkArith.wf_i64 (by decide)) (by decide) (few_nil _) HG0.out) ?_); rintro e W1 ⟨mm, rfl, x1', ho', _⟩; have o1 : Hid (Out (w.alloc (.cells #[.int .i64 term, .int .i64 margin] 37)) (W1.alloc (.cells #[.int .i64 1, .int .i64 0, .map mm] 57))) := Lib.hid (ho'.alloc _); clear x1' ho')
    | (go_at_call 15; (refine (HR.out _ ((hO.out.alloc _).then o1.out (by simp))).mono ?_; rintro e W2 ⟨a1, cap1, rfl, hs1, ho1⟩; have o2 := Lib.hid (o1.out.thens ho1); have pp := hX0.out _ o2.out; obtain ⟨p0, p1⟩ := pp; clear hs1 ho1))
    | fail)
  all_goals first
    | (exfalso; have := HB.out; clear HB; omega)
    | (go_ret; exact ⟨rfl, (hO.out.alloc _).then o2.out (by simp)⟩)
end Go.Proofs.Ytefllgpehhlkoaa
