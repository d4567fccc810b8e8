/-
  For every row of calls LeaseEpochs returns true: epochs rise from each grant to the next one, over restarts too. No condition.
-/
import Derived.Test.YtefllgpehhlkoaaRows
import Derived.Test.YtefllgpehhlkoaaOpens
import Derived.Test.YtefllgpehhlkoaaOpens2
import Derived.Test.YtefllgpehhlkoaaEpochsW
import Derived.WalkKit
import Derived.ProofKit
import Derived.OpenShut
import Derived.ShutString
import Derived.ChangeOld
import Derived.Below
namespace Go.Proofs.Ytefllgpehhlkoaa
open Go.ChangeShapes Go.WideShapes Go.ChangeAt Go.RowKit
open Go.ChangeMaps (open_string shut_string)
set_option linter.unusedVariables false

theorem leaseEpochs_own : ownKnob Try.prog.godebug = none := by kernel_rfl
theorem leaseEpochs_laidOut : laidOutB Try.prog = true := by kernel_rfl

/-- the walk, as the row asks for it -/
theorem leaseEpochs_walk (a0 : Option Addr) (len0 cap0 : Nat) (z0 : Nat → Nat → Int) (w : World) (w0 : IsRecs w 6 a0 len0 cap0 z0) :
    Calls Try.prog 11 #[.slice a0 len0 cap0] w fun e w' => e = .returned (.bool true) ∧ Below w.heap.size w w' := by
  exact (epochs_any w a0 len0 cap0 z0 w0).mono fun _ _ h => ⟨h.1, h.2.new⟩


set_option maxRecDepth 100000 in
theorem leaseEpochs_lifted (os : Os) (started : os.Started) (H : Type) (enc : TypeId × Value → H) :
    ReturnsInHanded {} Try.checked os 11 .any (Rows.leaseEpochsSpec.pre6 enc Try.prog Try.f11 Rows.leaseEpochsRow.domain false) (Rows.leaseEpochsSpec.post enc Try.prog Try.f11 false true false false) := by
  refine returnsInHanded_of_change (C := Try.checked) leaseEpochs_own started (by kernel_rfl) Try.func11
    (ChangeSpec.witness6 (enc := enc) (C := Try.checked) false ⟨#[], #[.slice none 0 0], []⟩ 8 (by kernel_rfl) (by kernel_rfl) (by kernel_rfl) (by kernel_rfl)) ?_
  intro W base args ds gs before hval0 hW hcnd _
  have hval : ∀ (j : Nat) t v, Try.f11.params[j]? = some t → args[j]? = some v → Value.okWide Try.prog W .any base t v := hval0
  have hW' := hW
  obtain ⟨p, q, hA0, hV, rfl, hfz, hnd⟩ := hW
  have hA : DataW.TrodAll enc Try.prog W 0 (fun _ => true) true Try.f11.params.toList args.toList ds p := hA0
  rw [Try.params11] at hA hval
  obtain ⟨v0, vs0, d0, ds0, p0, q0, hargs, rfl, rfl, h0, r0⟩ := trodAll_cons hA
  obtain ⟨rfl, rfl, rfl⟩ := trodAll_nil r0
  obtain rfl : args = #[v0] := by cases args; simp_all
  obtain ⟨rfl, rfl⟩ := trodVars_none hV
  have k0 := h0
  have lt0 : ∀ x ∈ p0, x.block < W.heap.size := by obtain ⟨m, hm⟩ := k0; exact DataW.trod_lt m _ _ _ hm
  obtain ⟨a0, len0, cap0, rfl⟩ := okWide_slice Try.underlying69 (hval 0 69 v0 rfl rfl)
  obtain ⟨z0, w0⟩ := open_isRecs73 h0
  clear hA0 hval0
  refine (leaseEpochs_walk a0 len0 cap0 z0 W w0).mono fun e W' ⟨he, bel⟩ => ?_
  subst he
  exact ⟨_, rfl, _, _, _, [], _, [], hW', trodAll_mk1 (shut_bool Try.underlying4 _), (trodAll_cons_mk (Below.trod leaseEpochs_laidOut (by kernel_rfl) (of_decide_eq_true (by kernel_rfl)) k0 bel lt0) trodAll_mk0), rfl, bel.frame _, fun h => by cases h⟩

theorem leaseEpochs_over : Rows.leaseEpochsRow.holds Try.pinned (OpenSpec.ofChange Rows.leaseEpochsSpec) :=
  OpenClaim.holds_of_wide 11 Try.f11 rfl rfl rfl rfl rfl rfl rfl ⟨rfl, rfl, rfl, rfl, rfl⟩ rfl rfl rfl rfl rfl (by kernel_rfl) Try.func11 (by kernel_rfl)
    (of_decide_eq_true (by kernel_rfl)) (by unfold Func.isWrapper; first | (rw [if_pos (by decide +kernel)]; kernel_rfl) | (rw [if_neg (by decide +kernel)]; exact ⟨rfl, rfl⟩))
    (fun os started H enc _ => leaseEpochs_lifted os started H enc)

/-- THE STATEMENT -/
theorem leaseEpochs_proved : Rows.LeaseEpochsSaid := leaseEpochs_over
#print axioms leaseEpochs_proved
end Go.Proofs.Ytefllgpehhlkoaa
