/-
  For every list of whole numbers WireNumbers returns true: any numbers in range go in a message, each in its place. Condition: the listed variable errors.errorType holds what its initialiser lays, tied to the program.
-/
import Derived.Test.YtjlfoiocceepjaaDoorTie
import Derived.Test.YtjlfoiocceepjaaDoorCards
import Derived.Test.YtjlfoiocceepjaaDoorOpenK
import Derived.Test.YtjlfoiocceepjaaDoorNums
import Derived.WalkKit
import Derived.ProofKit
import Derived.OpenShut
import Derived.ShutString
import Derived.ChangeOld
import Derived.ChangeSame
import Derived.ChangeVars
import Derived.JoinedOf
import Derived.LaidLaws
import Derived.LaidHandle
import Derived.SevenTiedAt
import Derived.Below
import Derived.SizedLaws
namespace Go.Proofs.YtjlfoiocceepjaaDoor
open Go.ChangeShapes Go.WideShapes Go.ChangeAt Go.RowKit Go.Proofs.YtjlfoiocceepjaaDoorW.PrintWords Go.Proofs.YtjlfoiocceepjaaDoorW.PrintLast
open Go.ChangeMaps (open_string shut_string)
set_option linter.unusedVariables false
set_option linter.unusedSimpArgs false

theorem wireNumbers_own : ownKnob Tryd.prog.godebug = none := by kernel_rfl
theorem wireNumbers_laidOut : laidOutB Tryd.prog = true := by kernel_rfl
theorem wireNumbers_et : Tryd.prog.globalNamed "errors.errorType" = some 0 := by kernel_rfl
theorem wireNumbers_rt : (Tryd.prog.cutTypes.find? (·.1 == "internal/reflectlite.rtype")).map (·.2) = some 104 := by kernel_rfl
theorem wireNumbers_oneRow : ((List.range 146).filter fun t => Tryd.prog.rowNamed t [101, 114, 114, 111, 114]) = [24] := by kernel_rfl
theorem wireNumbers_size : Tryd.prog.types.size = 146 := by kernel_rfl
theorem wireNumbers_handle {W : World} (h : laidMetH Tryd.prog Rows.wireNumbersRow.laid W) : Gl W := by
  have h' : laidMet Tryd.prog [] W ∧ handlesMet Tryd.prog Rows.wireNumbersRow.laid W := h
  obtain ⟨name, u, ty, e1, e2, e3, e4, e5⟩ := h'.2 _ (List.mem_singleton.2 rfl)
  have en : name = [101, 114, 114, 111, 114] := (Option.some.inj e1).symm
  subst en
  obtain rfl := Option.some.inj (wireNumbers_rt.symm.trans e2)
  have hm : ty ∈ (List.range 146).filter fun t => Tryd.prog.rowNamed t [101, 114, 114, 111, 114] := List.mem_filter.2 ⟨List.mem_range.2 (by rw [← wireNumbers_size]; exact e3), e4⟩
  rw [wireNumbers_oneRow] at hm
  obtain rfl := List.mem_singleton.1 hm
  have hh : typeHandle Tryd.prog 24 = .pointer (some ⟨1, 24, none⟩) := by kernel_rfl
  rw [hh] at e5
  unfold Gl
  simpa using World.var?_cell wireNumbers_et e5 0
noncomputable def wireNumbers_world (os : Os) : World :=
  let w0 := World.holding Tryd.prog os ⟨#[], #[], []⟩
  { w0 with heap := w0.heap.modify 0 fun
      | .cells _ t frozen => .cells #[.iface 104 (.agg #[.pointer (some ⟨1, 24, none⟩)])] t frozen
      | o => o }
theorem wireNumbers_met (os : Os) (args : Array Value) : laidMetH Tryd.prog Rows.wireNumbersRow.laid ((wireNumbers_world os).forCall (fun _ _ => 0) ⟨#[], args, []⟩).memory :=
  laidMetH_of_parts (laidMet_nil _ _) (by kernel_rfl)

/-- the walk, as the row asks for it -/
theorem wireNumbers_walk (W : World) (hg : Gl W) (a0 : Option Addr) (c0 : Nat) (l0 : List Int) (w0 : l0.length ≤ c0 ∧ c0 ≤ 9223372036854775807 ∧ (Kd.int .i64).C W a0 l0.length l0 ∧ ∀ n ∈ l0, (Lit.int .i64 n).wf = true) :
    Calls Tryd.prog 10 #[.slice a0 l0.length c0] W fun e w' => e = .returned (.bool true) ∧ Below W.heap.size W w' := by
  exact nums_any a0 c0 l0 W w0.2.2.1 w0.1 w0.2.1 hg

set_option maxRecDepth 100000 in
theorem wireNumbers_lifted (os : Os) (started : os.Started) (H : Type) (enc : TypeId × Value → H) :
    ReturnsInHanded {} Tryd.checked os 10 .any (fun w args => (Rows.wireNumbersSpec.pre enc Tryd.prog Tryd.f10 [] false w args ∧ laidMetH Tryd.prog Rows.wireNumbersRow.laid w) ∧ sizedMet enc Tryd.prog Tryd.f10 (OpenSpec.ofChange Rows.wireNumbersSpec) false w args)
      (Rows.wireNumbersSpec.post enc Tryd.prog Tryd.f10 false true false false) := by
  refine returnsInHanded_of_change_and (C := Tryd.checked) (X := fun w _ => laidMetH Tryd.prog Rows.wireNumbersRow.laid w) (fun _ _ _ hh h => h.of_heap hh) wireNumbers_own started (by kernel_rfl) Tryd.func10
    (ChangeSpec.witness_at (enc := enc) (C := Tryd.checked) (os := os) (X := fun w _ => laidMetH Tryd.prog Rows.wireNumbersRow.laid w) false (wireNumbers_world os) #[.slice none 0 0] 8 rfl (by kernel_rfl) (by kernel_rfl) (by kernel_rfl) (by kernel_rfl) (by kernel_rfl) (wireNumbers_met os _)) ?_
  intro W base args ds gs before hval0 hW hcnd hsz0 hL _
  have hsz : (DataW.weightsEach Tryd.prog (Tryd.f10.params.toList ++ Rows.wireNumbersSpec.plain.varTypes Tryd.prog) (ds ++ gs)).all (· ≤ reachBytes) = true := hsz0
  have hval : ∀ (j : Nat) t v, Tryd.f10.params[j]? = some t → args[j]? = some v → Value.okWide Tryd.prog W .any base t v := hval0
  have hW' := hW
  obtain ⟨p, q, hA0, hV, rfl, hfz, hnd⟩ := hW
  have hA : DataW.TrodAll enc Tryd.prog W 0 (fun _ => true) true Tryd.f10.params.toList args.toList ds p := hA0
  rw [Tryd.params10] at hA hval hsz
  obtain ⟨v0, vs0, d0, ds0, p0, q0, hargs, rfl, rfl, h0, r0⟩ := trodAll_cons hA
  obtain ⟨rfl, rfl, rfl⟩ := trodAll_nil r0
  obtain rfl : args = #[v0] := by cases args; simp_all
  obtain ⟨rfl, rfl⟩ := trodVars_none hV
  have k0 := h0
  have lt0 : ∀ x ∈ p0, x.block < W.heap.size := by obtain ⟨m, hm⟩ := k0; exact DataW.trod_lt m _ _ _ hm
  obtain ⟨a0, c0, l0, rfl, w0⟩ := open_Cv Tryd.underlying46 Tryd.underlying3 (by kernel_rfl) (hval 0 46 v0 rfl rfl) h0
  clear hA0 hval0 hsz0 hsz
  refine (wireNumbers_walk W (wireNumbers_handle hL) a0 c0 l0 w0).mono fun e W' ⟨he, bel⟩ => ?_
  subst he
  exact ⟨_, rfl, _, _, _, [], _, [], hW', trodAll_mk1 (shut_bool Tryd.underlying4 _), (trodAll_cons_mk (Below.trod wireNumbers_laidOut (by kernel_rfl) (of_decide_eq_true (by kernel_rfl)) k0 bel lt0) trodAll_mk0), rfl, bel.frame _, fun h => by cases h⟩

theorem wireNumbers_over : Rows.wireNumbersRow.holds Tryd.pinned (OpenSpec.ofChange Rows.wireNumbersSpec) :=
  OpenClaim.holds_of_wide 10 Tryd.f10 rfl rfl rfl rfl rfl rfl rfl ⟨rfl, rfl, rfl, rfl, rfl⟩ rfl rfl rfl rfl rfl (by kernel_rfl) Tryd.func10 (by kernel_rfl)
    (of_decide_eq_true (by kernel_rfl)) (by unfold Func.isWrapper; first | (rw [if_pos (by decide +kernel)]; kernel_rfl) | (rw [if_neg (by decide +kernel)]; exact ⟨rfl, rfl⟩))
    (fun os started H enc _ => wireNumbers_lifted os started H enc)

/-- THE STATEMENT: the tied card -/
theorem wireNumbers_proved : Rows.WireNumbersCardSaid :=
  Claim7.holds_tied_plain_at .later [] [.handle] true (true, "bebfb7c92d3e130894f046e4c0825488a060d2926adc9eff19f3ed19afac6a4e") true
    wireNumbers_over (fun _ h => by cases h) (by kernel_rfl) (fun _ h => by cases h) wireNumbers_row_tie rfl ⟨rfl, rfl⟩ (by kernel_rfl) rfl
    (fun f fn hf hfn => by
      obtain rfl : f = 10 := Option.some.inj ((show Tryd.prog.funcNamed Rows.wireNumbersRow.func = some 10 by kernel_rfl).symm.trans hf) |>.symm
      obtain rfl : fn = Tryd.f10 := (Option.some.inj (Tryd.func10.symm.trans hfn)).symm
      exact ⟨by kernel_rfl, fun j t ht => by
        rw [Tryd.params10] at ht
        have hm : t ∈ [46] := List.mem_of_getElem? (by simpa using ht)
        simp only [List.mem_cons, List.mem_nil_iff, or_false] at hm
        subst hm
        exact (show Tryd.prog.wantsStandIn 46 = false by kernel_rfl)⟩)
    (by kernel_rfl)
#print axioms wireNumbers_proved
end Go.Proofs.YtjlfoiocceepjaaDoor
