/-
  For every message WireWrites returns true: messages are written in one way, and read back. Condition: the listed variable errors.errorType holds what its initialiser lays, tied to the program.
-/
import Derived.Test.YtjlfoiocceepjaaDoorTie
import Derived.Test.YtjlfoiocceepjaaDoorCards
import Derived.Test.YtjlfoiocceepjaaDoorOpenK
import Derived.Test.YtjlfoiocceepjaaDoorMWrites
import Derived.Test.YtjlfoiocceepjaaDoorOpenM
import Derived.WalkKit
import Derived.ProofKit
import Derived.OpenShut
import Derived.ShutString
import Derived.ChangeOld
import Derived.ChangeSame
import Derived.ChangeVars
import Derived.JoinedOf
import Derived.LaidLaws
import Derived.LaidHandle
import Derived.SevenTiedAt
import Derived.Below
import Derived.SizedLaws
namespace Go.Proofs.YtjlfoiocceepjaaDoor
open Go.ChangeShapes Go.WideShapes Go.ChangeAt Go.RowKit Go.Proofs.YtjlfoiocceepjaaDoorW.PrintWords Go.Proofs.YtjlfoiocceepjaaDoorW.PrintLast
open Go.ChangeMaps (open_string shut_string)
set_option linter.unusedVariables false
set_option linter.unusedSimpArgs false

theorem wireWrites_own : ownKnob Tryd.prog.godebug = none := by kernel_rfl
theorem wireWrites_laidOut : laidOutB Tryd.prog = true := by kernel_rfl
theorem wireWrites_et : Tryd.prog.globalNamed "errors.errorType" = some 0 := by kernel_rfl
theorem wireWrites_rt : (Tryd.prog.cutTypes.find? (·.1 == "internal/reflectlite.rtype")).map (·.2) = some 104 := by kernel_rfl
theorem wireWrites_oneRow : ((List.range 146).filter fun t => Tryd.prog.rowNamed t [101, 114, 114, 111, 114]) = [24] := by kernel_rfl
theorem wireWrites_size : Tryd.prog.types.size = 146 := by kernel_rfl
theorem wireWrites_handle {W : World} (h : laidMetH Tryd.prog Rows.wireWritesRow.laid W) : Gl W := by
  have h' : laidMet Tryd.prog [] W ∧ handlesMet Tryd.prog Rows.wireWritesRow.laid W := h
  obtain ⟨name, u, ty, e1, e2, e3, e4, e5⟩ := h'.2 _ (List.mem_singleton.2 rfl)
  have en : name = [101, 114, 114, 111, 114] := (Option.some.inj e1).symm
  subst en
  obtain rfl := Option.some.inj (wireWrites_rt.symm.trans e2)
  have hm : ty ∈ (List.range 146).filter fun t => Tryd.prog.rowNamed t [101, 114, 114, 111, 114] := List.mem_filter.2 ⟨List.mem_range.2 (by rw [← wireWrites_size]; exact e3), e4⟩
  rw [wireWrites_oneRow] at hm
  obtain rfl := List.mem_singleton.1 hm
  have hh : typeHandle Tryd.prog 24 = .pointer (some ⟨1, 24, none⟩) := by kernel_rfl
  rw [hh] at e5
  unfold Gl
  simpa using World.var?_cell wireWrites_et e5 0
noncomputable def wireWrites_world (os : Os) : World :=
  let w0 := World.holding Tryd.prog os ⟨#[], #[], []⟩
  { w0 with heap := w0.heap.modify 0 fun
      | .cells _ t frozen => .cells #[.iface 104 (.agg #[.pointer (some ⟨1, 24, none⟩)])] t frozen
      | o => o }
theorem wireWrites_met (os : Os) (args : Array Value) : laidMetH Tryd.prog Rows.wireWritesRow.laid ((wireWrites_world os).forCall (fun _ _ => 0) ⟨#[], args, []⟩).memory :=
  laidMetH_of_parts (laidMet_nil _ _) (by kernel_rfl)

/-- the walk, as the row asks for it -/
theorem wireWrites_walk (W : World) (hg : Gl W) (n0 : Nat → Int) (a0 : Option Addr) (c0 : Nat) (l0 : List Int) (s0 : ByteArray) (w0 : l0.length ≤ c0 ∧ c0 ≤ 9223372036854775807 ∧ KI.C W a0 l0.length l0) :
    Calls Tryd.prog 11 #[.agg (msgC n0 (.slice a0 l0.length c0) s0)] W fun e w' => e = .returned (.bool true) ∧ Below W.heap.size W w' := by
  exact writes_any n0 a0 c0 l0 s0 W w0.2.2 w0.1 w0.2.1 hg

set_option maxRecDepth 100000 in
theorem wireWrites_lifted (os : Os) (started : os.Started) (H : Type) (enc : TypeId × Value → H) :
    ReturnsInHanded {} Tryd.checked os 11 .any (fun w args => (Rows.wireWritesSpec.pre enc Tryd.prog Tryd.f11 [] false w args ∧ laidMetH Tryd.prog Rows.wireWritesRow.laid w) ∧ sizedMet enc Tryd.prog Tryd.f11 (OpenSpec.ofChange Rows.wireWritesSpec) false w args)
      (Rows.wireWritesSpec.post enc Tryd.prog Tryd.f11 false true false false) := by
  refine returnsInHanded_of_change_and (C := Tryd.checked) (X := fun w _ => laidMetH Tryd.prog Rows.wireWritesRow.laid w) (fun _ _ _ hh h => h.of_heap hh) wireWrites_own started (by kernel_rfl) Tryd.func11
    (ChangeSpec.witness_at (enc := enc) (C := Tryd.checked) (os := os) (X := fun w _ => laidMetH Tryd.prog Rows.wireWritesRow.laid w) false (wireWrites_world os) #[.agg #[.int .i64 0, .int .i64 0, .int .i64 0, .int .i64 0, .int .i64 0, .int .i64 0, .int .i64 0, .int .i64 0, .int .i64 0, .int .i64 0, .slice none 0 0, .string ⟨#[]⟩]] 8 rfl (by kernel_rfl) (by kernel_rfl) (by kernel_rfl) (by kernel_rfl) (by kernel_rfl) (wireWrites_met os _)) ?_
  intro W base args ds gs before hval0 hW hcnd hsz0 hL _
  have hsz : (DataW.weightsEach Tryd.prog (Tryd.f11.params.toList ++ Rows.wireWritesSpec.plain.varTypes Tryd.prog) (ds ++ gs)).all (· ≤ reachBytes) = true := hsz0
  have hval : ∀ (j : Nat) t v, Tryd.f11.params[j]? = some t → args[j]? = some v → Value.okWide Tryd.prog W .any base t v := hval0
  have hW' := hW
  obtain ⟨p, q, hA0, hV, rfl, hfz, hnd⟩ := hW
  have hA : DataW.TrodAll enc Tryd.prog W 0 (fun _ => true) true Tryd.f11.params.toList args.toList ds p := hA0
  rw [Tryd.params11] at hA hval hsz
  obtain ⟨v0, vs0, d0, ds0, p0, q0, hargs, rfl, rfl, h0, r0⟩ := trodAll_cons hA
  obtain ⟨rfl, rfl, rfl⟩ := trodAll_nil r0
  obtain rfl : args = #[v0] := by cases args; simp_all
  obtain ⟨rfl, rfl⟩ := trodVars_none hV
  have k0 := h0
  have lt0 : ∀ x ∈ p0, x.block < W.heap.size := by obtain ⟨m, hm⟩ := k0; exact DataW.trod_lt m _ _ _ hm
  obtain ⟨n0, a0, c0, l0, s0, rfl, w0⟩ := open_msg (hval 0 48 v0 rfl rfl) h0
  clear hA0 hval0 hsz0 hsz
  refine (wireWrites_walk W (wireWrites_handle hL) n0 a0 c0 l0 s0 w0).mono fun e W' ⟨he, bel⟩ => ?_
  subst he
  exact ⟨_, rfl, _, _, _, [], _, [], hW', trodAll_mk1 (shut_bool Tryd.underlying4 _), (trodAll_cons_mk (Below.trod wireWrites_laidOut (by kernel_rfl) (of_decide_eq_true (by kernel_rfl)) k0 bel lt0) trodAll_mk0), rfl, bel.frame _, fun h => by cases h⟩

theorem wireWrites_over : Rows.wireWritesRow.holds Tryd.pinned (OpenSpec.ofChange Rows.wireWritesSpec) :=
  OpenClaim.holds_of_wide 11 Tryd.f11 rfl rfl rfl rfl rfl rfl rfl ⟨rfl, rfl, rfl, rfl, rfl⟩ rfl rfl rfl rfl rfl (by kernel_rfl) Tryd.func11 (by kernel_rfl)
    (of_decide_eq_true (by kernel_rfl)) (by unfold Func.isWrapper; first | (rw [if_pos (by decide +kernel)]; kernel_rfl) | (rw [if_neg (by decide +kernel)]; exact ⟨rfl, rfl⟩))
    (fun os started H enc _ => wireWrites_lifted os started H enc)

/-- THE STATEMENT: the tied card -/
theorem wireWrites_proved : Rows.WireWritesCardSaid :=
  Claim7.holds_tied_plain_at .later [] [.handle] true (true, "bebfb7c92d3e130894f046e4c0825488a060d2926adc9eff19f3ed19afac6a4e") true
    wireWrites_over (fun _ h => by cases h) (by kernel_rfl) (fun _ h => by cases h) wireWrites_row_tie rfl ⟨rfl, rfl⟩ (by kernel_rfl) rfl
    (fun f fn hf hfn => by
      obtain rfl : f = 11 := Option.some.inj ((show Tryd.prog.funcNamed Rows.wireWritesRow.func = some 11 by kernel_rfl).symm.trans hf) |>.symm
      obtain rfl : fn = Tryd.f11 := (Option.some.inj (Tryd.func11.symm.trans hfn)).symm
      exact ⟨by kernel_rfl, fun j t ht => by
        rw [Tryd.params11] at ht
        have hm : t ∈ [48] := List.mem_of_getElem? (by simpa using ht)
        simp only [List.mem_cons, List.mem_nil_iff, or_false] at hm
        subst hm
        exact (show Tryd.prog.wantsStandIn 48 = false by kernel_rfl)⟩)
    (by kernel_rfl)
#print axioms wireWrites_proved
end Go.Proofs.YtjlfoiocceepjaaDoor
