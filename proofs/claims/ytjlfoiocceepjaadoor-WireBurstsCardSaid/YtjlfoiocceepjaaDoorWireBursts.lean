/-
  For every message, place and bits WireBursts returns true: a burst of turned bits in a message is told as the frame's. Condition: the listed variable errors.errorType holds what its initialiser lays, tied to the program.
-/
import Derived.Test.YtjlfoiocceepjaaDoorTie
import Derived.Test.YtjlfoiocceepjaaDoorCards
import Derived.Test.YtjlfoiocceepjaaDoorOpenK
import Derived.Test.YtjlfoiocceepjaaDoorMBursts
import Derived.Test.YtjlfoiocceepjaaDoorOpenM
import Derived.WalkKit
import Derived.ProofKit
import Derived.OpenShut
import Derived.ShutString
import Derived.ChangeOld
import Derived.ChangeSame
import Derived.ChangeVars
import Derived.JoinedOf
import Derived.LaidLaws
import Derived.LaidHandle
import Derived.SevenTiedAt
import Derived.Below
import Derived.SizedLaws
namespace Go.Proofs.YtjlfoiocceepjaaDoor
open Go.ChangeShapes Go.WideShapes Go.ChangeAt Go.RowKit Go.Proofs.YtjlfoiocceepjaaDoorW.PrintWords Go.Proofs.YtjlfoiocceepjaaDoorW.PrintLast
open Go.ChangeMaps (open_string shut_string)
set_option linter.unusedVariables false
set_option linter.unusedSimpArgs false

theorem wireBursts_own : ownKnob Tryd.prog.godebug = none := by kernel_rfl
theorem wireBursts_laidOut : laidOutB Tryd.prog = true := by kernel_rfl
theorem wireBursts_et : Tryd.prog.globalNamed "errors.errorType" = some 0 := by kernel_rfl
theorem wireBursts_rt : (Tryd.prog.cutTypes.find? (·.1 == "internal/reflectlite.rtype")).map (·.2) = some 104 := by kernel_rfl
theorem wireBursts_oneRow : ((List.range 146).filter fun t => Tryd.prog.rowNamed t [101, 114, 114, 111, 114]) = [24] := by kernel_rfl
theorem wireBursts_size : Tryd.prog.types.size = 146 := by kernel_rfl
theorem wireBursts_handle {W : World} (h : laidMetH Tryd.prog Rows.wireBurstsRow.laid W) : Gl W := by
  have h' : laidMet Tryd.prog [] W ∧ handlesMet Tryd.prog Rows.wireBurstsRow.laid W := h
  obtain ⟨name, u, ty, e1, e2, e3, e4, e5⟩ := h'.2 _ (List.mem_singleton.2 rfl)
  have en : name = [101, 114, 114, 111, 114] := (Option.some.inj e1).symm
  subst en
  obtain rfl := Option.some.inj (wireBursts_rt.symm.trans e2)
  have hm : ty ∈ (List.range 146).filter fun t => Tryd.prog.rowNamed t [101, 114, 114, 111, 114] := List.mem_filter.2 ⟨List.mem_range.2 (by rw [← wireBursts_size]; exact e3), e4⟩
  rw [wireBursts_oneRow] at hm
  obtain rfl := List.mem_singleton.1 hm
  have hh : typeHandle Tryd.prog 24 = .pointer (some ⟨1, 24, none⟩) := by kernel_rfl
  rw [hh] at e5
  unfold Gl
  simpa using World.var?_cell wireBursts_et e5 0
noncomputable def wireBursts_world (os : Os) : World :=
  let w0 := World.holding Tryd.prog os ⟨#[], #[], []⟩
  { w0 with heap := w0.heap.modify 0 fun
      | .cells _ t frozen => .cells #[.iface 104 (.agg #[.pointer (some ⟨1, 24, none⟩)])] t frozen
      | o => o }
theorem wireBursts_met (os : Os) (args : Array Value) : laidMetH Tryd.prog Rows.wireBurstsRow.laid ((wireBursts_world os).forCall (fun _ _ => 0) ⟨#[], args, []⟩).memory :=
  laidMetH_of_parts (laidMet_nil _ _) (by kernel_rfl)

/-- the walk, as the row asks for it -/
theorem wireBursts_walk (W : World) (hg : Gl W) (n0 : Nat → Int) (a0 : Option Addr) (c0 : Nat) (l0 : List Int) (s0 : ByteArray) (w0 : l0.length ≤ c0 ∧ c0 ≤ 9223372036854775807 ∧ KI.C W a0 l0.length l0) (a1 : Int) (w1 : (Lit.int .i64 a1).wf = true) (a2 : Int) (w2 : (Lit.int .u32 a2).wf = true) :
    Calls Tryd.prog 12 #[.agg (msgC n0 (.slice a0 l0.length c0) s0), .int .i64 a1, .int .u32 a2] W fun e w' => e = .returned (.bool true) ∧ Below W.heap.size W w' := by
  have hc : 0 ≤ a2 ∧ a2 < 4294967296 := by
    have h := w2
    simp only [Lit.wf, Bool.and_eq_true, decide_eq_true_eq] at h
    have h1 : (IntKind.u32.min : Int) = 0 := by decide
    have h2 : (IntKind.u32.max : Int) = 4294967295 := by decide
    omega
  exact wbursts_any n0 a0 c0 l0 s0 a1 a2 W w0.2.2 w0.1 w0.2.1 hg hc

set_option maxRecDepth 100000 in
theorem wireBursts_lifted (os : Os) (started : os.Started) (H : Type) (enc : TypeId × Value → H) :
    ReturnsInHanded {} Tryd.checked os 12 .any (fun w args => (Rows.wireBurstsSpec.pre enc Tryd.prog Tryd.f12 [] false w args ∧ laidMetH Tryd.prog Rows.wireBurstsRow.laid w) ∧ sizedMet enc Tryd.prog Tryd.f12 (OpenSpec.ofChange Rows.wireBurstsSpec) false w args)
      (Rows.wireBurstsSpec.post enc Tryd.prog Tryd.f12 false true false false) := by
  refine returnsInHanded_of_change_and (C := Tryd.checked) (X := fun w _ => laidMetH Tryd.prog Rows.wireBurstsRow.laid w) (fun _ _ _ hh h => h.of_heap hh) wireBursts_own started (by kernel_rfl) Tryd.func12
    (ChangeSpec.witness_at (enc := enc) (C := Tryd.checked) (os := os) (X := fun w _ => laidMetH Tryd.prog Rows.wireBurstsRow.laid w) false (wireBursts_world os) #[.agg #[.int .i64 0, .int .i64 0, .int .i64 0, .int .i64 0, .int .i64 0, .int .i64 0, .int .i64 0, .int .i64 0, .int .i64 0, .int .i64 0, .slice none 0 0, .string ⟨#[]⟩], .int .i64 0, .int .u32 0] 8 rfl (by kernel_rfl) (by kernel_rfl) (by kernel_rfl) (by kernel_rfl) (by kernel_rfl) (wireBursts_met os _)) ?_
  intro W base args ds gs before hval0 hW hcnd hsz0 hL _
  have hsz : (DataW.weightsEach Tryd.prog (Tryd.f12.params.toList ++ Rows.wireBurstsSpec.plain.varTypes Tryd.prog) (ds ++ gs)).all (· ≤ reachBytes) = true := hsz0
  have hval : ∀ (j : Nat) t v, Tryd.f12.params[j]? = some t → args[j]? = some v → Value.okWide Tryd.prog W .any base t v := hval0
  have hW' := hW
  obtain ⟨p, q, hA0, hV, rfl, hfz, hnd⟩ := hW
  have hA : DataW.TrodAll enc Tryd.prog W 0 (fun _ => true) true Tryd.f12.params.toList args.toList ds p := hA0
  rw [Tryd.params12] at hA hval hsz
  obtain ⟨v0, vs0, d0, ds0, p0, q0, hargs, rfl, rfl, h0, r0⟩ := trodAll_cons hA
  obtain ⟨v1, vs1, d1, ds1, p1, q1, rfl, rfl, rfl, h1, r1⟩ := trodAll_cons r0
  obtain ⟨v2, vs2, d2, ds2, p2, q2, rfl, rfl, rfl, h2, r2⟩ := trodAll_cons r1
  obtain ⟨rfl, rfl, rfl⟩ := trodAll_nil r2
  obtain rfl : args = #[v0, v1, v2] := by cases args; simp_all
  obtain ⟨rfl, rfl⟩ := trodVars_none hV
  have k0 := h0
  have lt0 : ∀ x ∈ p0, x.block < W.heap.size := by obtain ⟨m, hm⟩ := k0; exact DataW.trod_lt m _ _ _ hm
  obtain ⟨n0, a0, c0, l0, s0, rfl, w0⟩ := open_msg (hval 0 48 v0 rfl rfl) h0
  obtain ⟨a1, rfl, rfl, rfl, w1⟩ := open_int Tryd.underlying3 (hval 1 3 v1 rfl rfl) h1
  obtain ⟨a2, rfl, rfl, rfl, w2⟩ := open_int Tryd.underlying31 (hval 2 31 v2 rfl rfl) h2
  clear hA0 hval0 hsz0 hsz
  refine (wireBursts_walk W (wireBursts_handle hL) n0 a0 c0 l0 s0 w0 a1 w1 a2 w2).mono fun e W' ⟨he, bel⟩ => ?_
  subst he
  exact ⟨_, rfl, _, _, _, [], _, [], hW', trodAll_mk1 (shut_bool Tryd.underlying4 _), (trodAll_cons_mk (Below.trod wireBursts_laidOut (by kernel_rfl) (of_decide_eq_true (by kernel_rfl)) k0 bel lt0) (trodAll_cons_mk (shut_int Tryd.underlying3 w1) (trodAll_cons_mk (shut_int Tryd.underlying31 w2) trodAll_mk0))), rfl, bel.frame _, fun h => by cases h⟩

theorem wireBursts_over : Rows.wireBurstsRow.holds Tryd.pinned (OpenSpec.ofChange Rows.wireBurstsSpec) :=
  OpenClaim.holds_of_wide 12 Tryd.f12 rfl rfl rfl rfl rfl rfl rfl ⟨rfl, rfl, rfl, rfl, rfl⟩ rfl rfl rfl rfl rfl (by kernel_rfl) Tryd.func12 (by kernel_rfl)
    (of_decide_eq_true (by kernel_rfl)) (by unfold Func.isWrapper; first | (rw [if_pos (by decide +kernel)]; kernel_rfl) | (rw [if_neg (by decide +kernel)]; exact ⟨rfl, rfl⟩))
    (fun os started H enc _ => wireBursts_lifted os started H enc)

/-- THE STATEMENT: the tied card -/
theorem wireBursts_proved : Rows.WireBurstsCardSaid :=
  Claim7.holds_tied_plain_at .later [] [.handle] true (true, "bebfb7c92d3e130894f046e4c0825488a060d2926adc9eff19f3ed19afac6a4e") true
    wireBursts_over (fun _ h => by cases h) (by kernel_rfl) (fun _ h => by cases h) wireBursts_row_tie rfl ⟨rfl, rfl⟩ (by kernel_rfl) rfl
    (fun f fn hf hfn => by
      obtain rfl : f = 12 := Option.some.inj ((show Tryd.prog.funcNamed Rows.wireBurstsRow.func = some 12 by kernel_rfl).symm.trans hf) |>.symm
      obtain rfl : fn = Tryd.f12 := (Option.some.inj (Tryd.func12.symm.trans hfn)).symm
      exact ⟨by kernel_rfl, fun j t ht => by
        rw [Tryd.params12] at ht
        have hm : t ∈ [48, 3, 31] := List.mem_of_getElem? (by simpa using ht)
        simp only [List.mem_cons, List.mem_nil_iff, or_false] at hm
        rcases hm with rfl | rfl | rfl
        · exact (show Tryd.prog.wantsStandIn 48 = false by kernel_rfl)
        · exact (show Tryd.prog.wantsStandIn 3 = false by kernel_rfl)
        · exact (show Tryd.prog.wantsStandIn 31 = false by kernel_rfl)⟩)
    (by kernel_rfl)
#print axioms wireBursts_proved
end Go.Proofs.YtjlfoiocceepjaaDoor
