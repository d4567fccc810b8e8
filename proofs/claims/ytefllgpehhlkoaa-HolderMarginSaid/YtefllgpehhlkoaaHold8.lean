/-
  The holder (layer 19): awake.
-/
import Derived.Test.YtefllgpehhlkoaaHold7
import Derived.WalkArith
namespace Go.Proofs.Ytefllgpehhlkoaa
open Go.RowKit

theorem aw_ask : askH ⟨0, 0, [], []⟩ 5 1 = (⟨0, 1, [(1, (1, 5))], []⟩, 1, 0) := by rfl
theorem aw_grant : grantH ⟨0, 1, [(1, (1, 5))], []⟩ 8 10 3 1 1 7 = (⟨0, 1, [], [(1, (7, 12))]⟩, 0) := by rfl
theorem aw_bel : believe [(1, (7, 12))] 11 1 = (7, true) := by rfl
theorem aw_bel2 : believe [(1, (7, 12))] 12 1 = (0, false) := by rfl

/-- the state of a variable, as its cells -/
theorem HVar.cells {w : World} {b : Nat} {h : HS} {m1 m2 : Option Nat} (k : HVar w b h m1 m2) : Box w b h.life h.count m1 m2 := k.box

set_option maxRecDepth 100000 in
set_option maxHeartbeats 1000000 in
theorem awake19 (w : World) : Calls Try.prog 25 #[] w fun e w' => e = .returned (.bool true) ∧ Only w.heap.size w.heap.size w w' := by
  have hO : Hid (Only w.heap.size w.heap.size w w) := Lib.hid (Only.refl _ _ _)
  go_enter Try.func25, Try.ntmps25
  go_wp2_with (first
    | (go_at_call 26; refine (ask_any _ _ ⟨0, 0, [], []⟩ 5 1 ⟨none, none, rfl, rfl, rfl⟩ (WalkArith.wf_i64 (by decide)) (by decide)).mono ?_; rw [aw_ask]; rintro e W1 ⟨v, rfl, ⟨m1, m2, rfl, x1', x2'⟩, ho'⟩; have HV := Lib.hid (HVar.new (h := ⟨0, 1, [(1, (1, 5))], []⟩) x1' x2'); have ho := Lib.hid ho'; clear x1' x2' ho'; unfold hval)
    | (go_at_call 27; refine (grant_any _ _ ⟨0, 1, [(1, (1, 5))], []⟩ 8 10 3 1 1 7 HV.out.is (WalkArith.wf_i64 (by decide)) (by decide)).mono ?_; rw [aw_grant]; rintro e W2 ⟨v, rfl, ⟨n1, n2, rfl, x1', x2'⟩, ho'⟩; have HV1 := HV.out.kept ho'; obtain ⟨k0, k1, k2, k3⟩ := HV1.box.keys; obtain ⟨c0, c1, c2, c3, cf⟩ := HV1.box; have HV2' := HV1.set (h' := ⟨0, 1, [], [(1, (7, 12))]⟩) x1' x2'; dsimp only [World.four] at HV2'; have HV2 := Lib.hid HV2'; clear HV2'; have hoA := Lib.hid (((hO.out.then ho.out (Nat.le_refl _)).alloc _).fresh (ho'.mono (by have := ho.out.size; simp; omega) (Nat.le_refl _))); clear x1' x2' ho' HV1; unfold hval)
    | (go_at_call 28; have HB := believes_any _ 0 1 11 1 n1 n2 [(1, (7, 12))] HV2.out.has (WalkArith.wf_i64 (by decide)); unfold hval at HB; (with_reducible refine HB.mono ?_); clear HB; unfold Believed; rw [aw_bel]; rintro e W3 ⟨rfl, ho'⟩; have HV3' := HV2.out.kept ho'; have HV3 := Lib.hid HV3'; have hoB := Lib.hid ho'; obtain ⟨d0, d1, d2, d3, df⟩ := HV3'.box; clear HV3' ho')
    | (go_at_call 28; have HB := believes_any _ 0 1 12 1 n1 n2 [(1, (7, 12))] HV3.out.has (WalkArith.wf_i64 (by decide)); unfold hval at HB; (with_reducible refine HB.mono ?_); clear HB; unfold Believed; rw [aw_bel2]; rintro e W4 ⟨rfl, ho'⟩; have hoC := Lib.hid ho'; clear ho')
    | fail)
  go_ret
  have hF := four_only W2 W1.heap.size 0 1 n1 n2
  unfold World.four at hF
  have s1 := hoA.out.size
  have s2 := hF.size
  have s3 := hoB.out.size
  exact ⟨rfl, ((hoA.out.fresh (hF.mono ho.out.size (Nat.le_refl _))).then hoB.out (by omega)).then hoC.out (by omega)⟩
end Go.Proofs.Ytefllgpehhlkoaa
