/-
  maps.Clone at this program's three kinds of maps.
-/
import Derived.Test.YtefllgpehhlkoaaMap
import Derived.Shelf.SlMaps.Clone
import Derived.Laws.Externs
namespace Go.Proofs.Ytefllgpehhlkoaa
open Go.RowKit


set_option maxRecDepth 100000 in
set_option maxHeartbeats 1000000 in
theorem clone66_nil (w : World) : Calls Try.prog 66 #[.map none] w fun e w' => e = .returned (.map none) ∧ w = w' := by
  have hq := fun w => run_eql_map_nil_sl (P := Try.prog) w 38 _ _ none Try.underlying38
  go_enter Try.func66, Try.ntmps66
  go_wp2
  go_ret
  exact ⟨rfl, rfl⟩
set_option maxRecDepth 100000 in
set_option maxHeartbeats 1000000 in
theorem clone66_some (w : World) (b : Nat) (es : Array MapEntry) (clock : Nat) (hb : w.heap[b]? = some (.map es clock)) : Calls Try.prog 66 #[.map (some b)] w fun e w' => e = .returned (.map (some w.heap.size)) ∧ w' = w.alloc (.map es clock) := by
  have hq := fun w => run_eql_map_nil_sl (P := Try.prog) w 38 _ _ (some b) Try.underlying38
  go_enter Try.func66, Try.ntmps66
  go_wp2
  rw [run_callFunc_extern Try.func71 (by kernel_rfl) (by kernel_rfl) (by kernel_rfl) (e := Extern.MapsClone.clone) (by kernel_rfl), run_maps_clone_sl w 38 hb]
  simp only [Result.andThen]
  rw [Oper.upon_value]
  go_wp2
  rw [run_typeAssert_map_sl _ 38 20 _ _ _ Try.underlying38]
  simp only [Result.andThen]
  rw [Oper.upon_value]
  go_wp2
  go_ret
  exact ⟨rfl, rfl⟩

set_option maxRecDepth 100000 in
set_option maxHeartbeats 1000000 in
theorem clone67_nil (w : World) : Calls Try.prog 67 #[.map none] w fun e w' => e = .returned (.map none) ∧ w = w' := by
  have hq := fun w => run_eql_map_nil_sl (P := Try.prog) w 39 _ _ none Try.underlying39
  go_enter Try.func67, Try.ntmps67
  go_wp2
  go_ret
  exact ⟨rfl, rfl⟩
set_option maxRecDepth 100000 in
set_option maxHeartbeats 1000000 in
theorem clone67_some (w : World) (b : Nat) (es : Array MapEntry) (clock : Nat) (hb : w.heap[b]? = some (.map es clock)) : Calls Try.prog 67 #[.map (some b)] w fun e w' => e = .returned (.map (some w.heap.size)) ∧ w' = w.alloc (.map es clock) := by
  have hq := fun w => run_eql_map_nil_sl (P := Try.prog) w 39 _ _ (some b) Try.underlying39
  go_enter Try.func67, Try.ntmps67
  go_wp2
  rw [run_callFunc_extern Try.func71 (by kernel_rfl) (by kernel_rfl) (by kernel_rfl) (e := Extern.MapsClone.clone) (by kernel_rfl), run_maps_clone_sl w 39 hb]
  simp only [Result.andThen]
  rw [Oper.upon_value]
  go_wp2
  rw [run_typeAssert_map_sl _ 39 20 _ _ _ Try.underlying39]
  simp only [Result.andThen]
  rw [Oper.upon_value]
  go_wp2
  go_ret
  exact ⟨rfl, rfl⟩

set_option maxRecDepth 100000 in
set_option maxHeartbeats 1000000 in
theorem clone68_nil (w : World) : Calls Try.prog 68 #[.map none] w fun e w' => e = .returned (.map none) ∧ w = w' := by
  have hq := fun w => run_eql_map_nil_sl (P := Try.prog) w 55 _ _ none Try.underlying55
  go_enter Try.func68, Try.ntmps68
  go_wp2
  go_ret
  exact ⟨rfl, rfl⟩
set_option maxRecDepth 100000 in
set_option maxHeartbeats 1000000 in
theorem clone68_some (w : World) (b : Nat) (es : Array MapEntry) (clock : Nat) (hb : w.heap[b]? = some (.map es clock)) : Calls Try.prog 68 #[.map (some b)] w fun e w' => e = .returned (.map (some w.heap.size)) ∧ w' = w.alloc (.map es clock) := by
  have hq := fun w => run_eql_map_nil_sl (P := Try.prog) w 55 _ _ (some b) Try.underlying55
  go_enter Try.func68, Try.ntmps68
  go_wp2
  rw [run_callFunc_extern Try.func71 (by kernel_rfl) (by kernel_rfl) (by kernel_rfl) (e := Extern.MapsClone.clone) (by kernel_rfl), run_maps_clone_sl w 55 hb]
  simp only [Result.andThen]
  rw [Oper.upon_value]
  go_wp2
  rw [run_typeAssert_map_sl _ 55 20 _ _ _ Try.underlying55]
  simp only [Result.andThen]
  rw [Oper.upon_value]
  go_wp2
  go_ret
  exact ⟨rfl, rfl⟩

/-- what a copy of a map leaves -/
def ClonedMap {α : Type} (E : Elem α) (w : World) (m : Option Nat) (es : List (Int × α)) (e : Ending) (w' : World) : Prop :=
  ∃ m', e = .returned (.map m') ∧ MapIs E w' m' es ∧ (m' = none ↔ m = none) ∧ (∀ b, m' = some b → w.heap.size ≤ b ∧ b < w'.heap.size) ∧ Only w.heap.size w.heap.size w w'
theorem cloned_nil {α : Type} (E : Elem α) (w : World) (es : List (Int × α)) (h : MapIs E w none es) : ClonedMap E w none es (.returned (.map none)) w :=
  ⟨none, rfl, h, Iff.rfl, fun b hb => (by cases hb), Only.refl _ _ _⟩
theorem cloned_some {α : Type} (E : Elem α) (w : World) (b : Nat) (es : List (Int × α)) (h : MapIs E w (some b) es) : ∃ xs clock, w.heap[b]? = some (.map xs clock) ∧ ClonedMap E w (some b) es (.returned (.map (some w.heap.size))) (w.alloc (.map xs clock)) := by
  have h' : MapAt E w b es := h
  obtain ⟨xs, clock, hb, r⟩ := h'
  refine ⟨xs, clock, hb, some w.heap.size, rfl, ?_, by simp, fun b hb => (by cases hb; simp), (Only.refl _ _ _).alloc _⟩
  exact ⟨xs, clock, (MapKept.heap_alloc w _).1, r⟩

theorem clone66 {α : Type} (E : Elem α) (w : World) (m : Option Nat) (es : List (Int × α)) (h : MapIs E w m es) : Calls Try.prog 66 #[.map m] w (ClonedMap E w m es) := by
  cases m with
  | none => exact (clone66_nil w).mono fun e w' ⟨he, hw⟩ => by subst he; subst hw; exact cloned_nil E w es h
  | some b =>
    obtain ⟨xs, clock, hb, hc⟩ := cloned_some E w b es h
    exact (clone66_some w b xs clock hb).mono fun e w' ⟨he, hw⟩ => by subst he; subst hw; exact hc

theorem clone67 {α : Type} (E : Elem α) (w : World) (m : Option Nat) (es : List (Int × α)) (h : MapIs E w m es) : Calls Try.prog 67 #[.map m] w (ClonedMap E w m es) := by
  cases m with
  | none => exact (clone67_nil w).mono fun e w' ⟨he, hw⟩ => by subst he; subst hw; exact cloned_nil E w es h
  | some b =>
    obtain ⟨xs, clock, hb, hc⟩ := cloned_some E w b es h
    exact (clone67_some w b xs clock hb).mono fun e w' ⟨he, hw⟩ => by subst he; subst hw; exact hc

theorem clone68 {α : Type} (E : Elem α) (w : World) (m : Option Nat) (es : List (Int × α)) (h : MapIs E w m es) : Calls Try.prog 68 #[.map m] w (ClonedMap E w m es) := by
  cases m with
  | none => exact (clone68_nil w).mono fun e w' ⟨he, hw⟩ => by subst he; subst hw; exact cloned_nil E w es h
  | some b =>
    obtain ⟨xs, clock, hb, hc⟩ := cloned_some E w b es h
    exact (clone68_some w b xs clock hb).mono fun e w' ⟨he, hw⟩ => by subst he; subst hw; exact hc
end Go.Proofs.Ytefllgpehhlkoaa
