/-
  The holder (layer 19): own, that is: the state with maps of its own.
-/
import Derived.Test.YtefllgpehhlkoaaClone
import Derived.WalkSpells
import Derived.WalkLawsBesides
import Derived.BigQuiet
import Derived.BigRegion
import Derived.Deep.RegionWith
namespace Go.Proofs.Ytefllgpehhlkoaa
open Go.RowKit

abbrev Pairs := List (Int × (Int × Int))

/-- a holder's state as a value -/
def hval (life count : Int) (mw mh : Option Nat) : Value := .agg #[.int .i64 life, .int .i64 count, .map mw, .map mh]

/-- a state with maps of its own -/
def Owned (w : World) (life count : Int) (xs ys : Pairs) (e : Ending) (w' : World) : Prop :=
  ∃ b1 b2, e = .returned (hval life count (some b1) (some b2)) ∧ MapAt pairE w' b1 xs ∧ MapAt pairE w' b2 ys ∧ b1 ≠ b2 ∧ w.heap.size ≤ b1 ∧ w.heap.size ≤ b2 ∧ Only w.heap.size w.heap.size w w'

/-- a map's block, whatever the world and the place -/
def Reads {α : Type} (E : Elem α) (arr : Array MapEntry) (clock : Nat) (es : List (Int × α)) : Prop := ∀ (V : World) (b : Nat), V.heap[b]? = some (.map arr clock) → MapAt E V b es
theorem reads_made {α : Type} (E : Elem α) : Reads E #[] 0 [] := fun V b hb => by
  have h : MapAt E ((World.alloc V (.map #[] 0))) V.heap.size [] := MapAt.made V
  obtain ⟨xs, clock, hx, r⟩ := h
  have : (World.alloc V (.map #[] 0)).heap[V.heap.size]? = some (.map #[] 0) := (MapKept.heap_alloc V _).1
  rw [this] at hx
  cases hx
  exact ⟨_, _, hb, r⟩
theorem MapAt.reads {α : Type} {E : Elem α} {w : World} {b : Nat} {es : List (Int × α)} (h : MapAt E w b es) : ∃ arr clock, w.heap[b]? = some (.map arr clock) ∧ Reads E arr clock es := by
  obtain ⟨xs, clock, hx, r⟩ := h
  exact ⟨xs, clock, hx, fun V b hb => ⟨xs, clock, hb, r⟩⟩

theorem owned_mk {w W : World} {life count : Int} {xs ys : Pairs} {a1 a2 : Array MapEntry} {c1 c2 b1 b2 : Nat} (g1 : Reads pairE a1 c1 xs) (g2 : Reads pairE a2 c2 ys) (hO : Only w.heap.size w.heap.size w W)
    (e1 : W.heap[b1]? = some (.map a1 c1)) (e2 : W.heap[b2]? = some (.map a2 c2)) (hne : b1 ≠ b2) (h1 : w.heap.size ≤ b1) (h2 : w.heap.size ≤ b2) : Owned w life count xs ys (.returned (hval life count (some b1) (some b2))) W :=
  ⟨b1, b2, rfl, g1 W b1 e1, g2 W b2 e2, hne, h1, h2, hO⟩

theorem at_top (V : World) (o : Obj) (k : Nat) (h : k = V.heap.size) : (V.alloc o).heap[k]? = some o := by subst h; exact (MapKept.heap_alloc V _).1
theorem at_low (V : World) (o : Obj) (k : Nat) (h : k < V.heap.size) : (V.alloc o).heap[k]? = V.heap[k]? := Below.heap_alloc _ _ _ h
theorem at_drew (V : World) (k : Nat) : V.drew.heap[k]? = V.heap[k]? := rfl


set_option maxRecDepth 100000 in
set_option maxHeartbeats 1000000 in
theorem own_nn (w : World) (life count : Int) (xs ys : Pairs) (g1 : Hid (Reads pairE #[] 0 xs)) (g2 : Hid (Reads pairE #[] 0 ys)) : Calls Try.prog 53 #[hval life count none none] w (Owned w life count xs ys) := by
  unfold hval
  have hmm := @run_makeMap Try.prog
  have hq := fun w => Go.Proofs.run_eql_map_nil_sl (P := Try.prog) w 38 _ _ none Try.underlying38
  have hq2 := fun w => Go.Proofs.run_eql_map_nil_sl (P := Try.prog) w 39 _ _ none Try.underlying39
  go_enter Try.func53, Try.ntmps53
  go_wp2_with fail
  go_region_with (first
    | (go_at_call 66; refine (clone66_nil _).mono ?_; rintro e W1 ⟨rfl, rfl⟩)
    | (go_at_call 67; refine (clone67_nil _).mono ?_; rintro e W1 ⟨rfl, rfl⟩))
  all_goals go_wp2
  all_goals first
    | (refine bodyPost_ret (v := hval life count (some (w.heap.size + 2)) (some (w.heap.size + 3))) ?_ rfl ?_; focus (simp [results, Try.results53, go_sem, hval]; done))
    | (refine bodyPost_ret (v := hval life count (some (w.heap.size + 3)) (some (w.heap.size + 2))) ?_ rfl ?_; focus (simp [results, Try.results53, go_sem, hval]; done))
  all_goals refine owned_mk g1 g2 (by repeat (first | exact Only.refl _ _ _ | apply Only.drew | apply Only.alloc)) ?_ ?_ (by omega) (by omega) (by omega)
  all_goals repeat (first
    | refine (at_drew _ _).trans ?_
    | (refine at_top _ _ _ ?_; (simp; done))
    | (refine (at_low _ _ _ ?_).trans ?_; focus (simp; done)))

set_option maxRecDepth 100000 in
set_option maxHeartbeats 1000000 in
theorem own_sn (w : World) (life count : Int) (xs ys : Pairs) (b1 : Nat) (A1 : Array MapEntry) (C1 : Nat) (hb1 : w.heap[b1]? = some (.map A1 C1)) (g1 : Hid (Reads pairE A1 C1 xs)) (g2 : Hid (Reads pairE #[] 0 ys)) : Calls Try.prog 53 #[hval life count (some b1) none] w (Owned w life count xs ys) := by
  have hB1 : Hid (∀ W : World, Only w.heap.size w.heap.size w W → W.heap[b1]? = some (.map A1 C1)) := Lib.hid (fun W o => by
    have hlt : b1 < w.heap.size := by
      rcases Nat.lt_or_ge b1 w.heap.size with h | h
      · exact h
      · rw [Array.getElem?_eq_none h] at hb1; cases hb1
    rw [o.block b1 hlt (Or.inl hlt), hb1])
  clear hb1
  unfold hval
  have hmm := @run_makeMap Try.prog
  have hq := fun w => Go.Proofs.run_eql_map_nil_sl (P := Try.prog) w 38 _ _ (some b1) Try.underlying38
  have hq2 := fun w => Go.Proofs.run_eql_map_nil_sl (P := Try.prog) w 39 _ _ none Try.underlying39
  have hq' : ∀ n w, Sem.run Try.prog (binOp BinOp.eql 38 (Value.map (some n)) (Value.map none)) w = Result.ok (Value.bool false) w := fun n w => Go.Proofs.run_eql_map_nil_sl (P := Try.prog) w 38 _ _ (some n) Try.underlying38
  go_enter Try.func53, Try.ntmps53
  go_wp2_with fail
  go_region_with (first
    | (go_at_call 66; refine (clone66_some _ b1 A1 C1 (hB1 _ (by repeat (first | exact Only.refl _ _ _ | apply Only.drew | apply Only.alloc)))).mono ?_; rintro e W1 ⟨rfl, rfl⟩)
    | (go_at_call 67; refine (clone67_nil _).mono ?_; rintro e W1 ⟨rfl, rfl⟩))
  all_goals go_wp2
  all_goals first
    | (refine bodyPost_ret (v := hval life count (some (w.heap.size + 2)) (some (w.heap.size + 3))) ?_ rfl ?_; focus (simp [results, Try.results53, go_sem, hval]; done))
    | (refine bodyPost_ret (v := hval life count (some (w.heap.size + 3)) (some (w.heap.size + 2))) ?_ rfl ?_; focus (simp [results, Try.results53, go_sem, hval]; done))
  all_goals refine owned_mk g1 g2 (by repeat (first | exact Only.refl _ _ _ | apply Only.drew | apply Only.alloc)) ?_ ?_ (by omega) (by omega) (by omega)
  all_goals repeat (first
    | refine (at_drew _ _).trans ?_
    | (refine at_top _ _ _ ?_; (simp; done))
    | (refine (at_low _ _ _ ?_).trans ?_; focus (simp; done)))

set_option maxRecDepth 100000 in
set_option maxHeartbeats 1000000 in
theorem own_ns (w : World) (life count : Int) (xs ys : Pairs) (b2 : Nat) (A2 : Array MapEntry) (C2 : Nat) (hb2 : w.heap[b2]? = some (.map A2 C2)) (g1 : Hid (Reads pairE #[] 0 xs)) (g2 : Hid (Reads pairE A2 C2 ys)) : Calls Try.prog 53 #[hval life count none (some b2)] w (Owned w life count xs ys) := by
  have hB2 : Hid (∀ W : World, Only w.heap.size w.heap.size w W → W.heap[b2]? = some (.map A2 C2)) := Lib.hid (fun W o => by
    have hlt : b2 < w.heap.size := by
      rcases Nat.lt_or_ge b2 w.heap.size with h | h
      · exact h
      · rw [Array.getElem?_eq_none h] at hb2; cases hb2
    rw [o.block b2 hlt (Or.inl hlt), hb2])
  clear hb2
  unfold hval
  have hmm := @run_makeMap Try.prog
  have hq := fun w => Go.Proofs.run_eql_map_nil_sl (P := Try.prog) w 38 _ _ none Try.underlying38
  have hq2 := fun w => Go.Proofs.run_eql_map_nil_sl (P := Try.prog) w 39 _ _ (some b2) Try.underlying39
  have hq2' : ∀ n w, Sem.run Try.prog (binOp BinOp.eql 39 (Value.map (some n)) (Value.map none)) w = Result.ok (Value.bool false) w := fun n w => Go.Proofs.run_eql_map_nil_sl (P := Try.prog) w 39 _ _ (some n) Try.underlying39
  go_enter Try.func53, Try.ntmps53
  go_wp2_with fail
  go_region_with (first
    | (go_at_call 66; refine (clone66_nil _).mono ?_; rintro e W1 ⟨rfl, rfl⟩)
    | (go_at_call 67; refine (clone67_some _ b2 A2 C2 (hB2 _ (by repeat (first | exact Only.refl _ _ _ | apply Only.drew | apply Only.alloc)))).mono ?_; rintro e W1 ⟨rfl, rfl⟩))
  all_goals go_wp2
  all_goals first
    | (refine bodyPost_ret (v := hval life count (some (w.heap.size + 2)) (some (w.heap.size + 3))) ?_ rfl ?_; focus (simp [results, Try.results53, go_sem, hval]; done))
    | (refine bodyPost_ret (v := hval life count (some (w.heap.size + 3)) (some (w.heap.size + 2))) ?_ rfl ?_; focus (simp [results, Try.results53, go_sem, hval]; done))
  all_goals refine owned_mk g1 g2 (by repeat (first | exact Only.refl _ _ _ | apply Only.drew | apply Only.alloc)) ?_ ?_ (by omega) (by omega) (by omega)
  all_goals repeat (first
    | refine (at_drew _ _).trans ?_
    | (refine at_top _ _ _ ?_; (simp; done))
    | (refine (at_low _ _ _ ?_).trans ?_; focus (simp; done)))

set_option maxRecDepth 100000 in
set_option maxHeartbeats 1000000 in
theorem own_ss (w : World) (life count : Int) (xs ys : Pairs) (b1 : Nat) (A1 : Array MapEntry) (C1 : Nat) (hb1 : w.heap[b1]? = some (.map A1 C1)) (b2 : Nat) (A2 : Array MapEntry) (C2 : Nat) (hb2 : w.heap[b2]? = some (.map A2 C2)) (g1 : Hid (Reads pairE A1 C1 xs)) (g2 : Hid (Reads pairE A2 C2 ys)) : Calls Try.prog 53 #[hval life count (some b1) (some b2)] w (Owned w life count xs ys) := by
  have hB1 : Hid (∀ W : World, Only w.heap.size w.heap.size w W → W.heap[b1]? = some (.map A1 C1)) := Lib.hid (fun W o => by
    have hlt : b1 < w.heap.size := by
      rcases Nat.lt_or_ge b1 w.heap.size with h | h
      · exact h
      · rw [Array.getElem?_eq_none h] at hb1; cases hb1
    rw [o.block b1 hlt (Or.inl hlt), hb1])
  clear hb1
  have hB2 : Hid (∀ W : World, Only w.heap.size w.heap.size w W → W.heap[b2]? = some (.map A2 C2)) := Lib.hid (fun W o => by
    have hlt : b2 < w.heap.size := by
      rcases Nat.lt_or_ge b2 w.heap.size with h | h
      · exact h
      · rw [Array.getElem?_eq_none h] at hb2; cases hb2
    rw [o.block b2 hlt (Or.inl hlt), hb2])
  clear hb2
  unfold hval
  have hq := fun w => Go.Proofs.run_eql_map_nil_sl (P := Try.prog) w 38 _ _ (some b1) Try.underlying38
  have hq2 := fun w => Go.Proofs.run_eql_map_nil_sl (P := Try.prog) w 39 _ _ (some b2) Try.underlying39
  have hq' : ∀ n w, Sem.run Try.prog (binOp BinOp.eql 38 (Value.map (some n)) (Value.map none)) w = Result.ok (Value.bool false) w := fun n w => Go.Proofs.run_eql_map_nil_sl (P := Try.prog) w 38 _ _ (some n) Try.underlying38
  have hq2' : ∀ n w, Sem.run Try.prog (binOp BinOp.eql 39 (Value.map (some n)) (Value.map none)) w = Result.ok (Value.bool false) w := fun n w => Go.Proofs.run_eql_map_nil_sl (P := Try.prog) w 39 _ _ (some n) Try.underlying39
  go_enter Try.func53, Try.ntmps53
  go_wp2_with fail
  go_region_with (first
    | (go_at_call 66; refine (clone66_some _ b1 A1 C1 (hB1 _ (by repeat (first | exact Only.refl _ _ _ | apply Only.drew | apply Only.alloc)))).mono ?_; rintro e W1 ⟨rfl, rfl⟩)
    | (go_at_call 67; refine (clone67_some _ b2 A2 C2 (hB2 _ (by repeat (first | exact Only.refl _ _ _ | apply Only.drew | apply Only.alloc)))).mono ?_; rintro e W1 ⟨rfl, rfl⟩))
  all_goals go_wp2
  all_goals first
    | (refine bodyPost_ret (v := hval life count (some (w.heap.size + 2)) (some (w.heap.size + 3))) ?_ rfl ?_; focus (simp [results, Try.results53, go_sem, hval]; done))
    | (refine bodyPost_ret (v := hval life count (some (w.heap.size + 3)) (some (w.heap.size + 2))) ?_ rfl ?_; focus (simp [results, Try.results53, go_sem, hval]; done))
  all_goals refine owned_mk g1 g2 (by repeat (first | exact Only.refl _ _ _ | apply Only.drew | apply Only.alloc)) ?_ ?_ (by omega) (by omega) (by omega)
  all_goals repeat (first
    | refine (at_drew _ _).trans ?_
    | (refine at_top _ _ _ ?_; (simp; done))
    | (refine (at_low _ _ _ ?_).trans ?_; focus (simp; done)))

theorem own_any (w : World) (life count : Int) (mw mh : Option Nat) (xs ys : Pairs) (h1 : MapIs pairE w mw xs) (h2 : MapIs pairE w mh ys) : Calls Try.prog 53 #[hval life count mw mh] w (Owned w life count xs ys) := by
  cases mw with
  | none =>
    obtain rfl : xs = [] := h1
    cases mh with
    | none => obtain rfl : ys = [] := h2; exact own_nn w life count _ _ (Lib.hid (reads_made _)) (Lib.hid (reads_made _))
    | some b2 =>
      obtain ⟨A2, C2, hb2, g2⟩ := MapAt.reads h2
      exact own_ns w life count _ _ b2 A2 C2 hb2 (Lib.hid (reads_made _)) (Lib.hid g2)
  | some b1 =>
    obtain ⟨A1, C1, hb1, g1⟩ := MapAt.reads h1
    cases mh with
    | none => obtain rfl : ys = [] := h2; exact own_sn w life count _ _ b1 A1 C1 hb1 (Lib.hid g1) (Lib.hid (reads_made _))
    | some b2 =>
      obtain ⟨A2, C2, hb2, g2⟩ := MapAt.reads h2
      exact own_ss w life count _ _ b1 A1 C1 hb1 b2 A2 C2 hb2 (Lib.hid g1) (Lib.hid g2)
end Go.Proofs.Ytefllgpehhlkoaa
