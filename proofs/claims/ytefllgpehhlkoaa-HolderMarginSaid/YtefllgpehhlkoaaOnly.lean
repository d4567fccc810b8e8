/-
  What is left of a world behind a call: the blocks of one stretch may have turned, new ones may lie behind; all else is as it was.
-/
import Derived.Test.YtefllgpehhlkoaaChecked
import Derived.WalkKit
import Derived.Deep.Quiet
import Derived.Lib.Hide
namespace Go.Proofs.Ytefllgpehhlkoaa
open Go.RowKit

/-- Behind the call w' is as w, but for the blocks from lo on that lie below hi, and for new ones. -/
structure Only (lo hi : Nat) (w w' : World) : Prop where
  os : w'.os = w.os
  tape : w'.tape = w.tape
  output : w'.output = w.output
  size : w.heap.size ≤ w'.heap.size
  block : ∀ k, k < w.heap.size → (k < lo ∨ hi ≤ k) → w'.heap[k]? = w.heap[k]?

theorem Only.refl (lo hi : Nat) (w : World) : Only lo hi w w := ⟨rfl, rfl, rfl, Nat.le_refl _, fun _ _ _ => rfl⟩
theorem Only.trans {lo hi : Nat} {a b c : World} (h : Only lo hi a b) (k : Only lo hi b c) : Only lo hi a c :=
  ⟨k.os.trans h.os, k.tape.trans h.tape, k.output.trans h.output, Nat.le_trans h.size k.size, fun i hi' ho => (k.block i (Nat.lt_of_lt_of_le hi' h.size) ho).trans (h.block i hi' ho)⟩
theorem Only.mono {lo hi lo' hi' : Nat} {w w' : World} (h : Only lo hi w w') (h1 : lo' ≤ lo) (h2 : hi ≤ hi') : Only lo' hi' w w' :=
  ⟨h.os, h.tape, h.output, h.size, fun k hk ho => h.block k hk (by omega)⟩
theorem Only.drew {lo hi : Nat} {a w : World} (h : Only lo hi a w) : Only lo hi a w.drew := ⟨h.os, h.tape, h.output, h.size, h.block⟩
theorem Only.drewN {lo hi : Nat} {a w : World} (n : Nat) (h : Only lo hi a w) : Only lo hi a (w.drewN n) := ⟨h.os, h.tape, h.output, h.size, h.block⟩
theorem Only.alloc {lo hi : Nat} {a w : World} (h : Only lo hi a w) (o : Obj) : Only lo hi a (w.alloc o) :=
  h.trans ⟨rfl, rfl, rfl, by simp, fun k hk _ => Below.heap_alloc _ _ _ hk⟩
theorem Only.setCell {lo hi : Nat} {a w : World} (h : Only lo hi a w) {p : Addr} (hp : a.heap.size ≤ p.block ∨ lo ≤ p.block ∧ p.block < hi) (u : Value) : Only lo hi a (w.setCell p u) :=
  ⟨h.os, h.tape, h.output, Nat.le_trans h.size (by simp [World.setCell]), fun k hk ho => by rw [Below.heap_setCell _ _ _ _ (by omega)]; exact h.block k hk ho⟩
/-- what came behind the beginning of a call does not matter to it -/
theorem Only.fresh {lo hi hi' : Nat} {a w w' : World} (h : Only lo hi a w) (k : Only a.heap.size hi' w w') : Only lo hi a w' :=
  ⟨k.os.trans h.os, k.tape.trans h.tape, k.output.trans h.output, Nat.le_trans h.size k.size, fun i hi' ho => (k.block i (Nat.lt_of_lt_of_le hi' h.size) (by omega)).trans (h.block i hi' ho)⟩
theorem Only.then {lo hi lo' hi' : Nat} {a w w' : World} (h : Only lo hi a w) (k : Only lo' hi' w w') (hl : a.heap.size ≤ lo') : Only lo hi a w' :=
  ⟨k.os.trans h.os, k.tape.trans h.tape, k.output.trans h.output, Nat.le_trans h.size k.size, fun i hi' ho => (k.block i (Nat.lt_of_lt_of_le hi' h.size) (by omega)).trans (h.block i hi' ho)⟩
theorem Only.below {lo hi : Nat} {w w' : World} (h : Only lo hi w w') (hlo : lo ≤ w.heap.size) : Below lo w w' :=
  ⟨h.os, h.tape, h.output, h.size, fun k hk => h.block k (by omega) (by omega)⟩
theorem Only.of_below {B hi : Nat} {w w' : World} (h : Below B w w') (hh : w.heap.size ≤ hi) : Only B hi w w' :=
  ⟨h.os, h.tape, h.output, h.size, fun k hk ho => h.block k (by omega)⟩
theorem Only.of_grown {w w' : World} {row : Nat} (h : w.grownBy w' (some row)) : Only row (row + 1) w w' :=
  ⟨h.os, h.tape, h.output, h.size, fun k hk ho => h.block k hk (fun e => by cases e; omega)⟩
theorem Only.of_grown_none {lo hi : Nat} {w w' : World} (h : w.grownBy w' none) : Only lo hi w w' :=
  ⟨h.os, h.tape, h.output, h.size, fun k hk ho => h.block k hk (fun e => by cases e)⟩
theorem Only.cell {lo hi : Nat} {w w' : World} (h : Only lo hi w w') {p : Addr} (h1 : p.block < w.heap.size) (h2 : p.block < lo ∨ hi ≤ p.block) : w'.cell? p = w.cell? p := World.cell?_of_block (w := w) (h.block p.block h1 h2)
theorem Only.frozen {lo hi : Nat} {w w' : World} (h : Only lo hi w w') {p : Addr} (h1 : p.block < w.heap.size) (h2 : p.block < lo ∨ hi ≤ p.block) : w'.frozen? p = w.frozen? p := World.frozen?_of_block (w := w) (h.block p.block h1 h2)
theorem Only.new {w w' : World} (h : Only w.heap.size w.heap.size w w') : Below w.heap.size w w' := h.below (Nat.le_refl _)

theorem ret_int {k : IntKind} {a b : Int} (h : a = b) : Ending.returned (.int k a) = .returned (.int k b) := by rw [h]
end Go.Proofs.Ytefllgpehhlkoaa
