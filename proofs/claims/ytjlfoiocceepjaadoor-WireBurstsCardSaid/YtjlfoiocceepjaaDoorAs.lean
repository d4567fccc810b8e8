/-
  errors.As at three targets, walked: what is found in an error of ours.
-/
import Derived.Test.YtjlfoiocceepjaaDoorAsF
namespace Go.Proofs.YtjlfoiocceepjaaDoor
open Go.RowKit Go.Extern.Stop Go.Stop Go.Extern
set_option linter.unusedVariables false
set_option linter.unusedSimpArgs false

theorem m_kind (h : Value) (w : World) : (Go.method 246 104 (.agg #[h]) "Kind").run Tryd.prog w = .ok (73, h) w := by kernel_rfl
theorem m_elem (h : Value) (w : World) : (Go.method 246 104 (.agg #[h]) "Elem").run Tryd.prog w = .ok (82, .agg #[h]) w := by kernel_rfl
theorem m_impl (h : Value) (w : World) : (Go.method 246 104 (.agg #[h]) "Implements").run Tryd.prog w = .ok (83, .agg #[h]) w := by kernel_rfl
theorem m_assign (h : Value) (w : World) : (Go.method 246 104 (.agg #[h]) "AssignableTo").run Tryd.prog w = .ok (80, .agg #[h]) w := by kernel_rfl
/-- errors.As of no error -/
theorem as_nil (t : Value) (w : World) : Calls Tryd.prog 44 #[.nilIface, t] w fun e w' => e = .returned (.bool false) ∧ w = w' := by
  go_enter Tryd.func44, Tryd.ntmps44
  go_wp2
  go_ret
  exact ⟨rfl, rfl⟩

structure Put (w w' : World) (b : Nat) (T : TypeId) (ys : Array Value) : Prop where
  blk : Blk w' b T ys
  os : w'.os = w.os
  tape : w'.tape = w.tape
  output : w'.output = w.output
  size : w.heap.size ≤ w'.heap.size
  block : ∀ k, k < w.heap.size → k ≠ b → w'.heap[k]? = w.heap[k]?
theorem Put.of_set {w X : World} {b : Nat} {T : TypeId} {o v : Value} (h : Blk w b T #[o]) (hX : Below w.heap.size w X) : Put w (X.setCell ⟨b, 0, none⟩ v) b T #[v] :=
  ⟨(h.out hX).set 0 v, hX.os, hX.tape, hX.output, by have := hX.size; simp [World.setCell]; exact this, fun k hk hb => (Below.heap_setCell X ⟨b, 0, none⟩ v k hb).trans (hX.block k hk)⟩
theorem Put.of_row {w X : World} {b : Nat} {T : TypeId} {old ys : Array Value} (h : Blk w b T old) (hX : Below w.heap.size w X) (_x : True) : Put w (X.setRow b ys) b T ys :=
  ⟨(h.out hX).row ys, hX.os, hX.tape, hX.output, by have := hX.size; simp; exact this, fun k hk hb => (setRow_other X b k ys hb).trans (hX.block k hk)⟩
theorem Put.below {w w' : World} {b : Nat} {T : TypeId} {ys : Array Value} (h : Put w w' b T ys) {B : Nat} (hB : B ≤ b) (hs : b < w.heap.size) : Below B w w' :=
  ⟨h.os, h.tape, h.output, h.size, fun k hk => h.block k (by omega) (by omega)⟩
theorem f_set (tb bb : Nat) (p e : Int) (old : Array Value) (ho : old.size = 2) (W : World) (hb : Blk W bb 41 #[.int .i64 p, .int .i64 e]) (ht : Blk W tb 41 old) :
    (ReflectliteValue.set #[.agg #[.pointer (some ⟨1, 41, none⟩), .pointer (some ⟨tb, 0, none⟩), .int .u64 409], .agg #[.pointer (some ⟨1, 41, none⟩), .pointer (some ⟨bb, 0, none⟩), .int .u64 153]]).run Tryd.prog W
      = .ok (.tuple #[]) (W.setRow tb #[.int .i64 p, .int .i64 e]) := by
  rw [rls]
  simp only [Sem.run_bind, f_partsA, f_parts, Result.andThen]
  simp [ReflectliteValue.flagAddr, load_var hb f_agg f_size2, Result.andThen, f_direct, store_var ht (by rw [ho]; exact f_size2) (by rw [ho]; rfl) (show (#[.int .i64 p, .int .i64 e] : Array Value).toList.all (·.oneCell') = true from rfl)]
theorem b_set (tb bb : Nat) (q : Int) (T : TypeId) (v : Value) (old : Array Value) (ho : old.size = 2) (W : World) (hb : Blk W bb 69 #[.int .i64 q, .iface T v]) (ht : Blk W tb 69 old) :
    (ReflectliteValue.set #[.agg #[.pointer (some ⟨1, 69, none⟩), .pointer (some ⟨tb, 0, none⟩), .int .u64 409], .agg #[.pointer (some ⟨1, 69, none⟩), .pointer (some ⟨bb, 0, none⟩), .int .u64 153]]).run Tryd.prog W
      = .ok (.tuple #[]) (W.setRow tb #[.int .i64 q, .iface T v]) := by
  rw [rls]
  simp only [Sem.run_bind, b_partsA, b_parts, Result.andThen]
  simp [ReflectliteValue.flagAddr, load_var hb b_agg b_size2, Result.andThen, b_direct, store_var ht (by rw [ho]; exact b_size2) (by rw [ho]; rfl) (show (#[.int .i64 q, .iface T v] : Array Value).toList.all (·.oneCell') = true from rfl)]
theorem e_noAs (v : Value) (w : World) : (Instr.typeAssert (.iface 33 v) 24 108 true).run Tryd.prog w = .ok (.tuple #[.nilIface, .bool false]) w := run_typeAssert_lacksB Tryd.underlying108 (by kernel_rfl) (by kernel_rfl) v 24 w
theorem f_noAs (v : Value) (w : World) : (Instr.typeAssert (.iface 41 v) 24 108 true).run Tryd.prog w = .ok (.tuple #[.nilIface, .bool false]) w := run_typeAssert_lacksB Tryd.underlying108 (by kernel_rfl) (by kernel_rfl) v 24 w
theorem b_noAs (v : Value) (w : World) : (Instr.typeAssert (.iface 69 v) 24 108 true).run Tryd.prog w = .ok (.tuple #[.nilIface, .bool false]) w := run_typeAssert_lacksB Tryd.underlying108 (by kernel_rfl) (by kernel_rfl) v 24 w
theorem f_hasUnwrap (v : Value) (w : World) : (Instr.typeAssert (.iface 41 v) 24 111 true).run Tryd.prog w = .ok (.tuple #[.iface 41 v, .bool true]) w := run_typeAssert_hasB Tryd.underlying111 (by kernel_rfl) v 24 w
theorem f_unwrap (a b : Value) (w : World) : (Go.method 246 41 (.agg #[a, b]) "Unwrap").run Tryd.prog w = .ok (27, .agg #[a, b]) w := by kernel_rfl
theorem b_hasUnwrap (v : Value) (w : World) : (Instr.typeAssert (.iface 69 v) 24 111 true).run Tryd.prog w = .ok (.tuple #[.iface 69 v, .bool true]) w := run_typeAssert_hasB Tryd.underlying111 (by kernel_rfl) v 24 w
theorem b_unwrap (a b : Value) (w : World) : (Go.method 246 69 (.agg #[a, b]) "Unwrap").run Tryd.prog w = .ok (39, .agg #[a, b]) w := by kernel_rfl
theorem e_noUnwrap (v : Value) (w : World) : (Instr.typeAssert (.iface 33 v) 24 111 true).run Tryd.prog w = .ok (.tuple #[.nilIface, .bool false]) w := run_typeAssert_lacksB Tryd.underlying111 (by kernel_rfl) (by kernel_rfl) v 24 w
theorem e_noUnwraps (v : Value) (w : World) : (Instr.typeAssert (.iface 33 v) 24 112 true).run Tryd.prog w = .ok (.tuple #[.nilIface, .bool false]) w := run_typeAssert_lacksB Tryd.underlying112 (by kernel_rfl) (by kernel_rfl) v 24 w
end Go.Proofs.YtjlfoiocceepjaaDoor
