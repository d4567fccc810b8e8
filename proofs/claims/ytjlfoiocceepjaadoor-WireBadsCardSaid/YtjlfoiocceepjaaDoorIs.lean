/-
  frame.Is of an error of ours, walked.
-/
import Derived.Test.YtjlfoiocceepjaaDoorWhy
namespace Go.Proofs.YtjlfoiocceepjaaDoor
open Go.RowKit Go.Extern.Stop Go.Stop Go.Extern
set_option linter.unusedVariables false
set_option linter.unusedSimpArgs false

set_option maxRecDepth 100000 in
/-- two interface values of one integer type are alike as the numbers are -/
theorem run_eql_errno (a b : Int) (w : World) : (binOp .eql 24 (.iface 33 (.int .i64 a)) (.iface 33 (.int .i64 b))).run Tryd.prog w = .ok (.bool (a == b)) w := by
  have hinfo : (Tryd.prog.info? 33).map (·.comparable) = some true := by kernel_rfl
  obtain ⟨i, hi, hc⟩ := Option.map_eq_some_iff.1 hinfo
  have h : ∀ d : Nat, (Op.equalIn (d + 2) 24 (.iface 33 (.int .i64 a)) (.iface 33 (.int .i64 b))).run Tryd.prog w = .ok (a == b) w := fun d => by
    simp [Op.equalIn, run_underlying Tryd.underlying24, run_underlying Tryd.underlying33, typeInfo, hi, hc]
  simp only [binOp]
  simp [Op.equal, Op.maxDepth, h 9998]
theorem f_ne_e (v u : Value) (w : World) : (binOp .eql 24 (.iface 41 v) (.iface 33 u)).run Tryd.prog w = .ok (.bool false) w := run_eql_iface_types 41 33 v u Tryd.underlying24 (by decide) w
theorem b_ne_e (v u : Value) (w : World) : (binOp .eql 24 (.iface 69 v) (.iface 33 u)).run Tryd.prog w = .ok (.bool false) w := run_eql_iface_types 69 33 v u Tryd.underlying24 (by decide) w
theorem e_comparable (w : World) : (ReflectliteType.method (fun t => do Rtype.noPackHeld "Comparable" t; (fun a => Value.bool a.comparable) <$> typeInfo t) #[.agg #[.pointer (some ⟨1, 33, none⟩)]]).run Tryd.prog w = .ok (.bool true) w := by kernel_rfl
theorem m_comparable (h : Value) (w : World) : (Go.method 246 104 (.agg #[h]) "Comparable").run Tryd.prog w = .ok (81, .agg #[h]) w := by kernel_rfl
theorem e_noIs (v : Value) (w : World) : (Instr.typeAssert (.iface 33 v) 24 115 true).run Tryd.prog w = .ok (.tuple #[.nilIface, .bool false]) w := run_typeAssert_lacksB Tryd.underlying115 (by kernel_rfl) (by kernel_rfl) v 24 w
theorem f_noIs (v : Value) (w : World) : (Instr.typeAssert (.iface 41 v) 24 115 true).run Tryd.prog w = .ok (.tuple #[.nilIface, .bool false]) w := run_typeAssert_lacksB Tryd.underlying115 (by kernel_rfl) (by kernel_rfl) v 24 w
theorem b_noIs (v : Value) (w : World) : (Instr.typeAssert (.iface 69 v) 24 115 true).run Tryd.prog w = .ok (.tuple #[.nilIface, .bool false]) w := run_typeAssert_lacksB Tryd.underlying115 (by kernel_rfl) (by kernel_rfl) v 24 w
def RetB (b : Bool) (w : World) (e : Ending) (w' : World) : Prop := e = .returned (.bool b) ∧ Below w.heap.size w w'
theorem nil_ne_e (e : Int) (w : World) : (binOp .eql 24 .nilIface (.iface 33 (.int .i64 e))).run Tryd.prog w = .ok (.bool false) w := by
  have h : ∀ d : Nat, (Op.equalIn (d + 1) 24 .nilIface (.iface 33 (.int .i64 e))).run Tryd.prog w = .ok false w := fun d => by
    simp [Op.equalIn, run_underlying Tryd.underlying24]
  simp only [binOp]
  simp [Op.equal, Op.maxDepth, h 9999]
set_option maxRecDepth 100000 in
theorem is_nil (e : Int) (w : World) : Calls Tryd.prog 24 #[.nilIface, .int .i64 e] w (RetB false w) := by
  have hn := nil_ne_e
  go_enter Tryd.func24, Tryd.ntmps24
  go_wp2
  go_ret
  exact ⟨rfl, Below.refl _ _⟩
set_option maxRecDepth 100000 in
set_option maxHeartbeats 4000000 in
theorem is_e (x e : Int) (w : World) : Calls Tryd.prog 24 #[.iface 33 (.int .i64 x), .int .i64 e] w (RetB (x == e) w) := by
  have h10 := @run_callFunc_extern Tryd.prog 55 _ ReflectliteType.typeOf Tryd.func55 (by kernel_rfl) (by kernel_rfl) (by kernel_rfl) (by kernel_rfl)
  have h81 := @run_callFunc_extern Tryd.prog 81 _ (ReflectliteType.method (fun t => do Rtype.noPackHeld "Comparable" t; pure (.bool (← typeInfo t).comparable))) Tryd.func81 (by kernel_rfl) (by kernel_rfl) (by kernel_rfl) (by kernel_rfl)
  have mC := m_comparable
  have eC := e_comparable
  have tO := e_typeOf
  have q1 := run_eql_errno
  have q2 := f_ne_e
  have q3 := b_ne_e
  have nI1 := e_noIs
  have nI2 := f_noIs
  have nI3 := b_noIs
  have hU1 := f_hasUnwrap
  have mU1 := f_unwrap
  have hU2 := b_hasUnwrap
  have mU2 := b_unwrap
  have nU1 := e_noUnwrap
  have nU2 := e_noUnwraps
  by_cases hx : x = e
  · have hb : (x == e) = true := beq_iff_eq.2 hx
    rw [hb]
    clear hx
    go_enter Tryd.func24, Tryd.ntmps24
    go_wp2
    refine wp_loop_rounds 1 ?_
    rw [rounds_succ]
    go_wp2
    go_ret
    exact ⟨rfl, Below.refl w.heap.size w⟩
  · have hb : (x == e) = false := beq_eq_false_iff_ne.2 hx
    rw [hb]
    clear hx
    go_enter Tryd.func24, Tryd.ntmps24
    go_wp2
    refine wp_loop_rounds 1 ?_
    rw [rounds_succ]
    go_wp2
    go_ret
    exact ⟨rfl, Below.refl w.heap.size w⟩
set_option maxRecDepth 100000 in
set_option maxHeartbeats 4000000 in
theorem is_f (p x e : Int) (w : World) : Calls Tryd.prog 24 #[.iface 41 (.agg #[.int .i64 p, .int .i64 x]), .int .i64 e] w (RetB (x == e) w) := by
  have h10 := @run_callFunc_extern Tryd.prog 55 _ ReflectliteType.typeOf Tryd.func55 (by kernel_rfl) (by kernel_rfl) (by kernel_rfl) (by kernel_rfl)
  have h81 := @run_callFunc_extern Tryd.prog 81 _ (ReflectliteType.method (fun t => do Rtype.noPackHeld "Comparable" t; pure (.bool (← typeInfo t).comparable))) Tryd.func81 (by kernel_rfl) (by kernel_rfl) (by kernel_rfl) (by kernel_rfl)
  have mC := m_comparable
  have eC := e_comparable
  have tO := e_typeOf
  have q1 := run_eql_errno
  have q2 := f_ne_e
  have q3 := b_ne_e
  have nI1 := e_noIs
  have nI2 := f_noIs
  have nI3 := b_noIs
  have hU1 := f_hasUnwrap
  have mU1 := f_unwrap
  have hU2 := b_hasUnwrap
  have mU2 := b_unwrap
  have nU1 := e_noUnwrap
  have nU2 := e_noUnwraps
  by_cases hx : x = e
  · have hb : (x == e) = true := beq_iff_eq.2 hx
    rw [hb]
    clear hx
    go_enter Tryd.func24, Tryd.ntmps24
    go_wp2
    refine wp_loop_rounds 2 ?_
    rw [rounds_succ]
    go_wp2
    rw [rounds_succ]
    go_wp2
    go_ret
    exact ⟨rfl, (Below.refl w.heap.size w).alloc (by simp <;> omega) _⟩
  · have hb : (x == e) = false := beq_eq_false_iff_ne.2 hx
    rw [hb]
    clear hx
    go_enter Tryd.func24, Tryd.ntmps24
    go_wp2
    refine wp_loop_rounds 2 ?_
    rw [rounds_succ]
    go_wp2
    rw [rounds_succ]
    go_wp2
    go_ret
    exact ⟨rfl, (Below.refl w.heap.size w).alloc (by simp <;> omega) _⟩
set_option maxRecDepth 100000 in
set_option maxHeartbeats 4000000 in
theorem is_be (q x e : Int) (w : World) : Calls Tryd.prog 24 #[.iface 69 (.agg #[.int .i64 q, .iface 33 (.int .i64 x)]), .int .i64 e] w (RetB (x == e) w) := by
  have h10 := @run_callFunc_extern Tryd.prog 55 _ ReflectliteType.typeOf Tryd.func55 (by kernel_rfl) (by kernel_rfl) (by kernel_rfl) (by kernel_rfl)
  have h81 := @run_callFunc_extern Tryd.prog 81 _ (ReflectliteType.method (fun t => do Rtype.noPackHeld "Comparable" t; pure (.bool (← typeInfo t).comparable))) Tryd.func81 (by kernel_rfl) (by kernel_rfl) (by kernel_rfl) (by kernel_rfl)
  have mC := m_comparable
  have eC := e_comparable
  have tO := e_typeOf
  have q1 := run_eql_errno
  have q2 := f_ne_e
  have q3 := b_ne_e
  have nI1 := e_noIs
  have nI2 := f_noIs
  have nI3 := b_noIs
  have hU1 := f_hasUnwrap
  have mU1 := f_unwrap
  have hU2 := b_hasUnwrap
  have mU2 := b_unwrap
  have nU1 := e_noUnwrap
  have nU2 := e_noUnwraps
  by_cases hx : x = e
  · have hb : (x == e) = true := beq_iff_eq.2 hx
    rw [hb]
    clear hx
    go_enter Tryd.func24, Tryd.ntmps24
    go_wp2
    refine wp_loop_rounds 2 ?_
    rw [rounds_succ]
    go_wp2
    rw [rounds_succ]
    go_wp2
    go_ret
    exact ⟨rfl, (Below.refl w.heap.size w).alloc (by simp <;> omega) _⟩
  · have hb : (x == e) = false := beq_eq_false_iff_ne.2 hx
    rw [hb]
    clear hx
    go_enter Tryd.func24, Tryd.ntmps24
    go_wp2
    refine wp_loop_rounds 2 ?_
    rw [rounds_succ]
    go_wp2
    rw [rounds_succ]
    go_wp2
    go_ret
    exact ⟨rfl, (Below.refl w.heap.size w).alloc (by simp <;> omega) _⟩
set_option maxRecDepth 100000 in
set_option maxHeartbeats 4000000 in
theorem is_bf (q p x e : Int) (w : World) : Calls Tryd.prog 24 #[.iface 69 (.agg #[.int .i64 q, .iface 41 (.agg #[.int .i64 p, .int .i64 x])]), .int .i64 e] w (RetB (x == e) w) := by
  have h10 := @run_callFunc_extern Tryd.prog 55 _ ReflectliteType.typeOf Tryd.func55 (by kernel_rfl) (by kernel_rfl) (by kernel_rfl) (by kernel_rfl)
  have h81 := @run_callFunc_extern Tryd.prog 81 _ (ReflectliteType.method (fun t => do Rtype.noPackHeld "Comparable" t; pure (.bool (← typeInfo t).comparable))) Tryd.func81 (by kernel_rfl) (by kernel_rfl) (by kernel_rfl) (by kernel_rfl)
  have mC := m_comparable
  have eC := e_comparable
  have tO := e_typeOf
  have q1 := run_eql_errno
  have q2 := f_ne_e
  have q3 := b_ne_e
  have nI1 := e_noIs
  have nI2 := f_noIs
  have nI3 := b_noIs
  have hU1 := f_hasUnwrap
  have mU1 := f_unwrap
  have hU2 := b_hasUnwrap
  have mU2 := b_unwrap
  have nU1 := e_noUnwrap
  have nU2 := e_noUnwraps
  by_cases hx : x = e
  · have hb : (x == e) = true := beq_iff_eq.2 hx
    rw [hb]
    clear hx
    go_enter Tryd.func24, Tryd.ntmps24
    go_wp2
    refine wp_loop_rounds 3 ?_
    rw [rounds_succ]
    go_wp2
    rw [rounds_succ]
    go_wp2
    rw [rounds_succ]
    go_wp2
    go_ret
    exact ⟨rfl, ((Below.refl w.heap.size w).alloc (by simp <;> omega) _).alloc (by simp <;> omega) _⟩
  · have hb : (x == e) = false := beq_eq_false_iff_ne.2 hx
    rw [hb]
    clear hx
    go_enter Tryd.func24, Tryd.ntmps24
    go_wp2
    refine wp_loop_rounds 3 ?_
    rw [rounds_succ]
    go_wp2
    rw [rounds_succ]
    go_wp2
    rw [rounds_succ]
    go_wp2
    go_ret
    exact ⟨rfl, ((Below.refl w.heap.size w).alloc (by simp <;> omega) _).alloc (by simp <;> omega) _⟩
end Go.Proofs.YtjlfoiocceepjaaDoor
