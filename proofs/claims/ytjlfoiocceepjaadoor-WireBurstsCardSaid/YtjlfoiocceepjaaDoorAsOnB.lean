/-
  errors.As at the target *69.
-/
import Derived.Test.YtjlfoiocceepjaaDoorAs
namespace Go.Proofs.YtjlfoiocceepjaaDoor
open Go.RowKit Go.Extern.Stop Go.Stop Go.Extern
set_option linter.unusedVariables false
set_option linter.unusedSimpArgs false

set_option maxRecDepth 100000 in
set_option maxHeartbeats 4000000 in
theorem as_b_e (q p e : Int) (tb : Nat) (old : Array Value) (hold : old.size = 2) (w : World) (hg : w.cell? ⟨0, 0, none⟩ = some (.iface 104 (.agg #[.pointer (some ⟨1, 24, none⟩)]))) (ht0 : Blk w tb 69 old) :
    Calls Tryd.prog 44 #[.iface 33 (.int .i64 e), .iface 86 (.pointer (some ⟨tb, 0, none⟩))] w fun ev w' => ev = .returned (.bool false) ∧ Below w.heap.size w w' := by
  have h6 := @run_callFunc_extern Tryd.prog 51 _ (fun args => ReflectliteValue.unpack (args.getD 0 (.tuple #[]))) Tryd.func51 (by kernel_rfl) (by kernel_rfl) (by kernel_rfl) (by kernel_rfl)
  have h7 := @run_callFunc_extern Tryd.prog 52 _ (ReflectliteValue.methodAny (ReflectliteValue.valueError "reflectlite.Value.Type" 0) (fun t _ _ _ => ReflectliteType.toType t)) Tryd.func52 (by kernel_rfl) (by kernel_rfl) (by kernel_rfl) (by kernel_rfl)
  have h8 := @run_callFunc_extern Tryd.prog 53 _ (ReflectliteValue.method (ReflectliteValue.valueError "reflectlite.Value.IsNil" 0) ReflectliteValue.isNil) Tryd.func53 (by kernel_rfl) (by kernel_rfl) (by kernel_rfl) (by kernel_rfl)
  have h27 := @run_callFunc_extern Tryd.prog 73 _ (ReflectliteType.abiMethod fun t => do pure (.int .u8 (← Rtype.kind t))) Tryd.func73 (by kernel_rfl) (by kernel_rfl) (by kernel_rfl) (by kernel_rfl)
  have h37 := @run_callFunc_extern Tryd.prog 82 _ (ReflectliteType.method ReflectliteType.elem) Tryd.func82 (by kernel_rfl) (by kernel_rfl) (by kernel_rfl) (by kernel_rfl)
  have h38 := @run_callFunc_extern Tryd.prog 83 _ (ReflectliteType.relation "Implements" ReflectliteType.implements_) Tryd.func83 (by kernel_rfl) (by kernel_rfl) (by kernel_rfl) (by kernel_rfl)
  have h10 := @run_callFunc_extern Tryd.prog 55 _ ReflectliteType.typeOf Tryd.func55 (by kernel_rfl) (by kernel_rfl) (by kernel_rfl) (by kernel_rfl)
  have h35 := @run_callFunc_extern Tryd.prog 80 _ (ReflectliteType.relation "AssignableTo" ReflectliteType.assignableTo) Tryd.func80 (by kernel_rfl) (by kernel_rfl) (by kernel_rfl) (by kernel_rfl)
  have h11 := @run_callFunc_extern Tryd.prog 57 _ (ReflectliteValue.method (ReflectliteValue.valueError "reflectlite.Value.Elem" 0) ReflectliteValue.elem) Tryd.func57 (by kernel_rfl) (by kernel_rfl) (by kernel_rfl) (by kernel_rfl)
  have h12 := @run_callFunc_extern Tryd.prog 58 _ ReflectliteValue.set Tryd.func58 (by kernel_rfl) (by kernel_rfl) (by kernel_rfl) (by kernel_rfl)
  have mA := m_assign
  have mK := m_kind
  have mE := m_elem
  have mI := m_impl
  have f6 := b_valueOfP
  have f7 := b_typeP
  have k27 := b_kindP
  have k25 := b_kind
  have e27 := b_elemT
  have i25 := b_impl
  have tOe := e_typeOf
  have aSe := e_to_b
  have nAe := e_noAs
  have nU1 := e_noUnwrap
  have nU2 := e_noUnwraps
  have hlt : 0 < w.heap.size := by
    rcases Nat.eq_zero_or_pos w.heap.size with h0 | h
    · simp [World.cell?, h0] at hg
    · exact h
  have hg2 : ((w.alloc (.cells #[.pointer (some ⟨tb, 0, none⟩)] 86)).alloc (.cells #[.pointer (some ⟨1, 86, none⟩), .pointer (some ⟨w.heap.size, 0, none⟩), .int .u64 150] 91)).cell? ⟨0, 0, none⟩ = some (.iface 104 (.agg #[.pointer (some ⟨1, 24, none⟩)])) := by
    rw [World.cell?_alloc_lt _ _ ⟨0, 0, none⟩ (by simp), World.cell?_alloc_lt _ _ ⟨0, 0, none⟩ hlt]; exact hg
  have htl := ht0.lt
  have n8 := b_isNil ⟨w.heap.size, 0, none⟩ ⟨tb, 0, none⟩ ((w.alloc (.cells #[.pointer (some ⟨tb, 0, none⟩)] 86)).alloc (.cells #[.pointer (some ⟨1, 86, none⟩), .pointer (some ⟨w.heap.size, 0, none⟩), .int .u64 150] 91)) (by simp)
  go_enter Tryd.func44, Tryd.ntmps44
  go_wp2
  refine wp_loop_rounds 1 ?_
  rw [rounds_succ]
  go_wp2
  go_ret
  exact ⟨rfl, ((((Below.refl w.heap.size w).alloc (Nat.le_refl _) _).alloc (by simp) _).alloc (by simp <;> omega) _)⟩

set_option maxRecDepth 100000 in
set_option maxHeartbeats 4000000 in
theorem as_b_f (q p e : Int) (tb : Nat) (old : Array Value) (hold : old.size = 2) (w : World) (hg : w.cell? ⟨0, 0, none⟩ = some (.iface 104 (.agg #[.pointer (some ⟨1, 24, none⟩)]))) (ht0 : Blk w tb 69 old) :
    Calls Tryd.prog 44 #[.iface 41 (.agg #[.int .i64 p, .int .i64 e]), .iface 86 (.pointer (some ⟨tb, 0, none⟩))] w fun ev w' => ev = .returned (.bool false) ∧ Below w.heap.size w w' := by
  have h6 := @run_callFunc_extern Tryd.prog 51 _ (fun args => ReflectliteValue.unpack (args.getD 0 (.tuple #[]))) Tryd.func51 (by kernel_rfl) (by kernel_rfl) (by kernel_rfl) (by kernel_rfl)
  have h7 := @run_callFunc_extern Tryd.prog 52 _ (ReflectliteValue.methodAny (ReflectliteValue.valueError "reflectlite.Value.Type" 0) (fun t _ _ _ => ReflectliteType.toType t)) Tryd.func52 (by kernel_rfl) (by kernel_rfl) (by kernel_rfl) (by kernel_rfl)
  have h8 := @run_callFunc_extern Tryd.prog 53 _ (ReflectliteValue.method (ReflectliteValue.valueError "reflectlite.Value.IsNil" 0) ReflectliteValue.isNil) Tryd.func53 (by kernel_rfl) (by kernel_rfl) (by kernel_rfl) (by kernel_rfl)
  have h27 := @run_callFunc_extern Tryd.prog 73 _ (ReflectliteType.abiMethod fun t => do pure (.int .u8 (← Rtype.kind t))) Tryd.func73 (by kernel_rfl) (by kernel_rfl) (by kernel_rfl) (by kernel_rfl)
  have h37 := @run_callFunc_extern Tryd.prog 82 _ (ReflectliteType.method ReflectliteType.elem) Tryd.func82 (by kernel_rfl) (by kernel_rfl) (by kernel_rfl) (by kernel_rfl)
  have h38 := @run_callFunc_extern Tryd.prog 83 _ (ReflectliteType.relation "Implements" ReflectliteType.implements_) Tryd.func83 (by kernel_rfl) (by kernel_rfl) (by kernel_rfl) (by kernel_rfl)
  have h10 := @run_callFunc_extern Tryd.prog 55 _ ReflectliteType.typeOf Tryd.func55 (by kernel_rfl) (by kernel_rfl) (by kernel_rfl) (by kernel_rfl)
  have h35 := @run_callFunc_extern Tryd.prog 80 _ (ReflectliteType.relation "AssignableTo" ReflectliteType.assignableTo) Tryd.func80 (by kernel_rfl) (by kernel_rfl) (by kernel_rfl) (by kernel_rfl)
  have h11 := @run_callFunc_extern Tryd.prog 57 _ (ReflectliteValue.method (ReflectliteValue.valueError "reflectlite.Value.Elem" 0) ReflectliteValue.elem) Tryd.func57 (by kernel_rfl) (by kernel_rfl) (by kernel_rfl) (by kernel_rfl)
  have h12 := @run_callFunc_extern Tryd.prog 58 _ ReflectliteValue.set Tryd.func58 (by kernel_rfl) (by kernel_rfl) (by kernel_rfl) (by kernel_rfl)
  have mA := m_assign
  have mK := m_kind
  have mE := m_elem
  have mI := m_impl
  have f6 := b_valueOfP
  have f7 := b_typeP
  have k27 := b_kindP
  have k25 := b_kind
  have e27 := b_elemT
  have i25 := b_impl
  have tOe := e_typeOf
  have aSe := e_to_b
  have nAe := e_noAs
  have tOf := f_typeOf
  have aSf := f_to_b
  have nAf := f_noAs
  have hUf := f_hasUnwrap
  have mUf := f_unwrap
  have nU1 := e_noUnwrap
  have nU2 := e_noUnwraps
  have hlt : 0 < w.heap.size := by
    rcases Nat.eq_zero_or_pos w.heap.size with h0 | h
    · simp [World.cell?, h0] at hg
    · exact h
  have hg2 : ((w.alloc (.cells #[.pointer (some ⟨tb, 0, none⟩)] 86)).alloc (.cells #[.pointer (some ⟨1, 86, none⟩), .pointer (some ⟨w.heap.size, 0, none⟩), .int .u64 150] 91)).cell? ⟨0, 0, none⟩ = some (.iface 104 (.agg #[.pointer (some ⟨1, 24, none⟩)])) := by
    rw [World.cell?_alloc_lt _ _ ⟨0, 0, none⟩ (by simp), World.cell?_alloc_lt _ _ ⟨0, 0, none⟩ hlt]; exact hg
  have htl := ht0.lt
  have n8 := b_isNil ⟨w.heap.size, 0, none⟩ ⟨tb, 0, none⟩ ((w.alloc (.cells #[.pointer (some ⟨tb, 0, none⟩)] 86)).alloc (.cells #[.pointer (some ⟨1, 86, none⟩), .pointer (some ⟨w.heap.size, 0, none⟩), .int .u64 150] 91)) (by simp)
  go_enter Tryd.func44, Tryd.ntmps44
  go_wp2
  refine wp_loop_rounds 2 ?_
  rw [rounds_succ]
  go_wp2
  rw [rounds_succ]
  go_wp2
  go_ret
  exact ⟨rfl, (((((Below.refl w.heap.size w).alloc (Nat.le_refl _) _).alloc (by simp) _).alloc (by simp <;> omega) _).alloc (by simp <;> omega) _)⟩

set_option maxRecDepth 100000 in
set_option maxHeartbeats 4000000 in
theorem as_b_be (q p e : Int) (tb : Nat) (old : Array Value) (hold : old.size = 2) (w : World) (hg : w.cell? ⟨0, 0, none⟩ = some (.iface 104 (.agg #[.pointer (some ⟨1, 24, none⟩)]))) (ht0 : Blk w tb 69 old) :
    Calls Tryd.prog 44 #[.iface 69 (.agg #[.int .i64 q, .iface 33 (.int .i64 e)]), .iface 86 (.pointer (some ⟨tb, 0, none⟩))] w fun ev w' => ev = .returned (.bool true) ∧ Put w w' tb 69 #[.int .i64 q, .iface 33 (.int .i64 e)] := by
  have h6 := @run_callFunc_extern Tryd.prog 51 _ (fun args => ReflectliteValue.unpack (args.getD 0 (.tuple #[]))) Tryd.func51 (by kernel_rfl) (by kernel_rfl) (by kernel_rfl) (by kernel_rfl)
  have h7 := @run_callFunc_extern Tryd.prog 52 _ (ReflectliteValue.methodAny (ReflectliteValue.valueError "reflectlite.Value.Type" 0) (fun t _ _ _ => ReflectliteType.toType t)) Tryd.func52 (by kernel_rfl) (by kernel_rfl) (by kernel_rfl) (by kernel_rfl)
  have h8 := @run_callFunc_extern Tryd.prog 53 _ (ReflectliteValue.method (ReflectliteValue.valueError "reflectlite.Value.IsNil" 0) ReflectliteValue.isNil) Tryd.func53 (by kernel_rfl) (by kernel_rfl) (by kernel_rfl) (by kernel_rfl)
  have h27 := @run_callFunc_extern Tryd.prog 73 _ (ReflectliteType.abiMethod fun t => do pure (.int .u8 (← Rtype.kind t))) Tryd.func73 (by kernel_rfl) (by kernel_rfl) (by kernel_rfl) (by kernel_rfl)
  have h37 := @run_callFunc_extern Tryd.prog 82 _ (ReflectliteType.method ReflectliteType.elem) Tryd.func82 (by kernel_rfl) (by kernel_rfl) (by kernel_rfl) (by kernel_rfl)
  have h38 := @run_callFunc_extern Tryd.prog 83 _ (ReflectliteType.relation "Implements" ReflectliteType.implements_) Tryd.func83 (by kernel_rfl) (by kernel_rfl) (by kernel_rfl) (by kernel_rfl)
  have h10 := @run_callFunc_extern Tryd.prog 55 _ ReflectliteType.typeOf Tryd.func55 (by kernel_rfl) (by kernel_rfl) (by kernel_rfl) (by kernel_rfl)
  have h35 := @run_callFunc_extern Tryd.prog 80 _ (ReflectliteType.relation "AssignableTo" ReflectliteType.assignableTo) Tryd.func80 (by kernel_rfl) (by kernel_rfl) (by kernel_rfl) (by kernel_rfl)
  have h11 := @run_callFunc_extern Tryd.prog 57 _ (ReflectliteValue.method (ReflectliteValue.valueError "reflectlite.Value.Elem" 0) ReflectliteValue.elem) Tryd.func57 (by kernel_rfl) (by kernel_rfl) (by kernel_rfl) (by kernel_rfl)
  have h12 := @run_callFunc_extern Tryd.prog 58 _ ReflectliteValue.set Tryd.func58 (by kernel_rfl) (by kernel_rfl) (by kernel_rfl) (by kernel_rfl)
  have mA := m_assign
  have mK := m_kind
  have mE := m_elem
  have mI := m_impl
  have f6 := b_valueOfP
  have f7 := b_typeP
  have k27 := b_kindP
  have k25 := b_kind
  have e27 := b_elemT
  have i25 := b_impl
  have tOb := b_typeOf
  have aSb := b_to_b
  have hlt : 0 < w.heap.size := by
    rcases Nat.eq_zero_or_pos w.heap.size with h0 | h
    · simp [World.cell?, h0] at hg
    · exact h
  have hg2 : ((w.alloc (.cells #[.pointer (some ⟨tb, 0, none⟩)] 86)).alloc (.cells #[.pointer (some ⟨1, 86, none⟩), .pointer (some ⟨w.heap.size, 0, none⟩), .int .u64 150] 91)).cell? ⟨0, 0, none⟩ = some (.iface 104 (.agg #[.pointer (some ⟨1, 24, none⟩)])) := by
    rw [World.cell?_alloc_lt _ _ ⟨0, 0, none⟩ (by simp), World.cell?_alloc_lt _ _ ⟨0, 0, none⟩ hlt]; exact hg
  have htl := ht0.lt
  have n8 := b_isNil ⟨w.heap.size, 0, none⟩ ⟨tb, 0, none⟩ ((w.alloc (.cells #[.pointer (some ⟨tb, 0, none⟩)] 86)).alloc (.cells #[.pointer (some ⟨1, 86, none⟩), .pointer (some ⟨w.heap.size, 0, none⟩), .int .u64 150] 91)) (by simp)
  have el := b_elemV ⟨w.heap.size, 0, none⟩ ⟨tb, 0, none⟩ (((w.alloc (.cells #[.pointer (some ⟨tb, 0, none⟩)] 86)).alloc (.cells #[.pointer (some ⟨1, 86, none⟩), .pointer (some ⟨w.heap.size, 0, none⟩), .int .u64 150] 91)).alloc (.cells #[.pointer (some ⟨1, 86, none⟩), .pointer (some ⟨w.heap.size, 0, none⟩), .int .u64 150] 91)) ((((Blk.new w 86 #[.pointer (some ⟨tb, 0, none⟩)] _ rfl).alloc _).alloc _).cell 0)
  have vO := b_valueOf
  have st := b_set tb (w.heap.size + 1 + 1 + 1) q 33 (.int .i64 e) old hold ((((w.alloc (.cells #[.pointer (some ⟨tb, 0, none⟩)] 86)).alloc (.cells #[.pointer (some ⟨1, 86, none⟩), .pointer (some ⟨w.heap.size, 0, none⟩), .int .u64 150] 91)).alloc (.cells #[.pointer (some ⟨1, 86, none⟩), .pointer (some ⟨w.heap.size, 0, none⟩), .int .u64 150] 91)).alloc (.cells #[.int .i64 q, .iface 33 (.int .i64 e)] 69)) (Blk.new (((w.alloc (.cells #[.pointer (some ⟨tb, 0, none⟩)] 86)).alloc (.cells #[.pointer (some ⟨1, 86, none⟩), .pointer (some ⟨w.heap.size, 0, none⟩), .int .u64 150] 91)).alloc (.cells #[.pointer (some ⟨1, 86, none⟩), .pointer (some ⟨w.heap.size, 0, none⟩), .int .u64 150] 91)) 69 #[.int .i64 q, .iface 33 (.int .i64 e)] _ (by simp)) (((((ht0).alloc _).alloc _).alloc _).alloc _)
  go_enter Tryd.func44, Tryd.ntmps44
  go_wp2
  refine wp_loop_rounds 1 ?_
  rw [rounds_succ]
  go_wp2
  go_ret
  exact ⟨rfl, Put.of_row ht0 (((((Below.refl w.heap.size w).alloc (Nat.le_refl _) _).alloc (by simp) _).alloc (by simp <;> omega) _).alloc (by simp <;> omega) _) trivial⟩

set_option maxRecDepth 100000 in
set_option maxHeartbeats 4000000 in
theorem as_b_bf (q p e : Int) (tb : Nat) (old : Array Value) (hold : old.size = 2) (w : World) (hg : w.cell? ⟨0, 0, none⟩ = some (.iface 104 (.agg #[.pointer (some ⟨1, 24, none⟩)]))) (ht0 : Blk w tb 69 old) :
    Calls Tryd.prog 44 #[.iface 69 (.agg #[.int .i64 q, .iface 41 (.agg #[.int .i64 p, .int .i64 e])]), .iface 86 (.pointer (some ⟨tb, 0, none⟩))] w fun ev w' => ev = .returned (.bool true) ∧ Put w w' tb 69 #[.int .i64 q, .iface 41 (.agg #[.int .i64 p, .int .i64 e])] := by
  have h6 := @run_callFunc_extern Tryd.prog 51 _ (fun args => ReflectliteValue.unpack (args.getD 0 (.tuple #[]))) Tryd.func51 (by kernel_rfl) (by kernel_rfl) (by kernel_rfl) (by kernel_rfl)
  have h7 := @run_callFunc_extern Tryd.prog 52 _ (ReflectliteValue.methodAny (ReflectliteValue.valueError "reflectlite.Value.Type" 0) (fun t _ _ _ => ReflectliteType.toType t)) Tryd.func52 (by kernel_rfl) (by kernel_rfl) (by kernel_rfl) (by kernel_rfl)
  have h8 := @run_callFunc_extern Tryd.prog 53 _ (ReflectliteValue.method (ReflectliteValue.valueError "reflectlite.Value.IsNil" 0) ReflectliteValue.isNil) Tryd.func53 (by kernel_rfl) (by kernel_rfl) (by kernel_rfl) (by kernel_rfl)
  have h27 := @run_callFunc_extern Tryd.prog 73 _ (ReflectliteType.abiMethod fun t => do pure (.int .u8 (← Rtype.kind t))) Tryd.func73 (by kernel_rfl) (by kernel_rfl) (by kernel_rfl) (by kernel_rfl)
  have h37 := @run_callFunc_extern Tryd.prog 82 _ (ReflectliteType.method ReflectliteType.elem) Tryd.func82 (by kernel_rfl) (by kernel_rfl) (by kernel_rfl) (by kernel_rfl)
  have h38 := @run_callFunc_extern Tryd.prog 83 _ (ReflectliteType.relation "Implements" ReflectliteType.implements_) Tryd.func83 (by kernel_rfl) (by kernel_rfl) (by kernel_rfl) (by kernel_rfl)
  have h10 := @run_callFunc_extern Tryd.prog 55 _ ReflectliteType.typeOf Tryd.func55 (by kernel_rfl) (by kernel_rfl) (by kernel_rfl) (by kernel_rfl)
  have h35 := @run_callFunc_extern Tryd.prog 80 _ (ReflectliteType.relation "AssignableTo" ReflectliteType.assignableTo) Tryd.func80 (by kernel_rfl) (by kernel_rfl) (by kernel_rfl) (by kernel_rfl)
  have h11 := @run_callFunc_extern Tryd.prog 57 _ (ReflectliteValue.method (ReflectliteValue.valueError "reflectlite.Value.Elem" 0) ReflectliteValue.elem) Tryd.func57 (by kernel_rfl) (by kernel_rfl) (by kernel_rfl) (by kernel_rfl)
  have h12 := @run_callFunc_extern Tryd.prog 58 _ ReflectliteValue.set Tryd.func58 (by kernel_rfl) (by kernel_rfl) (by kernel_rfl) (by kernel_rfl)
  have mA := m_assign
  have mK := m_kind
  have mE := m_elem
  have mI := m_impl
  have f6 := b_valueOfP
  have f7 := b_typeP
  have k27 := b_kindP
  have k25 := b_kind
  have e27 := b_elemT
  have i25 := b_impl
  have tOb := b_typeOf
  have aSb := b_to_b
  have hlt : 0 < w.heap.size := by
    rcases Nat.eq_zero_or_pos w.heap.size with h0 | h
    · simp [World.cell?, h0] at hg
    · exact h
  have hg2 : ((w.alloc (.cells #[.pointer (some ⟨tb, 0, none⟩)] 86)).alloc (.cells #[.pointer (some ⟨1, 86, none⟩), .pointer (some ⟨w.heap.size, 0, none⟩), .int .u64 150] 91)).cell? ⟨0, 0, none⟩ = some (.iface 104 (.agg #[.pointer (some ⟨1, 24, none⟩)])) := by
    rw [World.cell?_alloc_lt _ _ ⟨0, 0, none⟩ (by simp), World.cell?_alloc_lt _ _ ⟨0, 0, none⟩ hlt]; exact hg
  have htl := ht0.lt
  have n8 := b_isNil ⟨w.heap.size, 0, none⟩ ⟨tb, 0, none⟩ ((w.alloc (.cells #[.pointer (some ⟨tb, 0, none⟩)] 86)).alloc (.cells #[.pointer (some ⟨1, 86, none⟩), .pointer (some ⟨w.heap.size, 0, none⟩), .int .u64 150] 91)) (by simp)
  have el := b_elemV ⟨w.heap.size, 0, none⟩ ⟨tb, 0, none⟩ (((w.alloc (.cells #[.pointer (some ⟨tb, 0, none⟩)] 86)).alloc (.cells #[.pointer (some ⟨1, 86, none⟩), .pointer (some ⟨w.heap.size, 0, none⟩), .int .u64 150] 91)).alloc (.cells #[.pointer (some ⟨1, 86, none⟩), .pointer (some ⟨w.heap.size, 0, none⟩), .int .u64 150] 91)) ((((Blk.new w 86 #[.pointer (some ⟨tb, 0, none⟩)] _ rfl).alloc _).alloc _).cell 0)
  have vO := b_valueOf
  have st := b_set tb (w.heap.size + 1 + 1 + 1) q 41 (.agg #[.int .i64 p, .int .i64 e]) old hold ((((w.alloc (.cells #[.pointer (some ⟨tb, 0, none⟩)] 86)).alloc (.cells #[.pointer (some ⟨1, 86, none⟩), .pointer (some ⟨w.heap.size, 0, none⟩), .int .u64 150] 91)).alloc (.cells #[.pointer (some ⟨1, 86, none⟩), .pointer (some ⟨w.heap.size, 0, none⟩), .int .u64 150] 91)).alloc (.cells #[.int .i64 q, .iface 41 (.agg #[.int .i64 p, .int .i64 e])] 69)) (Blk.new (((w.alloc (.cells #[.pointer (some ⟨tb, 0, none⟩)] 86)).alloc (.cells #[.pointer (some ⟨1, 86, none⟩), .pointer (some ⟨w.heap.size, 0, none⟩), .int .u64 150] 91)).alloc (.cells #[.pointer (some ⟨1, 86, none⟩), .pointer (some ⟨w.heap.size, 0, none⟩), .int .u64 150] 91)) 69 #[.int .i64 q, .iface 41 (.agg #[.int .i64 p, .int .i64 e])] _ (by simp)) (((((ht0).alloc _).alloc _).alloc _).alloc _)
  go_enter Tryd.func44, Tryd.ntmps44
  go_wp2
  refine wp_loop_rounds 1 ?_
  rw [rounds_succ]
  go_wp2
  go_ret
  exact ⟨rfl, Put.of_row ht0 (((((Below.refl w.heap.size w).alloc (Nat.le_refl _) _).alloc (by simp) _).alloc (by simp <;> omega) _).alloc (by simp <;> omega) _) trivial⟩
end Go.Proofs.YtjlfoiocceepjaaDoor
