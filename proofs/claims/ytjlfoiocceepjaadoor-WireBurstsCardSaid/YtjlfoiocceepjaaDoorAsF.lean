/-
  errors.As at three targets: closed facts on the entries for internal/reflectlite (turned from the guide's worked toy).
-/
import Derived.Test.YtjlfoiocceepjaaDoorUn
import Derived.WalkKit
import Derived.LaidEql
import Derived.Stop.Asserts
import Derived.RowKitTokens
namespace Go.Proofs.YtjlfoiocceepjaaDoor
open Go.RowKit Go.Extern.Stop Go.Stop Go.Extern
set_option linter.unusedVariables false
set_option linter.unusedSimpArgs false

theorem rlm (z : Sem Value) (f : TypeId → Addr → Nat → Nat → Sem Value) (v : Value) :
    ReflectliteValue.method z f #[v] = (do match ← ReflectliteValue.parts v with | none => z | some (t, a, fl) => f t a fl (fl % 32)) := rfl
theorem rls (v x : Value) : ReflectliteValue.set #[v, x] = (do
    let (some (dst, a, fl), some (src, b, _)) := (← ReflectliteValue.parts v, ← ReflectliteValue.parts x)
      | unsupported (.noEntry "extern/(internal/reflectlite.Value).Set.zeroValue")
    if fl / ReflectliteValue.flagAddr % 2 == 0 then unsupported (.noEntry "extern/(internal/reflectlite.Value).Set.unaddressable")
    let val ← loadVar src b
    if ← Rtype.directlyAssignable dst src then storeVar dst a val
    else if ← Rtype.implements dst src then
      if (← Rtype.kind src) == 20 then
        match val with
        | .nilIface => unsupported (.noEntry "extern/reflectlite: a nil value of one interface type handed on as a value of another")
        | _ => storeVar dst a val
      else storeVar dst a (.iface src val)
    else panicString ("reflectlite.Set: value of type " ++ (← Rtype.spelt src) ++ " is not assignable to type " ++ (← Rtype.spelt dst))
    pure (.tuple #[])) := rfl

/-! ### e: *33 is 77 -/
theorem e_valueOfP (t : Addr) (w : World) : (ReflectliteValue.unpack (.iface 77 (.pointer (some t)))).run Tryd.prog w
    = .ok (.agg #[.pointer (some ⟨1, 77, none⟩), .pointer (some ⟨w.heap.size, 0, none⟩), .int .u64 150]) (w.alloc (.cells #[.pointer (some t)] 77)) := by kernel_rfl
theorem e_typeP (a : Addr) (w : World) : (ReflectliteValue.methodAny (ReflectliteValue.valueError "reflectlite.Value.Type" 0) (fun t _ _ _ => ReflectliteType.toType t) #[.agg #[.pointer (some ⟨1, 77, none⟩), .pointer (some a), .int .u64 150]]).run Tryd.prog w
    = .ok (.iface 104 (.agg #[.pointer (some ⟨1, 77, none⟩)])) w := by kernel_rfl
theorem e_kindP (w : World) : ((ReflectliteType.abiMethod fun t => (fun a : Nat => Value.int IntKind.u8 (a : Int)) <$> Rtype.kind t) #[.pointer (some ⟨1, 77, none⟩)]).run Tryd.prog w = .ok (.int .u8 22) w := by kernel_rfl
theorem e_kind (w : World) : ((ReflectliteType.abiMethod fun t => (fun a : Nat => Value.int IntKind.u8 (a : Int)) <$> Rtype.kind t) #[.pointer (some ⟨1, 33, none⟩)]).run Tryd.prog w = .ok (.int .u8 2) w := by kernel_rfl
theorem e_partsP (a : Addr) (w : World) : (ReflectliteValue.parts (.agg #[.pointer (some ⟨1, 77, none⟩), .pointer (some a), .int .u64 150])).run Tryd.prog w = .ok (some (77, a, 150)) w := by kernel_rfl
theorem e_isNil (a p : Addr) (W : World) (ha : W.cell? a = some (.pointer (some p))) :
    (ReflectliteValue.method (ReflectliteValue.valueError "reflectlite.Value.IsNil" 0) ReflectliteValue.isNil #[.agg #[.pointer (some ⟨1, 77, none⟩), .pointer (some a), .int .u64 150]]).run Tryd.prog W = .ok (.bool false) W := by
  rw [rlm]
  simp only [Sem.run_bind, e_partsP, Result.andThen]
  simp [ReflectliteValue.isNil, loadVar, isAgg, underlying, Tryd.underlying77, ha, Result.andThen]
theorem e_elemT (w : World) : (ReflectliteType.method ReflectliteType.elem #[.agg #[.pointer (some ⟨1, 77, none⟩)]]).run Tryd.prog w = .ok (.iface 104 (.agg #[.pointer (some ⟨1, 33, none⟩)])) w := by kernel_rfl
theorem e_impl (w : World) : (ReflectliteType.relation "Implements" ReflectliteType.implements_ #[.agg #[.pointer (some ⟨1, 33, none⟩)], .iface 104 (.agg #[.pointer (some ⟨1, 24, none⟩)])]).run Tryd.prog w = .ok (.bool true) w := by kernel_rfl
theorem e_elemOf (w : World) : (Rtype.elem? 77).run Tryd.prog w = .ok (some 33) w := by kernel_rfl
theorem e_mk (p : Addr) (w : World) : (ReflectliteValue.mk 33 p ReflectliteValue.flagAddr).run Tryd.prog w = .ok (.agg #[.pointer (some ⟨1, 33, none⟩), .pointer (some p), .int .u64 386]) w := by kernel_rfl
theorem e_elemV (a p : Addr) (W : World) (ha : W.cell? a = some (.pointer (some p))) :
    (ReflectliteValue.method (ReflectliteValue.valueError "reflectlite.Value.Elem" 0) ReflectliteValue.elem #[.agg #[.pointer (some ⟨1, 77, none⟩), .pointer (some a), .int .u64 150]]).run Tryd.prog W
      = .ok (.agg #[.pointer (some ⟨1, 33, none⟩), .pointer (some p), .int .u64 386]) W := by
  rw [rlm]
  simp only [Sem.run_bind, e_partsP, Result.andThen]
  simp [ReflectliteValue.elem, loadVar, isAgg, underlying, Tryd.underlying77, ha, Result.andThen, e_elemOf, e_mk]
theorem e_typeOf (v : Value) (w : World) : (ReflectliteType.typeOf #[.iface 33 v]).run Tryd.prog w = .ok (.iface 104 (.agg #[.pointer (some ⟨1, 33, none⟩)])) w := by kernel_rfl
theorem e_partsA (a : Addr) (w : World) : (ReflectliteValue.parts (.agg #[.pointer (some ⟨1, 33, none⟩), .pointer (some a), .int .u64 386])).run Tryd.prog w = .ok (some (33, a, 386)) w := by kernel_rfl
theorem e_parts (a : Addr) (w : World) : (ReflectliteValue.parts (.agg #[.pointer (some ⟨1, 33, none⟩), .pointer (some a), .int .u64 130])).run Tryd.prog w = .ok (some (33, a, 130)) w := by kernel_rfl
theorem e_direct (w : World) : (Rtype.directlyAssignable 33 33).run Tryd.prog w = .ok true w := by kernel_rfl
theorem e_size (w : World) : (sizeOf 33).run Tryd.prog w = .ok 1 w := by kernel_rfl
theorem e_to_e (w : World) : (ReflectliteType.relation "AssignableTo" ReflectliteType.assignableTo #[.agg #[.pointer (some ⟨1, 33, none⟩)], .iface 104 (.agg #[.pointer (some ⟨1, 33, none⟩)])]).run Tryd.prog w = .ok (.bool true) w := by kernel_rfl
theorem f_to_e (w : World) : (ReflectliteType.relation "AssignableTo" ReflectliteType.assignableTo #[.agg #[.pointer (some ⟨1, 41, none⟩)], .iface 104 (.agg #[.pointer (some ⟨1, 33, none⟩)])]).run Tryd.prog w = .ok (.bool false) w := by kernel_rfl
theorem b_to_e (w : World) : (ReflectliteType.relation "AssignableTo" ReflectliteType.assignableTo #[.agg #[.pointer (some ⟨1, 69, none⟩)], .iface 104 (.agg #[.pointer (some ⟨1, 33, none⟩)])]).run Tryd.prog w = .ok (.bool false) w := by kernel_rfl
theorem e_valueOf (e : Int) (w : World) : (ReflectliteValue.unpack (.iface 33 (.int .i64 e))).run Tryd.prog w
    = .ok (.agg #[.pointer (some ⟨1, 33, none⟩), .pointer (some ⟨w.heap.size, 0, none⟩), .int .u64 130]) (w.alloc (.cells #[.int .i64 e] 33)) := by kernel_rfl
theorem e_set (ta b : Addr) (e : Int) (old : Value) (W : World) (hb : W.cell? b = some (.int .i64 e)) (ht : W.cell? ta = some old) (hf : W.frozen? ta = false) :
    (ReflectliteValue.set #[.agg #[.pointer (some ⟨1, 33, none⟩), .pointer (some ta), .int .u64 386], .agg #[.pointer (some ⟨1, 33, none⟩), .pointer (some b), .int .u64 130]]).run Tryd.prog W
      = .ok (.tuple #[]) (W.setCell ta (.int .i64 e)) := by
  rw [rls]
  simp only [Sem.run_bind, e_partsA, e_parts, Result.andThen]
  simp [ReflectliteValue.flagAddr, loadVar, isAgg, underlying, Tryd.underlying33, hb, Result.andThen, e_direct, storeVar, Value.cells, storeCells, Addr.add]
  rw [run_store Tryd.prog W ta _ _ (by rfl)]
  simp [ht, hf]

/-! ### f: *41 is 78 -/
theorem f_valueOfP (t : Addr) (w : World) : (ReflectliteValue.unpack (.iface 78 (.pointer (some t)))).run Tryd.prog w
    = .ok (.agg #[.pointer (some ⟨1, 78, none⟩), .pointer (some ⟨w.heap.size, 0, none⟩), .int .u64 150]) (w.alloc (.cells #[.pointer (some t)] 78)) := by kernel_rfl
theorem f_typeP (a : Addr) (w : World) : (ReflectliteValue.methodAny (ReflectliteValue.valueError "reflectlite.Value.Type" 0) (fun t _ _ _ => ReflectliteType.toType t) #[.agg #[.pointer (some ⟨1, 78, none⟩), .pointer (some a), .int .u64 150]]).run Tryd.prog w
    = .ok (.iface 104 (.agg #[.pointer (some ⟨1, 78, none⟩)])) w := by kernel_rfl
theorem f_kindP (w : World) : ((ReflectliteType.abiMethod fun t => (fun a : Nat => Value.int IntKind.u8 (a : Int)) <$> Rtype.kind t) #[.pointer (some ⟨1, 78, none⟩)]).run Tryd.prog w = .ok (.int .u8 22) w := by kernel_rfl
theorem f_kind (w : World) : ((ReflectliteType.abiMethod fun t => (fun a : Nat => Value.int IntKind.u8 (a : Int)) <$> Rtype.kind t) #[.pointer (some ⟨1, 41, none⟩)]).run Tryd.prog w = .ok (.int .u8 25) w := by kernel_rfl
theorem f_partsP (a : Addr) (w : World) : (ReflectliteValue.parts (.agg #[.pointer (some ⟨1, 78, none⟩), .pointer (some a), .int .u64 150])).run Tryd.prog w = .ok (some (78, a, 150)) w := by kernel_rfl
theorem f_isNil (a p : Addr) (W : World) (ha : W.cell? a = some (.pointer (some p))) :
    (ReflectliteValue.method (ReflectliteValue.valueError "reflectlite.Value.IsNil" 0) ReflectliteValue.isNil #[.agg #[.pointer (some ⟨1, 78, none⟩), .pointer (some a), .int .u64 150]]).run Tryd.prog W = .ok (.bool false) W := by
  rw [rlm]
  simp only [Sem.run_bind, f_partsP, Result.andThen]
  simp [ReflectliteValue.isNil, loadVar, isAgg, underlying, Tryd.underlying78, ha, Result.andThen]
theorem f_elemT (w : World) : (ReflectliteType.method ReflectliteType.elem #[.agg #[.pointer (some ⟨1, 78, none⟩)]]).run Tryd.prog w = .ok (.iface 104 (.agg #[.pointer (some ⟨1, 41, none⟩)])) w := by kernel_rfl
theorem f_impl (w : World) : (ReflectliteType.relation "Implements" ReflectliteType.implements_ #[.agg #[.pointer (some ⟨1, 41, none⟩)], .iface 104 (.agg #[.pointer (some ⟨1, 24, none⟩)])]).run Tryd.prog w = .ok (.bool true) w := by kernel_rfl
theorem f_elemOf (w : World) : (Rtype.elem? 78).run Tryd.prog w = .ok (some 41) w := by kernel_rfl
theorem f_mk (p : Addr) (w : World) : (ReflectliteValue.mk 41 p ReflectliteValue.flagAddr).run Tryd.prog w = .ok (.agg #[.pointer (some ⟨1, 41, none⟩), .pointer (some p), .int .u64 409]) w := by kernel_rfl
theorem f_elemV (a p : Addr) (W : World) (ha : W.cell? a = some (.pointer (some p))) :
    (ReflectliteValue.method (ReflectliteValue.valueError "reflectlite.Value.Elem" 0) ReflectliteValue.elem #[.agg #[.pointer (some ⟨1, 78, none⟩), .pointer (some a), .int .u64 150]]).run Tryd.prog W
      = .ok (.agg #[.pointer (some ⟨1, 41, none⟩), .pointer (some p), .int .u64 409]) W := by
  rw [rlm]
  simp only [Sem.run_bind, f_partsP, Result.andThen]
  simp [ReflectliteValue.elem, loadVar, isAgg, underlying, Tryd.underlying78, ha, Result.andThen, f_elemOf, f_mk]
theorem f_typeOf (v : Value) (w : World) : (ReflectliteType.typeOf #[.iface 41 v]).run Tryd.prog w = .ok (.iface 104 (.agg #[.pointer (some ⟨1, 41, none⟩)])) w := by kernel_rfl
theorem f_partsA (a : Addr) (w : World) : (ReflectliteValue.parts (.agg #[.pointer (some ⟨1, 41, none⟩), .pointer (some a), .int .u64 409])).run Tryd.prog w = .ok (some (41, a, 409)) w := by kernel_rfl
theorem f_parts (a : Addr) (w : World) : (ReflectliteValue.parts (.agg #[.pointer (some ⟨1, 41, none⟩), .pointer (some a), .int .u64 153])).run Tryd.prog w = .ok (some (41, a, 153)) w := by kernel_rfl
theorem f_direct (w : World) : (Rtype.directlyAssignable 41 41).run Tryd.prog w = .ok true w := by kernel_rfl
theorem f_size (w : World) : (sizeOf 41).run Tryd.prog w = .ok 2 w := by kernel_rfl
theorem e_to_f (w : World) : (ReflectliteType.relation "AssignableTo" ReflectliteType.assignableTo #[.agg #[.pointer (some ⟨1, 33, none⟩)], .iface 104 (.agg #[.pointer (some ⟨1, 41, none⟩)])]).run Tryd.prog w = .ok (.bool false) w := by kernel_rfl
theorem f_to_f (w : World) : (ReflectliteType.relation "AssignableTo" ReflectliteType.assignableTo #[.agg #[.pointer (some ⟨1, 41, none⟩)], .iface 104 (.agg #[.pointer (some ⟨1, 41, none⟩)])]).run Tryd.prog w = .ok (.bool true) w := by kernel_rfl
theorem b_to_f (w : World) : (ReflectliteType.relation "AssignableTo" ReflectliteType.assignableTo #[.agg #[.pointer (some ⟨1, 69, none⟩)], .iface 104 (.agg #[.pointer (some ⟨1, 41, none⟩)])]).run Tryd.prog w = .ok (.bool false) w := by kernel_rfl
theorem f_valueOf (p : Int) (e : Int) (w : World) : (ReflectliteValue.unpack (.iface 41 (.agg #[.int .i64 p, .int .i64 e]))).run Tryd.prog w
    = .ok (.agg #[.pointer (some ⟨1, 41, none⟩), .pointer (some ⟨w.heap.size, 0, none⟩), .int .u64 153]) (w.alloc (.cells #[.int .i64 p, .int .i64 e] 41)) := by kernel_rfl
theorem f_agg : AggTy Tryd.prog 41 := ⟨_, Tryd.underlying41, rfl⟩
theorem f_size2 : (Tryd.prog.info? 41).map (·.size) = some 2 := by kernel_rfl

/-! ### b: *69 is 86 -/
theorem b_valueOfP (t : Addr) (w : World) : (ReflectliteValue.unpack (.iface 86 (.pointer (some t)))).run Tryd.prog w
    = .ok (.agg #[.pointer (some ⟨1, 86, none⟩), .pointer (some ⟨w.heap.size, 0, none⟩), .int .u64 150]) (w.alloc (.cells #[.pointer (some t)] 86)) := by kernel_rfl
theorem b_typeP (a : Addr) (w : World) : (ReflectliteValue.methodAny (ReflectliteValue.valueError "reflectlite.Value.Type" 0) (fun t _ _ _ => ReflectliteType.toType t) #[.agg #[.pointer (some ⟨1, 86, none⟩), .pointer (some a), .int .u64 150]]).run Tryd.prog w
    = .ok (.iface 104 (.agg #[.pointer (some ⟨1, 86, none⟩)])) w := by kernel_rfl
theorem b_kindP (w : World) : ((ReflectliteType.abiMethod fun t => (fun a : Nat => Value.int IntKind.u8 (a : Int)) <$> Rtype.kind t) #[.pointer (some ⟨1, 86, none⟩)]).run Tryd.prog w = .ok (.int .u8 22) w := by kernel_rfl
theorem b_kind (w : World) : ((ReflectliteType.abiMethod fun t => (fun a : Nat => Value.int IntKind.u8 (a : Int)) <$> Rtype.kind t) #[.pointer (some ⟨1, 69, none⟩)]).run Tryd.prog w = .ok (.int .u8 25) w := by kernel_rfl
theorem b_partsP (a : Addr) (w : World) : (ReflectliteValue.parts (.agg #[.pointer (some ⟨1, 86, none⟩), .pointer (some a), .int .u64 150])).run Tryd.prog w = .ok (some (86, a, 150)) w := by kernel_rfl
theorem b_isNil (a p : Addr) (W : World) (ha : W.cell? a = some (.pointer (some p))) :
    (ReflectliteValue.method (ReflectliteValue.valueError "reflectlite.Value.IsNil" 0) ReflectliteValue.isNil #[.agg #[.pointer (some ⟨1, 86, none⟩), .pointer (some a), .int .u64 150]]).run Tryd.prog W = .ok (.bool false) W := by
  rw [rlm]
  simp only [Sem.run_bind, b_partsP, Result.andThen]
  simp [ReflectliteValue.isNil, loadVar, isAgg, underlying, Tryd.underlying86, ha, Result.andThen]
theorem b_elemT (w : World) : (ReflectliteType.method ReflectliteType.elem #[.agg #[.pointer (some ⟨1, 86, none⟩)]]).run Tryd.prog w = .ok (.iface 104 (.agg #[.pointer (some ⟨1, 69, none⟩)])) w := by kernel_rfl
theorem b_impl (w : World) : (ReflectliteType.relation "Implements" ReflectliteType.implements_ #[.agg #[.pointer (some ⟨1, 69, none⟩)], .iface 104 (.agg #[.pointer (some ⟨1, 24, none⟩)])]).run Tryd.prog w = .ok (.bool true) w := by kernel_rfl
theorem b_elemOf (w : World) : (Rtype.elem? 86).run Tryd.prog w = .ok (some 69) w := by kernel_rfl
theorem b_mk (p : Addr) (w : World) : (ReflectliteValue.mk 69 p ReflectliteValue.flagAddr).run Tryd.prog w = .ok (.agg #[.pointer (some ⟨1, 69, none⟩), .pointer (some p), .int .u64 409]) w := by kernel_rfl
theorem b_elemV (a p : Addr) (W : World) (ha : W.cell? a = some (.pointer (some p))) :
    (ReflectliteValue.method (ReflectliteValue.valueError "reflectlite.Value.Elem" 0) ReflectliteValue.elem #[.agg #[.pointer (some ⟨1, 86, none⟩), .pointer (some a), .int .u64 150]]).run Tryd.prog W
      = .ok (.agg #[.pointer (some ⟨1, 69, none⟩), .pointer (some p), .int .u64 409]) W := by
  rw [rlm]
  simp only [Sem.run_bind, b_partsP, Result.andThen]
  simp [ReflectliteValue.elem, loadVar, isAgg, underlying, Tryd.underlying86, ha, Result.andThen, b_elemOf, b_mk]
theorem b_typeOf (v : Value) (w : World) : (ReflectliteType.typeOf #[.iface 69 v]).run Tryd.prog w = .ok (.iface 104 (.agg #[.pointer (some ⟨1, 69, none⟩)])) w := by kernel_rfl
theorem b_partsA (a : Addr) (w : World) : (ReflectliteValue.parts (.agg #[.pointer (some ⟨1, 69, none⟩), .pointer (some a), .int .u64 409])).run Tryd.prog w = .ok (some (69, a, 409)) w := by kernel_rfl
theorem b_parts (a : Addr) (w : World) : (ReflectliteValue.parts (.agg #[.pointer (some ⟨1, 69, none⟩), .pointer (some a), .int .u64 153])).run Tryd.prog w = .ok (some (69, a, 153)) w := by kernel_rfl
theorem b_direct (w : World) : (Rtype.directlyAssignable 69 69).run Tryd.prog w = .ok true w := by kernel_rfl
theorem b_size (w : World) : (sizeOf 69).run Tryd.prog w = .ok 2 w := by kernel_rfl
theorem e_to_b (w : World) : (ReflectliteType.relation "AssignableTo" ReflectliteType.assignableTo #[.agg #[.pointer (some ⟨1, 33, none⟩)], .iface 104 (.agg #[.pointer (some ⟨1, 69, none⟩)])]).run Tryd.prog w = .ok (.bool false) w := by kernel_rfl
theorem f_to_b (w : World) : (ReflectliteType.relation "AssignableTo" ReflectliteType.assignableTo #[.agg #[.pointer (some ⟨1, 41, none⟩)], .iface 104 (.agg #[.pointer (some ⟨1, 69, none⟩)])]).run Tryd.prog w = .ok (.bool false) w := by kernel_rfl
theorem b_to_b (w : World) : (ReflectliteType.relation "AssignableTo" ReflectliteType.assignableTo #[.agg #[.pointer (some ⟨1, 69, none⟩)], .iface 104 (.agg #[.pointer (some ⟨1, 69, none⟩)])]).run Tryd.prog w = .ok (.bool true) w := by kernel_rfl
theorem b_valueOf (p : Int) (T : TypeId) (v : Value) (w : World) : (ReflectliteValue.unpack (.iface 69 (.agg #[.int .i64 p, .iface T v]))).run Tryd.prog w
    = .ok (.agg #[.pointer (some ⟨1, 69, none⟩), .pointer (some ⟨w.heap.size, 0, none⟩), .int .u64 153]) (w.alloc (.cells #[.int .i64 p, .iface T v] 69)) := by kernel_rfl
theorem b_agg : AggTy Tryd.prog 69 := ⟨_, Tryd.underlying69, rfl⟩
theorem b_size2 : (Tryd.prog.info? 69).map (·.size) = some 2 := by kernel_rfl
end Go.Proofs.YtjlfoiocceepjaaDoor
