/-
  A block that is known whole; a struct stored, loaded, handed back at once.
-/
import Derived.WalkKit
import Derived.Below
import Derived.Deep.Quiet
import Derived.Laws.CopyRow
import Derived.Laws.Tables
import Derived.Laws.Rows
import Derived.Lib.Hide
namespace Go.Proofs.Ytjlfoiocceepjaa
open Go.RowKit
set_option linter.unusedVariables false
set_option linter.unusedSimpArgs false

/-- block b is just these cells -/
def Blk (w : World) (b : Nat) (t : TypeId) (cs : Array Value) : Prop := w.heap[b]? = some (.cells cs t)
section
variable {w w' : World} {b : Nat} {t : TypeId} {cs : Array Value}
theorem Blk.lt (h : Blk w b t cs) : b < w.heap.size := (Array.getElem?_eq_some_iff.1 h).1
theorem Blk.cell (h : Blk w b t cs) (i : Nat) : w.cell? ⟨b, i, none⟩ = cs[i]? := by unfold Blk at h; simp [World.cell?, h]
theorem Blk.frozen (h : Blk w b t cs) (i : Nat) : w.frozen? ⟨b, i, none⟩ = false := by unfold Blk at h; simp [World.frozen?, h]
theorem Blk.below {B : Nat} (h : Blk w b t cs) (hb : Below B w w') (hs : b < B) : Blk w' b t cs := (hb.block b hs).trans h
theorem Blk.out (h : Blk w b t cs) (hb : Below w.heap.size w w') : Blk w' b t cs := h.below hb h.lt
theorem Blk.set (h : Blk w b t cs) (i : Nat) (u : Value) : Blk (w.setCell ⟨b, i, none⟩ u) b t (cs.setIfInBounds i u) := by
  unfold Blk at h ⊢
  simp [World.setCell, Array.getElem?_modify, h]
theorem Blk.far (h : Blk w b t cs) {p : Addr} (hp : b ≠ p.block) (u : Value) : Blk (w.setCell p u) b t cs := (Below.heap_setCell w p u b hp).trans h
theorem Blk.new (w : World) (t : TypeId) (cs : Array Value) (k : Nat) (hk : k = w.heap.size) : Blk (w.alloc (.cells cs t)) k t cs := by
  subst hk; unfold Blk; exact Array.getElem?_push_size
theorem Blk.alloc (h : Blk w b t cs) (o : Obj) : Blk (w.alloc o) b t cs := h.out ((Below.refl _ _).alloc (Nat.le_refl _) _)
theorem Blk.drew (h : Blk w b t cs) : Blk w.drew b t cs := h
theorem Blk.drewN (h : Blk w b t cs) (n : Nat) : Blk (w.drewN n) b t cs := h
theorem Blk.grown {row : Option Nat} (h : Blk w b t cs) (hg : w.grownBy w' row) (hr : some b ≠ row) : Blk w' b t cs := (hg.block b h.lt hr).trans h
theorem Blk.row {w : World} {b : Nat} {t : TypeId} {cs : Array Value} (h : Blk w b t cs) (ys : Array Value) : Blk (w.setRow b ys) b t ys := setRow_heap w b cs ys t (0, 0) h
theorem setRow_far (w : World) (b : Nat) (ys : Array Value) {B : Nat} (hB : B ≤ b) : Below B w (w.setRow b ys) := ⟨rfl, rfl, rfl, by simp, fun k hk => setRow_other w b k ys (by omega)⟩
/-- all but block b is as it was -/
structure Far (b : Nat) (w w' : World) : Prop where
  os : w'.os = w.os
  tape : w'.tape = w.tape
  output : w'.output = w.output
  size : w'.heap.size = w.heap.size
  block : ∀ k, k ≠ b → w'.heap[k]? = w.heap[k]?
theorem Far.below {B : Nat} (h : Far b w w') (hB : B ≤ b) : Below B w w' := ⟨h.os, h.tape, h.output, Nat.le_of_eq h.size.symm, fun k hk => h.block k (by omega)⟩
theorem Blk.away {b' : Nat} (h : Blk w b t cs) (f : Far b' w w') (hb : b ≠ b') : Blk w' b t cs := (f.block b hb).trans h
theorem Far.setCell (w : World) (p : Addr) (u : Value) : Far p.block w (w.setCell p u) := ⟨rfl, rfl, rfl, by simp [World.setCell], fun k hk => Below.heap_setCell w p u k hk⟩
theorem Far.trans {a b' c : World} (h : Far b a b') (k : Far b b' c) : Far b a c := ⟨k.os.trans h.os, k.tape.trans h.tape, k.output.trans h.output, k.size.trans h.size, fun i hi => (k.block i hi).trans (h.block i hi)⟩
theorem Far.refl (b : Nat) (w : World) : Far b w w := ⟨rfl, rfl, rfl, rfl, fun _ _ => rfl⟩
theorem Far.of_setRow (w : World) (b : Nat) (ys : Array Value) : Far b w (w.setRow b ys) := ⟨rfl, rfl, rfl, by simp, fun k hk => setRow_other w b k ys (by omega)⟩
theorem Blk.setRow {b' : Nat} (h : Blk w b t cs) (hb : b ≠ b') (ys : Array Value) : Blk (w.setRow b' ys) b t cs := (setRow_other w b' b ys hb).trans h
end
section
variable {P : Program}
theorem run_store_part (w : World) (b off : Nat) (T t : TypeId) (cs ys : Array Value) (hw : Blk w b t cs) (hi : (P.info? T).map (·.size) = some ys.size) (h1 : ys.toList.all (·.oneCell') = true) (hfit : off + ys.size ≤ cs.size) :
    (Instr.storeAt T (.pointer (some ⟨b, off, none⟩)) (.agg ys)).run P w = .ok () (w.setRow b (cs.toList.take off ++ ys.toList ++ cs.toList.drop (off + ys.size)).toArray) := by
  have h := run_storeCells_at (P := P) b off t ys.toList 0 cs w hw (by simpa using hfit) (fun v hv => (List.all_eq_true.1 h1) v hv)
  simp only [Instr.storeAt, Instr.sureAddr, Sem.run_bind, Sem.run_pure, Result.andThen]
  cases hq : P.info? T with
  | none => simp [hq] at hi
  | some i =>
    have hs : i.size = ys.size := by simpa [hq] using hi
    simp [storeVar, sizeOf, typeInfo, hq, Value.cells, hs]
    simpa using h
theorem load_blk {w : World} {b : Nat} {t : TypeId} {cs : Array Value} (hw : Blk w b t cs) (n : Nat) (hn : cs.size = n) : (loadCellsFrom ⟨b, 0, none⟩ 0 n #[]).run P w = .ok cs w := by
  subst hn
  have h := run_loadCells_list (P := P) (w := w) ⟨b, 0, none⟩ cs.toList (fun j v hv => by
    have hadd : (⟨b, 0, none⟩ : Addr).add j = ⟨b, j, none⟩ := by unfold Addr.add; split <;> simp_all
    rw [hadd, hw.cell]
    simpa using hv)
  simpa [loadCells] using h
/-- is it a struct or an array? -/
def AggTy (P : Program) (T : TypeId) : Prop := ∃ d, P.underlying T = some d ∧ (match d with | .struct _ | .array _ _ => true | _ => false) = true
theorem run_isAgg {T : TypeId} (h : AggTy P T) (w : World) : (isAgg T).run P w = .ok true w := by
  obtain ⟨d, hu, hd⟩ := h
  cases d <;> simp at hd <;> simp [isAgg, hu, run_underlying hu]
theorem run_sizeOf {T : TypeId} {n : Nat} (h : (P.info? T).map (·.size) = some n) (w : World) : (sizeOf T).run P w = .ok n w := by
  cases hq : P.info? T with
  | none => simp [hq] at h
  | some i =>
    have hs : i.size = n := by simpa [hq] using h
    simp [sizeOf, typeInfo, hq, hs]
theorem load_var {w : World} {b : Nat} {T t : TypeId} {ys : Array Value} (hw : Blk w b t ys) (hT : AggTy P T) (hi : (P.info? T).map (·.size) = some ys.size) : (loadVar T ⟨b, 0, none⟩).run P w = .ok (.agg ys) w := by
  have h1 := run_isAgg hT w
  have h2 := run_sizeOf hi w
  have h3 := load_blk (P := P) hw ys.size rfl
  simp [loadVar, loadCells, h1, h2, h3, Result.andThen]
theorem store_var {w : World} {b : Nat} {T t : TypeId} {old ys : Array Value} (hw : Blk w b t old) (hi : (P.info? T).map (·.size) = some old.size) (hs : ys.size = old.size) (h1 : ys.toList.all (·.oneCell') = true) : (storeVar T ⟨b, 0, none⟩ (.agg ys)).run P w = .ok () (w.setRow b ys) := by
  have h := run_storeCells_at (P := P) b 0 t ys.toList 0 old w hw (by simp; omega) (fun v hv => (List.all_eq_true.1 h1) v hv)
  have e : (List.take 0 old.toList ++ ys.toList ++ List.drop (0 + ys.toList.length) old.toList).toArray = ys := by
    have : List.drop (0 + ys.toList.length) old.toList = [] := List.drop_eq_nil_of_le (by simp; omega)
    rw [this]; simp
  have h2 := run_sizeOf (P := P) hi w
  rw [e] at h
  simp [storeVar, h2, Value.cells, hs, Result.andThen]
  simpa using h
/-- a struct and another result, at the end -/
theorem results_blk2 {fn : Func} {k t : Tmp} {T T' : TypeId} (h : fn.results = #[.cell k T, .tmp t]) (tmps : Array Value) (w : World) (b : Nat) (ys : Array Value) (hk : tmps[k]?.getD undef = .pointer (some ⟨b, 0, none⟩)) (hT : AggTy P T) (hi : (P.info? T).map (·.size) = some ys.size) (hw : Blk w b T' ys) :
    (results fn tmps).run P w = .ok (.tuple #[.agg ys, tmps[t]?.getD undef]) w := by
  have h1 := run_isAgg hT w
  have h2 := run_sizeOf hi w
  have h3 := load_blk (P := P) hw ys.size rfl
  simp [results, h, hk, asAddr, loadVar, loadCells, h1, h2, h3, Result.andThen]
theorem results_blk1 {fn : Func} {k : Tmp} {T T' : TypeId} (h : fn.results = #[.cell k T]) (tmps : Array Value) (w : World) (b : Nat) (ys : Array Value) (hk : tmps[k]?.getD undef = .pointer (some ⟨b, 0, none⟩)) (hT : AggTy P T) (hi : (P.info? T).map (·.size) = some ys.size) (hw : Blk w b T' ys) :
    (results fn tmps).run P w = .ok (.agg ys) w := by
  have h1 := run_isAgg hT w
  have h2 := run_sizeOf hi w
  have h3 := load_blk (P := P) hw ys.size rfl
  simp [results, h, hk, asAddr, loadVar, loadCells, h1, h2, h3, Result.andThen]
/-- 'x = y' of a struct, at the operation -/
theorem wpList_store_part (w : World) {ops : Array Oper} {rest : List Oper} {o : Oper} {a : Act} {Q : Exit → Act → World → Prop} (hgd : o.guard = none) (pa va : Operand) (T : TypeId) (ho : o.op = .store T pa va)
    (b off : Nat) (ys : Array Value) (hp : a.eval pa = .pointer (some ⟨b, off, none⟩)) (hv : a.eval va = .agg ys) (hi : (P.info? T).map (·.size) = some ys.size) (h1 : ys.toList.all (·.oneCell') = true)
    (t : TypeId) (cs : Array Value) (hw : Blk w b t cs) (hfit : off + ys.size ≤ cs.size) (zs : Array Value) (hz : zs = (cs.toList.take off ++ ys.toList ++ cs.toList.drop (off + ys.size)).toArray)
    (h : ∀ w', Blk w' b t zs → Far b w w' → wpList P ops Q rest (a.put o.dst undef) w') : wpList P ops Q (o :: rest) a w := by
  refine wpList_plain hgd fun K hK => ?_
  have hr := run_store_part w b off T t cs ys hw hi h1 hfit
  have hrow := hw.row zs
  rw [← hz] at hr
  unfold Oper.wp execOp
  simp only [ho, Sem.run_bind, Sem.run_pure, Result.andThen_ok, hp, hv, hr]
  exact hK _ _ (h _ hrow (Far.of_setRow w b zs))
theorem run_load_part (w : World) (b off : Nat) (T t : TypeId) (cs ys : Array Value) (hw : Blk w b t cs) (hT : AggTy P T) (hi : (P.info? T).map (·.size) = some ys.size) (hy : ∀ j v, ys.toList[j]? = some v → cs[off + j]? = some v) :
    (Instr.loadAt T (.pointer (some ⟨b, off, none⟩))).run P w = .ok (.agg ys) w := by
  have h := run_loadCells_list (P := P) (w := w) ⟨b, off, none⟩ ys.toList (fun j v hv => by
    have hadd : (⟨b, off, none⟩ : Addr).add j = ⟨b, off + j, none⟩ := by unfold Addr.add; split <;> simp_all
    rw [hadd, hw.cell]
    exact hy j v hv)
  obtain ⟨d, hu, hd⟩ := hT
  simp only [Instr.loadAt, Instr.sureAddr, Sem.run_bind, Sem.run_pure, Result.andThen]
  cases hq : P.info? T with
  | none => simp [hq] at hi
  | some i =>
    have hs : i.size = ys.size := by simpa [hq] using hi
    have ha : (isAgg T).run P w = .ok true w := by
      cases d <;> simp at hd <;> simp [isAgg, hu, run_underlying hu]
    simp only [loadVar, Sem.run_bind, ha, Result.andThen_ok, if_true]
    have h' : Sem.run P (loadCells ⟨b, off, none⟩ ys.size) w = .ok ys w := by simpa using h
    simp [sizeOf, typeInfo, hq, hs, h', Result.andThen]
/-- 'x' of a struct, read, at the operation -/
theorem wpList_load_part (w : World) {ops : Array Oper} {rest : List Oper} {o : Oper} {a : Act} {Q : Exit → Act → World → Prop} (hgd : o.guard = none) (pa : Operand) (T : TypeId) (ho : o.op = .load T pa)
    (b off : Nat) (ys : Array Value) (hp : a.eval pa = .pointer (some ⟨b, off, none⟩)) (hT : AggTy P T) (hi : (P.info? T).map (·.size) = some ys.size)
    (t : TypeId) (cs : Array Value) (hw : Blk w b t cs) (hy : ∀ j v, ys.toList[j]? = some v → cs[off + j]? = some v)
    (h : wpList P ops Q rest (a.put o.dst (.agg ys)) w) : wpList P ops Q (o :: rest) a w := by
  refine wpList_plain hgd fun K hK => ?_
  have hr := run_load_part w b off T t cs ys hw hT hi hy
  unfold Oper.wp execOp
  simp only [ho, Sem.run_bind, Sem.run_pure, Result.andThen_ok, hp, hr]
  exact hK _ _ h
end
theorem ret_int {k : IntKind} {a b : Int} (h : a = b) : Ending.returned (.int k a) = .returned (.int k b) := by rw [h]
end Go.Proofs.Ytjlfoiocceepjaa
