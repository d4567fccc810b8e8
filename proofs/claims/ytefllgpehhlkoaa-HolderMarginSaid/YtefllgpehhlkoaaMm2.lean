/-
  HolderMargin: a block known whole, in the print's words; how a world lies in memory.
-/
import Derived.Test.YtefllgpehhlkoaaMm1
import Derived.Test.YtefllgpehhlkoaaFrom
import Derived.Test.YtefllgpehhlkoaaWLast
import Derived.Test.YtefllgpehhlkoaaWWords
import Derived.Laws.CopyRow
import Derived.Laws.Tables
import Derived.Laws.Rows
import Derived.Deep.Quiet
namespace Go.Proofs.Ytefllgpehhlkoaa.Mar
open Go.RowKit
set_option linter.unusedVariables false
set_option linter.unusedSimpArgs false

/-- block b is just these cells -/
def Blk (w : World) (b : Nat) (t : TypeId) (cs : Array Value) : Prop := w.heap[b]? = some (.cells cs t)
section
variable {w w' : World} {b : Nat} {t : TypeId} {cs : Array Value}
theorem Blk.lt (h : Blk w b t cs) : b < w.heap.size := (Array.getElem?_eq_some_iff.1 h).1
theorem Blk.cell (h : Blk w b t cs) (i : Nat) : w.cell? ⟨b, i, none⟩ = cs[i]? := by unfold Blk at h; simp [World.cell?, h]
theorem Blk.frozen (h : Blk w b t cs) (i : Nat) : w.frozen? ⟨b, i, none⟩ = false := by unfold Blk at h; simp [World.frozen?, h]
theorem Blk.below {B : Nat} (h : Blk w b t cs) (hb : Below B w w') (hs : b < B) : Blk w' b t cs := (hb.block b hs).trans h
theorem Blk.out (h : Blk w b t cs) (hb : Below w.heap.size w w') : Blk w' b t cs := h.below hb h.lt
theorem Blk.set (h : Blk w b t cs) (i : Nat) (u : Value) : Blk (w.setCell ⟨b, i, none⟩ u) b t (cs.setIfInBounds i u) := by
  unfold Blk at h ⊢
  simp [World.setCell, Array.getElem?_modify, h]
theorem Blk.far (h : Blk w b t cs) {p : Addr} (hp : b ≠ p.block) (u : Value) : Blk (w.setCell p u) b t cs := (Below.heap_setCell w p u b hp).trans h
theorem Blk.new (w : World) (t : TypeId) (cs : Array Value) (k : Nat) (hk : k = w.heap.size) : Blk (w.alloc (.cells cs t)) k t cs := by
  subst hk; unfold Blk; exact Array.getElem?_push_size
theorem Blk.alloc (h : Blk w b t cs) (o : Obj) : Blk (w.alloc o) b t cs := h.out ((Below.refl _ _).alloc (Nat.le_refl _) _)
theorem Blk.drew (h : Blk w b t cs) : Blk w.drew b t cs := h
theorem Blk.drewN (h : Blk w b t cs) (n : Nat) : Blk (w.drewN n) b t cs := h
theorem Blk.grown {row : Option Nat} (h : Blk w b t cs) (hg : w.grownBy w' row) (hr : some b ≠ row) : Blk w' b t cs := (hg.block b h.lt hr).trans h
theorem Blk.row {w : World} {b : Nat} {t : TypeId} {cs : Array Value} (h : Blk w b t cs) (ys : Array Value) : Blk (w.setRow b ys) b t ys := setRow_heap w b cs ys t (0, 0) h
theorem setRow_far (w : World) (b : Nat) (ys : Array Value) {B : Nat} (hB : B ≤ b) : Below B w (w.setRow b ys) := ⟨rfl, rfl, rfl, by simp, fun k hk => setRow_other w b k ys (by omega)⟩
/-- all but block b is as it was -/
structure Far (b : Nat) (w w' : World) : Prop where
  os : w'.os = w.os
  tape : w'.tape = w.tape
  output : w'.output = w.output
  size : w'.heap.size = w.heap.size
  block : ∀ k, k ≠ b → w'.heap[k]? = w.heap[k]?
theorem Far.below {B : Nat} (h : Far b w w') (hB : B ≤ b) : Below B w w' := ⟨h.os, h.tape, h.output, Nat.le_of_eq h.size.symm, fun k hk => h.block k (by omega)⟩
theorem Blk.away {b' : Nat} (h : Blk w b t cs) (f : Far b' w w') (hb : b ≠ b') : Blk w' b t cs := (f.block b hb).trans h
theorem Far.setCell (w : World) (p : Addr) (u : Value) : Far p.block w (w.setCell p u) := ⟨rfl, rfl, rfl, by simp [World.setCell], fun k hk => Below.heap_setCell w p u k hk⟩
theorem Far.trans {a b' c : World} (h : Far b a b') (k : Far b b' c) : Far b a c := ⟨k.os.trans h.os, k.tape.trans h.tape, k.output.trans h.output, k.size.trans h.size, fun i hi => (k.block i hi).trans (h.block i hi)⟩
theorem Far.refl (b : Nat) (w : World) : Far b w w := ⟨rfl, rfl, rfl, rfl, fun _ _ => rfl⟩
theorem Far.of_setRow (w : World) (b : Nat) (ys : Array Value) : Far b w (w.setRow b ys) := ⟨rfl, rfl, rfl, by simp, fun k hk => setRow_other w b k ys (by omega)⟩
theorem Blk.setRow {b' : Nat} (h : Blk w b t cs) (hb : b ≠ b') (ys : Array Value) : Blk (w.setRow b' ys) b t cs := (setRow_other w b' b ys hb).trans h
end
section
variable {P : Program}
theorem run_store_part (w : World) (b off : Nat) (T t : TypeId) (cs ys : Array Value) (hw : Blk w b t cs) (hi : (P.info? T).map (·.size) = some ys.size) (h1 : ys.toList.all (·.oneCell') = true) (hfit : off + ys.size ≤ cs.size) :
    (Instr.storeAt T (.pointer (some ⟨b, off, none⟩)) (.agg ys)).run P w = .ok () (w.setRow b (cs.toList.take off ++ ys.toList ++ cs.toList.drop (off + ys.size)).toArray) := by
  have h := run_storeCells_at (P := P) b off t ys.toList 0 cs w hw (by simpa using hfit) (fun v hv => (List.all_eq_true.1 h1) v hv)
  simp only [Instr.storeAt, Instr.sureAddr, Sem.run_bind, Sem.run_pure, Result.andThen]
  cases hq : P.info? T with
  | none => simp [hq] at hi
  | some i =>
    have hs : i.size = ys.size := by simpa [hq] using hi
    simp [storeVar, sizeOf, typeInfo, hq, Value.cells, hs]
    simpa using h
theorem load_blk {w : World} {b : Nat} {t : TypeId} {cs : Array Value} (hw : Blk w b t cs) (n : Nat) (hn : cs.size = n) : (loadCellsFrom ⟨b, 0, none⟩ 0 n #[]).run P w = .ok cs w := by
  subst hn
  have h := run_loadCells_list (P := P) (w := w) ⟨b, 0, none⟩ cs.toList (fun j v hv => by
    have hadd : (⟨b, 0, none⟩ : Addr).add j = ⟨b, j, none⟩ := by unfold Addr.add; split <;> simp_all
    rw [hadd, hw.cell]
    simpa using hv)
  simpa [loadCells] using h
/-- is it a struct or an array? -/
def AggTy (P : Program) (T : TypeId) : Prop := ∃ d, P.underlying T = some d ∧ (match d with | .struct _ | .array _ _ => true | _ => false) = true
theorem run_isAgg {T : TypeId} (h : AggTy P T) (w : World) : (isAgg T).run P w = .ok true w := by
  obtain ⟨d, hu, hd⟩ := h
  cases d <;> simp at hd <;> simp [isAgg, hu, run_underlying hu]
theorem run_sizeOf {T : TypeId} {n : Nat} (h : (P.info? T).map (·.size) = some n) (w : World) : (sizeOf T).run P w = .ok n w := by
  cases hq : P.info? T with
  | none => simp [hq] at h
  | some i =>
    have hs : i.size = n := by simpa [hq] using h
    simp [sizeOf, typeInfo, hq, hs]
theorem load_var {w : World} {b : Nat} {T t : TypeId} {ys : Array Value} (hw : Blk w b t ys) (hT : AggTy P T) (hi : (P.info? T).map (·.size) = some ys.size) : (loadVar T ⟨b, 0, none⟩).run P w = .ok (.agg ys) w := by
  have h1 := run_isAgg hT w
  have h2 := run_sizeOf hi w
  have h3 := load_blk (P := P) hw ys.size rfl
  simp [loadVar, loadCells, h1, h2, h3, Result.andThen]
theorem store_var {w : World} {b : Nat} {T t : TypeId} {old ys : Array Value} (hw : Blk w b t old) (hi : (P.info? T).map (·.size) = some old.size) (hs : ys.size = old.size) (h1 : ys.toList.all (·.oneCell') = true) : (storeVar T ⟨b, 0, none⟩ (.agg ys)).run P w = .ok () (w.setRow b ys) := by
  have h := run_storeCells_at (P := P) b 0 t ys.toList 0 old w hw (by simp; omega) (fun v hv => (List.all_eq_true.1 h1) v hv)
  have e : (List.take 0 old.toList ++ ys.toList ++ List.drop (0 + ys.toList.length) old.toList).toArray = ys := by
    have : List.drop (0 + ys.toList.length) old.toList = [] := List.drop_eq_nil_of_le (by simp; omega)
    rw [this]; simp
  have h2 := run_sizeOf (P := P) hi w
  rw [e] at h
  simp [storeVar, h2, Value.cells, hs, Result.andThen]
  simpa using h
/-- a struct and another result, at the end -/
theorem results_blk2 {fn : Func} {k t : Tmp} {T T' : TypeId} (h : fn.results = #[.cell k T, .tmp t]) (tmps : Array Value) (w : World) (b : Nat) (ys : Array Value) (hk : tmps[k]?.getD undef = .pointer (some ⟨b, 0, none⟩)) (hT : AggTy P T) (hi : (P.info? T).map (·.size) = some ys.size) (hw : Blk w b T' ys) :
    (results fn tmps).run P w = .ok (.tuple #[.agg ys, tmps[t]?.getD undef]) w := by
  have h1 := run_isAgg hT w
  have h2 := run_sizeOf hi w
  have h3 := load_blk (P := P) hw ys.size rfl
  simp [results, h, hk, asAddr, loadVar, loadCells, h1, h2, h3, Result.andThen]
theorem results_blk1 {fn : Func} {k : Tmp} {T T' : TypeId} (h : fn.results = #[.cell k T]) (tmps : Array Value) (w : World) (b : Nat) (ys : Array Value) (hk : tmps[k]?.getD undef = .pointer (some ⟨b, 0, none⟩)) (hT : AggTy P T) (hi : (P.info? T).map (·.size) = some ys.size) (hw : Blk w b T' ys) :
    (results fn tmps).run P w = .ok (.agg ys) w := by
  have h1 := run_isAgg hT w
  have h2 := run_sizeOf hi w
  have h3 := load_blk (P := P) hw ys.size rfl
  simp [results, h, hk, asAddr, loadVar, loadCells, h1, h2, h3, Result.andThen]
/-- 'x = y' of a struct, at the operation -/
theorem wpList_store_part (w : World) {ops : Array Oper} {rest : List Oper} {o : Oper} {a : Act} {Q : Exit → Act → World → Prop} (hgd : o.guard = none) (pa va : Operand) (T : TypeId) (ho : o.op = .store T pa va)
    (b off : Nat) (ys : Array Value) (hp : a.eval pa = .pointer (some ⟨b, off, none⟩)) (hv : a.eval va = .agg ys) (hi : (P.info? T).map (·.size) = some ys.size) (h1 : ys.toList.all (·.oneCell') = true)
    (t : TypeId) (cs : Array Value) (hw : Blk w b t cs) (hfit : off + ys.size ≤ cs.size) (zs : Array Value) (hz : zs = (cs.toList.take off ++ ys.toList ++ cs.toList.drop (off + ys.size)).toArray)
    (h : ∀ w', Blk w' b t zs → Far b w w' → wpList P ops Q rest (a.put o.dst undef) w') : wpList P ops Q (o :: rest) a w := by
  refine wpList_plain hgd fun K hK => ?_
  have hr := run_store_part w b off T t cs ys hw hi h1 hfit
  have hrow := hw.row zs
  rw [← hz] at hr
  unfold Oper.wp execOp
  simp only [ho, Sem.run_bind, Sem.run_pure, Result.andThen_ok, hp, hv, hr]
  exact hK _ _ (h _ hrow (Far.of_setRow w b zs))
theorem run_load_part (w : World) (b off : Nat) (T t : TypeId) (cs ys : Array Value) (hw : Blk w b t cs) (hT : AggTy P T) (hi : (P.info? T).map (·.size) = some ys.size) (hy : ∀ j v, ys.toList[j]? = some v → cs[off + j]? = some v) :
    (Instr.loadAt T (.pointer (some ⟨b, off, none⟩))).run P w = .ok (.agg ys) w := by
  have h := run_loadCells_list (P := P) (w := w) ⟨b, off, none⟩ ys.toList (fun j v hv => by
    have hadd : (⟨b, off, none⟩ : Addr).add j = ⟨b, off + j, none⟩ := by unfold Addr.add; split <;> simp_all
    rw [hadd, hw.cell]
    exact hy j v hv)
  obtain ⟨d, hu, hd⟩ := hT
  simp only [Instr.loadAt, Instr.sureAddr, Sem.run_bind, Sem.run_pure, Result.andThen]
  cases hq : P.info? T with
  | none => simp [hq] at hi
  | some i =>
    have hs : i.size = ys.size := by simpa [hq] using hi
    have ha : (isAgg T).run P w = .ok true w := by
      cases d <;> simp at hd <;> simp [isAgg, hu, run_underlying hu]
    simp only [loadVar, Sem.run_bind, ha, Result.andThen_ok, if_true]
    have h' : Sem.run P (loadCells ⟨b, off, none⟩ ys.size) w = .ok ys w := by simpa using h
    simp [sizeOf, typeInfo, hq, hs, h', Result.andThen]
/-- 'x' of a struct, read, at the operation -/
theorem wpList_load_part (w : World) {ops : Array Oper} {rest : List Oper} {o : Oper} {a : Act} {Q : Exit → Act → World → Prop} (hgd : o.guard = none) (pa : Operand) (T : TypeId) (ho : o.op = .load T pa)
    (b off : Nat) (ys : Array Value) (hp : a.eval pa = .pointer (some ⟨b, off, none⟩)) (hT : AggTy P T) (hi : (P.info? T).map (·.size) = some ys.size)
    (t : TypeId) (cs : Array Value) (hw : Blk w b t cs) (hy : ∀ j v, ys.toList[j]? = some v → cs[off + j]? = some v)
    (h : wpList P ops Q rest (a.put o.dst (.agg ys)) w) : wpList P ops Q (o :: rest) a w := by
  refine wpList_plain hgd fun K hK => ?_
  have hr := run_load_part w b off T t cs ys hw hT hi hy
  unfold Oper.wp execOp
  simp only [ho, Sem.run_bind, Sem.run_pure, Result.andThen_ok, hp, hr]
  exact hK _ _ h
end

open Go.Proofs.YtefllgpehhlkoaaW.PrintWords Go.Proofs.YtefllgpehhlkoaaW.PrintLast Go.Maps
section
variable {P : Program} {ops : Array Oper} {Q : Exit → Act → World → Prop}
/-- 'x = y' of a struct, in a region that draws its order -/
theorem step_store_part (w : World) {o : Oper} {a : Act} {K : Act → World → Prop} (hw : Region.wanted o (yielded ops a.tmps) = true) (hN : o.dst = none) (pa va : Operand) (T : TypeId) (ho : o.op = .store T pa va)
    (b off : Nat) (ys : Array Value) (hp : a.eval pa = .pointer (some ⟨b, off, none⟩)) (hv : a.eval va = .agg ys) (hi : (P.info? T).map (·.size) = some ys.size) (h1 : ys.toList.all (·.oneCell') = true)
    (t : TypeId) (cs : Array Value) (hb : Blk w b t cs) (hfit : off + ys.size ≤ cs.size) (zs : Array Value) (hz : zs = (cs.toList.take off ++ ys.toList ++ cs.toList.drop (off + ys.size)).toArray)
    (h : ∀ w', Blk w' b t zs → Far b w w' → K (a.put none undef) w') : if Region.wanted o (yielded ops a.tmps) = true then Oper.wp P o a w K Q else K (a.put none undef) w := by
  rw [if_pos hw]
  have hr := run_store_part (P := P) w b off T t cs ys hb hi h1 hfit
  have hrow := hb.row zs
  rw [← hz] at hr
  unfold Oper.wp execOp
  simp only [ho, Sem.run_bind, Sem.run_pure, Result.andThen_ok, hp, hv, hr]
  have h2 := h _ hrow (Far.of_setRow w b zs)
  rw [← hN] at h2
  exact h2
/-- 'x' of a struct, read there -/
theorem exec_load_part (w : World) {o : Oper} {a : Act} (pa : Operand) (T : TypeId) (ho : o.op = .load T pa) (b off : Nat) (ys : Array Value) (hp : a.eval pa = .pointer (some ⟨b, off, none⟩)) (hT : AggTy P T) (hi : (P.info? T).map (·.size) = some ys.size)
    (t : TypeId) (cs : Array Value) (hw : Blk w b t cs) (hy : ∀ j v, ys.toList[j]? = some v → cs[off + j]? = some v) : (execOp a.eval o).run P w = .ok (.value (.agg ys)) w := by
  have hr := run_load_part w b off T t cs ys hw hT hi hy
  unfold execOp
  simp only [ho, Sem.run_bind, Sem.run_pure, Result.andThen_ok, hp, hr]
/-- 'var x T', in a region that draws its order -/
theorem step_alloc {w : World} {o : Oper} {a : Act} {K : Act → World → Prop} (hw : Region.wanted o (yielded ops a.tmps) = true) {N : Tmp} (_hd : o.dst = some N) {cs : Array Value} {t : TypeId}
    (hrun : (execOp a.eval o).run P w = .ok (.value (.pointer (some ⟨w.heap.size, 0, none⟩))) (w.alloc (.cells cs t (0, 0))))
    (h : ∀ g, g = w.heap.size → ∀ w1, Blk w1 g t cs → Only w.heap.size w.heap.size w w1 → K (a.put o.dst (.pointer (some ⟨g, 0, none⟩))) w1) : if Region.wanted o (yielded ops a.tmps) = true then Oper.wp P o a w K Q else K (a.put o.dst undef) w :=
  event_step hw hrun (h _ rfl _ (Blk.new w t cs _ rfl) ((Only.refl _ _ w).alloc _))
end
/-! ### worlds -/
theorem Out.of {w w' : World} (h : Below w.heap.size w w') : Out w w' := Only.of_below h (Nat.le_refl _)
theorem Out.bel {w w' : World} (h : Out w w') : Below w.heap.size w w' := h.below (Nat.le_refl _)
theorem Blk.o {w w' : World} {b : Nat} {t : TypeId} {cs : Array Value} (h : Blk w b t cs) (o : Out w w') : Blk w' b t cs := h.out (Out.bel o)
/-- the cells of a world -/
def WC (x : MW) (p : Nat) (m : Option Nat) (a b : Nat → Option Nat) (v : Value) (term margin : Int) : Array Value := cells24 p x.s m x.hs a b v term margin x.began
def hC (h : HS) (a b : Option Nat) : Array Value := #[.int .i64 h.life, .int .i64 h.count, .map a, .map b]
def sC (s : LS) (m : Option Nat) : Array Value := #[.int .i64 s.epoch, .int .i64 s.quiet, .map m]
def wC (m : Word) : Array Value := #[.int .i64 m.kind, .int .i64 (m.holder : Int), .int .i64 m.place, .int .i64 m.num, .int .i64 m.epoch]
theorem agg109 : AggTy Try.prog 109 := ⟨_, Try.underlying109, rfl⟩
theorem agg141 : AggTy Try.prog 141 := ⟨_, Try.underlying141, rfl⟩
theorem agg57 : AggTy Try.prog 57 := ⟨_, Try.underlying57, rfl⟩
theorem agg41 : AggTy Try.prog 41 := ⟨_, Try.underlying41, rfl⟩
theorem agg37 : AggTy Try.prog 37 := ⟨_, Try.underlying37, rfl⟩
theorem agg82 : AggTy Try.prog 82 := ⟨_, Try.underlying82, rfl⟩
theorem size109 : (Try.prog.info? 109).map (·.size) = some 24 := by kernel_rfl
theorem size141 : (Try.prog.info? 141).map (·.size) = some 5 := by kernel_rfl
theorem size57 : (Try.prog.info? 57).map (·.size) = some 3 := by kernel_rfl
theorem size41 : (Try.prog.info? 41).map (·.size) = some 4 := by kernel_rfl
theorem size37 : (Try.prog.info? 37).map (·.size) = some 2 := by kernel_rfl
theorem size82 : (Try.prog.info? 82).map (·.size) = some 3 := by kernel_rfl
section
variable {x : MW} {p : Nat} {m : Option Nat} {a b : Nat → Option Nat} {v : Value} {term margin : Int}
theorem four_of {j : Nat} (hj : j < 4) : j = 0 ∨ j = 1 ∨ j = 2 ∨ j = 3 := by omega
/-- a holder's cells of a world -/
theorem WC_h (j : Nat) (hj : j < 4) : ∀ (k : Nat) (u : Value), (hC (x.hs j) (a j) (b j)).toList[k]? = some u → (WC x p m a b v term margin)[4 + j * 4 + k]? = some u := by
  intro k u h
  have hk : k < 4 := (List.getElem?_eq_some_iff.1 h).1
  rcases four_of hj with rfl | rfl | rfl | rfl <;> rcases four_of hk with rfl | rfl | rfl | rfl <;> exact h
theorem WC_s : ∀ (k : Nat) (u : Value), (sC x.s m).toList[k]? = some u → (WC x p m a b v term margin)[1 + k]? = some u := by
  intro k u h
  have hk : k < 3 := (List.getElem?_eq_some_iff.1 h).1
  rcases (show k = 0 ∨ k = 1 ∨ k = 2 by omega) with rfl | rfl | rfl <;> exact h
theorem WC_plan : ∀ (k : Nat) (u : Value), (#[Value.int .i64 term, .int .i64 margin] : Array Value).toList[k]? = some u → (WC x p m a b v term margin)[21 + k]? = some u := by
  intro k u h
  have hk : k < 2 := (List.getElem?_eq_some_iff.1 h).1
  rcases (show k = 0 ∨ k = 1 by omega) with rfl | rfl <;> exact h
theorem WC_size : (WC x p m a b v term margin).size = 24 := rfl
end
/-! ### rows of messages -/
def KW : Kd Word where
  sz := 5
  E := []
  K := fun _ x cs => cs = (wC x).toList
  M := fun _ _ _ x cs => cs = (wC x).toList
  K_len := fun h => by rw [h]; rfl
  K_one := fun h u hu => by
    rw [h] at hu
    simp only [wC, List.mem_cons, List.mem_nil_iff, or_false] at hu
    rcases hu with rfl | rfl | rfl | rfl | rfl <;> rfl
  K_below := fun _ h => h
  K_of_M := fun h => h
  M_mono := fun _ h => h
  M_bound := fun h => h
  M_move := fun _ h => h
  M_lower := fun _ h => h
abbrev All : Nat → Prop := fun _ => True
theorem infoW : (Try.prog.info? 141).map (fun i => (i.zero, i.size, i.bytes)) = some (some (.agg #[.int .i64 0, .int .i64 0, .int .i64 0, .int .i64 0, .int .i64 0]), 5, 40) := by kernel_rfl
theorem KW_tight {w : World} {b : Nat} {v : Value} {xs : List Word} (h : KW.R 141 w b All v xs) : KW.R 141 w b (fun k => some k = v.ownBlock) v xs := by
  obtain ⟨h0, inner, ho, hr⟩ := h
  exact ⟨fun k hk => hk.symm, inner, ho, hr⟩
theorem KW_ne {w : World} {b g : Nat} {v : Value} {xs : List Word} {t : TypeId} {cs : Array Value} (h : KW.R 141 w b All v xs) (hg : Blk w g t cs) (ht : t ≠ 141) : ∀ k, v.ownBlock = some k → k ≠ g := by
  obtain ⟨inner, ho⟩ := Kd.R_own h
  intro k hk e
  subst e
  rcases ho.2 with ⟨h1, _⟩ | ⟨g', cap, cur, h1, h2, h3, h4⟩
  · rw [h1] at hk; simp [Value.ownBlock] at hk
  · rw [h1] at hk
    simp only [Value.ownBlock, Option.some.injEq] at hk
    subst hk
    unfold Blk at hg
    rw [h3] at hg
    simp only [Option.some.injEq, Obj.cells.injEq] at hg
    exact ht hg.2.1.symm
theorem KW_far {w w' : World} {b g : Nat} {v : Value} {xs : List Word} {t : TypeId} {cs : Array Value} (h : KW.R 141 w b All v xs) (hg : Blk w g t cs) (ht : t ≠ 141) (f : Far g w w') : KW.R 141 w' b All v xs :=
  Kd.R_mono (Kd.R_step (KW_tight h) (fun i hi hlt => f.block i (KW_ne h hg ht i hi.symm))) (fun _ _ => trivial)
theorem KW_below {w w' : World} {b : Nat} {v : Value} {xs : List Word} (h : KW.R 141 w b All v xs) (k : Out w w') : KW.R 141 w' b All v xs := Kd.R_below h (Out.bel k)
theorem KW_empty (w : World) : KW.R 141 (w.alloc (.cells #[] 141)) w.heap.size All (.slice (some ⟨w.heap.size, 0, none⟩) 0 0) [] :=
  ⟨fun _ _ => trivial, [], World.ownsRow_lit (base := w.heap.size) (e := 141) (size := 5) w #[] 0 (Nat.le_refl _) (by unfold maxLen; omega) rfl, Reps.none _ _⟩
theorem KW_nil (w : World) (b : Nat) : KW.R 141 w b All (.slice none 0 0) [] := ⟨fun _ _ => trivial, [], ⟨rfl, .inl ⟨rfl, rfl⟩⟩, Reps.none _ _⟩
theorem mapIs_ne {α : Type} {E : Elem α} {w : World} {m : Option Nat} {es : List (Int × α)} {g : Nat} {t : TypeId} {cs : Array Value} (h : MapIs E w m es) (hg : Blk w g t cs) : ∀ k, m = some k → k ≠ g := by
  intro k hk e
  subst hk e
  obtain ⟨xs, clock, hx, _⟩ := (show MapAt E w k es from h)
  unfold Blk at hg
  rw [hx] at hg
  cases hg
theorem mapIs_far {α : Type} {E : Elem α} {w w' : World} {m : Option Nat} {es : List (Int × α)} {g : Nat} {t : TypeId} {cs : Array Value} (h : MapIs E w m es) (hg : Blk w g t cs) (f : Far g w w') : MapIs E w' m es := by
  cases m with
  | none => exact h
  | some k =>
    obtain ⟨xs, clock, hx, r⟩ := (show MapAt E w k es from h)
    exact ⟨xs, clock, (f.block k (mapIs_ne h hg k rfl)).trans hx, r⟩
theorem Far.only {w w' : World} {g : Nat} (f : Far g w w') : Only g (g + 1) w w' := ⟨f.os, f.tape, f.output, Nat.le_of_eq f.size.symm, fun k _ h => f.block k (by omega)⟩
/-! ### rows of messages made and put together, at the operation -/
theorem build0 (w : World) : (Instr.buildSlice 107 0 #[]).run Try.prog w = .ok (.slice (some ⟨w.heap.size, 0, none⟩) 0 0) (w.alloc (.cells #[] 141)) := by kernel_rfl
theorem build1 (x : Word) (w : World) : (Instr.buildSlice 107 1 #[(0, .agg (wC x))]).run Try.prog w = .ok (.slice (some ⟨w.heap.size, 0, none⟩) 1 1) (w.alloc (.cells (wC x) 141)) := by kernel_rfl
theorem KW_single (w : World) (x : Word) : KW.R 141 (w.alloc (.cells (wC x) 141)) w.heap.size All (.slice (some ⟨w.heap.size, 0, none⟩) 1 1) [x] :=
  ⟨fun _ _ => trivial, (wC x).toList, World.ownsRow_lit (base := w.heap.size) (e := 141) (size := 5) w (wC x) 1 (Nat.le_refl _) (by unfold maxLen; omega) rfl, Reps.snoc (Reps.none _ _) rfl rfl⟩
theorem KW_lt {w : World} {b : Nat} {v : Value} {xs : List Word} (h : KW.R 141 w b All v xs) : ∀ k, v.ownBlock = some k → k < w.heap.size := by
  obtain ⟨inner, ho⟩ := Kd.R_own h
  intro k hk
  rcases ho.2 with ⟨h1, _⟩ | ⟨g', cap, cur, h1, h2, h3, h4⟩
  · rw [h1] at hk; simp [Value.ownBlock] at hk
  · rw [h1] at hk
    simp only [Value.ownBlock, Option.some.injEq] at hk
    subst hk
    exact (Array.getElem?_eq_some_iff.1 h3).1
theorem KW_keep {w w' : World} {b : Nat} {v u : Value} {xs : List Word} (h : KW.R 141 w b All v xs) (hg : w.grownBy w' u.ownBlock) (hne : ∀ k, v.ownBlock = some k → u.ownBlock ≠ some k) : KW.R 141 w' b All v xs :=
  Kd.R_mono (Kd.R_step (KW_tight h) (fun i hi hlt => hg.block i hlt (fun e => hne i hi.symm e.symm))) (fun _ _ => trivial)
section
variable {ops : Array Oper} {rest : List Oper} {o : Oper} {a : Act} {Q : Exit → Act → World → Prop} {K : Act → World → Prop} {w V0 : World}
theorem step_lit0 (hw : Region.wanted o (yielded ops a.tmps) = true) (ho : o.op = .buildSlice 107 0 #[]) (h : ∀ g, g = w.heap.size → ∀ w1, KW.R 141 w1 w.heap.size All (.slice (some ⟨g, 0, none⟩) 0 0) [] → Only w.heap.size w.heap.size w w1 → K (a.put o.dst (.slice (some ⟨g, 0, none⟩) 0 0)) w1) :
    if Region.wanted o (yielded ops a.tmps) = true then Oper.wp Try.prog o a w K Q else K (a.put o.dst undef) w :=
  event_step hw (by have := build0 w; unfold execOp; simp only [ho, Sem.run_bind, Sem.run_pure, Result.andThen_ok]; first | (rw [this]; rfl) | (simp [this])) (h _ rfl _ (KW_empty w) ((Only.refl _ _ w).alloc _))
theorem step_lit1 (hw : Region.wanted o (yielded ops a.tmps) = true) (s : Operand) (x : Word) (ho : o.op = .buildSlice 107 1 #[(0, s)]) (hs : a.eval s = .agg (wC x)) (h : ∀ g, g = w.heap.size → ∀ w1, KW.R 141 w1 w.heap.size All (.slice (some ⟨g, 0, none⟩) 1 1) [x] → Only w.heap.size w.heap.size w w1 → K (a.put o.dst (.slice (some ⟨g, 0, none⟩) 1 1)) w1) :
    if Region.wanted o (yielded ops a.tmps) = true then Oper.wp Try.prog o a w K Q else K (a.put o.dst undef) w :=
  event_step hw (by have := build1 x w; unfold execOp; simp [ho, hs, this]) (h _ rfl _ (KW_single w x) ((Only.refl _ _ w).alloc _))
theorem list_lit0 (hgd : o.guard = none) (ho : o.op = .buildSlice 107 0 #[]) (h : ∀ g, g = w.heap.size → ∀ w1, KW.R 141 w1 w.heap.size All (.slice (some ⟨g, 0, none⟩) 0 0) [] → Only w.heap.size w.heap.size w w1 → wpList Try.prog ops Q rest (a.put o.dst (.slice (some ⟨g, 0, none⟩) 0 0)) w1) :
    wpList Try.prog ops Q (o :: rest) a w :=
  Kd.event_run hgd (by have := build0 w; unfold execOp; simp [ho, this]) (h _ rfl _ (KW_empty w) ((Only.refl _ _ w).alloc _))
theorem list_lit1 (hgd : o.guard = none) (s : Operand) (x : Word) (ho : o.op = .buildSlice 107 1 #[(0, s)]) (hs : a.eval s = .agg (wC x)) (h : ∀ g, g = w.heap.size → ∀ w1, KW.R 141 w1 w.heap.size All (.slice (some ⟨g, 0, none⟩) 1 1) [x] → Only w.heap.size w.heap.size w w1 → wpList Try.prog ops Q rest (a.put o.dst (.slice (some ⟨g, 0, none⟩) 1 1)) w1) :
    wpList Try.prog ops Q (o :: rest) a w :=
  Kd.event_run hgd (by have := build1 x w; unfold execOp; simp [ho, hs, this]) (h _ rfl _ (KW_single w x) ((Only.refl _ _ w).alloc _))
theorem step_app (hw : Region.wanted o (yielded ops a.tmps) = true) (s y : Operand) (ho : o.op = .call { callee := .builtin .append, args := #[s, y], argTypes := #[107, 107] }) (v : Value) (l l2 l3 : List Word) (h3 : l ++ l2 = l3) (A : Option Addr) (m c : Nat) (hs : a.eval s = v) (hy : a.eval y = .slice A m c)
    (HO : KW.R 141 w V0.heap.size All v l) (HR : KW.C w A m l2) (HB : Out V0 w) (hl : l.length + m ≤ 1000)
    (h : ∀ A1 c1 w1, KW.R 141 w1 V0.heap.size All (.slice A1 l3.length c1) l3 → Only V0.heap.size V0.heap.size V0 w1 → w.grownBy w1 v.ownBlock → K (a.put o.dst (.slice A1 l3.length c1)) w1) :
    if Region.wanted o (yielded ops a.tmps) = true then Oper.wp Try.prog o a w K Q else K (a.put o.dst undef) w := by
  subst h3
  refine Kd.R_append_rows_step KW (w0 := V0) V0.heap.size hw s y 107 141 _ 40 ho Try.underlying107 infoW rfl (by decide) (by omega) v l l2 A m c All (fun _ => False) hs hy HO HR (fun _ _ h => h) (fun _ h => h.elim) (fun _ _ => trivial) (Out.bel HB) HB.size (by omega) ?_
  intro v1 w1 ho1 hb1 hg1 _
  obtain ⟨A1, c1, rfl⟩ := Kd.R_slice ho1
  exact h A1 c1 w1 ho1 (Out.of hb1) hg1
theorem list_app (hgd : o.guard = none) (s y : Operand) (ho : o.op = .call { callee := .builtin .append, args := #[s, y], argTypes := #[107, 107] }) (v : Value) (l l2 l3 : List Word) (h3 : l ++ l2 = l3) (A : Option Addr) (m c : Nat) (hs : a.eval s = v) (hy : a.eval y = .slice A m c)
    (HO : KW.R 141 w V0.heap.size All v l) (HR : KW.C w A m l2) (HB : Out V0 w) (hl : l.length + m ≤ 1000)
    (h : ∀ A1 c1 w1, KW.R 141 w1 V0.heap.size All (.slice A1 l3.length c1) l3 → Only V0.heap.size V0.heap.size V0 w1 → w.grownBy w1 v.ownBlock → wpList Try.prog ops Q rest (a.put o.dst (.slice A1 l3.length c1)) w1) :
    wpList Try.prog ops Q (o :: rest) a w := by
  subst h3
  refine Kd.R_append_rows KW (w0 := V0) V0.heap.size hgd s y 107 141 _ 40 ho Try.underlying107 infoW rfl (by decide) (by omega) v l l2 A m c All (fun _ => False) hs hy HO HR (fun _ _ h => h) (fun _ h => h.elim) (fun _ _ => trivial) (Out.bel HB) HB.size (by omega) ?_
  intro v1 w1 ho1 hb1 hg1 _
  obtain ⟨A1, c1, rfl⟩ := Kd.R_slice ho1
  exact h A1 c1 w1 ho1 (Out.of hb1) hg1
end
theorem KW_C {w : World} {b n c : Nat} {A : Option Addr} {xs : List Word} (h : KW.R 141 w b All (.slice A n c) xs) : n = xs.length ∧ n ≤ c ∧ KW.C w A n xs := by
  have h1 := Kd.R_reads' h
  refine ⟨h1.1, h1.2.1, ?_⟩
  rw [h1.1]
  exact h1.2.2
section
variable {P : Program} {ops : Array Oper} {rest : List Oper} {o : Oper} {a : Act} {Q : Exit → Act → World → Prop} {K : Act → World → Prop}
theorem run_store_one (w : World) (b off : Nat) (T t : TypeId) (cs : Array Value) (u : Value) (hw : Blk w b t cs) (hi : (P.info? T).map (·.size) = some 1) (hc : u.cells = #[u]) (h1 : u.oneCell' = true) (hfit : off + 1 ≤ cs.size) :
    (Instr.storeAt T (.pointer (some ⟨b, off, none⟩)) u).run P w = .ok () (w.setRow b (cs.toList.take off ++ [u] ++ cs.toList.drop (off + 1)).toArray) := by
  have h := run_storeCells_at (P := P) b off t [u] 0 cs w hw (by simpa using hfit) (fun v hv => by rw [List.mem_singleton.1 hv]; exact h1)
  simp only [Instr.storeAt, Instr.sureAddr, Sem.run_bind, Sem.run_pure, Result.andThen]
  cases hq : P.info? T with
  | none => simp [hq] at hi
  | some i =>
    have hs : i.size = 1 := by simpa [hq] using hi
    simp [storeVar, sizeOf, typeInfo, hq, hc, hs]
    simpa using h
theorem step_store_one (w : World) (hw : Region.wanted o (yielded ops a.tmps) = true) (hN : o.dst = none) (pa va : Operand) (T : TypeId) (ho : o.op = .store T pa va)
    (b off : Nat) (u : Value) (hp : a.eval pa = .pointer (some ⟨b, off, none⟩)) (hv : a.eval va = u) (hi : (P.info? T).map (·.size) = some 1) (hc : u.cells = #[u]) (h1 : u.oneCell' = true)
    (t : TypeId) (cs : Array Value) (hb : Blk w b t cs) (hfit : off + 1 ≤ cs.size) (zs : Array Value) (hz : zs = (cs.toList.take off ++ [u] ++ cs.toList.drop (off + 1)).toArray)
    (h : ∀ w', Blk w' b t zs → Far b w w' → K (a.put none undef) w') : if Region.wanted o (yielded ops a.tmps) = true then Oper.wp P o a w K Q else K (a.put none undef) w := by
  rw [if_pos hw]
  have hr := run_store_one (P := P) w b off T t cs u hb hi hc h1 hfit
  have hrow := hb.row zs
  rw [← hz] at hr
  unfold Oper.wp execOp
  simp only [ho, Sem.run_bind, Sem.run_pure, Result.andThen_ok, hp, hv, hr]
  have h2 := h _ hrow (Far.of_setRow w b zs)
  rw [← hN] at h2
  exact h2
theorem list_store_one (w : World) (hgd : o.guard = none) (pa va : Operand) (T : TypeId) (ho : o.op = .store T pa va)
    (b off : Nat) (u : Value) (hp : a.eval pa = .pointer (some ⟨b, off, none⟩)) (hv : a.eval va = u) (hi : (P.info? T).map (·.size) = some 1) (hc : u.cells = #[u]) (h1 : u.oneCell' = true)
    (t : TypeId) (cs : Array Value) (hb : Blk w b t cs) (hfit : off + 1 ≤ cs.size) (zs : Array Value) (hz : zs = (cs.toList.take off ++ [u] ++ cs.toList.drop (off + 1)).toArray)
    (h : ∀ w', Blk w' b t zs → Far b w w' → wpList P ops Q rest (a.put o.dst undef) w') : wpList P ops Q (o :: rest) a w := by
  refine wpList_plain hgd fun K hK => ?_
  have hr := run_store_one (P := P) w b off T t cs u hb hi hc h1 hfit
  have hrow := hb.row zs
  rw [← hz] at hr
  unfold Oper.wp execOp
  simp only [ho, Sem.run_bind, Sem.run_pure, Result.andThen_ok, hp, hv, hr]
  exact hK _ _ (h _ hrow (Far.of_setRow w b zs))
end
theorem size107 : (Try.prog.info? 107).map (·.size) = some 1 := by kernel_rfl
theorem size3 : (Try.prog.info? 3).map (·.size) = some 1 := by kernel_rfl
theorem size4 : (Try.prog.info? 4).map (·.size) = some 1 := by kernel_rfl
/-! ### one of a row of messages; a row without one -/
theorem KW_blk {w : World} {b : Nat} {v : Value} {l : List Word} (h : KW.R 141 w b All v l) (hl : 0 < l.length) : ∃ g c cur, v = .slice (some ⟨g, 0, none⟩) l.length c ∧ l.length ≤ c ∧ Blk w g 141 cur ∧ ∀ (i : Nat) (hi : i < l.length), ∀ (j : Nat) (u : Value), (wC l[i]).toList[j]? = some u → cur[i * 5 + j]? = some u := by
  obtain ⟨h0, inner, ho, hr⟩ := h
  rcases ho.2 with ⟨h1, h2⟩ | ⟨g, cap, cur, h1, h2, h3, h4, h5, h6, h7⟩
  · omega
  · refine ⟨g, cap, cur, h1, h4, h3, fun i hi j u hu => ?_⟩
    have hj : j < 5 := (List.getElem?_eq_some_iff.1 hu).1
    have h8 : (inner.drop (i * 5)).take 5 = (wC l[i]).toList := hr.2 i l[i] (List.getElem?_eq_getElem hi)
    have h7' : cur.toList.take (l.length * 5) = inner := h7
    rw [← h8, List.getElem?_take, if_pos hj, List.getElem?_drop, ← h7', List.getElem?_take, if_pos (by omega), Array.getElem?_toList] at hu
    exact hu
theorem elem107 : Try.prog.underlying 107 = some (.slice (Try.prog.elem 107)) := by kernel_rfl
theorem slice_hi (b n c i : Nat) (hi : i ≤ n) (hnc : n ≤ c) (w : World) : (Instr.slice 107 (.slice (some ⟨b, 0, none⟩) n c) none (some (.int .i64 (i : Int))) none).run Try.prog w = .ok (.slice (some ⟨b, 0, none⟩) i c) w := by
  have h1 := fun w => run_sizeOf (P := Try.prog) size141 w
  have e : (⟨b, 0, none⟩ : Addr).add 0 = ⟨b, 0, none⟩ := by unfold Addr.add; split <;> simp_all
  rw [run_slice_h w 107 _ n c elem107 .i64 (i : Int) (by omega) (by omega)]
  have h2 : Try.prog.elem 107 = 141 := by kernel_rfl
  rw [h2, h1]
  simp [Result.andThen, sliced, e]
def loA (b c i : Nat) : Addr := if c = i + 1 then ⟨b, 0, none⟩ else ⟨b, (i + 1) * 5, none⟩
theorem slice_lo (b n c i : Nat) (hi : i < n) (hnc : n ≤ c) (w : World) : (Instr.slice 107 (.slice (some ⟨b, 0, none⟩) n c) (some (.int .i64 ((i : Int) + 1))) none none).run Try.prog w = .ok (.slice (some (loA b c i)) (n - (i + 1)) (c - (i + 1))) w := by
  have h1 := fun w => run_sizeOf (P := Try.prog) size141 w
  have e : (⟨b, 0, none⟩ : Addr).add ((i + 1) * 5) = ⟨b, (i + 1) * 5, none⟩ := by unfold Addr.add; split <;> simp_all
  have e2 : ((i : Int) + 1).toNat = i + 1 := by omega
  rw [run_slice_l w 107 _ n c elem107 .i64 ((i : Int) + 1) (by omega) (by omega)]
  have h2 : Try.prog.elem 107 = 141 := by kernel_rfl
  rw [h2, h1]
  unfold loA
  simp only [Result.andThen_ok, sliced, e2, Option.map_some, e]
  split <;> rfl
theorem C_lo {w : World} {b c i : Nat} {l : List Word} (h : KW.C w (some ⟨b, 0, none⟩) l.length l) (hi : i < l.length) (hc : l.length ≤ c) : KW.C w (some (loA b c i)) (l.length - (i + 1)) (l.drop (i + 1)) := by
  have h1 := Kd.C_drop (c := c) h (m := i + 1) (by omega) hc
  rw [List.length_drop] at h1
  have e : (⟨b, 0, none⟩ : Addr).add ((i + 1) * KW.sz) = ⟨b, (i + 1) * 5, none⟩ := by unfold Addr.add; split <;> simp_all [KW]
  have e2 : (if c = i + 1 then some ⟨b, 0, none⟩ else (some (⟨b, 0, none⟩ : Addr)).map (·.add ((i + 1) * KW.sz))) = some (loA b c i) := by
    unfold loA
    rw [Option.map_some, e]
    split <;> rfl
  rw [e2] at h1
  exact h1
theorem C_hi {w : World} {b i : Nat} {l : List Word} (h : KW.C w (some ⟨b, 0, none⟩) l.length l) (hi : i < l.length) : KW.C w (some ⟨b, 0, none⟩) i (l.take i) := by
  have h1 := Kd.C_take h (m := i) (by omega)
  have e : (l.take i).length = i := by rw [List.length_take]; omega
  rw [e] at h1
  exact h1
/-! ### what of a world lies elsewhere -/
structure Wd2 (W : World) (lo p : Nat) (x : MW) (m : Option Nat) (a b : Nat → Option Nat) (v : Value) : Prop where
  clk : Clk W lo (lo + 4) p 4 x.c
  s : MapIs tripE W m x.s.hs
  hw : ∀ j, MapIs pairE W (a j) (x.hs j).wants
  hh : ∀ j, MapIs pairE W (b j) (x.hs j).has
  way : KW.R 141 W (lo + 4) All v x.way
  full : lo + 4 ≤ W.heap.size
def updN (f : Nat → Option Nat) (j : Nat) (n : Option Nat) : Nat → Option Nat := fun i => if i = j then n else f i
theorem updN_same (f : Nat → Option Nat) (j : Nat) (n : Option Nat) : updN f j n j = n := if_pos rfl
theorem updN_ne (f : Nat → Option Nat) {j i : Nat} (n : Option Nat) (h : i ≠ j) : updN f j n i = f i := if_neg h
section
variable {W W' : World} {lo p : Nat} {x : MW} {m : Option Nat} {a b : Nat → Option Nat} {v : Value} {term margin : Int}
theorem Wd2.kept (k : Wd2 W lo p x m a b v) (o : Out W W') : Wd2 W' lo p x m a b v :=
  ⟨k.clk.kept o (.inl k.full), mapIs_out k.s o, fun j => mapIs_out (k.hw j) o, fun j => mapIs_out (k.hh j) o, KW_below k.way o, Nat.le_trans k.full o.size⟩
theorem Wd2.far (k : Wd2 W lo p x m a b v) {g : Nat} {t : TypeId} {cs : Array Value} (hg : Blk W g t cs) (ht : t ≠ 141) (hlo : lo + 4 ≤ g) (f : Far g W W') : Wd2 W' lo p x m a b v :=
  ⟨k.clk.kept f.only (.inl hlo), mapIs_far k.s hg f, fun j => mapIs_far (k.hw j) hg f, fun j => mapIs_far (k.hh j) hg f, KW_far k.way hg ht f, by rw [f.size]; exact k.full⟩
theorem Wd2.withH (k : Wd2 W lo p x m a b v) (j : Nat) {h : HS} {n1 n2 : Option Nat} (h1 : MapIs pairE W n1 h.wants) (h2 : MapIs pairE W n2 h.has) : Wd2 W lo p { x with hs := setH x.hs j h } m (updN a j n1) (updN b j n2) v :=
  ⟨k.clk, k.s, fun i => by
    show MapIs pairE W (updN a j n1 i) (setH x.hs j h i).wants
    by_cases e : i = j
    · subst e; rw [updN_same, setH_same]; exact h1
    · rw [updN_ne _ _ e, setH_other _ _ e]; exact k.hw i, fun i => by
    show MapIs pairE W (updN b j n2 i) (setH x.hs j h i).has
    by_cases e : i = j
    · subst e; rw [updN_same, setH_same]; exact h2
    · rw [updN_ne _ _ e, setH_other _ _ e]; exact k.hh i, k.way, k.full⟩
theorem Wd2.withS (k : Wd2 W lo p x m a b v) {s : LS} {m' : Option Nat} (h : MapIs tripE W m' s.hs) : Wd2 W lo p { x with s := s } m' a b v := ⟨k.clk, h, k.hw, k.hh, k.way, k.full⟩
theorem Wd2.withWay (k : Wd2 W lo p x m a b v) {l : List Word} {v' : Value} (h : KW.R 141 W (lo + 4) All v' l) : Wd2 W lo p { x with way := l } m a b v' := ⟨k.clk, k.s, k.hw, k.hh, h, k.full⟩
theorem Wd2.withBegan (k : Wd2 W lo p x m a b v) (bg : Bool) : Wd2 W lo p { x with began := bg } m a b v := ⟨k.clk, k.s, k.hw, k.hh, k.way, k.full⟩
theorem WC_setH (j : Nat) (hj : j < 4) (h : HS) (n1 n2 : Option Nat) : WC { x with hs := setH x.hs j h } p m (updN a j n1) (updN b j n2) v term margin = ((WC x p m a b v term margin).toList.take (4 + j * 4) ++ (hC h n1 n2).toList ++ (WC x p m a b v term margin).toList.drop (4 + j * 4 + (hC h n1 n2).size)).toArray := by
  rcases four_of hj with rfl | rfl | rfl | rfl <;> rfl
theorem WC_setS (s : LS) (m' : Option Nat) : WC { x with s := s } p m' a b v term margin = ((WC x p m a b v term margin).toList.take 1 ++ (sC s m').toList ++ (WC x p m a b v term margin).toList.drop (1 + (sC s m').size)).toArray := rfl
theorem WC_setWay (l : List Word) (v' : Value) : (WC x p m a b v term margin).setIfInBounds 20 v' = WC { x with way := l } p m a b v' term margin := rfl
theorem WC_setBegan (bg : Bool) : (WC x p m a b v term margin).setIfInBounds 23 (.bool bg) = WC { x with began := bg } p m a b v term margin := rfl
/-- a world being turned, in block g of our own -/
structure Ed (w W : World) (g lo p : Nat) (x : MW) (m : Option Nat) (a b : Nat → Option Nat) (v : Value) (term margin : Int) : Prop where
  blk : Blk W g 109 (WC x p m a b v term margin)
  wd : Wd2 W lo p x m a b v
  out : Out w W
  new : w.heap.size ≤ g
  low : lo + 4 ≤ w.heap.size
variable {w : World} {g : Nat}
theorem Out.far {h : Nat} (k : Out w W) (f : Far h W W') (hh : w.heap.size ≤ h) : Out w W' := k.fresh (Only.of_below (f.below hh) (Nat.le_refl _))
theorem Ed.o (k : Ed w W g lo p x m a b v term margin) (o : Out W W') : Ed w W' g lo p x m a b v term margin := ⟨k.blk.o o, k.wd.kept o, k.out.thens o, k.new, k.low⟩
theorem Ed.drew (k : Ed w W g lo p x m a b v term margin) : Ed w W.drew g lo p x m a b v term margin := k.o (Only.refl _ _ _).drew
/-- a store into another block of ours -/
theorem Ed.away (k : Ed w W g lo p x m a b v term margin) {h : Nat} {t : TypeId} {cs : Array Value} (hg : Blk W h t cs) (ht : t ≠ 141) (hh : w.heap.size ≤ h) (hne : g ≠ h) (f : Far h W W') : Ed w W' g lo p x m a b v term margin :=
  ⟨k.blk.away f hne, k.wd.far hg ht (Nat.le_trans k.low hh) f, Out.far k.out f hh, k.new, k.low⟩
theorem Ed.withH (k : Ed w W g lo p x m a b v term margin) (j : Nat) {h : HS} {n1 n2 : Option Nat} (h1 : MapIs pairE W n1 h.wants) (h2 : MapIs pairE W n2 h.has) (hb : Blk W' g 109 (WC { x with hs := setH x.hs j h } p m (updN a j n1) (updN b j n2) v term margin)) (f : Far g W W') :
    Ed w W' g lo p { x with hs := setH x.hs j h } m (updN a j n1) (updN b j n2) v term margin :=
  ⟨hb, (k.wd.far k.blk (by decide) (Nat.le_trans k.low k.new) f).withH j (mapIs_far h1 k.blk f) (mapIs_far h2 k.blk f), Out.far k.out f k.new, k.new, k.low⟩
theorem Ed.withS (k : Ed w W g lo p x m a b v term margin) {s : LS} {m' : Option Nat} (h1 : MapIs tripE W m' s.hs) (hb : Blk W' g 109 (WC { x with s := s } p m' a b v term margin)) (f : Far g W W') : Ed w W' g lo p { x with s := s } m' a b v term margin :=
  ⟨hb, (k.wd.far k.blk (by decide) (Nat.le_trans k.low k.new) f).withS (mapIs_far h1 k.blk f), Out.far k.out f k.new, k.new, k.low⟩
theorem Ed.withWay (k : Ed w W g lo p x m a b v term margin) {l : List Word} {v' : Value} (h1 : KW.R 141 W (lo + 4) All v' l) : Ed w (W.setCell ⟨g, 20, none⟩ v') g lo p { x with way := l } m a b v' term margin :=
  have f := Far.setCell W ⟨g, 20, none⟩ v'
  ⟨k.blk.set 20 v', (k.wd.far k.blk (by decide) (Nat.le_trans k.low k.new) f).withWay (KW_far h1 k.blk (by decide) f), Out.far k.out f k.new, k.new, k.low⟩
theorem Ed.withBegan (k : Ed w W g lo p x m a b v term margin) (bg : Bool) : Ed w (W.setCell ⟨g, 23, none⟩ (.bool bg)) g lo p { x with began := bg } m a b v term margin :=
  have f := Far.setCell W ⟨g, 23, none⟩ (.bool bg)
  ⟨k.blk.set 23 (.bool bg), (k.wd.far k.blk (by decide) (Nat.le_trans k.low k.new) f).withBegan bg, Out.far k.out f k.new, k.new, k.low⟩
theorem Ed.come {W'' : World} {y : MW} {m1 : Option Nat} {a1 b1 : Nat → Option Nat} {v1 : Value} (k : Ed w W g lo p x m a b v term margin) (hwd : Wd2 W' lo p y m1 a1 b1 v1) (hO : Out W W') (hb : Blk W'' g 109 (WC y p m1 a1 b1 v1 term margin)) (f : Far g W' W'') : Ed w W'' g lo p y m1 a1 b1 v1 term margin :=
  ⟨hb, hwd.far (k.blk.o hO) (by decide) (Nat.le_trans k.low k.new) f, Out.far (k.out.thens hO) f k.new, k.new, k.low⟩
theorem WC_way (l : List Word) (A : Option Addr) (n c : Nat) : WC { x with way := l } p m a b (.slice A n c) term margin = ((WC x p m a b v term margin).toList.take 20 ++ [Value.slice A n c] ++ (WC x p m a b v term margin).toList.drop 21).toArray := rfl
theorem WC_began (bg : Bool) : WC { x with began := bg } p m a b v term margin = ((WC x p m a b v term margin).toList.take 23 ++ [Value.bool bg] ++ (WC x p m a b v term margin).toList.drop 24).toArray := rfl
theorem Ed.way2 (k : Ed w W g lo p x m a b v term margin) {l : List Word} {v' : Value} (h1 : KW.R 141 W (lo + 4) All v' l) (hb : Blk W' g 109 (WC { x with way := l } p m a b v' term margin)) (f : Far g W W') : Ed w W' g lo p { x with way := l } m a b v' term margin :=
  ⟨hb, (k.wd.far k.blk (by decide) (Nat.le_trans k.low k.new) f).withWay (KW_far h1 k.blk (by decide) f), Out.far k.out f k.new, k.new, k.low⟩
theorem Ed.began2 (k : Ed w W g lo p x m a b v term margin) (bg : Bool) (hb : Blk W' g 109 (WC { x with began := bg } p m a b v term margin)) (f : Far g W W') : Ed w W' g lo p { x with began := bg } m a b v term margin :=
  ⟨hb, (k.wd.far k.blk (by decide) (Nat.le_trans k.low k.new) f).withBegan bg, Out.far k.out f k.new, k.new, k.low⟩
theorem Wd2.one (k : Wd2 W lo p x m a b v) : (WC x p m a b v term margin).toList.all (·.oneCell') = true := by
  obtain ⟨A, c, rfl⟩ := Kd.R_slice k.way
  rfl
/-- what a function hands back -/
def Hands (w : World) (lo p : Nat) (y : MW) (term margin : Int) (e : Ending) (w' : World) : Prop := ∃ m a b v, e = .returned (.agg (WC y p m a b v term margin)) ∧ Wd2 w' lo p y m a b v ∧ Out w w'
theorem clk_all {W : World} {lo p : Nat} {s : St} (h : Clk W lo (lo + 4) p 4 s) (k : Nat) (h1 : lo ≤ k) (h2 : k < lo + 4) : ∃ v, W.cell? ⟨k, 0, none⟩ = some v := by
  obtain ⟨a, b, c, h⟩ := h
  obtain ⟨kk, _, e0⟩ := h.c0
  have ea := h.x0 0 (by omega)
  have eb := h.x1 0 (by omega)
  have ec := h.x2 0 (by omega)
  have := h.pa; have := h.pb; have := h.pc; have := h.ab; have := h.ac; have := h.bc
  have := h.sp; have := h.sa; have := h.sb; have := h.sc
  rcases (show k = p ∨ k = a ∨ k = b ∨ k = c by omega) with rfl | rfl | rfl | rfl
  · exact ⟨_, e0⟩
  · exact ⟨_, ea⟩
  · exact ⟨_, eb⟩
  · exact ⟨_, ec⟩
theorem mapIs_tick {α : Type} {E : Elem α} {W W' : World} {lo p : Nat} {s : St} {m : Option Nat} {es : List (Int × α)} (hc : Clk W lo (lo + 4) p 4 s) (h : MapIs E W m es) (o : Only lo (lo + 4) W W') : MapIs E W' m es := by
  refine h.kept o fun k hk => ?_
  subst hk
  obtain ⟨xs, clock, hx, _⟩ := (show MapAt E W k es from h)
  by_cases h1 : lo ≤ k ∧ k < lo + 4
  · obtain ⟨v, hv⟩ := clk_all hc k h1.1 h1.2
    simp [World.cell?, hx] at hv
  · omega
theorem KW_tick {W W' : World} {lo : Nat} {v : Value} {l : List Word} (h : KW.R 141 W (lo + 4) All v l) (o : Only lo (lo + 4) W W') : KW.R 141 W' (lo + 4) All v l :=
  Kd.R_mono (Kd.R_step (Kd.R_bound h) (fun k hk hlt => o.block k hlt (.inr hk.2.1))) (fun _ _ => trivial)
theorem Wd2.tick (k : Wd2 W lo p x m a b v) (i : Nat) (hc : Clk W' lo (lo + 4) p 4 (x.c.tickAt i)) (o : Only lo (lo + 4) W W') : Wd2 W' lo p { x with c := x.c.tickAt i } m a b v :=
  ⟨hc, mapIs_tick k.clk k.s o, fun j => mapIs_tick k.clk (k.hw j) o, fun j => mapIs_tick k.clk (k.hh j) o, KW_tick k.way o, Nat.le_trans k.full o.size⟩
def HandsT (w : World) (lo p : Nat) (y : MW) (term margin : Int) (e : Ending) (w' : World) : Prop := ∃ m a b v, e = .returned (.agg (WC y p m a b v term margin)) ∧ Wd2 w' lo p y m a b v ∧ Only lo (lo + 4) w w'
theorem Out.wide {lo : Nat} (h : Out W W') : Only lo (lo + 4) W W' := Only.then (Only.refl _ _ _) h (Nat.le_refl _)
def mC (kind i place : Int) : Array Value := #[.int .i64 kind, .int .i64 i, .int .i64 place]
theorem agg114 : AggTy Try.prog 114 := ⟨_, Try.underlying114, rfl⟩
theorem size114 : (Try.prog.info? 114).map (·.size) = some 3 := by kernel_rfl
end
end Go.Proofs.Ytefllgpehhlkoaa.Mar
