/-
  What an argument is: a slice of messages; a slice of acts. A struct read by its cells.
-/
import Derived.Test.YtjlfoiocceepjaaOpenM
import Derived.Test.YtjlfoiocceepjaaBlk
import Derived.Deep.Slices
import Derived.Deep.Grids
import Derived.OpenShut
namespace Go.Proofs.Ytjlfoiocceepjaa
open Go.ChangeShapes Go.WideShapes Go.ChangeAt Go.RowKit Go.Joins Go.Deep Go.Proofs.YtjlfoiocceepjaaW.PrintWords Go.Proofs.YtjlfoiocceepjaaW.PrintLast Go.Proofs.YtjlfoiocceepjaaW.PrintMore
set_option linter.unusedVariables false
set_option linter.unusedSimpArgs false

section
variable {P : Program} {w : World}
theorem run_load_cells (b off : Nat) (T : TypeId) (ys : Array Value) (hT : AggTy P T) (hi : (P.info? T).map (·.size) = some ys.size) (hy : ∀ j v, ys.toList[j]? = some v → w.cell? ⟨b, off + j, none⟩ = some v) :
    (Instr.loadAt T (.pointer (some ⟨b, off, none⟩))).run P w = .ok (.agg ys) w := by
  have h := run_loadCells_list (P := P) (w := w) ⟨b, off, none⟩ ys.toList (fun j v hv => by
    have e : (⟨b, off, none⟩ : Addr).add j = ⟨b, off + j, none⟩ := by unfold Addr.add; split <;> simp_all
    rw [e]
    exact hy j v hv)
  obtain ⟨d, hu, hd⟩ := hT
  simp only [Instr.loadAt, Instr.sureAddr, Sem.run_bind, Sem.run_pure, Result.andThen]
  cases hq : P.info? T with
  | none => simp [hq] at hi
  | some i =>
    have hs : i.size = ys.size := by simpa [hq] using hi
    have ha : (isAgg T).run P w = .ok true w := by
      cases d <;> simp at hd <;> simp [isAgg, hu, run_underlying hu]
    simp only [loadVar, Sem.run_bind, ha, Result.andThen_ok, if_true]
    have h' : Sem.run P (loadCells ⟨b, off, none⟩ ys.size) w = .ok ys w := by simpa using h
    simp [sizeOf, typeInfo, hq, hs, h', Result.andThen]
theorem wpList_load_cells {ops : Array Oper} {rest : List Oper} {o : Oper} {a : Act} {Q : Exit → Act → World → Prop} (hgd : o.guard = none) (pa : Operand) (T : TypeId) (ho : o.op = .load T pa)
    (b off : Nat) (ys : Array Value) (hp : a.eval pa = .pointer (some ⟨b, off, none⟩)) (hT : AggTy P T) (hi : (P.info? T).map (·.size) = some ys.size) (hy : ∀ j v, ys.toList[j]? = some v → w.cell? ⟨b, off + j, none⟩ = some v)
    (h : wpList P ops Q rest (a.put o.dst (.agg ys)) w) : wpList P ops Q (o :: rest) a w := by
  refine wpList_plain hgd fun K hK => ?_
  have hr := run_load_cells (P := P) (w := w) b off T ys hT hi hy
  unfold Oper.wp execOp
  simp only [ho, Sem.run_bind, Sem.run_pure, Result.andThen_ok, hp, hr]
  exact hK _ _ h
end
def IsMsgs (w : World) (a : Option Addr) (len : Nat) : Prop := len = 0 ∨ ∃ b o, a = some ⟨b, o, none⟩ ∧ b < w.heap.size ∧ ∀ i, i < len → ∃ (n : Nat → Int) (A : Option Addr) (c : Nat) (ts : List Int) (s : ByteArray), (∀ j v, (msgC n (.slice A ts.length c) s).toList[j]? = some v → w.cell? ⟨b, o + i * 12 + j, none⟩ = some v) ∧ ts.length ≤ c ∧ c ≤ 9223372036854775807 ∧ KI.C w A ts.length ts
def actA (k x y : Int) (b : Nat) : Array Value := #[.int .i64 k, .int .i64 x, .int .i64 y, .int .u32 (b : Int)]
def IsActs (w : World) (a : Option Addr) (len : Nat) : Prop := len = 0 ∨ ∃ b o, a = some ⟨b, o, none⟩ ∧ b < w.heap.size ∧ ∀ i, i < len → ∃ (k x y : Int) (q : Nat), q < 4294967296 ∧ (∀ j v, (actA k x y q).toList[j]? = some v → w.cell? ⟨b, o + i * 4 + j, none⟩ = some v)
theorem add_cell {w : World} {x : Addr} {i : Nat} {v : Value} (h : w.cell? (x.add i) = some v) : w.cell? ⟨x.block, x.off + i, none⟩ = some v ∧ x.block < w.heap.size := by
  obtain ⟨b, o, sp⟩ := x
  have hsp := World.cell?_spot h
  have hlt := World.block_lt_of_cell? w _ h
  by_cases h0 : i = 0
  · subst h0
    simp [Addr.add] at h hsp hlt
    subst hsp
    exact ⟨by simpa using h, hlt⟩
  · simp [Addr.add, h0] at h hsp hlt
    exact ⟨by simpa [hsp] using h, hlt⟩
theorem spot_none {w : World} {x : Addr} {v : Value} (h : w.cell? (x.add 0) = some v) : x.spot = none := by
  have := World.cell?_spot h
  simpa [Addr.add] using this
section
variable {H : Type} {enc : TypeId × Value → H} {w : World} {base : Nat} {held : Bool}
theorem cells_act : Try.prog.cellsOf 63 = 4 := by kernel_rfl
theorem list4 {α : Type} {l : List α} (h : l.length = 4) : ∃ c0 c1 c2 c3, l = [c0, c1, c2, c3] := by
  match l, h with
  | [c0, c1, c2, c3], _ => exact ⟨c0, c1, c2, c3, rfl⟩
theorem open_act_cells {fuel : Nat} {cs : List Value} {x : DataW H × List MemPlace} (h : DataW.trod enc Try.prog w base (fun _ => true) held fuel 63 cs = some x) :
    ∃ (k x y : Int) (q : Nat), q < 4294967296 ∧ cs = (actA k x y q).toList := by
  obtain ⟨xs, m, _, _, hl, hlen, hf⟩ := DataW.trod_struct Try.underlying63 h
  rw [cells_act] at hl
  obtain ⟨c0, c1, c2, c3, rfl⟩ := list4 hl
  have hx : ∀ i, i < 4 → ∃ y, xs[i]? = some y := fun i hi => ⟨_, List.getElem?_eq_getElem (by rw [hlen]; exact hi)⟩
  have hI : ∀ (i : Nat) (f : Field) (c : Value), i < 4 → (DataW.trod enc Try.prog w base (fun _ => true) held m f.type (([c0, c1, c2, c3].drop f.offset).take (Try.prog.cellsOf f.type)) = xs[i]?) → f.type = 3 → ([c0, c1, c2, c3].drop f.offset).take 1 = [c] → ∃ n : Int, c = .int .i64 n := fun i f c hi h1 h2 h3 => by
    obtain ⟨y, hy⟩ := hx i hi
    rw [h2, cells_int, h3, hy] at h1
    exact open_int_cell h1
  obtain ⟨a0, rfl⟩ := hI 0 _ c0 (by omega) (hf 0 _ rfl) rfl rfl
  obtain ⟨a1, rfl⟩ := hI 1 _ c1 (by omega) (hf 1 _ rfl) rfl rfl
  obtain ⟨a2, rfl⟩ := hI 2 _ c2 (by omega) (hf 2 _ rfl) rfl rfl
  obtain ⟨y3, hy3⟩ := hx 3 (by omega)
  have h3 : DataW.trod enc Try.prog w base (fun _ => true) held m 25 (([Value.int .i64 a0, .int .i64 a1, .int .i64 a2, c3].drop 3).take (Try.prog.cellsOf 25)) = xs[3]? := hf 3 _ rfl
  rw [show Try.prog.cellsOf 25 = 1 by kernel_rfl, hy3] at h3
  obtain ⟨n, e, hw⟩ := DataW.trod_int Try.underlying25 h3
  have e3 : c3 = .int .u32 n := by simpa using e
  have hn := bounds_u32 hw.2
  obtain ⟨q, rfl⟩ := Int.eq_ofNat_of_zero_le hn.1
  exact ⟨a0, a1, a2, q, by omega, by rw [e3]; rfl⟩
theorem open_msgs {a : Option Addr} {len cap : Nat} {d : DataW H} {p : List MemPlace} (h : DataW.Trod enc Try.prog w base (fun _ => true) held 47 (.slice a len cap) d p) : IsMsgs w a len ∧ len ≤ 9223372036854775807 := by
  obtain ⟨fuel, hx⟩ := h
  rcases open_slice Try.underlying47 hx with ⟨hcs, _⟩ | ⟨x, l, c, m, n, D, Pl, hcs, _, hl, hm, hmm, _, hel⟩
  · simp [Value.cells] at hcs
    obtain ⟨rfl, rfl, rfl⟩ := hcs
    exact ⟨.inl rfl, by omega⟩
  · simp [Value.cells] at hcs
    obtain ⟨rfl, rfl, rfl⟩ := hcs
    simp only [if_true] at hmm
    subst hmm
    unfold maxLen at hm
    refine ⟨?_, by omega⟩
    have each : ∀ i, i < m → ∃ (n : Nat → Int) (A : Option Addr) (c : Nat) (ts : List Int) (s : ByteArray), (∀ j v, (msgC n (.slice A ts.length c) s).toList[j]? = some v → w.cell? (x.add (i * 12 + j)) = some v) ∧ ts.length ≤ c ∧ c ≤ 9223372036854775807 ∧ KI.C w A ts.length ts := by
      intro i hi
      obtain ⟨cs', h1, h2⟩ := hel i hi
      rw [cells_msg] at h1
      obtain ⟨_, hlen, hcell⟩ := World.cells?_some h1
      obtain ⟨n, A, c, ts, s, rfl, h3, h4, h5⟩ := open_msg_cells h2
      refine ⟨n, A, c, ts, s, fun j v hv => ?_, h3, h4, h5⟩
      have hj := (List.getElem?_eq_some_iff.1 hv).1
      have h6 := hcell j (by omega)
      rw [Go.Deep.add_add] at h6
      rw [h6, hv]
    rcases Nat.eq_zero_or_pos len with h0 | h0
    · exact .inl h0
    · right
      obtain ⟨n, A, c, ts, s, h1, _⟩ := each 0 (by omega)
      have h1' : w.cell? (x.add 0) = some (.int .i64 (n 0)) := by simpa using h1 0 _ rfl
      have hsp := spot_none h1'
      have h2 := add_cell h1'
      obtain ⟨b, o, sp⟩ := x
      obtain rfl : sp = none := hsp
      refine ⟨b, o, rfl, h2.2, fun i hi => ?_⟩
      obtain ⟨n, A, c, ts, s, h1, h3⟩ := each i (by omega)
      exact ⟨n, A, c, ts, s, fun j v hv => by have := (add_cell (h1 j v hv)).1; rw [Nat.add_assoc]; exact this, h3⟩
theorem open_acts {a : Option Addr} {len cap : Nat} {d : DataW H} {p : List MemPlace} (h : DataW.Trod enc Try.prog w base (fun _ => true) held 48 (.slice a len cap) d p) : IsActs w a len ∧ len ≤ 9223372036854775807 := by
  obtain ⟨fuel, hx⟩ := h
  rcases open_slice Try.underlying48 hx with ⟨hcs, _⟩ | ⟨x, l, c, m, n, D, Pl, hcs, _, hl, hm, hmm, _, hel⟩
  · simp [Value.cells] at hcs
    obtain ⟨rfl, rfl, rfl⟩ := hcs
    exact ⟨.inl rfl, by omega⟩
  · simp [Value.cells] at hcs
    obtain ⟨rfl, rfl, rfl⟩ := hcs
    simp only [if_true] at hmm
    subst hmm
    unfold maxLen at hm
    refine ⟨?_, by omega⟩
    have each : ∀ i, i < m → ∃ (k x' y : Int) (q : Nat), q < 4294967296 ∧ (∀ j v, (actA k x' y q).toList[j]? = some v → w.cell? (x.add (i * 4 + j)) = some v) := by
      intro i hi
      obtain ⟨cs', h1, h2⟩ := hel i hi
      rw [cells_act] at h1
      obtain ⟨_, hlen, hcell⟩ := World.cells?_some h1
      obtain ⟨k, x', y, q, h3, rfl⟩ := open_act_cells h2
      refine ⟨k, x', y, q, h3, fun j v hv => ?_⟩
      have hj := (List.getElem?_eq_some_iff.1 hv).1
      have h6 := hcell j (by omega)
      rw [Go.Deep.add_add] at h6
      rw [h6, hv]
    rcases Nat.eq_zero_or_pos len with h0 | h0
    · exact .inl h0
    · right
      obtain ⟨k, x', y, q, _, h1⟩ := each 0 (by omega)
      have h1' : w.cell? (x.add 0) = some (.int .i64 k) := by simpa using h1 0 _ rfl
      have hsp := spot_none h1'
      have h2 := add_cell h1'
      obtain ⟨b, o, sp⟩ := x
      obtain rfl : sp = none := hsp
      refine ⟨b, o, rfl, h2.2, fun i hi => ?_⟩
      obtain ⟨k, x', y, q, h3, h1⟩ := each i (by omega)
      exact ⟨k, x', y, q, h3, fun j v hv => by have := (add_cell (h1 j v hv)).1; rw [Nat.add_assoc]; exact this⟩
end
end Go.Proofs.Ytjlfoiocceepjaa
