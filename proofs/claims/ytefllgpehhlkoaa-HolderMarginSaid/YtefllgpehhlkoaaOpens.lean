/-
  What an argument is: a struct of two ints; a slice of structs of ints; a slice of bools.
-/
import Derived.Test.YtefllgpehhlkoaaChecked
import Derived.Lib.SmallJoins
import Derived.Deep.Slices
import Derived.Deep.Grids
namespace Go.Proofs.Ytefllgpehhlkoaa
open Go.ChangeShapes Go.WideShapes Go.ChangeAt Go.RowKit Go.Joins Go.Deep

section
variable {H : Type} {enc : TypeId × Value → H} {w : World} {base : Nat} {spare : Nat → Bool} {held : Bool}

theorem trod_i64 {n : Nat} {v : Value} {y : DataW H × List MemPlace} (h : DataW.trod enc Try.prog w base spare held n 3 [v] = some y) : ∃ x, v = .int .i64 x ∧ (Lit.int .i64 x).wf = true := by
  obtain ⟨x, h1, _, h3⟩ := DataW.trod_int Try.underlying3 h
  simp at h1
  exact ⟨x, h1, h3⟩

set_option maxRecDepth 100000 in
theorem open_plan {r : Reach} {b0 : Nat} {v : Value} {d : DataW H} {p : List MemPlace} (hv : Value.okWide Try.prog w r b0 37 v) (h : DataW.Trod enc Try.prog w base spare held 37 v d p) :
    ∃ x y, v = .agg #[.int .i64 x, .int .i64 y] ∧ (Lit.int .i64 x).wf = true ∧ (Lit.int .i64 y).wf = true := by
  obtain ⟨v0, v1, y0, y1, n, rfl, _, _, h0, h1⟩ := open_agg2 Try.underlying37 (by kernel_rfl) (by kernel_rfl) hv h
  obtain ⟨x, rfl, hx⟩ := trod_i64 h0
  obtain ⟨y, rfl, hy⟩ := trod_i64 h1
  exact ⟨x, y, rfl, hx, hy⟩

/-- a cell that is there, its address written out -/
theorem add_cell {w : World} {x : Addr} {i : Nat} {v : Value} (h : w.cell? (x.add i) = some v) : w.cell? ⟨x.block, x.off + i, none⟩ = some v ∧ x.block < w.heap.size := by
  obtain ⟨b, o, sp⟩ := x
  have hsp := World.cell?_spot h
  have hlt := World.block_lt_of_cell? w _ h
  by_cases h0 : i = 0
  · subst h0
    simp [Addr.add] at h hsp hlt
    subst hsp
    exact ⟨by simpa using h, hlt⟩
  · simp [Addr.add, h0] at h hsp hlt
    exact ⟨by simpa [hsp] using h, hlt⟩

/-- What a walk is told of a slice of bools. -/
def IsBools (w : World) (a : Option Addr) (len cap : Nat) (z : Nat → Bool) : Prop :=
  len ≤ cap ∧ cap ≤ 9223372036854775807 ∧ (len = 0 ∨ ∃ b o, a = some ⟨b, o, none⟩ ∧ b < w.heap.size ∧ ∀ i, i < len → w.cell? ⟨b, o + i, none⟩ = some (.bool (z i)))
/-- What a walk is told of a slice of structs of k ints. -/
def IsRecs (w : World) (k : Nat) (a : Option Addr) (len cap : Nat) (z : Nat → Nat → Int) : Prop :=
  len ≤ cap ∧ cap ≤ 9223372036854775807 ∧ (len = 0 ∨ ∃ b o, a = some ⟨b, o, none⟩ ∧ b < w.heap.size ∧ ∀ i, i < len → ∀ j, j < k → w.cell? ⟨b, o + (i * k + j), none⟩ = some (.int .i64 (z i j)) ∧ (Lit.int .i64 (z i j)).wf = true)

theorem spot_none {w : World} {x : Addr} {v : Value} (h : w.cell? (x.add 0) = some v) : x.spot = none := by
  have := World.cell?_spot h
  simpa [Addr.add] using this

theorem open_isBools {a : Option Addr} {len cap : Nat} {d : DataW H} {p : List MemPlace} (h : DataW.Trod enc Try.prog w base (fun _ => true) held 51 (.slice a len cap) d p) : ∃ z, IsBools w a len cap z := by
  obtain ⟨fuel, hf⟩ := h
  rcases open_bools Try.underlying51 Try.underlying4 (by kernel_rfl) hf with ⟨hcs, _⟩ | ⟨x, l, c, B, hcs, _, hl, hm, _, hcell⟩
  · simp [Value.cells] at hcs
    obtain ⟨rfl, rfl, rfl⟩ := hcs
    exact ⟨fun _ => false, Nat.le_refl _, by omega, .inl rfl⟩
  · simp [Value.cells] at hcs
    obtain ⟨rfl, rfl, rfl⟩ := hcs
    unfold maxLen at hm
    refine ⟨B, hl, by omega, ?_⟩
    rcases Nat.eq_zero_or_pos len with h0 | h0
    · exact .inl h0
    · right
      have h1 := hcell 0 (by omega)
      have hsp := spot_none h1
      have h2 := add_cell h1
      obtain ⟨b, o, sp⟩ := x
      obtain rfl : sp = none := hsp
      exact ⟨b, o, rfl, h2.2, fun i hi => (add_cell (hcell i (by omega))).1⟩

set_option maxRecDepth 100000 in
theorem open_recs {t e k : Nat} {fs : Array Field} (ht : Try.prog.underlying t = some (.slice e)) (he : Try.prog.underlying e = some (.struct fs)) (hk : Try.prog.cellsOf e = k) (h3 : Try.prog.cellsOf 3 = 1)
    (hf : ∀ j, j < k → ∃ f, fs[j]? = some f ∧ f.type = 3 ∧ f.offset = j) (hk0 : 0 < k) {a : Option Addr} {len cap : Nat} {d : DataW H} {p : List MemPlace} (h : DataW.Trod enc Try.prog w base (fun _ => true) held t (.slice a len cap) d p) :
    ∃ z, IsRecs w k a len cap z := by
  obtain ⟨fuel, hx⟩ := h
  rcases open_slice ht hx with ⟨hcs, _⟩ | ⟨x, l, c, m, n, D, Pl, hcs, _, hl, hm, hmm, _, hel⟩
  · simp [Value.cells] at hcs
    obtain ⟨rfl, rfl, rfl⟩ := hcs
    exact ⟨fun _ _ => 0, Nat.le_refl _, by omega, .inl rfl⟩
  · simp [Value.cells] at hcs
    obtain ⟨rfl, rfl, rfl⟩ := hcs
    simp only [if_true] at hmm
    subst hmm
    unfold maxLen at hm
    have each : ∀ i, i < m → ∀ j, j < k → ∃ y, w.cell? (x.add (i * k + j)) = some (.int .i64 y) ∧ (Lit.int .i64 y).wf = true := by
      intro i hi j hj
      obtain ⟨cs', h1, h2⟩ := hel i hi
      rw [hk] at h1
      obtain ⟨_, hlen, hcell⟩ := World.cells?_some h1
      obtain ⟨xs, n', _, _, _, hxl, hg⟩ := DataW.trod_struct he h2
      obtain ⟨f, hfj, hft, hfo⟩ := hf j hj
      have h4 := hg j f hfj
      rw [hfo, hft, h3] at h4
      have hjl : j < cs'.length := by omega
      have h5 : (cs'.drop j).take 1 = [cs'[j]] := by
        rw [List.drop_eq_getElem_cons hjl]; rfl
      rw [h5] at h4
      have hjx : j < xs.length := by
        have := (Array.getElem?_eq_some_iff.1 hfj).1
        omega
      rw [List.getElem?_eq_getElem hjx] at h4
      obtain ⟨y, hy, hw⟩ := trod_i64 h4
      have h6 := hcell j (by omega)
      rw [add_add] at h6
      exact ⟨y, by rw [h6, List.getElem?_eq_getElem hjl, hy], hw⟩
    have hall : ∃ z : Nat → Nat → Int, ∀ i, i < m → ∀ j, j < k → w.cell? (x.add (i * k + j)) = some (.int .i64 (z i j)) ∧ (Lit.int .i64 (z i j)).wf = true := by
      classical
      refine ⟨fun i j => if hi : i < m then (if hj : j < k then Classical.choose (each i hi j hj) else 0) else 0, fun i hi j hj => ?_⟩
      simp only [dif_pos hi, dif_pos hj]
      exact Classical.choose_spec (each i hi j hj)
    obtain ⟨z, hz⟩ := hall
    refine ⟨z, hl, by omega, ?_⟩
    rcases Nat.eq_zero_or_pos len with h0 | h0
    · exact .inl h0
    · right
      have h1 := (hz 0 (by omega) 0 hk0).1
      have h1' : w.cell? (x.add 0) = some (.int .i64 (z 0 0)) := by simpa using h1
      have hsp := spot_none h1'
      have h2 := add_cell h1'
      obtain ⟨b, o, sp⟩ := x
      obtain rfl : sp = none := hsp
      exact ⟨b, o, rfl, h2.2, fun i hi j hj => ⟨(add_cell (hz i (by omega) j hj).1).1, (hz i (by omega) j hj).2⟩⟩
end
end Go.Proofs.Ytefllgpehhlkoaa
