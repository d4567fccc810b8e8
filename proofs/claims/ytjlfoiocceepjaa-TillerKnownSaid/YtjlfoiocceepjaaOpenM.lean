/-
  What an argument is: a message.
-/
import Derived.Test.YtjlfoiocceepjaaOpenK
import Derived.Test.YtjlfoiocceepjaaMsg
import Derived.ChangeArms
namespace Go.Proofs.Ytjlfoiocceepjaa
open Go.ChangeShapes Go.WideShapes Go.ChangeAt Go.RowKit Go.Joins Go.Proofs.YtjlfoiocceepjaaW.PrintWords Go.Proofs.YtjlfoiocceepjaaW.PrintLast Go.Proofs.YtjlfoiocceepjaaW.PrintMore
set_option linter.unusedVariables false
set_option linter.unusedSimpArgs false

theorem list12 {α : Type} {l : List α} (h : l.length = 12) : ∃ c0 c1 c2 c3 c4 c5 c6 c7 c8 c9 c10 c11, l = [c0, c1, c2, c3, c4, c5, c6, c7, c8, c9, c10, c11] := by
  match l, h with
  | [c0, c1, c2, c3, c4, c5, c6, c7, c8, c9, c10, c11], _ => exact ⟨c0, c1, c2, c3, c4, c5, c6, c7, c8, c9, c10, c11, rfl⟩
def numF (a0 a1 a2 a3 a4 a5 a6 a7 a8 a9 : Int) : Nat → Int := fun j => [a0, a1, a2, a3, a4, a5, a6, a7, a8, a9].getD j 0
section
variable {H : Type} {enc : TypeId × Value → H} {w : World} {base : Nat} {held : Bool}
theorem open_int_cell {fuel : Nat} {c : Value} {y : DataW H × List MemPlace} (h : DataW.trod enc Try.prog w base (fun _ => true) held fuel 3 [c] = some y) : ∃ n : Int, c = .int .i64 n := by
  obtain ⟨n, e, _⟩ := DataW.trod_int Try.underlying3 h
  exact ⟨n, by injection e⟩
theorem open_string_cell {fuel : Nat} {c : Value} {y : DataW H × List MemPlace} (h : DataW.trod enc Try.prog w base (fun _ => true) held fuel 9 [c] = some y) : ∃ s : ByteArray, c = .string s := by
  obtain ⟨s, e, _⟩ := DataW.trod_string Try.underlying9 h
  exact ⟨s, by injection e⟩
theorem cells_int : Try.prog.cellsOf 3 = 1 := by kernel_rfl
theorem cells_string : Try.prog.cellsOf 9 = 1 := by kernel_rfl
theorem cells_ints : Try.prog.cellsOf 24 = 1 := by kernel_rfl
theorem cells_msg : Try.prog.cellsOf 51 = 12 := by kernel_rfl
theorem open_msg_cells {fuel : Nat} {cs : List Value} {x : DataW H × List MemPlace} (h : DataW.trod enc Try.prog w base (fun _ => true) held fuel 51 cs = some x) :
    ∃ (n : Nat → Int) (A : Option Addr) (c : Nat) (l : List Int) (s : ByteArray), cs = (msgC n (.slice A l.length c) s).toList ∧ l.length ≤ c ∧ c ≤ 9223372036854775807 ∧ KI.C w A l.length l := by
  obtain ⟨xs, m, _, _, hl, hlen, hf⟩ := DataW.trod_struct Try.underlying51 h
  rw [cells_msg] at hl
  obtain ⟨c0, c1, c2, c3, c4, c5, c6, c7, c8, c9, c10, c11, rfl⟩ := list12 hl
  have hx : ∀ i, i < 12 → ∃ y, xs[i]? = some y := fun i hi => ⟨_, List.getElem?_eq_getElem (by rw [hlen]; exact hi)⟩
  have hI : ∀ (i : Nat) (f : Field) (c : Value), i < 12 → (DataW.trod enc Try.prog w base (fun _ => true) held m f.type (([c0, c1, c2, c3, c4, c5, c6, c7, c8, c9, c10, c11].drop f.offset).take (Try.prog.cellsOf f.type)) = xs[i]?) → f.type = 3 → ([c0, c1, c2, c3, c4, c5, c6, c7, c8, c9, c10, c11].drop f.offset).take 1 = [c] → ∃ n : Int, c = .int .i64 n := fun i f c hi h1 h2 h3 => by
    obtain ⟨y, hy⟩ := hx i hi
    rw [h2, cells_int, h3, hy] at h1
    exact open_int_cell h1
  obtain ⟨a0, rfl⟩ := hI 0 _ c0 (by omega) (hf 0 _ rfl) rfl rfl
  obtain ⟨a1, rfl⟩ := hI 1 _ c1 (by omega) (hf 1 _ rfl) rfl rfl
  obtain ⟨a2, rfl⟩ := hI 2 _ c2 (by omega) (hf 2 _ rfl) rfl rfl
  obtain ⟨a3, rfl⟩ := hI 3 _ c3 (by omega) (hf 3 _ rfl) rfl rfl
  obtain ⟨a4, rfl⟩ := hI 4 _ c4 (by omega) (hf 4 _ rfl) rfl rfl
  obtain ⟨a5, rfl⟩ := hI 5 _ c5 (by omega) (hf 5 _ rfl) rfl rfl
  obtain ⟨a6, rfl⟩ := hI 6 _ c6 (by omega) (hf 6 _ rfl) rfl rfl
  obtain ⟨a7, rfl⟩ := hI 7 _ c7 (by omega) (hf 7 _ rfl) rfl rfl
  obtain ⟨a8, rfl⟩ := hI 8 _ c8 (by omega) (hf 8 _ rfl) rfl rfl
  obtain ⟨a9, rfl⟩ := hI 9 _ c9 (by omega) (hf 9 _ rfl) rfl rfl
  have hG : ∀ (i : Nat) (f : Field) (c : Value) (T : TypeId) (L : List Value), i < 12 → (DataW.trod enc Try.prog w base (fun _ => true) held m f.type ((L.drop f.offset).take (Try.prog.cellsOf f.type)) = xs[i]?) → f.type = T → Try.prog.cellsOf T = 1 → (L.drop f.offset).take 1 = [c] → ∃ y, DataW.trod enc Try.prog w base (fun _ => true) held m T [c] = some y := fun i f c T L hi h1 h2 h4 h3 => by
    obtain ⟨y, hy⟩ := hx i hi
    rw [h2, h4, h3, hy] at h1
    exact ⟨y, h1⟩
  obtain ⟨y11, h11⟩ := hG 11 _ c11 9 _ (by omega) (hf 11 _ rfl) rfl cells_string rfl
  obtain ⟨y10, h10⟩ := hG 10 _ c10 24 _ (by omega) (hf 10 _ rfl) rfl cells_ints rfl
  obtain ⟨s, rfl⟩ := open_string_cell h11
  obtain ⟨A, c, l, rfl, h1, h2, h3, _⟩ := open_C (v := c10) Try.underlying24 Try.underlying3 (by kernel_rfl) h10
  exact ⟨numF a0 a1 a2 a3 a4 a5 a6 a7 a8 a9, A, c, l, s, rfl, h1, h2, h3⟩
set_option maxRecDepth 100000 in
theorem open_msg {v : Value} {d : DataW H} {p : List MemPlace} {r : Reach} {b0 : Nat} (hv : Value.okWide Try.prog w r b0 51 v) (h : DataW.Trod enc Try.prog w base (fun _ => true) held 51 v d p) :
    ∃ (n : Nat → Int) (A : Option Addr) (c : Nat) (l : List Int) (s : ByteArray), v = .agg (msgC n (.slice A l.length c) s) ∧ l.length ≤ c ∧ c ≤ 9223372036854775807 ∧ KI.C w A l.length l := by
  obtain ⟨cs, rfl, _⟩ := okWide_struct Try.underlying51 hv
  obtain ⟨fuel, hf⟩ := h
  have e1 : (Value.agg cs).cells.toList = cs.toList := by simp [Value.cells]
  rw [e1] at hf
  obtain ⟨n, A, c, l, s, h1, h2⟩ := open_msg_cells hf
  have e2 : cs = msgC n (.slice A l.length c) s := Array.toList_inj.1 h1
  exact ⟨n, A, c, l, s, congrArg Value.agg e2, h2⟩
end
end Go.Proofs.Ytjlfoiocceepjaa
