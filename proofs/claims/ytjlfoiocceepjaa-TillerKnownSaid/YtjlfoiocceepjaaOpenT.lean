/-
  What an argument is: a slice of rows of whole numbers; a slice of texts.
-/
import Derived.Test.YtjlfoiocceepjaaOpenP
namespace Go.Proofs.Ytjlfoiocceepjaa
open Go.ChangeShapes Go.WideShapes Go.ChangeAt Go.RowKit Go.Joins Go.Deep Go.Proofs.YtjlfoiocceepjaaW.PrintWords Go.Proofs.YtjlfoiocceepjaaW.PrintLast Go.Proofs.YtjlfoiocceepjaaW.PrintMore
set_option linter.unusedVariables false
set_option linter.unusedSimpArgs false

def IsRows (w : World) (a : Option Addr) (len : Nat) : Prop := len = 0 ∨ ∃ b o, a = some ⟨b, o, none⟩ ∧ b < w.heap.size ∧ ∀ i, i < len → ∃ (A : Option Addr) (c : Nat) (l : List Int), w.cell? ⟨b, o + i, none⟩ = some (.slice A l.length c) ∧ l.length ≤ c ∧ c ≤ 9223372036854775807 ∧ KI.C w A l.length l ∧ ∀ n ∈ l, (Lit.int .i64 n).wf = true
def IsTexts (w : World) (a : Option Addr) (len : Nat) : Prop := len = 0 ∨ ∃ b o, a = some ⟨b, o, none⟩ ∧ b < w.heap.size ∧ ∀ i, i < len → ∃ s : ByteArray, w.cell? ⟨b, o + i, none⟩ = some (.string s)
section
variable {H : Type} {enc : TypeId × Value → H} {w : World} {base : Nat} {held : Bool}
theorem len1 {α : Type} {l : List α} (h : l.length = 1) : ∃ c, l = [c] := by
  match l, h with
  | [c], _ => exact ⟨c, rfl⟩
theorem open_rows {t e a0 : TypeId} (ht : Try.prog.underlying t = some (.slice e)) (he : Try.prog.underlying e = some (.slice a0)) (ha : Try.prog.underlying a0 = some (.int .i64)) (hc0 : Try.prog.cellsOf a0 = 1) (hce : Try.prog.cellsOf e = 1)
    {a : Option Addr} {len cap : Nat} {d : DataW H} {p : List MemPlace} (h : DataW.Trod enc Try.prog w base (fun _ => true) held t (.slice a len cap) d p) : IsRows w a len ∧ len ≤ 9223372036854775807 := by
  obtain ⟨fuel, hx⟩ := h
  rcases open_slice ht hx with ⟨hcs, _⟩ | ⟨x, l, c, m, n, D, Pl, hcs, _, hl, hm, hmm, _, hel⟩
  · simp [Value.cells] at hcs
    obtain ⟨rfl, rfl, rfl⟩ := hcs
    exact ⟨.inl rfl, by omega⟩
  · simp [Value.cells] at hcs
    obtain ⟨rfl, rfl, rfl⟩ := hcs
    simp only [if_true] at hmm
    subst hmm
    unfold maxLen at hm
    refine ⟨?_, by omega⟩
    have each : ∀ i, i < m → ∃ (A : Option Addr) (c : Nat) (l : List Int), w.cell? (x.add i) = some (.slice A l.length c) ∧ l.length ≤ c ∧ c ≤ 9223372036854775807 ∧ KI.C w A l.length l ∧ ∀ n ∈ l, (Lit.int .i64 n).wf = true := by
      intro i hi
      obtain ⟨cs', h1, h2⟩ := hel i hi
      rw [hce] at h1
      obtain ⟨_, hlen, hcell⟩ := World.cells?_some h1
      obtain ⟨c0, rfl⟩ := len1 hlen
      obtain ⟨A, cap, l, rfl, h3, h4, h5, h6⟩ := open_C he ha hc0 h2
      have h7 := hcell 0 (by omega)
      rw [Go.Deep.add_add] at h7
      exact ⟨A, cap, l, by simpa using h7, h3, h4, h5, h6⟩
    rcases Nat.eq_zero_or_pos len with h0 | h0
    · exact .inl h0
    · right
      obtain ⟨A, c, l, h1, _⟩ := each 0 (by omega)
      have hsp := spot_none h1
      have h2 := add_cell h1
      obtain ⟨b, o, sp⟩ := x
      obtain rfl : sp = none := hsp
      refine ⟨b, o, rfl, h2.2, fun i hi => ?_⟩
      obtain ⟨A, c, l, h1, h3⟩ := each i (by omega)
      exact ⟨A, c, l, (add_cell h1).1, h3⟩
theorem open_texts {t e : TypeId} (ht : Try.prog.underlying t = some (.slice e)) (he : Try.prog.underlying e = some .string) (hce : Try.prog.cellsOf e = 1)
    {a : Option Addr} {len cap : Nat} {d : DataW H} {p : List MemPlace} (h : DataW.Trod enc Try.prog w base (fun _ => true) held t (.slice a len cap) d p) : IsTexts w a len ∧ len ≤ 9223372036854775807 := by
  obtain ⟨fuel, hx⟩ := h
  rcases open_slice ht hx with ⟨hcs, _⟩ | ⟨x, l, c, m, n, D, Pl, hcs, _, hl, hm, hmm, _, hel⟩
  · simp [Value.cells] at hcs
    obtain ⟨rfl, rfl, rfl⟩ := hcs
    exact ⟨.inl rfl, by omega⟩
  · simp [Value.cells] at hcs
    obtain ⟨rfl, rfl, rfl⟩ := hcs
    simp only [if_true] at hmm
    subst hmm
    unfold maxLen at hm
    refine ⟨?_, by omega⟩
    have each : ∀ i, i < m → ∃ s : ByteArray, w.cell? (x.add i) = some (.string s) := by
      intro i hi
      obtain ⟨cs', h1, h2⟩ := hel i hi
      rw [hce] at h1
      obtain ⟨_, hlen, hcell⟩ := World.cells?_some h1
      obtain ⟨c0, rfl⟩ := len1 hlen
      obtain ⟨s, hs, _⟩ := DataW.trod_string he h2
      obtain rfl : c0 = .string s := by injection hs
      have h7 := hcell 0 (by omega)
      rw [Go.Deep.add_add] at h7
      exact ⟨s, by simpa using h7⟩
    rcases Nat.eq_zero_or_pos len with h0 | h0
    · exact .inl h0
    · right
      obtain ⟨s, h1⟩ := each 0 (by omega)
      have hsp := spot_none h1
      have h2 := add_cell h1
      obtain ⟨b, o, sp⟩ := x
      obtain rfl : sp = none := hsp
      refine ⟨b, o, rfl, h2.2, fun i hi => ?_⟩
      obtain ⟨s, h1⟩ := each i (by omega)
      exact ⟨s, (add_cell h1).1⟩
end
end Go.Proofs.Ytjlfoiocceepjaa
