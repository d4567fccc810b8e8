/-
  A slice of ints that came in, in the walks' words.
-/
import Derived.Test.YtefllgpehhlkoaaRow
namespace Go.Proofs.Ytefllgpehhlkoaa
open Go.RowKit

/-- What the walk is told of a slice of integers that came in: it is nil; or it leads to a row of 'cap' cells, the numbers 'zs'. -/
def IsRow (k : IntKind) (w : World) (a : Option Addr) (len cap : Nat) (zs : List Int) : Prop :=
  (a = none ∧ len = 0 ∧ cap = 0 ∧ zs = []) ∨
  ∃ x, a = some x ∧ len ≤ cap ∧ cap ≤ maxLen ∧ zs.length = cap ∧ (∀ i, i < zs.length → w.cell? (x.add i) = some (.int k (zs.getD i 0))) ∧ ∀ n ∈ zs, (Lit.int k n).wf = true

theorem IsRow.sl {w : World} {a : Option Addr} {len cap : Nat} {zs : List Int} (h : IsRow .i64 w a len cap zs) : ∃ l : List Int, l.length = len ∧ Sl w w.heap.size a cap l ∧ cap ≤ 9223372036854775807 ∧ ∀ n ∈ l, (Lit.int .i64 n).wf = true := by
  rcases h with ⟨rfl, rfl, rfl, rfl⟩ | ⟨x, rfl, hl, hm, hz, hc, hw⟩
  · exact ⟨[], rfl, ⟨by simp, fun _ => rfl, .inl rfl⟩, by omega, fun n hn => by cases hn⟩
  · unfold maxLen at hm
    refine ⟨zs.take len, by simp; omega, ⟨by simp; omega, fun h => by simp at h, ?_⟩, by omega, fun n hn => hw n (List.mem_of_mem_take hn)⟩
    by_cases h0 : len = 0
    · left; subst h0; simp
    · right
      obtain ⟨b, o, sp⟩ := x
      have h1 := hc 0 (by omega)
      have hsp : sp = none := by simpa [Addr.add] using World.cell?_spot h1
      subst hsp
      refine ⟨b, o, rfl, ?_, fun i hi => ?_⟩
      · have := World.block_lt_of_cell? w _ h1
        simpa [Addr.add] using this
      · have hi' : i < len := by simp at hi; omega
        have := hc i (by omega)
        rw [nth_take hi']
        by_cases hi0 : i = 0
        · subst hi0; simpa [Addr.add, nth] using this
        · simpa [Addr.add, hi0, nth] using this
end Go.Proofs.Ytefllgpehhlkoaa
