/-
  The ticks of clocks that are there; rows that are kept.
-/
import Derived.Test.YtefllgpehhlkoaaDrift
namespace Go.Proofs.Ytefllgpehhlkoaa
open Go.RowKit

def there (n : Nat) (t : Int) : Bool := decide (0 ≤ t ∧ t < n)
def seen (n : Nat) (l : List Int) : List Int := l.filter (there n)
theorem seen_snoc_yes (n : Nat) (l : List Int) (t : Int) (h : 0 ≤ t ∧ t < n) : seen n (l ++ [t]) = seen n l ++ [t] := by
  simp [seen, there, h]
theorem seen_snoc_no (n : Nat) (l : List Int) (t : Int) (h : ¬ (0 ≤ t ∧ t < n)) : seen n (l ++ [t]) = seen n l := by
  simp only [seen, List.filter_append]; simp [there, h]
theorem seen_le (n : Nat) (l : List Int) : (seen n l).length ≤ l.length := List.length_filter_le _ _
theorem seen_ok (n : Nat) (l : List Int) : okTicks n (seen n l) := by
  intro k hk
  have h : nth (seen n l) k ∈ seen n l := by rw [nth_of hk]; exact List.getElem_mem hk
  have := (List.mem_filter.1 h).2
  simpa [there] using this
theorem play_seen (n : Nat) (l : List Int) : ∀ s : St, s.run n l = s.run n (seen n l) := by
  induction l with
  | nil => intro s; rfl
  | cons t l ih =>
    intro s
    by_cases h : 0 ≤ t ∧ t < n
    · have e : seen n (t :: l) = t :: seen n l := by simp [seen, there, h]
      rw [e]; simp only [St.run, List.foldl_cons] at ih ⊢; exact ih _
    · have e : seen n (t :: l) = seen n l := by simp only [seen]; rw [List.filter_cons_of_neg (by simpa [there] using h)]
      rw [e]
      have : St.tick n s t = s := by rw [St.tick, if_neg h]
      simp only [St.run, List.foldl_cons] at ih ⊢; rw [this]; exact ih _
theorem now_is (n : Nat) (l : List Int) (i : Nat) : (St.play n l).N i = cnt (seen n l) i := by
  unfold St.play; rw [play_seen]; exact count_is n _ (seen_ok n l) i
theorem drift_seen (n : Nat) (l : List Int) (i : Nat) : (St.play n l).drift i = rout i (seen n l) (seen n l).length := by
  unfold St.play; rw [play_seen]; exact drift_is n _ (seen_ok n l) i
theorem drift_none0 (n : Nat) (l : List Int) : (St.play n l).drift 0 = 0 := by
  unfold St.play; rw [play_seen]; exact drift_zero n _ (seen_ok n l)

theorem Own.keptOnly {w w' : World} {base lo hi : Nat} {v : Value} {l : List Int} (h : Own w base v l) (o : Only lo hi w w') (hb : hi ≤ base) : Own w' base v l := by
  have hlt := World.ownsRow.lt h
  obtain ⟨h1, h2 | ⟨g, cap, cur, hv, hg, hh, r⟩⟩ := h
  · exact ⟨h1, .inl h2⟩
  · refine ⟨h1, .inr ⟨g, cap, cur, hv, hg, ?_, r⟩⟩
    rw [o.block g (hlt g (by rw [hv]; rfl)).2 (by omega)]
    exact hh
theorem Own.drew {w : World} {base : Nat} {v : Value} {l : List Int} (h : Own w base v l) : Own w.drew base v l := h
theorem Clk.full {w : World} {lo p n : Nat} {s : St} (h : Clk w lo (lo + 4) p n s) : lo + 4 ≤ w.heap.size := by
  obtain ⟨a, b, c, h⟩ := h
  have := h.sp; have := h.sa; have := h.sb; have := h.sc
  have := h.pa; have := h.pb; have := h.pc; have := h.ab; have := h.ac; have := h.bc
  omega
/-- a new cell, the source of an append -/
theorem one_new (w : World) (t : Int) : Sl (w.alloc (.cells #[.int .i64 t] 3)) (w.heap.size + 1) (some ⟨w.heap.size, 0, none⟩) 1 [t] :=
  ⟨by simp, fun h => by simp at h, .inr ⟨_, _, rfl, by omega, fun i hi => by
    obtain rfl : i = 0 := by simpa using hi
    simp [nth]⟩⟩
end Go.Proofs.Ytefllgpehhlkoaa
