/-
  Rows of whole numbers in memory: what a slice of ints holds.
-/
import Derived.Test.YtefllgpehhlkoaaOnly
import Derived.OwnWalk
import Derived.Laws.AppendOwnNone
import Derived.Laws.OwnMore
namespace Go.Proofs.Ytefllgpehhlkoaa
open Go.RowKit

def nth (l : List Int) (i : Nat) : Int := l.getD i 0
theorem nth_of {l : List Int} {i : Nat} (h : i < l.length) : nth l i = l[i] := by simp [nth, h]
theorem take_nth {l : List Int} {i : Nat} (h : i < l.length) : l.take (i + 1) = l.take i ++ [nth l i] := by
  rw [nth_of h, List.take_succ_eq_append_getElem h]
theorem nth_take {l : List Int} {i m : Nat} (h : i < m) : nth (l.take m) i = nth l i := by
  simp [nth, h]
theorem nth_drop {l : List Int} {i m : Nat} : nth (l.drop m) i = nth l (m + i) := by
  simp [nth]

/-- The slice's address a and length hold the numbers l (all in blocks below top). -/
def RowAt (w : World) (top : Nat) (a : Option Addr) (l : List Int) : Prop :=
  l = [] ∨ ∃ b o, a = some ⟨b, o, none⟩ ∧ b < top ∧ ∀ i, i < l.length → w.cell? ⟨b, o + i, none⟩ = some (.int .i64 (nth l i))

theorem RowAt.kept {w w' : World} {top lo hi : Nat} {a : Option Addr} {l : List Int} (h : RowAt w top a l) (o : Only lo hi w w') (ht : top ≤ w.heap.size) (hl : top ≤ lo) : RowAt w' top a l := by
  rcases h with h | ⟨b, of, e, hb, hc⟩
  · exact .inl h
  · exact .inr ⟨b, of, e, hb, fun i hi => by rw [o.cell (by show b < _; omega) (by simp only; omega)]; exact hc i hi⟩
theorem RowAt.mono {w : World} {top top' : Nat} {a : Option Addr} {l : List Int} (h : RowAt w top a l) (ht : top ≤ top') : RowAt w top' a l := by
  rcases h with h | ⟨b, of, e, hb, hc⟩
  · exact .inl h
  · exact .inr ⟨b, of, e, by omega, hc⟩
theorem RowAt.take {w : World} {top : Nat} {a : Option Addr} {l : List Int} (h : RowAt w top a l) (m : Nat) : RowAt w top a (l.take m) := by
  rcases h with h | ⟨b, of, e, hb, hc⟩
  · exact .inl (by simp [h])
  · exact .inr ⟨b, of, e, hb, fun i hi => by
      have h1 : i < m := by simp at hi; omega
      rw [nth_take h1]; exact hc i (by simp at hi; omega)⟩

theorem info3 : (Try.prog.info? 3).map (fun i => (i.zero, i.size, i.bytes)) = some (some (.int .i64 0), 1, 8) := by kernel_rfl
theorem build0 (w : World) : (Instr.buildSlice 22 0 #[]).run Try.prog w = .ok (.slice (some ⟨w.heap.size, 0, none⟩) 0 0) (w.alloc (.cells #[] 3)) := by kernel_rfl

/-- The call's own row of ints: v (from block base on) holds l. -/
def Own (w : World) (base : Nat) (v : Value) (l : List Int) : Prop := w.ownsRow base 3 1 v l.length (l.map (Value.int .i64))
/-- A slice value with address a, capacity cap, its elements l. -/
structure Sl (w : World) (top : Nat) (a : Option Addr) (cap : Nat) (l : List Int) : Prop where
  le : l.length ≤ cap
  nil : a = none → cap = 0
  row : RowAt w top a l
theorem Sl.kept {w w' : World} {top lo hi cap : Nat} {a : Option Addr} {l : List Int} (h : Sl w top a cap l) (o : Only lo hi w w') (ht : top ≤ w.heap.size) (hl : top ≤ lo) : Sl w' top a cap l := ⟨h.le, h.nil, h.row.kept o ht hl⟩
theorem Sl.take {w : World} {top cap : Nat} {a : Option Addr} {l : List Int} (h : Sl w top a cap l) (m : Nat) : Sl w top a cap (l.take m) :=
  ⟨by have := h.le; simp; omega, h.nil, h.row.take m⟩
theorem Sl.mono {w : World} {top top' cap : Nat} {a : Option Addr} {l : List Int} (h : Sl w top a cap l) (ht : top ≤ top') : Sl w top' a cap l := ⟨h.le, h.nil, h.row.mono ht⟩
theorem Own.row {w : World} {base : Nat} {v : Value} {l : List Int} (h : Own w base v l) : ∃ a cap, v = .slice a l.length cap ∧ Sl w w.heap.size a cap l := by
  have hlt := World.ownsRow.lt h
  have hcells := @World.ownsRow.cells _ _ _ _ _ _ _ h
  obtain ⟨_, h | ⟨g, cap, cur, rfl, hg, hh, hn, hm, hs, ht⟩⟩ := h
  · obtain ⟨rfl, h0⟩ := h
    exact ⟨none, 0, by rw [h0], by omega, fun _ => rfl, .inl (List.eq_nil_of_length_eq_zero h0)⟩
  · refine ⟨_, _, rfl, hn, fun h => by simp at h, .inr ⟨g, 0, rfl, (hlt g rfl).2, fun i hi => ?_⟩⟩
    have := hcells (g := g) rfl i (.int .i64 (nth l i)) (by simp [nth, hi])
    rw [Nat.zero_add]
    by_cases hi0 : i = 0
    · subst hi0; simpa [Addr.add] using this
    · simpa [Addr.add, hi0] using this
theorem Own.empty (w : World) (base : Nat) (hb : base ≤ w.heap.size) : Own (w.alloc (.cells #[] 3)) base (.slice (some ⟨w.heap.size, 0, none⟩) 0 0) [] := by
  have := World.ownsRow_lit (base := base) (e := 3) (size := 1) w #[] 0 hb (by unfold maxLen; omega) rfl
  simpa [Own] using this

/-- 'append(x, y...)' of ints, at the operation. -/
theorem wpList_append_ints (w : World) {ops : Array Oper} {rest : List Oper} {o : Oper} {a : Act} {Q : Exit → Act → World → Prop} (hgd : o.guard = none) (s x : Operand)
    (ho : o.op = .call { callee := .builtin .append, args := #[s, x], argTypes := #[22, 22] }) (base : Nat) (v : Value) (xs ys : List Int) (hs : a.eval s = v) (hown : Own w base v xs)
    (ad : Option Addr) (c top : Nat) (hx : a.eval x = .slice ad ys.length c) (hsl : Sl w top ad c ys) (h63 : xs.length + ys.length ≤ 1000000) (hbase : base ≤ w.heap.size)
    (h : ∀ v' w', Own w' base v' (xs ++ ys) → w.grownBy w' v.ownBlock → wpList Try.prog ops Q rest (a.put o.dst v') w') : wpList Try.prog ops Q (o :: rest) a w := by
  obtain ⟨i0, hi, hz0, hz1, hz2⟩ := info_parts info3
  obtain ⟨_, hnil, hrow⟩ := hsl
  have hfin : ∀ v' w', w'.ownsRow base 3 1 v' (xs.length + ys.length) (xs.map (Value.int .i64) ++ ys.map (Value.int .i64)) → Own w' base v' (xs ++ ys) := by
    intro v' w' h1
    unfold Own
    rw [List.length_append, List.map_append]
    exact h1
  rcases hrow with rfl | ⟨b, of, rfl, _, hc⟩
  · cases ad with
    | none =>
      obtain rfl := hnil rfl
      refine wpList_append_own_none hgd s x 22 ho base 3 i0 1 Try.underlying22 hi v _ _ hs hown hx ?_
      exact h v w (by simpa [Own] using hown) ⟨rfl, rfl, rfl, Nat.le_refl _, fun _ _ _ => rfl⟩
    | some ad =>
      refine wpList_append_own w hgd s x 22 ho base 3 i0 (.int .i64 0) 1 8 Try.underlying22 hi hz0 hz1 hz2 rfl (by decide) v _ _ hs hown ad 0 c [] hx rfl (fun j u hj => by simp at hj) (fun u hu => by cases hu) (by unfold maxLen; omega) (by omega) hbase ?_
      intro v' w' h1 h2 _
      exact h v' w' (by simpa [Own] using h1) h2
  · refine wpList_append_own w hgd s x 22 ho base 3 i0 (.int .i64 0) 1 8 Try.underlying22 hi hz0 hz1 hz2 rfl (by decide) v _ _ hs hown ⟨b, of, none⟩ ys.length c (ys.map (Value.int .i64)) hx (by simp) ?_ ?_ (by unfold maxLen; omega) (by omega) hbase ?_
    · intro j u hj
      rw [List.getElem?_map] at hj
      obtain ⟨z, hz, rfl⟩ := Option.map_eq_some_iff.1 hj
      have hlt : j < ys.length := (List.getElem?_eq_some_iff.1 hz).1
      have := hc j hlt
      rw [nth_of hlt] at this
      have e : ys[j] = z := (List.getElem?_eq_some_iff.1 hz).2
      rw [e] at this
      by_cases hj0 : j = 0
      · subst hj0; simpa [Addr.add] using this
      · simpa [Addr.add, hj0] using this
    · intro u hu
      obtain ⟨_, _, rfl⟩ := List.mem_map.1 hu
      rfl
    · intro v' w' h1 h2 _
      exact h v' w' (hfin v' w' h1) h2
end Go.Proofs.Ytefllgpehhlkoaa
