/-
  Rows of structs of ints that the call itself makes: append of one, what an element's cells hold.
-/
import Derived.Test.YtefllgpehhlkoaaRow
namespace Go.Proofs.Ytefllgpehhlkoaa
open Go.RowKit

/-- how a struct of k ints lies in a row -/
structure Lay (α : Type) where
  t : TypeId
  e : TypeId
  k : Nat
  bytes : Nat
  zero : Value
  enc : α → List Int
  pos : 0 < k
  len : ∀ a, (enc a).length = k
  ht : Try.prog.underlying t = some (.slice e)
  hi : (Try.prog.info? e).map (fun i => (i.zero, i.size, i.bytes)) = some (some zero, k, bytes)
  hz : zero.cells.size = k
  hb : bytes ≤ 64

variable {α : Type}
/-- the values of the cells of a row -/
def Lay.vals (L : Lay α) (l : List α) : List Value := (l.flatMap L.enc).map (Value.int .i64)
theorem Lay.vals_len (L : Lay α) (l : List α) : (L.vals l).length = l.length * L.k := by
  unfold Lay.vals
  rw [List.length_map]
  induction l with
  | nil => simp
  | cons a r ih => rw [List.flatMap_cons, List.length_append, ih, L.len, List.length_cons, Nat.succ_mul]; omega
theorem Lay.vals_app (L : Lay α) (l : List α) (x : α) : L.vals (l ++ [x]) = L.vals l ++ (L.enc x).map (Value.int .i64) := by simp [Lay.vals]
theorem Lay.vals_get (L : Lay α) : ∀ (l : List α) (i j : Nat) (x : α), l[i]? = some x → j < L.k → (L.vals l)[i * L.k + j]? = some (.int .i64 ((L.enc x).getD j 0))
  | [], i, j, x, h, _ => by cases h
  | a :: r, 0, j, x, h, hj => by
    simp at h
    subst h
    unfold Lay.vals
    rw [List.flatMap_cons, List.map_append, List.getElem?_append_left (by rw [List.length_map, L.len]; omega), List.getElem?_map, Nat.zero_mul, Nat.zero_add]
    rw [List.getElem?_eq_getElem (by rw [L.len]; exact hj)]
    simp [List.getElem?_eq_getElem (show j < (L.enc a).length by rw [L.len]; exact hj)]
  | a :: r, i + 1, j, x, h, hj => by
    have ih := Lay.vals_get L r i j x (by simpa using h) hj
    unfold Lay.vals at ih ⊢
    rw [List.flatMap_cons, List.map_append, List.getElem?_append_right (by rw [List.length_map, L.len, Nat.succ_mul]; omega), List.length_map, L.len]
    have e : (i + 1) * L.k + j - L.k = i * L.k + j := by rw [Nat.succ_mul]; omega
    rw [e]
    exact ih

/-- The call's own row: v (from block base on) holds l. -/
def OwnS (L : Lay α) (w : World) (base : Nat) (v : Value) (l : List α) : Prop := w.ownsRow base L.e L.k v l.length (L.vals l)
theorem OwnS.nil (L : Lay α) (w : World) (base : Nat) : OwnS L w base (.slice none 0 0) [] := by
  have := World.ownsRow_nil w base L.e L.k
  simpa [OwnS, Lay.vals] using this
theorem OwnS.fits {L : Lay α} {w : World} {base : Nat} {v : Value} {l : List α} (h : OwnS L w base v l) : ∃ a cap, v = .slice a l.length cap ∧ l.length ≤ cap ∧ cap ≤ 9223372036854775807 := by
  obtain ⟨_, h | ⟨g, cap, cur, rfl, hg, hh, hn, hm, hs, ht⟩⟩ := h
  · obtain ⟨rfl, h0⟩ := h
    exact ⟨none, 0, by rw [h0], by omega, by omega⟩
  · unfold maxLen at hm
    exact ⟨_, cap, rfl, hn, by omega⟩
theorem OwnS.addr {L : Lay α} {w : World} {base : Nat} {a : Option Addr} {n cap : Nat} {l : List α} (h : OwnS L w base (.slice a n cap) l) {i : Nat} {x : α} (hx : l[i]? = some x) :
    ∃ g, a = some ⟨g, 0, none⟩ ∧ base ≤ g ∧ g < w.heap.size ∧ ∀ j, j < L.k → w.cell? ⟨g, i * L.k + j, none⟩ = some (.int .i64 ((L.enc x).getD j 0)) := by
  have hlt := World.ownsRow.lt h
  have hcells := @World.ownsRow.cells _ _ _ _ _ _ _ h
  have hil : i < l.length := (List.getElem?_eq_some_iff.1 hx).1
  obtain ⟨_, h | ⟨g, cap', cur, hv, hg, hh, hn, hm, hs, ht⟩⟩ := h
  · omega
  · cases hv
    refine ⟨g, rfl, hg, (hlt g rfl).2, fun j hj => ?_⟩
    have := hcells (g := g) rfl _ _ (L.vals_get l i j x hx hj)
    by_cases h0 : i * L.k + j = 0
    · rw [h0] at this ⊢
      simpa [Addr.add] using this
    · have e : (⟨g, 0, none⟩ : Addr).add (i * L.k + j) = ⟨g, i * L.k + j, none⟩ := by
        unfold Addr.add
        rw [if_neg h0, Nat.zero_add]
      rw [e] at this
      exact this

/-- 'append(x, y)' of one struct, at the operation. -/
theorem wpList_append_one (L : Lay α) (w : World) {ops : Array Oper} {rest : List Oper} {o : Oper} {a : Act} {Q : Exit → Act → World → Prop} (hgd : o.guard = none) (s x : Operand)
    (ho : o.op = .call { callee := .builtin .append, args := #[s, x], argTypes := #[L.t, L.t] }) (base : Nat) (v : Value) (xs : List α) (y : α) (hs : a.eval s = v) (hown : OwnS L w base v xs)
    (g : Nat) (hx : a.eval x = .slice (some ⟨g, 0, none⟩) 1 1) (hc : ∀ j, j < L.k → w.cell? ⟨g, j, none⟩ = some (.int .i64 ((L.enc y).getD j 0))) (h63 : xs.length ≤ 100000) (hbase : base ≤ w.heap.size)
    (h : ∀ v' w', OwnS L w' base v' (xs ++ [y]) → w.grownBy w' v.ownBlock → wpList Try.prog ops Q rest (a.put o.dst v') w') : wpList Try.prog ops Q (o :: rest) a w := by
  obtain ⟨i0, hi, hz0, hz1, hz2⟩ := info_parts L.hi
  have hb := L.hb
  refine wpList_append_own w hgd s x L.t ho base L.e i0 L.zero L.k L.bytes L.ht hi hz0 hz1 hz2 L.hz L.pos v _ _ hs hown ⟨g, 0, none⟩ 1 1 ((L.enc y).map (Value.int .i64)) hx (by rw [List.length_map, L.len, Nat.one_mul]) ?_ ?_ (by unfold maxLen; omega) ?_ hbase ?_
  · intro j u hj
    rw [List.getElem?_map] at hj
    obtain ⟨z, hz, rfl⟩ := Option.map_eq_some_iff.1 hj
    have hlt : j < (L.enc y).length := (List.getElem?_eq_some_iff.1 hz).1
    rw [L.len] at hlt
    have hcj := hc j hlt
    have e : (L.enc y).getD j 0 = z := by simp [hz]
    rw [e] at hcj
    by_cases hj0 : j = 0
    · subst hj0; simpa [Addr.add] using hcj
    · simpa [Addr.add, hj0] using hcj
  · intro u hu
    obtain ⟨_, _, rfl⟩ := List.mem_map.1 hu
    rfl
  · calc (xs.length + 1) * L.bytes ≤ 100001 * 64 := Nat.mul_le_mul (by omega) hb
      _ ≤ 140737488355328 := by decide
  · intro v' w' h1 h2 _
    refine h v' w' ?_ h2
    unfold OwnS
    rw [List.length_append, L.vals_app]
    exact h1
end Go.Proofs.Ytefllgpehhlkoaa
