/-
  Plain: sums of texts of one length are added by xor; rows of bytes in the memory.
-/
import Derived.Test.YtjlfoiocceepjaaDoorBurstP
namespace Go.Proofs.YtjlfoiocceepjaaDoor
open Go.RowKit
set_option linter.unusedVariables false
set_option linter.unusedSimpArgs false

/-- block g holds these bytes -/
def Yrow (w : World) (g : Nat) (l : List UInt8) : Prop := ∃ cs : Array Value, ∃ lo hi : Nat, w.heap[g]? = some (.cells cs 5 (lo, hi)) ∧ (l.length ≤ lo ∨ hi = 0) ∧ ∀ j, j < l.length → cs[j]? = some (.int .u8 ((l.getD j 0).toNat : Int))
section
variable {w w' : World} {g : Nat} {l : List UInt8}
theorem Yrow.lt (h : Yrow w g l) : g < w.heap.size := by
  obtain ⟨cs, lo, hi, h1, _⟩ := h
  exact (Array.getElem?_eq_some_iff.1 h1).1
theorem Yrow.cell (h : Yrow w g l) (j : Nat) (hj : j < l.length) : w.cell? ⟨g, j, none⟩ = some (.int .u8 ((l.getD j 0).toNat : Int)) := by
  obtain ⟨cs, lo, hi, h1, h2, h3⟩ := h
  simp [World.cell?, h1, h3 j hj]
theorem Yrow.free (h : Yrow w g l) (j : Nat) (hj : j < l.length) : w.frozen? ⟨g, j, none⟩ = false := by
  obtain ⟨cs, lo, hi, h1, h2, h3⟩ := h
  simp [World.frozen?, h1]
  omega
theorem Yrow.put (h : Yrow w g l) (i : Nat) (hi : i < l.length) (b : UInt8) : Yrow (w.setCell ⟨g, i, none⟩ (.int .u8 (b.toNat : Int))) g (l.set i b) := by
  obtain ⟨cs, lo, hi2, h1, h2, h3⟩ := h
  refine ⟨cs.setIfInBounds i (.int .u8 (b.toNat : Int)), lo, hi2, ?_, by simpa using h2, fun j hj => ?_⟩
  · simp [World.setCell, Array.getElem?_modify, h1]
  · rw [List.length_set] at hj
    have hl : j < cs.size := (Array.getElem?_eq_some_iff.1 (h3 j hj)).1
    rw [Array.getElem?_setIfInBounds]
    by_cases e : i = j
    · subst e
      simp [hl, List.getD_eq_getElem?_getD, List.getElem?_set, hi]
    · rw [if_neg e, h3 j hj]
      simp [List.getD_eq_getElem?_getD, List.getElem?_set, e]
theorem Yrow.same (h : Yrow w g l) (he : w'.heap[g]? = w.heap[g]?) : Yrow w' g l := by
  obtain ⟨cs, lo, hi, h1, h2⟩ := h
  exact ⟨cs, lo, hi, he.trans h1, h2⟩
theorem Yrow.far (h : Yrow w g l) {p : Addr} (hp : g ≠ p.block) (u : Value) : Yrow (w.setCell p u) g l := h.same (Below.heap_setCell w p u g hp)
theorem Yrow.out (h : Yrow w g l) (hb : Below w.heap.size w w') : Yrow w' g l := h.same (hb.block g h.lt)
theorem Yrow.text (h : Yrow w g l) (q n : Nat) (hn : n = l.length) : (convert 37 9 (.slice (some ⟨g, 0, none⟩) n q)).run Tryd.prog w = .ok (.string (str l)) w := by
  subst hn
  exact run_convert_bytes_back w 37 9 5 ⟨g, 0, none⟩ q l Tryd.underlying37 Tryd.underlying5 Tryd.underlying9 (fun j hj => by
    have := h.cell j hj
    rw [List.getD_eq_getElem?_getD, List.getElem?_eq_getElem hj] at this
    have e : (⟨g, 0, none⟩ : Addr).add j = ⟨g, j, none⟩ := by unfold Addr.add; split <;> simp_all
    rw [e]
    simpa using this)
end
theorem Zrow.y {w : World} {g : Nat} {l : List UInt8} (h : Zrow w g l) : Yrow w g l := by
  obtain ⟨cs, K, h1, h2, h3⟩ := h
  exact ⟨cs, K, K + 1, h1, .inl h2, h3⟩
theorem Yrow.zeros (w : World) (n : Nat) : Yrow (w.alloc (.cells (madeCells #[.int .u8 0] n) 5)) w.heap.size (List.replicate n 0) := by
  refine ⟨_, 0, 0, Array.getElem?_push_size, .inr rfl, fun j hj => ?_⟩
  rw [List.length_replicate] at hj
  simp [madeCells, hj, Nat.mod_one, List.getD_eq_getElem?_getD, List.getElem?_replicate]
/-- a way to lay a new row -/
def Lays (m : World → World) (l : List UInt8) : Prop := ∀ W, Yrow (m W) W.heap.size l ∧ Below W.heap.size W (m W) ∧ W.heap.size < (m W).heap.size
theorem Lays.of {m : World → World} {l : List UInt8} (h : ∀ W, Yrow (m W) W.heap.size l) (hb : ∀ W, Below W.heap.size W (m W)) : Lays m l := fun W => ⟨h W, hb W, (h W).lt⟩
/-- three rows laid one behind another -/
theorem three {m1 m2 m3 : World → World} {l1 l2 l3 : List UInt8} (h1 : Lays m1 l1) (h2 : Lays m2 l2) (h3 : Lays m3 l3) (V : World) :
    Yrow (m3 (m2 (m1 V))) V.heap.size l1 ∧ Yrow (m3 (m2 (m1 V))) (m1 V).heap.size l2 ∧ Yrow (m3 (m2 (m1 V))) (m2 (m1 V)).heap.size l3 ∧ V.heap.size < (m1 V).heap.size ∧ (m1 V).heap.size < (m2 (m1 V)).heap.size ∧ Below V.heap.size V (m3 (m2 (m1 V))) := by
  obtain ⟨a1, a2, a3⟩ := h1 V
  obtain ⟨b1, b2, b3⟩ := h2 (m1 V)
  obtain ⟨c1, c2, c3⟩ := h3 (m2 (m1 V))
  exact ⟨(a1.out b2).out c2, b1.out c2, c1, a3, b3, (a2.trans (b2.mono a2.size)).trans (c2.mono (Nat.le_trans a2.size b2.size))⟩
/-- the third row behind i rounds -/
def zst (x y : List UInt8) : Nat → List UInt8
  | 0 => List.replicate x.length 0
  | i + 1 => (zst x y i).set i (x.getD i 0 ^^^ y.getD i 0)
theorem zst_length (x y : List UInt8) : ∀ i, (zst x y i).length = x.length
  | 0 => by simp [zst]
  | i + 1 => by unfold zst; rw [List.length_set]; exact zst_length x y i
theorem zst_at (x y : List UInt8) : ∀ i j, i ≤ x.length → j < i → (zst x y i).getD j 0 = x.getD j 0 ^^^ y.getD j 0
  | 0, j, _, h => by omega
  | i + 1, j, hi, h => by
    unfold zst
    have hl := zst_length x y i
    by_cases e : i = j
    · subst e
      rw [List.getD_eq_getElem?_getD, List.getElem?_set_self (by omega)]
      rfl
    · have := zst_at x y i j (by omega) (by omega)
      rw [← this]
      simp [List.getD_eq_getElem?_getD, List.getElem?_set, e]
theorem zst_all (x y : List UInt8) (h : x.length = y.length) : zst x y x.length = bxor x y := by
  apply List.ext_getElem
  · rw [zst_length, bxor_length x y h]
  · intro j h1 h2
    have hx : j < x.length := by rw [zst_length] at h1; exact h1
    have hy : j < y.length := by omega
    have := zst_at x y x.length j (Nat.le_refl _) hx
    simp only [List.getD_eq_getElem?_getD, List.getElem?_eq_getElem h1, List.getElem?_eq_getElem hx, List.getElem?_eq_getElem hy, Option.getD_some] at this
    rw [this]
    simp [bxor]
theorem bxor_self (x : List UInt8) : bxor x x = List.replicate x.length 0 := by
  unfold bxor
  induction x with
  | nil => rfl
  | cons a x ih => simp [List.replicate_succ, ih, List.map_const']
theorem bxor_zeros : ∀ z : List UInt8, bxor (List.replicate z.length 0) z = z
  | [] => rfl
  | a :: z => by
    have ih := bxor_zeros z
    unfold bxor at ih ⊢
    simp [List.replicate_succ, ih]
theorem sums_xor (x y : List UInt8) (h : x.length = y.length) : csum x ^^^ csum y ^^^ csum (bxor x y) = csum (List.replicate x.length 0) := by
  have hz : (bxor x y).length = x.length := bxor_length x y h
  have h1 := cfeed_xor x y (BitVec.allOnes 32) (BitVec.allOnes 32) h
  have h2 := cfeed_xor (List.replicate x.length 0) (bxor x y) (BitVec.allOnes 32) 0#32 (by simp [hz])
  rw [BitVec.xor_self] at h1
  rw [BitVec.xor_zero, h1] at h2
  rw [← hz, bxor_zeros, hz] at h2
  unfold csum
  rw [h2]
  generalize cfeed (BitVec.allOnes 32) x = a
  generalize cfeed (BitVec.allOnes 32) y = b
  generalize cfeed (BitVec.allOnes 32) (List.replicate x.length 0) = c
  apply BitVec.eq_of_getLsbD_eq
  intro i hi
  simp only [BitVec.getLsbD_xor, BitVec.getLsbD_not, hi, decide_true, Bool.true_and]
  cases a.getLsbD i <;> cases b.getLsbD i <;> cases c.getLsbD i <;> rfl
end Go.Proofs.YtjlfoiocceepjaaDoor
