/-
  A trie in the memory, told by paths.
-/
import Derived.Test.YtjlfoiocceepjaaMapK
namespace Go.Proofs.Ytjlfoiocceepjaa.Trie
open Go.RowKit Go.Proofs.YtjlfoiocceepjaaW.PrintWords Go.Proofs.YtjlfoiocceepjaaW.PrintLast Go.Proofs.YtjlfoiocceepjaaW.PrintMore
set_option linter.unusedVariables false
set_option linter.unusedSimpArgs false

/-- what lies where: each beginning's block, map, entries, whether a row ends there, its value -/
structure Lay where
  ad : List Int → Nat
  mp : List Int → Option Nat
  ki : List Int → List (Int × Option Nat)
  th : List Int → Bool
  va : List Int → Int
/-- the trie in block t of W: D are the beginnings that have a node; K bounds how many follow one -/
structure TI (B : Nat) (W : World) (t : Nat) (D : List (List Int)) (L : Lay) (cnt : Int) (K : Nat) : Prop where
  nil : [] ∈ D
  closed : ∀ p x, p ++ [x] ∈ D → p ∈ D
  rt : L.ad [] = t
  root : Blk W t 31 #[.map (L.mp []), .bool (L.th []), .int .i64 (L.va []), .int .i64 cnt]
  node : ∀ p, p ∈ D → p ≠ [] → Blk W (L.ad p) 29 #[.map (L.mp p), .bool (L.th p), .int .i64 (L.va p)]
  map : ∀ p, p ∈ D → MapIs Ptr W (L.mp p) (L.ki p)
  kids : ∀ p, p ∈ D → ∀ x, (p ++ [x] ∈ D → mget (L.ki p) x = some (some (L.ad (p ++ [x])))) ∧ (p ++ [x] ∉ D → mget (L.ki p) x = none)
  adinj : ∀ p q, p ∈ D → q ∈ D → L.ad p = L.ad q → p = q
  mpinj : ∀ p q b, p ∈ D → q ∈ D → L.mp p = some b → L.mp q = some b → p = q
  few : ∀ p, p ∈ D → (L.ki p).length ≤ K
  lo : ∀ p, p ∈ D → B ≤ L.ad p ∧ ∀ b, L.mp p = some b → B ≤ b
variable {B : Nat} {W W' : World} {t : Nat} {D : List (List Int)} {L : Lay} {cnt : Int} {K : Nat}
theorem TI.mlt (h : TI B W t D L cnt K) {p : List Int} (hp : p ∈ D) {b : Nat} (hb : L.mp p = some b) : b < W.heap.size := by
  have := h.map p hp
  rw [hb] at this
  exact MapAt.lt this
theorem TI.out (h : TI B W t D L cnt K) (hb : Below W.heap.size W W') : TI B W' t D L cnt K :=
  ⟨h.nil, h.closed, h.rt, h.root.out hb, fun p hp hn => (h.node p hp hn).out hb, fun p hp => (h.map p hp).eq fun b e => hb.block b (h.mlt hp e), h.kids, h.adinj, h.mpinj, h.few, h.lo⟩
/-- a node's three cells, the root's among them -/
theorem TI.cells (h : TI B W t D L cnt K) {p : List Int} (hp : p ∈ D) : W.cell? ⟨L.ad p, 0, none⟩ = some (.map (L.mp p)) ∧ W.cell? ⟨L.ad p, 1, none⟩ = some (.bool (L.th p)) ∧ W.cell? ⟨L.ad p, 2, none⟩ = some (.int .i64 (L.va p)) := by
  by_cases hn : p = []
  · subst hn
    rw [h.rt]
    exact ⟨h.root.cell 0, h.root.cell 1, h.root.cell 2⟩
  · have := h.node p hp hn
    exact ⟨this.cell 0, this.cell 1, this.cell 2⟩
/-- 'n.next[x]' of a node -/
theorem TI.look (h : TI B W t D L cnt K) {p : List Int} (hp : p ∈ D) (x : Int) (hx : (Lit.int .i64 x).wf = true) :
    (Instr.lookup 27 (.map (L.mp p)) (.int .i64 x) false).run Try.prog W = .ok (ptrV (if p ++ [x] ∈ D then some (L.ad (p ++ [x])) else none)) W := by
  have hk := h.kids p hp x
  rw [(h.map p hp).look1 (E := Ptr) Try.underlying27 (by kernel_rfl) x hx]
  by_cases hd : p ++ [x] ∈ D
  · rw [hk.1 hd, if_pos hd]; rfl
  · rw [hk.2 hd, if_neg hd]; rfl
end Go.Proofs.Ytjlfoiocceepjaa.Trie
