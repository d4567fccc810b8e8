/-
  HolderPlays: the code of its switch; small lemmas.
-/
import Derived.Test.YtefllgpehhlkoaaHPlaysM
import Derived.Deep.RegionHeld3
import Derived.Deep.DeepCutAuto
import Derived.Deep.LoopGhost
import Derived.Deep.CutBlock
namespace Go.Proofs.Ytefllgpehhlkoaa
open Go.RowKit Go.Maps
set_option linter.unusedVariables false

theorem cell_newk (w : World) (x : Int) (k : Nat) (hk : k = w.heap.size) : (w.alloc (.cells #[.int .i64 x] 3)).cell? ⟨k, 0, none⟩ = some (.int .i64 x) := by
  subst hk
  simp
theorem Hk.app {k : Nat} {L C : Int} {ws hs xs ys : Pairs} {ls ns : List Int} (h : Hk k L C ws hs xs ys ls ns) {p : Int} (hp : (Lit.int .i64 p).wf = true) : Hk (k + 1) L C ws hs xs ys (ls ++ [p]) ns := by
  refine ⟨fun i hi => ?_, by have := h.pls; simp; omega, Nat.le_succ_of_le h.nls, h.len.mono (Nat.le_succ k), h.simW, h.simH⟩
  by_cases hl : i < ls.length
  · have : nth (ls ++ [p]) i = nth ls i := by simp [nth, List.getD_eq_getElem?_getD, List.getElem?_append_left hl]
    rw [this]; exact h.wf i hl
  · obtain rfl : i = ls.length := by simp at hi; omega
    have : nth (ls ++ [p]) ls.length = p := by simp [nth]
    rw [this]; exact hp
theorem Hk.to {k k' : Nat} {L C TL TC : Int} {ws hs xs ys Tw Th Xw Xh : Pairs} {ls ns ns' : List Int} (h : Hk k L C ws hs xs ys ls ns) (hk : k ≤ k') (hn : ns'.length ≤ k') (hl : HLen k' ⟨TL, TC, Xw, Xh⟩) (hw : Sim Tw Xw) (hh : Sim Th Xh) : Hk k' TL TC Tw Th Xw Xh ls ns' :=
  ⟨h.wf, Nat.le_trans h.pls hk, hn, hl, hw, hh⟩

/-- the block with this number -/
def findBlock (n : Nat) : Code → Option Code
  | .block m c => if m = n then some (.block m c) else findBlock n c
  | .seq a b => match findBlock n a with
    | some c => some c
    | none => findBlock n b
  | .loop c => findBlock n c
  | .scope c => findBlock n c
  | .cond _ a b => match findBlock n a with
    | some c => some c
    | none => findBlock n b
  | _ => none
noncomputable def sw : Code := ((Try.f12.body.bind (findBlock 2)).getD .skip)
end Go.Proofs.Ytefllgpehhlkoaa
