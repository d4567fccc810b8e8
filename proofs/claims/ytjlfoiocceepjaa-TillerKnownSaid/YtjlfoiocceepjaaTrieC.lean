/-
  The trie's Get, walked.
-/
import Derived.Test.YtjlfoiocceepjaaTrieB
namespace Go.Proofs.Ytjlfoiocceepjaa.Trie
open Go.RowKit Go.Proofs.YtjlfoiocceepjaaW.PrintWords Go.Proofs.YtjlfoiocceepjaaW.PrintLast Go.Proofs.YtjlfoiocceepjaaW.PrintMore
set_option linter.unusedVariables false
set_option linter.unusedSimpArgs false

variable {B : Nat} {W : World} {t : Nat} {D : List (List Int)} {L : Lay} {cnt : Int} {K : Nat}
set_option maxRecDepth 100000 in
set_option maxHeartbeats 4000000 in
theorem get_ok (h : TI B W t D L cnt K) (A : Option Addr) (c : Nat) (l : List Int) (hr : KI.C W A l.length l) (hw : ∀ x, x ∈ l → (Lit.int .i64 x).wf = true) (hlm : l.length ≤ 1000) (hl : l ∈ D) (hth : L.th l = true) :
    Calls Try.prog 11 #[.pointer (some ⟨t, 0, none⟩), .slice A l.length c] W fun e w' => e = .returned (.tuple #[.int .i64 (L.va l), .bool true]) ∧ w' = W := by
  have HK := Lib.hid (at_any h A c l hr hw hlm)
  rw [if_pos hl] at HK
  obtain ⟨_, c1, c2⟩ := h.cells hl
  rw [hth] at c1
  unfold ptrV at HK
  simp only [Option.map_some] at HK
  clear hr hw
  go_enter Try.func11, Try.ntmps11
  go_wp2_with (first
    | (go_at_call 25; (with_reducible refine (HK.out).mono ?_); rintro e W1 ⟨rfl, rfl⟩)
    | fail)
  go_ret2
  exact ⟨rfl, rfl⟩
end Go.Proofs.Ytjlfoiocceepjaa.Trie
