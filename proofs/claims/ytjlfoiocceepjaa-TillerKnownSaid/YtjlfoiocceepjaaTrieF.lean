/-
  The trie's Put where nothing new is hung in: no row, one too long, one that is there.
-/
import Derived.Test.YtjlfoiocceepjaaTrieD
namespace Go.Proofs.Ytjlfoiocceepjaa.Trie
open Go.RowKit Go.Proofs.YtjlfoiocceepjaaW.PrintWords Go.Proofs.YtjlfoiocceepjaaW.PrintLast Go.Proofs.YtjlfoiocceepjaaW.PrintMore
set_option linter.unusedVariables false
set_option linter.unusedSimpArgs false

variable {B : Nat} {W : World} {t : Nat} {D : List (List Int)} {L : Lay} {cnt : Int} {K : Nat}
set_option maxRecDepth 100000 in
set_option maxHeartbeats 4000000 in
theorem put_none (t : Nat) (A : Option Addr) (c : Nat) (v : Int) :
    Calls Try.prog 8 #[.pointer (some ⟨t, 0, none⟩), .slice A 0 c, .int .i64 v] W fun e w' => e = .returned (.tuple #[.bool false, .int .i64 8]) ∧ w' = W := by
  go_enter Try.func8, Try.ntmps8
  go_wp2_with fail
  go_ret2
  exact ⟨rfl, rfl⟩
set_option maxRecDepth 100000 in
set_option maxHeartbeats 4000000 in
theorem put_big (t : Nat) (A : Option Addr) (n c : Nat) (v : Int) (hn : 128 < n) (hn2 : n ≤ 1000) :
    Calls Try.prog 8 #[.pointer (some ⟨t, 0, none⟩), .slice A n c, .int .i64 v] W fun e w' => e = .returned (.tuple #[.bool false, .int .i64 2]) ∧ w' = W := by
  have h0 : ((n : Int) == 0) = false := beq_eq_false_iff_ne.2 (by omega)
  have h1 : (128 : Int) < (n : Int) := by omega
  go_enter Try.func8, Try.ntmps8
  go_wp2_with fail
  go_ret2
  exact ⟨rfl, rfl⟩
set_option maxRecDepth 100000 in
set_option maxHeartbeats 4000000 in
theorem put_old (h : TI B W t D L cnt K) (A : Option Addr) (c : Nat) (l : List Int) (v : Int) (hr : KI.C W A l.length l) (hw : ∀ x, x ∈ l → (Lit.int .i64 x).wf = true) (hlm : l.length ≤ 128) (hl0 : 0 < l.length) (hl : l ∈ D) (hth : L.th l = true) :
    Calls Try.prog 8 #[.pointer (some ⟨t, 0, none⟩), .slice A l.length c, .int .i64 v] W fun e w' => e = .returned (.tuple #[.bool false, .int .i64 0]) ∧ TI B w' t D { L with va := upd L.va l v } cnt K ∧ Ef B [29, 31] W w' := by
  have HK := Lib.hid (at_any h A c l hr hw (by omega))
  rw [if_pos hl] at HK
  obtain ⟨_, c1, c2⟩ := h.cells hl
  rw [hth] at c1
  unfold ptrV at HK
  simp only [Option.map_some] at HK
  have hln : l ≠ [] := fun e => by rw [e] at hl0; simp at hl0
  have hnd := h.node l hl hln
  have f2 := hnd.frozen 2
  have HF : Hid (TI B (W.setCell ⟨L.ad l, 2, none⟩ (.int .i64 v)) t D { L with va := upd L.va l v } cnt K ∧ Ef B [29, 31] W (W.setCell ⟨L.ad l, 2, none⟩ (.int .i64 v))) := Lib.hid (by
    have f := Far.setCell W ⟨L.ad l, 2, none⟩ (.int .i64 v)
    have hs := h.ends hl hln (L.th l) v f (hnd.set 2 _)
    have e1 : upd L.th l (L.th l) = L.th := by funext q; unfold upd; split <;> simp_all
    rw [e1] at hs
    exact ⟨hs, h.efar hl f⟩)
  have h0 : ((l.length : Int) == 0) = false := beq_eq_false_iff_ne.2 (by omega)
  have h1 : ¬ (128 : Int) < (l.length : Int) := by omega
  clear hr hw hnd hlm hl0
  generalize l.length = N at *
  go_enter Try.func8, Try.ntmps8
  go_wp2_with (first
    | (go_at_call 25; (with_reducible refine (HK.out).mono ?_); rintro e W1 ⟨rfl, rfl⟩)
    | fail)
  go_ret2
  exact ⟨rfl, HF.out⟩
end Go.Proofs.Ytjlfoiocceepjaa.Trie
