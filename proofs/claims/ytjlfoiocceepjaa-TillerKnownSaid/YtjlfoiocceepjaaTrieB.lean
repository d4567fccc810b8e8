/-
  The trie's at, walked.
-/
import Derived.Test.YtjlfoiocceepjaaTrieA
namespace Go.Proofs.Ytjlfoiocceepjaa.Trie
open Go.RowKit Go.Proofs.YtjlfoiocceepjaaW.PrintWords Go.Proofs.YtjlfoiocceepjaaW.PrintLast Go.Proofs.YtjlfoiocceepjaaW.PrintMore
set_option linter.unusedVariables false
set_option linter.unusedSimpArgs false

variable {B : Nat} {W : World} {t : Nat} {D : List (List Int)} {L : Lay} {cnt : Int} {K : Nat}
theorem TI.front (h : TI B W t D L cnt K) (l : List Int) (hl : l ∈ D) : ∀ n, n ≤ l.length → l.take (l.length - n) ∈ D
  | 0, _ => by simpa using hl
  | n + 1, hn => by
    have h1 := TI.front h l hl n (by omega)
    have e : l.take (l.length - n) = l.take (l.length - (n + 1)) ++ [l[l.length - (n + 1)]'(by omega)] := by
      rw [← List.take_succ_eq_append_getElem (by omega)]
      congr 1; omega
    rw [e] at h1
    exact h.closed _ _ h1
set_option maxRecDepth 100000 in
set_option maxHeartbeats 4000000 in
theorem at_any (h : TI B W t D L cnt K) (A : Option Addr) (c : Nat) (l : List Int) (hr : KI.C W A l.length l) (hw : ∀ x, x ∈ l → (Lit.int .i64 x).wf = true) (hlm : l.length ≤ 1000) :
    Calls Try.prog 25 #[.pointer (some ⟨t, 0, none⟩), .slice A l.length c] W fun e w' => e = .returned (ptrV (if l ∈ D then some (L.ad l) else none)) ∧ w' = W := by
  have HT := Lib.hid h
  have HR := Lib.hid hr
  have HWf := Lib.hid hw
  have HLm := Lib.hid hlm
  obtain ⟨r, hres⟩ : ∃ r, r = ptrV (if l ∈ D then some (L.ad l) else none) := ⟨_, rfl⟩
  rw [← hres]
  have HRes := Lib.hid hres
  clear hr hw hres
  go_enter Try.func25, Try.ntmps25
  go_wp2_with fail
  go_loopw [5, 13] (fun nv iv wr => ∃ k : Nat, k ≤ l.length ∧ iv = .int .i64 (k : Int) ∧ nv = .pointer (some ⟨L.ad (l.take k), 0, none⟩) ∧ l.take k ∈ D ∧ wr = W) (fun _ iv _ => l.length - (intOf iv).toNat)
  case atStart => exact ⟨0, Nat.zero_le _, rfl, by rw [List.take_zero, h.rt], h.nil, rfl⟩
  case round =>
    obtain ⟨k, hk, rfl, rfl, hD, rfl⟩ := hrel
    by_cases hkl : k < l.length
    · obtain ⟨ad, hA, hat⟩ := KI_at HR.out (by omega)
      subst hA
      have hcx := hat k hkl
      obtain ⟨x, hx⟩ : ∃ x, x = rd l (k : Int) := ⟨_, rfl⟩
      have hx2 : l[k] = x := by rw [hx]; simp [rd, hkl]
      rw [← hx] at hcx
      have hxw := HWf.out x (by rw [← hx2]; exact List.getElem_mem hkl)
      have hc0 := (h.cells hD).1
      have hlk := h.look hD x hxw
      have e : l.take k ++ [x] = l.take (k + 1) := by rw [List.take_succ_eq_append_getElem hkl, hx2]
      rw [e] at hlk
      have hkI : (k : Int) < (l.length : Int) := by omega
      have HE := Lib.hid e
      clear hx hx2 hat e
      by_cases hd : l.take (k + 1) ∈ D
      · rw [if_pos hd] at hlk
        unfold ptrV at hlk
        simp only [Option.map_some] at hlk
        go_wp2_with fail
        go_roundw
        case rel => exact ⟨k + 1, by omega, by go_num, rfl, hd, trivial⟩
        case measure => simp [intOf]; omega
      · rw [if_neg hd] at hlk
        unfold ptrV at hlk
        simp only [Option.map_none] at hlk
        have hno : l ∉ D := fun hl => hd (by
          have := h.front l hl (l.length - (k + 1)) (by omega)
          rwa [show l.length - (l.length - (k + 1)) = k + 1 by omega] at this)
        go_wp2_with fail
        go_ret
        exact ⟨by rw [HRes.out, if_neg hno]; rfl, rfl⟩
    · obtain rfl : k = l.length := by omega
      rw [List.take_length] at hD ⊢
      go_wp2_with fail
      go_ret
      exact ⟨by rw [HRes.out, if_pos hD]; rfl, rfl⟩
end Go.Proofs.Ytjlfoiocceepjaa.Trie
