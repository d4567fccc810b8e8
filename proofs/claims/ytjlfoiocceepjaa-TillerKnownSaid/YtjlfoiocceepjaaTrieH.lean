/-
  What TillerKnown keeps: a trie whose values are numbers of frames; a row of frames; the trie's calls in these words.
-/
import Derived.Test.YtjlfoiocceepjaaTrieG
import Derived.Test.YtjlfoiocceepjaaOpenT
import Derived.Test.YtjlfoiocceepjaaBurstP
namespace Go.Proofs.Ytjlfoiocceepjaa.Trie
open Go.RowKit Go.Proofs.YtjlfoiocceepjaaW.PrintWords Go.Proofs.YtjlfoiocceepjaaW.PrintLast Go.Proofs.YtjlfoiocceepjaaW.PrintMore
set_option linter.unusedVariables false
set_option linter.unusedSimpArgs false

/-! ### rows of texts -/
abbrev KS : Kd ByteArray := Kd.string
theorem infoStr : (Try.prog.info? 9).map (fun i => (i.zero, i.size, i.bytes)) = some (some (.string ⟨#[]⟩), 1, 16) := by kernel_rfl
theorem KS_ef {w w' : World} {B b : Nat} {T : List TypeId} {v : Value} {xs : List ByteArray} (h : KS.R 9 w b All v xs) (k : Ef B T w w') (he : 9 ∉ T) : KS.R 9 w' b All v xs := by
  obtain ⟨inner, ho⟩ := Kd.R_own h
  refine Kd.R_mono (Kd.R_step (Kd.R_tight rfl h) (fun i hi hlt => ?_)) (fun _ _ => trivial)
  rcases ho.2 with ⟨h1, _⟩ | ⟨g, cap, cur, h1, h2, h3, h4⟩
  · rw [h1] at hi; simp [Value.ownBlock] at hi
  · rw [h1] at hi
    simp only [Value.ownBlock, Option.some.injEq] at hi
    subst hi
    exact k.block i hlt (.inr ⟨cur, 9, _, h3, he⟩)
theorem KS_out {w w' : World} {b : Nat} {v : Value} {xs : List ByteArray} (h : KS.R 9 w b All v xs) (k : Below w.heap.size w w') : KS.R 9 w' b All v xs := KS_ef (B := 0) (T := []) h (.of_below k) (by simp)
theorem KS_at {w : World} {b : Nat} {v : Value} {xs : List ByteArray} (h : KS.R 9 w b All v xs) : ∃ A c, v = .slice A xs.length c ∧ ∀ j (hj : j < xs.length), ∃ ad, A = some ad ∧ w.cell? (ad.add j) = some (.string xs[j]) := by
  obtain ⟨A, c, he, hl, hr⟩ := Kd.R_reads h
  refine ⟨A, c, he, fun j hj => ?_⟩
  have h1 : ReadsOf Value.string (⟨#[]⟩ : ByteArray) w A xs.length xs := Kd.reads_of_C (h1 := fun _ => rfl) hr
  obtain ⟨ad, hA, hx⟩ := h1.2.2 (by omega)
  refine ⟨ad, hA, ?_⟩
  have := hx j hj
  rw [List.getD_eq_getElem?_getD, List.getElem?_eq_getElem hj] at this
  exact this
theorem KS_empty (w : World) : KS.R 9 (w.alloc (.cells #[] 9)) w.heap.size All (.slice (some ⟨w.heap.size, 0, none⟩) 0 0) [] :=
  ⟨fun _ _ => trivial, [], World.ownsRow_lit (base := w.heap.size) (e := 9) (size := 1) w #[] 0 (Nat.le_refl _) (by unfold maxLen; omega) rfl, Reps.none _ _⟩
/-! ### the trie -/
def TK (B : Nat) (W : World) (t m : Nat) : Prop := ∃ (D : List (List Int)) (L : Lay) (c : Int), TI B W t D L c (1000 * m) ∧ 0 ≤ c ∧ c ≤ m ∧ ∀ p, p ∈ D → L.th p = true → 0 ≤ L.va p ∧ L.va p < m
theorem TK.out {B t m : Nat} {W W' : World} (h : TK B W t m) (hb : Below W.heap.size W W') : TK B W' t m := by
  obtain ⟨D, L, c, h1, h2⟩ := h
  exact ⟨D, L, c, h1.out hb, h2⟩
theorem TK.zero {B t : Nat} {W : World} (h : Blk W t 31 #[.map none, .bool false, .int .i64 0, .int .i64 0]) (hB : B ≤ t) : TK B W t 0 := by
  refine ⟨[[]], ⟨fun _ => t, fun _ => none, fun _ => [], fun _ => false, fun _ => 0⟩, 0, ⟨List.mem_singleton.2 rfl, fun p x hp => ?_, rfl, h, fun p hp hn => absurd (List.mem_singleton.1 hp) hn, fun p hp => rfl, fun p hp x => ⟨fun hx => ?_, fun _ => rfl⟩, fun p q hp hq _ => ?_, fun p q b hp hq h1 _ => (by cases h1), fun p hp => Nat.zero_le _, fun p hp => ⟨hB, fun b hb => (by cases hb)⟩⟩, Int.le_refl _, Int.le_refl _, fun p hp hth => (by cases hth)⟩
  · have := List.mem_singleton.1 hp
    simp at this
  · have := List.mem_singleton.1 hx
    simp at this
  · rw [List.mem_singleton.1 hp, List.mem_singleton.1 hq]
/-- Put of a good row -/
theorem put_good {B t m : Nat} {W : World} (h : TK B W t m) (hB : B ≤ W.heap.size) (hm : m ≤ 20) (A : Option Addr) (c B' n : Nat) (l : List Int) (hr : KI.R 3 W B' All (.slice A n c) l) (hn : n = l.length) (hw : ∀ x, x ∈ l → (Lit.int .i64 x).wf = true) (hlm : l.length ≤ 128) (hl0 : 0 < l.length) :
    Calls Try.prog 8 #[.pointer (some ⟨t, 0, none⟩), .slice A n c, .int .i64 (m : Int)] W fun e w' => (∃ b, e = .returned (.tuple #[.bool b, .int .i64 0])) ∧ TK B w' t (m + 1) ∧ Ef B [29, 31] W w' := by
  subst hn
  obtain ⟨D, L, cn, h1, h2, h3, h4⟩ := h
  by_cases ho : l ∈ D ∧ L.th l = true
  · refine (put_old h1 A c l (m : Int) (KI_C hr).2.2 hw hlm hl0 ho.1 ho.2).mono ?_
    rintro e w' ⟨rfl, k1, k2⟩
    refine ⟨⟨_, rfl⟩, ⟨D, _, cn, k1.more (by omega), h2, by omega, fun p hp hth => ?_⟩, k2⟩
    have h5 := h4 p hp hth
    show 0 ≤ upd L.va l (m : Int) p ∧ upd L.va l (m : Int) p < _
    by_cases e : p = l
    · rw [e, upd_same]; omega
    · rw [upd_ne _ _ e]; omega
  · refine (put_new h1 A c B' l (m : Int) hr hw hlm hl0 ho (by omega) (by omega) (by omega) hB).mono ?_
    rintro e w' ⟨rfl, ⟨D', L', c', k1, k0, k2, k3⟩, k4⟩
    refine ⟨⟨_, rfl⟩, ⟨D', L', c', k1.more (by omega), by omega, by omega, fun p hp hth => ?_⟩, k4⟩
    rcases k3 p hp hth with ⟨k5, k6, k7⟩ | k5
    · have := h4 p k5 k6
      rw [k7]; omega
    · rw [k5]; omega
theorem TK.next {B t m : Nat} {W : World} (h : TK B W t m) : TK B W t (m + 1) := by
  obtain ⟨D, L, c, h1, h2, h3, h4⟩ := h
  exact ⟨D, L, c, h1.more (by omega), h2, by omega, fun p hp hth => by have := h4 p hp hth; omega⟩
theorem put_bad {B t m : Nat} {W : World} (h : TK B W t m) (A : Option Addr) (c n : Nat) (l : List Int) (gg : Int) (hn : n = l.length) (hg : (l.length = 0 ∧ gg = 8) ∨ (128 < l.length ∧ l.length ≤ 140 ∧ gg = 2)) :
    Calls Try.prog 8 #[.pointer (some ⟨t, 0, none⟩), .slice A n c, .int .i64 (m : Int)] W fun e w' => (∃ b, e = .returned (.tuple #[.bool b, .int .i64 gg])) ∧ TK B w' t (m + 1) ∧ Ef B [29, 31] W w' := by
  subst hn
  rcases hg with ⟨h0, rfl⟩ | ⟨h1, h2, rfl⟩
  · rw [h0]
    refine (put_none t A c (m : Int)).mono ?_
    rintro e w' ⟨rfl, rfl⟩
    exact ⟨⟨_, rfl⟩, h.next, Ef.refl _ _ _⟩
  · refine (put_big t A l.length c (m : Int) h1 (by omega)).mono ?_
    rintro e w' ⟨rfl, rfl⟩
    exact ⟨⟨_, rfl⟩, h.next, Ef.refl _ _ _⟩
theorem lg_cases (D : List (List Int)) (L : Lay) (l : List Int) : ∀ k, lg D L l k = (0, 0) ∨ ∃ n, 0 < n ∧ n ≤ k ∧ lg D L l k = (n, L.va (l.take n)) ∧ l.take n ∈ D ∧ L.th (l.take n) = true
  | 0 => .inl rfl
  | k + 1 => by
    show (if _ ∧ _ then _ else _) = _ ∨ ∃ n, 0 < n ∧ n ≤ k + 1 ∧ (if _ ∧ _ then _ else _) = _ ∧ _
    by_cases h : l.take (k + 1) ∈ D ∧ L.th (l.take (k + 1)) = true
    · rw [if_pos h]
      exact .inr ⟨k + 1, by omega, by omega, rfl, h.1, h.2⟩
    · rw [if_neg h]
      rcases lg_cases D L l k with h1 | ⟨n, h1, h2, h3⟩
      · exact .inl h1
      · exact .inr ⟨n, h1, by omega, h3⟩
/-- Longest, and then Get of what it found -/
theorem longest_tk {B t m : Nat} {W : World} (h : TK B W t m) (A : Option Addr) (c n : Nat) (l : List Int) (hn : n = l.length) (hr : KI.C W A l.length l) (hw : ∀ x, x ∈ l → (Lit.int .i64 x).wf = true) (hlm : l.length ≤ 1000) :
    (Calls Try.prog 10 #[.pointer (some ⟨t, 0, none⟩), .slice A n c] W fun e w' => e = .returned (.tuple #[.int .i64 0, .int .i64 0]) ∧ Below W.heap.size W w') ∨
    ∃ k i : Nat, 0 < k ∧ k ≤ l.length ∧ i < m ∧ (Calls Try.prog 10 #[.pointer (some ⟨t, 0, none⟩), .slice A n c] W fun e w' => e = .returned (.tuple #[.int .i64 (k : Int), .int .i64 (i : Int)]) ∧ Below W.heap.size W w') ∧
      ∀ V c', Below W.heap.size W V → Calls Try.prog 11 #[.pointer (some ⟨t, 0, none⟩), .slice A k c'] V fun e w' => e = .returned (.tuple #[.int .i64 (i : Int), .bool true]) ∧ V = w' := by
  subst hn
  obtain ⟨D, L, cn, h1, h2, h3, h4⟩ := h
  have hl := longest_any h1 A c l hr hw hlm
  rcases lg_cases D L l l.length with h5 | ⟨k, h5, h6, h7, h8, h9⟩
  · left
    rw [h5] at hl
    exact hl
  · right
    have h10 := h4 _ h8 h9
    obtain ⟨i, hi⟩ := Int.eq_ofNat_of_zero_le h10.1
    rw [h7, hi] at hl
    refine ⟨k, i, h5, h6, by omega, hl, fun V c' hV => ?_⟩
    have e : (l.take k).length = k := by rw [List.length_take]; omega
    have hg := get_ok (h1.out hV) A c' (l.take k) (takeI_C (Kd.C_below hr hV) k) (fun x hx => hw x (List.mem_of_mem_take hx)) (by rw [e]; omega) h8 h9
    rw [e, hi] at hg
    refine hg.mono ?_
    rintro e w' ⟨rfl, rfl⟩
    exact ⟨rfl, rfl⟩
end Go.Proofs.Ytjlfoiocceepjaa.Trie
