/-
  What a net's call does, in one contract each; parcels that are a sent message's frame, turned or not.
-/
import Derived.Test.YtjlfoiocceepjaaNetF
namespace Go.Proofs.Ytjlfoiocceepjaa
open Go.RowKit Go.Proofs.YtjlfoiocceepjaaW.PrintWords Go.Proofs.YtjlfoiocceepjaaW.PrintLast Go.Proofs.YtjlfoiocceepjaaW.PrintMore
set_option linter.unusedVariables false
set_option linter.unusedSimpArgs false

/-- q is F but for bits within a window of 32 -/
def Win (q F : List UInt8) : Prop := q.length = F.length ∧ ∃ k, ∀ j, lbit q j ≠ lbit F j → k ≤ j ∧ j < k + 32
def NStep (l l' : List Pc) : Prop := l'.length ≤ l.length ∧ ∀ p, p ∈ l' → p ∈ l ∨ ∃ p0, p0 ∈ l ∧ p0.tu = false ∧ p.tu = true ∧ Win p.fr.data.toList p0.fr.data.toList
theorem NStep.refl (l : List Pc) : NStep l l := ⟨Nat.le_refl _, fun p h => .inl h⟩
theorem NStep.erase (l : List Pc) (i : Nat) : NStep l (l.eraseIdx i) := ⟨by rw [List.length_eraseIdx]; split <;> omega, fun p h => .inl (List.mem_of_mem_eraseIdx h)⟩
theorem str_data (l : List UInt8) : (str l).data.toList = l := by simp [str]
theorem lose_any (B : Nat) (W : World) (g : Nat) (l : List Pc) (i : Int) (h : NetI B W g l) (hl : l.length ≤ 300) (hg : g < W.heap.size) :
    Calls Try.prog 17 #[.pointer (some ⟨g, 0, none⟩), .int .i64 i] W fun e w' => (∃ v, e = .returned v) ∧ ∃ l', NetI B w' g l' ∧ NStep l l' ∧ Ef B [54, 67] W w' := by
  by_cases hi : i < 0 ∨ (l.length : Int) ≤ i
  · refine (lose_bad B W g l i h hi).mono ?_
    rintro e w' ⟨rfl, hb⟩
    exact ⟨⟨_, rfl⟩, l, h.out hb, NStep.refl l, Ef.of_below hb⟩
  · obtain ⟨k, rfl⟩ := Int.eq_ofNat_of_zero_le (a := i) (by omega)
    refine (lose_ok B W g l k h (by omega) hl).mono ?_
    rintro e w' ⟨rfl, h1, h2⟩
    exact ⟨⟨_, rfl⟩, _, h1, NStep.erase l k, h2⟩
theorem move_any (B : Nat) (W : World) (g : Nat) (l : List Pc) (i : Int) (h : NetI B W g l) (hl : l.length ≤ 300) (hg : g < W.heap.size) :
    Calls Try.prog 18 #[.pointer (some ⟨g, 0, none⟩), .int .i64 i] W fun e w' => (∃ v, e = .returned v) ∧ ∃ l', NetI B w' g l' ∧ NStep l l' ∧ Ef B [54, 67] W w' := by
  by_cases hi : i < 0 ∨ (l.length : Int) ≤ i
  · refine (move_bad B W g l i h hi).mono ?_
    rintro e w' ⟨rfl, hb⟩
    exact ⟨⟨_, rfl⟩, l, h.out hb, NStep.refl l, Ef.of_below hb⟩
  · obtain ⟨k, rfl⟩ := Int.eq_ofNat_of_zero_le (a := i) (by omega)
    have hk : k < l.length := by omega
    refine (move_ok B W g l k h hk hl).mono ?_
    rintro e w' ⟨rfl, h1, h2⟩
    refine ⟨⟨_, rfl⟩, _, h1, ⟨?_, fun p hp => .inl ?_⟩, h2⟩
    · rw [List.length_append, List.length_eraseIdx, if_pos hk]; simp; omega
    · rcases List.mem_append.1 hp with hp | hp
      · exact List.mem_of_mem_eraseIdx hp
      · rw [List.mem_singleton.1 hp]; exact List.getElem_mem hk
theorem turn_any (B : Nat) (W : World) (g : Nat) (l : List Pc) (i a : Int) (b : Nat) (hb : b < 4294967296) (h : NetI B W g l) (hl : l.length ≤ 300) (hs : ∀ p, p ∈ l → p.fr.size ≤ 65536) :
    Calls Try.prog 19 #[.pointer (some ⟨g, 0, none⟩), .int .i64 i, .int .i64 a, .int .u32 (b : Int)] W fun e w' => (∃ v, e = .returned v) ∧ ∃ l', NetI B w' g l' ∧ NStep l l' ∧ Ef B [54, 67] W w' := by
  by_cases hi : i < 0 ∨ (l.length : Int) ≤ i
  · refine (turn_bad B W g l i a b h hi).mono ?_
    rintro e w' ⟨rfl, hb⟩
    exact ⟨⟨_, rfl⟩, l, h.out hb, NStep.refl l, Ef.of_below hb⟩
  · obtain ⟨k, rfl⟩ := Int.eq_ofNat_of_zero_le (a := i) (by omega)
    have hk : k < l.length := by omega
    have hsz := hs _ (List.getElem_mem hk)
    by_cases hno : a < 0 ∨ (¬ a < 0 ∧ 8 * (l[k].fr.size : Int) ≤ a) ∨ (¬ a < 0 ∧ ¬ 8 * (l[k].fr.size : Int) ≤ a ∧ l[k].tu = true)
    · refine (turn_no B W g l k a b h hk hsz hno).mono ?_
      rintro e w' ⟨hv, hb⟩
      exact ⟨hv, l, h.out hb, NStep.refl l, Ef.of_below hb⟩
    · have htu : l[k].tu = false := by
        cases e : l[k].tu with
        | false => rfl
        | true => rw [e] at hno; simp at hno; omega
      obtain ⟨m, rfl⟩ := Int.eq_ofNat_of_zero_le (a := a) (by omega)
      refine (turn_ok B W g l k m b _ _ h hk hl rfl hsz rfl (by omega) hb htu).mono ?_
      rintro e w' ⟨hv, h1, h2⟩
      refine ⟨hv, _, h1, ⟨by rw [List.length_set]; exact Nat.le_refl _, fun p hp => ?_⟩, h2⟩
      rcases List.mem_or_eq_of_mem_set hp with hp | rfl
      · exact .inl hp
      · refine .inr ⟨l[k], List.getElem_mem hk, htu, rfl, ?_⟩
        have hf := bst_facts l[k].fr.data.toList m b (8 * l[k].fr.size) (by rw [Array.length_toList]; rfl) 32
        show Win (str _).data.toList _
        rw [str_data]
        exact ⟨bst_length _ _ _ _ _, m, hf.1⟩
/-! ### sent messages -/
structure Se where
  n : Nat → Int
  ts : List Int
  s : ByteArray
  A : Option Addr
  c : Nat
def Se.fr (e : Se) : List UInt8 := packL (msgL e.n e.ts e.s.data.toList)
def Se.val (e : Se) : Array Value := msgC e.n (.slice e.A e.ts.length e.c) e.s
def ses (S : List Se) : List Value := S.flatMap fun e => e.val.toList
theorem Se.val_len (e : Se) : e.val.toList.length = 12 := rfl
theorem ses_length : ∀ S : List Se, (ses S).length = S.length * 12
  | [] => rfl
  | e :: S => by
    have := ses_length S
    unfold ses at this ⊢
    rw [List.flatMap_cons, List.length_append, this, Se.val_len, List.length_cons]; omega
theorem ses_append (a b : List Se) : ses (a ++ b) = ses a ++ ses b := by simp [ses]
theorem ses_drop (S : List Se) (k : Nat) : (ses S).drop (k * 12) = ses (S.drop k) := by
  induction S generalizing k with
  | nil => simp [ses]
  | cons p l ih =>
    cases k with
    | zero => simp
    | succ k =>
      have e : ses (p :: l) = p.val.toList ++ ses l := rfl
      have e2 : ses ((p :: l).drop (k + 1)) = ses (l.drop k) := rfl
      have hp := p.val_len
      rw [e, e2, List.drop_append, ← ih k]
      rw [List.drop_eq_nil_of_le (by omega), List.nil_append, show (k + 1) * 12 - p.val.toList.length = k * 12 by omega]
def SR (W : World) (B : Nat) (v : Value) (S : List Se) : Prop := W.ownsRow B 60 12 v S.length (ses S) ∧ ∀ e, e ∈ S → KI.R 3 W B All (.slice e.A e.ts.length e.c) e.ts ∧ Good e.n e.ts e.s.size ∧ e.ts.length ≤ 140 ∧ e.s.size ≤ 1000
theorem SR.ef {W W' : World} {B B' : Nat} {T : List TypeId} {v : Value} {S : List Se} (h : SR W B v S) (k : Ef B' T W W') (h1 : 60 ∉ T) (h2 : 3 ∉ T) : SR W' B v S :=
  ⟨own_ef h.1 k h1, fun e he => ⟨KI_ef (h.2 e he).1 k h2, (h.2 e he).2⟩⟩
theorem SR.out {W W' : World} {B : Nat} {v : Value} {S : List Se} (h : SR W B v S) (hb : Below W.heap.size W W') : SR W' B v S := h.ef (B' := B) (T := []) (Ef.of_below hb) (by simp) (by simp)
/-- a parcel comes from a sent message -/
def PcOk (S : List Se) (p : Pc) : Prop := ∃ e, e ∈ S ∧ (p.tu = false → p.fr.data.toList = e.fr) ∧ Win p.fr.data.toList e.fr
theorem PcOk.more {S : List Se} {p : Pc} (h : PcOk S p) (e : Se) : PcOk (S ++ [e]) p := by
  obtain ⟨x, hx, h1⟩ := h
  exact ⟨x, List.mem_append_left _ hx, h1⟩
theorem PcOk.step {S : List Se} {l l' : List Pc} (h : NStep l l') (hl : ∀ p, p ∈ l → PcOk S p) : ∀ p, p ∈ l' → PcOk S p := by
  intro p hp
  rcases h.2 p hp with hp | ⟨p0, hp0, h1, h2, h3⟩
  · exact hl p hp
  · obtain ⟨e, he, h4, h5⟩ := hl p0 hp0
    have h6 := h4 h1
    rw [h6] at h3
    exact ⟨e, he, (fun h => by rw [h2] at h; cases h), h3⟩
theorem eq_of_lbit (a q : List UInt8) (h : a.length = q.length) (hj : ∀ j, lbit a j = lbit q j) : a = q := by
  refine List.ext_getElem h fun i h1 h2 => ?_
  apply UInt8.toBitVec_inj.1
  apply BitVec.eq_of_getLsbD_eq
  intro b hb
  have := hj (8 * i + b)
  unfold lbit at this
  rw [show (8 * i + b) / 8 = i by omega, show (8 * i + b) % 8 = b by omega] at this
  rw [List.getD_eq_getElem?_getD, List.getD_eq_getElem?_getD, List.getElem?_eq_getElem h1, List.getElem?_eq_getElem h2] at this
  exact this
/-- what is read of a parcel: a sent message, or, of a turned one, an error -/
theorem PcOk.read {S : List Se} {p : Pc} (h : PcOk S p) (hg : ∀ e, e ∈ S → Good e.n e.ts e.s.size) : ((unpackL p.fr.data.toList).2.1 ≠ 0 ∧ p.tu = true) ∨ ∃ e, e ∈ S ∧ p.fr.data.toList = e.fr := by
  obtain ⟨e, he, h1, h2, k, h3⟩ := h
  by_cases hu : (unpackL p.fr.data.toList).2.1 = 0
  · exact .inr ⟨e, he, eq_of_lbit _ _ h2 (burst_told _ _ k h2 h3 hu)⟩
  · cases ht : p.tu with
    | true => exact .inl ⟨hu, rfl⟩
    | false => exact .inr ⟨e, he, h1 ht⟩
end Go.Proofs.Ytjlfoiocceepjaa
