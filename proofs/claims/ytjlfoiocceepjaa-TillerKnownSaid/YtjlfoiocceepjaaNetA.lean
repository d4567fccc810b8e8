/-
  What a call may change, told by the blocks' types; rows of parcels and of messages in the memory.
-/
import Derived.Test.YtjlfoiocceepjaaSame
import Derived.Test.YtjlfoiocceepjaaRea
namespace Go.Proofs.Ytjlfoiocceepjaa
open Go.RowKit Go.Proofs.YtjlfoiocceepjaaW.PrintWords Go.Proofs.YtjlfoiocceepjaaW.PrintLast Go.Proofs.YtjlfoiocceepjaaW.PrintMore
set_option linter.unusedVariables false
set_option linter.unusedSimpArgs false

/-- blocks below B are as they were, and blocks of a type that is not in T -/
structure Ef (B : Nat) (T : List TypeId) (w w' : World) : Prop where
  os : w'.os = w.os
  tape : w'.tape = w.tape
  output : w'.output = w.output
  size : w.heap.size ≤ w'.heap.size
  block : ∀ i, i < w.heap.size → (i < B ∨ ∃ cs t mk, w.heap[i]? = some (.cells cs t mk) ∧ t ∉ T) → w'.heap[i]? = w.heap[i]?
section
variable {B : Nat} {T : List TypeId} {w w' w'' : World}
theorem Ef.refl (B : Nat) (T : List TypeId) (w : World) : Ef B T w w := ⟨rfl, rfl, rfl, Nat.le_refl _, fun _ _ _ => rfl⟩
theorem Ef.trans (h : Ef B T w w') (k : Ef B T w' w'') : Ef B T w w'' :=
  ⟨k.os.trans h.os, k.tape.trans h.tape, k.output.trans h.output, Nat.le_trans h.size k.size, fun i hi hc => by
    have h1 := h.block i hi hc
    refine (k.block i (Nat.lt_of_lt_of_le hi h.size) ?_).trans h1
    rcases hc with hc | ⟨cs, t, mk, h2, h3⟩
    · exact .inl hc
    · exact .inr ⟨cs, t, mk, h1.trans h2, h3⟩⟩
theorem Ef.of_below (h : Below w.heap.size w w') : Ef B T w w' := ⟨h.os, h.tape, h.output, h.size, fun i hi _ => h.block i hi⟩
theorem Ef.out (h : Ef B T w w') (k : Below w'.heap.size w' w'') : Ef B T w w'' := h.trans (.of_below k)
theorem Ef.far {b : Nat} {cs : Array Value} {t : TypeId} (hb : Blk w b t cs) (ht : t ∈ T) (hB : B ≤ b) (h : Far b w w') : Ef B T w w' :=
  ⟨h.os, h.tape, h.output, Nat.le_of_eq h.size.symm, fun i hi hc => h.block i (fun e => by
    subst e
    rcases hc with hc | ⟨cs', t', mk, h2, h3⟩
    · omega
    · unfold Blk at hb
      rw [hb] at h2
      simp only [Option.some.injEq, Obj.cells.injEq] at h2
      exact h3 (h2.2.1 ▸ ht))⟩
theorem Ef.below (h : Ef B T w w') {B' : Nat} (hB : B' ≤ B) (hs : B' ≤ w.heap.size) : Below B' w w' :=
  ⟨h.os, h.tape, h.output, h.size, fun i hi => h.block i (by omega) (.inl (by omega))⟩
theorem Ef.mono {T' : List TypeId} (h : Ef B T w w') (hT : ∀ t, t ∈ T → t ∈ T') : Ef B T' w w' :=
  ⟨h.os, h.tape, h.output, h.size, fun i hi hc => h.block i hi (by
    rcases hc with hc | ⟨cs, t, mk, h2, h3⟩
    · exact .inl hc
    · exact .inr ⟨cs, t, mk, h2, fun hm => h3 (hT t hm)⟩)⟩
/-- what an append leaves: the row it went into is of the type e -/
theorem Ef.grown {e : TypeId} {size n : Nat} {v : Value} {xs : List Value} (ho : w.ownsRow B e size v n xs) (he : e ∈ T) (hg : w.grownBy w' v.ownBlock) : Ef B T w w' :=
  ⟨hg.os, hg.tape, hg.output, hg.size, fun i hi hc => by
    refine hg.block i hi (fun e2 => ?_)
    rcases ho.2 with ⟨h1, _⟩ | ⟨g, cap, cur, h1, h2, h3, _⟩
    · rw [h1] at e2; simp [Value.ownBlock] at e2
    · rw [h1] at e2
      simp only [Value.ownBlock, Option.some.injEq] at e2
      subst e2
      rcases hc with hc | ⟨cs', t', mk, h4, h5⟩
      · omega
      · rw [h3] at h4
        simp only [Option.some.injEq, Obj.cells.injEq] at h4
        exact h5 (h4.2.1 ▸ he)⟩
theorem Blk.ef {g : Nat} {t : TypeId} {cs : Array Value} (h : Blk w g t cs) (k : Ef B T w w') (ht : t ∉ T) : Blk w' g t cs :=
  (k.block g h.lt (.inr ⟨cs, t, _, h, ht⟩)).trans h
theorem own_ef {b : Nat} {e : TypeId} {size n : Nat} {v : Value} {xs : List Value} (h : w.ownsRow b e size v n xs) (k : Ef B T w w') (he : e ∉ T) : w'.ownsRow b e size v n xs := by
  refine ⟨h.1, ?_⟩
  rcases h.2 with h1 | ⟨g, cap, cur, h1, h2, h3, h4⟩
  · exact .inl h1
  · have hlt : g < w.heap.size := (Array.getElem?_eq_some_iff.1 h3).1
    exact .inr ⟨g, cap, cur, h1, h2, (k.block g hlt (.inr ⟨cur, e, _, h3, he⟩)).trans h3, h4⟩
theorem KI_ef {b : Nat} {v : Value} {xs : List Int} (h : KI.R 3 w b All v xs) (k : Ef B T w w') (he : 3 ∉ T) : KI.R 3 w' b All v xs := by
  obtain ⟨inner, ho⟩ := Kd.R_own h
  refine Kd.R_mono (Kd.R_step (Kd.R_tight rfl h) (fun i hi hlt => ?_)) (fun _ _ => trivial)
  rcases ho.2 with ⟨h1, _⟩ | ⟨g, cap, cur, h1, h2, h3, h4⟩
  · rw [h1] at hi; simp [Value.ownBlock] at hi
  · rw [h1] at hi
    simp only [Value.ownBlock, Option.some.injEq] at hi
    subst hi
    exact k.block i hlt (.inr ⟨cur, 3, _, h3, he⟩)
end
/-! ### parcels -/
structure Pc where
  dst : Int
  fr : ByteArray
  tu : Bool
def pcC (p : Pc) : List Value := [.int .i64 p.dst, .string p.fr, .bool p.tu]
def pcs (l : List Pc) : List Value := l.flatMap pcC
theorem pcs_length : ∀ l : List Pc, (pcs l).length = l.length * 3
  | [] => rfl
  | p :: l => by
    have := pcs_length l
    unfold pcs at this ⊢
    rw [List.flatMap_cons, List.length_append, this]
    simp [pcC]; omega
theorem pcs_append (a b : List Pc) : pcs (a ++ b) = pcs a ++ pcs b := by simp [pcs]
theorem pcs_one : ∀ (l : List Pc) (v : Value), v ∈ pcs l → v.oneCell' = true := by
  intro l v hv
  unfold pcs at hv
  obtain ⟨p, _, hp⟩ := List.mem_flatMap.1 hv
  simp only [pcC, List.mem_cons, List.mem_nil_iff, or_false] at hp
  rcases hp with rfl | rfl | rfl <;> rfl
theorem pcs_take (l : List Pc) (k : Nat) : (pcs l).take (k * 3) = pcs (l.take k) := by
  induction l generalizing k with
  | nil => simp [pcs]
  | cons p l ih =>
    cases k with
    | zero => simp [pcs]
    | succ k =>
      have e : pcs (p :: l) = pcC p ++ pcs l := rfl
      have e2 : pcs ((p :: l).take (k + 1)) = pcC p ++ pcs (l.take k) := rfl
      have hp : (pcC p).length = 3 := rfl
      rw [e, e2, List.take_append, ← ih k]
      rw [List.take_of_length_le (by omega), show (k + 1) * 3 - (pcC p).length = k * 3 by omega]
theorem pcs_drop (l : List Pc) (k : Nat) : (pcs l).drop (k * 3) = pcs (l.drop k) := by
  induction l generalizing k with
  | nil => simp [pcs]
  | cons p l ih =>
    cases k with
    | zero => simp
    | succ k =>
      have e : pcs (p :: l) = pcC p ++ pcs l := rfl
      have e2 : pcs ((p :: l).drop (k + 1)) = pcs (l.drop k) := rfl
      have hp : (pcC p).length = 3 := rfl
      rw [e, e2, List.drop_append, ← ih k]
      rw [List.drop_eq_nil_of_le (by omega), List.nil_append, show (k + 1) * 3 - (pcC p).length = k * 3 by omega]
/-- a row of parcels of our own -/
def PR (W : World) (B : Nat) (v : Value) (l : List Pc) : Prop := W.ownsRow B 67 3 v l.length (pcs l)
theorem PR.form {W : World} {B : Nat} {v : Value} {l : List Pc} (h : PR W B v l) : ∃ A c, v = .slice A l.length c ∧ l.length ≤ c ∧ c ≤ 9223372036854775807 := by
  rcases h.2 with ⟨h1, h2⟩ | ⟨g, cap, cur, h1, _, _, h4, h5, _⟩
  · exact ⟨none, 0, by rw [h1, h2], by omega, by omega⟩
  · exact ⟨_, cap, h1, h4, by unfold maxLen at h5; exact h5⟩
theorem PR.nil (W : World) (B : Nat) : PR W B (.slice none 0 0) [] := ⟨rfl, .inl ⟨rfl, rfl⟩⟩
theorem PR.out {W W' : World} {B : Nat} {v : Value} {l : List Pc} (h : PR W B v l) (hb : Below W.heap.size W W') : PR W' B v l := own_ef (B := B) (T := []) h (.of_below hb) (by simp)
theorem PR.ef {W W' : World} {B B' : Nat} {T : List TypeId} {v : Value} {l : List Pc} (h : PR W B v l) (k : Ef B' T W W') (he : 67 ∉ T) : PR W' B v l := own_ef h k he
theorem PR.lower {W : World} {B B' : Nat} {v : Value} {l : List Pc} (h : PR W B v l) (hB : B' ≤ B) : PR W B' v l := by
  refine ⟨h.1, ?_⟩
  rcases h.2 with h1 | ⟨g, cap, cur, h1, h2, h3⟩
  · exact .inl h1
  · exact .inr ⟨g, cap, cur, h1, by omega, h3⟩
/-- a parcel's cells -/
theorem PR.at {W : World} {B : Nat} {v : Value} {l : List Pc} (h : PR W B v l) (i : Nat) (hi : i < l.length) : ∃ g c, v = .slice (some ⟨g, 0, none⟩) l.length c ∧ B ≤ g ∧ W.cell? ⟨g, i * 3, none⟩ = some (.int .i64 l[i].dst) ∧ W.cell? ⟨g, i * 3 + 1, none⟩ = some (.string l[i].fr) ∧ W.cell? ⟨g, i * 3 + 2, none⟩ = some (.bool l[i].tu) ∧ (∀ j, W.frozen? ⟨g, j, none⟩ = false) := by
  rcases h.2 with ⟨h1, h2⟩ | ⟨g, cap, cur, h1, h2, h3, h4, h5, h6, h7⟩
  · omega
  · have hb : Blk W g 67 cur := h3
    have hd := pcs_drop l i
    have hc : ∀ k, k < 3 → cur[i * 3 + k]? = (pcs (l.drop i))[k]? := by
      intro k hk
      rw [← hd, List.getElem?_drop, ← h7, List.getElem?_take, if_pos (by omega), Array.getElem?_toList]
    rw [List.drop_eq_getElem_cons hi] at hc
    have e : pcs (l[i] :: l.drop (i + 1)) = pcC l[i] ++ pcs (l.drop (i + 1)) := rfl
    rw [e] at hc
    exact ⟨g, cap, h1, h2, (hb.cell _).trans (hc 0 (by omega)), (hb.cell _).trans (hc 1 (by omega)), (hb.cell _).trans (hc 2 (by omega)), fun j => hb.frozen j⟩
/-- the net -/
structure NetI (B : Nat) (W : World) (g : Nat) (l : List Pc) : Prop where
  net : ∃ (A : Option Addr) (c : Nat) (lost : Int), Blk W g 54 #[.slice A l.length c, .int .i64 lost] ∧ PR W B (.slice A l.length c) l
  lo : B ≤ g
theorem NetI.out {B : Nat} {W W' : World} {g : Nat} {l : List Pc} (h : NetI B W g l) (hb : Below W.heap.size W W') : NetI B W' g l := by
  obtain ⟨⟨A, c, lost, h1, h2⟩, h3⟩ := h
  exact ⟨⟨A, c, lost, h1.out hb, h2.out hb⟩, h3⟩
theorem NetI.ef {B B' : Nat} {T : List TypeId} {W W' : World} {g : Nat} {l : List Pc} (h : NetI B W g l) (k : Ef B' T W W') (h1 : 54 ∉ T) (h2 : 67 ∉ T) : NetI B W' g l := by
  obtain ⟨⟨A, c, lost, h3, h4⟩, h5⟩ := h
  exact ⟨⟨A, c, lost, h3.ef k h1, h4.ef k h2⟩, h5⟩
theorem aggPc : AggTy Try.prog 67 := ⟨_, Try.underlying67, rfl⟩
theorem sizePc : (Try.prog.info? 67).map (·.size) = some 3 := by kernel_rfl
theorem infoPc : (Try.prog.info? 67).map (fun i => (i.zero, i.size, i.bytes)) = some (some (.agg #[.int .i64 0, .string ⟨#[]⟩, .bool false]), 3, 32) := by kernel_rfl
end Go.Proofs.Ytjlfoiocceepjaa
