/-
  HolderPlays: what its loop keeps.
-/
import Derived.Test.YtefllgpehhlkoaaAlikeH
import Derived.Maps.AppendAt
namespace Go.Proofs.Ytefllgpehhlkoaa
open Go.RowKit Go.Maps
set_option linter.unusedVariables false

theorem Own.staysH {w w' : World} {base : Nat} {v : Value} {l : List Int} (h : Own w base v l) (hk : ∀ g, v.ownBlock = some g → w'.heap[g]? = w.heap[g]?) : Own w' base v l := by
  obtain ⟨h1, h2 | ⟨g, cap, cur, hv, hg, hh, r⟩⟩ := h
  · exact ⟨h1, .inl h2⟩
  · exact ⟨h1, .inr ⟨g, cap, cur, hv, hg, by rw [hk g (by rw [hv]; rfl)]; exact hh, r⟩⟩
theorem Own.slH {w : World} {base : Nat} {a : Option Addr} {cap : Nat} {l : List Int} (h : Own w base (.slice a l.length cap) l) : Sl w w.heap.size a cap l := by
  obtain ⟨a', c', hv, hs⟩ := h.row
  cases hv
  exact hs
/-- 'append(x, y)' of one int, at the operation: where the row lies now -/
theorem wpList_append_int_at (w : World) {ops : Array Oper} {rest : List Oper} {o : Oper} {a : Act} {Q : Exit → Act → World → Prop} (hgd : o.guard = none) (s x : Operand)
    (ho : o.op = .call { callee := .builtin .append, args := #[s, x], argTypes := #[22, 22] }) (base : Nat) (v : Value) (xs : List Int) (y : Int) (hs : a.eval s = v) (hown : Own w base v xs)
    (g : Nat) (hx : a.eval x = .slice (some ⟨g, 0, none⟩) 1 1) (hc : w.cell? ⟨g, 0, none⟩ = some (.int .i64 y)) (h63 : xs.length ≤ 1000000) (hbase : base ≤ w.heap.size)
    (h : ∀ v' w', Own w' base v' (xs ++ [y]) → w.grownBy w' v.ownBlock → (v'.ownBlock = v.ownBlock ∨ v'.ownBlock = some w.heap.size) → wpList Try.prog ops Q rest (a.put o.dst v') w') : wpList Try.prog ops Q (o :: rest) a w := by
  obtain ⟨i0, hi, hz0, hz1, hz2⟩ := info_parts info3
  refine Go.wpList_append_own_at w hgd s x 22 ho base 3 i0 (.int .i64 0) 1 8 Try.underlying22 hi hz0 hz1 hz2 rfl (by decide) v _ _ hs hown ⟨g, 0, none⟩ 1 1 [.int .i64 y] hx rfl ?_ ?_ (by unfold maxLen; omega) (by omega) hbase ?_
  · intro j u hj
    match j, hj with
    | 0, hj =>
      simp at hj
      subst hj
      simpa [Addr.add] using hc
  · intro u hu
    simp at hu
    subst hu
    rfl
  · intro v' w' h1 h2 _ h4
    refine h v' w' ?_ h2 h4
    unfold Own
    rw [List.length_append, List.map_append]
    exact h1
theorem row_ne {w : World} {b : Nat} {e e' : TypeId} {k k' n n' : Nat} {b1 b2 : Nat} {u v : Value} {xs ys : List Value} (h : w.ownsRow b1 e k u n xs) (h' : w.ownsRow b2 e' k' v n' ys) (he : e ≠ e') (hu : u.ownBlock = some b) (hv : v.ownBlock = some b) : False := by
  obtain ⟨_, h2 | ⟨g1, _, cur1, e1, _, hh1, _⟩⟩ := h
  · rw [h2.1] at hu; cases hu
  · obtain ⟨_, k2 | ⟨g2, _, cur2, e2, _, hh2, _⟩⟩ := h'
    · rw [k2.1] at hv; cases hv
    · rw [e1] at hu
      rw [e2] at hv
      cases hu
      cases hv
      rw [hh1] at hh2
      injection hh2 with hh2
      injection hh2 with _ ht
      exact he ht
theorem row_neMap {α : Type} {E : Elem α} {w : World} {m : Nat} {e : TypeId} {k n b1 : Nat} {u : Value} {xs : List Value} {es : List (Int × α)} (h : w.ownsRow b1 e k u n xs) (hm : MapAt E w m es) (hu : u.ownBlock = some m) : False := by
  obtain ⟨_, h2 | ⟨g1, _, cur1, e1, _, hh1, _⟩⟩ := h
  · rw [h2.1] at hu; cases hu
  · obtain ⟨arr, clock, hb, _⟩ := hm.reads
    rw [e1] at hu
    cases hu
    rw [hh1] at hb
    cases hb
theorem row_neBlk {w : World} {A : Nat} {e t : TypeId} {k n b1 : Nat} {u : Value} {xs cs : List Value} {ar : Array Value} (h : w.ownsRow b1 e k u n xs) (hk : w.heap[A]? = some (.cells ar t)) (ht : t ≠ e) (hu : u.ownBlock = some A) : False := by
  obtain ⟨_, h2 | ⟨g1, _, cur1, e1, _, hh1, _⟩⟩ := h
  · rw [h2.1] at hu; cases hu
  · rw [e1] at hu
    cases hu
    rw [hh1] at hk
    injection hk with hk
    injection hk with _ h3
    exact ht h3.symm
theorem MapIs.staysH {α : Type} {E : Elem α} {W W' : World} {m : Option Nat} {es : List (Int × α)} (h : MapIs E W m es) (hk : ∀ b, m = some b → W'.heap[b]? = W.heap[b]?) : MapIs E W' m es := by
  cases m with
  | none => exact h
  | some b =>
    have h' : MapAt E W b es := h
    obtain ⟨arr, clock, hb, r⟩ := h'.reads
    exact r W' b (by rw [hk b rfl]; exact hb)
theorem MapIs.ltH {α : Type} {E : Elem α} {W : World} {m : Option Nat} {es : List (Int × α)} (h : MapIs E W m es) : ∀ b, m = some b → b < W.heap.size := by
  intro b e
  subst e
  have h' : MapAt E W b es := h
  exact h'.lt
theorem MapIs.neR {α : Type} {E : Elem α} {w : World} {b : Nat} {m : Option Nat} {es : List (Int × α)} {x0 x1 x2 x3 : Value} (h : MapIs E w m es) (k : RBox w b x0 x1 x2 x3) : ∀ x, m = some x → x ≠ b := by
  intro x hx e
  subst hx
  subst e
  have h' : MapAt E w x es := h
  have := h'.no_cell (i := 0)
  rw [k.c0] at this
  cases this
theorem HVar.staysH {w w' : World} {b : Nat} {h : HS} {m1 m2 : Option Nat} (k : HVar w b h m1 m2) (hs : w.heap.size ≤ w'.heap.size) (hb : w'.heap[b]? = w.heap[b]?) (h1 : ∀ g, m1 = some g → w'.heap[g]? = w.heap[g]?) (h2 : ∀ g, m2 = some g → w'.heap[g]? = w.heap[g]?) : HVar w' b h m1 m2 := by
  have hc : ∀ i, w'.cell? ⟨b, i, none⟩ = w.cell? ⟨b, i, none⟩ := fun i => World.cell?_of_block (w := w) hb
  have hf : ∀ i, w'.frozen? ⟨b, i, none⟩ = w.frozen? ⟨b, i, none⟩ := fun i => World.frozen?_of_block (w := w) hb
  exact ⟨⟨by rw [hc]; exact k.box.c0, by rw [hc]; exact k.box.c1, by rw [hc]; exact k.box.c2, by rw [hc]; exact k.box.c3, fun i => by rw [hf]; exact k.box.fr i⟩, k.wants.staysH h1, k.has.staysH h2, Nat.lt_of_lt_of_le k.lt hs⟩

/-- the two states, the places, the numbers -/
structure Hp (w W : World) (L C : Int) (ws hs xs ys : Pairs) (m1 m2 : Option Nat) (v1 v2 u un : Value) (ls ns : List Int) : Prop where
  s : HVar W w.heap.size ⟨L, C, ws, hs⟩ m1 m2
  x : RBox W (w.heap.size + 1) (.int .i64 L) (.int .i64 C) v1 v2
  o : XIs W (w.heap.size + 2) xs ys v1 v2
  p : Own W (w.heap.size + 2) u ls
  n : Own W (w.heap.size + 2) un ns
  pn : ∀ g, u.ownBlock = some g → un.ownBlock = some g → False
  only : Only w.heap.size w.heap.size w W
  size : w.heap.size + 2 ≤ W.heap.size
/-- the blocks that are read -/
def Foot (w : World) (m1 m2 : Option Nat) (v1 v2 u un : Value) (g : Nat) : Prop :=
  g = w.heap.size ∨ g = w.heap.size + 1 ∨ m1 = some g ∨ m2 = some g ∨ v1.ownBlock = some g ∨ v2.ownBlock = some g ∨ u.ownBlock = some g ∨ un.ownBlock = some g
section
variable {w W W' : World} {L C : Int} {ws hs xs ys : Pairs} {m1 m2 : Option Nat} {v1 v2 u un : Value} {ls ns : List Int}
theorem Hp.lt (k : Hp w W L C ws hs xs ys m1 m2 v1 v2 u un ls ns) {g : Nat} (h : Foot w m1 m2 v1 v2 u un g) : g < W.heap.size := by
  have hz := k.size
  rcases h with rfl | rfl | h | h | h | h | h | h
  · omega
  · omega
  · exact k.s.wants.ltH g h
  · exact k.s.has.ltH g h
  · exact (k.o.ws.blocks g h).2
  · exact (k.o.hs.blocks g h).2
  · exact (World.ownsRow.lt k.p g h).2
  · exact (World.ownsRow.lt k.n g h).2
theorem Hp.stays (k : Hp w W L C ws hs xs ys m1 m2 v1 v2 u un ls ns) (o : Only w.heap.size w.heap.size w W') (hz : W.heap.size ≤ W'.heap.size) (hk : ∀ g, Foot w m1 m2 v1 v2 u un g → W'.heap[g]? = W.heap[g]?) : Hp w W' L C ws hs xs ys m1 m2 v1 v2 u un ls ns :=
  ⟨k.s.staysH hz (hk _ (by simp [Foot])) (fun g h => hk g (by simp [Foot, h])) (fun g h => hk g (by simp [Foot, h])), k.x.same (hk _ (by simp [Foot])),
    ⟨k.o.ws.staysX fun g h => hk g (by simp [Foot, h]), k.o.hs.staysX fun g h => hk g (by simp [Foot, h])⟩,
    k.p.staysH fun g h => hk g (by simp [Foot, h]), k.n.staysH fun g h => hk g (by simp [Foot, h]), k.pn, o, Nat.le_trans k.size hz⟩
theorem Hp.kept (k : Hp w W L C ws hs xs ys m1 m2 v1 v2 u un ls ns) (o : Only W.heap.size W.heap.size W W') : Hp w W' L C ws hs xs ys m1 m2 v1 v2 u un ls ns :=
  k.stays (k.only.then o k.only.size) o.size fun g h => o.block g (k.lt h) (.inl (k.lt h))
theorem Hp.grown (k : Hp w W L C ws hs xs ys m1 m2 v1 v2 u un ls ns) {r : Option Nat} (g : W.grownBy W' r) (hr : ∀ b, r = some b → w.heap.size + 2 ≤ b) : Only w.heap.size w.heap.size w W' :=
  ⟨g.os.trans k.only.os, g.tape.trans k.only.tape, g.output.trans k.only.output, Nat.le_trans k.only.size g.size, fun b hb ho => (g.block b (Nat.lt_of_lt_of_le hb k.only.size) (fun e => by have := hr b e.symm; omega)).trans (k.only.block b hb ho)⟩
/-- an append to the places -/
theorem Hp.appP (k : Hp w W L C ws hs xs ys m1 m2 v1 v2 u un ls ns) {u' : Value} {ls' : List Int} (h : Own W' (w.heap.size + 2) u' ls') (g : W.grownBy W' u.ownBlock) (hat : u'.ownBlock = u.ownBlock ∨ u'.ownBlock = some W.heap.size) : Hp w W' L C ws hs xs ys m1 m2 v1 v2 u' un ls' ns := by
  have hz := k.size
  have hp := World.ownsRow.lt k.p
  have hb : ∀ b, b < W.heap.size → (u.ownBlock = some b → False) → W'.heap[b]? = W.heap[b]? := fun b hb h2 => g.block b hb (fun e => h2 e.symm)
  refine ⟨k.s.staysH g.size (hb _ (by omega) fun e => by have := (hp _ e).1; omega) (fun b e => hb b (k.s.wants.ltH b e) fun e2 => ?_) (fun b e => hb b (k.s.has.ltH b e) fun e2 => ?_), k.x.same (hb _ (by omega) fun e => by have := (hp _ e).1; omega),
    ⟨k.o.ws.staysX fun b e => hb b (k.o.ws.blocks b e).2 fun e2 => row_ne k.p k.o.ws (by decide) e2 e, k.o.hs.staysX fun b e => hb b (k.o.hs.blocks b e).2 fun e2 => row_ne k.p k.o.hs (by decide) e2 e⟩, h,
    k.n.staysH fun b e => hb b (World.ownsRow.lt k.n b e).2 fun e2 => k.pn b e2 e, fun b e1 e2 => ?_, k.grown g fun b e => (hp b e).1, Nat.le_trans hz g.size⟩
  · subst e; exact row_neMap k.p (E := pairE) (show MapAt pairE W b ws from k.s.wants) e2
  · subst e; exact row_neMap k.p (E := pairE) (show MapAt pairE W b hs from k.s.has) e2
  · rcases hat with h1 | h1
    · exact k.pn b (by rw [← h1]; exact e1) e2
    · rw [h1] at e1
      cases e1
      have := (World.ownsRow.lt k.n _ e2).2
      omega
/-- an append to the numbers -/
theorem Hp.appN (k : Hp w W L C ws hs xs ys m1 m2 v1 v2 u un ls ns) {u' : Value} {ns' : List Int} (h : Own W' (w.heap.size + 2) u' ns') (g : W.grownBy W' un.ownBlock) (hat : u'.ownBlock = un.ownBlock ∨ u'.ownBlock = some W.heap.size) : Hp w W' L C ws hs xs ys m1 m2 v1 v2 u u' ls ns' := by
  have hz := k.size
  have hp := World.ownsRow.lt k.n
  have hb : ∀ b, b < W.heap.size → (un.ownBlock = some b → False) → W'.heap[b]? = W.heap[b]? := fun b hb h2 => g.block b hb (fun e => h2 e.symm)
  refine ⟨k.s.staysH g.size (hb _ (by omega) fun e => by have := (hp _ e).1; omega) (fun b e => hb b (k.s.wants.ltH b e) fun e2 => ?_) (fun b e => hb b (k.s.has.ltH b e) fun e2 => ?_), k.x.same (hb _ (by omega) fun e => by have := (hp _ e).1; omega),
    ⟨k.o.ws.staysX fun b e => hb b (k.o.ws.blocks b e).2 fun e2 => row_ne k.n k.o.ws (by decide) e2 e, k.o.hs.staysX fun b e => hb b (k.o.hs.blocks b e).2 fun e2 => row_ne k.n k.o.hs (by decide) e2 e⟩,
    k.p.staysH fun b e => hb b (World.ownsRow.lt k.p b e).2 fun e2 => k.pn b e e2, h, fun b e1 e2 => ?_, k.grown g fun b e => (hp b e).1, Nat.le_trans hz g.size⟩
  · subst e; exact row_neMap k.n (E := pairE) (show MapAt pairE W b ws from k.s.wants) e2
  · subst e; exact row_neMap k.n (E := pairE) (show MapAt pairE W b hs from k.s.has) e2
  · rcases hat with h1 | h1
    · exact k.pn b e1 (by rw [← h1]; exact e2)
    · rw [h1] at e2
      cases e2
      have := (World.ownsRow.lt k.p _ e1).2
      omega
/-- a new pair of states is stored -/
theorem Hp.set (k : Hp w W L C ws hs xs ys m1 m2 v1 v2 u un ls ns) {TL TC : Int} {Tw Th Xw Xh : Pairs} {n1 n2 : Option Nat} {u1 u2 : Value} (h1 : MapIs pairE W n1 Tw) (h2 : MapIs pairE W n2 Th) (hx : XIs W (w.heap.size + 2) Xw Xh u1 u2) :
    Hp w (World.rset (World.four W w.heap.size TL TC n1 n2) (w.heap.size + 1) (.int .i64 TL) (.int .i64 TC) u1 u2) TL TC Tw Th Xw Xh n1 n2 u1 u2 u un ls ns := by
  have hz := k.size
  have o1 := four_only W w.heap.size TL TC n1 n2
  have V1 := k.s.set (h' := ⟨TL, TC, Tw, Th⟩) h1 h2
  dsimp only at V1
  have x1 := k.x.kept o1 (by omega) (.inr (Nat.le_refl _))
  have q1 : XIs (World.four W w.heap.size TL TC n1 n2) (w.heap.size + 2) Xw Xh u1 u2 := ⟨hx.ws.keptOnly o1 (by omega), hx.hs.keptOnly o1 (by omega)⟩
  have p1 := k.p.staysH (w' := World.four W w.heap.size TL TC n1 n2) fun g hg => o1.block g (World.ownsRow.lt k.p g hg).2 (by have := (World.ownsRow.lt k.p g hg).1; omega)
  have r1 := k.n.staysH (w' := World.four W w.heap.size TL TC n1 n2) fun g hg => o1.block g (World.ownsRow.lt k.n g hg).2 (by have := (World.ownsRow.lt k.n g hg).1; omega)
  have s1 := o1.size
  generalize World.four W w.heap.size TL TC n1 n2 = V at *
  have o2 := rset_only V (w.heap.size + 1) (.int .i64 TL) (.int .i64 TC) u1 u2
  have s2 := o2.size
  refine ⟨⟨V1.box.kept o2 V1.lt (.inl (Nat.lt_succ_self _)), V1.wants.kept o2 (fun b e => by have := V1.wants.neR x1 b e; omega), V1.has.kept o2 (fun b e => by have := V1.has.neR x1 b e; omega), Nat.lt_of_lt_of_le V1.lt s2⟩, x1.set, ⟨q1.ws.keptOnly o2 (Nat.le_refl _), q1.hs.keptOnly o2 (Nat.le_refl _)⟩,
    p1.staysH fun g hg => o2.block g (World.ownsRow.lt p1 g hg).2 (by have := (World.ownsRow.lt p1 g hg).1; omega), r1.staysH fun g hg => o2.block g (World.ownsRow.lt r1 g hg).2 (by have := (World.ownsRow.lt r1 g hg).1; omega), k.pn, ?_, by omega⟩
  exact (k.only.fresh (o1.mono (Nat.le_refl _) (Nat.le_refl _))).fresh (o2.mono (by omega) (Nat.le_refl _))
end
end Go.Proofs.Ytefllgpehhlkoaa
