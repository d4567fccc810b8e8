/-
  HolderPlays: what a round keeps.
-/
import Derived.Test.YtefllgpehhlkoaaHPlaysA
namespace Go.Proofs.Ytefllgpehhlkoaa
open Go.RowKit Go.Maps
set_option linter.unusedVariables false

def act8 (z : Nat → Int) : Obj := .cells #[.int .i64 (z 0), .int .i64 (z 1), .int .i64 (z 2), .int .i64 (z 3), .int .i64 (z 4), .int .i64 (z 5), .int .i64 (z 6), .int .i64 (z 7)] 92
structure Act8 (w : World) (b : Nat) (z : Nat → Int) : Prop where
  c0 : w.cell? ⟨b, 0, none⟩ = some (.int .i64 (z 0))
  c1 : w.cell? ⟨b, 1, none⟩ = some (.int .i64 (z 1))
  c2 : w.cell? ⟨b, 2, none⟩ = some (.int .i64 (z 2))
  c3 : w.cell? ⟨b, 3, none⟩ = some (.int .i64 (z 3))
  c4 : w.cell? ⟨b, 4, none⟩ = some (.int .i64 (z 4))
  c5 : w.cell? ⟨b, 5, none⟩ = some (.int .i64 (z 5))
  c6 : w.cell? ⟨b, 6, none⟩ = some (.int .i64 (z 6))
  c7 : w.cell? ⟨b, 7, none⟩ = some (.int .i64 (z 7))
theorem Act8.of {w : World} {b : Nat} {z : Nat → Int} (hb : w.heap[b]? = some (act8 z)) : Act8 w b z := by
  unfold act8 at hb
  constructor <;> simp [World.cell?, hb]

/-- the two states, and the act -/
structure Ha (w W : World) (A : Nat) (z : Nat → Int) (L C : Int) (ws hs xs ys : Pairs) (m1 m2 : Option Nat) (v1 v2 u un : Value) (ls ns : List Int) : Prop where
  main : Hp w W L C ws hs xs ys m1 m2 v1 v2 u un ls ns
  blk : W.heap[A]? = some (act8 z)
  lo : w.heap.size + 2 ≤ A
section
variable {w W W' : World} {A : Nat} {z : Nat → Int} {L C : Int} {ws hs xs ys : Pairs} {m1 m2 : Option Nat} {v1 v2 u un : Value} {ls ns : List Int}
theorem Ha.la (k : Ha w W A z L C ws hs xs ys m1 m2 v1 v2 u un ls ns) : A < W.heap.size := (Array.getElem?_eq_some_iff.1 k.blk).1
theorem Ha.act (k : Ha w W A z L C ws hs xs ys m1 m2 v1 v2 u un ls ns) : Act8 W A z := Act8.of k.blk
theorem Ha.kept (k : Ha w W A z L C ws hs xs ys m1 m2 v1 v2 u un ls ns) (o : Only W.heap.size W.heap.size W W') : Ha w W' A z L C ws hs xs ys m1 m2 v1 v2 u un ls ns :=
  ⟨k.main.kept o, by rw [o.block A k.la (.inl k.la)]; exact k.blk, k.lo⟩
theorem ha_start (k : Hp w W L C ws hs xs ys m1 m2 v1 v2 u un ls ns) (z : Nat → Int) : Ha w (W.alloc (act8 z)) W.heap.size z L C ws hs xs ys m1 m2 v1 v2 u un ls ns :=
  ⟨k.kept ((Only.refl _ _ W).alloc _), top_at _ _ _ rfl, k.size⟩
theorem Ha.appP (k : Ha w W A z L C ws hs xs ys m1 m2 v1 v2 u un ls ns) {u' : Value} {ls' : List Int} (h : Own W' (w.heap.size + 2) u' ls') (g : W.grownBy W' u.ownBlock) (hat : u'.ownBlock = u.ownBlock ∨ u'.ownBlock = some W.heap.size) : Ha w W' A z L C ws hs xs ys m1 m2 v1 v2 u' un ls' ns :=
  ⟨k.main.appP h g hat, by rw [g.block A k.la (fun e => row_neBlk (cs := []) k.main.p k.blk (by decide) e.symm)]; exact k.blk, k.lo⟩
end

/-- and a new pair of states, at bt and bu -/
structure Hm (w W : World) (bt bu A : Nat) (z : Nat → Int) (L C : Int) (ws hs xs ys : Pairs) (m1 m2 : Option Nat) (v1 v2 u un : Value) (ls ns : List Int) (TL TC : Int) (Tw Th : Pairs) (n1 n2 : Option Nat) (YL YC : Int) (Xw Xh : Pairs) (u1 u2 : Value) : Prop where
  main : Ha w W A z L C ws hs xs ys m1 m2 v1 v2 u un ls ns
  t : HVar W bt ⟨TL, TC, Tw, Th⟩ n1 n2
  y : RBox W bu (.int .i64 YL) (.int .i64 YC) u1 u2
  yo : XIs W (w.heap.size + 2) Xw Xh u1 u2
  ne : bt ≠ bu
  far : ∀ g, Foot w m1 m2 v1 v2 u un g → g ≠ bt ∧ g ≠ bu
  fy : ∀ g, u1.ownBlock = some g ∨ u2.ownBlock = some g → g ≠ bt ∧ g ≠ bu
  aT : A ≠ bt ∧ A ≠ bu
  lo : w.heap.size + 2 ≤ bt ∧ w.heap.size + 2 ≤ bu
section
variable {w W W' : World} {bt bu A : Nat} {z : Nat → Int} {L C : Int} {ws hs xs ys : Pairs} {m1 m2 : Option Nat} {v1 v2 u un : Value} {ls ns : List Int} {TL TC : Int} {Tw Th : Pairs} {n1 n2 : Option Nat} {YL YC : Int} {Xw Xh : Pairs} {u1 u2 : Value}
theorem Hm.lu (k : Hm w W bt bu A z L C ws hs xs ys m1 m2 v1 v2 u un ls ns TL TC Tw Th n1 n2 YL YC Xw Xh u1 u2) : bu < W.heap.size := World.block_lt_of_cell? W _ k.y.c0
theorem Hm.kept (k : Hm w W bt bu A z L C ws hs xs ys m1 m2 v1 v2 u un ls ns TL TC Tw Th n1 n2 YL YC Xw Xh u1 u2) (o : Only W.heap.size W.heap.size W W') : Hm w W' bt bu A z L C ws hs xs ys m1 m2 v1 v2 u un ls ns TL TC Tw Th n1 n2 YL YC Xw Xh u1 u2 :=
  ⟨k.main.kept o, k.t.kept o, k.y.kept o k.lu (.inl k.lu), k.yo.grown o, k.ne, k.far, k.fy, k.aT, k.lo⟩
theorem Hm.setT (k : Hm w W bt bu A z L C ws hs xs ys m1 m2 v1 v2 u un ls ns TL TC Tw Th n1 n2 YL YC Xw Xh u1 u2) {TL' TC' : Int} {Tw' Th' : Pairs} {n1' n2' : Option Nat} (h1 : MapIs pairE W n1' Tw') (h2 : MapIs pairE W n2' Th') :
    Hm w (World.four W bt TL' TC' n1' n2') bt bu A z L C ws hs xs ys m1 m2 v1 v2 u un ls ns TL' TC' Tw' Th' n1' n2' YL YC Xw Xh u1 u2 := by
  have o := four_only W bt TL' TC' n1' n2'
  have hl := k.lo
  have hne := k.ne
  have haT := k.aT
  have hlt := k.t.lt
  have hlu := k.lu
  have hm : Hp w (World.four W bt TL' TC' n1' n2') L C ws hs xs ys m1 m2 v1 v2 u un ls ns := k.main.main.stays (k.main.main.only.fresh (o.mono (by omega) (Nat.le_refl _))) o.size fun g hg => o.block g (k.main.main.lt hg) (by have := (k.far g hg).1; omega)
  refine ⟨⟨hm, by rw [o.block A k.main.la (by omega)]; exact k.main.blk, k.main.lo⟩, k.t.set (h' := ⟨TL', TC', Tw', Th'⟩) h1 h2, k.y.kept o hlu (by omega), ⟨k.yo.ws.staysX fun g hg => o.block g (k.yo.ws.blocks g hg).2 ?_, k.yo.hs.staysX fun g hg => o.block g (k.yo.hs.blocks g hg).2 ?_⟩, k.ne, k.far, k.fy, k.aT, k.lo⟩
  · have := (k.fy g (.inl hg)).1; omega
  · have := (k.fy g (.inr hg)).1; omega
theorem Hm.setY (k : Hm w W bt bu A z L C ws hs xs ys m1 m2 v1 v2 u un ls ns TL TC Tw Th n1 n2 YL YC Xw Xh u1 u2) {YL' YC' : Int} {Xw' Xh' : Pairs} {u1' u2' : Value} (hx : XIs W (w.heap.size + 2) Xw' Xh' u1' u2') (hf : ∀ g, u1'.ownBlock = some g ∨ u2'.ownBlock = some g → g ≠ bt ∧ g ≠ bu) :
    Hm w (World.rset W bu (.int .i64 YL') (.int .i64 YC') u1' u2') bt bu A z L C ws hs xs ys m1 m2 v1 v2 u un ls ns TL TC Tw Th n1 n2 YL' YC' Xw' Xh' u1' u2' := by
  have o := rset_only W bu (.int .i64 YL') (.int .i64 YC') u1' u2'
  have hl := k.lo
  have hne := k.ne
  have haT := k.aT
  have hlt := k.t.lt
  have hlu := k.lu
  have hm : Hp w (World.rset W bu (.int .i64 YL') (.int .i64 YC') u1' u2') L C ws hs xs ys m1 m2 v1 v2 u un ls ns := k.main.main.stays (k.main.main.only.fresh (o.mono (by omega) (Nat.le_refl _))) o.size fun g hg => o.block g (k.main.main.lt hg) (by have := (k.far g hg).2; omega)
  refine ⟨⟨hm, by rw [o.block A k.main.la (by omega)]; exact k.main.blk, k.main.lo⟩, k.t.staysH o.size (o.block _ hlt (by omega)) (fun g hg => o.block g (k.t.wants.ltH g hg) ?_) (fun g hg => o.block g (k.t.has.ltH g hg) ?_), k.y.set, ⟨hx.ws.staysX fun g hg => o.block g (hx.ws.blocks g hg).2 ?_, hx.hs.staysX fun g hg => o.block g (hx.hs.blocks g hg).2 ?_⟩, k.ne, k.far, hf, k.aT, k.lo⟩
  · have := k.t.wants.neR k.y g hg; omega
  · have := k.t.has.neR k.y g hg; omega
  · have := (hf g (.inl hg)).2; omega
  · have := (hf g (.inr hg)).2; omega
theorem Hm.appN (k : Hm w W bt bu A z L C ws hs xs ys m1 m2 v1 v2 u un ls ns TL TC Tw Th n1 n2 YL YC Xw Xh u1 u2) {un' : Value} {ns' : List Int} (h : Own W' (w.heap.size + 2) un' ns') (g : W.grownBy W' un.ownBlock) (hat : un'.ownBlock = un.ownBlock ∨ un'.ownBlock = some W.heap.size) :
    Hm w W' bt bu A z L C ws hs xs ys m1 m2 v1 v2 u un' ls ns' TL TC Tw Th n1 n2 YL YC Xw Xh u1 u2 := by
  have hlt := k.t.lt
  have hlu := k.lu
  have hn := k.main.main.n
  have hb : ∀ b, b < W.heap.size → (un.ownBlock = some b → False) → W'.heap[b]? = W.heap[b]? := fun b hb h2 => g.block b hb (fun e => h2 e.symm)
  have hu : ∀ b, un.ownBlock = some b → b ≠ bt ∧ b ≠ bu := fun b e => k.far b (by simp [Foot, e])
  refine ⟨⟨k.main.main.appN h g hat, by rw [hb A k.main.la fun e => row_neBlk (cs := []) hn k.main.blk (by decide) e]; exact k.main.blk, k.main.lo⟩, k.t.staysH g.size (hb _ hlt fun e => (hu _ e).1 rfl) (fun b e => hb b (k.t.wants.ltH b e) fun e2 => ?_) (fun b e => hb b (k.t.has.ltH b e) fun e2 => ?_), k.y.same (hb _ hlu fun e => (hu _ e).2 rfl),
    ⟨k.yo.ws.staysX fun b e => hb b (k.yo.ws.blocks b e).2 fun e2 => row_ne hn k.yo.ws (by decide) e2 e, k.yo.hs.staysX fun b e => hb b (k.yo.hs.blocks b e).2 fun e2 => row_ne hn k.yo.hs (by decide) e2 e⟩, k.ne, fun b hf => ?_, k.fy, k.aT, k.lo⟩
  · subst e; exact row_neMap hn (E := pairE) (show MapAt pairE W b Tw from k.t.wants) e2
  · subst e; exact row_neMap hn (E := pairE) (show MapAt pairE W b Th from k.t.has) e2
  · have hold : (un'.ownBlock = some b → False) → Foot w m1 m2 v1 v2 u un b := by
      intro hno
      simp only [Foot] at hf ⊢
      rcases hf with h1 | h1 | h1 | h1 | h1 | h1 | h1 | h1
      · simp [h1]
      · simp [h1]
      · simp [h1]
      · simp [h1]
      · simp [h1]
      · simp [h1]
      · simp [h1]
      · exact absurd h1 hno
    by_cases e : un'.ownBlock = some b
    · rcases hat with h1 | h1
      · exact hu b (by rw [← h1]; exact e)
      · rw [h1] at e
        cases e
        exact ⟨by omega, by omega⟩
    · exact k.far b (hold e)
/-- what a call of the document's leaves does not lie where the new states lie -/
theorem Hm.left (k : Hm w W bt bu A z L C ws hs xs ys m1 m2 v1 v2 u un ls ns TL TC Tw Th n1 n2 YL YC Xw Xh u1 u2) {u1' u2' : Value} {a b : List Rec3} (h1 : u1' = v1 ∨ OwnS layW W' W.heap.size u1' a) (h2 : u2' = v2 ∨ OwnS layH W' W.heap.size u2' b) :
    ∀ g, u1'.ownBlock = some g ∨ u2'.ownBlock = some g → g ≠ bt ∧ g ≠ bu := by
  have hlt := k.t.lt
  have hlu := k.lu
  intro g hg
  rcases hg with hg | hg
  · rcases h1 with rfl | h1
    · exact k.far g (by simp [Foot, hg])
    · have := (h1.blocks g hg).1; exact ⟨by omega, by omega⟩
  · rcases h2 with rfl | h2
    · exact k.far g (by simp [Foot, hg])
    · have := (h2.blocks g hg).1; exact ⟨by omega, by omega⟩
/-- both are copied -/
theorem hm_start (k : Ha w W A z L C ws hs xs ys m1 m2 v1 v2 u un ls ns) (h1 : HVar W' bt ⟨L, C, ws, hs⟩ m1 m2) (h2 : RBox W' bu (.int .i64 L) (.int .i64 C) v1 v2) (o : Only W.heap.size W.heap.size W W') (hne : bt ≠ bu) (hb : W.heap.size ≤ bt) (hb2 : W.heap.size ≤ bu) :
    Hm w W' bt bu A z L C ws hs xs ys m1 m2 v1 v2 u un ls ns L C ws hs m1 m2 L C xs ys v1 v2 := by
  have hz := k.main.size
  have hA := k.la
  have k' := k.kept o
  refine ⟨k', h1, h2, k'.main.o, hne, fun g hg => ?_, fun g hg => ?_, ⟨by omega, by omega⟩, ⟨by omega, by omega⟩⟩
  · have := k.main.lt hg; exact ⟨by omega, by omega⟩
  · have hg' : Foot w m1 m2 v1 v2 u un g := by rcases hg with hg | hg <;> simp [Foot, hg]
    have := k.main.lt hg'
    exact ⟨by omega, by omega⟩
end

/-- the copies, in either order -/
theorem hm_copy {w W : World} {A : Nat} {z : Nat → Int} {L C : Int} {ws hs xs ys : Pairs} {m1 m2 : Option Nat} {v1 v2 u un : Value} {ls ns : List Int} (k : Ha w W A z L C ws hs xs ys m1 m2 v1 v2 u un ls ns) :
    Hm w ((W.alloc (.cells #[.int .i64 L, .int .i64 C, .map m1, .map m2] 41)).alloc (.cells #[.int .i64 L, .int .i64 C, v1, v2] 90)).drew W.heap.size (W.heap.size + 1) A z L C ws hs xs ys m1 m2 v1 v2 u un ls ns L C ws hs m1 m2 L C xs ys v1 v2 := by
  have V := (HVar.new (w := W) (h := ⟨L, C, ws, hs⟩) (m1 := m1) (m2 := m2) k.main.s.wants k.main.s.has).kept (((Only.refl _ _ _).alloc (.cells #[.int .i64 L, .int .i64 C, v1, v2] 90)).drew)
  exact hm_start k V ((RBox.of (top_at _ _ _ (by simp))).same rfl) (((Only.refl _ _ W).alloc _).alloc _).drew (by omega) (Nat.le_refl _) (by omega)
theorem hm_copy2 {w W : World} {A : Nat} {z : Nat → Int} {L C : Int} {ws hs xs ys : Pairs} {m1 m2 : Option Nat} {v1 v2 u un : Value} {ls ns : List Int} (k : Ha w W A z L C ws hs xs ys m1 m2 v1 v2 u un ls ns) :
    Hm w ((W.alloc (.cells #[.int .i64 L, .int .i64 C, v1, v2] 90)).alloc (.cells #[.int .i64 L, .int .i64 C, .map m1, .map m2] 41)).drew (W.heap.size + 1) W.heap.size A z L C ws hs xs ys m1 m2 v1 v2 u un ls ns L C ws hs m1 m2 L C xs ys v1 v2 := by
  have o1 : Only W.heap.size W.heap.size W (W.alloc (.cells #[.int .i64 L, .int .i64 C, v1, v2] 90)) := (Only.refl _ _ W).alloc _
  have V := (HVar.new (w := W.alloc (.cells #[.int .i64 L, .int .i64 C, v1, v2] 90)) (h := ⟨L, C, ws, hs⟩) (m1 := m1) (m2 := m2) (mapIs_out k.main.s.wants o1) (mapIs_out k.main.s.has o1)).kept ((Only.refl _ _ _).drew)
  have e : (W.alloc (.cells #[.int .i64 L, .int .i64 C, v1, v2] 90)).heap.size = W.heap.size + 1 := by simp
  rw [e] at V
  exact hm_start k V ((RBox.of ((low_at _ _ _ (by simp)).trans (top_at _ _ _ rfl))).same rfl) (((Only.refl _ _ W).alloc _).alloc _).drew (by omega) (by omega) (Nat.le_refl _)

/-- the bounds that a round needs -/
structure Hk (k : Nat) (L C : Int) (ws hs xs ys : Pairs) (ls ns : List Int) : Prop where
  wf : ∀ i, i < ls.length → (Lit.int .i64 (nth ls i)).wf = true
  pls : ls.length ≤ k
  nls : ns.length ≤ k
  len : HLen k ⟨L, C, xs, ys⟩
  simW : Sim ws xs
  simH : Sim hs ys
theorem Hk.sim {k : Nat} {L C : Int} {ws hs xs ys : Pairs} {ls ns : List Int} (h : Hk k L C ws hs xs ys ls ns) : SimS ⟨L, C, ws, hs⟩ ⟨L, C, xs, ys⟩ := ⟨rfl, rfl, h.simW, h.simH⟩
def HpRel (w : World) (len : Nat) (uv nv iv : Value) (W : World) : Prop :=
  ∃ (i : Nat) (L C : Int) (ws hs xs ys : Pairs) (m1 m2 : Option Nat) (v1 v2 : Value) (ls ns : List Int), iv = .int .i64 i ∧ i ≤ 30 ∧ i ≤ len ∧ Hp w W L C ws hs xs ys m1 m2 v1 v2 uv nv ls ns ∧ Hk (10 + 3 * i) L C ws hs xs ys ls ns
theorem hp_start (w : World) (L C : Int) : Hp w ((((w.alloc (.cells #[.int .i64 L, .int .i64 C, .map none, .map none] 41)).alloc (.cells #[.int .i64 L, .int .i64 C, .slice none 0 0, .slice none 0 0] 90)).alloc (.cells #[] 3)).alloc (.cells #[] 3)) L C [] [] [] [] none none (.slice none 0 0) (.slice none 0 0) (.slice (some ⟨w.heap.size + 1 + 1, 0, none⟩) 0 0) (.slice (some ⟨w.heap.size + 1 + 1 + 1, 0, none⟩) 0 0) [] [] := by
  have V := HVar.new (w := w) (h := ⟨L, C, [], []⟩) (m1 := none) (m2 := none) rfl rfl
  have V2 := V.kept ((((Only.refl _ _ _).alloc (.cells #[.int .i64 L, .int .i64 C, .slice none 0 0, .slice none 0 0] 90)).alloc (.cells #[] 3)).alloc (.cells #[] 3))
  refine ⟨V2, RBox.of ((low_at _ _ _ (by first | (simp; done) | (simp; omega))).trans ((low_at _ _ _ (by simp)).trans (top_at _ _ _ (by simp)))), ⟨OwnS.nil _ _ _, OwnS.nil _ _ _⟩, ?_, ?_, fun g h1 h2 => ?_, ((((Only.refl _ _ w).alloc _).alloc _).alloc _).alloc _, by simp⟩
  · have h0 := Own.empty ((w.alloc (.cells #[.int .i64 L, .int .i64 C, .map none, .map none] 41)).alloc (.cells #[.int .i64 L, .int .i64 C, .slice none 0 0, .slice none 0 0] 90)) (w.heap.size + 2) (by simp)
    have e : ((w.alloc (.cells #[.int .i64 L, .int .i64 C, .map none, .map none] 41)).alloc (.cells #[.int .i64 L, .int .i64 C, .slice none 0 0, .slice none 0 0] 90)).heap.size = w.heap.size + 1 + 1 := by simp
    rw [e] at h0
    exact h0.staysH fun g hg => (low_at _ _ _ (World.ownsRow.lt h0 g hg).2)
  · have h0 := Own.empty (((w.alloc (.cells #[.int .i64 L, .int .i64 C, .map none, .map none] 41)).alloc (.cells #[.int .i64 L, .int .i64 C, .slice none 0 0, .slice none 0 0] 90)).alloc (.cells #[] 3)) (w.heap.size + 2) (by simp)
    have e : (((w.alloc (.cells #[.int .i64 L, .int .i64 C, .map none, .map none] 41)).alloc (.cells #[.int .i64 L, .int .i64 C, .slice none 0 0, .slice none 0 0] 90)).alloc (.cells #[] 3)).heap.size = w.heap.size + 1 + 1 + 1 := by simp
    rw [e] at h0
    exact h0
  · simp [Value.ownBlock] at h1 h2
    omega
end Go.Proofs.Ytefllgpehhlkoaa
