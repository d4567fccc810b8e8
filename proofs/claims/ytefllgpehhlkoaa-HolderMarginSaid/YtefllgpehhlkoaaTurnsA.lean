/-
  TillerTurns: what its loop keeps.
-/
import Derived.Test.YtefllgpehhlkoaaTurnsP
import Derived.Test.YtefllgpehhlkoaaEarlyW
import Derived.Test.YtefllgpehhlkoaaFrom
import Derived.Deep.RegionHeld3
import Derived.Deep.DeepCutAuto
import Derived.Deep.LoopGhost
import Derived.Deep.Light
import Derived.StillTailTactics
namespace Go.Proofs.Ytefllgpehhlkoaa
open Go.RowKit Go.Maps
set_option linter.unusedVariables false

theorem mapis_none (W : World) : MapIs tripE W none [] := rfl
theorem few_nil (now : Int) : (lasting [] now).length < 1000000 := by simp [lasting]
theorem clk_cell {w : World} {lo p n : Nat} {s : St} (h : Clk w lo (lo + 4) p n s) (hn : 0 < n) (b : Nat) (h1 : lo ≤ b) (h2 : b < lo + 4) : ∃ v, w.cell? ⟨b, 0, none⟩ = some v := by
  obtain ⟨a, b', c, k⟩ := h
  obtain ⟨_, _, c0⟩ := k.c0
  have x0 := k.x0 0 hn
  have x1 := k.x1 0 hn
  have x2 := k.x2 0 hn
  have := k.pa; have := k.pb; have := k.pc; have := k.ab; have := k.ac; have := k.bc
  have := k.sp; have := k.sa; have := k.sb; have := k.sc
  rcases (by omega : b = p ∨ b = a ∨ b = b' ∨ b = c) with rfl | rfl | rfl | rfl
  · exact ⟨_, c0⟩
  · exact ⟨_, x0⟩
  · exact ⟨_, x1⟩
  · exact ⟨_, x2⟩
theorem clk_full {w : World} {lo p n : Nat} {s : St} (h : Clk w lo (lo + 4) p n s) : lo + 4 ≤ w.heap.size := by
  obtain ⟨a, b, c, h⟩ := h
  have := h.sp; have := h.sa; have := h.sb; have := h.sc
  have := h.pa; have := h.pb; have := h.pc; have := h.ab; have := h.ac; have := h.bc
  omega
theorem MapIs.tick {α : Type} {E : Elem α} {w w' : World} {m : Option Nat} {es : List (Int × α)} {lo p n : Nat} {s : St} (h : MapIs E w m es) (k : Clk w lo (lo + 4) p n s) (hn : 0 < n) (o : Only lo (lo + 4) w w') : MapIs E w' m es := by
  refine h.kept o (fun b hb => ?_)
  by_cases hx : lo ≤ b ∧ b < lo + 4
  · obtain ⟨v, hv⟩ := clk_cell k hn b hx.1 hx.2
    subst hb
    have h' : MapAt E w b es := h
    rw [h'.no_cell3] at hv
    cases hv
  · omega
/-- what the loop keeps -/
structure Tt (w W : World) (BP lo Bs p : Nat) (term margin : Int) (a1 : Option Addr) (cap1 : Nat) (l : List Int) (k : Nat) (S : LS) (ms : Option Nat) (H : HS) (m1 m2 : Option Nat) : Prop where
  p0 : W.cell? ⟨BP, 0, none⟩ = some (.int .i64 term)
  p1 : W.cell? ⟨BP, 1, none⟩ = some (.int .i64 margin)
  row : Sl W lo a1 cap1 l
  clk : Clk W lo (lo + 4) p 3 (atK 3 l k)
  sv : LVar W Bs S ms
  hv : HVar W (Bs + 1) H m1 m2
  only : Only w.heap.size w.heap.size w W
  z0 : BP < lo
  z1 : lo + 4 ≤ Bs
  z2 : w.heap.size ≤ BP
theorem Tt.kept {w W W' : World} {BP lo Bs p : Nat} {term margin : Int} {a1 : Option Addr} {cap1 : Nat} {l : List Int} {k : Nat} {S : LS} {ms : Option Nat} {H : HS} {m1 m2 : Option Nat} (t : Tt w W BP lo Bs p term margin a1 cap1 l k S ms H m1 m2) (o : Only W.heap.size W.heap.size W W') :
    Tt w W' BP lo Bs p term margin a1 cap1 l k S ms H m1 m2 := by
  have h1 := t.sv.lt
  have h2 := t.z0
  have h3 := t.z1
  have hb : BP < W.heap.size := by omega
  exact ⟨(o.cell (by exact hb) (.inl (by exact hb))).trans t.p0, (o.cell (by exact hb) (.inl (by exact hb))).trans t.p1, t.row.kept o (by omega) (by omega), t.clk.kept o (.inl (by omega)), t.sv.kept o, t.hv.kept o, t.only.then o t.only.size, t.z0, t.z1, t.z2⟩
theorem Tt.tick {w W W' : World} {BP lo Bs p : Nat} {term margin : Int} {a1 : Option Addr} {cap1 : Nat} {l : List Int} {k : Nat} {S : LS} {ms : Option Nat} {H : HS} {m1 m2 : Option Nat} (t : Tt w W BP lo Bs p term margin a1 cap1 l k S ms H m1 m2) (o : Only lo (lo + 4) W W')
    (hk : k < l.length) (hc : Clk W' lo (lo + 4) p 3 ((atK 3 l k).tick 3 (nth l k))) : Tt w W' BP lo Bs p term margin a1 cap1 l (k + 1) S ms H m1 m2 := by
  have h1 := t.sv.lt
  have h2 := t.z0
  have h3 := t.z1
  have h4 := t.z2
  have h5 := t.hv.lt
  have hb : BP < W.heap.size := by omega
  refine ⟨(o.cell (by exact hb) (.inl (by exact h2))).trans t.p0, (o.cell (by exact hb) (.inl (by exact h2))).trans t.p1, t.row.kept o (by omega) (Nat.le_refl _), by rw [atK_succ 3 l k hk]; exact hc, ⟨t.sv.box.kept o h1 (.inr h3), t.sv.hs.tick t.clk (by omega) o, Nat.lt_of_lt_of_le h1 o.size⟩, ⟨t.hv.box.kept o h5 (.inr (by omega)), t.hv.wants.tick t.clk (by omega) o, t.hv.has.tick t.clk (by omega) o, Nat.lt_of_lt_of_le h5 o.size⟩, t.only.then o (by omega), t.z0, t.z1, t.z2⟩
theorem Tt.setS {w W : World} {BP lo Bs p : Nat} {term margin : Int} {a1 : Option Addr} {cap1 : Nat} {l : List Int} {k : Nat} {S S' : LS} {ms ms' : Option Nat} {H : HS} {m1 m2 : Option Nat} (t : Tt w W BP lo Bs p term margin a1 cap1 l k S ms H m1 m2) (h : MapIs tripE W ms' S'.hs) :
    Tt w (World.three W Bs S'.epoch S'.quiet ms') BP lo Bs p term margin a1 cap1 l k S' ms' H m1 m2 := by
  have o := three_only W Bs S'.epoch S'.quiet ms'
  have h1 := t.sv.lt
  have h2 := t.z0
  have h3 := t.z1
  have h4 := t.z2
  have h5 := t.hv.lt
  have hb : BP < W.heap.size := by omega
  exact ⟨(o.cell (by exact hb) (.inl (by show BP < Bs; omega))).trans t.p0, (o.cell (by exact hb) (.inl (by show BP < Bs; omega))).trans t.p1, t.row.kept o (by omega) (by omega), t.clk.kept o (.inl h3), t.sv.set h, ⟨t.hv.box.kept o h5 (.inr (Nat.le_refl _)), t.hv.wants.three t.sv.box, t.hv.has.three t.sv.box, Nat.lt_of_lt_of_le h5 o.size⟩, t.only.fresh (o.mono (by omega) (Nat.le_refl _)), t.z0, t.z1, t.z2⟩
theorem Tt.setH {w W : World} {BP lo Bs p : Nat} {term margin : Int} {a1 : Option Addr} {cap1 : Nat} {l : List Int} {k : Nat} {S : LS} {ms : Option Nat} {H H' : HS} {m1 m2 n1 n2 : Option Nat} (t : Tt w W BP lo Bs p term margin a1 cap1 l k S ms H m1 m2) (x1 : MapIs pairE W n1 H'.wants) (x2 : MapIs pairE W n2 H'.has) :
    Tt w (World.four W (Bs + 1) H'.life H'.count n1 n2) BP lo Bs p term margin a1 cap1 l k S ms H' n1 n2 := by
  have o := four_only W (Bs + 1) H'.life H'.count n1 n2
  have h1 := t.sv.lt
  have h2 := t.z0
  have h3 := t.z1
  have h4 := t.z2
  have h5 := t.hv.lt
  have hb : BP < W.heap.size := by omega
  exact ⟨(o.cell (by exact hb) (.inl (by show BP < Bs + 1; omega))).trans t.p0, (o.cell (by exact hb) (.inl (by show BP < Bs + 1; omega))).trans t.p1, t.row.kept o (by omega) (by omega), t.clk.kept o (.inl (by omega)), ⟨t.sv.box.kept o h1 (.inl (Nat.lt_succ_self _)), t.sv.hs.four t.hv.box, Nat.lt_of_lt_of_le h1 o.size⟩, t.hv.set x1 x2, t.only.fresh (o.mono (by omega) (Nat.le_refl _)), t.z0, t.z1, t.z2⟩

theorem now1_from {X V : World} (hX : Out X V) {lo p : Nat} {s : St} (h : Clk X lo (lo + 4) p 3 s) : Calls Try.prog 21 #[.pointer (some ⟨p, 0, none⟩), .int .i64 1] V fun e w' => e = .returned (.int .i64 (s.N 1)) ∧ V = w' :=
  now_some V lo (lo + 4) p 3 s (h.kept hX (.inl (clk_full h))) 1 (by decide) (by decide)
theorem now0_from {X V : World} (hX : Out X V) {lo p : Nat} {s : St} (h : Clk X lo (lo + 4) p 3 s) : Calls Try.prog 21 #[.pointer (some ⟨p, 0, none⟩), .int .i64 0] V fun e w' => e = .returned (.int .i64 (s.N 0)) ∧ V = w' :=
  now_some V lo (lo + 4) p 3 s (h.kept hX (.inl (clk_full h))) 0 (by decide) (by decide)
/-- the holder's state, the authority's, ahead of round k -/
def hSt (l : List Int) (a g : Nat) (term margin : Int) (k : Nat) : HS := if k ≤ a then hs0 else if k ≤ g then hs1 ((atK 3 l a).N 1) else hs2 ((atK 3 l a).N 1) ((atK 3 l g).N 1) term margin
def sSt (l : List Int) (g : Nat) (term : Int) (k : Nat) : LS := if k ≤ g then ls0 else ls1 ((atK 3 l g).N 0) term
def TtRel (w : World) (BP lo Bs p : Nat) (term margin : Int) (a1 : Option Addr) (cap1 : Nat) (l : List Int) (a g : Nat) (gk : Nat) (nv fv iv : Value) (W : World) : Prop :=
  ∃ (k : Nat) (num fi : Int) (ms m1 m2 : Option Nat), gk = l.length + 1 - k ∧ k ≤ l.length + 1 ∧ iv = .int .i64 k ∧ nv = .int .i64 num ∧ fv = .int .i64 fi ∧ (num = (if k ≤ a then 0 else 1) ∧ fi = (if k ≤ g then 0 else 1)) ∧ Tt w W BP lo Bs p term margin a1 cap1 l k (sSt l g term k) ms (hSt l a g term margin k) m1 m2

theorem Tt.stay {w W : World} {BP lo Bs p : Nat} {term margin : Int} {a1 : Option Addr} {cap1 : Nat} {l : List Int} {k : Nat} {S : LS} {ms : Option Nat} {H : HS} {m1 m2 : Option Nat} (t : Tt w W BP lo Bs p term margin a1 cap1 l k S ms H m1 m2) (hk : l.length ≤ k) : Tt w W BP lo Bs p term margin a1 cap1 l (k + 1) S ms H m1 m2 :=
  have e : atK 3 l (k + 1) = atK 3 l k := by unfold atK; rw [List.take_of_length_le hk, List.take_of_length_le (by omega)]
  ⟨t.p0, t.p1, t.row, by rw [e]; exact t.clk, t.sv, t.hv, t.only, t.z0, t.z1, t.z2⟩
theorem tt_rel {w W : World} {BP lo Bs p : Nat} {term margin : Int} {a1 : Option Addr} {cap1 : Nat} {l : List Int} {k a g : Nat} {S : LS} {ms : Option Nat} {H : HS} {m1 m2 : Option Nat} {nm fi : Int} {iv : Value} (t : Tt w W BP lo Bs p term margin a1 cap1 l (k + 1) S ms H m1 m2)
    (hs : S = (if k < g then ls0 else ls1 ((atK 3 l g).N 0) term) ∧ H = hSt l a g term margin (k + 1) ∧ fi = (if k < g then 0 else 1)) (hn : nm = (if k < a then 0 else 1)) (hk : k + 1 ≤ l.length + 1) (hi : iv = .int .i64 ((k : Int) + 1)) :
    TtRel w BP lo Bs p term margin a1 cap1 l a g (l.length + 1 - (k + 1)) (.int .i64 nm) (.int .i64 fi) iv W := by
  refine ⟨k + 1, nm, fi, ms, m1, m2, rfl, hk, by rw [hi]; go_num, rfl, rfl, ⟨?_, ?_⟩, ?_⟩
  · rw [hn]
    by_cases hx : k < a
    · rw [if_pos hx, if_pos (by omega)]
    · rw [if_neg hx, if_neg (by omega)]
  · rw [hs.2.2]
    by_cases hx : k < g
    · rw [if_pos hx, if_pos (by omega)]
    · rw [if_neg hx, if_neg (by omega)]
  · have e1 : S = sSt l g term (k + 1) := by
      rw [hs.1]
      unfold sSt
      by_cases hx : k < g
      · rw [if_pos hx, if_pos (by omega)]
      · rw [if_neg hx, if_neg (by omega)]
    rw [← e1, ← hs.2.1]
    exact t

/-- three ints in a block of one's own -/
structure T3 (w : World) (b : Nat) (x y z : Int) : Prop where
  c0 : w.cell? ⟨b, 0, none⟩ = some (.int .i64 x)
  c1 : w.cell? ⟨b, 1, none⟩ = some (.int .i64 y)
  c2 : w.cell? ⟨b, 2, none⟩ = some (.int .i64 z)
  fr : ∀ i, w.frozen? ⟨b, i, none⟩ = false
theorem T3.of {w : World} {b : Nat} {x y z : Int} {t : TypeId} (h : w.heap[b]? = some (.cells #[.int .i64 x, .int .i64 y, .int .i64 z] t)) : T3 w b x y z := by
  constructor <;> first | (intro i; simp [World.frozen?, h]) | simp [World.cell?, h]
theorem T3.kept {w w' : World} {b lo hi : Nat} {x y z : Int} (h : T3 w b x y z) (o : Only lo hi w w') (hb : b < w.heap.size) (hs : b < lo ∨ hi ≤ b) : T3 w' b x y z :=
  ⟨by rw [o.cell (by exact hb) (by exact hs)]; exact h.c0, by rw [o.cell (by exact hb) (by exact hs)]; exact h.c1, by rw [o.cell (by exact hb) (by exact hs)]; exact h.c2, fun i => by rw [o.frozen (by exact hb) (by exact hs)]; exact h.fr i⟩
theorem T3.set {w : World} {b : Nat} {x y z x' y' z' : Int} (h : T3 w b x y z) : T3 (((w.setCell ⟨b, 0, none⟩ (.int .i64 x')).setCell ⟨b, 1, none⟩ (.int .i64 y')).setCell ⟨b, 2, none⟩ (.int .i64 z')) b x' y' z' ∧
    Only b (b + 1) w (((w.setCell ⟨b, 0, none⟩ (.int .i64 x')).setCell ⟨b, 1, none⟩ (.int .i64 y')).setCell ⟨b, 2, none⟩ (.int .i64 z')) := by
  have far : ∀ (W : World) (i j : Nat) (v : Value), i ≠ j → (W.setCell ⟨b, i, none⟩ v).cell? ⟨b, j, none⟩ = W.cell? ⟨b, j, none⟩ := fun W i j v hij => World.cell?_setCell_other _ _ _ _ (fun e => hij (congrArg Addr.off e))
  refine ⟨⟨?_, ?_, ?_, fun i => ?_⟩, (((Only.refl _ _ w).setCell (.inr ⟨by simp, by simp⟩) _).setCell (.inr ⟨by simp, by simp⟩) _).setCell (.inr ⟨by simp, by simp⟩) _⟩
  · rw [far _ _ _ _ (by decide), far _ _ _ _ (by decide)]; exact World.cell?_setCell_same _ _ _ h.c0
  · rw [far _ _ _ _ (by decide)]; exact World.cell?_setCell_same _ _ _ (by rw [far _ _ _ _ (by decide)]; exact h.c1)
  · exact World.cell?_setCell_same _ _ _ (by rw [far _ _ _ _ (by decide), far _ _ _ _ (by decide)]; exact h.c2)
  · rw [World.frozen?_setCell, World.frozen?_setCell, World.frozen?_setCell]; exact h.fr i
end Go.Proofs.Ytefllgpehhlkoaa
