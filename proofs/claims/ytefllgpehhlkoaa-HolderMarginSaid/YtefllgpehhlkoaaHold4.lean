/-
  The holder (layer 19): Ask whole, Denied, Let.
-/
import Derived.Test.YtefllgpehhlkoaaHold3
namespace Go.Proofs.Ytefllgpehhlkoaa
open Go.RowKit

theorem ask_any (w : World) (v : Value) (h : HS) (now place : Int) (hv : HIs w v h) (hk : (Lit.int .i64 place).wf = true) (hn : h.wants.length < 1000000) :
    Calls Try.prog 26 #[v, .int .i64 now, .int .i64 place] w (Asked w (askH h now place)) := by
  obtain ⟨life, count, wants, has⟩ := h
  obtain ⟨mw, mh, rfl, h1, h2⟩ := hv
  have hh : Hid (HIs w (hval life count mw mh) ⟨life, count, wants, has⟩) := ⟨mw, mh, rfl, h1, h2⟩
  by_cases c1 : now < 0 ∨ 1099511627776 < now ∨ life < 0 ∨ count < 0
  · refine ask_arg w ⟨life, count, wants, has⟩ mw mh now place hh (by simp only [askH]; rw [if_pos c1]) ?_
    by_cases a : now < 0
    · simp [a]
    · by_cases b : 1099511627776 < now
      · simp [a, b]
      · by_cases c : life < 0
        · simp [a, b, c]
        · simp [a, b, c] at c1 ⊢
          omega
  · have c1' := c1
    simp only [not_or] at c1'
    obtain ⟨d1, d2, d3, d4⟩ := c1'
    by_cases c2 : 524288 ≤ life ∨ 1048575 ≤ count
    · refine ask_big w ⟨life, count, wants, has⟩ mw mh now place hh (by simp only [askH]; rw [if_neg c1, if_pos c2]) (by simp [d1]) (by simp [d2]) (by simp [d3]) (by simp [d4]) ?_
      by_cases a : 524288 ≤ life
      · simp [a]
      · simp [a] at c2 ⊢
        omega
    · have c2' := c2
      simp only [not_or] at c2'
      obtain ⟨d5, d6⟩ := c2'
      exact ask_ok w life count wants has mw mh now place h1 h2 (by simp only [Hid, askH]; rw [if_neg c1, if_neg c2]) hk hn (by simp [d1]) (by simp [d2]) (by simp [d3]) (by simp [d4]) (by simp [d5]) (by simp [d6])

/-- a state of its own, behind a change of one of its maps -/
theorem after_own2 {w Wc W1 w2 : World} {O : Array Value} {tO : TypeId} {b r : Nat} {l1 c1 l2 c2 : Int} {m1 m2 n1 n2 : Option Nat}
    (hw : Only w.heap.size w.heap.size w Wc) (hr : Box Wc r l1 c1 m1 m2) (hrl : r < Wc.heap.size) (hOo : O = #[.int .i64 l2, .int .i64 c2, .map n1, .map n2])
    (ho : Only Wc.heap.size Wc.heap.size Wc W1) (g : Only b (b + 1) (W1.alloc (.cells O tO)) w2) (hb : Wc.heap.size ≤ b) (hlt : b < W1.heap.size) :
    (Box w2 r l1 c1 m1 m2 ∧ Box w2 W1.heap.size l2 c2 n1 n2) ∧ Only w.heap.size w.heap.size w w2 ∧ (∀ p : Addr, p.block < Wc.heap.size → w2.cell? p = Wc.cell? p) ∧ W1.heap.size < w2.heap.size := by
  subst hOo
  have hs := ho.size
  have hg := g.size
  have hz := hw.size
  simp at hg
  refine ⟨⟨?_, ?_⟩, ?_, ?_, by omega⟩
  · exact Box.kept (Box.kept (Box.kept hr ho hrl (.inl hrl)) ((Only.refl W1.heap.size W1.heap.size W1).alloc _) (by omega) (by omega)) g (by simp; omega) (by omega)
  · exact Box.kept (Box.of (at_top _ _ _ rfl)) g (by simp) (by omega)
  · exact (((hw.then ho (by omega)).alloc _).fresh (g.mono (by omega) (Nat.le_refl _)))
  · intro p hp
    rw [g.cell (by simp; omega) (.inl (by omega)), ((Only.refl W1.heap.size W1.heap.size W1).alloc _).cell (by omega) (.inl (by omega)), ho.cell hp (.inl hp)]

/-- Denied: the state, the error -/
def denyH (h : HS) (place num : Int) : HS × Int :=
  match mget h.wants place with
  | none => (h, 8)
  | some x => if x.1 = num then (⟨h.life, h.count, mdel h.wants place, h.has⟩, 0) else (h, 14)

/-- what Denied and Granted leave -/
def Told (w : World) (r : HS × Int) (e : Ending) (w' : World) : Prop :=
  ∃ v, e = .returned (.tuple #[v, .int .i64 r.2]) ∧ HIs w' v r.1 ∧ Only w.heap.size w.heap.size w w'

/-- the four cells of a state, as they are stored -/
def World.four (w : World) (b : Nat) (life count : Int) (mw mh : Option Nat) : World := (((w.setCell ⟨b, 0, none⟩ (.int .i64 life)).setCell ⟨b, 1, none⟩ (.int .i64 count)).setCell ⟨b, 2, none⟩ (.map mw)).setCell ⟨b, 3, none⟩ (.map mh)
theorem four_only (w : World) (b : Nat) (life count : Int) (mw mh : Option Nat) : Only b (b + 1) w (World.four w b life count mw mh) :=
  ((((Only.refl _ _ w).setCell (.inr ⟨by simp, by simp⟩) _).setCell (.inr ⟨by simp, by simp⟩) _).setCell (.inr ⟨by simp, by simp⟩) _).setCell (.inr ⟨by simp, by simp⟩) _

set_option maxRecDepth 100000 in
set_option maxHeartbeats 1000000 in
theorem deny_any (w : World) (v : Value) (h : HS) (place num : Int) (hv : HIs w v h) (hk : (Lit.int .i64 place).wf = true) :
    Calls Try.prog 44 #[v, .int .i64 place, .int .i64 num] w (Told w (denyH h place num)) := by
  have hO : Hid (Only w.heap.size w.heap.size w w) := Lib.hid (Only.refl _ _ _)
  obtain ⟨life, count, wants, has⟩ := h
  obtain ⟨mw, mh, rfl, h1', h2'⟩ := hv
  have hh : Hid (HIs w (hval life count mw mh) ⟨life, count, wants, has⟩) := ⟨mw, mh, rfl, h1', h2'⟩
  have h1 := Lib.hid h1'
  have h2 := Lib.hid h2'
  have HK := Lib.hid hk
  have hl := MapIs.look (w := (w.alloc (.cells #[.int .i64 life, .int .i64 count, .map mw, .map mh] 41)).alloc (.cells #[.int .i64 0, .int .i64 0, .map none, .map none] 41)) (h1'.kept (((Only.refl w.heap.size w.heap.size w).alloc _).alloc _) (by omega)) Try.underlying38 (zero119 _) place hk
  clear h1' h2' hk
  have hv : ∀ x y, hval life count (some x) (some y) = .agg #[.int .i64 life, .int .i64 count, .map (some x), .map (some y)] := fun _ _ => rfl
  have hg : hval life count mw mh = .agg #[.int .i64 life, .int .i64 count, .map mw, .map mh] := rfl
  rw [hg]
  clear hg
  cases hm : mget wants place with
  | none =>
    have hB : Hid (denyH ⟨life, count, wants, has⟩ place num = (⟨life, count, wants, has⟩, 8)) := Lib.hid (by simp only [denyH, hm])
    rw [hm] at hl
    simp only [got, pairE, Option.getD_none, Option.isSome_none] at hl
    clear hv
    go_enter Try.func44, Try.ntmps44
    go_wp2
    refine bodyPost_ret (v := .tuple #[hval life count mw mh, .int .i64 8]) (by simp [results, Try.results44, go_sem, hval]) rfl ?_
    rw [hB.out]
    exact ⟨_, rfl, hh.out.kept (((hO.out.alloc _).alloc _).alloc _), ((hO.out.alloc _).alloc _).alloc _⟩
  | some x =>
    obtain ⟨n, t⟩ := x
    rw [hm] at hl
    simp only [got, pairE, Option.getD_some, Option.isSome_some] at hl
    by_cases hne : n = num
    · have hB : Hid (denyH ⟨life, count, wants, has⟩ place num = (⟨life, count, mdel wants place, has⟩, 0)) := Lib.hid (by simp [denyH, hm, hne])
      subst hne
      have RB : Hid (Box (((w.alloc (.cells #[.int .i64 life, .int .i64 count, .map mw, .map mh] 41)).alloc (.cells #[.int .i64 0, .int .i64 0, .map none, .map none] 41)).alloc (.cells #[.int .i64 n, .int .i64 t] 119)) (w.heap.size + 1) 0 0 none none) :=
        Lib.hid (Box.of ((at_low _ _ _ (by simp)).trans (at_top _ _ _ (by simp))))
      go_enter Try.func44, Try.ntmps44
      go_wp2_with (first
        | (go_at_call 53; refine (own_any _ life count mw mh wants has (h1.out.kept (((hO.out.alloc _).alloc _).alloc _) (by omega)) (h2.out.kept (((hO.out.alloc _).alloc _).alloc _) (by omega))).mono ?_; rintro e W1 ⟨b1, b2, rfl, g1', g2', hne', hb1', hb2', ho'⟩; rw [hv]; have g1 := Lib.hid g1'; have g2 := Lib.hid g2'; have hne := Lib.hid hne'; have hb1 := Lib.hid hb1'; have hb2 := Lib.hid hb2'; have ho := Lib.hid ho'; clear g1' g2' hne' hb1' hb2' ho')
        | (at_delete; refine wpList_del _ rfl _ _ 38 rfl 119 Try.underlying38 b1 wants rfl (g1.out.kept ((Only.refl W1.heap.size W1.heap.size W1).alloc _) (.inl g1.out.lt)) place HK.out rfl ?_; intro w2 m1' g'; have HX := Lib.hid (after_own2 (((hO.out.alloc _).alloc _).alloc _) RB.out (by simp) rfl ho.out g' hb1.out g1.out.lt); have m1 := Lib.hid m1'; have m2 := Lib.hid ((g2.out.kept ((Only.refl W1.heap.size W1.heap.size W1).alloc _) (.inl g2.out.lt)).kept g' (by have := hne.out; omega)); clear m1' g'; obtain ⟨⟨hR', ⟨o0, o1, o2, o3, of⟩⟩, hX', _, _⟩ := HX.out; have hX := Lib.hid hX'; obtain ⟨k0, k1, k2, k3⟩ := hR'.keys; obtain ⟨r0, r1, r2, r3, rf⟩ := hR'; clear hX' HX)
        | fail)
      refine bodyPost_ret (v := .tuple #[hval life count (some b1) (some b2), .int .i64 0]) (by simp [results, Try.results44, go_sem, hval, k0, k1, k2, k3]) rfl ?_
      have hs := four_only w2 (w.heap.size + 1) life count (some b1) (some b2)
      have e1 := hb1.out
      have e2 := hb2.out
      simp at e1 e2
      rw [hB.out]
      exact ⟨_, rfl, ⟨some b1, some b2, rfl, m1.out.kept hs (by omega), m2.out.kept hs (by omega)⟩, hX.out.fresh (hs.mono (by omega) (Nat.le_refl _))⟩
    · have hB : Hid (denyH ⟨life, count, wants, has⟩ place num = (⟨life, count, wants, has⟩, 14)) := Lib.hid (by simp [denyH, hm, hne])
      have hd : decide (n = num) = false := by simp [hne]
      clear hv
      go_enter Try.func44, Try.ntmps44
      go_wp2
      refine bodyPost_ret (v := .tuple #[hval life count mw mh, .int .i64 14]) (by simp [results, Try.results44, go_sem, hval]) rfl ?_
      rw [hB.out]
      exact ⟨_, rfl, hh.out.kept (((hO.out.alloc _).alloc _).alloc _), ((hO.out.alloc _).alloc _).alloc _⟩
end Go.Proofs.Ytefllgpehhlkoaa
