/-
  The holder (layer 19): Let.
-/
import Derived.Test.YtefllgpehhlkoaaHold4
namespace Go.Proofs.Ytefllgpehhlkoaa
open Go.RowKit

/-- Let: the state, the epoch, the error -/
def letH (h : HS) (place : Int) : HS × Int × Int :=
  match mget h.has place with
  | none => (h, 0, 8)
  | some x => (⟨h.life, h.count, h.wants, mdel h.has place⟩, x.1, 0)

theorem pair_at {w : World} {b : Nat} {x y : Value} {t : TypeId} (h : w.heap[b]? = some (.cells #[x, y] t)) : w.cell? ⟨b, 0, none⟩ = some x ∧ w.cell? ⟨b, 1, none⟩ = some y := by
  constructor <;> simp [World.cell?, h]

set_option maxRecDepth 100000 in
set_option maxHeartbeats 1000000 in
theorem let_any (w : World) (v : Value) (h : HS) (place : Int) (hv : HIs w v h) (hk : (Lit.int .i64 place).wf = true) :
    Calls Try.prog 46 #[v, .int .i64 place] w (Asked w (letH h place)) := by
  have hO : Hid (Only w.heap.size w.heap.size w w) := Lib.hid (Only.refl _ _ _)
  obtain ⟨life, count, wants, has⟩ := h
  obtain ⟨mw, mh, rfl, h1', h2'⟩ := hv
  have hh : Hid (HIs w (hval life count mw mh) ⟨life, count, wants, has⟩) := ⟨mw, mh, rfl, h1', h2'⟩
  have h1 := Lib.hid h1'
  have h2 := Lib.hid h2'
  have HK := Lib.hid hk
  have hl := MapIs.look (w := (w.alloc (.cells #[.int .i64 life, .int .i64 count, .map mw, .map mh] 41)).alloc (.cells #[.int .i64 0, .int .i64 0, .map none, .map none] 41)) (h2'.kept (((Only.refl w.heap.size w.heap.size w).alloc _).alloc _) (by omega)) Try.underlying39 (zero122 _) place hk
  clear h1' h2' hk
  have hv : ∀ x y, hval life count (some x) (some y) = .agg #[.int .i64 life, .int .i64 count, .map (some x), .map (some y)] := fun _ _ => rfl
  have hg : hval life count mw mh = .agg #[.int .i64 life, .int .i64 count, .map mw, .map mh] := rfl
  rw [hg]
  clear hg
  cases hm : mget has place with
  | none =>
    have hB : Hid (letH ⟨life, count, wants, has⟩ place = (⟨life, count, wants, has⟩, 0, 8)) := Lib.hid (by simp only [letH, hm])
    rw [hm] at hl
    simp only [got, pairE, Option.getD_none, Option.isSome_none] at hl
    clear hv
    go_enter Try.func46, Try.ntmps46
    go_wp2
    refine bodyPost_ret (v := .tuple #[hval life count mw mh, .int .i64 0, .int .i64 8]) (by simp [results, Try.results46, go_sem, hval]) rfl ?_
    rw [hB.out]
    exact ⟨_, rfl, hh.out.kept (((hO.out.alloc _).alloc _).alloc _), ((hO.out.alloc _).alloc _).alloc _⟩
  | some x =>
    obtain ⟨n, t⟩ := x
    rw [hm] at hl
    simp only [got, pairE, Option.getD_some, Option.isSome_some] at hl
    have hB : Hid (letH ⟨life, count, wants, has⟩ place = (⟨life, count, wants, mdel has place⟩, n, 0)) := Lib.hid (by simp [letH, hm])
    have RB : Hid (Box (((w.alloc (.cells #[.int .i64 life, .int .i64 count, .map mw, .map mh] 41)).alloc (.cells #[.int .i64 0, .int .i64 0, .map none, .map none] 41)).alloc (.cells #[.int .i64 n, .int .i64 t] 122)) (w.heap.size + 1) 0 0 none none) :=
      Lib.hid (Box.of ((at_low _ _ _ (by simp)).trans (at_top _ _ _ (by simp))))
    have QB : Hid ((((w.alloc (.cells #[.int .i64 life, .int .i64 count, .map mw, .map mh] 41)).alloc (.cells #[.int .i64 0, .int .i64 0, .map none, .map none] 41)).alloc (.cells #[.int .i64 n, .int .i64 t] 122)).cell? ⟨w.heap.size + 2, 0, none⟩ = some (.int .i64 n)) := Lib.hid (pair_at (at_top _ _ _ (by simp))).1
    go_enter Try.func46, Try.ntmps46
    go_wp2_with (first
      | (go_at_call 53; refine (own_any _ life count mw mh wants has (h1.out.kept (((hO.out.alloc _).alloc _).alloc _) (by omega)) (h2.out.kept (((hO.out.alloc _).alloc _).alloc _) (by omega))).mono ?_; rintro e W1 ⟨b1, b2, rfl, g1', g2', hne', hb1', hb2', ho'⟩; rw [hv]; have g1 := Lib.hid g1'; have g2 := Lib.hid g2'; have hne := Lib.hid hne'; have hb1 := Lib.hid hb1'; have hb2 := Lib.hid hb2'; have ho := Lib.hid ho'; clear g1' g2' hne' hb1' hb2' ho')
      | (at_delete; go_loud (refine wpList_del _ rfl _ _ 39 rfl 122 Try.underlying39 b2 has rfl (g2.out.kept ((Only.refl W1.heap.size W1.heap.size W1).alloc _) (.inl g2.out.lt)) place HK.out rfl ?_; intro w2 m2' g'; have HX := Lib.hid (after_own2 (((hO.out.alloc _).alloc _).alloc _) RB.out (by simp) rfl ho.out g' hb2.out g2.out.lt); have m2 := Lib.hid m2'; have m1 := Lib.hid ((g1.out.kept ((Only.refl W1.heap.size W1.heap.size W1).alloc _) (.inl g1.out.lt)).kept g' (by have := hne.out; omega)); clear m2' g'; obtain ⟨⟨hR', ⟨o0, o1, o2, o3, of⟩⟩, hX', hq', _⟩ := HX.out; have hX := Lib.hid hX'; obtain ⟨k0, k1, k2, k3⟩ := hR'.keys; obtain ⟨r0, r1, r2, r3, rf⟩ := hR'; have q0 := (hq' ⟨w.heap.size + 2, 0, none⟩ (by simp)).trans QB.out; clear hX' HX hq'))
      | fail)
    go_region
    all_goals go_wp2
    all_goals refine bodyPost_ret (v := .tuple #[hval life count (some b1) (some b2), .int .i64 n, .int .i64 0]) (by simp [results, Try.results46, go_sem, hval, k0, k1, k2, k3]) rfl ?_
    all_goals have hs := (four_only w2 (w.heap.size + 1) life count (some b1) (some b2)).drew
    all_goals have e1 := hb1.out
    all_goals have e2 := hb2.out
    all_goals simp at e1 e2
    all_goals rw [hB.out]
    all_goals exact ⟨_, rfl, ⟨some b1, some b2, rfl, m1.out.kept hs (by omega), m2.out.kept hs (by omega)⟩, hX.out.fresh (hs.mono (by omega) (Nat.le_refl _))⟩
end Go.Proofs.Ytefllgpehhlkoaa
