/-
  The lease (layer 18): Let.
-/
import Derived.Test.YtefllgpehhlkoaaLease3
namespace Go.Proofs.Ytefllgpehhlkoaa
open Go.RowKit Go.Maps

/-- an authority's state -/
structure LS where
  epoch : Int
  quiet : Int
  hs : Trips
/-- the value v is the state h -/
def LIs (w : World) (v : Value) (h : LS) : Prop := ∃ m, v = lval h.epoch h.quiet m ∧ MapIs tripE w m h.hs
theorem LIs.kept {w w' : World} {v : Value} {h : LS} (k : LIs w v h) (o : Only w.heap.size w.heap.size w w') : LIs w' v h := by
  obtain ⟨m, rfl, h1⟩ := k
  exact ⟨m, rfl, h1.kept o (by omega)⟩
/-- Let: the state, the error -/
def letL (h : LS) (now place holder epoch : Int) : LS × Int :=
  match whoL h.hs now place with
  | none => (h, 8)
  | some x => if x.1 = holder ∧ x.2.1 = epoch then (⟨h.epoch, h.quiet, mdel (lasting h.hs now) place⟩, 0) else (h, 14)
/-- what Let leaves -/
def LTold (w : World) (r : LS × Int) (e : Ending) (w' : World) : Prop :=
  ∃ v, e = .returned (.tuple #[v, .int .i64 r.2]) ∧ LIs w' v r.1 ∧ Only w.heap.size w.heap.size w w'

/-- a state of its own, behind a change of its map -/
theorem after_copy {w Wc W1 w2 : World} {O : Array Value} {tO : TypeId} {b r : Nat} {l1 c1 l2 c2 : Int} {m1 n1 : Option Nat}
    (hw : Only w.heap.size w.heap.size w Wc) (hr : LBox Wc r l1 c1 m1) (hrl : r < Wc.heap.size) (hOo : O = #[.int .i64 l2, .int .i64 c2, .map n1])
    (ho : Only Wc.heap.size Wc.heap.size Wc W1) (g : Only b (b + 1) (W1.alloc (.cells O tO)) w2) (hb : Wc.heap.size ≤ b) (hlt : b < W1.heap.size) :
    (LBox w2 r l1 c1 m1 ∧ LBox w2 W1.heap.size l2 c2 n1) ∧ Only w.heap.size w.heap.size w w2 ∧ (∀ p : Addr, p.block < Wc.heap.size → w2.cell? p = Wc.cell? p) ∧ W1.heap.size < w2.heap.size := by
  subst hOo
  have hs := ho.size
  have hg := g.size
  have hz := hw.size
  simp at hg
  refine ⟨⟨?_, ?_⟩, ?_, ?_, by omega⟩
  · exact LBox.kept (LBox.kept (LBox.kept hr ho hrl (.inl hrl)) ((Only.refl W1.heap.size W1.heap.size W1).alloc _) (by omega) (by omega)) g (by simp; omega) (by omega)
  · exact LBox.kept (LBox.of (top_at _ _ _ rfl)) g (by simp) (by omega)
  · exact (((hw.then ho (by omega)).alloc _).fresh (g.mono (by omega) (Nat.le_refl _)))
  · intro p hp
    rw [g.cell (by simp; omega) (.inl (by omega)), ((Only.refl W1.heap.size W1.heap.size W1).alloc _).cell (by omega) (.inl (by omega)), ho.cell hp (.inl hp)]

set_option maxRecDepth 100000 in
set_option maxHeartbeats 1000000 in
theorem letL_any (w : World) (v : Value) (h : LS) (now place holder epoch : Int) (hv : LIs w v h) (hk : (Lit.int .i64 place).wf = true) :
    Calls Try.prog 36 #[v, .int .i64 now, .int .i64 place, .int .i64 holder, .int .i64 epoch] w (LTold w (letL h now place holder epoch)) := by
  have hO : Hid (Only w.heap.size w.heap.size w w) := Lib.hid (Only.refl _ _ _)
  obtain ⟨ep, qu, es⟩ := h
  obtain ⟨m, rfl, h1'⟩ := hv
  have h1 := Lib.hid h1'
  have HK := Lib.hid hk
  have hl := MapIs.look (w := (w.alloc (.cells #[.int .i64 ep, .int .i64 qu, .map m] 57)).alloc (.cells #[.int .i64 0, .int .i64 0, .map none] 57)) (h1'.kept (((Only.refl w.heap.size w.heap.size w).alloc _).alloc _) (by omega)) Try.underlying55 (zero82 _) place hk
  clear h1' hk
  have hv : ∀ x, lval ep qu x = .agg #[.int .i64 ep, .int .i64 qu, .map x] := fun _ => rfl
  have hg : lval ep qu m = .agg #[.int .i64 ep, .int .i64 qu, .map m] := rfl
  have hbad : ∀ (e : Int), letL ⟨ep, qu, es⟩ now place holder epoch = (⟨ep, qu, es⟩, e) → ∀ A B C, LTold w (letL ⟨ep, qu, es⟩ now place holder epoch) (.returned (.tuple #[lval ep qu m, .int .i64 e])) (((w.alloc A).alloc B).alloc C) := fun e he A B C => by
    rw [he]; exact ⟨_, rfl, ⟨m, rfl, h1.out.kept (((hO.out.alloc _).alloc _).alloc _) (by omega)⟩, ((hO.out.alloc _).alloc _).alloc _⟩
  have HB := Lib.hid hbad
  clear hbad
  show Calls Try.prog 36 #[lval ep qu m, .int .i64 now, .int .i64 place, .int .i64 holder, .int .i64 epoch] w _
  rw [hg]
  clear hg
  cases hm : mget es place with
  | none =>
    have hE : Hid (letL ⟨ep, qu, es⟩ now place holder epoch = (⟨ep, qu, es⟩, 8)) := Lib.hid (by simp [letL, whoL, hm])
    rw [hm] at hl
    simp only [got, tripE, Option.getD_none, Option.isSome_none] at hl
    go_enter Try.func36, Try.ntmps36
    go_wp2
    refine bodyPost_ret (v := .tuple #[lval ep qu m, .int .i64 8]) (by simp [results, Try.results36, go_sem, lval]) rfl ?_
    exact HB.out _ hE.out _ _ _
  | some x =>
    obtain ⟨x0, x1, x2⟩ := x
    rw [hm] at hl
    simp only [got, tripE, Option.getD_some, Option.isSome_some] at hl
    by_cases hle : x2 ≤ now
    · have hE : Hid (letL ⟨ep, qu, es⟩ now place holder epoch = (⟨ep, qu, es⟩, 8)) := Lib.hid (by simp [letL, whoL, hm, hle])
      have hd : decide (x2 ≤ now) = true := by simp [hle]
      go_enter Try.func36, Try.ntmps36
      go_wp2
      refine bodyPost_ret (v := .tuple #[lval ep qu m, .int .i64 8]) (by simp [results, Try.results36, go_sem, lval]) rfl ?_
      exact HB.out _ hE.out _ _ _
    · have hd : decide (x2 ≤ now) = false := by simp [hle]
      by_cases h0 : x0 = holder
      · by_cases hep : x1 = epoch
        · subst h0
          subst hep
          have hE : Hid (letL ⟨ep, qu, es⟩ now place x0 x1 = (⟨ep, qu, mdel (lasting es now) place⟩, 0)) := Lib.hid (by simp [letL, whoL, hm, hle])
          have hms : ∃ b, m = some b := by
            cases m with
            | none => have : es = [] := h1.out; subst this; cases hm
            | some b => exact ⟨b, rfl⟩
          obtain ⟨b, rfl⟩ := hms
          have RB : Hid (LBox (((w.alloc (.cells #[.int .i64 ep, .int .i64 qu, .map (some b)] 57)).alloc (.cells #[.int .i64 0, .int .i64 0, .map none] 57)).alloc (.cells #[.int .i64 x0, .int .i64 x1, .int .i64 x2] 82)) (w.heap.size + 1) 0 0 none) :=
            Lib.hid (LBox.of ((low_at _ _ _ (by simp)).trans (top_at _ _ _ (by simp))))
          go_enter Try.func36, Try.ntmps36
          go_wp2_with (first
            | (go_at_call 55; go_loud (refine (copied_any _ ep qu now (some b) es (h1.out.kept (((hO.out.alloc _).alloc _).alloc _) (by omega))).mono ?_; rintro e W1 ⟨m', rfl, g1', hn', hb', ho'⟩; obtain ⟨b1, rfl⟩ : ∃ b1, m' = some b1 := (by cases m' with | none => exact absurd (hn'.1 rfl) (by simp) | some b1 => exact ⟨b1, rfl⟩); rw [hv]; have hb1 := Lib.hid (hb' b1 rfl); have g1 : Hid (MapAt tripE W1 b1 (lasting es now)) := Lib.hid g1'; have ho := Lib.hid ho'; clear g1' hn' hb' ho'))
            | (at_delete; go_loud (refine wpList_del _ rfl _ _ 55 rfl 82 Try.underlying55 b1 (lasting es now) rfl (g1.out.kept ((Only.refl W1.heap.size W1.heap.size W1).alloc _) (.inl g1.out.lt)) place HK.out rfl ?_; intro w2 m1' g'; have HX := Lib.hid (after_copy (((hO.out.alloc _).alloc _).alloc _) RB.out (by simp) rfl ho.out g' hb1.out g1.out.lt); have m1 := Lib.hid m1'; clear m1' g'; obtain ⟨⟨hR', ⟨o0, o1, o2, of⟩⟩, hX', _, _⟩ := HX.out; have hX := Lib.hid hX'; obtain ⟨k0, k1, k2⟩ := hR'.keys; obtain ⟨r0, r1, r2, rf⟩ := hR'; clear hX' HX))
            | fail)
          refine bodyPost_ret (v := .tuple #[lval ep qu (some b1), .int .i64 0]) (by simp [results, Try.results36, go_sem, lval, k0, k1, k2]) rfl ?_
          have hs := three_only w2 (w.heap.size + 1) ep qu (some b1)
          have e1 := hb1.out
          simp at e1
          rw [hE.out]
          exact ⟨_, rfl, ⟨some b1, rfl, m1.out.kept hs (by omega)⟩, hX.out.fresh (hs.mono (by omega) (Nat.le_refl _))⟩
        · have hE : Hid (letL ⟨ep, qu, es⟩ now place holder epoch = (⟨ep, qu, es⟩, 14)) := Lib.hid (by simp [letL, whoL, hm, hle, hep])
          subst h0
          have hd2 : decide (x1 = epoch) = false := by simp [hep]
          go_enter Try.func36, Try.ntmps36
          go_wp2
          refine bodyPost_ret (v := .tuple #[lval ep qu m, .int .i64 14]) (by simp [results, Try.results36, go_sem, lval]) rfl ?_
          exact HB.out _ hE.out _ _ _
      · have hE : Hid (letL ⟨ep, qu, es⟩ now place holder epoch = (⟨ep, qu, es⟩, 14)) := Lib.hid (by simp [letL, whoL, hm, hle, h0])
        have hd2 : decide (x0 = holder) = false := by simp [h0]
        go_enter Try.func36, Try.ntmps36
        go_wp2
        refine bodyPost_ret (v := .tuple #[lval ep qu m, .int .i64 14]) (by simp [results, Try.results36, go_sem, lval]) rfl ?_
        exact HB.out _ hE.out _ _ _
end Go.Proofs.Ytefllgpehhlkoaa
