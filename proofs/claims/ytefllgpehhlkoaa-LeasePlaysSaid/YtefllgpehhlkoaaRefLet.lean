/-
  The document's lease (tillerref18): Let.
-/
import Derived.Test.YtefllgpehhlkoaaRefR
namespace Go.Proofs.Ytefllgpehhlkoaa
open Go.RowKit Go.Maps
set_option linter.unusedVariables false

/-- what the document's Let leaves -/
def LetR (w : World) (base : Nat) (v0 : Value) (r : LS × Int) (e : Ending) (w' : World) : Prop :=
  ∃ v, e = .returned (.tuple #[xval r.1.epoch r.1.quiet v, .int .i64 r.2]) ∧ OwnS hold4 w' base v r.1.hs ∧ (v = v0 ∨ OwnS hold4 w' w.heap.size v r.1.hs) ∧ Only w.heap.size w.heap.size w w'
set_option maxRecDepth 100000 in
set_option maxHeartbeats 1000000 in
theorem letR_any (w : World) (epoch quiet now place holder ep : Int) (v : Value) (l : Trips) (base : Nat) (hbase : base ≤ w.heap.size) (h : OwnS hold4 w base v l) (hr : Rising l) (hll : l.length ≤ 10000) :
    Calls Try.prog 39 #[.agg #[.int .i64 epoch, .int .i64 quiet, v], .int .i64 now, .int .i64 place, .int .i64 holder, .int .i64 ep] w (LetR w base v (letL ⟨epoch, quiet, l⟩ now place holder ep)) := by
  have hO : Hid (Only w.heap.size w.heap.size w w) := Lib.hid (Only.refl _ _ _)
  obtain ⟨a, n, c, rfl⟩ := own_val h
  have HOW := Lib.hid h
  have HBA := Lib.hid hbase
  have H := Lib.hid h.reads
  have HF : Hid (∀ W, Only w.heap.size w.heap.size w W → Calls Try.prog 56 #[.agg #[.int .i64 epoch, .int .i64 quiet, .slice a n c], .int .i64 now, .int .i64 place] W (Found W (findR l now place))) := Lib.hid (fun W o => find_any W epoch quiet now place _ l (H.out.kept o))
  have HWW := Lib.hid (findR_who now place hr)
  have HX : Hid (∀ W, Only ((w.alloc (.cells #[.int .i64 epoch, .int .i64 quiet, .slice a n c] 59)).alloc (.cells #[.int .i64 0, .int .i64 0, .slice none 0 0] 59)).heap.size ((w.alloc (.cells #[.int .i64 epoch, .int .i64 quiet, .slice a n c] 59)).alloc (.cells #[.int .i64 0, .int .i64 0, .slice none 0 0] 59)).heap.size ((w.alloc (.cells #[.int .i64 epoch, .int .i64 quiet, .slice a n c] 59)).alloc (.cells #[.int .i64 0, .int .i64 0, .slice none 0 0] 59)) W → XBox W w.heap.size epoch quiet (.slice a n c) ∧ XBox W (w.heap.size + 1) 0 0 (.slice none 0 0)) := Lib.hid (fun W o => by
    refine ⟨(XBox.of ((low_at _ _ _ (by simp)).trans (top_at _ _ _ rfl))).kept o (by simp; omega) (.inl (by simp; omega)), (XBox.of (top_at _ _ _ (by simp))).kept o (by simp) (.inl (by simp))⟩)
  clear h hr hbase
  cases hw : whoL l now place with
  | none =>
    have HE : Hid (letL ⟨epoch, quiet, l⟩ now place holder ep = (⟨epoch, quiet, l⟩, 8)) := Lib.hid (by unfold letL; rw [hw])
    have HFN : Hid (findR l now place = none) := Lib.hid (by rw [HWW.out, hw]; rfl)
    clear hw
    go_enter Try.func39, Try.ntmps39
    go_wp2_with (first
      | (go_at_call 56; refine (HF.out _ ((hO.out.alloc _).alloc _)).mono ?_; unfold Found; rw [HFN.out]; dsimp only [Option.getD, Option.isSome, rec4, zrec]; rintro e W1 ⟨rfl, ho1⟩; have o1 := Lib.hid ((((hO.out.alloc _).alloc _).then ho1 (by simp; omega)).alloc (.cells #[.int .i64 0, .int .i64 0, .int .i64 0, .int .i64 0] 71)); have HB := Lib.hid (HX.out _ (ho1.alloc (.cells #[.int .i64 0, .int .i64 0, .int .i64 0, .int .i64 0] 71))); obtain ⟨⟨b0, b1, b2, _⟩, ⟨r0, r1, r2, rf⟩⟩ := HB.out; have rf0 := rf 0; have rf1 := rf 1; have rf2 := rf 2; clear rf ho1)
      | fail)
    have hE := HB.out.2.three (e' := epoch) (q' := quiet) (v' := .slice a n c)
    have hEO := xthree_only (W1.alloc (.cells #[.int .i64 0, .int .i64 0, .int .i64 0, .int .i64 0] 71)) (w.heap.size + 1) epoch quiet (.slice a n c)
    unfold World.xthree at hE hEO
    obtain ⟨k0, k1, k2, _⟩ := hE
    refine bodyPost_ret (v := .tuple #[xval epoch quiet (.slice a n c), .int .i64 8]) (by simp [results, Try.results39, go_sem, xval, k0, k1, k2]) rfl ?_
    rw [HE.out]
    have oF := o1.out.fresh (hEO.mono (by omega) (Nat.le_refl _))
    exact ⟨_, rfl, HOW.out.grown oF, .inl rfl, oF⟩
  | some x =>
    obtain ⟨x0, x1, x2⟩ := x
    have HFS : Hid (findR l now place = some (place, (x0, x1, x2))) := Lib.hid (by rw [HWW.out, hw]; rfl)
    by_cases hm : x0 = holder ∧ x1 = ep
    · have HE : Hid (letL ⟨epoch, quiet, l⟩ now place holder ep = (⟨epoch, quiet, mdel (lasting l now) place⟩, 0)) := Lib.hid (by unfold letL; rw [hw]; simp only; rw [if_pos hm])
      have hb0 : (x0 != holder) = false := by simp [hm.1]
      have hb1 : (x1 != ep) = false := by simp [hm.2]
      clear hw hm
      go_enter Try.func39, Try.ntmps39
      go_wp2_with (first
        | (go_at_call 56; refine (HF.out _ ((hO.out.alloc _).alloc _)).mono ?_; unfold Found; rw [HFS.out]; dsimp only [Option.getD, Option.isSome, rec4, zrec]; rintro e W1 ⟨rfl, ho1⟩; have o1 := Lib.hid ((((hO.out.alloc _).alloc _).then ho1 (by simp; omega)).alloc (.cells #[.int .i64 place, .int .i64 x0, .int .i64 x1, .int .i64 x2] 71)); have oX := Lib.hid (ho1.alloc (.cells #[.int .i64 place, .int .i64 x0, .int .i64 x1, .int .i64 x2] 71)); have HB := Lib.hid (HX.out _ oX.out); obtain ⟨⟨b0, b1, b2, _⟩, ⟨r0, r1, r2, rf⟩⟩ := HB.out; have rf0 := rf 0; have rf1 := rf 1; have rf2 := rf 2; clear rf ho1)
        | (go_at_call 57; refine (with_let _ epoch quiet now place _ l (H.out.kept o1.out) hll 0 0 0 0 rfl).mono ?_; rintro e W2 ⟨v2, rfl, hr2, ho2⟩; have HR2 := Lib.hid hr2; obtain ⟨a2, n2, c2, rfl⟩ := own_val hr2; have o2 := Lib.hid (o1.out.then ho2 o1.out.size); have HB2 := Lib.hid (HX.out _ (oX.out.then ho2 oX.out.size)); clear b0 b1 b2 r0 r1 r2 rf0 rf1 rf2 hr2 ho2; obtain ⟨_, ⟨r0, r1, r2, rf⟩⟩ := HB2.out; have rf0 := rf 0; have rf1 := rf 1; have rf2 := rf 2; clear rf; unfold xval)
        | fail)
      have hE := HB2.out.2.three (e' := epoch) (q' := quiet) (v' := .slice a2 n2 c2)
      have hEO := xthree_only W2 (w.heap.size + 1) epoch quiet (.slice a2 n2 c2)
      unfold World.xthree at hE hEO
      obtain ⟨k0, k1, k2, _⟩ := hE
      refine bodyPost_ret (v := .tuple #[xval epoch quiet (.slice a2 n2 c2), .int .i64 0]) (by simp [results, Try.results39, go_sem, xval, k0, k1, k2]) rfl ?_
      rw [HE.out]
      have hF := HR2.out.keptOnly hEO (by have := oX.out.size; simp at this; simp; omega)
      exact ⟨_, rfl, hF.mono (Nat.le_trans HBA.out o1.out.size), .inr (hF.mono o1.out.size), o2.out.fresh (hEO.mono (by omega) (Nat.le_refl _))⟩
    · have HE : Hid (letL ⟨epoch, quiet, l⟩ now place holder ep = (⟨epoch, quiet, l⟩, 14)) := Lib.hid (by unfold letL; rw [hw]; simp only; rw [if_neg hm])
      clear hw
      by_cases hx : x0 = holder
      · have hb0 : (x0 != holder) = false := by simp [hx]
        have hb1 : (x1 != ep) = true := by simp; exact fun h => hm ⟨hx, h⟩
        clear hm hx
        go_enter Try.func39, Try.ntmps39
        go_wp2_with (first
          | (go_at_call 56; refine (HF.out _ ((hO.out.alloc _).alloc _)).mono ?_; unfold Found; rw [HFS.out]; dsimp only [Option.getD, Option.isSome, rec4, zrec]; rintro e W1 ⟨rfl, ho1⟩; have o1 := Lib.hid ((((hO.out.alloc _).alloc _).then ho1 (by simp; omega)).alloc (.cells #[.int .i64 place, .int .i64 x0, .int .i64 x1, .int .i64 x2] 71)); have HB := Lib.hid (HX.out _ (ho1.alloc (.cells #[.int .i64 place, .int .i64 x0, .int .i64 x1, .int .i64 x2] 71))); obtain ⟨⟨b0, b1, b2, _⟩, ⟨r0, r1, r2, rf⟩⟩ := HB.out; have rf0 := rf 0; have rf1 := rf 1; have rf2 := rf 2; clear rf ho1)
          | fail)
        have hE := HB.out.2.three (e' := epoch) (q' := quiet) (v' := .slice a n c)
        have hEO := xthree_only (W1.alloc (.cells #[.int .i64 place, .int .i64 x0, .int .i64 x1, .int .i64 x2] 71)) (w.heap.size + 1) epoch quiet (.slice a n c)
        unfold World.xthree at hE hEO
        obtain ⟨k0, k1, k2, _⟩ := hE
        refine bodyPost_ret (v := .tuple #[xval epoch quiet (.slice a n c), .int .i64 14]) (by simp [results, Try.results39, go_sem, xval, k0, k1, k2]) rfl ?_
        rw [HE.out]
        have oF := o1.out.fresh (hEO.mono (by omega) (Nat.le_refl _))
        exact ⟨_, rfl, HOW.out.grown oF, .inl rfl, oF⟩
      · have hb0 : (x0 != holder) = true := by simp [hx]
        clear hm hx
        go_enter Try.func39, Try.ntmps39
        go_wp2_with (first
          | (go_at_call 56; refine (HF.out _ ((hO.out.alloc _).alloc _)).mono ?_; unfold Found; rw [HFS.out]; dsimp only [Option.getD, Option.isSome, rec4, zrec]; rintro e W1 ⟨rfl, ho1⟩; have o1 := Lib.hid ((((hO.out.alloc _).alloc _).then ho1 (by simp; omega)).alloc (.cells #[.int .i64 place, .int .i64 x0, .int .i64 x1, .int .i64 x2] 71)); have HB := Lib.hid (HX.out _ (ho1.alloc (.cells #[.int .i64 place, .int .i64 x0, .int .i64 x1, .int .i64 x2] 71))); obtain ⟨⟨b0, b1, b2, _⟩, ⟨r0, r1, r2, rf⟩⟩ := HB.out; have rf0 := rf 0; have rf1 := rf 1; have rf2 := rf 2; clear rf ho1)
          | fail)
        have hE := HB.out.2.three (e' := epoch) (q' := quiet) (v' := .slice a n c)
        have hEO := xthree_only (W1.alloc (.cells #[.int .i64 place, .int .i64 x0, .int .i64 x1, .int .i64 x2] 71)) (w.heap.size + 1) epoch quiet (.slice a n c)
        unfold World.xthree at hE hEO
        obtain ⟨k0, k1, k2, _⟩ := hE
        refine bodyPost_ret (v := .tuple #[xval epoch quiet (.slice a n c), .int .i64 14]) (by simp [results, Try.results39, go_sem, xval, k0, k1, k2]) rfl ?_
        rw [HE.out]
        have oF := o1.out.fresh (hEO.mono (by omega) (Nat.le_refl _))
        exact ⟨_, rfl, HOW.out.grown oF, .inl rfl, oF⟩
end Go.Proofs.Ytefllgpehhlkoaa
