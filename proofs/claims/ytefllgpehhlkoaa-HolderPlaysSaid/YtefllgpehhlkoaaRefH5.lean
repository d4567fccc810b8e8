/-
  The document's holder (tillerref19): Granted.
-/
import Derived.Test.YtefllgpehhlkoaaRefH4
namespace Go.Proofs.Ytefllgpehhlkoaa
open Go.RowKit Go.Maps
set_option linter.unusedVariables false

/-- Granted, on lists in the order of asking -/
def grantX (h : HS) (now term margin place num epoch : Int) : HS × Int :=
  match mget h.wants place with
  | none => (h, 8)
  | some x =>
    if x.1 = num then
      if term < 1 ∨ 1048576 < term ∨ margin < 0 ∨ 1048576 < margin ∨ now < 0 ∨ 1099511627776 < now ∨ x.2 < 0 ∨ 1099511627776 < x.2 then (h, 1)
      else if x.2 + term - margin ≤ now then (⟨h.life, h.count, mdel h.wants place, h.has⟩, 16)
      else (⟨h.life, h.count, mdel h.wants place, mdel h.has place ++ [(place, (epoch, until' h.has place epoch (x.2 + term - margin)))]⟩, 0)
    else (h, 14)
/-- behind an append to a list that came later than the state's block -/
theorem ask_mid2 {L : Lay Rec3} {w V w4 : World} {B : Nat} {x0 x1 x2 x3 u v : Value} {base : Nat} {xs zs : List Rec3} (oV : Only w.heap.size w.heap.size w V) (hB : w.heap.size + 2 ≤ B) (hx : RBox V B x0 x1 x2 x3)
    (hr : RBox V (w.heap.size + 1) (.int .i64 0) (.int .i64 0) (.slice none 0 0) (.slice none 0 0)) (hu : OwnS L V base u xs) (hb : B < base) (hown : OwnS L w4 base v zs) (hg : V.grownBy w4 u.ownBlock) :
    AskMid L w w4 B base x0 x1 x2 x3 v zs := by
  have hlt := World.block_lt_of_cell? V _ hx.c0
  have o3 : Only base V.heap.size V w4 := hu.only hg (fun g e => (hu.blocks g e).2)
  exact ⟨hx.kept o3 hlt (.inl hb), hr.kept o3 (World.block_lt_of_cell? V _ hr.c0) (.inl (by omega)), hown, oV.fresh (o3.mono (by omega) (Nat.le_refl _)), fun g hg2 => by have := (hown.blocks g hg2).1; omega, hB⟩

set_option maxRecDepth 100000 in
set_option maxHeartbeats 2000000 in
theorem grantX_none (w : World) (life count now term margin place num epoch : Int) (v1 v2 : Value) (xs ys : List Rec3) (base : Nat) (hbase : base ≤ w.heap.size) (h : XIs w base xs ys v1 v2) (hf : findK xs place = none) (he : grantX ⟨life, count, xs, ys⟩ now term margin place num epoch = (⟨life, count, xs, ys⟩, 8)) :
    Calls Try.prog 43 #[.agg #[.int .i64 life, .int .i64 count, v1, v2], .int .i64 now, .int .i64 term, .int .i64 margin, .int .i64 place, .int .i64 num, .int .i64 epoch] w (XLeft w base v1 v2 (grantX ⟨life, count, xs, ys⟩ now term margin place num epoch).1 [.int .i64 (grantX ⟨life, count, xs, ys⟩ now term margin place num epoch).2]) := by
  have hO : Hid (Only w.heap.size w.heap.size w w) := Lib.hid (Only.refl _ _ _)
  obtain ⟨a1, n1, c1, rfl⟩ := own_slice h.ws
  obtain ⟨a2, n2, c2, rfl⟩ := own_slice h.hs
  have H := Lib.hid h
  have HBA := Lib.hid hbase
  have HX : Hid (∀ W, Only ((w.alloc (.cells #[.int .i64 life, .int .i64 count, .slice a1 n1 c1, .slice a2 n2 c2] 90)).alloc (.cells #[.int .i64 0, .int .i64 0, .slice none 0 0, .slice none 0 0] 90)).heap.size ((w.alloc (.cells #[.int .i64 life, .int .i64 count, .slice a1 n1 c1, .slice a2 n2 c2] 90)).alloc (.cells #[.int .i64 0, .int .i64 0, .slice none 0 0, .slice none 0 0] 90)).heap.size ((w.alloc (.cells #[.int .i64 life, .int .i64 count, .slice a1 n1 c1, .slice a2 n2 c2] 90)).alloc (.cells #[.int .i64 0, .int .i64 0, .slice none 0 0, .slice none 0 0] 90)) W → RBox W w.heap.size (.int .i64 life) (.int .i64 count) (.slice a1 n1 c1) (.slice a2 n2 c2) ∧ RBox W (w.heap.size + 1) (.int .i64 0) (.int .i64 0) (.slice none 0 0) (.slice none 0 0)) := Lib.hid (fun W o => by
    refine ⟨(RBox.of ((low_at _ _ _ (by simp)).trans (top_at _ _ _ rfl))).kept o (by simp; omega) (.inl (by simp; omega)), (RBox.of (top_at _ _ _ (by simp))).kept o (by simp) (.inl (by simp))⟩)
  have HE := Lib.hid he
  have HF := Lib.hid hf
  clear h he hbase hf
  go_enter Try.func43, Try.ntmps43
  go_wp2_with (first
    | (go_at_call 61; refine (wanted_any _ life count place _ _ _ (H.out.ws.reads.kept ((hO.out.alloc _).alloc _))).mono ?_; unfold Found3; rw [HF.out]; dsimp only [Option.getD, Option.isSome, rec3, zrec3]; rintro e W1 ⟨rfl, ho1⟩; have o1 := Lib.hid ((((hO.out.alloc _).alloc _).then ho1 (by simp; omega)).alloc (.cells #[.int .i64 0, .int .i64 0, .int .i64 0] 133)); have oX := Lib.hid (ho1.alloc (.cells #[.int .i64 0, .int .i64 0, .int .i64 0] 133)); have HB := Lib.hid (HX.out _ oX.out); have HZ : Hid (w.heap.size + 2 ≤ W1.heap.size) := Lib.hid (by have h2 := ho1.size; simp at h2; omega); obtain ⟨⟨b0, b1, b2, b3, _⟩, ⟨r0, r1, r2, r3, rf⟩⟩ := HB.out; have rf0 := rf 0; have rf1 := rf 1; have rf2 := rf 2; have rf3 := rf 3; clear rf; clear ho1)
    | fail)
  have hE := HB.out.2.set (y0 := .int .i64 life) (y1 := .int .i64 count) (y2 := .slice a1 n1 c1) (y3 := .slice a2 n2 c2)
  have hEO := rset_only (W1.alloc (.cells #[.int .i64 0, .int .i64 0, .int .i64 0] 133)) (w.heap.size + 1) (.int .i64 life) (.int .i64 count) (.slice a1 n1 c1) (.slice a2 n2 c2)
  unfold World.rset at hE hEO
  obtain ⟨k0, k1, k2, k3, _⟩ := hE
  refine bodyPost_ret (v := .tuple #[.agg #[.int .i64 life, .int .i64 count, .slice a1 n1 c1, .slice a2 n2 c2], .int .i64 8]) (by simp [results, Try.results43, go_sem, k0, k1, k2, k3]) rfl ?_
  rw [HE.out]
  have oF := o1.out.fresh (hEO.mono (by omega) (Nat.le_refl _))
  exact ⟨_, _, rfl, H.out.grown oF, .inl rfl, .inl rfl, oF⟩

set_option maxRecDepth 100000 in
set_option maxHeartbeats 2000000 in
theorem grantX_old (w : World) (life count now term margin place num epoch : Int) (v1 v2 : Value) (xs ys : List Rec3) (base : Nat) (hbase : base ≤ w.heap.size) (h : XIs w base xs ys v1 v2) (x0 x1 : Int) (hx : (x0 != num) = true) (hf : findK xs place = some (place, (x0, x1))) (he : grantX ⟨life, count, xs, ys⟩ now term margin place num epoch = (⟨life, count, xs, ys⟩, 14)) :
    Calls Try.prog 43 #[.agg #[.int .i64 life, .int .i64 count, v1, v2], .int .i64 now, .int .i64 term, .int .i64 margin, .int .i64 place, .int .i64 num, .int .i64 epoch] w (XLeft w base v1 v2 (grantX ⟨life, count, xs, ys⟩ now term margin place num epoch).1 [.int .i64 (grantX ⟨life, count, xs, ys⟩ now term margin place num epoch).2]) := by
  have hO : Hid (Only w.heap.size w.heap.size w w) := Lib.hid (Only.refl _ _ _)
  obtain ⟨a1, n1, c1, rfl⟩ := own_slice h.ws
  obtain ⟨a2, n2, c2, rfl⟩ := own_slice h.hs
  have H := Lib.hid h
  have HBA := Lib.hid hbase
  have HX : Hid (∀ W, Only ((w.alloc (.cells #[.int .i64 life, .int .i64 count, .slice a1 n1 c1, .slice a2 n2 c2] 90)).alloc (.cells #[.int .i64 0, .int .i64 0, .slice none 0 0, .slice none 0 0] 90)).heap.size ((w.alloc (.cells #[.int .i64 life, .int .i64 count, .slice a1 n1 c1, .slice a2 n2 c2] 90)).alloc (.cells #[.int .i64 0, .int .i64 0, .slice none 0 0, .slice none 0 0] 90)).heap.size ((w.alloc (.cells #[.int .i64 life, .int .i64 count, .slice a1 n1 c1, .slice a2 n2 c2] 90)).alloc (.cells #[.int .i64 0, .int .i64 0, .slice none 0 0, .slice none 0 0] 90)) W → RBox W w.heap.size (.int .i64 life) (.int .i64 count) (.slice a1 n1 c1) (.slice a2 n2 c2) ∧ RBox W (w.heap.size + 1) (.int .i64 0) (.int .i64 0) (.slice none 0 0) (.slice none 0 0)) := Lib.hid (fun W o => by
    refine ⟨(RBox.of ((low_at _ _ _ (by simp)).trans (top_at _ _ _ rfl))).kept o (by simp; omega) (.inl (by simp; omega)), (RBox.of (top_at _ _ _ (by simp))).kept o (by simp) (.inl (by simp))⟩)
  have HE := Lib.hid he
  have HF := Lib.hid hf
  clear h he hbase hf
  go_enter Try.func43, Try.ntmps43
  go_wp2_with (first
    | (go_at_call 61; refine (wanted_any _ life count place _ _ _ (H.out.ws.reads.kept ((hO.out.alloc _).alloc _))).mono ?_; unfold Found3; rw [HF.out]; dsimp only [Option.getD, Option.isSome, rec3, zrec3]; rintro e W1 ⟨rfl, ho1⟩; have o1 := Lib.hid ((((hO.out.alloc _).alloc _).then ho1 (by simp; omega)).alloc (.cells #[.int .i64 place, .int .i64 x0, .int .i64 x1] 133)); have oX := Lib.hid (ho1.alloc (.cells #[.int .i64 place, .int .i64 x0, .int .i64 x1] 133)); have HB := Lib.hid (HX.out _ oX.out); have HZ : Hid (w.heap.size + 2 ≤ W1.heap.size) := Lib.hid (by have h2 := ho1.size; simp at h2; omega); obtain ⟨⟨b0, b1, b2, b3, _⟩, ⟨r0, r1, r2, r3, rf⟩⟩ := HB.out; have rf0 := rf 0; have rf1 := rf 1; have rf2 := rf 2; have rf3 := rf 3; clear rf; clear ho1)
    | fail)
  have hE := HB.out.2.set (y0 := .int .i64 life) (y1 := .int .i64 count) (y2 := .slice a1 n1 c1) (y3 := .slice a2 n2 c2)
  have hEO := rset_only (W1.alloc (.cells #[.int .i64 place, .int .i64 x0, .int .i64 x1] 133)) (w.heap.size + 1) (.int .i64 life) (.int .i64 count) (.slice a1 n1 c1) (.slice a2 n2 c2)
  unfold World.rset at hE hEO
  obtain ⟨k0, k1, k2, k3, _⟩ := hE
  refine bodyPost_ret (v := .tuple #[.agg #[.int .i64 life, .int .i64 count, .slice a1 n1 c1, .slice a2 n2 c2], .int .i64 14]) (by simp [results, Try.results43, go_sem, k0, k1, k2, k3]) rfl ?_
  rw [HE.out]
  have oF := o1.out.fresh (hEO.mono (by omega) (Nat.le_refl _))
  exact ⟨_, _, rfl, H.out.grown oF, .inl rfl, .inl rfl, oF⟩

set_option maxRecDepth 100000 in
set_option maxHeartbeats 2000000 in
theorem grantX_arg0 (w : World) (life count now term margin place num epoch : Int) (v1 v2 : Value) (xs ys : List Rec3) (base : Nat) (hbase : base ≤ w.heap.size) (h : XIs w base xs ys v1 v2) (x0 x1 : Int) (hx : (x0 != num) = false) (h0 : decide (term < 1) = true) (hf : findK xs place = some (place, (x0, x1))) (he : grantX ⟨life, count, xs, ys⟩ now term margin place num epoch = (⟨life, count, xs, ys⟩, 1)) :
    Calls Try.prog 43 #[.agg #[.int .i64 life, .int .i64 count, v1, v2], .int .i64 now, .int .i64 term, .int .i64 margin, .int .i64 place, .int .i64 num, .int .i64 epoch] w (XLeft w base v1 v2 (grantX ⟨life, count, xs, ys⟩ now term margin place num epoch).1 [.int .i64 (grantX ⟨life, count, xs, ys⟩ now term margin place num epoch).2]) := by
  have hO : Hid (Only w.heap.size w.heap.size w w) := Lib.hid (Only.refl _ _ _)
  obtain ⟨a1, n1, c1, rfl⟩ := own_slice h.ws
  obtain ⟨a2, n2, c2, rfl⟩ := own_slice h.hs
  have H := Lib.hid h
  have HBA := Lib.hid hbase
  have HX : Hid (∀ W, Only ((w.alloc (.cells #[.int .i64 life, .int .i64 count, .slice a1 n1 c1, .slice a2 n2 c2] 90)).alloc (.cells #[.int .i64 0, .int .i64 0, .slice none 0 0, .slice none 0 0] 90)).heap.size ((w.alloc (.cells #[.int .i64 life, .int .i64 count, .slice a1 n1 c1, .slice a2 n2 c2] 90)).alloc (.cells #[.int .i64 0, .int .i64 0, .slice none 0 0, .slice none 0 0] 90)).heap.size ((w.alloc (.cells #[.int .i64 life, .int .i64 count, .slice a1 n1 c1, .slice a2 n2 c2] 90)).alloc (.cells #[.int .i64 0, .int .i64 0, .slice none 0 0, .slice none 0 0] 90)) W → RBox W w.heap.size (.int .i64 life) (.int .i64 count) (.slice a1 n1 c1) (.slice a2 n2 c2) ∧ RBox W (w.heap.size + 1) (.int .i64 0) (.int .i64 0) (.slice none 0 0) (.slice none 0 0)) := Lib.hid (fun W o => by
    refine ⟨(RBox.of ((low_at _ _ _ (by simp)).trans (top_at _ _ _ rfl))).kept o (by simp; omega) (.inl (by simp; omega)), (RBox.of (top_at _ _ _ (by simp))).kept o (by simp) (.inl (by simp))⟩)
  have HE := Lib.hid he
  have HF := Lib.hid hf
  clear h he hbase hf
  go_enter Try.func43, Try.ntmps43
  go_wp2_with (first
    | (go_at_call 61; refine (wanted_any _ life count place _ _ _ (H.out.ws.reads.kept ((hO.out.alloc _).alloc _))).mono ?_; unfold Found3; rw [HF.out]; dsimp only [Option.getD, Option.isSome, rec3, zrec3]; rintro e W1 ⟨rfl, ho1⟩; have o1 := Lib.hid ((((hO.out.alloc _).alloc _).then ho1 (by simp; omega)).alloc (.cells #[.int .i64 place, .int .i64 x0, .int .i64 x1] 133)); have oX := Lib.hid (ho1.alloc (.cells #[.int .i64 place, .int .i64 x0, .int .i64 x1] 133)); have HB := Lib.hid (HX.out _ oX.out); have HZ : Hid (w.heap.size + 2 ≤ W1.heap.size) := Lib.hid (by have h2 := ho1.size; simp at h2; omega); obtain ⟨⟨b0, b1, b2, b3, _⟩, ⟨r0, r1, r2, r3, rf⟩⟩ := HB.out; have rf0 := rf 0; have rf1 := rf 1; have rf2 := rf 2; have rf3 := rf 3; clear rf; clear ho1)
    | fail)
  have hE := HB.out.2.set (y0 := .int .i64 life) (y1 := .int .i64 count) (y2 := .slice a1 n1 c1) (y3 := .slice a2 n2 c2)
  have hEO := rset_only (W1.alloc (.cells #[.int .i64 place, .int .i64 x0, .int .i64 x1] 133)) (w.heap.size + 1) (.int .i64 life) (.int .i64 count) (.slice a1 n1 c1) (.slice a2 n2 c2)
  unfold World.rset at hE hEO
  obtain ⟨k0, k1, k2, k3, _⟩ := hE
  refine bodyPost_ret (v := .tuple #[.agg #[.int .i64 life, .int .i64 count, .slice a1 n1 c1, .slice a2 n2 c2], .int .i64 1]) (by simp [results, Try.results43, go_sem, k0, k1, k2, k3]) rfl ?_
  rw [HE.out]
  have oF := o1.out.fresh (hEO.mono (by omega) (Nat.le_refl _))
  exact ⟨_, _, rfl, H.out.grown oF, .inl rfl, .inl rfl, oF⟩

set_option maxRecDepth 100000 in
set_option maxHeartbeats 2000000 in
theorem grantX_arg1 (w : World) (life count now term margin place num epoch : Int) (v1 v2 : Value) (xs ys : List Rec3) (base : Nat) (hbase : base ≤ w.heap.size) (h : XIs w base xs ys v1 v2) (x0 x1 : Int) (hx : (x0 != num) = false) (h0 : decide (term < 1) = false) (h1 : decide (1048576 < term) = true) (hf : findK xs place = some (place, (x0, x1))) (he : grantX ⟨life, count, xs, ys⟩ now term margin place num epoch = (⟨life, count, xs, ys⟩, 1)) :
    Calls Try.prog 43 #[.agg #[.int .i64 life, .int .i64 count, v1, v2], .int .i64 now, .int .i64 term, .int .i64 margin, .int .i64 place, .int .i64 num, .int .i64 epoch] w (XLeft w base v1 v2 (grantX ⟨life, count, xs, ys⟩ now term margin place num epoch).1 [.int .i64 (grantX ⟨life, count, xs, ys⟩ now term margin place num epoch).2]) := by
  have hO : Hid (Only w.heap.size w.heap.size w w) := Lib.hid (Only.refl _ _ _)
  obtain ⟨a1, n1, c1, rfl⟩ := own_slice h.ws
  obtain ⟨a2, n2, c2, rfl⟩ := own_slice h.hs
  have H := Lib.hid h
  have HBA := Lib.hid hbase
  have HX : Hid (∀ W, Only ((w.alloc (.cells #[.int .i64 life, .int .i64 count, .slice a1 n1 c1, .slice a2 n2 c2] 90)).alloc (.cells #[.int .i64 0, .int .i64 0, .slice none 0 0, .slice none 0 0] 90)).heap.size ((w.alloc (.cells #[.int .i64 life, .int .i64 count, .slice a1 n1 c1, .slice a2 n2 c2] 90)).alloc (.cells #[.int .i64 0, .int .i64 0, .slice none 0 0, .slice none 0 0] 90)).heap.size ((w.alloc (.cells #[.int .i64 life, .int .i64 count, .slice a1 n1 c1, .slice a2 n2 c2] 90)).alloc (.cells #[.int .i64 0, .int .i64 0, .slice none 0 0, .slice none 0 0] 90)) W → RBox W w.heap.size (.int .i64 life) (.int .i64 count) (.slice a1 n1 c1) (.slice a2 n2 c2) ∧ RBox W (w.heap.size + 1) (.int .i64 0) (.int .i64 0) (.slice none 0 0) (.slice none 0 0)) := Lib.hid (fun W o => by
    refine ⟨(RBox.of ((low_at _ _ _ (by simp)).trans (top_at _ _ _ rfl))).kept o (by simp; omega) (.inl (by simp; omega)), (RBox.of (top_at _ _ _ (by simp))).kept o (by simp) (.inl (by simp))⟩)
  have HE := Lib.hid he
  have HF := Lib.hid hf
  clear h he hbase hf
  go_enter Try.func43, Try.ntmps43
  go_wp2_with (first
    | (go_at_call 61; refine (wanted_any _ life count place _ _ _ (H.out.ws.reads.kept ((hO.out.alloc _).alloc _))).mono ?_; unfold Found3; rw [HF.out]; dsimp only [Option.getD, Option.isSome, rec3, zrec3]; rintro e W1 ⟨rfl, ho1⟩; have o1 := Lib.hid ((((hO.out.alloc _).alloc _).then ho1 (by simp; omega)).alloc (.cells #[.int .i64 place, .int .i64 x0, .int .i64 x1] 133)); have oX := Lib.hid (ho1.alloc (.cells #[.int .i64 place, .int .i64 x0, .int .i64 x1] 133)); have HB := Lib.hid (HX.out _ oX.out); have HZ : Hid (w.heap.size + 2 ≤ W1.heap.size) := Lib.hid (by have h2 := ho1.size; simp at h2; omega); obtain ⟨⟨b0, b1, b2, b3, _⟩, ⟨r0, r1, r2, r3, rf⟩⟩ := HB.out; have rf0 := rf 0; have rf1 := rf 1; have rf2 := rf 2; have rf3 := rf 3; clear rf; clear ho1)
    | fail)
  have hE := HB.out.2.set (y0 := .int .i64 life) (y1 := .int .i64 count) (y2 := .slice a1 n1 c1) (y3 := .slice a2 n2 c2)
  have hEO := rset_only (W1.alloc (.cells #[.int .i64 place, .int .i64 x0, .int .i64 x1] 133)) (w.heap.size + 1) (.int .i64 life) (.int .i64 count) (.slice a1 n1 c1) (.slice a2 n2 c2)
  unfold World.rset at hE hEO
  obtain ⟨k0, k1, k2, k3, _⟩ := hE
  refine bodyPost_ret (v := .tuple #[.agg #[.int .i64 life, .int .i64 count, .slice a1 n1 c1, .slice a2 n2 c2], .int .i64 1]) (by simp [results, Try.results43, go_sem, k0, k1, k2, k3]) rfl ?_
  rw [HE.out]
  have oF := o1.out.fresh (hEO.mono (by omega) (Nat.le_refl _))
  exact ⟨_, _, rfl, H.out.grown oF, .inl rfl, .inl rfl, oF⟩

set_option maxRecDepth 100000 in
set_option maxHeartbeats 2000000 in
theorem grantX_arg2 (w : World) (life count now term margin place num epoch : Int) (v1 v2 : Value) (xs ys : List Rec3) (base : Nat) (hbase : base ≤ w.heap.size) (h : XIs w base xs ys v1 v2) (x0 x1 : Int) (hx : (x0 != num) = false) (h0 : decide (term < 1) = false) (h1 : decide (1048576 < term) = false) (h2 : decide (margin < 0) = true) (hf : findK xs place = some (place, (x0, x1))) (he : grantX ⟨life, count, xs, ys⟩ now term margin place num epoch = (⟨life, count, xs, ys⟩, 1)) :
    Calls Try.prog 43 #[.agg #[.int .i64 life, .int .i64 count, v1, v2], .int .i64 now, .int .i64 term, .int .i64 margin, .int .i64 place, .int .i64 num, .int .i64 epoch] w (XLeft w base v1 v2 (grantX ⟨life, count, xs, ys⟩ now term margin place num epoch).1 [.int .i64 (grantX ⟨life, count, xs, ys⟩ now term margin place num epoch).2]) := by
  have hO : Hid (Only w.heap.size w.heap.size w w) := Lib.hid (Only.refl _ _ _)
  obtain ⟨a1, n1, c1, rfl⟩ := own_slice h.ws
  obtain ⟨a2, n2, c2, rfl⟩ := own_slice h.hs
  have H := Lib.hid h
  have HBA := Lib.hid hbase
  have HX : Hid (∀ W, Only ((w.alloc (.cells #[.int .i64 life, .int .i64 count, .slice a1 n1 c1, .slice a2 n2 c2] 90)).alloc (.cells #[.int .i64 0, .int .i64 0, .slice none 0 0, .slice none 0 0] 90)).heap.size ((w.alloc (.cells #[.int .i64 life, .int .i64 count, .slice a1 n1 c1, .slice a2 n2 c2] 90)).alloc (.cells #[.int .i64 0, .int .i64 0, .slice none 0 0, .slice none 0 0] 90)).heap.size ((w.alloc (.cells #[.int .i64 life, .int .i64 count, .slice a1 n1 c1, .slice a2 n2 c2] 90)).alloc (.cells #[.int .i64 0, .int .i64 0, .slice none 0 0, .slice none 0 0] 90)) W → RBox W w.heap.size (.int .i64 life) (.int .i64 count) (.slice a1 n1 c1) (.slice a2 n2 c2) ∧ RBox W (w.heap.size + 1) (.int .i64 0) (.int .i64 0) (.slice none 0 0) (.slice none 0 0)) := Lib.hid (fun W o => by
    refine ⟨(RBox.of ((low_at _ _ _ (by simp)).trans (top_at _ _ _ rfl))).kept o (by simp; omega) (.inl (by simp; omega)), (RBox.of (top_at _ _ _ (by simp))).kept o (by simp) (.inl (by simp))⟩)
  have HE := Lib.hid he
  have HF := Lib.hid hf
  clear h he hbase hf
  go_enter Try.func43, Try.ntmps43
  go_wp2_with (first
    | (go_at_call 61; refine (wanted_any _ life count place _ _ _ (H.out.ws.reads.kept ((hO.out.alloc _).alloc _))).mono ?_; unfold Found3; rw [HF.out]; dsimp only [Option.getD, Option.isSome, rec3, zrec3]; rintro e W1 ⟨rfl, ho1⟩; have o1 := Lib.hid ((((hO.out.alloc _).alloc _).then ho1 (by simp; omega)).alloc (.cells #[.int .i64 place, .int .i64 x0, .int .i64 x1] 133)); have oX := Lib.hid (ho1.alloc (.cells #[.int .i64 place, .int .i64 x0, .int .i64 x1] 133)); have HB := Lib.hid (HX.out _ oX.out); have HZ : Hid (w.heap.size + 2 ≤ W1.heap.size) := Lib.hid (by have h2 := ho1.size; simp at h2; omega); obtain ⟨⟨b0, b1, b2, b3, _⟩, ⟨r0, r1, r2, r3, rf⟩⟩ := HB.out; have rf0 := rf 0; have rf1 := rf 1; have rf2 := rf 2; have rf3 := rf 3; clear rf; clear ho1)
    | fail)
  have hE := HB.out.2.set (y0 := .int .i64 life) (y1 := .int .i64 count) (y2 := .slice a1 n1 c1) (y3 := .slice a2 n2 c2)
  have hEO := rset_only (W1.alloc (.cells #[.int .i64 place, .int .i64 x0, .int .i64 x1] 133)) (w.heap.size + 1) (.int .i64 life) (.int .i64 count) (.slice a1 n1 c1) (.slice a2 n2 c2)
  unfold World.rset at hE hEO
  obtain ⟨k0, k1, k2, k3, _⟩ := hE
  refine bodyPost_ret (v := .tuple #[.agg #[.int .i64 life, .int .i64 count, .slice a1 n1 c1, .slice a2 n2 c2], .int .i64 1]) (by simp [results, Try.results43, go_sem, k0, k1, k2, k3]) rfl ?_
  rw [HE.out]
  have oF := o1.out.fresh (hEO.mono (by omega) (Nat.le_refl _))
  exact ⟨_, _, rfl, H.out.grown oF, .inl rfl, .inl rfl, oF⟩

set_option maxRecDepth 100000 in
set_option maxHeartbeats 2000000 in
theorem grantX_arg3 (w : World) (life count now term margin place num epoch : Int) (v1 v2 : Value) (xs ys : List Rec3) (base : Nat) (hbase : base ≤ w.heap.size) (h : XIs w base xs ys v1 v2) (x0 x1 : Int) (hx : (x0 != num) = false) (h0 : decide (term < 1) = false) (h1 : decide (1048576 < term) = false) (h2 : decide (margin < 0) = false) (h3 : decide (1048576 < margin) = true) (hf : findK xs place = some (place, (x0, x1))) (he : grantX ⟨life, count, xs, ys⟩ now term margin place num epoch = (⟨life, count, xs, ys⟩, 1)) :
    Calls Try.prog 43 #[.agg #[.int .i64 life, .int .i64 count, v1, v2], .int .i64 now, .int .i64 term, .int .i64 margin, .int .i64 place, .int .i64 num, .int .i64 epoch] w (XLeft w base v1 v2 (grantX ⟨life, count, xs, ys⟩ now term margin place num epoch).1 [.int .i64 (grantX ⟨life, count, xs, ys⟩ now term margin place num epoch).2]) := by
  have hO : Hid (Only w.heap.size w.heap.size w w) := Lib.hid (Only.refl _ _ _)
  obtain ⟨a1, n1, c1, rfl⟩ := own_slice h.ws
  obtain ⟨a2, n2, c2, rfl⟩ := own_slice h.hs
  have H := Lib.hid h
  have HBA := Lib.hid hbase
  have HX : Hid (∀ W, Only ((w.alloc (.cells #[.int .i64 life, .int .i64 count, .slice a1 n1 c1, .slice a2 n2 c2] 90)).alloc (.cells #[.int .i64 0, .int .i64 0, .slice none 0 0, .slice none 0 0] 90)).heap.size ((w.alloc (.cells #[.int .i64 life, .int .i64 count, .slice a1 n1 c1, .slice a2 n2 c2] 90)).alloc (.cells #[.int .i64 0, .int .i64 0, .slice none 0 0, .slice none 0 0] 90)).heap.size ((w.alloc (.cells #[.int .i64 life, .int .i64 count, .slice a1 n1 c1, .slice a2 n2 c2] 90)).alloc (.cells #[.int .i64 0, .int .i64 0, .slice none 0 0, .slice none 0 0] 90)) W → RBox W w.heap.size (.int .i64 life) (.int .i64 count) (.slice a1 n1 c1) (.slice a2 n2 c2) ∧ RBox W (w.heap.size + 1) (.int .i64 0) (.int .i64 0) (.slice none 0 0) (.slice none 0 0)) := Lib.hid (fun W o => by
    refine ⟨(RBox.of ((low_at _ _ _ (by simp)).trans (top_at _ _ _ rfl))).kept o (by simp; omega) (.inl (by simp; omega)), (RBox.of (top_at _ _ _ (by simp))).kept o (by simp) (.inl (by simp))⟩)
  have HE := Lib.hid he
  have HF := Lib.hid hf
  clear h he hbase hf
  go_enter Try.func43, Try.ntmps43
  go_wp2_with (first
    | (go_at_call 61; refine (wanted_any _ life count place _ _ _ (H.out.ws.reads.kept ((hO.out.alloc _).alloc _))).mono ?_; unfold Found3; rw [HF.out]; dsimp only [Option.getD, Option.isSome, rec3, zrec3]; rintro e W1 ⟨rfl, ho1⟩; have o1 := Lib.hid ((((hO.out.alloc _).alloc _).then ho1 (by simp; omega)).alloc (.cells #[.int .i64 place, .int .i64 x0, .int .i64 x1] 133)); have oX := Lib.hid (ho1.alloc (.cells #[.int .i64 place, .int .i64 x0, .int .i64 x1] 133)); have HB := Lib.hid (HX.out _ oX.out); have HZ : Hid (w.heap.size + 2 ≤ W1.heap.size) := Lib.hid (by have h2 := ho1.size; simp at h2; omega); obtain ⟨⟨b0, b1, b2, b3, _⟩, ⟨r0, r1, r2, r3, rf⟩⟩ := HB.out; have rf0 := rf 0; have rf1 := rf 1; have rf2 := rf 2; have rf3 := rf 3; clear rf; clear ho1)
    | fail)
  have hE := HB.out.2.set (y0 := .int .i64 life) (y1 := .int .i64 count) (y2 := .slice a1 n1 c1) (y3 := .slice a2 n2 c2)
  have hEO := rset_only (W1.alloc (.cells #[.int .i64 place, .int .i64 x0, .int .i64 x1] 133)) (w.heap.size + 1) (.int .i64 life) (.int .i64 count) (.slice a1 n1 c1) (.slice a2 n2 c2)
  unfold World.rset at hE hEO
  obtain ⟨k0, k1, k2, k3, _⟩ := hE
  refine bodyPost_ret (v := .tuple #[.agg #[.int .i64 life, .int .i64 count, .slice a1 n1 c1, .slice a2 n2 c2], .int .i64 1]) (by simp [results, Try.results43, go_sem, k0, k1, k2, k3]) rfl ?_
  rw [HE.out]
  have oF := o1.out.fresh (hEO.mono (by omega) (Nat.le_refl _))
  exact ⟨_, _, rfl, H.out.grown oF, .inl rfl, .inl rfl, oF⟩

set_option maxRecDepth 100000 in
set_option maxHeartbeats 2000000 in
theorem grantX_arg4 (w : World) (life count now term margin place num epoch : Int) (v1 v2 : Value) (xs ys : List Rec3) (base : Nat) (hbase : base ≤ w.heap.size) (h : XIs w base xs ys v1 v2) (x0 x1 : Int) (hx : (x0 != num) = false) (h0 : decide (term < 1) = false) (h1 : decide (1048576 < term) = false) (h2 : decide (margin < 0) = false) (h3 : decide (1048576 < margin) = false) (hm : now < 0 ∨ 1099511627776 < now) (hf : findK xs place = some (place, (x0, x1))) (he : grantX ⟨life, count, xs, ys⟩ now term margin place num epoch = (⟨life, count, xs, ys⟩, 1)) :
    Calls Try.prog 43 #[.agg #[.int .i64 life, .int .i64 count, v1, v2], .int .i64 now, .int .i64 term, .int .i64 margin, .int .i64 place, .int .i64 num, .int .i64 epoch] w (XLeft w base v1 v2 (grantX ⟨life, count, xs, ys⟩ now term margin place num epoch).1 [.int .i64 (grantX ⟨life, count, xs, ys⟩ now term margin place num epoch).2]) := by
  have hO : Hid (Only w.heap.size w.heap.size w w) := Lib.hid (Only.refl _ _ _)
  obtain ⟨a1, n1, c1, rfl⟩ := own_slice h.ws
  obtain ⟨a2, n2, c2, rfl⟩ := own_slice h.hs
  have H := Lib.hid h
  have HBA := Lib.hid hbase
  have HX : Hid (∀ W, Only ((w.alloc (.cells #[.int .i64 life, .int .i64 count, .slice a1 n1 c1, .slice a2 n2 c2] 90)).alloc (.cells #[.int .i64 0, .int .i64 0, .slice none 0 0, .slice none 0 0] 90)).heap.size ((w.alloc (.cells #[.int .i64 life, .int .i64 count, .slice a1 n1 c1, .slice a2 n2 c2] 90)).alloc (.cells #[.int .i64 0, .int .i64 0, .slice none 0 0, .slice none 0 0] 90)).heap.size ((w.alloc (.cells #[.int .i64 life, .int .i64 count, .slice a1 n1 c1, .slice a2 n2 c2] 90)).alloc (.cells #[.int .i64 0, .int .i64 0, .slice none 0 0, .slice none 0 0] 90)) W → RBox W w.heap.size (.int .i64 life) (.int .i64 count) (.slice a1 n1 c1) (.slice a2 n2 c2) ∧ RBox W (w.heap.size + 1) (.int .i64 0) (.int .i64 0) (.slice none 0 0) (.slice none 0 0)) := Lib.hid (fun W o => by
    refine ⟨(RBox.of ((low_at _ _ _ (by simp)).trans (top_at _ _ _ rfl))).kept o (by simp; omega) (.inl (by simp; omega)), (RBox.of (top_at _ _ _ (by simp))).kept o (by simp) (.inl (by simp))⟩)
  have HE := Lib.hid he
  have HF := Lib.hid hf
  have HM := Lib.hid hm
  clear hm
  clear h he hbase hf
  go_enter Try.func43, Try.ntmps43
  go_wp2_with (first
    | (go_at_call 61; refine (wanted_any _ life count place _ _ _ (H.out.ws.reads.kept ((hO.out.alloc _).alloc _))).mono ?_; unfold Found3; rw [HF.out]; dsimp only [Option.getD, Option.isSome, rec3, zrec3]; rintro e W1 ⟨rfl, ho1⟩; have o1 := Lib.hid ((((hO.out.alloc _).alloc _).then ho1 (by simp; omega)).alloc (.cells #[.int .i64 place, .int .i64 x0, .int .i64 x1] 133)); have oX := Lib.hid (ho1.alloc (.cells #[.int .i64 place, .int .i64 x0, .int .i64 x1] 133)); have HB := Lib.hid (HX.out _ oX.out); have HZ : Hid (w.heap.size + 2 ≤ W1.heap.size) := Lib.hid (by have h2 := ho1.size; simp at h2; omega); obtain ⟨⟨b0, b1, b2, b3, _⟩, ⟨r0, r1, r2, r3, rf⟩⟩ := HB.out; have rf0 := rf 0; have rf1 := rf 1; have rf2 := rf 2; have rf3 := rf 3; clear rf; clear ho1)
    | (go_at_call 59; refine (moment_no _ now HM.out).mono ?_; rintro e W9 ⟨rfl, rfl⟩)
    | fail)
  have hE := HB.out.2.set (y0 := .int .i64 life) (y1 := .int .i64 count) (y2 := .slice a1 n1 c1) (y3 := .slice a2 n2 c2)
  have hEO := rset_only (W1.alloc (.cells #[.int .i64 place, .int .i64 x0, .int .i64 x1] 133)) (w.heap.size + 1) (.int .i64 life) (.int .i64 count) (.slice a1 n1 c1) (.slice a2 n2 c2)
  unfold World.rset at hE hEO
  obtain ⟨k0, k1, k2, k3, _⟩ := hE
  refine bodyPost_ret (v := .tuple #[.agg #[.int .i64 life, .int .i64 count, .slice a1 n1 c1, .slice a2 n2 c2], .int .i64 1]) (by simp [results, Try.results43, go_sem, k0, k1, k2, k3]) rfl ?_
  rw [HE.out]
  have oF := o1.out.fresh (hEO.mono (by omega) (Nat.le_refl _))
  exact ⟨_, _, rfl, H.out.grown oF, .inl rfl, .inl rfl, oF⟩

set_option maxRecDepth 100000 in
set_option maxHeartbeats 2000000 in
theorem grantX_arg5 (w : World) (life count now term margin place num epoch : Int) (v1 v2 : Value) (xs ys : List Rec3) (base : Nat) (hbase : base ≤ w.heap.size) (h : XIs w base xs ys v1 v2) (x0 x1 : Int) (hx : (x0 != num) = false) (h0 : decide (term < 1) = false) (h1 : decide (1048576 < term) = false) (h2 : decide (margin < 0) = false) (h3 : decide (1048576 < margin) = false) (hm : 0 ≤ now ∧ now ≤ 1099511627776) (ha : x1 < 0 ∨ 1099511627776 < x1) (hf : findK xs place = some (place, (x0, x1))) (he : grantX ⟨life, count, xs, ys⟩ now term margin place num epoch = (⟨life, count, xs, ys⟩, 1)) :
    Calls Try.prog 43 #[.agg #[.int .i64 life, .int .i64 count, v1, v2], .int .i64 now, .int .i64 term, .int .i64 margin, .int .i64 place, .int .i64 num, .int .i64 epoch] w (XLeft w base v1 v2 (grantX ⟨life, count, xs, ys⟩ now term margin place num epoch).1 [.int .i64 (grantX ⟨life, count, xs, ys⟩ now term margin place num epoch).2]) := by
  have hO : Hid (Only w.heap.size w.heap.size w w) := Lib.hid (Only.refl _ _ _)
  obtain ⟨a1, n1, c1, rfl⟩ := own_slice h.ws
  obtain ⟨a2, n2, c2, rfl⟩ := own_slice h.hs
  have H := Lib.hid h
  have HBA := Lib.hid hbase
  have HX : Hid (∀ W, Only ((w.alloc (.cells #[.int .i64 life, .int .i64 count, .slice a1 n1 c1, .slice a2 n2 c2] 90)).alloc (.cells #[.int .i64 0, .int .i64 0, .slice none 0 0, .slice none 0 0] 90)).heap.size ((w.alloc (.cells #[.int .i64 life, .int .i64 count, .slice a1 n1 c1, .slice a2 n2 c2] 90)).alloc (.cells #[.int .i64 0, .int .i64 0, .slice none 0 0, .slice none 0 0] 90)).heap.size ((w.alloc (.cells #[.int .i64 life, .int .i64 count, .slice a1 n1 c1, .slice a2 n2 c2] 90)).alloc (.cells #[.int .i64 0, .int .i64 0, .slice none 0 0, .slice none 0 0] 90)) W → RBox W w.heap.size (.int .i64 life) (.int .i64 count) (.slice a1 n1 c1) (.slice a2 n2 c2) ∧ RBox W (w.heap.size + 1) (.int .i64 0) (.int .i64 0) (.slice none 0 0) (.slice none 0 0)) := Lib.hid (fun W o => by
    refine ⟨(RBox.of ((low_at _ _ _ (by simp)).trans (top_at _ _ _ rfl))).kept o (by simp; omega) (.inl (by simp; omega)), (RBox.of (top_at _ _ _ (by simp))).kept o (by simp) (.inl (by simp))⟩)
  have HE := Lib.hid he
  have HF := Lib.hid hf
  have HM := Lib.hid hm
  have HA := Lib.hid ha
  clear hm ha
  clear h he hbase hf
  go_enter Try.func43, Try.ntmps43
  go_wp2_with (first
    | (go_at_call 61; refine (wanted_any _ life count place _ _ _ (H.out.ws.reads.kept ((hO.out.alloc _).alloc _))).mono ?_; unfold Found3; rw [HF.out]; dsimp only [Option.getD, Option.isSome, rec3, zrec3]; rintro e W1 ⟨rfl, ho1⟩; have o1 := Lib.hid ((((hO.out.alloc _).alloc _).then ho1 (by simp; omega)).alloc (.cells #[.int .i64 place, .int .i64 x0, .int .i64 x1] 133)); have oX := Lib.hid (ho1.alloc (.cells #[.int .i64 place, .int .i64 x0, .int .i64 x1] 133)); have HB := Lib.hid (HX.out _ oX.out); have HZ : Hid (w.heap.size + 2 ≤ W1.heap.size) := Lib.hid (by have h2 := ho1.size; simp at h2; omega); obtain ⟨⟨b0, b1, b2, b3, _⟩, ⟨r0, r1, r2, r3, rf⟩⟩ := HB.out; have rf0 := rf 0; have rf1 := rf 1; have rf2 := rf 2; have rf3 := rf 3; clear rf; clear ho1)
    | (go_at_call 59; (with_reducible refine (moment_yes _ now HM.out.1 HM.out.2).mono ?_); rintro e W9 ⟨rfl, rfl⟩)
    | (go_at_call 59; (with_reducible refine (moment_no _ x1 HA.out).mono ?_); rintro e W9 ⟨rfl, rfl⟩)
    | fail)
  have hE := HB.out.2.set (y0 := .int .i64 life) (y1 := .int .i64 count) (y2 := .slice a1 n1 c1) (y3 := .slice a2 n2 c2)
  have hEO := rset_only (W1.alloc (.cells #[.int .i64 place, .int .i64 x0, .int .i64 x1] 133)) (w.heap.size + 1) (.int .i64 life) (.int .i64 count) (.slice a1 n1 c1) (.slice a2 n2 c2)
  unfold World.rset at hE hEO
  obtain ⟨k0, k1, k2, k3, _⟩ := hE
  refine bodyPost_ret (v := .tuple #[.agg #[.int .i64 life, .int .i64 count, .slice a1 n1 c1, .slice a2 n2 c2], .int .i64 1]) (by simp [results, Try.results43, go_sem, k0, k1, k2, k3]) rfl ?_
  rw [HE.out]
  have oF := o1.out.fresh (hEO.mono (by omega) (Nat.le_refl _))
  exact ⟨_, _, rfl, H.out.grown oF, .inl rfl, .inl rfl, oF⟩
end Go.Proofs.Ytefllgpehhlkoaa
