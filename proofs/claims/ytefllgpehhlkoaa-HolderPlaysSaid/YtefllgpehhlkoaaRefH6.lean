/-
  The document's holder (tillerref19): Granted, where the want is open.
-/
import Derived.Test.YtefllgpehhlkoaaRefH5
namespace Go.Proofs.Ytefllgpehhlkoaa
open Go.RowKit Go.Maps
set_option linter.unusedVariables false

/-- the state stored in its block B -/
structure GrantV (w V : World) (B base : Nat) (y0 y1 y2 y3 u u1 : Value) (zs xs : List Rec3) : Prop where
  only : Only w.heap.size w.heap.size w V
  hx : RBox V B y0 y1 y2 y3
  hr : RBox V (w.heap.size + 1) (.int .i64 0) (.int .i64 0) (.slice none 0 0) (.slice none 0 0)
  hu : OwnS layH V base u zs
  hw : OwnS layW V (w.heap.size + 2) u1 xs
  below : ∀ g, u1.ownBlock = some g → g < B
  lo : w.heap.size + 2 ≤ B
  lt : B < base
  top : base ≤ V.heap.size
theorem GrantV.kept {w V V' : World} {B base : Nat} {y0 y1 y2 y3 u u1 : Value} {zs xs : List Rec3} (k : GrantV w V B base y0 y1 y2 y3 u u1 zs xs) (o : Only V.heap.size V.heap.size V V') : GrantV w V' B base y0 y1 y2 y3 u u1 zs xs :=
  have hlo := k.lo
  have hlt := k.lt
  have ht := k.top
  ⟨k.only.then o k.only.size, k.hx.kept o (by omega) (.inl (by omega)), k.hr.kept o (by omega) (.inl (by omega)), k.hu.grown o, k.hw.grown o, k.below, hlo, hlt, Nat.le_trans ht o.size⟩
theorem grant_v {w W4 : World} {B base : Nat} {x0 x1 x2 x3 y0 y1 y2 y3 u u1 : Value} {zs xs : List Rec3} (o4 : Only w.heap.size w.heap.size w W4) (hx : RBox W4 B x0 x1 x2 x3) (hr : RBox W4 (w.heap.size + 1) (.int .i64 0) (.int .i64 0) (.slice none 0 0) (.slice none 0 0))
    (hu : OwnS layH W4 base u zs) (hw : OwnS layW W4 (w.heap.size + 2) u1 xs) (hb : ∀ g, u1.ownBlock = some g → g < B) (hlo : w.heap.size + 2 ≤ B) (hlt : B < base) (ht : base ≤ W4.heap.size) (R : Obj) : GrantV w ((World.rset W4 B y0 y1 y2 y3).alloc R) B base y0 y1 y2 y3 u u1 zs xs := by
  have o1 := rset_only W4 B y0 y1 y2 y3
  have h : GrantV w (World.rset W4 B y0 y1 y2 y3) B base y0 y1 y2 y3 u u1 zs xs :=
    ⟨o4.fresh (o1.mono (by omega) (Nat.le_refl _)), hx.set, hr.kept o1 (by omega) (.inl (by omega)), hu.keptOnly o1 (by omega), hw.staysX fun g hg => o1.block g (hw.blocks g hg).2 (by have := hb g hg; omega), hb, hlo, hlt, Nat.le_trans ht o1.size⟩
  exact h.kept ((Only.refl _ _ _).alloc R)
/-- behind the append -/
theorem GrantV.app {w V w5 : World} {B base : Nat} {y0 y1 y2 y3 u u1 v : Value} {zs zs' xs : List Rec3} (k : GrantV w V B base y0 y1 y2 y3 u u1 zs xs) (hown : OwnS layH w5 base v zs') (hg : V.grownBy w5 u.ownBlock) :
    AskMid layH w w5 B base y0 y1 y2 y3 v zs' ∧ OwnS layW w5 (w.heap.size + 2) u1 xs := by
  have o3 : Only base V.heap.size V w5 := k.hu.only hg (fun g e => (k.hu.blocks g e).2)
  exact ⟨ask_mid2 k.only k.lo k.hx k.hr k.hu k.lt hown hg, k.hw.staysX fun g hg2 => o3.block g (k.hw.blocks g hg2).2 (by have := k.below g hg2; have := k.lt; omega)⟩
theorem grant_done {w w5 : World} {B base : Nat} {y0 y1 y2 y3 u1 v : Value} {zs xs : List Rec3} (k : AskMid layH w w5 B base y0 y1 y2 y3 v zs ∧ OwnS layW w5 (w.heap.size + 2) u1 xs) (hb : ∀ g, u1.ownBlock = some g → g < B) (z0 z1 z2 z3 : Value) :
    OwnS layW (World.rset (w5.setCell ⟨B, 3, none⟩ v) (w.heap.size + 1) z0 z1 z2 z3) (w.heap.size + 2) u1 xs := by
  have o1 := set_only w5 B 3 v
  have n1 := k.2.staysX (w' := w5.setCell ⟨B, 3, none⟩ v) fun g hg => o1.block g (k.2.blocks g hg).2 (by have := hb g hg; omega)
  exact n1.keptOnly (rset_only _ _ _ _ _ _) (Nat.le_refl _)

set_option maxRecDepth 100000 in
set_option maxHeartbeats 2000000 in
theorem grantX_late (w : World) (life count now term margin place num epoch : Int) (v1 v2 : Value) (xs ys : List Rec3) (base : Nat) (hbase : base ≤ w.heap.size) (h : XIs w base xs ys v1 v2) (hll : xs.length ≤ 10000) (hll2 : ys.length ≤ 10000) (x0 x1 : Int) (hx : (x0 != num) = false) (h0 : decide (term < 1) = false) (h1 : decide (1048576 < term) = false) (h2 : decide (margin < 0) = false) (h3 : decide (1048576 < margin) = false) (hm : 0 ≤ now ∧ now ≤ 1099511627776) (ha : 0 ≤ x1 ∧ x1 ≤ 1099511627776) (hbt : 1 ≤ term ∧ term ≤ 1048576 ∧ 0 ≤ margin ∧ margin ≤ 1048576) (hu : decide (x1 + term - margin ≤ now) = true) (hf : findK xs place = some (place, (x0, x1))) (he : grantX ⟨life, count, xs, ys⟩ now term margin place num epoch = (⟨life, count, mdel xs place, ys⟩, 16)) :
    Calls Try.prog 43 #[.agg #[.int .i64 life, .int .i64 count, v1, v2], .int .i64 now, .int .i64 term, .int .i64 margin, .int .i64 place, .int .i64 num, .int .i64 epoch] w (XLeft w base v1 v2 (grantX ⟨life, count, xs, ys⟩ now term margin place num epoch).1 [.int .i64 (grantX ⟨life, count, xs, ys⟩ now term margin place num epoch).2]) := by
  have hO : Hid (Only w.heap.size w.heap.size w w) := Lib.hid (Only.refl _ _ _)
  obtain ⟨a1, n1, c1, rfl⟩ := own_slice h.ws
  obtain ⟨a2, n2, c2, rfl⟩ := own_slice h.hs
  have H := Lib.hid h
  have HBA := Lib.hid hbase
  have HX : Hid (∀ W, Only ((w.alloc (.cells #[.int .i64 life, .int .i64 count, .slice a1 n1 c1, .slice a2 n2 c2] 90)).alloc (.cells #[.int .i64 0, .int .i64 0, .slice none 0 0, .slice none 0 0] 90)).heap.size ((w.alloc (.cells #[.int .i64 life, .int .i64 count, .slice a1 n1 c1, .slice a2 n2 c2] 90)).alloc (.cells #[.int .i64 0, .int .i64 0, .slice none 0 0, .slice none 0 0] 90)).heap.size ((w.alloc (.cells #[.int .i64 life, .int .i64 count, .slice a1 n1 c1, .slice a2 n2 c2] 90)).alloc (.cells #[.int .i64 0, .int .i64 0, .slice none 0 0, .slice none 0 0] 90)) W → RBox W w.heap.size (.int .i64 life) (.int .i64 count) (.slice a1 n1 c1) (.slice a2 n2 c2) ∧ RBox W (w.heap.size + 1) (.int .i64 0) (.int .i64 0) (.slice none 0 0) (.slice none 0 0)) := Lib.hid (fun W o => by
    refine ⟨(RBox.of ((low_at _ _ _ (by simp)).trans (top_at _ _ _ rfl))).kept o (by simp; omega) (.inl (by simp; omega)), (RBox.of (top_at _ _ _ (by simp))).kept o (by simp) (.inl (by simp))⟩)
  have HE := Lib.hid he
  have HF := Lib.hid hf
  have HM := Lib.hid hm
  have HA := Lib.hid ha
  have HLL := Lib.hid hll
  have HLM := Lib.hid hll2
  have hw1 : IntKind.i64.wrap (x1 + term) = x1 + term := IntWalk.i64_in _ (by omega)
  have hw2 : IntKind.i64.wrap (x1 + term - margin) = x1 + term - margin := IntWalk.i64_in _ (by omega)
  have hb := build1_137
  clear h he hbase hf hm ha hll hll2 hbt
  go_enter Try.func43, Try.ntmps43
  go_wp2_with (first
    | (go_at_call 61; refine (wanted_any _ life count place _ _ _ (H.out.ws.reads.kept ((hO.out.alloc _).alloc _))).mono ?_; unfold Found3; rw [HF.out]; dsimp only [Option.getD, Option.isSome, rec3, zrec3]; rintro e W1 ⟨rfl, ho1⟩; have o1 := Lib.hid ((((hO.out.alloc _).alloc _).then ho1 (by simp; omega)).alloc (.cells #[.int .i64 place, .int .i64 x0, .int .i64 x1] 133)); have oX := Lib.hid (ho1.alloc (.cells #[.int .i64 place, .int .i64 x0, .int .i64 x1] 133)); have HT1 : Hid (T3 (W1.alloc (.cells #[.int .i64 place, .int .i64 x0, .int .i64 x1] 133)) W1.heap.size place x0 x1) := Lib.hid (T3.of (top_at _ _ _ rfl)); have HB := Lib.hid (HX.out _ oX.out); have HZ : Hid (w.heap.size + 2 ≤ W1.heap.size) := Lib.hid (by have h2 := ho1.size; simp at h2; omega); obtain ⟨⟨b0, b1, b2, b3, _⟩, ⟨r0, r1, r2, r3, rf⟩⟩ := HB.out; have rf0 := rf 0; have rf1 := rf 1; have rf2 := rf 2; have rf3 := rf 3; clear rf; clear ho1)
    | (go_at_call 59; (with_reducible refine (moment_yes _ now HM.out.1 HM.out.2).mono ?_); rintro e W9 ⟨rfl, rfl⟩)
    | (go_at_call 59; (with_reducible refine (moment_yes _ x1 HA.out.1 HA.out.2).mono ?_); rintro e W9 ⟨rfl, rfl⟩)
    | (go_at_call 60; refine (unwant_any _ life count place _ _ _ (H.out.ws.reads.kept o1.out) (by have := HLL.out; omega) ⟨_, _, _, rfl⟩).mono ?_; rintro e W2 ⟨v2', rfl, hr2, ho2⟩; have HR2 := Lib.hid hr2; obtain ⟨u1a, u1n, u1c, rfl⟩ := own_val hr2; have hz2 := ho2.size; have HZ2 : Hid (w.heap.size + 3 ≤ W2.heap.size) := Lib.hid (by have := HZ.out; simp at hz2; omega); have o2 := Lib.hid ((o1.out.then ho2 o1.out.size).alloc (.cells #[.int .i64 life, .int .i64 count, .slice u1a u1n u1c, .slice a2 n2 c2] 90)); have oX2 := Lib.hid ((oX.out.then ho2 oX.out.size).alloc (.cells #[.int .i64 life, .int .i64 count, .slice u1a u1n u1c, .slice a2 n2 c2] 90)); have HB2 := Lib.hid (HX.out _ oX2.out); have HT2 := Lib.hid (HT1.out.kept (ho2.alloc (.cells #[.int .i64 life, .int .i64 count, .slice u1a u1n u1c, .slice a2 n2 c2] 90)) (by simp) (.inl (by simp))); have HO2 : Hid (RBox (W2.alloc (.cells #[.int .i64 life, .int .i64 count, .slice u1a u1n u1c, .slice a2 n2 c2] 90)) W2.heap.size (.int .i64 life) (.int .i64 count) (.slice u1a u1n u1c) (.slice a2 n2 c2)) := Lib.hid (RBox.of (top_at _ _ _ rfl)); clear b0 b1 b2 b3 r0 r1 r2 r3 rf0 rf1 rf2 rf3; clear hr2 ho2 hz2; obtain ⟨⟨b0, b1, b2, b3, _⟩, ⟨r0, r1, r2, r3, rf⟩⟩ := HB2.out; have rf0 := rf 0; have rf1 := rf 1; have rf2 := rf 2; have rf3 := rf 3; clear rf; obtain ⟨t0, t1, t2, _⟩ := HT2.out)
    | fail)
  have hE := HB2.out.2.set (y0 := .int .i64 life) (y1 := .int .i64 count) (y2 := .slice u1a u1n u1c) (y3 := .slice a2 n2 c2)
  have hEO := rset_only (W2.alloc (.cells #[.int .i64 life, .int .i64 count, .slice u1a u1n u1c, .slice a2 n2 c2] 90)) (w.heap.size + 1) (.int .i64 life) (.int .i64 count) (.slice u1a u1n u1c) (.slice a2 n2 c2)
  unfold World.rset at hE hEO
  obtain ⟨k0, k1, k2, k3, _⟩ := hE
  refine bodyPost_ret (v := .tuple #[.agg #[.int .i64 life, .int .i64 count, .slice u1a u1n u1c, .slice a2 n2 c2], .int .i64 16]) (by simp [results, Try.results43, go_sem, k0, k1, k2, k3]) rfl ?_
  rw [HE.out]
  have oF := o2.out.fresh (hEO.mono (by omega) (Nat.le_refl _))
  have hF := (HR2.out.grown ((Only.refl _ _ W2).alloc (.cells #[.int .i64 life, .int .i64 count, .slice u1a u1n u1c, .slice a2 n2 c2] 90))).keptOnly hEO (by have := HZ.out; simp; omega)
  exact ⟨_, _, rfl, ⟨hF.mono (Nat.le_trans HBA.out o1.out.size), H.out.hs.grown oF⟩, .inr (hF.mono o1.out.size), .inl rfl, oF⟩

set_option maxRecDepth 100000 in
set_option maxHeartbeats 2000000 in
theorem grantX_new (w : World) (life count now term margin place num epoch : Int) (v1 v2 : Value) (xs ys : List Rec3) (base : Nat) (hbase : base ≤ w.heap.size) (h : XIs w base xs ys v1 v2) (hll : xs.length ≤ 10000) (hll2 : ys.length ≤ 10000) (x0 x1 : Int) (hx : (x0 != num) = false) (h0 : decide (term < 1) = false) (h1 : decide (1048576 < term) = false) (h2 : decide (margin < 0) = false) (h3 : decide (1048576 < margin) = false) (hm : 0 ≤ now ∧ now ≤ 1099511627776) (ha : 0 ≤ x1 ∧ x1 ≤ 1099511627776) (hbt : 1 ≤ term ∧ term ≤ 1048576 ∧ 0 ≤ margin ∧ margin ≤ 1048576) (hu : decide (x1 + term - margin ≤ now) = false)  (hf : findK xs place = some (place, (x0, x1))) (hg : findK ys place = none) (he : grantX ⟨life, count, xs, ys⟩ now term margin place num epoch = (⟨life, count, mdel xs place, mdel ys place ++ [(place, (epoch, x1 + term - margin))]⟩, 0)) :
    Calls Try.prog 43 #[.agg #[.int .i64 life, .int .i64 count, v1, v2], .int .i64 now, .int .i64 term, .int .i64 margin, .int .i64 place, .int .i64 num, .int .i64 epoch] w (XLeft w base v1 v2 (grantX ⟨life, count, xs, ys⟩ now term margin place num epoch).1 [.int .i64 (grantX ⟨life, count, xs, ys⟩ now term margin place num epoch).2]) := by
  have hO : Hid (Only w.heap.size w.heap.size w w) := Lib.hid (Only.refl _ _ _)
  obtain ⟨a1, n1, c1, rfl⟩ := own_slice h.ws
  obtain ⟨a2, n2, c2, rfl⟩ := own_slice h.hs
  have H := Lib.hid h
  have HBA := Lib.hid hbase
  have HX : Hid (∀ W, Only ((w.alloc (.cells #[.int .i64 life, .int .i64 count, .slice a1 n1 c1, .slice a2 n2 c2] 90)).alloc (.cells #[.int .i64 0, .int .i64 0, .slice none 0 0, .slice none 0 0] 90)).heap.size ((w.alloc (.cells #[.int .i64 life, .int .i64 count, .slice a1 n1 c1, .slice a2 n2 c2] 90)).alloc (.cells #[.int .i64 0, .int .i64 0, .slice none 0 0, .slice none 0 0] 90)).heap.size ((w.alloc (.cells #[.int .i64 life, .int .i64 count, .slice a1 n1 c1, .slice a2 n2 c2] 90)).alloc (.cells #[.int .i64 0, .int .i64 0, .slice none 0 0, .slice none 0 0] 90)) W → RBox W w.heap.size (.int .i64 life) (.int .i64 count) (.slice a1 n1 c1) (.slice a2 n2 c2) ∧ RBox W (w.heap.size + 1) (.int .i64 0) (.int .i64 0) (.slice none 0 0) (.slice none 0 0)) := Lib.hid (fun W o => by
    refine ⟨(RBox.of ((low_at _ _ _ (by simp)).trans (top_at _ _ _ rfl))).kept o (by simp; omega) (.inl (by simp; omega)), (RBox.of (top_at _ _ _ (by simp))).kept o (by simp) (.inl (by simp))⟩)
  have HE := Lib.hid he
  have HF := Lib.hid hf
  have HM := Lib.hid hm
  have HA := Lib.hid ha
  have HLL := Lib.hid hll
  have HLM := Lib.hid hll2
  have hw1 : IntKind.i64.wrap (x1 + term) = x1 + term := IntWalk.i64_in _ (by omega)
  have hw2 : IntKind.i64.wrap (x1 + term - margin) = x1 + term - margin := IntWalk.i64_in _ (by omega)
  have hb := build1_137
  have HG := Lib.hid hg
  clear hg
  clear h he hbase hf hm ha hll hll2 hbt
  go_enter Try.func43, Try.ntmps43
  go_wp2_with (first
    | (go_at_call 61; refine (wanted_any _ life count place _ _ _ (H.out.ws.reads.kept ((hO.out.alloc _).alloc _))).mono ?_; unfold Found3; rw [HF.out]; dsimp only [Option.getD, Option.isSome, rec3, zrec3]; rintro e W1 ⟨rfl, ho1⟩; have o1 := Lib.hid ((((hO.out.alloc _).alloc _).then ho1 (by simp; omega)).alloc (.cells #[.int .i64 place, .int .i64 x0, .int .i64 x1] 133)); have oX := Lib.hid (ho1.alloc (.cells #[.int .i64 place, .int .i64 x0, .int .i64 x1] 133)); have HT1 : Hid (T3 (W1.alloc (.cells #[.int .i64 place, .int .i64 x0, .int .i64 x1] 133)) W1.heap.size place x0 x1) := Lib.hid (T3.of (top_at _ _ _ rfl)); have HB := Lib.hid (HX.out _ oX.out); have HZ : Hid (w.heap.size + 2 ≤ W1.heap.size) := Lib.hid (by have h2 := ho1.size; simp at h2; omega); obtain ⟨⟨b0, b1, b2, b3, _⟩, ⟨r0, r1, r2, r3, rf⟩⟩ := HB.out; have rf0 := rf 0; have rf1 := rf 1; have rf2 := rf 2; have rf3 := rf 3; clear rf; clear ho1)
    | (go_at_call 59; (with_reducible refine (moment_yes _ now HM.out.1 HM.out.2).mono ?_); rintro e W9 ⟨rfl, rfl⟩)
    | (go_at_call 59; (with_reducible refine (moment_yes _ x1 HA.out.1 HA.out.2).mono ?_); rintro e W9 ⟨rfl, rfl⟩)
    | (go_at_call 60; refine (unwant_any _ life count place _ _ _ (H.out.ws.reads.kept o1.out) (by have := HLL.out; omega) ⟨_, _, _, rfl⟩).mono ?_; rintro e W2 ⟨v2', rfl, hr2, ho2⟩; have HR2 := Lib.hid hr2; obtain ⟨u1a, u1n, u1c, rfl⟩ := own_val hr2; have hz2 := ho2.size; have HZ2 : Hid (w.heap.size + 3 ≤ W2.heap.size) := Lib.hid (by have := HZ.out; simp at hz2; omega); have o2 := Lib.hid ((o1.out.then ho2 o1.out.size).alloc (.cells #[.int .i64 life, .int .i64 count, .slice u1a u1n u1c, .slice a2 n2 c2] 90)); have oX2 := Lib.hid ((oX.out.then ho2 oX.out.size).alloc (.cells #[.int .i64 life, .int .i64 count, .slice u1a u1n u1c, .slice a2 n2 c2] 90)); have HB2 := Lib.hid (HX.out _ oX2.out); have HT2 := Lib.hid (HT1.out.kept (ho2.alloc (.cells #[.int .i64 life, .int .i64 count, .slice u1a u1n u1c, .slice a2 n2 c2] 90)) (by simp) (.inl (by simp))); have HO2 : Hid (RBox (W2.alloc (.cells #[.int .i64 life, .int .i64 count, .slice u1a u1n u1c, .slice a2 n2 c2] 90)) W2.heap.size (.int .i64 life) (.int .i64 count) (.slice u1a u1n u1c) (.slice a2 n2 c2)) := Lib.hid (RBox.of (top_at _ _ _ rfl)); clear b0 b1 b2 b3 r0 r1 r2 r3 rf0 rf1 rf2 rf3; clear hr2 ho2 hz2; obtain ⟨⟨b0, b1, b2, b3, _⟩, ⟨r0, r1, r2, r3, rf⟩⟩ := HB2.out; have rf0 := rf 0; have rf1 := rf 1; have rf2 := rf 2; have rf3 := rf 3; clear rf; obtain ⟨t0, t1, t2, _⟩ := HT2.out)
    | (go_at_call 62; refine (had_any _ life count place _ _ _ (H.out.hs.reads.kept o2.out)).mono ?_; unfold Found3; rw [HG.out]; dsimp only [Option.getD, Option.isSome, rec3, zrec3]; rintro e W3 ⟨rfl, ho3⟩; have o3 := Lib.hid ((o2.out.then ho3 o2.out.size).alloc (.cells #[.int .i64 0, .int .i64 0, .int .i64 0] 137)); have oX3 := Lib.hid ((oX2.out.then ho3 oX2.out.size).alloc (.cells #[.int .i64 0, .int .i64 0, .int .i64 0] 137)); have HB3 := Lib.hid (HX.out _ oX3.out); have HO3 := Lib.hid (HO2.out.kept (ho3.alloc (.cells #[.int .i64 0, .int .i64 0, .int .i64 0] 137)) (by simp) (.inl (by simp))); have HZ3 : Hid (W2.heap.size + 1 ≤ W3.heap.size) := Lib.hid (by have h := ho3.size; simp at h; omega); have HR3 := Lib.hid (HR2.out.grown ((((Only.refl _ _ W2).alloc (.cells #[.int .i64 life, .int .i64 count, .slice u1a u1n u1c, .slice a2 n2 c2] 90)).then ho3 (by simp)).alloc (.cells #[.int .i64 0, .int .i64 0, .int .i64 0] 137))); clear b0 b1 b2 b3 r0 r1 r2 r3 rf0 rf1 rf2 rf3; clear t0 t1 t2 ho3; obtain ⟨⟨b0, b1, b2, b3, _⟩, ⟨r0, r1, r2, r3, rf⟩⟩ := HB3.out; have rf0 := rf 0; have rf1 := rf 1; have rf2 := rf 2; have rf3 := rf 3; clear rf; obtain ⟨p0, p1, p2, p3, _⟩ := HO3.out)
    | (go_at_call 63; refine (unhave_any _ life count place _ _ _ (H.out.hs.reads.kept o3.out) (by have := HLM.out; omega) ⟨_, _, _, rfl⟩).mono ?_; rintro e W4 ⟨v4', rfl, hr4, ho4⟩; have HR4 := Lib.hid hr4; obtain ⟨u2a, u2n, u2c, rfl⟩ := own_val hr4; have o4 := Lib.hid (o3.out.then ho4 o3.out.size); have oX4 := Lib.hid (oX3.out.then ho4 oX3.out.size); have HB4 := Lib.hid (HX.out _ oX4.out); have HO4 := Lib.hid (HO3.out.kept ho4 (by have := HZ3.out; simp; omega) (.inl (by have := HZ3.out; simp; omega))); have HR5 := Lib.hid (HR3.out.grown ho4); have hz4 := ho4.size; have HZ4 : Hid (W3.heap.size + 1 ≤ W4.heap.size) := Lib.hid (by simp at hz4; omega); clear b0 b1 b2 b3 r0 r1 r2 r3 rf0 rf1 rf2 rf3; clear hr4 ho4 hz4 p0 p1 p2 p3; obtain ⟨⟨b0, b1, b2, b3, _⟩, ⟨r0, r1, r2, r3, rf⟩⟩ := HB4.out; have rf0 := rf 0; have rf1 := rf 1; have rf2 := rf 2; have rf3 := rf 3; clear rf; obtain ⟨p0, p1, p2, p3, pf⟩ := HO4.out; have pf0 := pf 0; have pf1 := pf 1; have pf2 := pf 2; have pf3 := pf 3; clear pf; have hz2 := HZ2.out; have hne1 : ¬ (W2.heap.size = w.heap.size + 1) := (by omega); have hne2 : ¬ (w.heap.size + 1 = W2.heap.size) := (by omega); clear hz2; have HV := Lib.hid (fun R => grant_v (y0 := .int .i64 life) (y1 := .int .i64 count) (y2 := .slice u1a u1n u1c) (y3 := .slice u2a u2n u2c) o4.out HO4.out HB4.out.2 HR4.out (HR5.out.mono (by have := HZ.out; simp; omega)) (fun g hg => (HR2.out.blocks g hg).2) (by have := HZ2.out; omega) (by have := HZ3.out; simp; omega) (by have := HZ4.out; simp; omega) R); unfold World.rset at HV)
    | (at_builtin; refine wpList_append_one layH _ rfl (.tmp 100) (.tmp 105) rfl _ _ (mdel ys place) (place, (epoch, x1 + term - margin)) rfl (HV.out _).hu (W4.heap.size) rfl (rec_cells3 rfl _ _ (place, (epoch, x1 + term - margin)) rfl _ (top_at _ _ _ (by simp))) (by have := mdel_len ys place; have := HLM.out; omega) (HV.out _).top ?_; intro v5 w5 hown' hg'; have HQ := Lib.hid ((HV.out _).app hown' hg'); obtain ⟨u5a, u5n, u5c, rfl⟩ := own_val hown'; clear hown' hg' p0 p1 p2 p3 pf0 pf1 pf2 pf3; clear b0 b1 b2 b3 r0 r1 r2 r3 rf0 rf1 rf2 rf3; obtain ⟨p0, p1, p2, p3, pf⟩ := HQ.out.1.out; have pf3 := pf 3; obtain ⟨r0, r1, r2, r3, rf⟩ := HQ.out.1.res; have rf0 := rf 0; have rf1 := rf 1; have rf2 := rf 2; have rf3 := rf 3; clear pf rf)
    | fail)
  have HBS : Hid (w.heap.size + 2 ≤ (W3.alloc (.cells #[.int .i64 0, .int .i64 0, .int .i64 0] 137)).heap.size) := Lib.hid (by have := HZ2.out; have := HZ3.out; simp; omega)
  have hF1 := grant_done HQ.out (fun g hg => (HR2.out.blocks g hg).2) (.int .i64 life) (.int .i64 count) (.slice u1a u1n u1c) (.slice u5a u5n u5c)
  have HD := HQ.out.1.done HBS.out 3 (.int .i64 life) (.int .i64 count) (.slice u1a u1n u1c) (.slice u5a u5n u5c)
  unfold World.rset at HD hF1
  obtain ⟨⟨k0, k1, k2, k3, _⟩, hF, oF⟩ := HD
  refine bodyPost_ret (v := .tuple #[.agg #[.int .i64 life, .int .i64 count, .slice u1a u1n u1c, .slice u5a u5n u5c], .int .i64 0]) (by simp [results, Try.results43, go_sem, k0, k1, k2, k3]) rfl ?_
  rw [HE.out]
  exact ⟨_, _, rfl, ⟨hF1.mono (by have := HBA.out; omega), hF.mono (by have := HBA.out; have := HBS.out; omega)⟩, .inr (hF1.mono (by omega)), .inr (hF.mono (by have := HBS.out; omega)), oF⟩

set_option maxRecDepth 100000 in
set_option maxHeartbeats 2000000 in
theorem grantX_other (w : World) (life count now term margin place num epoch : Int) (v1 v2 : Value) (xs ys : List Rec3) (base : Nat) (hbase : base ≤ w.heap.size) (h : XIs w base xs ys v1 v2) (hll : xs.length ≤ 10000) (hll2 : ys.length ≤ 10000) (x0 x1 : Int) (hx : (x0 != num) = false) (h0 : decide (term < 1) = false) (h1 : decide (1048576 < term) = false) (h2 : decide (margin < 0) = false) (h3 : decide (1048576 < margin) = false) (hm : 0 ≤ now ∧ now ≤ 1099511627776) (ha : 0 ≤ x1 ∧ x1 ≤ 1099511627776) (hbt : 1 ≤ term ∧ term ≤ 1048576 ∧ 0 ≤ margin ∧ margin ≤ 1048576) (hu : decide (x1 + term - margin ≤ now) = false) (y0 y1 : Int) (hy : (y0 == epoch) = false) (hf : findK xs place = some (place, (x0, x1))) (hg : findK ys place = some (place, (y0, y1))) (he : grantX ⟨life, count, xs, ys⟩ now term margin place num epoch = (⟨life, count, mdel xs place, mdel ys place ++ [(place, (epoch, x1 + term - margin))]⟩, 0)) :
    Calls Try.prog 43 #[.agg #[.int .i64 life, .int .i64 count, v1, v2], .int .i64 now, .int .i64 term, .int .i64 margin, .int .i64 place, .int .i64 num, .int .i64 epoch] w (XLeft w base v1 v2 (grantX ⟨life, count, xs, ys⟩ now term margin place num epoch).1 [.int .i64 (grantX ⟨life, count, xs, ys⟩ now term margin place num epoch).2]) := by
  have hO : Hid (Only w.heap.size w.heap.size w w) := Lib.hid (Only.refl _ _ _)
  obtain ⟨a1, n1, c1, rfl⟩ := own_slice h.ws
  obtain ⟨a2, n2, c2, rfl⟩ := own_slice h.hs
  have H := Lib.hid h
  have HBA := Lib.hid hbase
  have HX : Hid (∀ W, Only ((w.alloc (.cells #[.int .i64 life, .int .i64 count, .slice a1 n1 c1, .slice a2 n2 c2] 90)).alloc (.cells #[.int .i64 0, .int .i64 0, .slice none 0 0, .slice none 0 0] 90)).heap.size ((w.alloc (.cells #[.int .i64 life, .int .i64 count, .slice a1 n1 c1, .slice a2 n2 c2] 90)).alloc (.cells #[.int .i64 0, .int .i64 0, .slice none 0 0, .slice none 0 0] 90)).heap.size ((w.alloc (.cells #[.int .i64 life, .int .i64 count, .slice a1 n1 c1, .slice a2 n2 c2] 90)).alloc (.cells #[.int .i64 0, .int .i64 0, .slice none 0 0, .slice none 0 0] 90)) W → RBox W w.heap.size (.int .i64 life) (.int .i64 count) (.slice a1 n1 c1) (.slice a2 n2 c2) ∧ RBox W (w.heap.size + 1) (.int .i64 0) (.int .i64 0) (.slice none 0 0) (.slice none 0 0)) := Lib.hid (fun W o => by
    refine ⟨(RBox.of ((low_at _ _ _ (by simp)).trans (top_at _ _ _ rfl))).kept o (by simp; omega) (.inl (by simp; omega)), (RBox.of (top_at _ _ _ (by simp))).kept o (by simp) (.inl (by simp))⟩)
  have HE := Lib.hid he
  have HF := Lib.hid hf
  have HM := Lib.hid hm
  have HA := Lib.hid ha
  have HLL := Lib.hid hll
  have HLM := Lib.hid hll2
  have hw1 : IntKind.i64.wrap (x1 + term) = x1 + term := IntWalk.i64_in _ (by omega)
  have hw2 : IntKind.i64.wrap (x1 + term - margin) = x1 + term - margin := IntWalk.i64_in _ (by omega)
  have hb := build1_137
  have HG := Lib.hid hg
  clear hg
  clear h he hbase hf hm ha hll hll2 hbt
  go_enter Try.func43, Try.ntmps43
  go_wp2_with (first
    | (go_at_call 61; refine (wanted_any _ life count place _ _ _ (H.out.ws.reads.kept ((hO.out.alloc _).alloc _))).mono ?_; unfold Found3; rw [HF.out]; dsimp only [Option.getD, Option.isSome, rec3, zrec3]; rintro e W1 ⟨rfl, ho1⟩; have o1 := Lib.hid ((((hO.out.alloc _).alloc _).then ho1 (by simp; omega)).alloc (.cells #[.int .i64 place, .int .i64 x0, .int .i64 x1] 133)); have oX := Lib.hid (ho1.alloc (.cells #[.int .i64 place, .int .i64 x0, .int .i64 x1] 133)); have HT1 : Hid (T3 (W1.alloc (.cells #[.int .i64 place, .int .i64 x0, .int .i64 x1] 133)) W1.heap.size place x0 x1) := Lib.hid (T3.of (top_at _ _ _ rfl)); have HB := Lib.hid (HX.out _ oX.out); have HZ : Hid (w.heap.size + 2 ≤ W1.heap.size) := Lib.hid (by have h2 := ho1.size; simp at h2; omega); obtain ⟨⟨b0, b1, b2, b3, _⟩, ⟨r0, r1, r2, r3, rf⟩⟩ := HB.out; have rf0 := rf 0; have rf1 := rf 1; have rf2 := rf 2; have rf3 := rf 3; clear rf; clear ho1)
    | (go_at_call 59; (with_reducible refine (moment_yes _ now HM.out.1 HM.out.2).mono ?_); rintro e W9 ⟨rfl, rfl⟩)
    | (go_at_call 59; (with_reducible refine (moment_yes _ x1 HA.out.1 HA.out.2).mono ?_); rintro e W9 ⟨rfl, rfl⟩)
    | (go_at_call 60; refine (unwant_any _ life count place _ _ _ (H.out.ws.reads.kept o1.out) (by have := HLL.out; omega) ⟨_, _, _, rfl⟩).mono ?_; rintro e W2 ⟨v2', rfl, hr2, ho2⟩; have HR2 := Lib.hid hr2; obtain ⟨u1a, u1n, u1c, rfl⟩ := own_val hr2; have hz2 := ho2.size; have HZ2 : Hid (w.heap.size + 3 ≤ W2.heap.size) := Lib.hid (by have := HZ.out; simp at hz2; omega); have o2 := Lib.hid ((o1.out.then ho2 o1.out.size).alloc (.cells #[.int .i64 life, .int .i64 count, .slice u1a u1n u1c, .slice a2 n2 c2] 90)); have oX2 := Lib.hid ((oX.out.then ho2 oX.out.size).alloc (.cells #[.int .i64 life, .int .i64 count, .slice u1a u1n u1c, .slice a2 n2 c2] 90)); have HB2 := Lib.hid (HX.out _ oX2.out); have HT2 := Lib.hid (HT1.out.kept (ho2.alloc (.cells #[.int .i64 life, .int .i64 count, .slice u1a u1n u1c, .slice a2 n2 c2] 90)) (by simp) (.inl (by simp))); have HO2 : Hid (RBox (W2.alloc (.cells #[.int .i64 life, .int .i64 count, .slice u1a u1n u1c, .slice a2 n2 c2] 90)) W2.heap.size (.int .i64 life) (.int .i64 count) (.slice u1a u1n u1c) (.slice a2 n2 c2)) := Lib.hid (RBox.of (top_at _ _ _ rfl)); clear b0 b1 b2 b3 r0 r1 r2 r3 rf0 rf1 rf2 rf3; clear hr2 ho2 hz2; obtain ⟨⟨b0, b1, b2, b3, _⟩, ⟨r0, r1, r2, r3, rf⟩⟩ := HB2.out; have rf0 := rf 0; have rf1 := rf 1; have rf2 := rf 2; have rf3 := rf 3; clear rf; obtain ⟨t0, t1, t2, _⟩ := HT2.out)
    | (go_at_call 62; refine (had_any _ life count place _ _ _ (H.out.hs.reads.kept o2.out)).mono ?_; unfold Found3; rw [HG.out]; dsimp only [Option.getD, Option.isSome, rec3, zrec3]; rintro e W3 ⟨rfl, ho3⟩; have o3 := Lib.hid ((o2.out.then ho3 o2.out.size).alloc (.cells #[.int .i64 place, .int .i64 y0, .int .i64 y1] 137)); have oX3 := Lib.hid ((oX2.out.then ho3 oX2.out.size).alloc (.cells #[.int .i64 place, .int .i64 y0, .int .i64 y1] 137)); have HB3 := Lib.hid (HX.out _ oX3.out); have HO3 := Lib.hid (HO2.out.kept (ho3.alloc (.cells #[.int .i64 place, .int .i64 y0, .int .i64 y1] 137)) (by simp) (.inl (by simp))); have HZ3 : Hid (W2.heap.size + 1 ≤ W3.heap.size) := Lib.hid (by have h := ho3.size; simp at h; omega); have HR3 := Lib.hid (HR2.out.grown ((((Only.refl _ _ W2).alloc (.cells #[.int .i64 life, .int .i64 count, .slice u1a u1n u1c, .slice a2 n2 c2] 90)).then ho3 (by simp)).alloc (.cells #[.int .i64 place, .int .i64 y0, .int .i64 y1] 137))); clear b0 b1 b2 b3 r0 r1 r2 r3 rf0 rf1 rf2 rf3; clear t0 t1 t2 ho3; obtain ⟨⟨b0, b1, b2, b3, _⟩, ⟨r0, r1, r2, r3, rf⟩⟩ := HB3.out; have rf0 := rf 0; have rf1 := rf 1; have rf2 := rf 2; have rf3 := rf 3; clear rf; obtain ⟨p0, p1, p2, p3, _⟩ := HO3.out)
    | (go_at_call 63; refine (unhave_any _ life count place _ _ _ (H.out.hs.reads.kept o3.out) (by have := HLM.out; omega) ⟨_, _, _, rfl⟩).mono ?_; rintro e W4 ⟨v4', rfl, hr4, ho4⟩; have HR4 := Lib.hid hr4; obtain ⟨u2a, u2n, u2c, rfl⟩ := own_val hr4; have o4 := Lib.hid (o3.out.then ho4 o3.out.size); have oX4 := Lib.hid (oX3.out.then ho4 oX3.out.size); have HB4 := Lib.hid (HX.out _ oX4.out); have HO4 := Lib.hid (HO3.out.kept ho4 (by have := HZ3.out; simp; omega) (.inl (by have := HZ3.out; simp; omega))); have HR5 := Lib.hid (HR3.out.grown ho4); have hz4 := ho4.size; have HZ4 : Hid (W3.heap.size + 1 ≤ W4.heap.size) := Lib.hid (by simp at hz4; omega); clear b0 b1 b2 b3 r0 r1 r2 r3 rf0 rf1 rf2 rf3; clear hr4 ho4 hz4 p0 p1 p2 p3; obtain ⟨⟨b0, b1, b2, b3, _⟩, ⟨r0, r1, r2, r3, rf⟩⟩ := HB4.out; have rf0 := rf 0; have rf1 := rf 1; have rf2 := rf 2; have rf3 := rf 3; clear rf; obtain ⟨p0, p1, p2, p3, pf⟩ := HO4.out; have pf0 := pf 0; have pf1 := pf 1; have pf2 := pf 2; have pf3 := pf 3; clear pf; have hz2 := HZ2.out; have hne1 : ¬ (W2.heap.size = w.heap.size + 1) := (by omega); have hne2 : ¬ (w.heap.size + 1 = W2.heap.size) := (by omega); clear hz2; have HV := Lib.hid (fun R => grant_v (y0 := .int .i64 life) (y1 := .int .i64 count) (y2 := .slice u1a u1n u1c) (y3 := .slice u2a u2n u2c) o4.out HO4.out HB4.out.2 HR4.out (HR5.out.mono (by have := HZ.out; simp; omega)) (fun g hg => (HR2.out.blocks g hg).2) (by have := HZ2.out; omega) (by have := HZ3.out; simp; omega) (by have := HZ4.out; simp; omega) R); unfold World.rset at HV)
    | (at_builtin; refine wpList_append_one layH _ rfl (.tmp 100) (.tmp 105) rfl _ _ (mdel ys place) (place, (epoch, x1 + term - margin)) rfl (HV.out _).hu (W4.heap.size) rfl (rec_cells3 rfl _ _ (place, (epoch, x1 + term - margin)) rfl _ (top_at _ _ _ (by simp))) (by have := mdel_len ys place; have := HLM.out; omega) (HV.out _).top ?_; intro v5 w5 hown' hg'; have HQ := Lib.hid ((HV.out _).app hown' hg'); obtain ⟨u5a, u5n, u5c, rfl⟩ := own_val hown'; clear hown' hg' p0 p1 p2 p3 pf0 pf1 pf2 pf3; clear b0 b1 b2 b3 r0 r1 r2 r3 rf0 rf1 rf2 rf3; obtain ⟨p0, p1, p2, p3, pf⟩ := HQ.out.1.out; have pf3 := pf 3; obtain ⟨r0, r1, r2, r3, rf⟩ := HQ.out.1.res; have rf0 := rf 0; have rf1 := rf 1; have rf2 := rf 2; have rf3 := rf 3; clear pf rf)
    | fail)
  have HBS : Hid (w.heap.size + 2 ≤ (W3.alloc (.cells #[.int .i64 place, .int .i64 y0, .int .i64 y1] 137)).heap.size) := Lib.hid (by have := HZ2.out; have := HZ3.out; simp; omega)
  have hF1 := grant_done HQ.out (fun g hg => (HR2.out.blocks g hg).2) (.int .i64 life) (.int .i64 count) (.slice u1a u1n u1c) (.slice u5a u5n u5c)
  have HD := HQ.out.1.done HBS.out 3 (.int .i64 life) (.int .i64 count) (.slice u1a u1n u1c) (.slice u5a u5n u5c)
  unfold World.rset at HD hF1
  obtain ⟨⟨k0, k1, k2, k3, _⟩, hF, oF⟩ := HD
  refine bodyPost_ret (v := .tuple #[.agg #[.int .i64 life, .int .i64 count, .slice u1a u1n u1c, .slice u5a u5n u5c], .int .i64 0]) (by simp [results, Try.results43, go_sem, k0, k1, k2, k3]) rfl ?_
  rw [HE.out]
  exact ⟨_, _, rfl, ⟨hF1.mono (by have := HBA.out; omega), hF.mono (by have := HBA.out; have := HBS.out; omega)⟩, .inr (hF1.mono (by omega)), .inr (hF.mono (by have := HBS.out; omega)), oF⟩

set_option maxRecDepth 100000 in
set_option maxHeartbeats 2000000 in
theorem grantX_less (w : World) (life count now term margin place num epoch : Int) (v1 v2 : Value) (xs ys : List Rec3) (base : Nat) (hbase : base ≤ w.heap.size) (h : XIs w base xs ys v1 v2) (hll : xs.length ≤ 10000) (hll2 : ys.length ≤ 10000) (x0 x1 : Int) (hx : (x0 != num) = false) (h0 : decide (term < 1) = false) (h1 : decide (1048576 < term) = false) (h2 : decide (margin < 0) = false) (h3 : decide (1048576 < margin) = false) (hm : 0 ≤ now ∧ now ≤ 1099511627776) (ha : 0 ≤ x1 ∧ x1 ≤ 1099511627776) (hbt : 1 ≤ term ∧ term ≤ 1048576 ∧ 0 ≤ margin ∧ margin ≤ 1048576) (hu : decide (x1 + term - margin ≤ now) = false) (y0 y1 : Int) (hy : (y0 == epoch) = true) (hl : decide (x1 + term - margin < y1) = false) (hf : findK xs place = some (place, (x0, x1))) (hg : findK ys place = some (place, (y0, y1))) (he : grantX ⟨life, count, xs, ys⟩ now term margin place num epoch = (⟨life, count, mdel xs place, mdel ys place ++ [(place, (epoch, x1 + term - margin))]⟩, 0)) :
    Calls Try.prog 43 #[.agg #[.int .i64 life, .int .i64 count, v1, v2], .int .i64 now, .int .i64 term, .int .i64 margin, .int .i64 place, .int .i64 num, .int .i64 epoch] w (XLeft w base v1 v2 (grantX ⟨life, count, xs, ys⟩ now term margin place num epoch).1 [.int .i64 (grantX ⟨life, count, xs, ys⟩ now term margin place num epoch).2]) := by
  have hO : Hid (Only w.heap.size w.heap.size w w) := Lib.hid (Only.refl _ _ _)
  obtain ⟨a1, n1, c1, rfl⟩ := own_slice h.ws
  obtain ⟨a2, n2, c2, rfl⟩ := own_slice h.hs
  have H := Lib.hid h
  have HBA := Lib.hid hbase
  have HX : Hid (∀ W, Only ((w.alloc (.cells #[.int .i64 life, .int .i64 count, .slice a1 n1 c1, .slice a2 n2 c2] 90)).alloc (.cells #[.int .i64 0, .int .i64 0, .slice none 0 0, .slice none 0 0] 90)).heap.size ((w.alloc (.cells #[.int .i64 life, .int .i64 count, .slice a1 n1 c1, .slice a2 n2 c2] 90)).alloc (.cells #[.int .i64 0, .int .i64 0, .slice none 0 0, .slice none 0 0] 90)).heap.size ((w.alloc (.cells #[.int .i64 life, .int .i64 count, .slice a1 n1 c1, .slice a2 n2 c2] 90)).alloc (.cells #[.int .i64 0, .int .i64 0, .slice none 0 0, .slice none 0 0] 90)) W → RBox W w.heap.size (.int .i64 life) (.int .i64 count) (.slice a1 n1 c1) (.slice a2 n2 c2) ∧ RBox W (w.heap.size + 1) (.int .i64 0) (.int .i64 0) (.slice none 0 0) (.slice none 0 0)) := Lib.hid (fun W o => by
    refine ⟨(RBox.of ((low_at _ _ _ (by simp)).trans (top_at _ _ _ rfl))).kept o (by simp; omega) (.inl (by simp; omega)), (RBox.of (top_at _ _ _ (by simp))).kept o (by simp) (.inl (by simp))⟩)
  have HE := Lib.hid he
  have HF := Lib.hid hf
  have HM := Lib.hid hm
  have HA := Lib.hid ha
  have HLL := Lib.hid hll
  have HLM := Lib.hid hll2
  have hw1 : IntKind.i64.wrap (x1 + term) = x1 + term := IntWalk.i64_in _ (by omega)
  have hw2 : IntKind.i64.wrap (x1 + term - margin) = x1 + term - margin := IntWalk.i64_in _ (by omega)
  have hb := build1_137
  have HG := Lib.hid hg
  clear hg
  clear h he hbase hf hm ha hll hll2 hbt
  go_enter Try.func43, Try.ntmps43
  go_wp2_with (first
    | (go_at_call 61; refine (wanted_any _ life count place _ _ _ (H.out.ws.reads.kept ((hO.out.alloc _).alloc _))).mono ?_; unfold Found3; rw [HF.out]; dsimp only [Option.getD, Option.isSome, rec3, zrec3]; rintro e W1 ⟨rfl, ho1⟩; have o1 := Lib.hid ((((hO.out.alloc _).alloc _).then ho1 (by simp; omega)).alloc (.cells #[.int .i64 place, .int .i64 x0, .int .i64 x1] 133)); have oX := Lib.hid (ho1.alloc (.cells #[.int .i64 place, .int .i64 x0, .int .i64 x1] 133)); have HT1 : Hid (T3 (W1.alloc (.cells #[.int .i64 place, .int .i64 x0, .int .i64 x1] 133)) W1.heap.size place x0 x1) := Lib.hid (T3.of (top_at _ _ _ rfl)); have HB := Lib.hid (HX.out _ oX.out); have HZ : Hid (w.heap.size + 2 ≤ W1.heap.size) := Lib.hid (by have h2 := ho1.size; simp at h2; omega); obtain ⟨⟨b0, b1, b2, b3, _⟩, ⟨r0, r1, r2, r3, rf⟩⟩ := HB.out; have rf0 := rf 0; have rf1 := rf 1; have rf2 := rf 2; have rf3 := rf 3; clear rf; clear ho1)
    | (go_at_call 59; (with_reducible refine (moment_yes _ now HM.out.1 HM.out.2).mono ?_); rintro e W9 ⟨rfl, rfl⟩)
    | (go_at_call 59; (with_reducible refine (moment_yes _ x1 HA.out.1 HA.out.2).mono ?_); rintro e W9 ⟨rfl, rfl⟩)
    | (go_at_call 60; refine (unwant_any _ life count place _ _ _ (H.out.ws.reads.kept o1.out) (by have := HLL.out; omega) ⟨_, _, _, rfl⟩).mono ?_; rintro e W2 ⟨v2', rfl, hr2, ho2⟩; have HR2 := Lib.hid hr2; obtain ⟨u1a, u1n, u1c, rfl⟩ := own_val hr2; have hz2 := ho2.size; have HZ2 : Hid (w.heap.size + 3 ≤ W2.heap.size) := Lib.hid (by have := HZ.out; simp at hz2; omega); have o2 := Lib.hid ((o1.out.then ho2 o1.out.size).alloc (.cells #[.int .i64 life, .int .i64 count, .slice u1a u1n u1c, .slice a2 n2 c2] 90)); have oX2 := Lib.hid ((oX.out.then ho2 oX.out.size).alloc (.cells #[.int .i64 life, .int .i64 count, .slice u1a u1n u1c, .slice a2 n2 c2] 90)); have HB2 := Lib.hid (HX.out _ oX2.out); have HT2 := Lib.hid (HT1.out.kept (ho2.alloc (.cells #[.int .i64 life, .int .i64 count, .slice u1a u1n u1c, .slice a2 n2 c2] 90)) (by simp) (.inl (by simp))); have HO2 : Hid (RBox (W2.alloc (.cells #[.int .i64 life, .int .i64 count, .slice u1a u1n u1c, .slice a2 n2 c2] 90)) W2.heap.size (.int .i64 life) (.int .i64 count) (.slice u1a u1n u1c) (.slice a2 n2 c2)) := Lib.hid (RBox.of (top_at _ _ _ rfl)); clear b0 b1 b2 b3 r0 r1 r2 r3 rf0 rf1 rf2 rf3; clear hr2 ho2 hz2; obtain ⟨⟨b0, b1, b2, b3, _⟩, ⟨r0, r1, r2, r3, rf⟩⟩ := HB2.out; have rf0 := rf 0; have rf1 := rf 1; have rf2 := rf 2; have rf3 := rf 3; clear rf; obtain ⟨t0, t1, t2, _⟩ := HT2.out)
    | (go_at_call 62; refine (had_any _ life count place _ _ _ (H.out.hs.reads.kept o2.out)).mono ?_; unfold Found3; rw [HG.out]; dsimp only [Option.getD, Option.isSome, rec3, zrec3]; rintro e W3 ⟨rfl, ho3⟩; have o3 := Lib.hid ((o2.out.then ho3 o2.out.size).alloc (.cells #[.int .i64 place, .int .i64 y0, .int .i64 y1] 137)); have oX3 := Lib.hid ((oX2.out.then ho3 oX2.out.size).alloc (.cells #[.int .i64 place, .int .i64 y0, .int .i64 y1] 137)); have HB3 := Lib.hid (HX.out _ oX3.out); have HO3 := Lib.hid (HO2.out.kept (ho3.alloc (.cells #[.int .i64 place, .int .i64 y0, .int .i64 y1] 137)) (by simp) (.inl (by simp))); have HZ3 : Hid (W2.heap.size + 1 ≤ W3.heap.size) := Lib.hid (by have h := ho3.size; simp at h; omega); have HR3 := Lib.hid (HR2.out.grown ((((Only.refl _ _ W2).alloc (.cells #[.int .i64 life, .int .i64 count, .slice u1a u1n u1c, .slice a2 n2 c2] 90)).then ho3 (by simp)).alloc (.cells #[.int .i64 place, .int .i64 y0, .int .i64 y1] 137))); clear b0 b1 b2 b3 r0 r1 r2 r3 rf0 rf1 rf2 rf3; clear t0 t1 t2 ho3; obtain ⟨⟨b0, b1, b2, b3, _⟩, ⟨r0, r1, r2, r3, rf⟩⟩ := HB3.out; have rf0 := rf 0; have rf1 := rf 1; have rf2 := rf 2; have rf3 := rf 3; clear rf; obtain ⟨p0, p1, p2, p3, _⟩ := HO3.out)
    | (go_at_call 63; refine (unhave_any _ life count place _ _ _ (H.out.hs.reads.kept o3.out) (by have := HLM.out; omega) ⟨_, _, _, rfl⟩).mono ?_; rintro e W4 ⟨v4', rfl, hr4, ho4⟩; have HR4 := Lib.hid hr4; obtain ⟨u2a, u2n, u2c, rfl⟩ := own_val hr4; have o4 := Lib.hid (o3.out.then ho4 o3.out.size); have oX4 := Lib.hid (oX3.out.then ho4 oX3.out.size); have HB4 := Lib.hid (HX.out _ oX4.out); have HO4 := Lib.hid (HO3.out.kept ho4 (by have := HZ3.out; simp; omega) (.inl (by have := HZ3.out; simp; omega))); have HR5 := Lib.hid (HR3.out.grown ho4); have hz4 := ho4.size; have HZ4 : Hid (W3.heap.size + 1 ≤ W4.heap.size) := Lib.hid (by simp at hz4; omega); clear b0 b1 b2 b3 r0 r1 r2 r3 rf0 rf1 rf2 rf3; clear hr4 ho4 hz4 p0 p1 p2 p3; obtain ⟨⟨b0, b1, b2, b3, _⟩, ⟨r0, r1, r2, r3, rf⟩⟩ := HB4.out; have rf0 := rf 0; have rf1 := rf 1; have rf2 := rf 2; have rf3 := rf 3; clear rf; obtain ⟨p0, p1, p2, p3, pf⟩ := HO4.out; have pf0 := pf 0; have pf1 := pf 1; have pf2 := pf 2; have pf3 := pf 3; clear pf; have hz2 := HZ2.out; have hne1 : ¬ (W2.heap.size = w.heap.size + 1) := (by omega); have hne2 : ¬ (w.heap.size + 1 = W2.heap.size) := (by omega); clear hz2; have HV := Lib.hid (fun R => grant_v (y0 := .int .i64 life) (y1 := .int .i64 count) (y2 := .slice u1a u1n u1c) (y3 := .slice u2a u2n u2c) o4.out HO4.out HB4.out.2 HR4.out (HR5.out.mono (by have := HZ.out; simp; omega)) (fun g hg => (HR2.out.blocks g hg).2) (by have := HZ2.out; omega) (by have := HZ3.out; simp; omega) (by have := HZ4.out; simp; omega) R); unfold World.rset at HV)
    | (at_builtin; refine wpList_append_one layH _ rfl (.tmp 100) (.tmp 105) rfl _ _ (mdel ys place) (place, (epoch, x1 + term - margin)) rfl (HV.out _).hu (W4.heap.size) rfl (rec_cells3 rfl _ _ (place, (epoch, x1 + term - margin)) rfl _ (top_at _ _ _ (by simp))) (by have := mdel_len ys place; have := HLM.out; omega) (HV.out _).top ?_; intro v5 w5 hown' hg'; have HQ := Lib.hid ((HV.out _).app hown' hg'); obtain ⟨u5a, u5n, u5c, rfl⟩ := own_val hown'; clear hown' hg' p0 p1 p2 p3 pf0 pf1 pf2 pf3; clear b0 b1 b2 b3 r0 r1 r2 r3 rf0 rf1 rf2 rf3; obtain ⟨p0, p1, p2, p3, pf⟩ := HQ.out.1.out; have pf3 := pf 3; obtain ⟨r0, r1, r2, r3, rf⟩ := HQ.out.1.res; have rf0 := rf 0; have rf1 := rf 1; have rf2 := rf 2; have rf3 := rf 3; clear pf rf)
    | fail)
  have HBS : Hid (w.heap.size + 2 ≤ (W3.alloc (.cells #[.int .i64 place, .int .i64 y0, .int .i64 y1] 137)).heap.size) := Lib.hid (by have := HZ2.out; have := HZ3.out; simp; omega)
  have hF1 := grant_done HQ.out (fun g hg => (HR2.out.blocks g hg).2) (.int .i64 life) (.int .i64 count) (.slice u1a u1n u1c) (.slice u5a u5n u5c)
  have HD := HQ.out.1.done HBS.out 3 (.int .i64 life) (.int .i64 count) (.slice u1a u1n u1c) (.slice u5a u5n u5c)
  unfold World.rset at HD hF1
  obtain ⟨⟨k0, k1, k2, k3, _⟩, hF, oF⟩ := HD
  refine bodyPost_ret (v := .tuple #[.agg #[.int .i64 life, .int .i64 count, .slice u1a u1n u1c, .slice u5a u5n u5c], .int .i64 0]) (by simp [results, Try.results43, go_sem, k0, k1, k2, k3]) rfl ?_
  rw [HE.out]
  exact ⟨_, _, rfl, ⟨hF1.mono (by have := HBA.out; omega), hF.mono (by have := HBA.out; have := HBS.out; omega)⟩, .inr (hF1.mono (by omega)), .inr (hF.mono (by have := HBS.out; omega)), oF⟩

set_option maxRecDepth 100000 in
set_option maxHeartbeats 2000000 in
theorem grantX_more (w : World) (life count now term margin place num epoch : Int) (v1 v2 : Value) (xs ys : List Rec3) (base : Nat) (hbase : base ≤ w.heap.size) (h : XIs w base xs ys v1 v2) (hll : xs.length ≤ 10000) (hll2 : ys.length ≤ 10000) (x0 x1 : Int) (hx : (x0 != num) = false) (h0 : decide (term < 1) = false) (h1 : decide (1048576 < term) = false) (h2 : decide (margin < 0) = false) (h3 : decide (1048576 < margin) = false) (hm : 0 ≤ now ∧ now ≤ 1099511627776) (ha : 0 ≤ x1 ∧ x1 ≤ 1099511627776) (hbt : 1 ≤ term ∧ term ≤ 1048576 ∧ 0 ≤ margin ∧ margin ≤ 1048576) (hu : decide (x1 + term - margin ≤ now) = false) (y0 y1 : Int) (hy : (y0 == epoch) = true) (hl : decide (x1 + term - margin < y1) = true) (hf : findK xs place = some (place, (x0, x1))) (hg : findK ys place = some (place, (y0, y1))) (he : grantX ⟨life, count, xs, ys⟩ now term margin place num epoch = (⟨life, count, mdel xs place, mdel ys place ++ [(place, (epoch, y1))]⟩, 0)) :
    Calls Try.prog 43 #[.agg #[.int .i64 life, .int .i64 count, v1, v2], .int .i64 now, .int .i64 term, .int .i64 margin, .int .i64 place, .int .i64 num, .int .i64 epoch] w (XLeft w base v1 v2 (grantX ⟨life, count, xs, ys⟩ now term margin place num epoch).1 [.int .i64 (grantX ⟨life, count, xs, ys⟩ now term margin place num epoch).2]) := by
  have hO : Hid (Only w.heap.size w.heap.size w w) := Lib.hid (Only.refl _ _ _)
  obtain ⟨a1, n1, c1, rfl⟩ := own_slice h.ws
  obtain ⟨a2, n2, c2, rfl⟩ := own_slice h.hs
  have H := Lib.hid h
  have HBA := Lib.hid hbase
  have HX : Hid (∀ W, Only ((w.alloc (.cells #[.int .i64 life, .int .i64 count, .slice a1 n1 c1, .slice a2 n2 c2] 90)).alloc (.cells #[.int .i64 0, .int .i64 0, .slice none 0 0, .slice none 0 0] 90)).heap.size ((w.alloc (.cells #[.int .i64 life, .int .i64 count, .slice a1 n1 c1, .slice a2 n2 c2] 90)).alloc (.cells #[.int .i64 0, .int .i64 0, .slice none 0 0, .slice none 0 0] 90)).heap.size ((w.alloc (.cells #[.int .i64 life, .int .i64 count, .slice a1 n1 c1, .slice a2 n2 c2] 90)).alloc (.cells #[.int .i64 0, .int .i64 0, .slice none 0 0, .slice none 0 0] 90)) W → RBox W w.heap.size (.int .i64 life) (.int .i64 count) (.slice a1 n1 c1) (.slice a2 n2 c2) ∧ RBox W (w.heap.size + 1) (.int .i64 0) (.int .i64 0) (.slice none 0 0) (.slice none 0 0)) := Lib.hid (fun W o => by
    refine ⟨(RBox.of ((low_at _ _ _ (by simp)).trans (top_at _ _ _ rfl))).kept o (by simp; omega) (.inl (by simp; omega)), (RBox.of (top_at _ _ _ (by simp))).kept o (by simp) (.inl (by simp))⟩)
  have HE := Lib.hid he
  have HF := Lib.hid hf
  have HM := Lib.hid hm
  have HA := Lib.hid ha
  have HLL := Lib.hid hll
  have HLM := Lib.hid hll2
  have hw1 : IntKind.i64.wrap (x1 + term) = x1 + term := IntWalk.i64_in _ (by omega)
  have hw2 : IntKind.i64.wrap (x1 + term - margin) = x1 + term - margin := IntWalk.i64_in _ (by omega)
  have hb := build1_137
  have HG := Lib.hid hg
  clear hg
  clear h he hbase hf hm ha hll hll2 hbt
  go_enter Try.func43, Try.ntmps43
  go_wp2_with (first
    | (go_at_call 61; refine (wanted_any _ life count place _ _ _ (H.out.ws.reads.kept ((hO.out.alloc _).alloc _))).mono ?_; unfold Found3; rw [HF.out]; dsimp only [Option.getD, Option.isSome, rec3, zrec3]; rintro e W1 ⟨rfl, ho1⟩; have o1 := Lib.hid ((((hO.out.alloc _).alloc _).then ho1 (by simp; omega)).alloc (.cells #[.int .i64 place, .int .i64 x0, .int .i64 x1] 133)); have oX := Lib.hid (ho1.alloc (.cells #[.int .i64 place, .int .i64 x0, .int .i64 x1] 133)); have HT1 : Hid (T3 (W1.alloc (.cells #[.int .i64 place, .int .i64 x0, .int .i64 x1] 133)) W1.heap.size place x0 x1) := Lib.hid (T3.of (top_at _ _ _ rfl)); have HB := Lib.hid (HX.out _ oX.out); have HZ : Hid (w.heap.size + 2 ≤ W1.heap.size) := Lib.hid (by have h2 := ho1.size; simp at h2; omega); obtain ⟨⟨b0, b1, b2, b3, _⟩, ⟨r0, r1, r2, r3, rf⟩⟩ := HB.out; have rf0 := rf 0; have rf1 := rf 1; have rf2 := rf 2; have rf3 := rf 3; clear rf; clear ho1)
    | (go_at_call 59; (with_reducible refine (moment_yes _ now HM.out.1 HM.out.2).mono ?_); rintro e W9 ⟨rfl, rfl⟩)
    | (go_at_call 59; (with_reducible refine (moment_yes _ x1 HA.out.1 HA.out.2).mono ?_); rintro e W9 ⟨rfl, rfl⟩)
    | (go_at_call 60; refine (unwant_any _ life count place _ _ _ (H.out.ws.reads.kept o1.out) (by have := HLL.out; omega) ⟨_, _, _, rfl⟩).mono ?_; rintro e W2 ⟨v2', rfl, hr2, ho2⟩; have HR2 := Lib.hid hr2; obtain ⟨u1a, u1n, u1c, rfl⟩ := own_val hr2; have hz2 := ho2.size; have HZ2 : Hid (w.heap.size + 3 ≤ W2.heap.size) := Lib.hid (by have := HZ.out; simp at hz2; omega); have o2 := Lib.hid ((o1.out.then ho2 o1.out.size).alloc (.cells #[.int .i64 life, .int .i64 count, .slice u1a u1n u1c, .slice a2 n2 c2] 90)); have oX2 := Lib.hid ((oX.out.then ho2 oX.out.size).alloc (.cells #[.int .i64 life, .int .i64 count, .slice u1a u1n u1c, .slice a2 n2 c2] 90)); have HB2 := Lib.hid (HX.out _ oX2.out); have HT2 := Lib.hid (HT1.out.kept (ho2.alloc (.cells #[.int .i64 life, .int .i64 count, .slice u1a u1n u1c, .slice a2 n2 c2] 90)) (by simp) (.inl (by simp))); have HO2 : Hid (RBox (W2.alloc (.cells #[.int .i64 life, .int .i64 count, .slice u1a u1n u1c, .slice a2 n2 c2] 90)) W2.heap.size (.int .i64 life) (.int .i64 count) (.slice u1a u1n u1c) (.slice a2 n2 c2)) := Lib.hid (RBox.of (top_at _ _ _ rfl)); clear b0 b1 b2 b3 r0 r1 r2 r3 rf0 rf1 rf2 rf3; clear hr2 ho2 hz2; obtain ⟨⟨b0, b1, b2, b3, _⟩, ⟨r0, r1, r2, r3, rf⟩⟩ := HB2.out; have rf0 := rf 0; have rf1 := rf 1; have rf2 := rf 2; have rf3 := rf 3; clear rf; obtain ⟨t0, t1, t2, _⟩ := HT2.out)
    | (go_at_call 62; refine (had_any _ life count place _ _ _ (H.out.hs.reads.kept o2.out)).mono ?_; unfold Found3; rw [HG.out]; dsimp only [Option.getD, Option.isSome, rec3, zrec3]; rintro e W3 ⟨rfl, ho3⟩; have o3 := Lib.hid ((o2.out.then ho3 o2.out.size).alloc (.cells #[.int .i64 place, .int .i64 y0, .int .i64 y1] 137)); have oX3 := Lib.hid ((oX2.out.then ho3 oX2.out.size).alloc (.cells #[.int .i64 place, .int .i64 y0, .int .i64 y1] 137)); have HB3 := Lib.hid (HX.out _ oX3.out); have HO3 := Lib.hid (HO2.out.kept (ho3.alloc (.cells #[.int .i64 place, .int .i64 y0, .int .i64 y1] 137)) (by simp) (.inl (by simp))); have HZ3 : Hid (W2.heap.size + 1 ≤ W3.heap.size) := Lib.hid (by have h := ho3.size; simp at h; omega); have HR3 := Lib.hid (HR2.out.grown ((((Only.refl _ _ W2).alloc (.cells #[.int .i64 life, .int .i64 count, .slice u1a u1n u1c, .slice a2 n2 c2] 90)).then ho3 (by simp)).alloc (.cells #[.int .i64 place, .int .i64 y0, .int .i64 y1] 137))); clear b0 b1 b2 b3 r0 r1 r2 r3 rf0 rf1 rf2 rf3; clear t0 t1 t2 ho3; obtain ⟨⟨b0, b1, b2, b3, _⟩, ⟨r0, r1, r2, r3, rf⟩⟩ := HB3.out; have rf0 := rf 0; have rf1 := rf 1; have rf2 := rf 2; have rf3 := rf 3; clear rf; obtain ⟨p0, p1, p2, p3, _⟩ := HO3.out)
    | (go_at_call 63; refine (unhave_any _ life count place _ _ _ (H.out.hs.reads.kept o3.out) (by have := HLM.out; omega) ⟨_, _, _, rfl⟩).mono ?_; rintro e W4 ⟨v4', rfl, hr4, ho4⟩; have HR4 := Lib.hid hr4; obtain ⟨u2a, u2n, u2c, rfl⟩ := own_val hr4; have o4 := Lib.hid (o3.out.then ho4 o3.out.size); have oX4 := Lib.hid (oX3.out.then ho4 oX3.out.size); have HB4 := Lib.hid (HX.out _ oX4.out); have HO4 := Lib.hid (HO3.out.kept ho4 (by have := HZ3.out; simp; omega) (.inl (by have := HZ3.out; simp; omega))); have HR5 := Lib.hid (HR3.out.grown ho4); have hz4 := ho4.size; have HZ4 : Hid (W3.heap.size + 1 ≤ W4.heap.size) := Lib.hid (by simp at hz4; omega); clear b0 b1 b2 b3 r0 r1 r2 r3 rf0 rf1 rf2 rf3; clear hr4 ho4 hz4 p0 p1 p2 p3; obtain ⟨⟨b0, b1, b2, b3, _⟩, ⟨r0, r1, r2, r3, rf⟩⟩ := HB4.out; have rf0 := rf 0; have rf1 := rf 1; have rf2 := rf 2; have rf3 := rf 3; clear rf; obtain ⟨p0, p1, p2, p3, pf⟩ := HO4.out; have pf0 := pf 0; have pf1 := pf 1; have pf2 := pf 2; have pf3 := pf 3; clear pf; have hz2 := HZ2.out; have hne1 : ¬ (W2.heap.size = w.heap.size + 1) := (by omega); have hne2 : ¬ (w.heap.size + 1 = W2.heap.size) := (by omega); clear hz2; have HV := Lib.hid (fun R => grant_v (y0 := .int .i64 life) (y1 := .int .i64 count) (y2 := .slice u1a u1n u1c) (y3 := .slice u2a u2n u2c) o4.out HO4.out HB4.out.2 HR4.out (HR5.out.mono (by have := HZ.out; simp; omega)) (fun g hg => (HR2.out.blocks g hg).2) (by have := HZ2.out; omega) (by have := HZ3.out; simp; omega) (by have := HZ4.out; simp; omega) R); unfold World.rset at HV)
    | (at_builtin; refine wpList_append_one layH _ rfl (.tmp 100) (.tmp 105) rfl _ _ (mdel ys place) (place, (epoch, y1)) rfl (HV.out _).hu (W4.heap.size) rfl (rec_cells3 rfl _ _ (place, (epoch, y1)) rfl _ (top_at _ _ _ (by simp))) (by have := mdel_len ys place; have := HLM.out; omega) (HV.out _).top ?_; intro v5 w5 hown' hg'; have HQ := Lib.hid ((HV.out _).app hown' hg'); obtain ⟨u5a, u5n, u5c, rfl⟩ := own_val hown'; clear hown' hg' p0 p1 p2 p3 pf0 pf1 pf2 pf3; clear b0 b1 b2 b3 r0 r1 r2 r3 rf0 rf1 rf2 rf3; obtain ⟨p0, p1, p2, p3, pf⟩ := HQ.out.1.out; have pf3 := pf 3; obtain ⟨r0, r1, r2, r3, rf⟩ := HQ.out.1.res; have rf0 := rf 0; have rf1 := rf 1; have rf2 := rf 2; have rf3 := rf 3; clear pf rf)
    | fail)
  have HBS : Hid (w.heap.size + 2 ≤ (W3.alloc (.cells #[.int .i64 place, .int .i64 y0, .int .i64 y1] 137)).heap.size) := Lib.hid (by have := HZ2.out; have := HZ3.out; simp; omega)
  have hF1 := grant_done HQ.out (fun g hg => (HR2.out.blocks g hg).2) (.int .i64 life) (.int .i64 count) (.slice u1a u1n u1c) (.slice u5a u5n u5c)
  have HD := HQ.out.1.done HBS.out 3 (.int .i64 life) (.int .i64 count) (.slice u1a u1n u1c) (.slice u5a u5n u5c)
  unfold World.rset at HD hF1
  obtain ⟨⟨k0, k1, k2, k3, _⟩, hF, oF⟩ := HD
  refine bodyPost_ret (v := .tuple #[.agg #[.int .i64 life, .int .i64 count, .slice u1a u1n u1c, .slice u5a u5n u5c], .int .i64 0]) (by simp [results, Try.results43, go_sem, k0, k1, k2, k3]) rfl ?_
  rw [HE.out]
  exact ⟨_, _, rfl, ⟨hF1.mono (by have := HBA.out; omega), hF.mono (by have := HBA.out; have := HBS.out; omega)⟩, .inr (hF1.mono (by omega)), .inr (hF.mono (by have := HBS.out; omega)), oF⟩

theorem grantX_any (w : World) (life count now term margin place num epoch : Int) (v1 v2 : Value) (xs ys : List Rec3) (base : Nat) (hbase : base ≤ w.heap.size) (h : XIs w base xs ys v1 v2) (hll : xs.length ≤ 10000) (hll2 : ys.length ≤ 10000) :
    Calls Try.prog 43 #[.agg #[.int .i64 life, .int .i64 count, v1, v2], .int .i64 now, .int .i64 term, .int .i64 margin, .int .i64 place, .int .i64 num, .int .i64 epoch] w (XLeft w base v1 v2 (grantX ⟨life, count, xs, ys⟩ now term margin place num epoch).1 [.int .i64 (grantX ⟨life, count, xs, ys⟩ now term margin place num epoch).2]) := by
  have hf := findK_get xs place
  cases hg : mget xs place with
  | none => rw [hg] at hf; exact grantX_none w life count now term margin place num epoch v1 v2 xs ys base hbase h hf (by unfold grantX; simp only [hg])
  | some x =>
    obtain ⟨x0, x1⟩ := x
    rw [hg] at hf
    by_cases hx : x0 = num
    case neg => exact grantX_old w life count now term margin place num epoch v1 v2 xs ys base hbase h x0 x1 (by simp [hx]) hf (by unfold grantX; simp only [hg]; rw [if_neg hx])
    have E : ∀ r, (if term < 1 ∨ 1048576 < term ∨ margin < 0 ∨ 1048576 < margin ∨ now < 0 ∨ 1099511627776 < now ∨ x1 < 0 ∨ 1099511627776 < x1 then ((⟨life, count, xs, ys⟩ : HS), (1 : Int))
        else if x1 + term - margin ≤ now then (⟨life, count, mdel xs place, ys⟩, 16)
        else (⟨life, count, mdel xs place, mdel ys place ++ [(place, (epoch, until' ys place epoch (x1 + term - margin)))]⟩, 0)) = r → grantX ⟨life, count, xs, ys⟩ now term margin place num epoch = r := by
      intro r hr
      rw [← hr]
      unfold grantX
      simp only [hg]
      rw [if_pos hx]
    have hxb : (x0 != num) = false := by simp [hx]
    by_cases h0 : term < 1
    · exact grantX_arg0 w life count now term margin place num epoch v1 v2 xs ys base hbase h x0 x1 hxb (by simp [h0]) hf (E _ (if_pos (by omega)))
    by_cases h1 : 1048576 < term
    · exact grantX_arg1 w life count now term margin place num epoch v1 v2 xs ys base hbase h x0 x1 hxb (by simp [h0]) (by simp [h1]) hf (E _ (if_pos (by omega)))
    by_cases h2 : margin < 0
    · exact grantX_arg2 w life count now term margin place num epoch v1 v2 xs ys base hbase h x0 x1 hxb (by simp [h0]) (by simp [h1]) (by simp [h2]) hf (E _ (if_pos (by omega)))
    by_cases h3 : 1048576 < margin
    · exact grantX_arg3 w life count now term margin place num epoch v1 v2 xs ys base hbase h x0 x1 hxb (by simp [h0]) (by simp [h1]) (by simp [h2]) (by simp [h3]) hf (E _ (if_pos (by omega)))
    by_cases hm : now < 0 ∨ 1099511627776 < now
    · exact grantX_arg4 w life count now term margin place num epoch v1 v2 xs ys base hbase h x0 x1 hxb (by simp [h0]) (by simp [h1]) (by simp [h2]) (by simp [h3]) hm hf (E _ (if_pos (by omega)))
    by_cases ha : x1 < 0 ∨ 1099511627776 < x1
    · exact grantX_arg5 w life count now term margin place num epoch v1 v2 xs ys base hbase h x0 x1 hxb (by simp [h0]) (by simp [h1]) (by simp [h2]) (by simp [h3]) (by omega) ha hf (E _ (if_pos (by omega)))
    have hn : ¬ (term < 1 ∨ 1048576 < term ∨ margin < 0 ∨ 1048576 < margin ∨ now < 0 ∨ 1099511627776 < now ∨ x1 < 0 ∨ 1099511627776 < x1) := by omega
    by_cases hu : x1 + term - margin ≤ now
    · exact grantX_late w life count now term margin place num epoch v1 v2 xs ys base hbase h hll hll2 x0 x1 hxb (by simp [h0]) (by simp [h1]) (by simp [h2]) (by simp [h3]) (by omega) (by omega) (by omega) (decide_eq_true hu) hf (E _ (by rw [if_neg hn, if_pos hu]))
    have hub : decide (x1 + term - margin ≤ now) = false := decide_eq_false hu
    have hfy := findK_get ys place
    have E2 : ∀ U, until' ys place epoch (x1 + term - margin) = U → grantX ⟨life, count, xs, ys⟩ now term margin place num epoch = (⟨life, count, mdel xs place, mdel ys place ++ [(place, (epoch, U))]⟩, 0) := fun U hU => E _ (by rw [if_neg hn, if_neg hu, hU])
    cases hgy : mget ys place with
    | none =>
      rw [hgy] at hfy
      exact grantX_new w life count now term margin place num epoch v1 v2 xs ys base hbase h hll hll2 x0 x1 hxb (by simp [h0]) (by simp [h1]) (by simp [h2]) (by simp [h3]) (by omega) (by omega) (by omega) hub hf hfy (E2 _ (by unfold until'; rw [hgy]))
    | some y =>
      obtain ⟨y0, y1⟩ := y
      rw [hgy] at hfy
      by_cases hy : y0 = epoch
      · by_cases hl : x1 + term - margin < y1
        · exact grantX_more w life count now term margin place num epoch v1 v2 xs ys base hbase h hll hll2 x0 x1 hxb (by simp [h0]) (by simp [h1]) (by simp [h2]) (by simp [h3]) (by omega) (by omega) (by omega) hub y0 y1 (by simp [hy]) (decide_eq_true hl) hf hfy (E2 _ (by unfold until'; rw [hgy]; simp only; rw [if_pos hy]; omega))
        · exact grantX_less w life count now term margin place num epoch v1 v2 xs ys base hbase h hll hll2 x0 x1 hxb (by simp [h0]) (by simp [h1]) (by simp [h2]) (by simp [h3]) (by omega) (by omega) (by omega) hub y0 y1 (by simp [hy]) (decide_eq_false hl) hf hfy (E2 _ (by unfold until'; rw [hgy]; simp only; rw [if_pos hy]; omega))
      · exact grantX_other w life count now term margin place num epoch v1 v2 xs ys base hbase h hll hll2 x0 x1 hxb (by simp [h0]) (by simp [h1]) (by simp [h2]) (by simp [h3]) (by omega) (by omega) (by omega) hub y0 y1 (by simp [hy]) hf hfy (E2 _ (by unfold until'; rw [hgy]; simp only; rw [if_neg hy]))
end Go.Proofs.Ytefllgpehhlkoaa
