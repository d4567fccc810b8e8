/-
  The document's holder (tillerref19): Ask.
-/
import Derived.Test.YtefllgpehhlkoaaRefH3
namespace Go.Proofs.Ytefllgpehhlkoaa
open Go.RowKit Go.Maps
set_option linter.unusedVariables false

/-- Ask, on lists in the order of asking -/
def askX (h : HS) (now place : Int) : HS × Int × Int :=
  if now < 0 ∨ 1099511627776 < now ∨ h.life < 0 ∨ h.count < 0 then (h, 0, 1)
  else if 524288 ≤ h.life ∨ 1048575 ≤ h.count then (h, 0, 2)
  else (⟨h.life, h.count + 1, mdel h.wants place ++ [(place, (h.life * 1048576 + (h.count + 1), now))], h.has⟩, h.life * 1048576 + (h.count + 1), 0)

/-- behind an append to a list of the call's own, its state in block B -/
structure AskMid (L : Lay Rec3) (w w4 : World) (B base : Nat) (x0 x1 x2 x3 v : Value) (zs : List Rec3) : Prop where
  out : RBox w4 B x0 x1 x2 x3
  res : RBox w4 (w.heap.size + 1) (.int .i64 0) (.int .i64 0) (.slice none 0 0) (.slice none 0 0)
  own : OwnS L w4 base v zs
  only : Only w.heap.size w.heap.size w w4
  ne : ∀ g, v.ownBlock = some g → g ≠ B
  lo : w.heap.size + 2 ≤ B
theorem ask_mid {L : Lay Rec3} (hL : (90 : TypeId) ≠ L.e) {w W2 w4 : World} {x0 x1 x2 x3 u v : Value} {R : Obj} {base : Nat} {xs zs : List Rec3} (o2 : Only w.heap.size w.heap.size w W2) (hz : w.heap.size + 2 ≤ W2.heap.size)
    (hr : RBox W2 (w.heap.size + 1) (.int .i64 0) (.int .i64 0) (.slice none 0 0) (.slice none 0 0)) (hu : OwnS L W2 base u xs) (hb : w.heap.size + 2 ≤ base) (hown : OwnS L w4 base v zs) (hg : ((W2.alloc (.cells #[x0, x1, x2, x3] 90)).alloc R).grownBy w4 u.ownBlock) :
    AskMid L w w4 W2.heap.size base x0 x1 x2 x3 v zs := by
  have hu' := hu.grown (((Only.refl _ _ W2).alloc (.cells #[x0, x1, x2, x3] 90)).alloc R)
  have hk : ((W2.alloc (.cells #[x0, x1, x2, x3] 90)).alloc R).heap[W2.heap.size]? = some (.cells #[x0, x1, x2, x3] 90) := (low_at _ _ _ (by simp)).trans (top_at _ _ _ rfl)
  have hk4 : w4.heap[W2.heap.size]? = some (.cells #[x0, x1, x2, x3] 90) := by rw [hg.block W2.heap.size (by simp; omega) (fun e => hu'.neBlk hk hL e.symm)]; exact hk
  have o3 : Only base W2.heap.size ((W2.alloc (.cells #[x0, x1, x2, x3] 90)).alloc R) w4 := hu'.only hg (fun g e => (hu.blocks g e).2)
  have o5 : Only w.heap.size w.heap.size w ((W2.alloc (.cells #[x0, x1, x2, x3] 90)).alloc R) := (o2.alloc _).alloc _
  exact ⟨RBox.of hk4, (hr.kept (((Only.refl W2.heap.size W2.heap.size W2).alloc (.cells #[x0, x1, x2, x3] 90)).alloc R) (by omega) (.inl (by omega))).kept o3 (by simp; omega) (.inl (by omega)), hown, o5.fresh (o3.mono (by omega) (Nat.le_refl _)), fun g hg2 e => hown.neBlk (A := W2.heap.size) hk4 hL (by rw [hg2, e]), hz⟩
/-- the state is stored in the result -/
theorem AskMid.done {L : Lay Rec3} {w w4 : World} {B base : Nat} {x0 x1 x2 x3 v : Value} {zs : List Rec3} (k : AskMid L w w4 B base x0 x1 x2 x3 v zs) (hb : w.heap.size + 2 ≤ base) (i : Nat) (y0 y1 y2 y3 : Value) :
    RBox (World.rset (w4.setCell ⟨B, i, none⟩ v) (w.heap.size + 1) y0 y1 y2 y3) (w.heap.size + 1) y0 y1 y2 y3 ∧ OwnS L (World.rset (w4.setCell ⟨B, i, none⟩ v) (w.heap.size + 1) y0 y1 y2 y3) base v zs ∧ Only w.heap.size w.heap.size w (World.rset (w4.setCell ⟨B, i, none⟩ v) (w.heap.size + 1) y0 y1 y2 y3) := by
  have hlo := k.lo
  have o1 := set_only w4 B i v
  have n1 := k.own.staysX (w' := w4.setCell ⟨B, i, none⟩ v) (fun g hg => o1.block g (k.own.blocks g hg).2 (by have := k.ne g hg; omega))
  have hs : w.heap.size + 1 < w4.heap.size := World.block_lt_of_cell? w4 _ k.res.c0
  have r1 := k.res.kept o1 hs (.inl (by omega))
  have o2 := rset_only (w4.setCell ⟨B, i, none⟩ v) (w.heap.size + 1) y0 y1 y2 y3
  exact ⟨r1.set, n1.keptOnly o2 (by omega), (k.only.fresh (o1.mono (by omega) (Nat.le_refl _))).fresh (o2.mono (by omega) (Nat.le_refl _))⟩

set_option maxRecDepth 100000 in
set_option maxHeartbeats 2000000 in
theorem askX_arg0 (w : World) (life count now place : Int) (v1 v2 : Value) (xs ys : List Rec3) (base : Nat) (hbase : base ≤ w.heap.size) (h : XIs w base xs ys v1 v2) (hm : now < 0 ∨ 1099511627776 < now)  (he : askX ⟨life, count, xs, ys⟩ now place = (⟨life, count, xs, ys⟩, 0, 1)) :
    Calls Try.prog 42 #[.agg #[.int .i64 life, .int .i64 count, v1, v2], .int .i64 now, .int .i64 place] w (XLeft w base v1 v2 (askX ⟨life, count, xs, ys⟩ now place).1 [.int .i64 (askX ⟨life, count, xs, ys⟩ now place).2.1, .int .i64 (askX ⟨life, count, xs, ys⟩ now place).2.2]) := by
  have hO : Hid (Only w.heap.size w.heap.size w w) := Lib.hid (Only.refl _ _ _)
  obtain ⟨a1, n1, c1, rfl⟩ := own_slice h.ws
  obtain ⟨a2, n2, c2, rfl⟩ := own_slice h.hs
  have H := Lib.hid h
  have HBA := Lib.hid hbase
  have HE := Lib.hid he
  have HM := Lib.hid hm
  clear h he hbase hm
  go_enter Try.func42, Try.ntmps42
  go_wp2_with (first
    | (go_at_call 59; refine (moment_no _ now HM.out).mono ?_; rintro e W1 ⟨rfl, rfl⟩)
    | fail)
  refine bodyPost_ret (v := .tuple #[.agg #[.int .i64 life, .int .i64 count, .slice a1 n1 c1, .slice a2 n2 c2], .int .i64 0, .int .i64 1]) (by simp [results, Try.results42, go_sem]) rfl ?_
  rw [HE.out]
  exact ⟨_, _, rfl, H.out.grown ((hO.out.alloc _).alloc _), .inl rfl, .inl rfl, (hO.out.alloc _).alloc _⟩

set_option maxRecDepth 100000 in
set_option maxHeartbeats 2000000 in
theorem askX_arg1 (w : World) (life count now place : Int) (v1 v2 : Value) (xs ys : List Rec3) (base : Nat) (hbase : base ≤ w.heap.size) (h : XIs w base xs ys v1 v2) (hm : 0 ≤ now ∧ now ≤ 1099511627776) (h1 : decide (life < 0) = true) (he : askX ⟨life, count, xs, ys⟩ now place = (⟨life, count, xs, ys⟩, 0, 1)) :
    Calls Try.prog 42 #[.agg #[.int .i64 life, .int .i64 count, v1, v2], .int .i64 now, .int .i64 place] w (XLeft w base v1 v2 (askX ⟨life, count, xs, ys⟩ now place).1 [.int .i64 (askX ⟨life, count, xs, ys⟩ now place).2.1, .int .i64 (askX ⟨life, count, xs, ys⟩ now place).2.2]) := by
  have hO : Hid (Only w.heap.size w.heap.size w w) := Lib.hid (Only.refl _ _ _)
  obtain ⟨a1, n1, c1, rfl⟩ := own_slice h.ws
  obtain ⟨a2, n2, c2, rfl⟩ := own_slice h.hs
  have H := Lib.hid h
  have HBA := Lib.hid hbase
  have HE := Lib.hid he
  have HM := Lib.hid hm
  clear h he hbase hm
  go_enter Try.func42, Try.ntmps42
  go_wp2_with (first
    | (go_at_call 59; refine (moment_yes _ now HM.out.1 HM.out.2).mono ?_; rintro e W1 ⟨rfl, rfl⟩)
    | fail)
  refine bodyPost_ret (v := .tuple #[.agg #[.int .i64 life, .int .i64 count, .slice a1 n1 c1, .slice a2 n2 c2], .int .i64 0, .int .i64 1]) (by simp [results, Try.results42, go_sem]) rfl ?_
  rw [HE.out]
  exact ⟨_, _, rfl, H.out.grown ((hO.out.alloc _).alloc _), .inl rfl, .inl rfl, (hO.out.alloc _).alloc _⟩

set_option maxRecDepth 100000 in
set_option maxHeartbeats 2000000 in
theorem askX_arg2 (w : World) (life count now place : Int) (v1 v2 : Value) (xs ys : List Rec3) (base : Nat) (hbase : base ≤ w.heap.size) (h : XIs w base xs ys v1 v2) (hm : 0 ≤ now ∧ now ≤ 1099511627776) (h1 : decide (life < 0) = false) (h2 : decide (count < 0) = true) (he : askX ⟨life, count, xs, ys⟩ now place = (⟨life, count, xs, ys⟩, 0, 1)) :
    Calls Try.prog 42 #[.agg #[.int .i64 life, .int .i64 count, v1, v2], .int .i64 now, .int .i64 place] w (XLeft w base v1 v2 (askX ⟨life, count, xs, ys⟩ now place).1 [.int .i64 (askX ⟨life, count, xs, ys⟩ now place).2.1, .int .i64 (askX ⟨life, count, xs, ys⟩ now place).2.2]) := by
  have hO : Hid (Only w.heap.size w.heap.size w w) := Lib.hid (Only.refl _ _ _)
  obtain ⟨a1, n1, c1, rfl⟩ := own_slice h.ws
  obtain ⟨a2, n2, c2, rfl⟩ := own_slice h.hs
  have H := Lib.hid h
  have HBA := Lib.hid hbase
  have HE := Lib.hid he
  have HM := Lib.hid hm
  clear h he hbase hm
  go_enter Try.func42, Try.ntmps42
  go_wp2_with (first
    | (go_at_call 59; refine (moment_yes _ now HM.out.1 HM.out.2).mono ?_; rintro e W1 ⟨rfl, rfl⟩)
    | fail)
  refine bodyPost_ret (v := .tuple #[.agg #[.int .i64 life, .int .i64 count, .slice a1 n1 c1, .slice a2 n2 c2], .int .i64 0, .int .i64 1]) (by simp [results, Try.results42, go_sem]) rfl ?_
  rw [HE.out]
  exact ⟨_, _, rfl, H.out.grown ((hO.out.alloc _).alloc _), .inl rfl, .inl rfl, (hO.out.alloc _).alloc _⟩

set_option maxRecDepth 100000 in
set_option maxHeartbeats 2000000 in
theorem askX_big0 (w : World) (life count now place : Int) (v1 v2 : Value) (xs ys : List Rec3) (base : Nat) (hbase : base ≤ w.heap.size) (h : XIs w base xs ys v1 v2) (hm : 0 ≤ now ∧ now ≤ 1099511627776) (h1 : decide (life < 0) = false) (h2 : decide (count < 0) = false) (h3 : decide (524288 ≤ life) = true) (he : askX ⟨life, count, xs, ys⟩ now place = (⟨life, count, xs, ys⟩, 0, 2)) :
    Calls Try.prog 42 #[.agg #[.int .i64 life, .int .i64 count, v1, v2], .int .i64 now, .int .i64 place] w (XLeft w base v1 v2 (askX ⟨life, count, xs, ys⟩ now place).1 [.int .i64 (askX ⟨life, count, xs, ys⟩ now place).2.1, .int .i64 (askX ⟨life, count, xs, ys⟩ now place).2.2]) := by
  have hO : Hid (Only w.heap.size w.heap.size w w) := Lib.hid (Only.refl _ _ _)
  obtain ⟨a1, n1, c1, rfl⟩ := own_slice h.ws
  obtain ⟨a2, n2, c2, rfl⟩ := own_slice h.hs
  have H := Lib.hid h
  have HBA := Lib.hid hbase
  have HE := Lib.hid he
  have HM := Lib.hid hm
  clear h he hbase hm
  go_enter Try.func42, Try.ntmps42
  go_wp2_with (first
    | (go_at_call 59; refine (moment_yes _ now HM.out.1 HM.out.2).mono ?_; rintro e W1 ⟨rfl, rfl⟩)
    | fail)
  refine bodyPost_ret (v := .tuple #[.agg #[.int .i64 life, .int .i64 count, .slice a1 n1 c1, .slice a2 n2 c2], .int .i64 0, .int .i64 2]) (by simp [results, Try.results42, go_sem]) rfl ?_
  rw [HE.out]
  exact ⟨_, _, rfl, H.out.grown ((hO.out.alloc _).alloc _), .inl rfl, .inl rfl, (hO.out.alloc _).alloc _⟩

set_option maxRecDepth 100000 in
set_option maxHeartbeats 2000000 in
theorem askX_big1 (w : World) (life count now place : Int) (v1 v2 : Value) (xs ys : List Rec3) (base : Nat) (hbase : base ≤ w.heap.size) (h : XIs w base xs ys v1 v2) (hm : 0 ≤ now ∧ now ≤ 1099511627776) (h1 : decide (life < 0) = false) (h2 : decide (count < 0) = false) (h3 : decide (524288 ≤ life) = false) (h4 : decide (1048575 ≤ count) = true) (he : askX ⟨life, count, xs, ys⟩ now place = (⟨life, count, xs, ys⟩, 0, 2)) :
    Calls Try.prog 42 #[.agg #[.int .i64 life, .int .i64 count, v1, v2], .int .i64 now, .int .i64 place] w (XLeft w base v1 v2 (askX ⟨life, count, xs, ys⟩ now place).1 [.int .i64 (askX ⟨life, count, xs, ys⟩ now place).2.1, .int .i64 (askX ⟨life, count, xs, ys⟩ now place).2.2]) := by
  have hO : Hid (Only w.heap.size w.heap.size w w) := Lib.hid (Only.refl _ _ _)
  obtain ⟨a1, n1, c1, rfl⟩ := own_slice h.ws
  obtain ⟨a2, n2, c2, rfl⟩ := own_slice h.hs
  have H := Lib.hid h
  have HBA := Lib.hid hbase
  have HE := Lib.hid he
  have HM := Lib.hid hm
  clear h he hbase hm
  go_enter Try.func42, Try.ntmps42
  go_wp2_with (first
    | (go_at_call 59; refine (moment_yes _ now HM.out.1 HM.out.2).mono ?_; rintro e W1 ⟨rfl, rfl⟩)
    | fail)
  refine bodyPost_ret (v := .tuple #[.agg #[.int .i64 life, .int .i64 count, .slice a1 n1 c1, .slice a2 n2 c2], .int .i64 0, .int .i64 2]) (by simp [results, Try.results42, go_sem]) rfl ?_
  rw [HE.out]
  exact ⟨_, _, rfl, H.out.grown ((hO.out.alloc _).alloc _), .inl rfl, .inl rfl, (hO.out.alloc _).alloc _⟩

set_option maxRecDepth 100000 in
set_option maxHeartbeats 2000000 in
theorem askX_ok (w : World) (life count now place : Int) (v1 v2 : Value) (xs ys : List Rec3) (base : Nat) (hbase : base ≤ w.heap.size) (h : XIs w base xs ys v1 v2) (hm : 0 ≤ now ∧ now ≤ 1099511627776) (hll : xs.length ≤ 10000) (h1 : decide (life < 0) = false) (h2 : decide (count < 0) = false) (h3 : decide (524288 ≤ life) = false) (h4 : decide (1048575 ≤ count) = false) (hb0 : 0 ≤ life) (hb1 : life < 524288) (hb2 : 0 ≤ count) (hb3 : count < 1048575) (he : askX ⟨life, count, xs, ys⟩ now place = (⟨life, count + 1, mdel xs place ++ [(place, (life * 1048576 + (count + 1), now))], ys⟩, life * 1048576 + (count + 1), 0)) :
    Calls Try.prog 42 #[.agg #[.int .i64 life, .int .i64 count, v1, v2], .int .i64 now, .int .i64 place] w (XLeft w base v1 v2 (askX ⟨life, count, xs, ys⟩ now place).1 [.int .i64 (askX ⟨life, count, xs, ys⟩ now place).2.1, .int .i64 (askX ⟨life, count, xs, ys⟩ now place).2.2]) := by
  have hO : Hid (Only w.heap.size w.heap.size w w) := Lib.hid (Only.refl _ _ _)
  obtain ⟨a1, n1, c1, rfl⟩ := own_slice h.ws
  obtain ⟨a2, n2, c2, rfl⟩ := own_slice h.hs
  have H := Lib.hid h
  have HBA := Lib.hid hbase
  have HX : Hid (∀ W, Only ((w.alloc (.cells #[.int .i64 life, .int .i64 count, .slice a1 n1 c1, .slice a2 n2 c2] 90)).alloc (.cells #[.int .i64 0, .int .i64 0, .slice none 0 0, .slice none 0 0] 90)).heap.size ((w.alloc (.cells #[.int .i64 life, .int .i64 count, .slice a1 n1 c1, .slice a2 n2 c2] 90)).alloc (.cells #[.int .i64 0, .int .i64 0, .slice none 0 0, .slice none 0 0] 90)).heap.size ((w.alloc (.cells #[.int .i64 life, .int .i64 count, .slice a1 n1 c1, .slice a2 n2 c2] 90)).alloc (.cells #[.int .i64 0, .int .i64 0, .slice none 0 0, .slice none 0 0] 90)) W → RBox W w.heap.size (.int .i64 life) (.int .i64 count) (.slice a1 n1 c1) (.slice a2 n2 c2) ∧ RBox W (w.heap.size + 1) (.int .i64 0) (.int .i64 0) (.slice none 0 0) (.slice none 0 0)) := Lib.hid (fun W o => by
    refine ⟨(RBox.of ((low_at _ _ _ (by simp)).trans (top_at _ _ _ rfl))).kept o (by simp; omega) (.inl (by simp; omega)), (RBox.of (top_at _ _ _ (by simp))).kept o (by simp) (.inl (by simp))⟩)
  have HE := Lib.hid he
  have HM := Lib.hid hm
  have HLL := Lib.hid hll
  have hw1 : IntKind.i64.wrap (count + 1) = count + 1 := IntWalk.i64_in _ (by omega)
  have hw2 : IntKind.i64.wrap (1048576 * life) = 1048576 * life := IntWalk.i64_in _ (by omega)
  have hw3 : IntKind.i64.wrap (1048576 * life + (count + 1)) = 1048576 * life + (count + 1) := IntWalk.i64_in _ (by omega)
  have hb := build1_133
  clear h he hbase hm hll hb0 hb1 hb2 hb3
  go_enter Try.func42, Try.ntmps42
  go_wp2_with (first
    | (go_at_call 59; refine (moment_yes _ now HM.out.1 HM.out.2).mono ?_; rintro e W1 ⟨rfl, rfl⟩)
    | (go_at_call 60; refine (unwant_any _ life count place _ _ xs (H.out.ws.reads.kept ((hO.out.alloc _).alloc _)) (by have := HLL.out; omega) ⟨_, _, _, rfl⟩).mono ?_; rintro e W2 ⟨v2', rfl, hr2, ho2⟩; have HR2 := Lib.hid hr2; obtain ⟨u1a, u1n, u1c, rfl⟩ := own_val hr2; have HZ : Hid (w.heap.size + 2 ≤ W2.heap.size) := Lib.hid (by have h2 := ho2.size; simp at h2; omega); have o2 := Lib.hid ((((hO.out.alloc _).alloc _).then ho2 (by simp; omega))); have oX := Lib.hid ho2; have HB2 := Lib.hid (fun O => HX.out _ (ho2.alloc O)); have HRZ := Lib.hid (HX.out _ ho2).2; have HBS : Hid (w.heap.size + 2 ≤ ((w.alloc (.cells #[.int .i64 life, .int .i64 count, .slice a1 n1 c1, .slice a2 n2 c2] 90)).alloc (.cells #[.int .i64 0, .int .i64 0, .slice none 0 0, .slice none 0 0] 90)).heap.size) := Lib.hid (by simp); clear hr2 ho2; obtain ⟨⟨b0, b1, b2, b3, _⟩, _⟩ := HB2.out (.cells #[.int .i64 life, .int .i64 count, .slice u1a u1n u1c, .slice a2 n2 c2] 90); obtain ⟨⟨d0, d1, d2, d3, _⟩, _⟩ := HB2.out (.cells #[.int .i64 life, .int .i64 (count + 1), .slice u1a u1n u1c, .slice a2 n2 c2] 90))
    | (at_builtin; refine wpList_append_one layW _ rfl (.tmp 48) (.tmp 53) rfl _ _ (mdel xs place) (place, (1048576 * life + (count + 1), now)) rfl (HR2.out.grown (((Only.refl _ _ W2).alloc _).alloc _)) (W2.heap.size + 1) rfl (rec_cells3 rfl _ _ (place, (1048576 * life + (count + 1), now)) rfl _ (top_at _ _ _ (by simp))) (by have := mdel_len xs place; have := HLL.out; omega) (by have := HZ.out; first | (simp; done) | (simp; omega)) ?_; intro v3 w4 hown' hg'; have HQ := Lib.hid (ask_mid (by decide) o2.out HZ.out HRZ.out HR2.out HBS.out hown' hg'); obtain ⟨u3a, u3n, u3c, rfl⟩ := own_val hown'; clear hown' hg' b0 b1 b2 b3 d0 d1 d2 d3; obtain ⟨e0, e1, e2, e3, ef⟩ := HQ.out.out; have ef2 := ef 2; obtain ⟨r0, r1, r2, r3, rf⟩ := HQ.out.res; have rf0 := rf 0; have rf1 := rf 1; have rf2 := rf 2; have rf3 := rf 3; clear ef rf; have hz := HZ.out; have hne1 : ¬ (W2.heap.size = w.heap.size + 1) := (by omega); have hne2 : ¬ (w.heap.size + 1 = W2.heap.size) := (by omega); clear hz)
    | fail)
  have HD := HQ.out.done HBS.out 2 (.int .i64 life) (.int .i64 (count + 1)) (.slice u3a u3n u3c) (.slice a2 n2 c2)
  unfold World.rset at HD
  obtain ⟨⟨k0, k1, k2, k3, _⟩, hF, oF⟩ := HD
  refine bodyPost_ret (v := .tuple #[.agg #[.int .i64 life, .int .i64 (count + 1), .slice u3a u3n u3c, .slice a2 n2 c2], .int .i64 (1048576 * life + (count + 1)), .int .i64 0]) (by simp [results, Try.results42, go_sem, k0, k1, k2, k3]) rfl ?_
  rw [HE.out]
  have e : life * 1048576 + (count + 1) = 1048576 * life + (count + 1) := by omega
  simp only [e]
  exact ⟨_, _, rfl, ⟨hF.mono (by have := HBA.out; have := HBS.out; omega), H.out.hs.grown oF⟩, .inr (hF.mono (by have := HBS.out; omega)), .inl rfl, oF⟩

theorem askX_any (w : World) (life count now place : Int) (v1 v2 : Value) (xs ys : List Rec3) (base : Nat) (hbase : base ≤ w.heap.size) (h : XIs w base xs ys v1 v2) (hll : xs.length ≤ 10000) :
    Calls Try.prog 42 #[.agg #[.int .i64 life, .int .i64 count, v1, v2], .int .i64 now, .int .i64 place] w (XLeft w base v1 v2 (askX ⟨life, count, xs, ys⟩ now place).1 [.int .i64 (askX ⟨life, count, xs, ys⟩ now place).2.1, .int .i64 (askX ⟨life, count, xs, ys⟩ now place).2.2]) := by
  by_cases hm : now < 0 ∨ 1099511627776 < now
  · exact askX_arg0 w life count now place v1 v2 xs ys base hbase h hm (by unfold askX; rw [if_pos (by omega)])
  have hm' : 0 ≤ now ∧ now ≤ 1099511627776 := by omega
  by_cases h1 : life < 0
  · exact askX_arg1 w life count now place v1 v2 xs ys base hbase h hm' (by simp [h1]) (by unfold askX; rw [if_pos (by simp only; omega)])
  by_cases h2 : count < 0
  · exact askX_arg2 w life count now place v1 v2 xs ys base hbase h hm' (by simp [h1]) (by simp [h2]) (by unfold askX; rw [if_pos (by simp only; omega)])
  by_cases h3 : 524288 ≤ life
  · exact askX_big0 w life count now place v1 v2 xs ys base hbase h hm' (by simp [h1]) (by simp [h2]) (by simp [h3]) (by unfold askX; rw [if_neg (by simp only; omega), if_pos (by simp only; omega)])
  by_cases h4 : 1048575 ≤ count
  · exact askX_big1 w life count now place v1 v2 xs ys base hbase h hm' (by simp [h1]) (by simp [h2]) (by simp [h3]) (by simp [h4]) (by unfold askX; rw [if_neg (by simp only; omega), if_pos (by simp only; omega)])
  exact askX_ok w life count now place v1 v2 xs ys base hbase h hm' hll (by simp [h1]) (by simp [h2]) (by simp [h3]) (by simp [h4]) (by omega) (by omega) (by omega) (by omega) (by unfold askX; rw [if_neg (by simp only; omega), if_neg (by simp only; omega)])
end Go.Proofs.Ytefllgpehhlkoaa
