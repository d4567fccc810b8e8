/-
  The document's holder (tillerref19): Crash, Denied, Let, Ask.
-/
import Derived.Test.YtefllgpehhlkoaaRefH2
import Derived.Deep.RegionWith
import Derived.IntWalk
namespace Go.Proofs.Ytefllgpehhlkoaa
open Go.RowKit Go.Maps
set_option linter.unusedVariables false

/-- a state's two lists, each in a row of its own -/
structure XIs (w : World) (base : Nat) (xs ys : List Rec3) (v1 v2 : Value) : Prop where
  ws : OwnS layW w base v1 xs
  hs : OwnS layH w base v2 ys
theorem XIs.grown {w w' : World} {base : Nat} {xs ys : List Rec3} {v1 v2 : Value} (h : XIs w base xs ys v1 v2) (o : Only w.heap.size w.heap.size w w') : XIs w' base xs ys v1 v2 := ⟨h.ws.grown o, h.hs.grown o⟩
/-- what a call of the document's leaves: the state, what is told -/
def XLeft (w : World) (base : Nat) (v1 v2 : Value) (r : HS) (told : List Value) (e : Ending) (w' : World) : Prop :=
  ∃ u1 u2, e = .returned (.tuple (.agg #[.int .i64 r.life, .int .i64 r.count, u1, u2] :: told).toArray) ∧ XIs w' base r.wants r.has u1 u2 ∧ (u1 = v1 ∨ OwnS layW w' w.heap.size u1 r.wants) ∧ (u2 = v2 ∨ OwnS layH w' w.heap.size u2 r.has) ∧ Only w.heap.size w.heap.size w w'
theorem own_slice {α : Type} {L : Lay α} {W : World} {base : Nat} {v : Value} {l : List α} (h : OwnS L W base v l) : ∃ a n c, v = .slice a n c := own_val h
theorem OwnS.staysX {α : Type} {L : Lay α} {w w' : World} {base : Nat} {v : Value} {l : List α} (h : OwnS L w base v l) (hk : ∀ g, v.ownBlock = some g → w'.heap[g]? = w.heap[g]?) : OwnS L w' base v l := by
  obtain ⟨h1, h2 | ⟨g, cap, cur, hv, hg, hh, r⟩⟩ := h
  · exact ⟨h1, .inl h2⟩
  · exact ⟨h1, .inr ⟨g, cap, cur, hv, hg, by rw [hk g (by rw [hv]; rfl)]; exact hh, r⟩⟩
theorem OwnS.neBlk {α : Type} {L : Lay α} {w : World} {base A : Nat} {v : Value} {l : List α} {cs : Array Value} {t : TypeId} (h : OwnS L w base v l) (k : w.heap[A]? = some (.cells cs t)) (ht : t ≠ L.e) (hv : v.ownBlock = some A) : False := by
  obtain ⟨_, h2 | ⟨g, cap, cur, hv', hg, hh, r⟩⟩ := h
  · rw [h2.1] at hv; cases hv
  · rw [hv'] at hv
    cases hv
    rw [hh] at k
    injection k with k
    injection k with _ h3
    exact ht h3.symm

set_option maxRecDepth 100000 in
set_option maxHeartbeats 1000000 in
theorem crashX_any (w : World) (life count : Int) (a1 a2 : Option Addr) (n1 c1 n2 c2 : Nat) :
    Calls Try.prog 48 #[.agg #[.int .i64 life, .int .i64 count, .slice a1 n1 c1, .slice a2 n2 c2]] w fun e w' => e = .returned (.agg #[.int .i64 (nextLife life), .int .i64 0, .slice none 0 0, .slice none 0 0]) ∧ Only w.heap.size w.heap.size w w' := by
  have hO : Hid (Only w.heap.size w.heap.size w w) := Lib.hid (Only.refl _ _ _)
  by_cases h1 : life < 0
  · have e : Hid (nextLife life = 1) := Lib.hid (by unfold nextLife; omega)
    go_enter Try.func48, Try.ntmps48
    go_wp2_with fail
    refine bodyPost_ret (v := .agg #[.int .i64 1, .int .i64 0, .slice none 0 0, .slice none 0 0]) (by simp [results, Try.results48, go_sem]) rfl ⟨by rw [e.out], (hO.out.alloc _).alloc _⟩
  · by_cases h2 : 524287 < life
    · have e : Hid (nextLife life = 524288) := Lib.hid (by unfold nextLife; omega)
      go_enter Try.func48, Try.ntmps48
      go_wp2_with fail
      refine bodyPost_ret (v := .agg #[.int .i64 524288, .int .i64 0, .slice none 0 0, .slice none 0 0]) (by simp [results, Try.results48, go_sem]) rfl ⟨by rw [e.out], (hO.out.alloc _).alloc _⟩
    · have e : Hid (nextLife life = life + 1) := Lib.hid (by unfold nextLife; omega)
      go_enter Try.func48, Try.ntmps48
      go_wp2_with fail
      refine bodyPost_ret (v := .agg #[.int .i64 (life + 1), .int .i64 0, .slice none 0 0, .slice none 0 0]) (by simp [results, Try.results48, go_sem]) rfl ⟨by rw [e.out], (hO.out.alloc _).alloc _⟩

set_option maxRecDepth 100000 in
set_option maxHeartbeats 2000000 in
theorem denyX_none (w : World) (life count place num : Int) (v1 v2 : Value) (xs ys : List Rec3) (base : Nat) (hbase : base ≤ w.heap.size) (h : XIs w base xs ys v1 v2) (hf : findK xs place = none) (he : denyH ⟨life, count, xs, ys⟩ place num = (⟨life, count, xs, ys⟩, 8)) :
    Calls Try.prog 45 #[.agg #[.int .i64 life, .int .i64 count, v1, v2], .int .i64 place, .int .i64 num] w (XLeft w base v1 v2 (denyH ⟨life, count, xs, ys⟩ place num).1 [.int .i64 (denyH ⟨life, count, xs, ys⟩ place num).2]) := by
  have hO : Hid (Only w.heap.size w.heap.size w w) := Lib.hid (Only.refl _ _ _)
  obtain ⟨a1, n1, c1, rfl⟩ := own_slice h.ws
  obtain ⟨a2, n2, c2, rfl⟩ := own_slice h.hs
  have H := Lib.hid h
  have HBA := Lib.hid hbase
  have HX : Hid (∀ W, Only ((w.alloc (.cells #[.int .i64 life, .int .i64 count, .slice a1 n1 c1, .slice a2 n2 c2] 90)).alloc (.cells #[.int .i64 0, .int .i64 0, .slice none 0 0, .slice none 0 0] 90)).heap.size ((w.alloc (.cells #[.int .i64 life, .int .i64 count, .slice a1 n1 c1, .slice a2 n2 c2] 90)).alloc (.cells #[.int .i64 0, .int .i64 0, .slice none 0 0, .slice none 0 0] 90)).heap.size ((w.alloc (.cells #[.int .i64 life, .int .i64 count, .slice a1 n1 c1, .slice a2 n2 c2] 90)).alloc (.cells #[.int .i64 0, .int .i64 0, .slice none 0 0, .slice none 0 0] 90)) W → RBox W w.heap.size (.int .i64 life) (.int .i64 count) (.slice a1 n1 c1) (.slice a2 n2 c2) ∧ RBox W (w.heap.size + 1) (.int .i64 0) (.int .i64 0) (.slice none 0 0) (.slice none 0 0)) := Lib.hid (fun W o => by
    refine ⟨(RBox.of ((low_at _ _ _ (by simp)).trans (top_at _ _ _ rfl))).kept o (by simp; omega) (.inl (by simp; omega)), (RBox.of (top_at _ _ _ (by simp))).kept o (by simp) (.inl (by simp))⟩)
  have HE := Lib.hid he
  have HF := Lib.hid hf
  clear h he hbase hf
  go_enter Try.func45, Try.ntmps45
  go_wp2_with (first
    | (go_at_call 61; refine (wanted_any _ life count place _ _ _ (H.out.ws.reads.kept ((hO.out.alloc _).alloc _))).mono ?_; unfold Found3; rw [HF.out]; dsimp only [Option.getD, Option.isSome, rec3, zrec3]; rintro e W1 ⟨rfl, ho1⟩; have o1 := Lib.hid ((((hO.out.alloc _).alloc _).then ho1 (by simp; omega)).alloc (.cells #[.int .i64 0, .int .i64 0, .int .i64 0] 133)); have oX := Lib.hid (ho1.alloc (.cells #[.int .i64 0, .int .i64 0, .int .i64 0] 133)); have HB := Lib.hid (HX.out _ oX.out); have HZ : Hid (w.heap.size + 2 ≤ W1.heap.size) := Lib.hid (by have h2 := ho1.size; simp at h2; omega); obtain ⟨⟨b0, b1, b2, b3, _⟩, ⟨r0, r1, r2, r3, rf⟩⟩ := HB.out; have rf0 := rf 0; have rf1 := rf 1; have rf2 := rf 2; have rf3 := rf 3; clear rf; clear ho1)
    | fail)
  have hE := HB.out.2.set (y0 := .int .i64 life) (y1 := .int .i64 count) (y2 := .slice a1 n1 c1) (y3 := .slice a2 n2 c2)
  have hEO := rset_only (W1.alloc (.cells #[.int .i64 0, .int .i64 0, .int .i64 0] 133)) (w.heap.size + 1) (.int .i64 life) (.int .i64 count) (.slice a1 n1 c1) (.slice a2 n2 c2)
  unfold World.rset at hE hEO
  obtain ⟨k0, k1, k2, k3, _⟩ := hE
  refine bodyPost_ret (v := .tuple #[.agg #[.int .i64 life, .int .i64 count, .slice a1 n1 c1, .slice a2 n2 c2], .int .i64 8]) (by simp [results, Try.results45, go_sem, k0, k1, k2, k3]) rfl ?_
  rw [HE.out]
  have oF := o1.out.fresh (hEO.mono (by omega) (Nat.le_refl _))
  exact ⟨_, _, rfl, H.out.grown oF, .inl rfl, .inl rfl, oF⟩

set_option maxRecDepth 100000 in
set_option maxHeartbeats 2000000 in
theorem denyX_old (w : World) (life count place num : Int) (v1 v2 : Value) (xs ys : List Rec3) (base : Nat) (hbase : base ≤ w.heap.size) (h : XIs w base xs ys v1 v2) (x0 x1 : Int) (hx : (x0 != num) = true) (hf : findK xs place = some (place, (x0, x1))) (he : denyH ⟨life, count, xs, ys⟩ place num = (⟨life, count, xs, ys⟩, 14)) :
    Calls Try.prog 45 #[.agg #[.int .i64 life, .int .i64 count, v1, v2], .int .i64 place, .int .i64 num] w (XLeft w base v1 v2 (denyH ⟨life, count, xs, ys⟩ place num).1 [.int .i64 (denyH ⟨life, count, xs, ys⟩ place num).2]) := by
  have hO : Hid (Only w.heap.size w.heap.size w w) := Lib.hid (Only.refl _ _ _)
  obtain ⟨a1, n1, c1, rfl⟩ := own_slice h.ws
  obtain ⟨a2, n2, c2, rfl⟩ := own_slice h.hs
  have H := Lib.hid h
  have HBA := Lib.hid hbase
  have HX : Hid (∀ W, Only ((w.alloc (.cells #[.int .i64 life, .int .i64 count, .slice a1 n1 c1, .slice a2 n2 c2] 90)).alloc (.cells #[.int .i64 0, .int .i64 0, .slice none 0 0, .slice none 0 0] 90)).heap.size ((w.alloc (.cells #[.int .i64 life, .int .i64 count, .slice a1 n1 c1, .slice a2 n2 c2] 90)).alloc (.cells #[.int .i64 0, .int .i64 0, .slice none 0 0, .slice none 0 0] 90)).heap.size ((w.alloc (.cells #[.int .i64 life, .int .i64 count, .slice a1 n1 c1, .slice a2 n2 c2] 90)).alloc (.cells #[.int .i64 0, .int .i64 0, .slice none 0 0, .slice none 0 0] 90)) W → RBox W w.heap.size (.int .i64 life) (.int .i64 count) (.slice a1 n1 c1) (.slice a2 n2 c2) ∧ RBox W (w.heap.size + 1) (.int .i64 0) (.int .i64 0) (.slice none 0 0) (.slice none 0 0)) := Lib.hid (fun W o => by
    refine ⟨(RBox.of ((low_at _ _ _ (by simp)).trans (top_at _ _ _ rfl))).kept o (by simp; omega) (.inl (by simp; omega)), (RBox.of (top_at _ _ _ (by simp))).kept o (by simp) (.inl (by simp))⟩)
  have HE := Lib.hid he
  have HF := Lib.hid hf
  clear h he hbase hf
  go_enter Try.func45, Try.ntmps45
  go_wp2_with (first
    | (go_at_call 61; refine (wanted_any _ life count place _ _ _ (H.out.ws.reads.kept ((hO.out.alloc _).alloc _))).mono ?_; unfold Found3; rw [HF.out]; dsimp only [Option.getD, Option.isSome, rec3, zrec3]; rintro e W1 ⟨rfl, ho1⟩; have o1 := Lib.hid ((((hO.out.alloc _).alloc _).then ho1 (by simp; omega)).alloc (.cells #[.int .i64 place, .int .i64 x0, .int .i64 x1] 133)); have oX := Lib.hid (ho1.alloc (.cells #[.int .i64 place, .int .i64 x0, .int .i64 x1] 133)); have HB := Lib.hid (HX.out _ oX.out); have HZ : Hid (w.heap.size + 2 ≤ W1.heap.size) := Lib.hid (by have h2 := ho1.size; simp at h2; omega); obtain ⟨⟨b0, b1, b2, b3, _⟩, ⟨r0, r1, r2, r3, rf⟩⟩ := HB.out; have rf0 := rf 0; have rf1 := rf 1; have rf2 := rf 2; have rf3 := rf 3; clear rf; clear ho1)
    | fail)
  have hE := HB.out.2.set (y0 := .int .i64 life) (y1 := .int .i64 count) (y2 := .slice a1 n1 c1) (y3 := .slice a2 n2 c2)
  have hEO := rset_only (W1.alloc (.cells #[.int .i64 place, .int .i64 x0, .int .i64 x1] 133)) (w.heap.size + 1) (.int .i64 life) (.int .i64 count) (.slice a1 n1 c1) (.slice a2 n2 c2)
  unfold World.rset at hE hEO
  obtain ⟨k0, k1, k2, k3, _⟩ := hE
  refine bodyPost_ret (v := .tuple #[.agg #[.int .i64 life, .int .i64 count, .slice a1 n1 c1, .slice a2 n2 c2], .int .i64 14]) (by simp [results, Try.results45, go_sem, k0, k1, k2, k3]) rfl ?_
  rw [HE.out]
  have oF := o1.out.fresh (hEO.mono (by omega) (Nat.le_refl _))
  exact ⟨_, _, rfl, H.out.grown oF, .inl rfl, .inl rfl, oF⟩

set_option maxRecDepth 100000 in
set_option maxHeartbeats 2000000 in
theorem denyX_ok (w : World) (life count place num : Int) (v1 v2 : Value) (xs ys : List Rec3) (base : Nat) (hbase : base ≤ w.heap.size) (h : XIs w base xs ys v1 v2) (hll : xs.length ≤ 10000) (x0 x1 : Int) (hx : (x0 != num) = false) (hf : findK xs place = some (place, (x0, x1))) (he : denyH ⟨life, count, xs, ys⟩ place num = (⟨life, count, mdel xs place, ys⟩, 0)) :
    Calls Try.prog 45 #[.agg #[.int .i64 life, .int .i64 count, v1, v2], .int .i64 place, .int .i64 num] w (XLeft w base v1 v2 (denyH ⟨life, count, xs, ys⟩ place num).1 [.int .i64 (denyH ⟨life, count, xs, ys⟩ place num).2]) := by
  have hO : Hid (Only w.heap.size w.heap.size w w) := Lib.hid (Only.refl _ _ _)
  obtain ⟨a1, n1, c1, rfl⟩ := own_slice h.ws
  obtain ⟨a2, n2, c2, rfl⟩ := own_slice h.hs
  have H := Lib.hid h
  have HBA := Lib.hid hbase
  have HX : Hid (∀ W, Only ((w.alloc (.cells #[.int .i64 life, .int .i64 count, .slice a1 n1 c1, .slice a2 n2 c2] 90)).alloc (.cells #[.int .i64 0, .int .i64 0, .slice none 0 0, .slice none 0 0] 90)).heap.size ((w.alloc (.cells #[.int .i64 life, .int .i64 count, .slice a1 n1 c1, .slice a2 n2 c2] 90)).alloc (.cells #[.int .i64 0, .int .i64 0, .slice none 0 0, .slice none 0 0] 90)).heap.size ((w.alloc (.cells #[.int .i64 life, .int .i64 count, .slice a1 n1 c1, .slice a2 n2 c2] 90)).alloc (.cells #[.int .i64 0, .int .i64 0, .slice none 0 0, .slice none 0 0] 90)) W → RBox W w.heap.size (.int .i64 life) (.int .i64 count) (.slice a1 n1 c1) (.slice a2 n2 c2) ∧ RBox W (w.heap.size + 1) (.int .i64 0) (.int .i64 0) (.slice none 0 0) (.slice none 0 0)) := Lib.hid (fun W o => by
    refine ⟨(RBox.of ((low_at _ _ _ (by simp)).trans (top_at _ _ _ rfl))).kept o (by simp; omega) (.inl (by simp; omega)), (RBox.of (top_at _ _ _ (by simp))).kept o (by simp) (.inl (by simp))⟩)
  have HE := Lib.hid he
  have HF := Lib.hid hf
  have HLL := Lib.hid hll
  clear h he hbase hf hll
  go_enter Try.func45, Try.ntmps45
  go_wp2_with (first
    | (go_at_call 61; refine (wanted_any _ life count place _ _ _ (H.out.ws.reads.kept ((hO.out.alloc _).alloc _))).mono ?_; unfold Found3; rw [HF.out]; dsimp only [Option.getD, Option.isSome, rec3, zrec3]; rintro e W1 ⟨rfl, ho1⟩; have o1 := Lib.hid ((((hO.out.alloc _).alloc _).then ho1 (by simp; omega)).alloc (.cells #[.int .i64 place, .int .i64 x0, .int .i64 x1] 133)); have oX := Lib.hid (ho1.alloc (.cells #[.int .i64 place, .int .i64 x0, .int .i64 x1] 133)); have HB := Lib.hid (HX.out _ oX.out); have HZ : Hid (w.heap.size + 2 ≤ W1.heap.size) := Lib.hid (by have h2 := ho1.size; simp at h2; omega); obtain ⟨⟨b0, b1, b2, b3, _⟩, ⟨r0, r1, r2, r3, rf⟩⟩ := HB.out; have rf0 := rf 0; have rf1 := rf 1; have rf2 := rf 2; have rf3 := rf 3; clear rf; clear ho1)
    | (go_at_call 60; refine (unwant_any _ life count place _ _ _ (H.out.ws.reads.kept o1.out) (by have := HLL.out; omega) ⟨_, _, _, rfl⟩).mono ?_; rintro e W2 ⟨v2', rfl, hr2, ho2⟩; have HR2 := Lib.hid hr2; obtain ⟨u1a, u1n, u1c, rfl⟩ := own_val hr2; have o2 := Lib.hid (o1.out.then ho2 o1.out.size); have HB2 := Lib.hid (HX.out _ (oX.out.then ho2 oX.out.size)); clear b0 b1 b2 b3 r0 r1 r2 r3 rf0 rf1 rf2 rf3; clear hr2 ho2; obtain ⟨_, ⟨r0, r1, r2, r3, rf⟩⟩ := HB2.out; have rf0 := rf 0; have rf1 := rf 1; have rf2 := rf 2; have rf3 := rf 3; clear rf)
    | fail)
  have hE := HB2.out.2.set (y0 := .int .i64 life) (y1 := .int .i64 count) (y2 := .slice u1a u1n u1c) (y3 := .slice a2 n2 c2)
  have hEO := rset_only W2 (w.heap.size + 1) (.int .i64 life) (.int .i64 count) (.slice u1a u1n u1c) (.slice a2 n2 c2)
  unfold World.rset at hE hEO
  obtain ⟨k0, k1, k2, k3, _⟩ := hE
  refine bodyPost_ret (v := .tuple #[.agg #[.int .i64 life, .int .i64 count, .slice u1a u1n u1c, .slice a2 n2 c2], .int .i64 0]) (by simp [results, Try.results45, go_sem, k0, k1, k2, k3]) rfl ?_
  rw [HE.out]
  have oF := (o2.out.fresh (hEO.mono (by omega) (Nat.le_refl _)))
  have hF := HR2.out.keptOnly (hEO) (by have := oX.out.size; simp at this; simp; omega)
  exact ⟨_, _, rfl, ⟨hF.mono (Nat.le_trans HBA.out o1.out.size), H.out.hs.grown oF⟩, .inr (hF.mono o1.out.size), .inl rfl, oF⟩

theorem denyX_any (w : World) (life count place num : Int) (v1 v2 : Value) (xs ys : List Rec3) (base : Nat) (hbase : base ≤ w.heap.size) (h : XIs w base xs ys v1 v2) (hll : xs.length ≤ 10000) :
    Calls Try.prog 45 #[.agg #[.int .i64 life, .int .i64 count, v1, v2], .int .i64 place, .int .i64 num] w (XLeft w base v1 v2 (denyH ⟨life, count, xs, ys⟩ place num).1 [.int .i64 (denyH ⟨life, count, xs, ys⟩ place num).2]) := by
  have hf := findK_get xs place
  cases hg : mget xs place with
  | none => rw [hg] at hf; exact denyX_none w life count place num v1 v2 xs ys base hbase h hf (by unfold denyH; simp only [hg])
  | some x =>
    obtain ⟨x0, x1⟩ := x
    rw [hg] at hf
    by_cases hx : x0 = num
    · exact denyX_ok w life count place num v1 v2 xs ys base hbase h hll x0 x1 (by simp [hx]) hf (by unfold denyH; simp only [hg]; rw [if_pos hx])
    · exact denyX_old w life count place num v1 v2 xs ys base hbase h x0 x1 (by simp [hx]) hf (by unfold denyH; simp only [hg]; rw [if_neg hx])

set_option maxRecDepth 100000 in
set_option maxHeartbeats 2000000 in
theorem letX_none (w : World) (life count place : Int) (v1 v2 : Value) (xs ys : List Rec3) (base : Nat) (hbase : base ≤ w.heap.size) (h : XIs w base xs ys v1 v2) (hf : findK ys place = none) (he : letH ⟨life, count, xs, ys⟩ place = (⟨life, count, xs, ys⟩, 0, 8)) :
    Calls Try.prog 47 #[.agg #[.int .i64 life, .int .i64 count, v1, v2], .int .i64 place] w (XLeft w base v1 v2 (letH ⟨life, count, xs, ys⟩ place).1 [.int .i64 (letH ⟨life, count, xs, ys⟩ place).2.1, .int .i64 (letH ⟨life, count, xs, ys⟩ place).2.2]) := by
  have hO : Hid (Only w.heap.size w.heap.size w w) := Lib.hid (Only.refl _ _ _)
  obtain ⟨a1, n1, c1, rfl⟩ := own_slice h.ws
  obtain ⟨a2, n2, c2, rfl⟩ := own_slice h.hs
  have H := Lib.hid h
  have HBA := Lib.hid hbase
  have HX : Hid (∀ W, Only ((w.alloc (.cells #[.int .i64 life, .int .i64 count, .slice a1 n1 c1, .slice a2 n2 c2] 90)).alloc (.cells #[.int .i64 0, .int .i64 0, .slice none 0 0, .slice none 0 0] 90)).heap.size ((w.alloc (.cells #[.int .i64 life, .int .i64 count, .slice a1 n1 c1, .slice a2 n2 c2] 90)).alloc (.cells #[.int .i64 0, .int .i64 0, .slice none 0 0, .slice none 0 0] 90)).heap.size ((w.alloc (.cells #[.int .i64 life, .int .i64 count, .slice a1 n1 c1, .slice a2 n2 c2] 90)).alloc (.cells #[.int .i64 0, .int .i64 0, .slice none 0 0, .slice none 0 0] 90)) W → RBox W w.heap.size (.int .i64 life) (.int .i64 count) (.slice a1 n1 c1) (.slice a2 n2 c2) ∧ RBox W (w.heap.size + 1) (.int .i64 0) (.int .i64 0) (.slice none 0 0) (.slice none 0 0)) := Lib.hid (fun W o => by
    refine ⟨(RBox.of ((low_at _ _ _ (by simp)).trans (top_at _ _ _ rfl))).kept o (by simp; omega) (.inl (by simp; omega)), (RBox.of (top_at _ _ _ (by simp))).kept o (by simp) (.inl (by simp))⟩)
  have HE := Lib.hid he
  have HF := Lib.hid hf
  clear h he hbase hf
  go_enter Try.func47, Try.ntmps47
  go_wp2_with (first
    | (go_at_call 62; refine (had_any _ life count place _ _ _ (H.out.hs.reads.kept ((hO.out.alloc _).alloc _))).mono ?_; unfold Found3; rw [HF.out]; dsimp only [Option.getD, Option.isSome, rec3, zrec3]; rintro e W1 ⟨rfl, ho1⟩; have o1 := Lib.hid ((((hO.out.alloc _).alloc _).then ho1 (by simp; omega)).alloc (.cells #[.int .i64 0, .int .i64 0, .int .i64 0] 137)); have oX := Lib.hid (ho1.alloc (.cells #[.int .i64 0, .int .i64 0, .int .i64 0] 137)); have HB := Lib.hid (HX.out _ oX.out); have HZ : Hid (w.heap.size + 2 ≤ W1.heap.size) := Lib.hid (by have h2 := ho1.size; simp at h2; omega); obtain ⟨⟨b0, b1, b2, b3, _⟩, ⟨r0, r1, r2, r3, rf⟩⟩ := HB.out; have rf0 := rf 0; have rf1 := rf 1; have rf2 := rf 2; have rf3 := rf 3; clear rf; clear ho1)
    | fail)
  have hE := HB.out.2.set (y0 := .int .i64 life) (y1 := .int .i64 count) (y2 := .slice a1 n1 c1) (y3 := .slice a2 n2 c2)
  have hEO := rset_only (W1.alloc (.cells #[.int .i64 0, .int .i64 0, .int .i64 0] 137)) (w.heap.size + 1) (.int .i64 life) (.int .i64 count) (.slice a1 n1 c1) (.slice a2 n2 c2)
  unfold World.rset at hE hEO
  obtain ⟨k0, k1, k2, k3, _⟩ := hE
  refine bodyPost_ret (v := .tuple #[.agg #[.int .i64 life, .int .i64 count, .slice a1 n1 c1, .slice a2 n2 c2], .int .i64 0, .int .i64 8]) (by simp [results, Try.results47, go_sem, k0, k1, k2, k3]) rfl ?_
  rw [HE.out]
  have oF := o1.out.fresh (hEO.mono (by omega) (Nat.le_refl _))
  exact ⟨_, _, rfl, H.out.grown oF, .inl rfl, .inl rfl, oF⟩

set_option maxRecDepth 100000 in
set_option maxHeartbeats 2000000 in
theorem letX_ok (w : World) (life count place : Int) (v1 v2 : Value) (xs ys : List Rec3) (base : Nat) (hbase : base ≤ w.heap.size) (h : XIs w base xs ys v1 v2) (hll : ys.length ≤ 10000) (x0 x1 : Int) (hf : findK ys place = some (place, (x0, x1))) (he : letH ⟨life, count, xs, ys⟩ place = (⟨life, count, xs, mdel ys place⟩, x0, 0)) :
    Calls Try.prog 47 #[.agg #[.int .i64 life, .int .i64 count, v1, v2], .int .i64 place] w (XLeft w base v1 v2 (letH ⟨life, count, xs, ys⟩ place).1 [.int .i64 (letH ⟨life, count, xs, ys⟩ place).2.1, .int .i64 (letH ⟨life, count, xs, ys⟩ place).2.2]) := by
  have hO : Hid (Only w.heap.size w.heap.size w w) := Lib.hid (Only.refl _ _ _)
  obtain ⟨a1, n1, c1, rfl⟩ := own_slice h.ws
  obtain ⟨a2, n2, c2, rfl⟩ := own_slice h.hs
  have H := Lib.hid h
  have HBA := Lib.hid hbase
  have HX : Hid (∀ W, Only ((w.alloc (.cells #[.int .i64 life, .int .i64 count, .slice a1 n1 c1, .slice a2 n2 c2] 90)).alloc (.cells #[.int .i64 0, .int .i64 0, .slice none 0 0, .slice none 0 0] 90)).heap.size ((w.alloc (.cells #[.int .i64 life, .int .i64 count, .slice a1 n1 c1, .slice a2 n2 c2] 90)).alloc (.cells #[.int .i64 0, .int .i64 0, .slice none 0 0, .slice none 0 0] 90)).heap.size ((w.alloc (.cells #[.int .i64 life, .int .i64 count, .slice a1 n1 c1, .slice a2 n2 c2] 90)).alloc (.cells #[.int .i64 0, .int .i64 0, .slice none 0 0, .slice none 0 0] 90)) W → RBox W w.heap.size (.int .i64 life) (.int .i64 count) (.slice a1 n1 c1) (.slice a2 n2 c2) ∧ RBox W (w.heap.size + 1) (.int .i64 0) (.int .i64 0) (.slice none 0 0) (.slice none 0 0)) := Lib.hid (fun W o => by
    refine ⟨(RBox.of ((low_at _ _ _ (by simp)).trans (top_at _ _ _ rfl))).kept o (by simp; omega) (.inl (by simp; omega)), (RBox.of (top_at _ _ _ (by simp))).kept o (by simp) (.inl (by simp))⟩)
  have HE := Lib.hid he
  have HF := Lib.hid hf
  have HLL := Lib.hid hll
  clear h he hbase hf hll
  go_enter Try.func47, Try.ntmps47
  go_wp2_with (first
    | (go_at_call 62; refine (had_any _ life count place _ _ _ (H.out.hs.reads.kept ((hO.out.alloc _).alloc _))).mono ?_; unfold Found3; rw [HF.out]; dsimp only [Option.getD, Option.isSome, rec3, zrec3]; rintro e W1 ⟨rfl, ho1⟩; have o1 := Lib.hid ((((hO.out.alloc _).alloc _).then ho1 (by simp; omega)).alloc (.cells #[.int .i64 place, .int .i64 x0, .int .i64 x1] 137)); have oX := Lib.hid (ho1.alloc (.cells #[.int .i64 place, .int .i64 x0, .int .i64 x1] 137)); have HB := Lib.hid (HX.out _ oX.out); have HZ : Hid (w.heap.size + 2 ≤ W1.heap.size) := Lib.hid (by have h2 := ho1.size; simp at h2; omega); obtain ⟨⟨b0, b1, b2, b3, _⟩, ⟨r0, r1, r2, r3, rf⟩⟩ := HB.out; have rf0 := rf 0; have rf1 := rf 1; have rf2 := rf 2; have rf3 := rf 3; clear rf; clear ho1)
    | fail)
  have HT : Hid (T3 (W1.alloc (.cells #[.int .i64 place, .int .i64 x0, .int .i64 x1] 137)) W1.heap.size place x0 x1) := Lib.hid (T3.of (top_at _ _ _ rfl))
  have HOX : Hid (Out (W1.alloc (.cells #[.int .i64 place, .int .i64 x0, .int .i64 x1] 137)) (W1.alloc (.cells #[.int .i64 place, .int .i64 x0, .int .i64 x1] 137))) := Lib.hid (Only.refl _ _ _)
  have hz1 := HZ.out
  have hne1 : ¬ (W1.heap.size = w.heap.size + 1) := by omega
  have hne2 : ¬ (w.heap.size + 1 = W1.heap.size) := by omega
  clear hz1
  have HC : Hid (∀ V, Out (W1.alloc (.cells #[.int .i64 place, .int .i64 x0, .int .i64 x1] 137)) V → Calls Try.prog 63 #[.agg #[.int .i64 life, .int .i64 count, .slice a1 n1 c1, .slice a2 n2 c2], .int .i64 place] V fun e w' => ∃ a n c, e = .returned (.agg #[.int .i64 life, .int .i64 count, .slice a1 n1 c1, .slice a n c]) ∧ OwnS layH w' (W1.alloc (.cells #[.int .i64 place, .int .i64 x0, .int .i64 x1] 137)).heap.size (.slice a n c) (mdel ys place) ∧ Out (W1.alloc (.cells #[.int .i64 place, .int .i64 x0, .int .i64 x1] 137)) w') := Lib.hid (fun V hX => by
    refine (unhave_any V life count place _ _ ys ((H.out.hs.grown o1.out).grown hX).reads (by have := HLL.out; omega) ⟨_, _, _, rfl⟩).mono ?_
    rintro e w' ⟨v, rfl, h1, h2⟩
    obtain ⟨a, n, c, rfl⟩ := own_val h1
    exact ⟨a, n, c, rfl, h1.mono hX.size, hX.then h2 hX.size⟩)
  go_region_with (first
    | (go_at_call 63; (with_reducible refine Calls.mono (HC.out _ ?_) ?_); (first | exact HOX.out | exact HOX.out.drew); rintro e W2 ⟨u1a, u1n, u1c, rfl, hr2, hX2⟩; have HR2 := Lib.hid hr2; have o2 := Lib.hid (o1.out.then hX2 o1.out.size); have HB2 := Lib.hid (HX.out _ (oX.out.then hX2 oX.out.size)); have HT2 := Lib.hid (HT.out.kept hX2 (by simp) (.inl (by simp))); clear b0 b1 b2 b3 r0 r1 r2 r3 rf0 rf1 rf2 rf3; clear hr2 hX2; obtain ⟨_, ⟨r0, r1, r2, r3, rf⟩⟩ := HB2.out; have rf0 := rf 0; have rf1 := rf 1; have rf2 := rf 2; have rf3 := rf 3; clear rf; obtain ⟨t0, t1, t2, _⟩ := HT2.out)
    | fail)
  all_goals go_wp2
  all_goals
    have hE := HB2.out.2.set (y0 := .int .i64 life) (y1 := .int .i64 count) (y2 := .slice a1 n1 c1) (y3 := .slice u1a u1n u1c)
    have hEO := rset_only W2 (w.heap.size + 1) (.int .i64 life) (.int .i64 count) (.slice a1 n1 c1) (.slice u1a u1n u1c)
    unfold World.rset at hE hEO
    obtain ⟨k0, k1, k2, k3, _⟩ := hE
    refine bodyPost_ret (v := .tuple #[.agg #[.int .i64 life, .int .i64 count, .slice a1 n1 c1, .slice u1a u1n u1c], .int .i64 x0, .int .i64 0]) (by simp [results, Try.results47, go_sem, k0, k1, k2, k3]) rfl ?_
    rw [HE.out]
    have oF := (o2.out.fresh (hEO.mono (by omega) (Nat.le_refl _)))
    have hF := HR2.out.keptOnly (hEO) (by have := oX.out.size; simp at this; simp; omega)
    exact ⟨_, _, rfl, ⟨H.out.ws.grown oF, hF.mono (Nat.le_trans HBA.out o1.out.size)⟩, .inl rfl, .inr (hF.mono o1.out.size), oF⟩

theorem letX_any (w : World) (life count place : Int) (v1 v2 : Value) (xs ys : List Rec3) (base : Nat) (hbase : base ≤ w.heap.size) (h : XIs w base xs ys v1 v2) (hll : ys.length ≤ 10000) :
    Calls Try.prog 47 #[.agg #[.int .i64 life, .int .i64 count, v1, v2], .int .i64 place] w (XLeft w base v1 v2 (letH ⟨life, count, xs, ys⟩ place).1 [.int .i64 (letH ⟨life, count, xs, ys⟩ place).2.1, .int .i64 (letH ⟨life, count, xs, ys⟩ place).2.2]) := by
  have hf := findK_get ys place
  cases hg : mget ys place with
  | none => rw [hg] at hf; exact letX_none w life count place v1 v2 xs ys base hbase h hf (by unfold letH; simp only [hg])
  | some x =>
    obtain ⟨x0, x1⟩ := x
    rw [hg] at hf
    exact letX_ok w life count place v1 v2 xs ys base hbase h hll x0 x1 hf (by unfold letH; simp only [hg])
end Go.Proofs.Ytefllgpehhlkoaa
