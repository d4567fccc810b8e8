/-
  The holder (layer 19): Ask.
-/
import Derived.Test.YtefllgpehhlkoaaHold2
namespace Go.Proofs.Ytefllgpehhlkoaa
open Go.RowKit

/-- the four cells of a state that lies at block b -/
structure Box (w : World) (b : Nat) (life count : Int) (mw mh : Option Nat) : Prop where
  c0 : w.cell? ⟨b, 0, none⟩ = some (.int .i64 life)
  c1 : w.cell? ⟨b, 1, none⟩ = some (.int .i64 count)
  c2 : w.cell? ⟨b, 2, none⟩ = some (.map mw)
  c3 : w.cell? ⟨b, 3, none⟩ = some (.map mh)
  fr : ∀ i, w.frozen? ⟨b, i, none⟩ = false
theorem Box.of {w : World} {b : Nat} {life count : Int} {mw mh : Option Nat} {t : TypeId} (h : w.heap[b]? = some (.cells #[.int .i64 life, .int .i64 count, .map mw, .map mh] t)) : Box w b life count mw mh := by
  constructor <;> first | (intro i; simp [World.frozen?, h]) | simp [World.cell?, h]

theorem Box.kept {w w' : World} {b lo hi : Nat} {life count : Int} {mw mh : Option Nat} (h : Box w b life count mw mh) (o : Only lo hi w w') (hb : b < w.heap.size) (hs : b < lo ∨ hi ≤ b) : Box w' b life count mw mh :=
  ⟨by rw [o.cell (by exact hb) (by exact hs)]; exact h.c0, by rw [o.cell (by exact hb) (by exact hs)]; exact h.c1, by rw [o.cell (by exact hb) (by exact hs)]; exact h.c2, by rw [o.cell (by exact hb) (by exact hs)]; exact h.c3, fun i => by rw [o.frozen (by exact hb) (by exact hs)]; exact h.fr i⟩
theorem Box.keys {w : World} {b : Nat} {life count : Int} {mw mh : Option Nat} (h : Box w b life count mw mh) :
    (∀ v, (w.setCell ⟨b, 0, none⟩ v).cell? ⟨b, 0, none⟩ = some v) ∧ (∀ u v, ((w.setCell ⟨b, 0, none⟩ u).setCell ⟨b, 1, none⟩ v).cell? ⟨b, 1, none⟩ = some v) ∧
    (∀ u x v, (((w.setCell ⟨b, 0, none⟩ u).setCell ⟨b, 1, none⟩ x).setCell ⟨b, 2, none⟩ v).cell? ⟨b, 2, none⟩ = some v) ∧
    (∀ u x y v, ((((w.setCell ⟨b, 0, none⟩ u).setCell ⟨b, 1, none⟩ x).setCell ⟨b, 2, none⟩ y).setCell ⟨b, 3, none⟩ v).cell? ⟨b, 3, none⟩ = some v) := by
  have far : ∀ (W : World) (i j : Nat) (v : Value), i ≠ j → (W.setCell ⟨b, i, none⟩ v).cell? ⟨b, j, none⟩ = W.cell? ⟨b, j, none⟩ := fun W i j v hij => World.cell?_setCell_other _ _ _ _ (fun e => hij (congrArg Addr.off e))
  refine ⟨fun v => World.cell?_setCell_same _ _ _ h.c0, fun u v => World.cell?_setCell_same _ _ _ (by rw [far _ _ _ _ (by decide)]; exact h.c1), fun u x v => World.cell?_setCell_same _ _ _ (by rw [far _ _ _ _ (by decide), far _ _ _ _ (by decide)]; exact h.c2), fun u x y v => World.cell?_setCell_same _ _ _ (by rw [far _ _ _ _ (by decide), far _ _ _ _ (by decide), far _ _ _ _ (by decide)]; exact h.c3)⟩

/-- a state of its own, behind a change of one of its maps: where the result goes, and the state, lie as they lay -/
theorem after_own {w W1 w2 : World} {A B O : Array Value} {tA tB tO : TypeId} {b : Nat} {l1 c1 l2 c2 : Int} {m1 m2 n1 n2 : Option Nat}
    (hB : B = #[.int .i64 l1, .int .i64 c1, .map m1, .map m2]) (hOo : O = #[.int .i64 l2, .int .i64 c2, .map n1, .map n2])
    (ho : Only ((w.alloc (.cells A tA)).alloc (.cells B tB)).heap.size ((w.alloc (.cells A tA)).alloc (.cells B tB)).heap.size ((w.alloc (.cells A tA)).alloc (.cells B tB)) W1)
    (g : Only b (b + 1) (W1.alloc (.cells O tO)) w2) (hb : ((w.alloc (.cells A tA)).alloc (.cells B tB)).heap.size ≤ b) (hlt : b < W1.heap.size) :
    Box w2 (w.heap.size + 1) l1 c1 m1 m2 ∧ Box w2 W1.heap.size l2 c2 n1 n2 ∧ Only w.heap.size w.heap.size w w2 := by
  subst hB
  subst hOo
  have hs := ho.size
  have hg := g.size
  simp at hs hb hg
  refine ⟨?_, ?_, ?_⟩
  · refine Box.kept (Box.kept (Box.kept (Box.of (at_top _ _ _ (by simp))) ho (by simp) (.inl (by simp))) ((Only.refl W1.heap.size W1.heap.size W1).alloc _) (by omega) (by omega)) g (by simp; omega) (by omega)
  · exact Box.kept (Box.of (at_top _ _ _ rfl)) g (by simp) (by omega)
  · exact ((((((Only.refl w.heap.size w.heap.size w).alloc _).alloc _).then ho (by simp; omega)).alloc _).fresh (g.mono (by omega) (Nat.le_refl _)))

/-- a holder's state -/
structure HS where
  life : Int
  count : Int
  wants : Pairs
  has : Pairs
/-- the value v is the state h -/
def HIs (w : World) (v : Value) (h : HS) : Prop := ∃ mw mh, v = hval h.life h.count mw mh ∧ MapIs pairE w mw h.wants ∧ MapIs pairE w mh h.has
theorem HIs.kept {w w' : World} {v : Value} {h : HS} (k : HIs w v h) (o : Only w.heap.size w.heap.size w w') : HIs w' v h := by
  obtain ⟨mw, mh, rfl, h1, h2⟩ := k
  exact ⟨mw, mh, rfl, h1.kept o (by omega), h2.kept o (by omega)⟩

/-- Ask: the state, the number, the error -/
def askH (h : HS) (now place : Int) : HS × Int × Int :=
  if now < 0 ∨ 1099511627776 < now ∨ h.life < 0 ∨ h.count < 0 then (h, 0, 1)
  else if 524288 ≤ h.life ∨ 1048575 ≤ h.count then (h, 0, 2)
  else (⟨h.life, h.count + 1, mput h.wants place (h.life * 1048576 + (h.count + 1), now), h.has⟩, h.life * 1048576 + (h.count + 1), 0)

/-- what Ask leaves -/
def Asked (w : World) (r : HS × Int × Int) (e : Ending) (w' : World) : Prop :=
  ∃ v, e = .returned (.tuple #[v, .int .i64 r.2.1, .int .i64 r.2.2]) ∧ HIs w' v r.1 ∧ Only w.heap.size w.heap.size w w'

set_option maxRecDepth 100000 in
set_option maxHeartbeats 1000000 in
theorem ask_arg (w : World) (h : HS) (mw mh : Option Nat) (now place : Int) (hm : Hid (HIs w (hval h.life h.count mw mh) h)) (hr : askH h now place = (h, 0, 1))
    (hc : decide (now < 0) = true ∨ decide (now < 0) = false ∧ (decide (1099511627776 < now) = true ∨ decide (1099511627776 < now) = false ∧ (decide (h.life < 0) = true ∨ decide (h.life < 0) = false ∧ decide (h.count < 0) = true))) :
    Calls Try.prog 26 #[hval h.life h.count mw mh, .int .i64 now, .int .i64 place] w (Asked w (askH h now place)) := by
  have hO : Hid (Only w.heap.size w.heap.size w w) := Lib.hid (Only.refl _ _ _)
  have HR := Lib.hid hr
  clear hr
  unfold hval
  rcases hc with hd | ⟨hd, hd2 | ⟨hd2, hd3 | ⟨hd3, hd4⟩⟩⟩ <;>
  (go_enter Try.func26, Try.ntmps26
   go_wp2
   refine bodyPost_ret (v := .tuple #[hval h.life h.count mw mh, .int .i64 0, .int .i64 1]) (by simp [results, Try.results26, go_sem, hval]) rfl ?_
   rw [HR.out]
   exact ⟨_, rfl, hm.out.kept ((hO.out.alloc _).alloc _), (hO.out.alloc _).alloc _⟩)

set_option maxRecDepth 100000 in
set_option maxHeartbeats 1000000 in
theorem ask_big (w : World) (h : HS) (mw mh : Option Nat) (now place : Int) (hm : Hid (HIs w (hval h.life h.count mw mh) h)) (hr : askH h now place = (h, 0, 2))
    (hd : decide (now < 0) = false) (hd2 : decide (1099511627776 < now) = false) (hd3 : decide (h.life < 0) = false) (hd4 : decide (h.count < 0) = false) (hc : decide (524288 ≤ h.life) = true ∨ decide (524288 ≤ h.life) = false ∧ decide (1048575 ≤ h.count) = true) :
    Calls Try.prog 26 #[hval h.life h.count mw mh, .int .i64 now, .int .i64 place] w (Asked w (askH h now place)) := by
  have hO : Hid (Only w.heap.size w.heap.size w w) := Lib.hid (Only.refl _ _ _)
  have HR := Lib.hid hr
  clear hr
  unfold hval
  rcases hc with hd5 | ⟨hd5, hd6⟩ <;>
  (go_enter Try.func26, Try.ntmps26
   go_wp2
   refine bodyPost_ret (v := .tuple #[hval h.life h.count mw mh, .int .i64 0, .int .i64 2]) (by simp [results, Try.results26, go_sem, hval]) rfl ?_
   rw [HR.out]
   exact ⟨_, rfl, hm.out.kept ((hO.out.alloc _).alloc _), (hO.out.alloc _).alloc _⟩)

set_option maxRecDepth 100000 in
set_option maxHeartbeats 1000000 in
theorem ask_ok (w : World) (life count : Int) (wants has : Pairs) (mw mh : Option Nat) (now place : Int) (h1 : Hid (MapIs pairE w mw wants)) (h2 : Hid (MapIs pairE w mh has)) (hr : Hid (askH ⟨life, count, wants, has⟩ now place = (⟨life, count + 1, mput wants place (life * 1048576 + (count + 1), now), has⟩, life * 1048576 + (count + 1), 0)))
    (hk : Hid ((Lit.int .i64 place).wf = true)) (hn : Hid (wants.length < 1000000))
    (hd : decide (now < 0) = false) (hd2 : decide (1099511627776 < now) = false) (hd3 : decide (life < 0) = false) (hd4 : decide (count < 0) = false) (hd5 : decide (524288 ≤ life) = false) (hd6 : decide (1048575 ≤ count) = false) :
    Calls Try.prog 26 #[hval life count mw mh, .int .i64 now, .int .i64 place] w (Asked w (askH ⟨life, count, wants, has⟩ now place)) := by
  have hO : Hid (Only w.heap.size w.heap.size w w) := Lib.hid (Only.refl _ _ _)
  have hr1 : 0 ≤ life ∧ life < 524288 ∧ 0 ≤ count ∧ count < 1048575 := by simp at hd3 hd4 hd5 hd6; omega
  obtain ⟨hr1, hr2, hr3, hr4⟩ := hr1
  have hv : ∀ x y, hval life count (some x) (some y) = .agg #[.int .i64 life, .int .i64 count, .map (some x), .map (some y)] := fun _ _ => rfl
  have hg : hval life count mw mh = .agg #[.int .i64 life, .int .i64 count, .map mw, .map mh] := rfl
  rw [hg]
  clear hg
  go_enter Try.func26, Try.ntmps26
  go_wp2_with (first
    | (go_at_call 53; refine (own_any _ life count mw mh wants has (h1.out.kept ((hO.out.alloc _).alloc _) (by omega)) (h2.out.kept ((hO.out.alloc _).alloc _) (by omega))).mono ?_; rintro e W1 ⟨b1, b2, rfl, g1', g2', hne', hb1', hb2', ho'⟩; rw [hv]; have g1 := Lib.hid g1'; have g2 := Lib.hid g2'; have hne := Lib.hid hne'; have hb1 := Lib.hid hb1'; have hb2 := Lib.hid hb2'; have ho := Lib.hid ho'; clear g1' g2' hne' hb1' hb2' ho')
    | (at_mapUpdate; refine wpList_put _ rfl _ _ _ 38 rfl 119 Try.underlying38 b1 wants rfl (g1.out.kept ((Only.refl W1.heap.size W1.heap.size W1).alloc _) (.inl g1.out.lt)) hn.out place hk.out rfl (life * 1048576 + (count + 1), now) rfl ?_; intro w2 m1' g'; have HX := Lib.hid (after_own rfl rfl ho.out g' hb1.out g1.out.lt); have m1 := Lib.hid m1'; have m2 := Lib.hid ((g2.out.kept ((Only.refl W1.heap.size W1.heap.size W1).alloc _) (.inl g2.out.lt)).kept g' (by have := hne.out; omega)); clear m1' g'; obtain ⟨hR', ⟨o0, o1, o2, o3, of⟩, hX'⟩ := HX.out; have hX := Lib.hid hX'; obtain ⟨k0, k1, k2, k3⟩ := hR'.keys; obtain ⟨r0, r1, r2, r3, rf⟩ := hR'; clear hX' HX)
    | fail)
  refine bodyPost_ret (v := .tuple #[hval life (count + 1) (some b1) (some b2), .int .i64 (life * 1048576 + (count + 1)), .int .i64 0]) (by simp [results, Try.results26, go_sem, hval, k0, k1, k2, k3]) rfl ?_
  have hs : Only (w.heap.size + 1) (w.heap.size + 2) w2 ((((w2.setCell ⟨w.heap.size + 1, 0, none⟩ (.int .i64 life)).setCell ⟨w.heap.size + 1, 1, none⟩ (.int .i64 (count + 1))).setCell ⟨w.heap.size + 1, 2, none⟩ (.map (some b1))).setCell ⟨w.heap.size + 1, 3, none⟩ (.map (some b2))) :=
    ((((Only.refl _ _ w2).setCell (.inr ⟨by simp, by simp⟩) _).setCell (.inr ⟨by simp, by simp⟩) _).setCell (.inr ⟨by simp, by simp⟩) _).setCell (.inr ⟨by simp, by simp⟩) _
  have e1 := hb1.out
  have e2 := hb2.out
  simp at e1 e2
  rw [hr.out]
  exact ⟨_, rfl, ⟨some b1, some b2, rfl, m1.out.kept hs (by omega), m2.out.kept hs (by omega)⟩, hX.out.fresh (hs.mono (by omega) (Nat.le_refl _))⟩
end Go.Proofs.Ytefllgpehhlkoaa
