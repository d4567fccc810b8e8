/-
  LeasePlays: what its loops keep.
-/
import Derived.Test.YtefllgpehhlkoaaRefAlike
namespace Go.Proofs.Ytefllgpehhlkoaa
open Go.RowKit Go.Maps
set_option linter.unusedVariables false

theorem Own.stays {w w' : World} {base : Nat} {v : Value} {l : List Int} (h : Own w base v l) (hk : ∀ g, v.ownBlock = some g → w'.heap[g]? = w.heap[g]?) : Own w' base v l := by
  obtain ⟨h1, h2 | ⟨g, cap, cur, hv, hg, hh, r⟩⟩ := h
  · exact ⟨h1, .inl h2⟩
  · exact ⟨h1, .inr ⟨g, cap, cur, hv, hg, by rw [hk g (by rw [hv]; rfl)]; exact hh, r⟩⟩
theorem Own.keptO {w w' : World} {base lo hi : Nat} {v : Value} {l : List Int} (h : Own w base v l) (o : Only lo hi w w') (hb : hi ≤ base) : Own w' base v l :=
  h.stays fun g hg => o.block g (World.ownsRow.lt h g hg).2 (by have := (World.ownsRow.lt h g hg).1; omega)
theorem Own.grownO {w w' : World} {base : Nat} {v : Value} {l : List Int} (h : Own w base v l) (o : Only w.heap.size w.heap.size w w') : Own w' base v l :=
  h.stays fun g hg => o.block g (World.ownsRow.lt h g hg).2 (by have := (World.ownsRow.lt h g hg).2; omega)
theorem OwnS.stays {α : Type} {L : Lay α} {w w' : World} {base : Nat} {v : Value} {l : List α} (h : OwnS L w base v l) (hk : ∀ g, v.ownBlock = some g → w'.heap[g]? = w.heap[g]?) : OwnS L w' base v l := by
  obtain ⟨h1, h2 | ⟨g, cap, cur, hv, hg, hh, r⟩⟩ := h
  · exact ⟨h1, .inl h2⟩
  · exact ⟨h1, .inr ⟨g, cap, cur, hv, hg, by rw [hk g (by rw [hv]; rfl)]; exact hh, r⟩⟩
/-- rows of unlike kinds lie in unlike blocks -/
theorem Own.ne {w : World} {b1 b2 : Nat} {u v : Value} {ls : List Int} {es : Trips} (h : Own w b1 u ls) (k : OwnS hold4 w b2 v es) (g : Nat) (hu : u.ownBlock = some g) (hv : v.ownBlock = some g) : False := by
  obtain ⟨_, h2 | ⟨g1, _, cur1, e1, _, hh1, _⟩⟩ := h
  · rw [h2.1] at hu; cases hu
  · obtain ⟨_, k2 | ⟨g2, _, cur2, e2, _, hh2, _⟩⟩ := k
    · rw [k2.1] at hv; cases hv
    · rw [e1] at hu
      rw [e2] at hv
      cases hu
      cases hv
      rw [hh1] at hh2
      injection hh2 with hh2
      injection hh2 with _ ht
      exact absurd ht (by decide)
theorem Own.neMap {α : Type} {E : Elem α} {w : World} {b1 m : Nat} {u : Value} {ls : List Int} {es : List (Int × α)} (h : Own w b1 u ls) (k : MapAt E w m es) (hu : u.ownBlock = some m) : False := by
  obtain ⟨_, h2 | ⟨g1, _, cur1, e1, _, hh1, _⟩⟩ := h
  · rw [h2.1] at hu; cases hu
  · obtain ⟨arr, clock, hm, _⟩ := k.reads
    rw [e1] at hu
    cases hu
    rw [hh1] at hm
    cases hm
theorem OwnS.neMap {α : Type} {E : Elem α} {w : World} {b1 m : Nat} {v : Value} {xs : Trips} {es : List (Int × α)} (h : OwnS hold4 w b1 v xs) (k : MapAt E w m es) (hv : v.ownBlock = some m) : False := by
  obtain ⟨_, h2 | ⟨g1, _, cur1, e1, _, hh1, _⟩⟩ := h
  · rw [h2.1] at hv; cases hv
  · obtain ⟨arr, clock, hm, _⟩ := k.reads
    rw [e1] at hv
    cases hv
    rw [hh1] at hm
    cases hm

theorem Own.again {w : World} {base : Nat} {a : Option Addr} {cap : Nat} {l : List Int} (h : Own w base (.slice a l.length cap) l) : Sl w w.heap.size a cap l := by
  obtain ⟨a', c', hv, hs⟩ := h.row
  cases hv
  exact hs
/-- what the loop keeps: the state twice, the places; B: the block of s, B + 1: of x -/
structure Lp (w W : World) (B : Nat) (S : LS) (m : Option Nat) (v : Value) (ls : List Int) (u : Value) : Prop where
  s : LVar W B S m
  x : XBox W (B + 1) S.epoch S.quiet v
  o : OwnS hold4 W w.heap.size v S.hs
  p : Own W (B + 2) u ls
  only : Only w.heap.size w.heap.size w W
  lo : w.heap.size ≤ B
  size : B + 2 ≤ W.heap.size
  vB : ∀ g, v.ownBlock = some g → g ≠ B ∧ g ≠ B + 1
structure Lk (k : Nat) (S : LS) (ls : List Int) : Prop where
  wf : ∀ i, i < ls.length → (Lit.int .i64 (nth ls i)).wf = true
  up : Rising S.hs
  len : S.hs.length ≤ k
  pls : ls.length ≤ k
  e0 : -9223372036854775808 ≤ S.epoch

section
variable {w W W' : World} {B : Nat} {S S' : LS} {m m' : Option Nat} {v v' : Value} {ls : List Int} {u : Value}
theorem Lp.kept (k : Lp w W B S m v ls u) (o : Only W.heap.size W.heap.size W W') : Lp w W' B S m v ls u :=
  have hz := k.size
  ⟨k.s.kept o, k.x.kept o (by omega) (.inl (by omega)), k.o.grown o, k.p.grownO o, k.only.then o (by have := k.only.size; omega), k.lo, Nat.le_trans hz o.size, k.vB⟩
theorem MapIs.keptB {α : Type} {E : Elem α} {m : Option Nat} {es : List (Int × α)} (h : MapIs E W m es) (hk : ∀ b, m = some b → W'.heap[b]? = W.heap[b]?) : MapIs E W' m es := by
  cases m with
  | none => exact h
  | some b =>
    have h' : MapAt E W b es := h
    obtain ⟨arr, clock, hb, r⟩ := h'.reads
    exact r W' b (by rw [hk b rfl]; exact hb)
/-- behind an append to the places -/
theorem Lp.app (k : Lp w W B S m v ls u) {ys : List Int} {u' : Value} (h1 : Own W' (B + 2) u' ys) (g : W.grownBy W' u.ownBlock) : Lp w W' B S m v ys u' := by
  have hz := k.size
  have hs := g.size
  have hb := World.ownsRow.lt k.p
  have hlow : ∀ b, b < B + 2 → W'.heap[b]? = W.heap[b]? := fun b hb2 => g.block b (by omega) (fun e => by have := (hb b e.symm).1; omega)
  have hc : ∀ (p : Addr), p.block < B + 2 → W'.cell? p = W.cell? p := fun p hp => World.cell?_of_block (w := W) (hlow p.block hp)
  have hf : ∀ (p : Addr), p.block < B + 2 → W'.frozen? p = W.frozen? p := fun p hp => World.frozen?_of_block (w := W) (hlow p.block hp)
  have hlt := k.s.lt
  refine ⟨⟨⟨?_, ?_, ?_, fun i => ?_⟩, ?_, by omega⟩, ⟨?_, ?_, ?_, fun i => ?_⟩, ?_, h1, ?_, k.lo, by omega, k.vB⟩
  · rw [hc _ (by simp)]; exact k.s.box.c0
  · rw [hc _ (by simp)]; exact k.s.box.c1
  · rw [hc _ (by simp)]; exact k.s.box.c2
  · rw [hf _ (by simp)]; exact k.s.box.fr i
  · refine k.s.hs.keptB fun b e => ?_
    subst e
    have h' : MapAt tripE W b S.hs := k.s.hs
    exact g.block b h'.lt (fun e => k.p.neMap h' e.symm)
  · rw [hc _ (by simp)]; exact k.x.c0
  · rw [hc _ (by simp)]; exact k.x.c1
  · rw [hc _ (by simp)]; exact k.x.c2
  · rw [hf _ (by simp)]; exact k.x.fr i
  · exact k.o.stays fun b e => g.block b (World.ownsRow.lt k.o b e).2 (fun e2 => k.p.ne k.o b e2.symm e)
  · refine ⟨g.os.trans k.only.os, g.tape.trans k.only.tape, g.output.trans k.only.output, Nat.le_trans k.only.size hs, fun b h2 _ => ?_⟩
    rw [hlow b (by have := k.lo; omega)]
    exact k.only.block b h2 (.inl h2)
/-- a new state is stored, in both -/
theorem Lp.set (k : Lp w W B S m v ls u) (hm : MapIs tripE W m' S'.hs) (hv : OwnS hold4 W w.heap.size v' S'.hs) (hvB : ∀ g, v'.ownBlock = some g → g ≠ B ∧ g ≠ B + 1) :
    Lp w (World.xthree (World.three W B S'.epoch S'.quiet m') (B + 1) S'.epoch S'.quiet v') B S' m' v' ls u := by
  have hz := k.size
  have o1 := three_only W B S'.epoch S'.quiet m'
  have V1 := k.s.set hm
  have x1 := k.x.kept o1 (by omega) (.inr (Nat.le_refl _))
  have p1 := k.p.keptO o1 (by omega)
  have v1 : OwnS hold4 (World.three W B S'.epoch S'.quiet m') w.heap.size v' S'.hs := hv.stays fun b e => o1.block b (World.ownsRow.lt hv b e).2 (by have := (hvB b e).1; omega)
  have s1 := o1.size
  have hmB : ∀ b, m' = some b → b ≠ B + 1 := fun b e e2 => by
    subst e
    subst e2
    have h' : MapAt tripE W (B + 1) S'.hs := hm
    have := h'.no_cell3 (i := 0)
    rw [k.x.c0] at this
    cases this
  generalize World.three W B S'.epoch S'.quiet m' = V at *
  have o2 := xthree_only V (B + 1) S'.epoch S'.quiet v'
  have x2 := x1.three (e' := S'.epoch) (q' := S'.quiet) (v' := v')
  have s2 := o2.size
  refine ⟨⟨V1.box.kept o2 V1.lt (.inl (Nat.lt_succ_self _)), V1.hs.kept o2 (fun b e => by have := hmB b e; omega), Nat.lt_of_lt_of_le V1.lt s2⟩, x2, v1.stays fun b e => o2.block b (World.ownsRow.lt v1 b e).2 (by have := (hvB b e).2; omega), p1.keptO o2 (Nat.le_refl _), ?_, k.lo, by omega, hvB⟩
  have hlo := k.lo
  have o3 : Only w.heap.size w.heap.size w V := k.only.fresh (o1.mono hlo (Nat.le_refl _))
  exact o3.fresh (o2.mono (by omega) (Nat.le_refl _))
/-- the same, with a call between the two -/
theorem Lp.set2 {X : World} (k : Lp w W B S m v ls u) (hm : MapIs tripE W m' S'.hs) (o : Only (World.three W B S'.epoch S'.quiet m').heap.size (World.three W B S'.epoch S'.quiet m').heap.size (World.three W B S'.epoch S'.quiet m') X) (hv : OwnS hold4 X w.heap.size v' S'.hs) (hvB : ∀ g, v'.ownBlock = some g → g ≠ B ∧ g ≠ B + 1) :
    Lp w (World.xthree X (B + 1) S'.epoch S'.quiet v') B S' m' v' ls u := by
  have hz := k.size
  have hlo := k.lo
  have o1 := three_only W B S'.epoch S'.quiet m'
  have V1 := (k.s.set hm).kept o
  have s1 := o1.size
  have x1 := (k.x.kept o1 (by omega) (.inr (Nat.le_refl _))).kept o (by omega) (.inl (by omega))
  have p1 := (k.p.keptO o1 (by omega)).grownO o
  have hmB : ∀ b, m' = some b → b ≠ B + 1 := fun b e e2 => by
    subst e
    subst e2
    have h' : MapAt tripE W (B + 1) S'.hs := hm
    have := h'.no_cell3 (i := 0)
    rw [k.x.c0] at this
    cases this
  have o3 : Only w.heap.size w.heap.size w (World.three W B S'.epoch S'.quiet m') := k.only.fresh (o1.mono hlo (Nat.le_refl _))
  have o4 := o3.then o o3.size
  have s2 := o.size
  generalize World.three W B S'.epoch S'.quiet m' = V at *
  have o2 := xthree_only X (B + 1) S'.epoch S'.quiet v'
  have x2 := x1.three (e' := S'.epoch) (q' := S'.quiet) (v' := v')
  have s3 := o2.size
  exact ⟨⟨V1.box.kept o2 V1.lt (.inl (Nat.lt_succ_self _)), V1.hs.kept o2 (fun b e => by have := hmB b e; omega), Nat.lt_of_lt_of_le V1.lt s3⟩, x2, hv.stays fun b e => o2.block b (World.ownsRow.lt hv b e).2 (by have := (hvB b e).2; omega), p1.keptO o2 (Nat.le_refl _), o4.fresh (o2.mono (by omega) (Nat.le_refl _)), k.lo, by omega, hvB⟩
theorem Lp.xrest {X : World} {e q : Int} (k : Lp w W B S m v ls u) (o : Only (World.three W B e q m').heap.size (World.three W B e q m').heap.size (World.three W B e q m') X) : XBox X (B + 1) S.epoch S.quiet v := by
  have hz := k.size
  have o1 := three_only W B e q m'
  have s1 := o1.size
  exact (k.x.kept o1 (by omega) (.inr (Nat.le_refl _))).kept o (by omega) (.inl (by omega))
theorem Lp.srest {X : World} {e q : Int} (k : Lp w W B S m v ls u) (o : Only (World.three W B e q m').heap.size (World.three W B e q m').heap.size (World.three W B e q m') X) : LBox X B e q m' := by
  have hz := k.size
  have o1 := three_only W B e q m'
  have s1 := o1.size
  exact (k.s.box.three).kept o (by omega) (.inl (by omega))
theorem Lp.drew (k : Lp w W B S m v ls u) : Lp w W.drew B S m v ls u := k.kept (Only.refl _ _ W).drew
end

theorem mins_wf {x : Int × Int × Int × Int} : ∀ {es : Trips}, Rising es → True := fun _ => trivial
/-- what a call leaves is still a state -/
theorem Lk.grant {k : Nat} {S : LS} {ls : List Int} (h : Lk k S ls) (now term place holder : Int) : Lk (k + 1) (grantL S now term place holder).1 ls := by
  rcases grantL_cases S now term place holder h.up with ⟨c, _, e⟩ | ⟨e, _, _, _, _⟩
  · rw [e]; exact ⟨h.wf, h.up, Nat.le_succ_of_le h.len, Nat.le_succ_of_le h.pls, h.e0⟩
  · rw [e]
    refine ⟨h.wf, mput_rising (lasting_rising h.up now) _ _, ?_, Nat.le_succ_of_le h.pls, by have := h.e0; show _ ≤ S.epoch + 1; omega⟩
    have h1 := mput_len (lasting S.hs now) place (holder, S.epoch + 1, now + term)
    have h2 := lasting_len S.hs now
    have h3 := h.len
    show (mput (lasting S.hs now) place (holder, S.epoch + 1, now + term)).length ≤ k + 1
    omega
theorem Lk.letting {k : Nat} {S : LS} {ls : List Int} (h : Lk k S ls) (now place holder epoch : Int) : Lk (k + 1) (letL S now place holder epoch).1 ls := by
  rcases letL_cases S now place holder epoch with ⟨c, _, e⟩ | ⟨e, _⟩
  · rw [e]; exact ⟨h.wf, h.up, Nat.le_succ_of_le h.len, Nat.le_succ_of_le h.pls, h.e0⟩
  · rw [e]
    refine ⟨h.wf, List.Pairwise.filter _ (lasting_rising h.up now), ?_, Nat.le_succ_of_le h.pls, h.e0⟩
    have h1 := mdel_len (lasting S.hs now) place
    have h2 := lasting_len S.hs now
    have h3 := h.len
    show (mdel (lasting S.hs now) place).length ≤ k + 1
    omega
theorem Lk.restart {k : Nat} {S : LS} {ls : List Int} (h : Lk k S ls) (q : Int) : Lk (k + 1) ⟨S.epoch, q, []⟩ ls :=
  ⟨h.wf, List.Pairwise.nil, Nat.zero_le _, Nat.le_succ_of_le h.pls, h.e0⟩
theorem Lk.mono {k k' : Nat} {S : LS} {ls : List Int} (h : Lk k S ls) (hk : k ≤ k') : Lk k' S ls := ⟨h.wf, h.up, Nat.le_trans h.len hk, Nat.le_trans h.pls hk, h.e0⟩
theorem Lk.same {k : Nat} {S : LS} {ls : List Int} (h : Lk k S ls) : Lk (k + 1) S ls := ⟨h.wf, h.up, Nat.le_succ_of_le h.len, Nat.le_succ_of_le h.pls, h.e0⟩
theorem nth_app_lt {l : List Int} {y : Int} {i : Nat} (h : i < l.length) : nth (l ++ [y]) i = nth l i := by simp [nth, List.getD_eq_getElem?_getD, List.getElem?_append_left h]
theorem nth_app_end {l : List Int} {y : Int} : nth (l ++ [y]) l.length = y := by simp [nth]
theorem Lk.app {k : Nat} {S : LS} {ls : List Int} (h : Lk k S ls) {y : Int} (hy : (Lit.int .i64 y).wf = true) : Lk (k + 1) S (ls ++ [y]) := by
  refine ⟨fun i hi => ?_, h.up, Nat.le_succ_of_le h.len, by have := h.pls; simp; omega, h.e0⟩
  by_cases hl : i < ls.length
  · rw [nth_app_lt hl]; exact h.wf i hl
  · obtain rfl : i = ls.length := by simp at hi; omega
    rw [nth_app_end]; exact hy

theorem sl_new (w : World) (x : Int) : Sl (w.alloc (.cells #[.int .i64 x] 3)) (w.heap.size + 1) (some ⟨w.heap.size, 0, none⟩) 1 [x] :=
  ⟨by simp, fun h => by simp at h, .inr ⟨w.heap.size, 0, rfl, by omega, fun i hi => by
    obtain rfl : i = 0 := by simp at hi; omega
    simp [nth]⟩⟩
theorem sl_newk (w : World) (x : Int) (k : Nat) (hk : k = w.heap.size) : Sl (w.alloc (.cells #[.int .i64 x] 3)) (w.heap.size + 1) (some ⟨k, 0, none⟩) 1 [x] := by subst hk; exact sl_new w x
theorem Own.val {w : World} {base : Nat} {v : Value} {l : List Int} (h : Own w base v l) : ∃ a c, v = .slice a l.length c ∧ Sl w w.heap.size a c l := h.row

/-- behind begin -/
theorem lp_start {w W1 : World} {epoch quiet : Int} {m : Nat} {es : Trips} {v : Value} (hm : MapAt tripE W1 m es) (ho : OwnS hold4 W1 w.heap.size v es) (hO : Only w.heap.size w.heap.size w W1) :
    Lp w (((W1.alloc (.cells #[.int .i64 epoch, .int .i64 quiet, .map (some m)] 57)).alloc (.cells #[.int .i64 epoch, .int .i64 quiet, v] 59)).alloc (.cells #[] 3)) W1.heap.size ⟨epoch, quiet, es⟩ (some m) v [] (.slice (some ⟨W1.heap.size + 1 + 1, 0, none⟩) 0 0) := by
  have V1 : LVar (W1.alloc (.cells #[.int .i64 epoch, .int .i64 quiet, .map (some m)] 57)) W1.heap.size ⟨epoch, quiet, es⟩ (some m) := LVar.new (h := ⟨epoch, quiet, es⟩) hm
  have o1 : Only (W1.alloc (.cells #[.int .i64 epoch, .int .i64 quiet, .map (some m)] 57)).heap.size (W1.alloc (.cells #[.int .i64 epoch, .int .i64 quiet, .map (some m)] 57)).heap.size (W1.alloc (.cells #[.int .i64 epoch, .int .i64 quiet, .map (some m)] 57)) (((W1.alloc (.cells #[.int .i64 epoch, .int .i64 quiet, .map (some m)] 57)).alloc (.cells #[.int .i64 epoch, .int .i64 quiet, v] 59)).alloc (.cells #[] 3)) := ((Only.refl _ _ _).alloc _).alloc _
  have hv := World.ownsRow.lt ho
  refine ⟨V1.kept o1, XBox.of ((low_at _ _ _ (by simp)).trans (top_at _ _ _ (by simp))), ho.grown ((((Only.refl _ _ W1).alloc _).alloc _).alloc _), ?_, ((hO.alloc _).alloc _).alloc _, hO.size, by simp, fun g hg => by have := (hv g hg).2; omega⟩
  have := Own.empty ((W1.alloc (.cells #[.int .i64 epoch, .int .i64 quiet, .map (some m)] 57)).alloc (.cells #[.int .i64 epoch, .int .i64 quiet, v] 59)) (W1.heap.size + 2) (by simp)
  simpa using this
/-- the places of what is had, so far -/
def firstsOf (es : Trips) (j : Nat) : List Int := (es.take j).map (·.1)
theorem firstsOf_succ {es : Trips} {j : Nat} (h : j < es.length) : firstsOf es (j + 1) = firstsOf es j ++ [es[j].1] := by
  unfold firstsOf; rw [List.take_succ_eq_append_getElem h, List.map_append]; rfl
theorem firstsOf_len {es : Trips} {j : Nat} (h : j ≤ es.length) : (firstsOf es j).length = j := by simp [firstsOf]; omega
def PlRel1 (w : World) (B : Nat) (S : LS) (m : Option Nat) (v : Value) (uv jv : Value) (W : World) : Prop :=
  ∃ j : Nat, jv = .int .i64 j ∧ j ≤ S.hs.length ∧ Lp w W B S m v (firstsOf S.hs j) uv
def PlRel2 (w : World) (B len : Nat) (uv iv : Value) (W : World) : Prop :=
  ∃ (i : Nat) (S : LS) (m : Option Nat) (v : Value) (ls : List Int), iv = .int .i64 i ∧ i ≤ 30 ∧ i ≤ len ∧ Lp w W B S m v ls uv ∧ Lk (20 + 3 * i) S ls
theorem lk_start {epoch quiet : Int} {es : Trips} (h0 : -9223372036854775808 ≤ epoch) (hl : es.length ≤ 10) (hu : Rising es) (hk : ∀ p ∈ es, (Lit.int .i64 p.1).wf = true) : Lk 20 ⟨epoch, quiet, es⟩ (firstsOf es es.length) := by
  refine ⟨fun i hi => ?_, hu, by show es.length ≤ 20; omega, by rw [firstsOf_len (Nat.le_refl _)]; omega, h0⟩
  rw [firstsOf_len (Nat.le_refl _)] at hi
  unfold firstsOf
  rw [List.take_length]
  have : nth (es.map (·.1)) i = es[i].1 := by simp [nth, hi]
  rw [this]
  exact hk _ (List.getElem_mem hi)
end Go.Proofs.Ytefllgpehhlkoaa
