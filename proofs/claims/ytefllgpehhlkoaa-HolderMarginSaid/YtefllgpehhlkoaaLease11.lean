/-
  The lease (layer 18): begin, its walk.
-/
import Derived.Test.YtefllgpehhlkoaaLease10
namespace Go.Proofs.Ytefllgpehhlkoaa
open Go.RowKit Go.Maps

/-- what begin leaves -/
def Begun (w : World) (epoch quiet : Int) (e : Ending) (w' : World) : Prop :=
  ∃ m es v, e = .returned (.tuple #[lval epoch quiet (some m), xval epoch quiet v]) ∧ MapAt tripE w' m es ∧ OwnS hold4 w' w.heap.size v es ∧ es.length ≤ 10 ∧ (∀ p ∈ es, (Lit.int .i64 p.1).wf = true) ∧ Rising es ∧ w.heap.size ≤ m ∧ Only w.heap.size w.heap.size w w'

/-- what the outer loop keeps -/
structure Bg (w W : World) (epoch quiet : Int) (i : Nat) (es xs : Trips) (v : Value) : Prop where
  map : MapAt tripE W (w.heap.size + 2) es
  box : LBox W (w.heap.size + 3) epoch quiet (some (w.heap.size + 2))
  xbox : XBox W (w.heap.size + 4) epoch quiet v
  own : OwnS hold4 W (w.heap.size + 5) v xs
  r0 : LBox W w.heap.size 0 0 none
  r1 : XBox W (w.heap.size + 1) 0 0 (.slice none 0 0)
  only : Only w.heap.size w.heap.size w W
  size : w.heap.size + 5 ≤ W.heap.size
  len : es.length ≤ i
  wf : ∀ p ∈ es, (Lit.int .i64 p.1).wf = true
  up : Rising es
def BgRel (w : World) (epoch quiet : Int) (len : Nat) (iv : Value) (W : World) : Prop :=
  ∃ (i : Nat) (es : Trips) (v : Value), iv = .int .i64 i ∧ i ≤ 10 ∧ i ≤ len ∧ Bg w W epoch quiet i es es v

theorem bg_start (w : World) (epoch quiet : Int) : Bg w (((((w.alloc (.cells #[.int .i64 0, .int .i64 0, .map none] 57)).alloc (.cells #[.int .i64 0, .int .i64 0, .slice none 0 0] 59)).alloc (.map #[] 0)).alloc (.cells #[.int .i64 epoch, .int .i64 quiet, .map (some (w.heap.size + 1 + 1))] 57)).alloc (.cells #[.int .i64 epoch, .int .i64 quiet, .slice none 0 0] 59)) epoch quiet 0 [] [] (.slice none 0 0) where
  map := by
    have := (MapAt.made (E := tripE) ((w.alloc (.cells #[.int .i64 0, .int .i64 0, .map none] 57)).alloc (.cells #[.int .i64 0, .int .i64 0, .slice none 0 0] 59))).kept (((Only.refl 0 0 _).alloc (.cells #[.int .i64 epoch, .int .i64 quiet, .map (some (w.heap.size + 1 + 1))] 57)).alloc (.cells #[.int .i64 epoch, .int .i64 quiet, .slice none 0 0] 59)) (.inr (Nat.zero_le _))
    simpa using this
  box := LBox.of ((low_at _ _ _ (by simp)).trans (top_at _ _ _ (by simp)))
  xbox := XBox.of (top_at _ _ _ (by simp))
  own := OwnS.nil _ _ _
  r0 := LBox.of ((low_at _ _ _ (by first | (simp; done) | (simp; omega))).trans ((low_at _ _ _ (by first | (simp; done) | (simp; omega))).trans ((low_at _ _ _ (by first | (simp; done) | (simp; omega))).trans ((low_at _ _ _ (by simp)).trans (top_at _ _ _ (by simp))))))
  r1 := XBox.of ((low_at _ _ _ (by first | (simp; done) | (simp; omega))).trans ((low_at _ _ _ (by first | (simp; done) | (simp; omega))).trans ((low_at _ _ _ (by simp)).trans (top_at _ _ _ (by simp)))))
  only := (((((Only.refl _ _ w).alloc _).alloc _).alloc _).alloc _).alloc _
  size := by simp
  len := Nat.le_refl _
  wf := fun p hp => by cases hp
  up := List.Pairwise.nil

/-- a block of a round's own: a holding -/
def HBox (w : World) (b : Nat) (z0 z1 z2 z3 : Int) : Prop :=
  w.cell? ⟨b, 0, none⟩ = some (.int .i64 z0) ∧ w.cell? ⟨b, 1, none⟩ = some (.int .i64 z1) ∧ w.cell? ⟨b, 2, none⟩ = some (.int .i64 z2) ∧ w.cell? ⟨b, 3, none⟩ = some (.int .i64 z3)
theorem HBox.of {w : World} {b : Nat} {z0 z1 z2 z3 : Int} {t : TypeId} (h : w.heap[b]? = some (.cells #[.int .i64 z0, .int .i64 z1, .int .i64 z2, .int .i64 z3] t)) : HBox w b z0 z1 z2 z3 := by
  refine ⟨?_, ?_, ?_, ?_⟩ <;> simp [World.cell?, h]
theorem HBox.kept {w w' : World} {b lo hi : Nat} {z0 z1 z2 z3 : Int} (h : HBox w b z0 z1 z2 z3) (o : Only lo hi w w') (hb : b < w.heap.size) (hs : b < lo ∨ hi ≤ b) : HBox w' b z0 z1 z2 z3 :=
  ⟨by rw [o.cell (by exact hb) (by exact hs)]; exact h.1, by rw [o.cell (by exact hb) (by exact hs)]; exact h.2.1, by rw [o.cell (by exact hb) (by exact hs)]; exact h.2.2.1, by rw [o.cell (by exact hb) (by exact hs)]; exact h.2.2.2⟩
theorem Bg.kept {w W W' : World} {epoch quiet : Int} {i : Nat} {es xs : Trips} {v : Value} (h : Bg w W epoch quiet i es xs v) (o : Only W.heap.size W.heap.size W W') : Bg w W' epoch quiet i es xs v where
  map := h.map.kept o (.inl h.map.lt)
  box := h.box.kept o (by have := h.size; omega) (.inl (by have := h.size; omega))
  xbox := h.xbox.kept o (by have := h.size; omega) (.inl (by have := h.size; omega))
  own := h.own.grown o
  r0 := h.r0.kept o (by have := h.size; omega) (.inl (by have := h.size; omega))
  r1 := h.r1.kept o (by have := h.size; omega) (.inl (by have := h.size; omega))
  only := h.only.then o h.only.size
  size := Nat.le_trans h.size o.size
  len := h.len
  wf := h.wf
  up := h.up
theorem Bg.next {w W : World} {epoch quiet : Int} {i : Nat} {es xs : Trips} {v : Value} (h : Bg w W epoch quiet i es xs v) : Bg w W epoch quiet (i + 1) es xs v :=
  { h with len := Nat.le_succ_of_le h.len }
/-- behind the map's store -/
theorem bg_put {w wr w2 : World} {epoch quiet z0 z1 z2 z3 : Int} {i : Nat} {es : Trips} {v : Value} (hb : Bg w wr epoch quiet i es es v) (hk : (Lit.int .i64 z0).wf = true)
    (hm : MapAt tripE w2 (w.heap.size + 2) (mput es z0 (z1, z2, z3)))
    (g : Only (w.heap.size + 2) (w.heap.size + 2 + 1) (wr.alloc (.cells #[.int .i64 z0, .int .i64 z1, .int .i64 z2, .int .i64 z3] 71)) w2) :
    Bg w w2 epoch quiet (i + 1) (mput es z0 (z1, z2, z3)) es v ∧ HBox w2 wr.heap.size z0 z1 z2 z3 ∧ wr.heap.size < w2.heap.size := by
  have hs := g.size
  have hz := hb.size
  simp at hs
  have hb' := hb.kept ((Only.refl wr.heap.size wr.heap.size wr).alloc (.cells #[.int .i64 z0, .int .i64 z1, .int .i64 z2, .int .i64 z3] 71))
  have hz' := hb'.size
  refine ⟨⟨hm, hb'.box.kept g (by omega) (by omega), hb'.xbox.kept g (by omega) (by omega), hb'.own.keptOnly g (by omega), hb'.r0.kept g (by omega) (by omega), hb'.r1.kept g (by omega) (by omega), hb'.only.fresh (g.mono (by omega) (Nat.le_refl _)), by omega, ?_, ?_, mput_rising hb.up _ _⟩, HBox.kept (HBox.of (top_at _ _ _ rfl)) g (by simp) (by omega), by omega⟩
  · have h1 := mput_len es z0 (z1, z2, z3)
    have h2 := hb.len
    omega
  · intro p hp
    rcases mem_mput hp with rfl | hp
    · exact hk
    · exact hb.wf p hp
/-- behind the list's store -/
theorem bg_list {w W : World} {epoch quiet : Int} {i : Nat} {es xs ys : Trips} {v u : Value} {M : Nat} (h : Bg w W epoch quiet i es xs v) (hu : OwnS hold4 W M u ys) (hM : w.heap.size + 5 ≤ M) :
    Bg w (W.setCell ⟨w.heap.size + 4, 2, none⟩ u) epoch quiet i es ys u := by
  have o : Only (w.heap.size + 4) (w.heap.size + 4 + 1) W (W.setCell ⟨w.heap.size + 4, 2, none⟩ u) := (Only.refl _ _ W).setCell (p := ⟨w.heap.size + 4, 2, none⟩) (.inr ⟨Nat.le_refl _, Nat.lt_succ_self _⟩) u
  have hz := h.size
  exact ⟨h.map.kept o (by omega), h.box.kept o (by omega) (by omega), h.xbox.list u, (hu.keptOnly o (by omega)).mono hM, h.r0.kept o (by omega) (by omega), h.r1.kept o (by omega) (by omega), h.only.fresh (o.mono (by omega) (Nat.le_refl _)), Nat.le_trans hz o.size, h.len, h.wf, h.up⟩

theorem own_val {α : Type} {L : Lay α} {W : World} {base : Nat} {v : Value} {l : List α} (h : OwnS L W base v l) : ∃ a n cap, v = .slice a n cap := by
  obtain ⟨a, cap, e, _⟩ := h.fits
  exact ⟨a, _, cap, e⟩
theorem own_eq {α : Type} {L : Lay α} {W : World} {base : Nat} {v : Value} {l l' : List α} (h : OwnS L W base v l) (e : l = l') : OwnS L W base v l' := e ▸ h

theorem LBox.three {w : World} {b : Nat} {l c l' c' : Int} {m m' : Option Nat} (k : LBox w b l c m) : LBox (World.three w b l' c' m') b l' c' m' := by
  have far : ∀ (W : World) (i j : Nat) (v : Value), i ≠ j → (W.setCell ⟨b, i, none⟩ v).cell? ⟨b, j, none⟩ = W.cell? ⟨b, j, none⟩ := fun W i j v hij => World.cell?_setCell_other _ _ _ _ (fun e => hij (congrArg Addr.off e))
  obtain ⟨k0, k1, k2⟩ := k.keys
  unfold World.three
  refine ⟨?_, ?_, k2 _ _ _, fun i => ?_⟩
  · rw [far _ _ _ _ (by decide), far _ _ _ _ (by decide)]; exact k0 _
  · rw [far _ _ _ _ (by decide)]; exact k1 _ _
  · rw [World.frozen?_setCell, World.frozen?_setCell, World.frozen?_setCell]; exact k.fr i
def World.xthree (w : World) (b : Nat) (epoch quiet : Int) (v : Value) : World := ((w.setCell ⟨b, 0, none⟩ (.int .i64 epoch)).setCell ⟨b, 1, none⟩ (.int .i64 quiet)).setCell ⟨b, 2, none⟩ v
theorem xthree_only (w : World) (b : Nat) (epoch quiet : Int) (v : Value) : Only b (b + 1) w (World.xthree w b epoch quiet v) :=
  (((Only.refl _ _ w).setCell (.inr ⟨by simp, by simp⟩) _).setCell (.inr ⟨by simp, by simp⟩) _).setCell (.inr ⟨by simp, by simp⟩) _
theorem XBox.three {w : World} {b : Nat} {e q e' q' : Int} {v v' : Value} (k : XBox w b e q v) : XBox (World.xthree w b e' q' v') b e' q' v' := by
  have far : ∀ (W : World) (i j : Nat) (v : Value), i ≠ j → (W.setCell ⟨b, i, none⟩ v).cell? ⟨b, j, none⟩ = W.cell? ⟨b, j, none⟩ := fun W i j v hij => World.cell?_setCell_other _ _ _ _ (fun e => hij (congrArg Addr.off e))
  unfold World.xthree
  refine ⟨?_, ?_, ?_, fun i => ?_⟩
  · rw [far _ _ _ _ (by decide), far _ _ _ _ (by decide)]; exact World.cell?_setCell_same _ _ _ k.c0
  · rw [far _ _ _ _ (by decide)]; exact World.cell?_setCell_same _ _ _ (by rw [far _ _ _ _ (by decide)]; exact k.c1)
  · exact World.cell?_setCell_same _ _ _ (by rw [far _ _ _ _ (by decide), far _ _ _ _ (by decide)]; exact k.c2)
  · rw [World.frozen?_setCell, World.frozen?_setCell, World.frozen?_setCell]; exact k.fr i
/-- at the end -/
theorem bg_end {w W : World} {epoch quiet : Int} {i : Nat} {es : Trips} {v : Value} (h : Bg w W epoch quiet i es es v) (hi : i ≤ 10) :
    (LBox (World.xthree (World.three W w.heap.size epoch quiet (some (w.heap.size + 2))) (w.heap.size + 1) epoch quiet v).drew w.heap.size epoch quiet (some (w.heap.size + 2)) ∧
    XBox (World.xthree (World.three W w.heap.size epoch quiet (some (w.heap.size + 2))) (w.heap.size + 1) epoch quiet v).drew (w.heap.size + 1) epoch quiet v) ∧
    Begun w epoch quiet (.returned (.tuple #[lval epoch quiet (some (w.heap.size + 2)), xval epoch quiet v])) (World.xthree (World.three W w.heap.size epoch quiet (some (w.heap.size + 2))) (w.heap.size + 1) epoch quiet v).drew := by
  have hz := h.size
  have o1 := three_only W w.heap.size epoch quiet (some (w.heap.size + 2))
  have h1 : LBox (World.three W w.heap.size epoch quiet (some (w.heap.size + 2))) w.heap.size epoch quiet (some (w.heap.size + 2)) := h.r0.three
  have h2 : XBox (World.three W w.heap.size epoch quiet (some (w.heap.size + 2))) (w.heap.size + 1) 0 0 (.slice none 0 0) := h.r1.kept o1 (by omega) (.inr (Nat.le_refl _))
  generalize World.three W w.heap.size epoch quiet (some (w.heap.size + 2)) = V at *
  have h3 := h2.three (e' := epoch) (q' := quiet) (v' := v)
  have s1 := o1.size
  have o2 := xthree_only V (w.heap.size + 1) epoch quiet v
  have h4 := h1.kept o2 (by omega) (.inl (Nat.lt_succ_self _))
  generalize World.xthree V (w.heap.size + 1) epoch quiet v = U at *
  have o : Only w.heap.size (w.heap.size + 2) W U.drew := Only.drew ((o1.mono (Nat.le_refl _) (by omega)).trans (o2.mono (by omega) (Nat.le_refl _)))
  have o3 : Only U.heap.size U.heap.size U U.drew := (Only.refl _ _ _).drew
  have s2 := o2.size
  refine ⟨⟨h4.kept o3 (by omega) (.inl (by omega)), h3.kept o3 (by omega) (.inl (by omega))⟩, ?_⟩
  exact ⟨w.heap.size + 2, es, v, rfl, h.map.kept o (.inr (Nat.le_refl _)), (h.own.keptOnly o (by omega)).mono (by omega), Nat.le_trans h.len hi, h.wf, h.up, by omega, h.only.fresh (o.mono (Nat.le_refl _) (Nat.le_refl _))⟩

/-- what the inner loop keeps -/
def InRel (w2 : World) (z0 z1 z2 z3 : Int) (es : Trips) (rest done jv : Value) (W : World) : Prop :=
  ∃ j : Nat, jv = .int .i64 j ∧ j ≤ es.length ∧ done = .bool (past z0 (es.take j)) ∧ OwnS hold4 W w2.heap.size rest (sofar z0 (z1, z2, z3) (es.take j)) ∧ Only w2.heap.size w2.heap.size w2 W

theorem rec_cells (W : World) (z0 z1 z2 z3 : Int) (g : Nat) (hg : g = W.heap.size) : ∀ j, j < hold4.k → (W.alloc (.cells #[.int .i64 z0, .int .i64 z1, .int .i64 z2, .int .i64 z3] 71)).cell? ⟨g, j, none⟩ = some (.int .i64 ((hold4.enc (z0, (z1, z2, z3))).getD j 0)) := by
  intro j hj
  obtain ⟨h0, h1, h2, h3⟩ := HBox.of (top_at W (.cells #[.int .i64 z0, .int .i64 z1, .int .i64 z2, .int .i64 z3] 71) g hg)
  have hj' : j < 4 := hj
  rcases (by omega : j = 0 ∨ j = 1 ∨ j = 2 ∨ j = 3) with rfl | rfl | rfl | rfl
  · exact h0
  · exact h1
  · exact h2
  · exact h3
theorem build_rec (W : World) (z0 z1 z2 z3 : Int) : (Instr.buildSlice 54 1 #[(0, .agg #[.int .i64 z0, .int .i64 z1, .int .i64 z2, .int .i64 z3])]).run Try.prog W = .ok (.slice (some ⟨W.heap.size, 0, none⟩) 1 1) (W.alloc (.cells #[.int .i64 z0, .int .i64 z1, .int .i64 z2, .int .i64 z3] 71)) := by kernel_rfl
/-- behind an append of a holding -/
theorem app_rec {w2 X w3 : World} {rest rest' : Value} {l l' : Trips} {T : Nat} (h : OwnS hold4 X w2.heap.size rest l) (hT : ∀ g, rest.ownBlock = some g → g < T) (ho : Only w2.heap.size w2.heap.size w2 X) (h' : OwnS hold4 w3 w2.heap.size rest' l') (hg : X.grownBy w3 rest.ownBlock) :
    OwnS hold4 w3 w2.heap.size rest' l' ∧ Only w2.heap.size w2.heap.size w2 w3 ∧ Only w2.heap.size T X w3 :=
  ⟨h', ho.fresh (h.only hg hT), h.only hg hT⟩

set_option maxRecDepth 100000 in
set_option maxHeartbeats 4000000 in
theorem begin_any (w : World) (epoch quiet : Int) (a : Option Addr) (len cap : Nat) (z : Nat → Nat → Int) (hz : IsRecs w 4 a len cap z) :
    Calls Try.prog 31 #[.int .i64 epoch, .int .i64 quiet, .slice a len cap] w (Begun w epoch quiet) := by
  have hO : Hid (Only w.heap.size w.heap.size w w) := Lib.hid (Only.refl _ _ _)
  have HZ := Lib.hid hz
  have hcap : cap ≤ 9223372036854775807 := hz.2.1
  have hlc : len ≤ cap := hz.1
  have hmm := @run_makeMap Try.prog
  have hb0 : ∀ w : World, (Instr.buildSlice 54 0 #[]).run Try.prog w = .ok (.slice (some ⟨w.heap.size, 0, none⟩) 0 0) (w.alloc (.cells #[] 71)) := fun w => by kernel_rfl
  have hb1 := build_rec
  clear hz
  go_enter Try.func31, Try.ntmps31
  go_wp2_with fail
  go_loopw [10] (fun iv wr => BgRel w epoch quiet len iv wr) (fun iv _ => len - (intOf iv).toNat)
  case atStart => exact ⟨0, [], _, rfl, by omega, by omega, bg_start w epoch quiet⟩
  case round =>
    obtain ⟨i, es, v, rfl, hi10, hil, hb⟩ := hrel
    by_cases hlt : i < len ∧ i < 10
    · obtain ⟨hlt, h10⟩ := hlt
      have h10' : (i : Int) < 10 := by omega
      obtain ⟨b, o, rfl, hbb, hcell⟩ : ∃ b o, a = some ⟨b, o, none⟩ ∧ b < w.heap.size ∧ ∀ i, i < len → ∀ j, j < 4 → w.cell? ⟨b, o + (i * 4 + j), none⟩ = some (.int .i64 (z i j)) ∧ (Lit.int .i64 (z i j)).wf = true := by
        rcases HZ.out.2.2 with h0 | h0
        · omega
        · exact h0
      have hc : ∀ j, j < 4 → wr.cell? ⟨b, o + (i * 4 + j), none⟩ = some (.int .i64 (z i j)) := fun j hj => (hb.only.cell (by exact hbb) (.inl (by exact hbb))).trans (hcell i hlt j hj).1
      have HK := Lib.hid (hcell i hlt 0 (by omega)).2
      have q0 : wr.cell? ⟨b, o + i * 4, none⟩ = some (.int .i64 (z i 0)) := hc 0 (by omega)
      have q1 : wr.cell? ⟨b, o + i * 4 + 1, none⟩ = some (.int .i64 (z i 1)) := hc 1 (by omega)
      have q2 : wr.cell? ⟨b, o + i * 4 + 2, none⟩ = some (.int .i64 (z i 2)) := hc 2 (by omega)
      have q3 : wr.cell? ⟨b, o + i * 4 + 3, none⟩ = some (.int .i64 (z i 3)) := hc 3 (by omega)
      have hsz := hb.size
      have c2 : ∀ o, (wr.alloc o).cell? ⟨w.heap.size + 1 + 1 + 1, 2, none⟩ = some (.map (some (w.heap.size + 2))) := fun o => (((Only.refl wr.heap.size wr.heap.size wr).alloc o).cell (by show w.heap.size + 1 + 1 + 1 < _; omega) (.inl (by show w.heap.size + 1 + 1 + 1 < _; omega))).trans hb.box.c2
      obtain ⟨av, capv, rfl, hlv, hcv⟩ := hb.own.fits
      have HB := Lib.hid hb
      have HN : Hid (es.length < 1000000) := Lib.hid (by have := HB.out.len; omega)
      clear hc hcell hb
      generalize e0 : z i 0 = z0 at *
      generalize e1 : z i 1 = z1 at *
      generalize e2 : z i 2 = z2 at *
      generalize e3 : z i 3 = z3 at *
      clear e0 e1 e2 e3
      by_cases hu : z3 = 0
      · subst hu
        go_wp2_with fail
        go_roundw
        case rel => exact ⟨i + 1, _, _, by go_num, by omega, by omega, (HB.out.kept ((Only.refl _ _ wr).alloc _)).next⟩
        case measure => simp [intOf]; omega
      · have hud : decide (z3 = 0) = false := decide_eq_false hu
        go_wp2_with (first
          | (at_mapUpdate; (refine wpList_put _ rfl _ _ _ 55 rfl 82 Try.underlying55 (w.heap.size + 2) es rfl (HB.out.map.kept ((Only.refl 0 0 wr).alloc _) (.inr (Nat.zero_le _))) HN.out z0 HK.out rfl (z1, z2, z3) rfl ?_; intro w2 m1' g'; have HC := Lib.hid (bg_put HB.out HK.out m1' g'); clear m1' g'; have t2 : ∀ o, (w2.alloc o).cell? ⟨w.heap.size + 1 + 1 + 1 + 1, 2, none⟩ = some (.slice av es.length capv) := fun o => (((Only.refl w2.heap.size w2.heap.size w2).alloc o).cell (by have := HC.out.1.size; show w.heap.size + 1 + 1 + 1 + 1 < _; omega) (.inl (by have := HC.out.1.size; show w.heap.size + 1 + 1 + 1 + 1 < _; omega))).trans HC.out.1.xbox.c2))
          | fail)
        obtain ⟨wo, rfl⟩ : ∃ wo : World, wo = wr := ⟨_, rfl⟩
        go_loopw [12, 13, 55] (fun rest done jv W => InRel w2 z0 z1 z2 z3 es rest done jv W) (fun _ _ jv _ => es.length - (intOf jv).toNat)
        case atStart => exact ⟨0, rfl, Nat.zero_le _, rfl, OwnS.empty w2 _ (Nat.le_refl _), (Only.refl _ _ _).alloc _⟩
        case round =>
          obtain ⟨j, rfl, hj, rfl, hown, ho⟩ := hrel
          have HHB := HC.out.2.1.kept ho HC.out.2.2 (.inl HC.out.2.2)
          have hsz2 := ho.size
          have hsz3 := HC.out.2.2
          have HSO := Lib.hid (sofar_len z0 (z1, z2, z3) (es.take j))
          have HS : Hid ((sofar z0 (z1, z2, z3) (es.take j)).length ≤ 99999) := Lib.hid (by have := HSO.out; have := HB.out.len; have := List.length_take_le j es; omega)
          have HHO := Lib.hid ho
          have HOW := Lib.hid hown
          have HHH := Lib.hid HHB
          obtain ⟨m0, m1, m2, m3⟩ := HHB
          have n0 := fun o => (((Only.refl wr.heap.size wr.heap.size wr).alloc o).cell (p := ⟨wo.heap.size, 0, none⟩) (by show wo.heap.size < _; omega) (.inl (by show wo.heap.size < _; omega))).trans m0
          have n1 := fun o => (((Only.refl wr.heap.size wr.heap.size wr).alloc o).cell (p := ⟨wo.heap.size, 1, none⟩) (by show wo.heap.size < _; omega) (.inl (by show wo.heap.size < _; omega))).trans m1
          have n2 := fun o => (((Only.refl wr.heap.size wr.heap.size wr).alloc o).cell (p := ⟨wo.heap.size, 2, none⟩) (by show wo.heap.size < _; omega) (.inl (by show wo.heap.size < _; omega))).trans m2
          have n3 := fun o => (((Only.refl wr.heap.size wr.heap.size wr).alloc o).cell (p := ⟨wo.heap.size, 3, none⟩) (by show wo.heap.size < _; omega) (.inl (by show wo.heap.size < _; omega))).trans m3
          by_cases hjl : j < es.length
          · obtain ⟨g, rfl, hg1, hg2, hcl⟩ := (HC.out.1.own.grown ho).addr (List.getElem?_eq_getElem hjl)
            have HT : Hid (es.take (j + 1) = es.take j ++ [es[j]]) := Lib.hid (List.take_succ_eq_append_getElem hjl)
            generalize es[j] = y at hcl HT
            obtain ⟨y0, y1, y2, y3⟩ := y
            have p0 : wr.cell? ⟨g, j * 4, none⟩ = some (.int .i64 y0) := hcl 0 (by decide)
            have p1 : wr.cell? ⟨g, j * 4 + 1, none⟩ = some (.int .i64 y1) := hcl 1 (by decide)
            have p2 : wr.cell? ⟨g, j * 4 + 2, none⟩ = some (.int .i64 y2) := hcl 2 (by decide)
            have p3 : wr.cell? ⟨g, j * 4 + 3, none⟩ = some (.int .i64 y3) := hcl 3 (by decide)
            clear hcl hown ho
            have OW1 := Lib.hid (HOW.out.grown ((Only.refl _ _ wr).alloc (.cells #[.int .i64 y0, .int .i64 y1, .int .i64 y2, .int .i64 y3] 71)))
            have HO1 := Lib.hid (HHO.out.alloc (.cells #[.int .i64 y0, .int .i64 y1, .int .i64 y2, .int .i64 y3] 71))
            have HTB : Hid (∀ g, u12.ownBlock = some g → g < wr.heap.size) := Lib.hid (fun g hg => (HOW.out.blocks g hg).2)
            have HZB : Hid (∀ A B, w2.heap.size ≤ ((wr.alloc A).alloc B).heap.size) := Lib.hid (fun A B => by simp; omega)
            by_cases he : y0 = z0
            · have HE := Lib.hid he
              have hed : (y0 == z0) = true := beq_iff_eq.2 he
              have hed2 : (y0 != z0) = false := by simp [he]
              clear he
              go_wp2_with fail
              go_roundw
              case rel => exact ⟨j + 1, by go_num, by omega, by rw [HT.out, (sofar_same z0 (z1, z2, z3) _ _ HE.out).2], by rw [HT.out, (sofar_same z0 (z1, z2, z3) _ _ HE.out).1]; exact OW1.out, HO1.out⟩
              case measure => simp [intOf]; omega
            · have hed : (y0 == z0) = false := beq_eq_false_iff_ne.2 he
              have HNX := Lib.hid (sofar_next z0 (z1, z2, z3) (es.take j) (y0, (y1, y2, y3)) he)
              have OW2 := fun B => OW1.out.grown ((Only.refl _ _ (wr.alloc (.cells #[.int .i64 y0, .int .i64 y1, .int .i64 y2, .int .i64 y3] 71))).alloc B)
              have OW3 := Lib.hid OW2
              have HO2 := Lib.hid (fun B => HO1.out.alloc B)
              clear OW2
              cases hp : past z0 (es.take j) with
              | true =>
                have HP := Lib.hid hp
                clear hp
                go_wp2_with (first
                  | (at_builtin; (refine wpList_append_one hold4 _ rfl (.tmp 77) (.tmp 79) rfl w2.heap.size _ _ (y0, (y1, y2, y3)) rfl (OW3.out _) (wr.heap.size + 1) rfl (rec_cells _ y0 y1 y2 y3 _ (by simp)) (Nat.le_succ_of_le HS.out) (HZB.out _ _) ?_; intro v' w3 hown' hg'; have HA := Lib.hid (app_rec (OW3.out _) HTB.out (HO2.out _) hown' hg'); clear hown' hg'))
                  | fail)
                go_roundw
                case rel => exact ⟨j + 1, by go_num, by omega, by rw [HT.out, HNX.out.2, HP.out]; rfl, by rw [HT.out, HNX.out.1, if_neg (by rw [HP.out]; simp)]; exact HA.out.1, HA.out.2.1⟩
                case measure => simp [intOf]; omega
              | false =>
                have HP := Lib.hid hp
                clear hp
                by_cases hlt2 : z0 < y0
                · have hld : decide (z0 < y0) = true := decide_eq_true hlt2
                  go_wp2_with (first
                    | (at_builtin; (refine wpList_append_one hold4 _ rfl (.tmp 73) (.tmp 75) rfl w2.heap.size _ _ (z0, (z1, z2, z3)) rfl (OW3.out _) (wr.heap.size + 1) rfl (rec_cells _ z0 z1 z2 z3 _ (by simp)) (Nat.le_succ_of_le HS.out) (HZB.out _ _) ?_; intro v1 w4 hown' hg'; have HA1 := Lib.hid (app_rec (OW3.out _) HTB.out (HO2.out _) hown' hg'); have HY := ((HBox.of (top_at wr (.cells #[.int .i64 y0, .int .i64 y1, .int .i64 y2, .int .i64 y3] 71) wr.heap.size rfl)).kept ((Only.refl (wr.heap.size + 1) (wr.heap.size + 1) (wr.alloc (.cells #[.int .i64 y0, .int .i64 y1, .int .i64 y2, .int .i64 y3] 71))).alloc (.cells #[.int .i64 z0, .int .i64 z1, .int .i64 z2, .int .i64 z3] 71)) (by simp) (.inl (Nat.lt_succ_self _))).kept HA1.out.2.2 (by simp; omega) (.inr (Nat.le_refl _)); obtain ⟨r0, r1, r2, r3⟩ := HY; have OW4 := Lib.hid (fun B => HA1.out.1.grown ((Only.refl _ _ w4).alloc B)); have HO4 := Lib.hid (fun B => HA1.out.2.1.alloc B); have HT4 : Hid (∀ g, v1.ownBlock = some g → g < w4.heap.size) := Lib.hid (fun g hg => (HA1.out.1.blocks g hg).2); have HZ4 : Hid (∀ B, w2.heap.size ≤ (w4.alloc B).heap.size) := Lib.hid (fun B => Nat.le_trans HA1.out.2.1.size (by simp)); have HS4 : Hid ((sofar z0 (z1, z2, z3) (es.take j) ++ [(z0, (z1, z2, z3))]).length ≤ 100000) := Lib.hid (by have := HS.out; rw [List.length_append]; simp; omega); clear hown' hg'))
                    | (at_builtin; (refine wpList_append_one hold4 _ rfl (.tmp 77) (.tmp 79) rfl w2.heap.size _ _ (y0, (y1, y2, y3)) rfl (OW4.out _) (w4.heap.size) rfl (rec_cells _ y0 y1 y2 y3 _ (by simp)) HS4.out (HZ4.out _) ?_; intro v' w3 hown' hg'; have HA := Lib.hid (app_rec (OW4.out _) HT4.out (HO4.out _) hown' hg'); clear hown' hg'))
                    | fail)
                  go_roundw
                  case rel => exact ⟨j + 1, by go_num, by omega, by rw [HT.out, HNX.out.2, HP.out]; simp [hlt2], by rw [HT.out, HNX.out.1, if_pos ⟨HP.out, hlt2⟩]; exact HA.out.1, HA.out.2.1⟩
                  case measure => simp [intOf]; omega
                · have hld : decide (z0 < y0) = false := decide_eq_false hlt2
                  go_wp2_with (first
                    | (at_builtin; (refine wpList_append_one hold4 _ rfl (.tmp 77) (.tmp 79) rfl w2.heap.size _ _ (y0, (y1, y2, y3)) rfl (OW3.out _) (wr.heap.size + 1) rfl (rec_cells _ y0 y1 y2 y3 _ (by simp)) (Nat.le_succ_of_le HS.out) (HZB.out _ _) ?_; intro v' w3 hown' hg'; have HA := Lib.hid (app_rec (OW3.out _) HTB.out (HO2.out _) hown' hg'); clear hown' hg'))
                    | fail)
                  go_roundw
                  case rel => exact ⟨j + 1, by go_num, by omega, by rw [HT.out, HNX.out.2, HP.out]; simp [hlt2], by rw [HT.out, HNX.out.1, if_neg (fun h => hlt2 h.2)]; exact HA.out.1, HA.out.2.1⟩
                  case measure => simp [intOf]; omega
          · obtain rfl : j = es.length := by omega
            have HEN := Lib.hid (sofar_end z0 (z1, z2, z3) es)
            have HTK : Hid (es.take es.length = es) := Lib.hid (List.take_length)
            obtain ⟨ra, rn, rc, rfl⟩ := own_val hown
            have HBK := Lib.hid (HC.out.1.kept ho)
            have t5 := HBK.out.xbox.c2
            have t6 := HBK.out.xbox.fr 2
            clear hown ho
            cases hp : past z0 (es.take es.length) with
            | true =>
              have HP := Lib.hid hp
              clear hp
              have HX : Hid (Bg w (wr.setCell ⟨w.heap.size + 1 + 1 + 1 + 1, 2, none⟩ (.slice ra rn rc)) epoch quiet (i + 1) (mput es z0 (z1, z2, z3)) (mput es z0 (z1, z2, z3)) (.slice ra rn rc)) := by
                have h2 := HP.out
                rw [HTK.out] at h2
                have h3 := HEN.out
                rw [h2, if_neg (by simp)] at h3
                have h4 : sofar z0 (z1, z2, z3) (es.take es.length) = mput es z0 (z1, z2, z3) := by rw [HTK.out, h3]
                exact bg_list HBK.out (own_eq HOW.out h4) HC.out.1.size
              go_wp2_with fail
              go_roundw
              case rel => exact ⟨i + 1, _, _, by go_num, by omega, by omega, HX.out⟩
              case measure => simp [intOf]; omega
            | false =>
              have HP := Lib.hid hp
              clear hp
              have HTB : Hid (∀ g, (Value.slice ra rn rc).ownBlock = some g → g < wr.heap.size) := Lib.hid (fun g hg => (HOW.out.blocks g hg).2)
              have OW1 := Lib.hid (fun B => HOW.out.grown ((Only.refl _ _ wr).alloc B))
              have HO1 := Lib.hid (fun B => HHO.out.alloc B)
              have HZB : Hid (∀ A, w2.heap.size ≤ (wr.alloc A).heap.size) := Lib.hid (fun A => by simp; omega)
              go_wp2_with (first
                | (at_builtin; (refine wpList_append_one hold4 _ rfl (.tmp 84) (.tmp 86) rfl w2.heap.size _ _ (z0, (z1, z2, z3)) rfl (OW1.out _) wr.heap.size rfl (rec_cells _ z0 z1 z2 z3 _ (by simp)) (Nat.le_succ_of_le HS.out) (HZB.out _) ?_; intro v1 w4 hown' hg'; have HA1 := Lib.hid (app_rec (OW1.out _) HTB.out (HO1.out _) hown' hg'); have HBL := Lib.hid (HC.out.1.kept HA1.out.2.1); have s5 := HBL.out.xbox.c2; have s6 := HBL.out.xbox.fr 2; clear hown' hg'; obtain ⟨rb, rm, rd, rfl⟩ := own_val HA1.out.1))
                | fail)
              have HX : Hid (Bg w (w4.setCell ⟨w.heap.size + 1 + 1 + 1 + 1, 2, none⟩ (.slice rb rm rd)) epoch quiet (i + 1) (mput es z0 (z1, z2, z3)) (mput es z0 (z1, z2, z3)) (.slice rb rm rd)) := by
                have h2 := HP.out
                rw [HTK.out] at h2
                have h3 := HEN.out
                rw [h2, if_pos rfl] at h3
                have h4 : sofar z0 (z1, z2, z3) (es.take es.length) ++ [(z0, (z1, z2, z3))] = mput es z0 (z1, z2, z3) := by rw [HTK.out, h3]
                exact bg_list HBL.out (own_eq HA1.out.1 h4) HC.out.1.size
              go_roundw
              case rel => exact ⟨i + 1, _, _, by go_num, by omega, by omega, HX.out⟩
              case measure => simp [intOf]; omega
    · have hfin : decide ((i : Int) < (len : Int) ∧ (i : Int) < 10) = false := decide_eq_false (by omega)
      obtain ⟨av, capv, rfl, hlv, hcv⟩ := hb.own.fits
      have c0 : wr.cell? ⟨w.heap.size + 1 + 1 + 1, 0, none⟩ = some (.int .i64 epoch) := hb.box.c0
      have c1 : wr.cell? ⟨w.heap.size + 1 + 1 + 1, 1, none⟩ = some (.int .i64 quiet) := hb.box.c1
      have c2 : wr.cell? ⟨w.heap.size + 1 + 1 + 1, 2, none⟩ = some (.map (some (w.heap.size + 2))) := hb.box.c2
      have d0 : wr.cell? ⟨w.heap.size + 1 + 1 + 1 + 1, 0, none⟩ = some (.int .i64 epoch) := hb.xbox.c0
      have d1 : wr.cell? ⟨w.heap.size + 1 + 1 + 1 + 1, 1, none⟩ = some (.int .i64 quiet) := hb.xbox.c1
      have d2 : wr.cell? ⟨w.heap.size + 1 + 1 + 1 + 1, 2, none⟩ = some (.slice av es.length capv) := hb.xbox.c2
      obtain ⟨r0, r1, r2, rf⟩ := hb.r0
      obtain ⟨s0, s1, s2, sf⟩ := hb.r1
      have rf0 := rf 0
      have rf1 := rf 1
      have rf2 := rf 2
      have sf0 := sf 0
      have sf1 := sf 1
      have sf2 := sf 2
      clear rf sf
      have HB := Lib.hid hb
      clear hb
      by_cases h1 : i < len
      · have h2 : ¬ ((i : Int) < 10) := by omega
        go_wp2_with fail
        go_region
        all_goals go_wp2
        have hE := bg_end HB.out hi10
        unfold World.xthree World.three at hE
        obtain ⟨⟨⟨e0, e1, e2, _⟩, ⟨f0, f1, f2, _⟩⟩, hB⟩ := hE
        exact bodyPost_ret (v := .tuple #[lval epoch quiet (some (w.heap.size + 2)), xval epoch quiet (.slice av es.length capv)]) (by simp [results, Try.results31, go_sem, lval, xval, e0, e1, e2, f0, f1, f2]) rfl hB
      · have h2 : ¬ ((i : Int) < (len : Int)) := by omega
        go_wp2_with fail
        go_region
        all_goals go_wp2
        have hE := bg_end HB.out hi10
        unfold World.xthree World.three at hE
        obtain ⟨⟨⟨e0, e1, e2, _⟩, ⟨f0, f1, f2, _⟩⟩, hB⟩ := hE
        exact bodyPost_ret (v := .tuple #[lval epoch quiet (some (w.heap.size + 2)), xval epoch quiet (.slice av es.length capv)]) (by simp [results, Try.results31, go_sem, lval, xval, e0, e1, e2, f0, f1, f2]) rfl hB
end Go.Proofs.Ytefllgpehhlkoaa
