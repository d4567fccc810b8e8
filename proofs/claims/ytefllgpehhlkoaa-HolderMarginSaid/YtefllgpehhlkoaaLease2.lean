/-
  The lease (layer 18): copied.
-/
import Derived.Test.YtefllgpehhlkoaaLease
namespace Go.Proofs.Ytefllgpehhlkoaa
open Go.RowKit Go.Maps

set_option maxHeartbeats 2000000 in
theorem sweep_nil (w : World) (fv : Value) : Calls Try.prog 70 #[.map none, fv] w fun e w' => e = .returned (.tuple #[]) ∧ w' = w.alloc (.mapIter none 0 #[] 0) := by
  have hrg := run_range_nilMap (P := Try.prog) w 55 _ _ Try.underlying55
  have hnx : ∀ ty, (Instr.next (.pointer (some ⟨w.heap.size, 0, none⟩)) false ty).run Try.prog (w.alloc (.mapIter none 0 #[] 0)) = _ := fun ty => run_next_nilMap _ ty 0 0 #[]
  go_enter Try.func70, Try.ntmps70
  go_wp2
  refine wp_loop_rounds 1 ?_
  rw [rounds_succ]
  go_wp2
  go_end0
  exact ⟨rfl, rfl⟩

/-- an authority's state as a value -/
def lval (epoch quiet : Int) (m : Option Nat) : Value := .agg #[.int .i64 epoch, .int .i64 quiet, .map m]
/-- a state with holdings of its own, what is over left out -/
def Copied (w : World) (epoch quiet : Int) (es : Trips) (m : Option Nat) (e : Ending) (w' : World) : Prop :=
  ∃ m', e = .returned (lval epoch quiet m') ∧ MapIs tripE w' m' es ∧ (m' = none ↔ m = none) ∧ (∀ b, m' = some b → w.heap.size ≤ b) ∧ Only w.heap.size w.heap.size w w'

theorem top_at (V : World) (o : Obj) (k : Nat) (h : k = V.heap.size) : (V.alloc o).heap[k]? = some o := by subst h; exact (MapKept.heap_alloc V _).1
theorem low_at (V : World) (o : Obj) (k : Nat) (h : k < V.heap.size) : (V.alloc o).heap[k]? = V.heap[k]? := Below.heap_alloc _ _ _ h
theorem one_at {w : World} {b : Nat} {x : Value} {t : TypeId} (h : w.heap[b]? = some (.cells #[x] t)) : w.cell? ⟨b, 0, none⟩ = some x := by
  simp [World.cell?, h]
/-- the three cells of a state that lies at block b -/
structure LBox (w : World) (b : Nat) (epoch quiet : Int) (m : Option Nat) : Prop where
  c0 : w.cell? ⟨b, 0, none⟩ = some (.int .i64 epoch)
  c1 : w.cell? ⟨b, 1, none⟩ = some (.int .i64 quiet)
  c2 : w.cell? ⟨b, 2, none⟩ = some (.map m)
  fr : ∀ i, w.frozen? ⟨b, i, none⟩ = false
theorem LBox.of {w : World} {b : Nat} {epoch quiet : Int} {m : Option Nat} {t : TypeId} (h : w.heap[b]? = some (.cells #[.int .i64 epoch, .int .i64 quiet, .map m] t)) : LBox w b epoch quiet m := by
  constructor <;> first | (intro i; simp [World.frozen?, h]) | simp [World.cell?, h]
theorem LBox.kept {w w' : World} {b lo hi : Nat} {epoch quiet : Int} {m : Option Nat} (h : LBox w b epoch quiet m) (o : Only lo hi w w') (hb : b < w.heap.size) (hs : b < lo ∨ hi ≤ b) : LBox w' b epoch quiet m :=
  ⟨by rw [o.cell (by exact hb) (by exact hs)]; exact h.c0, by rw [o.cell (by exact hb) (by exact hs)]; exact h.c1, by rw [o.cell (by exact hb) (by exact hs)]; exact h.c2, fun i => by rw [o.frozen (by exact hb) (by exact hs)]; exact h.fr i⟩
theorem LBox.keys {w : World} {b : Nat} {epoch quiet : Int} {m : Option Nat} (h : LBox w b epoch quiet m) :
    (∀ v, (w.setCell ⟨b, 0, none⟩ v).cell? ⟨b, 0, none⟩ = some v) ∧ (∀ u v, ((w.setCell ⟨b, 0, none⟩ u).setCell ⟨b, 1, none⟩ v).cell? ⟨b, 1, none⟩ = some v) ∧
    (∀ u x v, (((w.setCell ⟨b, 0, none⟩ u).setCell ⟨b, 1, none⟩ x).setCell ⟨b, 2, none⟩ v).cell? ⟨b, 2, none⟩ = some v) := by
  have far : ∀ (W : World) (i j : Nat) (v : Value), i ≠ j → (W.setCell ⟨b, i, none⟩ v).cell? ⟨b, j, none⟩ = W.cell? ⟨b, j, none⟩ := fun W i j v hij => World.cell?_setCell_other _ _ _ _ (fun e => hij (congrArg Addr.off e))
  refine ⟨fun v => World.cell?_setCell_same _ _ _ h.c0, fun u v => World.cell?_setCell_same _ _ _ (by rw [far _ _ _ _ (by decide)]; exact h.c1), fun u x v => World.cell?_setCell_same _ _ _ (by rw [far _ _ _ _ (by decide), far _ _ _ _ (by decide)]; exact h.c2)⟩
/-- the three cells of a state, as they are stored -/
def World.three (w : World) (b : Nat) (epoch quiet : Int) (m : Option Nat) : World := ((w.setCell ⟨b, 0, none⟩ (.int .i64 epoch)).setCell ⟨b, 1, none⟩ (.int .i64 quiet)).setCell ⟨b, 2, none⟩ (.map m)
theorem three_only (w : World) (b : Nat) (epoch quiet : Int) (m : Option Nat) : Only b (b + 1) w (World.three w b epoch quiet m) :=
  (((Only.refl _ _ w).setCell (.inr ⟨by simp, by simp⟩) _).setCell (.inr ⟨by simp, by simp⟩) _).setCell (.inr ⟨by simp, by simp⟩) _

set_option maxRecDepth 100000 in
set_option maxHeartbeats 1000000 in
theorem copied_nil (w : World) (epoch quiet now : Int) : Calls Try.prog 55 #[lval epoch quiet none, .int .i64 now] w (Copied w epoch quiet [] none) := by
  have hO : Hid (Only w.heap.size w.heap.size w w) := Lib.hid (Only.refl _ _ _)
  unfold lval
  go_enter Try.func55, Try.ntmps55
  go_wp2_with (first
    | (go_at_call 68; refine (clone68_nil _).mono ?_; rintro e W1 ⟨rfl, rfl⟩)
    | (go_at_call 70; refine (sweep_nil _ _).mono ?_; rintro e W1 ⟨rfl, rfl⟩)
    | fail)
  refine bodyPost_ret (v := lval epoch quiet none) (by simp [results, Try.results55, go_sem, lval]) rfl ?_
  exact ⟨none, rfl, rfl, Iff.rfl, fun b hb => (by cases hb), (((hO.out.alloc _).alloc _).alloc _).alloc _⟩

set_option maxRecDepth 100000 in
set_option maxHeartbeats 1000000 in
theorem copied_some (w : World) (epoch quiet now : Int) (b : Nat) (es : Trips) (A : Array MapEntry) (C : Nat) (hb : Hid (∀ W, Only w.heap.size w.heap.size w W → W.heap[b]? = some (.map A C))) (hr : Hid (∀ (V : World) (x : Nat), V.heap[x]? = some (.map A C) → MapAt tripE V x es)) :
    Calls Try.prog 55 #[lval epoch quiet (some b), .int .i64 now] w (Copied w epoch quiet (lasting es now) (some b)) := by
  have hO : Hid (Only w.heap.size w.heap.size w w) := Lib.hid (Only.refl _ _ _)
  have RB : Hid (LBox ((((w.alloc (.cells #[.int .i64 epoch, .int .i64 quiet, .map (some (w.heap.size + 1 + 1 + 1))] 57)).alloc (.cells #[.int .i64 now] 3)).alloc (.cells #[.int .i64 0, .int .i64 0, .map none] 57)).alloc (.map A C)) (w.heap.size + 2) 0 0 none) := Lib.hid (LBox.of ((low_at _ _ _ (by simp)).trans (top_at _ _ _ (by simp))))
  have SB : Hid (LBox ((((w.alloc (.cells #[.int .i64 epoch, .int .i64 quiet, .map (some (w.heap.size + 1 + 1 + 1))] 57)).alloc (.cells #[.int .i64 now] 3)).alloc (.cells #[.int .i64 0, .int .i64 0, .map none] 57)).alloc (.map A C)) w.heap.size epoch quiet (some (w.heap.size + 3))) := Lib.hid (LBox.of ((low_at _ _ _ (by first | (simp; done) | (simp; omega))).trans ((low_at _ _ _ (by first | (simp; done) | (simp; omega))).trans ((low_at _ _ _ (by simp)).trans (top_at _ _ _ (by simp))))))
  have QB : Hid (((((w.alloc (.cells #[.int .i64 epoch, .int .i64 quiet, .map (some (w.heap.size + 1 + 1 + 1))] 57)).alloc (.cells #[.int .i64 now] 3)).alloc (.cells #[.int .i64 0, .int .i64 0, .map none] 57)).alloc (.map A C)).cell? ⟨w.heap.size + 1, 0, none⟩ = some (.int .i64 now)) := Lib.hid (one_at ((low_at _ _ _ (by first | (simp; done) | (simp; omega))).trans ((low_at _ _ _ (by first | (simp; done) | (simp; omega))).trans (top_at _ _ _ (by simp)))))
  unfold lval
  go_enter Try.func55, Try.ntmps55
  go_wp2_with (first
    | (go_at_call 68; refine (clone68_some _ b A C (hb.out _ (((hO.out.alloc _).alloc _).alloc _))).mono ?_; rintro e W1 ⟨rfl, rfl⟩)
    | (go_at_call 70; go_loud (refine (sweep_some _ _ _ es now (hr.out _ _ (top_at _ _ _ (by simp))) QB.out).mono ?_; rintro e W2 ⟨rfl, hm', hg'⟩; have hm := Lib.hid hm'; have hg := Lib.hid hg'; clear hm' hg'; have o2 : Only (w.heap.size + 3) (w.heap.size + 4) _ W2 := Only.of_grown hg.out; have hR := RB.out.kept o2 (by first | (simp; done) | (simp; omega)) (.inl (by omega)); have hS := SB.out.kept o2 (by first | (simp; done) | (simp; omega)) (.inl (by omega)); obtain ⟨k0, k1, k2⟩ := hR.keys; obtain ⟨r0, r1, r2, rf⟩ := hR; obtain ⟨s0, s1, s2, sf⟩ := hS; have O2 := Lib.hid o2; clear o2))
    | fail)
  refine bodyPost_ret (v := lval epoch quiet (some (w.heap.size + 3))) (by simp [results, Try.results55, go_sem, lval, k0, k1, k2]) rfl ?_
  have hs := three_only W2 (w.heap.size + 2) epoch quiet (some (w.heap.size + 3))
  exact ⟨some (w.heap.size + 3), rfl, hm.out.kept hs (.inr (by omega)), by simp, fun b hb => (by cases hb; omega), (((((hO.out.alloc _).alloc _).alloc _).alloc _).fresh (O2.out.mono (by omega) (Nat.le_refl _))).fresh (hs.mono (by omega) (Nat.le_refl _))⟩
/-- copied, whole -/
theorem copied_any (w : World) (epoch quiet now : Int) (m : Option Nat) (es : Trips) (h : MapIs tripE w m es) : Calls Try.prog 55 #[lval epoch quiet m, .int .i64 now] w (Copied w epoch quiet (lasting es now) m) := by
  cases m with
  | none => obtain rfl : es = [] := h; exact copied_nil w epoch quiet now
  | some b =>
    obtain ⟨arr, clock, hb, r⟩ := (show MapAt tripE w b es from h)
    have hlt : b < w.heap.size := MapAt.lt (show MapAt tripE w b es from h)
    exact copied_some w epoch quiet now b es arr clock (fun W o => by rw [o.block b hlt (.inl hlt)]; exact hb) (fun V x hx => ⟨arr, clock, hx, r⟩)
end Go.Proofs.Ytefllgpehhlkoaa
