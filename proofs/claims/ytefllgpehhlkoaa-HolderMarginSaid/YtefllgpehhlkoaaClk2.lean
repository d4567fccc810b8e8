/-
  Clocks: New, Worst, Play, Copy.
-/
import Derived.Test.YtefllgpehhlkoaaClk
namespace Go.Proofs.Ytefllgpehhlkoaa
open Go.RowKit

def newObj (x y z n : Nat) : Obj := .cells #[.slice (some ⟨x, 0, none⟩) n n, .slice (some ⟨y, 0, none⟩) n n, .slice (some ⟨z, 0, none⟩) n n] 117
def zerosObj (n : Nat) : Obj := .cells (madeCells #[.int .i64 0] n) 3
theorem zeros_get (n i : Nat) (h : i < n) : (madeCells #[.int .i64 0] n)[i]? = some (.int .i64 0) := by
  simp [madeCells, h, Nat.mod_one]
theorem new_made (w : World) (n x y z : Nat) (hx : x < 3) (hy : y < 3) (hz : z < 3) (hxy : x ≠ y) (hxz : x ≠ z) (hyz : y ≠ z) :
    Clk ((((w.alloc (zerosObj n)).alloc (zerosObj n)).alloc (zerosObj n)).alloc (newObj (w.heap.size + x) (w.heap.size + y) (w.heap.size + z) n)).drew w.heap.size (w.heap.size + 4) (w.heap.size + 3) n St.zero ∧
    Only w.heap.size w.heap.size w ((((w.alloc (zerosObj n)).alloc (zerosObj n)).alloc (zerosObj n)).alloc (newObj (w.heap.size + x) (w.heap.size + y) (w.heap.size + z) n)).drew := by
  generalize hW : (((w.alloc (zerosObj n)).alloc (zerosObj n)).alloc (zerosObj n)).alloc (newObj (w.heap.size + x) (w.heap.size + y) (w.heap.size + z) n) = W
  have hsz : W.heap.size = w.heap.size + 4 := by rw [← hW]; simp
  have hb : ∀ j, j < 3 → W.heap[w.heap.size + j]? = some (zerosObj n) := by
    intro j hj
    rw [← hW]
    show ((((w.heap.push (zerosObj n)).push (zerosObj n)).push (zerosObj n)).push _)[w.heap.size + j]? = _
    simp only [Array.getElem?_push, Array.size_push]
    rcases (show j = 0 ∨ j = 1 ∨ j = 2 by omega) with rfl | rfl | rfl
    · rw [if_neg (by omega), if_neg (by omega), if_neg (by omega), if_pos (by omega)]
    · rw [if_neg (by omega), if_neg (by omega), if_pos (by omega)]
    · rw [if_neg (by omega), if_pos (by omega)]
  have hp : W.heap[w.heap.size + 3]? = some (newObj (w.heap.size + x) (w.heap.size + y) (w.heap.size + z) n) := by
    rw [← hW]
    show ((((w.heap.push (zerosObj n)).push (zerosObj n)).push (zerosObj n)).push _)[w.heap.size + 3]? = _
    simp only [Array.getElem?_push, Array.size_push]
    rw [if_pos (by simp)]
  have hcell : ∀ j, j < 3 → ∀ i, i < n → W.cell? ⟨w.heap.size + j, i, none⟩ = some (.int .i64 0) := by
    intro j hj i hi
    simp [World.cell?, hb j hj, zerosObj, zeros_get n i hi]
  have hfree : ∀ j, j < 3 → ∀ i, W.frozen? ⟨w.heap.size + j, i, none⟩ = false := by
    intro j hj i
    simp [World.frozen?, hb j hj, zerosObj]
  refine ⟨⟨w.heap.size + x, w.heap.size + y, w.heap.size + z, ClkAt.drew ?_⟩, Only.drew ?_⟩
  · refine ⟨⟨n, Nat.le_refl _, ?_⟩, ⟨n, Nat.le_refl _, ?_⟩, ⟨n, Nat.le_refl _, ?_⟩, hfree x hx, hfree y hy, hfree z hz, hcell x hx, hcell y hy, hcell z hz, ?_, ?_, ?_, ?_, ?_, ?_, ?_, ?_, ?_, ?_⟩
    · simp [World.cell?, hp, newObj]
    · simp [World.cell?, hp, newObj]
    · simp [World.cell?, hp, newObj]
    all_goals omega
  · rw [← hW]
    exact ((((Only.refl _ _ w).alloc _).alloc _).alloc _).alloc _

theorem new_small (n : Int) (w : World) (h : n < 1) : Calls Try.prog 17 #[.int .i64 n] w fun e w' => e = .returned (.tuple #[.pointer none, .int .i64 1]) ∧ w = w' := by
  go_enter Try.func17, Try.ntmps17
  go_wp2
  go_ret2
  exact ⟨rfl, rfl⟩
theorem new_big (n : Int) (w : World) (h : 8 < n) : Calls Try.prog 17 #[.int .i64 n] w fun e w' => e = .returned (.tuple #[.pointer none, .int .i64 2]) ∧ w = w' := by
  have h1 : ¬ n < 1 := by omega
  go_enter Try.func17, Try.ntmps17
  go_wp2
  go_ret2
  exact ⟨rfl, rfl⟩
set_option maxHeartbeats 400000 in
theorem new_some (n : Nat) (w : World) (h1 : 1 ≤ n) (h8 : n ≤ 8) : Calls Try.prog 17 #[.int .i64 n] w fun e w' => ∃ p, e = .returned (.tuple #[.pointer (some ⟨p, 0, none⟩), .int .i64 0]) ∧
    Clk w' w.heap.size (w.heap.size + 4) p n St.zero ∧ Only w.heap.size w.heap.size w w' := by
  have H0 := Lib.hid (new_made w n 0 1 2 (by omega) (by omega) (by omega) (by omega) (by omega) (by omega))
  have H1 := Lib.hid (new_made w n 0 2 1 (by omega) (by omega) (by omega) (by omega) (by omega) (by omega))
  have H2 := Lib.hid (new_made w n 1 0 2 (by omega) (by omega) (by omega) (by omega) (by omega) (by omega))
  have H3 := Lib.hid (new_made w n 1 2 0 (by omega) (by omega) (by omega) (by omega) (by omega) (by omega))
  have H4 := Lib.hid (new_made w n 2 0 1 (by omega) (by omega) (by omega) (by omega) (by omega) (by omega))
  have H5 := Lib.hid (new_made w n 2 1 0 (by omega) (by omega) (by omega) (by omega) (by omega) (by omega))
  have hmk := Go.run_make_row' (P := Try.prog) 22 3 (.int .i64 0) 8 Try.underlying22 info3 rfl .i64 .i64 n (by omega) (by omega)
  go_enter Try.func17, Try.ntmps17
  go_wp2
  go_region
  all_goals go_wp2
  all_goals go_ret2
  all_goals first | exact ⟨_, rfl, H0.out⟩ | exact ⟨_, rfl, H1.out⟩ | exact ⟨_, rfl, H2.out⟩ | exact ⟨_, rfl, H3.out⟩ | exact ⟨_, rfl, H4.out⟩ | exact ⟨_, rfl, H5.out⟩

set_option maxHeartbeats 400000 in
theorem worst_any (w : World) (lo hi p n K : Nat) (s : St) (h : Clk w lo hi p n s) (hb : s.Bd K) (hK : K ≤ 1000000000) (hn : n ≤ 8) :
    Calls Try.prog 24 #[.pointer (some ⟨p, 0, none⟩)] w fun e w' => e = .returned (.int .i64 (s.worst n)) ∧ ∃ m, w' = w.drewN m := by
  have h' := h
  obtain ⟨a, b, c, hc⟩ := h'
  obtain ⟨k0, -, c0⟩ := hc.c0
  have HC := Lib.hid h
  have HB := Lib.hid hb
  clear h hb hc
  go_enter Try.func24, Try.ntmps24
  go_wp2_with fail
  go_loopw [3, 4, 10] (fun t _ kv wr => ∃ k m : Nat, k ≤ n ∧ kv = .int .i64 k ∧ t = .int .i64 (s.worst k) ∧ wr = w.drewN m) (fun _ _ kv _ => n - (intOf kv).toNat)
  case atStart => exact ⟨0, 0, Nat.zero_le _, rfl, rfl, rfl⟩
  case round =>
    obtain ⟨k, m, hk, rfl, rfl, rfl⟩ := hrel
    by_cases hlt : k < n
    · have hd := drift_bd HB.out k
      have hw := worst_bd HB.out k
      have hcall : Hid (Calls Try.prog 23 #[.pointer (some ⟨p, 0, none⟩), .int .i64 k] (w.drewN m) fun e w' => e = .returned (.int .i64 (s.drift k)) ∧ ∃ m', w' = (w.drewN m).drewN m') :=
        drift_some (w.drewN m) lo hi p n K s (HC.out.kept ((Only.refl 0 0 w).drewN m) (by omega)) HB.out hK k hn hlt
      go_wp2_with (go_at_call 23; refine hcall.out.mono ?_; rintro e w' ⟨rfl, m', rfl⟩)
      all_goals
        go_roundw
        case rel => exact ⟨k + 1, m + m', by omega, by go_num, by simp [St.worst, *], rfl⟩
        case measure => simp [intOf]; omega
    · obtain rfl : k = n := by omega
      go_wp2_with fail
      go_ret
      exact ⟨rfl, _, rfl⟩
end Go.Proofs.Ytefllgpehhlkoaa
