/-
  Why, Place and Part of an error, walked.
-/
import Derived.Test.YtjlfoiocceepjaaDoorAsOnE
import Derived.Test.YtjlfoiocceepjaaDoorAsOnF
import Derived.Test.YtjlfoiocceepjaaDoorAsOnB
namespace Go.Proofs.YtjlfoiocceepjaaDoor
open Go.RowKit
set_option linter.unusedVariables false
set_option linter.unusedSimpArgs false

/-- the one package-level variable, as its initialiser lays it -/
def Gl (w : World) : Prop := w.cell? ⟨0, 0, none⟩ = some (.iface 104 (.agg #[.pointer (some ⟨1, 24, none⟩)]))
theorem Gl.pos {w : World} (h : Gl w) : 0 < w.heap.size := by
  unfold Gl at h
  rcases Nat.eq_zero_or_pos w.heap.size with h0 | h1
  · simp [World.cell?, h0] at h
  · exact h1
theorem Gl.below {w w' : World} {B : Nat} (h : Gl w) (hb : Below B w w') (hB : 0 < B) : Gl w' := by
  unfold Gl at h ⊢
  rw [hb.cell (p := ⟨0, 0, none⟩) hB]; exact h
theorem Gl.out {w w' : World} (h : Gl w) (hb : Below w.heap.size w w') : Gl w' := h.below hb h.pos
theorem Gl.alloc {w : World} (h : Gl w) (o : Obj) : Gl (w.alloc o) := h.out ((Below.refl _ _).alloc (Nat.le_refl _) _)
/-- an error of ours -/
def eN (e : Int) : Value := .iface 33 (.int .i64 e)
def eB (q : Int) (v : Value) : Value := .iface 69 (.agg #[.int .i64 q, v])
def RetI (x : Int) (w : World) (e : Ending) (w' : World) : Prop := e = .returned (.int .i64 x) ∧ Below w.heap.size w w'

theorem why_nil (w : World) (hg : Gl w) : Calls Tryd.prog 22 #[.nilIface] w (RetI (0) w) := by
  go_enter Tryd.func22, Tryd.ntmps22
  go_wp2_with (first | (go_at_call 44; refine (as_nil _ _).mono ?_; rintro ev w1 ⟨rfl, rfl⟩) | fail)
  go_ret
  exact ⟨rfl, (Below.refl _ _).alloc (Nat.le_refl _) _⟩
theorem why_e (e : Int) (w : World) (hg : Gl w) : Calls Tryd.prog 22 #[.iface 33 (.int .i64 e)] w (RetI e w) := by
  have HG := Lib.hid (hg.alloc (.cells #[.int .i64 0] 33))
  clear hg
  go_enter Tryd.func22, Tryd.ntmps22
  go_wp2_with (first | (go_at_call 44; refine (as_e_e 0 0 e w.heap.size #[.int .i64 0] rfl _ HG.out (Blk.new _ _ _ _ rfl)).mono ?_; rintro ev w1 ⟨rfl, hp⟩; have HP := Lib.hid hp; have b0 := hp.blk.cell 0; simp at b0; clear hp) | fail)
  go_ret
  exact ⟨rfl, ((Below.refl w.heap.size w).alloc (Nat.le_refl _) _).trans (HP.out.below (Nat.le_refl _) (by simp))⟩
theorem why_f (p e : Int) (w : World) (hg : Gl w) : Calls Tryd.prog 22 #[.iface 41 (.agg #[.int .i64 p, .int .i64 e])] w (RetI e w) := by
  have HG := Lib.hid (hg.alloc (.cells #[.int .i64 0] 33))
  clear hg
  go_enter Tryd.func22, Tryd.ntmps22
  go_wp2_with (first | (go_at_call 44; refine (as_e_f 0 p e w.heap.size #[.int .i64 0] rfl _ HG.out (Blk.new _ _ _ _ rfl)).mono ?_; rintro ev w1 ⟨rfl, hp⟩; have HP := Lib.hid hp; have b0 := hp.blk.cell 0; simp at b0; clear hp) | fail)
  go_ret
  exact ⟨rfl, ((Below.refl w.heap.size w).alloc (Nat.le_refl _) _).trans (HP.out.below (Nat.le_refl _) (by simp))⟩
theorem why_be (q e : Int) (w : World) (hg : Gl w) : Calls Tryd.prog 22 #[.iface 69 (.agg #[.int .i64 q, .iface 33 (.int .i64 e)])] w (RetI e w) := by
  have HG := Lib.hid (hg.alloc (.cells #[.int .i64 0] 33))
  clear hg
  go_enter Tryd.func22, Tryd.ntmps22
  go_wp2_with (first | (go_at_call 44; refine (as_e_be q 0 e w.heap.size #[.int .i64 0] rfl _ HG.out (Blk.new _ _ _ _ rfl)).mono ?_; rintro ev w1 ⟨rfl, hp⟩; have HP := Lib.hid hp; have b0 := hp.blk.cell 0; simp at b0; clear hp) | fail)
  go_ret
  exact ⟨rfl, ((Below.refl w.heap.size w).alloc (Nat.le_refl _) _).trans (HP.out.below (Nat.le_refl _) (by simp))⟩
theorem why_bf (q p e : Int) (w : World) (hg : Gl w) : Calls Tryd.prog 22 #[.iface 69 (.agg #[.int .i64 q, .iface 41 (.agg #[.int .i64 p, .int .i64 e])])] w (RetI e w) := by
  have HG := Lib.hid (hg.alloc (.cells #[.int .i64 0] 33))
  clear hg
  go_enter Tryd.func22, Tryd.ntmps22
  go_wp2_with (first | (go_at_call 44; refine (as_e_bf q p e w.heap.size #[.int .i64 0] rfl _ HG.out (Blk.new _ _ _ _ rfl)).mono ?_; rintro ev w1 ⟨rfl, hp⟩; have HP := Lib.hid hp; have b0 := hp.blk.cell 0; simp at b0; clear hp) | fail)
  go_ret
  exact ⟨rfl, ((Below.refl w.heap.size w).alloc (Nat.le_refl _) _).trans (HP.out.below (Nat.le_refl _) (by simp))⟩

theorem place_nil (w : World) (hg : Gl w) : Calls Tryd.prog 23 #[.nilIface] w (RetI (-1) w) := by
  go_enter Tryd.func23, Tryd.ntmps23
  go_wp2_with (first | (go_at_call 44; refine (as_nil _ _).mono ?_; rintro ev w1 ⟨rfl, rfl⟩) | fail)
  go_ret
  exact ⟨rfl, (Below.refl _ _).alloc (Nat.le_refl _) _⟩
theorem place_e (e : Int) (w : World) (hg : Gl w) : Calls Tryd.prog 23 #[.iface 33 (.int .i64 e)] w (RetI (-1) w) := by
  have HG := Lib.hid (hg.alloc (.cells #[.int .i64 0, .int .i64 0] 41))
  clear hg
  go_enter Tryd.func23, Tryd.ntmps23
  go_wp2_with (first | (go_at_call 44; refine (as_f_e 0 0 e w.heap.size #[.int .i64 0, .int .i64 0] rfl _ HG.out (Blk.new _ _ _ _ rfl)).mono ?_; rintro ev w1 ⟨rfl, hb⟩; have HP := Lib.hid hb; clear hb) | fail)
  go_ret
  exact ⟨rfl, ((Below.refl w.heap.size w).alloc (Nat.le_refl _) _).trans (HP.out.mono (by simp))⟩
theorem place_f (p e : Int) (w : World) (hg : Gl w) : Calls Tryd.prog 23 #[.iface 41 (.agg #[.int .i64 p, .int .i64 e])] w (RetI p w) := by
  have HG := Lib.hid (hg.alloc (.cells #[.int .i64 0, .int .i64 0] 41))
  clear hg
  go_enter Tryd.func23, Tryd.ntmps23
  go_wp2_with (first | (go_at_call 44; refine (as_f_f 0 p e w.heap.size #[.int .i64 0, .int .i64 0] rfl _ HG.out (Blk.new _ _ _ _ rfl)).mono ?_; rintro ev w1 ⟨rfl, hp⟩; have HP := Lib.hid hp; have b0 := hp.blk.cell 0; simp at b0; clear hp) | fail)
  go_ret
  exact ⟨rfl, ((Below.refl w.heap.size w).alloc (Nat.le_refl _) _).trans (HP.out.below (Nat.le_refl _) (by simp))⟩
theorem place_be (q e : Int) (w : World) (hg : Gl w) : Calls Tryd.prog 23 #[.iface 69 (.agg #[.int .i64 q, .iface 33 (.int .i64 e)])] w (RetI (-1) w) := by
  have HG := Lib.hid (hg.alloc (.cells #[.int .i64 0, .int .i64 0] 41))
  clear hg
  go_enter Tryd.func23, Tryd.ntmps23
  go_wp2_with (first | (go_at_call 44; refine (as_f_be q 0 e w.heap.size #[.int .i64 0, .int .i64 0] rfl _ HG.out (Blk.new _ _ _ _ rfl)).mono ?_; rintro ev w1 ⟨rfl, hb⟩; have HP := Lib.hid hb; clear hb) | fail)
  go_ret
  exact ⟨rfl, ((Below.refl w.heap.size w).alloc (Nat.le_refl _) _).trans (HP.out.mono (by simp))⟩
theorem place_bf (q p e : Int) (w : World) (hg : Gl w) : Calls Tryd.prog 23 #[.iface 69 (.agg #[.int .i64 q, .iface 41 (.agg #[.int .i64 p, .int .i64 e])])] w (RetI p w) := by
  have HG := Lib.hid (hg.alloc (.cells #[.int .i64 0, .int .i64 0] 41))
  clear hg
  go_enter Tryd.func23, Tryd.ntmps23
  go_wp2_with (first | (go_at_call 44; refine (as_f_bf q p e w.heap.size #[.int .i64 0, .int .i64 0] rfl _ HG.out (Blk.new _ _ _ _ rfl)).mono ?_; rintro ev w1 ⟨rfl, hp⟩; have HP := Lib.hid hp; have b0 := hp.blk.cell 0; simp at b0; clear hp) | fail)
  go_ret
  exact ⟨rfl, ((Below.refl w.heap.size w).alloc (Nat.le_refl _) _).trans (HP.out.below (Nat.le_refl _) (by simp))⟩

theorem part_nil (w : World) (hg : Gl w) : Calls Tryd.prog 36 #[.nilIface] w (RetI (-1) w) := by
  go_enter Tryd.func36, Tryd.ntmps36
  go_wp2_with (first | (go_at_call 44; refine (as_nil _ _).mono ?_; rintro ev w1 ⟨rfl, rfl⟩) | fail)
  go_ret
  exact ⟨rfl, (Below.refl _ _).alloc (Nat.le_refl _) _⟩
theorem part_e (e : Int) (w : World) (hg : Gl w) : Calls Tryd.prog 36 #[.iface 33 (.int .i64 e)] w (RetI (-1) w) := by
  have HG := Lib.hid (hg.alloc (.cells #[.int .i64 0, .nilIface] 69))
  clear hg
  go_enter Tryd.func36, Tryd.ntmps36
  go_wp2_with (first | (go_at_call 44; refine (as_b_e 0 0 e w.heap.size #[.int .i64 0, .nilIface] rfl _ HG.out (Blk.new _ _ _ _ rfl)).mono ?_; rintro ev w1 ⟨rfl, hb⟩; have HP := Lib.hid hb; clear hb) | fail)
  go_ret
  exact ⟨rfl, ((Below.refl w.heap.size w).alloc (Nat.le_refl _) _).trans (HP.out.mono (by simp))⟩
theorem part_f (p e : Int) (w : World) (hg : Gl w) : Calls Tryd.prog 36 #[.iface 41 (.agg #[.int .i64 p, .int .i64 e])] w (RetI (-1) w) := by
  have HG := Lib.hid (hg.alloc (.cells #[.int .i64 0, .nilIface] 69))
  clear hg
  go_enter Tryd.func36, Tryd.ntmps36
  go_wp2_with (first | (go_at_call 44; refine (as_b_f 0 p e w.heap.size #[.int .i64 0, .nilIface] rfl _ HG.out (Blk.new _ _ _ _ rfl)).mono ?_; rintro ev w1 ⟨rfl, hb⟩; have HP := Lib.hid hb; clear hb) | fail)
  go_ret
  exact ⟨rfl, ((Below.refl w.heap.size w).alloc (Nat.le_refl _) _).trans (HP.out.mono (by simp))⟩
theorem part_be (q e : Int) (w : World) (hg : Gl w) : Calls Tryd.prog 36 #[.iface 69 (.agg #[.int .i64 q, .iface 33 (.int .i64 e)])] w (RetI q w) := by
  have HG := Lib.hid (hg.alloc (.cells #[.int .i64 0, .nilIface] 69))
  clear hg
  go_enter Tryd.func36, Tryd.ntmps36
  go_wp2_with (first | (go_at_call 44; refine (as_b_be q 0 e w.heap.size #[.int .i64 0, .nilIface] rfl _ HG.out (Blk.new _ _ _ _ rfl)).mono ?_; rintro ev w1 ⟨rfl, hp⟩; have HP := Lib.hid hp; have b0 := hp.blk.cell 0; simp at b0; clear hp) | fail)
  go_ret
  exact ⟨rfl, ((Below.refl w.heap.size w).alloc (Nat.le_refl _) _).trans (HP.out.below (Nat.le_refl _) (by simp))⟩
theorem part_bf (q p e : Int) (w : World) (hg : Gl w) : Calls Tryd.prog 36 #[.iface 69 (.agg #[.int .i64 q, .iface 41 (.agg #[.int .i64 p, .int .i64 e])])] w (RetI q w) := by
  have HG := Lib.hid (hg.alloc (.cells #[.int .i64 0, .nilIface] 69))
  clear hg
  go_enter Tryd.func36, Tryd.ntmps36
  go_wp2_with (first | (go_at_call 44; refine (as_b_bf q p e w.heap.size #[.int .i64 0, .nilIface] rfl _ HG.out (Blk.new _ _ _ _ rfl)).mono ?_; rintro ev w1 ⟨rfl, hp⟩; have HP := Lib.hid hp; have b0 := hp.blk.cell 0; simp at b0; clear hp) | fail)
  go_ret
  exact ⟨rfl, ((Below.refl w.heap.size w).alloc (Nat.le_refl _) _).trans (HP.out.below (Nat.le_refl _) (by simp))⟩
end Go.Proofs.YtjlfoiocceepjaaDoor
