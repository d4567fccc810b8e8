/-
  The lease (layer 18): a state that lies in a variable; awake.
-/
import Derived.Test.YtefllgpehhlkoaaLease8
import Derived.WalkArith
namespace Go.Proofs.Ytefllgpehhlkoaa
open Go.RowKit Go.Maps

/-- the variable at block b holds the state h -/
structure LVar (w : World) (b : Nat) (h : LS) (m : Option Nat) : Prop where
  box : LBox w b h.epoch h.quiet m
  hs : MapIs tripE w m h.hs
  lt : b < w.heap.size
theorem LVar.is {w : World} {b : Nat} {h : LS} {m : Option Nat} (k : LVar w b h m) : LIs w (lval h.epoch h.quiet m) h := ⟨m, rfl, k.hs⟩
theorem LVar.kept {w w' : World} {b : Nat} {h : LS} {m : Option Nat} (k : LVar w b h m) (o : Only w.heap.size w.heap.size w w') : LVar w' b h m :=
  ⟨k.box.kept o k.lt (.inl k.lt), k.hs.kept o (by omega), Nat.lt_of_lt_of_le k.lt o.size⟩
theorem LVar.new {w : World} {h : LS} {m : Option Nat} (h1 : MapIs tripE w m h.hs) : LVar (w.alloc (.cells #[.int .i64 h.epoch, .int .i64 h.quiet, .map m] 57)) w.heap.size h m :=
  ⟨LBox.of (top_at _ _ _ rfl), h1.kept ((Only.refl w.heap.size w.heap.size w).alloc _) (by omega), by simp⟩

theorem aw1 : grantL ⟨0, 0, []⟩ 5 10 1 7 = (⟨1, 0, [(1, (7, 1, 15))]⟩, 1, 0) := by
  unfold grantL
  rw [if_neg (by decide), if_neg (by decide), if_neg (by simp [lasting, mget]), if_neg (by decide)]
  rfl
theorem aw2 : grantL ⟨1, 0, [(1, (7, 1, 15))]⟩ 14 10 1 8 = (⟨1, 0, [(1, (7, 1, 15))]⟩, 0, 15) := by
  unfold grantL
  rw [if_neg (by decide), if_neg (by decide), if_pos ⟨(7, 1, 15), by rfl, by decide⟩]
theorem aw3 : grantL ⟨1, 0, [(1, (7, 1, 15))]⟩ 15 10 1 8 = (⟨2, 0, [(1, (8, 2, 25))]⟩, 2, 0) := by
  unfold grantL
  rw [if_neg (by decide), if_neg (by decide), if_neg (by simp [lasting, mget]), if_neg (by decide)]
  rfl
theorem aw4 : whoL [(1, (8, 2, 25))] 24 1 = some (8, 2, 25) := by rfl
theorem aw5 : (lasting [(1, (8, 2, 25))] 25).length = 0 := by rfl

set_option maxRecDepth 100000 in
set_option maxHeartbeats 1000000 in
theorem awake18 (w : World) : Calls Try.prog 32 #[] w fun e w' => e = .returned (.bool true) ∧ Only w.heap.size w.heap.size w w' := by
  have hO : Hid (Only w.heap.size w.heap.size w w) := Lib.hid (Only.refl _ _ _)
  go_enter Try.func32, Try.ntmps32
  go_wp2_with (first
    | (go_at_call 34; have HG := grantL_any w (lval 0 0 none) ⟨0, 0, []⟩ 5 10 1 7 ⟨none, rfl, rfl⟩ (WalkArith.wf_i64 (by decide)) (by decide) (by decide); unfold lval at HG; (with_reducible refine HG.mono ?_); clear HG; rw [aw1]; rintro e W1 ⟨v, rfl, ⟨m1, rfl, x1'⟩, ho'⟩; have V1 := Lib.hid (LVar.new (h := ⟨1, 0, [(1, (7, 1, 15))]⟩) x1'); have o1 := Lib.hid (hO.out.then ho' (Nat.le_refl _)); clear x1' ho'; unfold lval)
    | (go_at_call 34; have HG := grantL_any _ (lval 1 0 m1) ⟨1, 0, [(1, (7, 1, 15))]⟩ 14 10 1 8 V1.out.is (WalkArith.wf_i64 (by decide)) (by decide) (by decide); unfold lval at HG; (with_reducible refine HG.mono ?_); clear HG; rw [aw2]; rintro e W2 ⟨v, rfl, ⟨m2, rfl, x2'⟩, ho'⟩; have V2 := Lib.hid (V1.out.kept (ho'.alloc (.cells #[.int .i64 1, .int .i64 0, .map m2] 57))); have o2 := Lib.hid (((o1.out.alloc _).then ho' (Nat.le_trans o1.out.size (by simp))).alloc (.cells #[.int .i64 1, .int .i64 0, .map m2] 57)); obtain ⟨c0, c1, c2, cf⟩ := V2.out.box; clear x2' ho'; unfold lval)
    | (go_at_call 34; have HG := grantL_any _ (lval 1 0 m1) ⟨1, 0, [(1, (7, 1, 15))]⟩ 15 10 1 8 V2.out.is (WalkArith.wf_i64 (by decide)) (by decide) (by decide); unfold lval at HG; (with_reducible refine HG.mono ?_); clear HG; rw [aw3]; rintro e W3 ⟨v, rfl, ⟨m3, rfl, x3'⟩, ho'⟩; have V3 := Lib.hid (LVar.new (h := ⟨2, 0, [(1, (8, 2, 25))]⟩) x3'); have o3 := Lib.hid ((o2.out.then ho' o2.out.size).alloc (.cells #[.int .i64 2, .int .i64 0, .map m3] 57)); clear x3' ho'; unfold lval)
    | (go_at_call 41; have HG := who_any _ 2 0 24 1 m3 _ V3.out.hs (WalkArith.wf_i64 (by decide)); unfold lval at HG; (with_reducible refine HG.mono ?_); clear HG; unfold Whoed; rw [aw4]; dsimp only [Option.getD, Option.isSome, tripE]; rintro e W4 ⟨rfl, ho'⟩; have V4 := Lib.hid (V3.out.kept (ho'.alloc (.cells #[.int .i64 8, .int .i64 2, .int .i64 25] 82))); have o4 := Lib.hid ((o3.out.then ho' o3.out.size).alloc (.cells #[.int .i64 8, .int .i64 2, .int .i64 25] 82)); obtain ⟨d0, d1, d2, df⟩ := V4.out.box; clear ho')
    | (go_at_call 35; have HG := count_any _ 2 0 25 m3 _ V4.out.hs (by decide); unfold lval at HG; (with_reducible refine HG.mono ?_); clear HG; rw [aw5]; rintro e W5 ⟨rfl, ho'⟩; have o5 := Lib.hid (o4.out.then ho' o4.out.size); clear ho')
    | fail)
  go_ret
  exact ⟨rfl, o5.out⟩
end Go.Proofs.Ytefllgpehhlkoaa
