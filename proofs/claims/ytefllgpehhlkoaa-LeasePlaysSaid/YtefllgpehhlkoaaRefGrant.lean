/-
  The document's lease (tillerref18): Grant.
-/
import Derived.Test.YtefllgpehhlkoaaRefLet
import Derived.IntWalk
namespace Go.Proofs.Ytefllgpehhlkoaa
open Go.RowKit Go.Maps
set_option linter.unusedVariables false

/-- what the document's Grant leaves -/
def GrantR (w : World) (base : Nat) (v0 : Value) (r : LS × Int × Int) (e : Ending) (w' : World) : Prop :=
  ∃ v, e = .returned (.tuple #[xval r.1.epoch r.1.quiet v, .int .i64 r.2.1, .int .i64 r.2.2]) ∧ OwnS hold4 w' base v r.1.hs ∧ (v = v0 ∨ OwnS hold4 w' w.heap.size v r.1.hs) ∧ Only w.heap.size w.heap.size w w'

set_option maxRecDepth 100000 in
set_option maxHeartbeats 1000000 in
theorem grantR_arg0 (w : World) (epoch quiet now term place holder : Int) (v : Value) (l : Trips) (base : Nat) (hbase : base ≤ w.heap.size) (h : OwnS hold4 w base v l) (hd0 : decide (term < 1) = true) (he : grantL ⟨epoch, quiet, l⟩ now term place holder = (⟨epoch, quiet, l⟩, 0, 1)) :
    Calls Try.prog 37 #[.agg #[.int .i64 epoch, .int .i64 quiet, v], .int .i64 now, .int .i64 term, .int .i64 place, .int .i64 holder] w (GrantR w base v (grantL ⟨epoch, quiet, l⟩ now term place holder)) := by
  have hO : Hid (Only w.heap.size w.heap.size w w) := Lib.hid (Only.refl _ _ _)
  obtain ⟨a, n, c, rfl⟩ := own_val h
  have HOW := Lib.hid h
  have HBA := Lib.hid hbase
  have H := Lib.hid h.reads
  have HE := Lib.hid he
  clear h he hbase
  go_enter Try.func37, Try.ntmps37
  go_wp2_with fail
  refine bodyPost_ret (v := .tuple #[xval epoch quiet (.slice a n c), .int .i64 0, .int .i64 1]) (by simp [results, Try.results37, go_sem, xval]) rfl ?_
  rw [HE.out]
  exact ⟨_, rfl, HOW.out.grown ((hO.out.alloc _).alloc _), .inl rfl, (hO.out.alloc _).alloc _⟩

set_option maxRecDepth 100000 in
set_option maxHeartbeats 1000000 in
theorem grantR_arg1 (w : World) (epoch quiet now term place holder : Int) (v : Value) (l : Trips) (base : Nat) (hbase : base ≤ w.heap.size) (h : OwnS hold4 w base v l) (hd0 : decide (term < 1) = false) (hd1 : decide (1048576 < term) = true) (he : grantL ⟨epoch, quiet, l⟩ now term place holder = (⟨epoch, quiet, l⟩, 0, 1)) :
    Calls Try.prog 37 #[.agg #[.int .i64 epoch, .int .i64 quiet, v], .int .i64 now, .int .i64 term, .int .i64 place, .int .i64 holder] w (GrantR w base v (grantL ⟨epoch, quiet, l⟩ now term place holder)) := by
  have hO : Hid (Only w.heap.size w.heap.size w w) := Lib.hid (Only.refl _ _ _)
  obtain ⟨a, n, c, rfl⟩ := own_val h
  have HOW := Lib.hid h
  have HBA := Lib.hid hbase
  have H := Lib.hid h.reads
  have HE := Lib.hid he
  clear h he hbase
  go_enter Try.func37, Try.ntmps37
  go_wp2_with fail
  refine bodyPost_ret (v := .tuple #[xval epoch quiet (.slice a n c), .int .i64 0, .int .i64 1]) (by simp [results, Try.results37, go_sem, xval]) rfl ?_
  rw [HE.out]
  exact ⟨_, rfl, HOW.out.grown ((hO.out.alloc _).alloc _), .inl rfl, (hO.out.alloc _).alloc _⟩

set_option maxRecDepth 100000 in
set_option maxHeartbeats 1000000 in
theorem grantR_arg2 (w : World) (epoch quiet now term place holder : Int) (v : Value) (l : Trips) (base : Nat) (hbase : base ≤ w.heap.size) (h : OwnS hold4 w base v l) (hd0 : decide (term < 1) = false) (hd1 : decide (1048576 < term) = false) (hd2 : decide (now < 0) = true) (he : grantL ⟨epoch, quiet, l⟩ now term place holder = (⟨epoch, quiet, l⟩, 0, 1)) :
    Calls Try.prog 37 #[.agg #[.int .i64 epoch, .int .i64 quiet, v], .int .i64 now, .int .i64 term, .int .i64 place, .int .i64 holder] w (GrantR w base v (grantL ⟨epoch, quiet, l⟩ now term place holder)) := by
  have hO : Hid (Only w.heap.size w.heap.size w w) := Lib.hid (Only.refl _ _ _)
  obtain ⟨a, n, c, rfl⟩ := own_val h
  have HOW := Lib.hid h
  have HBA := Lib.hid hbase
  have H := Lib.hid h.reads
  have HE := Lib.hid he
  clear h he hbase
  go_enter Try.func37, Try.ntmps37
  go_wp2_with fail
  refine bodyPost_ret (v := .tuple #[xval epoch quiet (.slice a n c), .int .i64 0, .int .i64 1]) (by simp [results, Try.results37, go_sem, xval]) rfl ?_
  rw [HE.out]
  exact ⟨_, rfl, HOW.out.grown ((hO.out.alloc _).alloc _), .inl rfl, (hO.out.alloc _).alloc _⟩

set_option maxRecDepth 100000 in
set_option maxHeartbeats 1000000 in
theorem grantR_arg3 (w : World) (epoch quiet now term place holder : Int) (v : Value) (l : Trips) (base : Nat) (hbase : base ≤ w.heap.size) (h : OwnS hold4 w base v l) (hd0 : decide (term < 1) = false) (hd1 : decide (1048576 < term) = false) (hd2 : decide (now < 0) = false) (hd3 : decide (1099511627776 < now) = true) (he : grantL ⟨epoch, quiet, l⟩ now term place holder = (⟨epoch, quiet, l⟩, 0, 1)) :
    Calls Try.prog 37 #[.agg #[.int .i64 epoch, .int .i64 quiet, v], .int .i64 now, .int .i64 term, .int .i64 place, .int .i64 holder] w (GrantR w base v (grantL ⟨epoch, quiet, l⟩ now term place holder)) := by
  have hO : Hid (Only w.heap.size w.heap.size w w) := Lib.hid (Only.refl _ _ _)
  obtain ⟨a, n, c, rfl⟩ := own_val h
  have HOW := Lib.hid h
  have HBA := Lib.hid hbase
  have H := Lib.hid h.reads
  have HE := Lib.hid he
  clear h he hbase
  go_enter Try.func37, Try.ntmps37
  go_wp2_with fail
  refine bodyPost_ret (v := .tuple #[xval epoch quiet (.slice a n c), .int .i64 0, .int .i64 1]) (by simp [results, Try.results37, go_sem, xval]) rfl ?_
  rw [HE.out]
  exact ⟨_, rfl, HOW.out.grown ((hO.out.alloc _).alloc _), .inl rfl, (hO.out.alloc _).alloc _⟩

set_option maxRecDepth 100000 in
set_option maxHeartbeats 1000000 in
theorem grantR_arg4 (w : World) (epoch quiet now term place holder : Int) (v : Value) (l : Trips) (base : Nat) (hbase : base ≤ w.heap.size) (h : OwnS hold4 w base v l) (hd0 : decide (term < 1) = false) (hd1 : decide (1048576 < term) = false) (hd2 : decide (now < 0) = false) (hd3 : decide (1099511627776 < now) = false) (hd4 : decide (holder < 0) = true) (he : grantL ⟨epoch, quiet, l⟩ now term place holder = (⟨epoch, quiet, l⟩, 0, 1)) :
    Calls Try.prog 37 #[.agg #[.int .i64 epoch, .int .i64 quiet, v], .int .i64 now, .int .i64 term, .int .i64 place, .int .i64 holder] w (GrantR w base v (grantL ⟨epoch, quiet, l⟩ now term place holder)) := by
  have hO : Hid (Only w.heap.size w.heap.size w w) := Lib.hid (Only.refl _ _ _)
  obtain ⟨a, n, c, rfl⟩ := own_val h
  have HOW := Lib.hid h
  have HBA := Lib.hid hbase
  have H := Lib.hid h.reads
  have HE := Lib.hid he
  clear h he hbase
  go_enter Try.func37, Try.ntmps37
  go_wp2_with fail
  refine bodyPost_ret (v := .tuple #[xval epoch quiet (.slice a n c), .int .i64 0, .int .i64 1]) (by simp [results, Try.results37, go_sem, xval]) rfl ?_
  rw [HE.out]
  exact ⟨_, rfl, HOW.out.grown ((hO.out.alloc _).alloc _), .inl rfl, (hO.out.alloc _).alloc _⟩

set_option maxRecDepth 100000 in
set_option maxHeartbeats 1000000 in
theorem grantR_late (w : World) (epoch quiet now term place holder : Int) (v : Value) (l : Trips) (base : Nat) (hbase : base ≤ w.heap.size) (h : OwnS hold4 w base v l) (hd0 : decide (term < 1) = false) (hd1 : decide (1048576 < term) = false) (hd2 : decide (now < 0) = false) (hd3 : decide (1099511627776 < now) = false) (hd4 : decide (holder < 0) = false) (hq : decide (now < quiet) = true) (he : grantL ⟨epoch, quiet, l⟩ now term place holder = (⟨epoch, quiet, l⟩, 0, 16)) :
    Calls Try.prog 37 #[.agg #[.int .i64 epoch, .int .i64 quiet, v], .int .i64 now, .int .i64 term, .int .i64 place, .int .i64 holder] w (GrantR w base v (grantL ⟨epoch, quiet, l⟩ now term place holder)) := by
  have hO : Hid (Only w.heap.size w.heap.size w w) := Lib.hid (Only.refl _ _ _)
  obtain ⟨a, n, c, rfl⟩ := own_val h
  have HOW := Lib.hid h
  have HBA := Lib.hid hbase
  have H := Lib.hid h.reads
  have HE := Lib.hid he
  clear h he hbase
  go_enter Try.func37, Try.ntmps37
  go_wp2_with fail
  refine bodyPost_ret (v := .tuple #[xval epoch quiet (.slice a n c), .int .i64 0, .int .i64 16]) (by simp [results, Try.results37, go_sem, xval]) rfl ?_
  rw [HE.out]
  exact ⟨_, rfl, HOW.out.grown ((hO.out.alloc _).alloc _), .inl rfl, (hO.out.alloc _).alloc _⟩

set_option maxRecDepth 100000 in
set_option maxHeartbeats 1000000 in
theorem grantR_busy (w : World) (epoch quiet now term place holder : Int) (v : Value) (l : Trips) (base : Nat) (hbase : base ≤ w.heap.size) (h : OwnS hold4 w base v l) (hd0 : decide (term < 1) = false) (hd1 : decide (1048576 < term) = false) (hd2 : decide (now < 0) = false) (hd3 : decide (1099511627776 < now) = false) (hd4 : decide (holder < 0) = false) (hq : decide (now < quiet) = false) (x0 x1 x2 : Int) (hx : (x0 != holder) = true) (hf : findR l now place = some (place, (x0, x1, x2))) (he : grantL ⟨epoch, quiet, l⟩ now term place holder = (⟨epoch, quiet, l⟩, 0, 15)) :
    Calls Try.prog 37 #[.agg #[.int .i64 epoch, .int .i64 quiet, v], .int .i64 now, .int .i64 term, .int .i64 place, .int .i64 holder] w (GrantR w base v (grantL ⟨epoch, quiet, l⟩ now term place holder)) := by
  have hO : Hid (Only w.heap.size w.heap.size w w) := Lib.hid (Only.refl _ _ _)
  obtain ⟨a, n, c, rfl⟩ := own_val h
  have HOW := Lib.hid h
  have HBA := Lib.hid hbase
  have H := Lib.hid h.reads
  have HX : Hid (∀ W, Only ((w.alloc (.cells #[.int .i64 epoch, .int .i64 quiet, .slice a n c] 59)).alloc (.cells #[.int .i64 0, .int .i64 0, .slice none 0 0] 59)).heap.size ((w.alloc (.cells #[.int .i64 epoch, .int .i64 quiet, .slice a n c] 59)).alloc (.cells #[.int .i64 0, .int .i64 0, .slice none 0 0] 59)).heap.size ((w.alloc (.cells #[.int .i64 epoch, .int .i64 quiet, .slice a n c] 59)).alloc (.cells #[.int .i64 0, .int .i64 0, .slice none 0 0] 59)) W → XBox W w.heap.size epoch quiet (.slice a n c) ∧ XBox W (w.heap.size + 1) 0 0 (.slice none 0 0)) := Lib.hid (fun W o => by
    refine ⟨(XBox.of ((low_at _ _ _ (by simp)).trans (top_at _ _ _ rfl))).kept o (by simp; omega) (.inl (by simp; omega)), (XBox.of (top_at _ _ _ (by simp))).kept o (by simp) (.inl (by simp))⟩)
  have HE := Lib.hid he
  clear h he hbase
  have HF : Hid (∀ W, Only w.heap.size w.heap.size w W → Calls Try.prog 56 #[.agg #[.int .i64 epoch, .int .i64 quiet, .slice a n c], .int .i64 now, .int .i64 place] W (Found W (findR l now place))) := Lib.hid (fun W o => find_any W epoch quiet now place _ l (H.out.kept o))
  have HFR := Lib.hid hf
  clear hf
  go_enter Try.func37, Try.ntmps37
  go_wp2_with (first
    | (go_at_call 56; refine (HF.out _ ((hO.out.alloc _).alloc _)).mono ?_; unfold Found; rw [HFR.out]; dsimp only [Option.getD, Option.isSome, rec4, zrec]; rintro e W1 ⟨rfl, ho1⟩; have o1 := Lib.hid ((((hO.out.alloc _).alloc _).then ho1 (by simp; omega)).alloc (.cells #[.int .i64 place, .int .i64 x0, .int .i64 x1, .int .i64 x2] 71)); have oX := Lib.hid (ho1.alloc (.cells #[.int .i64 place, .int .i64 x0, .int .i64 x1, .int .i64 x2] 71)); have HB := Lib.hid (HX.out _ oX.out); obtain ⟨⟨b0, b1, b2, _⟩, ⟨r0, r1, r2, rf⟩⟩ := HB.out; have rf0 := rf 0; have rf1 := rf 1; have rf2 := rf 2; clear rf ho1)
    | fail)
  have hE := HB.out.2.three (e' := epoch) (q' := quiet) (v' := .slice a n c)
  have hEO := xthree_only (W1.alloc (.cells #[.int .i64 place, .int .i64 x0, .int .i64 x1, .int .i64 x2] 71)) (w.heap.size + 1) epoch quiet (.slice a n c)
  unfold World.xthree at hE hEO
  obtain ⟨k0, k1, k2, _⟩ := hE
  refine bodyPost_ret (v := .tuple #[xval epoch quiet (.slice a n c), .int .i64 0, .int .i64 15]) (by simp [results, Try.results37, go_sem, xval, k0, k1, k2]) rfl ?_
  rw [HE.out]
  have oF := o1.out.fresh (hEO.mono (by omega) (Nat.le_refl _))
  exact ⟨_, rfl, HOW.out.grown oF, .inl rfl, oF⟩

set_option maxRecDepth 100000 in
set_option maxHeartbeats 1000000 in
theorem grantR_big0 (w : World) (epoch quiet now term place holder : Int) (v : Value) (l : Trips) (base : Nat) (hbase : base ≤ w.heap.size) (h : OwnS hold4 w base v l) (hd0 : decide (term < 1) = false) (hd1 : decide (1048576 < term) = false) (hd2 : decide (now < 0) = false) (hd3 : decide (1099511627776 < now) = false) (hd4 : decide (holder < 0) = false) (hq : decide (now < quiet) = false) (hb : decide (1099511627776 ≤ epoch) = true) (hf : findR l now place = none) (he : grantL ⟨epoch, quiet, l⟩ now term place holder = (⟨epoch, quiet, l⟩, 0, 2)) :
    Calls Try.prog 37 #[.agg #[.int .i64 epoch, .int .i64 quiet, v], .int .i64 now, .int .i64 term, .int .i64 place, .int .i64 holder] w (GrantR w base v (grantL ⟨epoch, quiet, l⟩ now term place holder)) := by
  have hO : Hid (Only w.heap.size w.heap.size w w) := Lib.hid (Only.refl _ _ _)
  obtain ⟨a, n, c, rfl⟩ := own_val h
  have HOW := Lib.hid h
  have HBA := Lib.hid hbase
  have H := Lib.hid h.reads
  have HX : Hid (∀ W, Only ((w.alloc (.cells #[.int .i64 epoch, .int .i64 quiet, .slice a n c] 59)).alloc (.cells #[.int .i64 0, .int .i64 0, .slice none 0 0] 59)).heap.size ((w.alloc (.cells #[.int .i64 epoch, .int .i64 quiet, .slice a n c] 59)).alloc (.cells #[.int .i64 0, .int .i64 0, .slice none 0 0] 59)).heap.size ((w.alloc (.cells #[.int .i64 epoch, .int .i64 quiet, .slice a n c] 59)).alloc (.cells #[.int .i64 0, .int .i64 0, .slice none 0 0] 59)) W → XBox W w.heap.size epoch quiet (.slice a n c) ∧ XBox W (w.heap.size + 1) 0 0 (.slice none 0 0)) := Lib.hid (fun W o => by
    refine ⟨(XBox.of ((low_at _ _ _ (by simp)).trans (top_at _ _ _ rfl))).kept o (by simp; omega) (.inl (by simp; omega)), (XBox.of (top_at _ _ _ (by simp))).kept o (by simp) (.inl (by simp))⟩)
  have HE := Lib.hid he
  clear h he hbase
  have HF : Hid (∀ W, Only w.heap.size w.heap.size w W → Calls Try.prog 56 #[.agg #[.int .i64 epoch, .int .i64 quiet, .slice a n c], .int .i64 now, .int .i64 place] W (Found W (findR l now place))) := Lib.hid (fun W o => find_any W epoch quiet now place _ l (H.out.kept o))
  have HFR := Lib.hid hf
  clear hf
  go_enter Try.func37, Try.ntmps37
  go_wp2_with (first
    | (go_at_call 56; refine (HF.out _ ((hO.out.alloc _).alloc _)).mono ?_; unfold Found; rw [HFR.out]; dsimp only [Option.getD, Option.isSome, rec4, zrec]; rintro e W1 ⟨rfl, ho1⟩; have o1 := Lib.hid ((((hO.out.alloc _).alloc _).then ho1 (by simp; omega)).alloc (.cells #[.int .i64 0, .int .i64 0, .int .i64 0, .int .i64 0] 71)); have oX := Lib.hid (ho1.alloc (.cells #[.int .i64 0, .int .i64 0, .int .i64 0, .int .i64 0] 71)); have HB := Lib.hid (HX.out _ oX.out); obtain ⟨⟨b0, b1, b2, _⟩, ⟨r0, r1, r2, rf⟩⟩ := HB.out; have rf0 := rf 0; have rf1 := rf 1; have rf2 := rf 2; clear rf ho1)
    | fail)
  have hE := HB.out.2.three (e' := epoch) (q' := quiet) (v' := .slice a n c)
  have hEO := xthree_only (W1.alloc (.cells #[.int .i64 0, .int .i64 0, .int .i64 0, .int .i64 0] 71)) (w.heap.size + 1) epoch quiet (.slice a n c)
  unfold World.xthree at hE hEO
  obtain ⟨k0, k1, k2, _⟩ := hE
  refine bodyPost_ret (v := .tuple #[xval epoch quiet (.slice a n c), .int .i64 0, .int .i64 2]) (by simp [results, Try.results37, go_sem, xval, k0, k1, k2]) rfl ?_
  rw [HE.out]
  have oF := o1.out.fresh (hEO.mono (by omega) (Nat.le_refl _))
  exact ⟨_, rfl, HOW.out.grown oF, .inl rfl, oF⟩

set_option maxRecDepth 100000 in
set_option maxHeartbeats 1000000 in
theorem grantR_big1 (w : World) (epoch quiet now term place holder : Int) (v : Value) (l : Trips) (base : Nat) (hbase : base ≤ w.heap.size) (h : OwnS hold4 w base v l) (hd0 : decide (term < 1) = false) (hd1 : decide (1048576 < term) = false) (hd2 : decide (now < 0) = false) (hd3 : decide (1099511627776 < now) = false) (hd4 : decide (holder < 0) = false) (hq : decide (now < quiet) = false) (x0 x1 x2 : Int) (hx : (x0 != holder) = false) (hb : decide (1099511627776 ≤ epoch) = true) (hf : findR l now place = some (place, (x0, x1, x2))) (he : grantL ⟨epoch, quiet, l⟩ now term place holder = (⟨epoch, quiet, l⟩, 0, 2)) :
    Calls Try.prog 37 #[.agg #[.int .i64 epoch, .int .i64 quiet, v], .int .i64 now, .int .i64 term, .int .i64 place, .int .i64 holder] w (GrantR w base v (grantL ⟨epoch, quiet, l⟩ now term place holder)) := by
  have hO : Hid (Only w.heap.size w.heap.size w w) := Lib.hid (Only.refl _ _ _)
  obtain ⟨a, n, c, rfl⟩ := own_val h
  have HOW := Lib.hid h
  have HBA := Lib.hid hbase
  have H := Lib.hid h.reads
  have HX : Hid (∀ W, Only ((w.alloc (.cells #[.int .i64 epoch, .int .i64 quiet, .slice a n c] 59)).alloc (.cells #[.int .i64 0, .int .i64 0, .slice none 0 0] 59)).heap.size ((w.alloc (.cells #[.int .i64 epoch, .int .i64 quiet, .slice a n c] 59)).alloc (.cells #[.int .i64 0, .int .i64 0, .slice none 0 0] 59)).heap.size ((w.alloc (.cells #[.int .i64 epoch, .int .i64 quiet, .slice a n c] 59)).alloc (.cells #[.int .i64 0, .int .i64 0, .slice none 0 0] 59)) W → XBox W w.heap.size epoch quiet (.slice a n c) ∧ XBox W (w.heap.size + 1) 0 0 (.slice none 0 0)) := Lib.hid (fun W o => by
    refine ⟨(XBox.of ((low_at _ _ _ (by simp)).trans (top_at _ _ _ rfl))).kept o (by simp; omega) (.inl (by simp; omega)), (XBox.of (top_at _ _ _ (by simp))).kept o (by simp) (.inl (by simp))⟩)
  have HE := Lib.hid he
  clear h he hbase
  have HF : Hid (∀ W, Only w.heap.size w.heap.size w W → Calls Try.prog 56 #[.agg #[.int .i64 epoch, .int .i64 quiet, .slice a n c], .int .i64 now, .int .i64 place] W (Found W (findR l now place))) := Lib.hid (fun W o => find_any W epoch quiet now place _ l (H.out.kept o))
  have HFR := Lib.hid hf
  clear hf
  go_enter Try.func37, Try.ntmps37
  go_wp2_with (first
    | (go_at_call 56; refine (HF.out _ ((hO.out.alloc _).alloc _)).mono ?_; unfold Found; rw [HFR.out]; dsimp only [Option.getD, Option.isSome, rec4, zrec]; rintro e W1 ⟨rfl, ho1⟩; have o1 := Lib.hid ((((hO.out.alloc _).alloc _).then ho1 (by simp; omega)).alloc (.cells #[.int .i64 place, .int .i64 x0, .int .i64 x1, .int .i64 x2] 71)); have oX := Lib.hid (ho1.alloc (.cells #[.int .i64 place, .int .i64 x0, .int .i64 x1, .int .i64 x2] 71)); have HB := Lib.hid (HX.out _ oX.out); obtain ⟨⟨b0, b1, b2, _⟩, ⟨r0, r1, r2, rf⟩⟩ := HB.out; have rf0 := rf 0; have rf1 := rf 1; have rf2 := rf 2; clear rf ho1)
    | fail)
  have hE := HB.out.2.three (e' := epoch) (q' := quiet) (v' := .slice a n c)
  have hEO := xthree_only (W1.alloc (.cells #[.int .i64 place, .int .i64 x0, .int .i64 x1, .int .i64 x2] 71)) (w.heap.size + 1) epoch quiet (.slice a n c)
  unfold World.xthree at hE hEO
  obtain ⟨k0, k1, k2, _⟩ := hE
  refine bodyPost_ret (v := .tuple #[xval epoch quiet (.slice a n c), .int .i64 0, .int .i64 2]) (by simp [results, Try.results37, go_sem, xval, k0, k1, k2]) rfl ?_
  rw [HE.out]
  have oF := o1.out.fresh (hEO.mono (by omega) (Nat.le_refl _))
  exact ⟨_, rfl, HOW.out.grown oF, .inl rfl, oF⟩

set_option maxRecDepth 100000 in
set_option maxHeartbeats 1000000 in
theorem grantR_ok0 (w : World) (epoch quiet now term place holder : Int) (v : Value) (l : Trips) (base : Nat) (hbase : base ≤ w.heap.size) (h : OwnS hold4 w base v l) (hll : l.length ≤ 10000) (hle : -9223372036854775808 ≤ epoch ∧ epoch ≤ 1099511627776) (hln : 0 ≤ now ∧ now ≤ 1099511627776) (hlt : 1 ≤ term ∧ term ≤ 1048576) (hd0 : decide (term < 1) = false) (hd1 : decide (1048576 < term) = false) (hd2 : decide (now < 0) = false) (hd3 : decide (1099511627776 < now) = false) (hd4 : decide (holder < 0) = false) (hq : decide (now < quiet) = false)  (hb : decide (1099511627776 ≤ epoch) = false) (hf : findR l now place = none) (he : grantL ⟨epoch, quiet, l⟩ now term place holder = (⟨epoch + 1, quiet, mput (lasting l now) place (holder, epoch + 1, now + term)⟩, epoch + 1, 0)) :
    Calls Try.prog 37 #[.agg #[.int .i64 epoch, .int .i64 quiet, v], .int .i64 now, .int .i64 term, .int .i64 place, .int .i64 holder] w (GrantR w base v (grantL ⟨epoch, quiet, l⟩ now term place holder)) := by
  have hO : Hid (Only w.heap.size w.heap.size w w) := Lib.hid (Only.refl _ _ _)
  obtain ⟨a, n, c, rfl⟩ := own_val h
  have HOW := Lib.hid h
  have HBA := Lib.hid hbase
  have H := Lib.hid h.reads
  have HX : Hid (∀ W, Only ((w.alloc (.cells #[.int .i64 epoch, .int .i64 quiet, .slice a n c] 59)).alloc (.cells #[.int .i64 0, .int .i64 0, .slice none 0 0] 59)).heap.size ((w.alloc (.cells #[.int .i64 epoch, .int .i64 quiet, .slice a n c] 59)).alloc (.cells #[.int .i64 0, .int .i64 0, .slice none 0 0] 59)).heap.size ((w.alloc (.cells #[.int .i64 epoch, .int .i64 quiet, .slice a n c] 59)).alloc (.cells #[.int .i64 0, .int .i64 0, .slice none 0 0] 59)) W → XBox W w.heap.size epoch quiet (.slice a n c) ∧ XBox W (w.heap.size + 1) 0 0 (.slice none 0 0)) := Lib.hid (fun W o => by
    refine ⟨(XBox.of ((low_at _ _ _ (by simp)).trans (top_at _ _ _ rfl))).kept o (by simp; omega) (.inl (by simp; omega)), (XBox.of (top_at _ _ _ (by simp))).kept o (by simp) (.inl (by simp))⟩)
  have HE := Lib.hid he
  clear h he hbase
  have HF : Hid (∀ W, Only w.heap.size w.heap.size w W → Calls Try.prog 56 #[.agg #[.int .i64 epoch, .int .i64 quiet, .slice a n c], .int .i64 now, .int .i64 place] W (Found W (findR l now place))) := Lib.hid (fun W o => find_any W epoch quiet now place _ l (H.out.kept o))
  have HFR := Lib.hid hf
  clear hf
  have hm0 : ((now + term) == 0) = false := by simp; omega
  have HM := Lib.hid hm0
  have hw1 : IntKind.i64.wrap (epoch + 1) = epoch + 1 := IntWalk.i64_in _ (by omega)
  have hw2 : IntKind.i64.wrap (now + term) = now + term := IntWalk.i64_in _ (by omega)
  clear hle hln hlt hm0
  go_enter Try.func37, Try.ntmps37
  go_wp2_with (first
    | (go_at_call 56; refine (HF.out _ ((hO.out.alloc _).alloc _)).mono ?_; unfold Found; rw [HFR.out]; dsimp only [Option.getD, Option.isSome, rec4, zrec]; rintro e W1 ⟨rfl, ho1⟩; have o1 := Lib.hid ((((hO.out.alloc _).alloc _).then ho1 (by simp; omega)).alloc (.cells #[.int .i64 0, .int .i64 0, .int .i64 0, .int .i64 0] 71)); have oX := Lib.hid (ho1.alloc (.cells #[.int .i64 0, .int .i64 0, .int .i64 0, .int .i64 0] 71)); have HB := Lib.hid (HX.out _ oX.out); obtain ⟨⟨b0, b1, b2, _⟩, ⟨r0, r1, r2, rf⟩⟩ := HB.out; have rf0 := rf 0; have rf1 := rf 1; have rf2 := rf 2; clear rf ho1)
    | (go_at_call 57; refine (with_put _ epoch quiet now place _ l (H.out.kept o1.out) hll place holder (epoch + 1) (now + term) HM.out rfl).mono ?_; rintro e W2 ⟨v2, rfl, hr2, ho2⟩; obtain ⟨a2, n2, c2, rfl⟩ := own_val hr2; have HR2 := Lib.hid hr2; have o2 := Lib.hid ((o1.out.then ho2 o1.out.size).alloc (.cells #[.int .i64 (epoch + 1), .int .i64 quiet, .slice a2 n2 c2] 59)); have HB2 := Lib.hid (HX.out _ ((oX.out.then ho2 oX.out.size).alloc (.cells #[.int .i64 epoch, .int .i64 quiet, .slice a2 n2 c2] 59))); have HB3 := Lib.hid (HX.out _ ((oX.out.then ho2 oX.out.size).alloc (.cells #[.int .i64 (epoch + 1), .int .i64 quiet, .slice a2 n2 c2] 59))); have HZ2 : Hid (w.heap.size + 2 ≤ W2.heap.size) := Lib.hid (by have h1 := oX.out.size; have h2 := ho2.size; simp at h1 h2; omega); clear b0 b1 b2 r0 r1 r2 rf0 rf1 rf2 hr2 ho2; obtain ⟨⟨b0, b1, b2, _⟩, ⟨r0, r1, r2, rf⟩⟩ := HB2.out; have rf0 := rf 0; have rf1 := rf 1; have rf2 := rf 2; clear rf; unfold xval)
    | fail)
  clear b0 b1 b2 r0 r1 r2 rf0 rf1 rf2
  obtain ⟨_, ⟨r0, r1, r2, rf⟩⟩ := HB3.out
  have rf0 := rf 0
  have rf1 := rf 1
  have rf2 := rf 2
  clear rf
  have hz := HZ2.out
  have hne : ¬ (w.heap.size + 1 = W2.heap.size) := by omega
  have hne2 : ¬ (W2.heap.size = w.heap.size + 1) := by omega
  clear hz
  go_region_with fail
  all_goals go_wp2
  all_goals
    have hE := HB3.out.2.three (e' := epoch + 1) (q' := quiet) (v' := .slice a2 n2 c2)
    have hEO := xthree_only (W2.alloc (.cells #[.int .i64 (epoch + 1), .int .i64 quiet, .slice a2 n2 c2] 59)) (w.heap.size + 1) (epoch + 1) quiet (.slice a2 n2 c2)
    unfold World.xthree at hE hEO
    obtain ⟨k0, k1, k2, _⟩ := hE
    refine bodyPost_ret (v := .tuple #[xval (epoch + 1) quiet (.slice a2 n2 c2), .int .i64 (epoch + 1), .int .i64 0]) (by simp [results, Try.results37, go_sem, xval, k0, k1, k2]) rfl ?_
    rw [HE.out]
    have hF := (HR2.out.grown ((Only.refl _ _ W2).alloc (.cells #[.int .i64 (epoch + 1), .int .i64 quiet, .slice a2 n2 c2] 59))).keptOnly hEO.drew (by have := oX.out.size; simp at this; simp; omega)
    exact ⟨_, rfl, hF.mono (Nat.le_trans HBA.out o1.out.size), .inr (hF.mono o1.out.size), (o2.out.fresh (hEO.mono (by omega) (Nat.le_refl _))).drew⟩

set_option maxRecDepth 100000 in
set_option maxHeartbeats 1000000 in
theorem grantR_ok1 (w : World) (epoch quiet now term place holder : Int) (v : Value) (l : Trips) (base : Nat) (hbase : base ≤ w.heap.size) (h : OwnS hold4 w base v l) (hll : l.length ≤ 10000) (hle : -9223372036854775808 ≤ epoch ∧ epoch ≤ 1099511627776) (hln : 0 ≤ now ∧ now ≤ 1099511627776) (hlt : 1 ≤ term ∧ term ≤ 1048576) (hd0 : decide (term < 1) = false) (hd1 : decide (1048576 < term) = false) (hd2 : decide (now < 0) = false) (hd3 : decide (1099511627776 < now) = false) (hd4 : decide (holder < 0) = false) (hq : decide (now < quiet) = false) (x0 x1 x2 : Int) (hx : (x0 != holder) = false) (hb : decide (1099511627776 ≤ epoch) = false) (hf : findR l now place = some (place, (x0, x1, x2))) (he : grantL ⟨epoch, quiet, l⟩ now term place holder = (⟨epoch + 1, quiet, mput (lasting l now) place (holder, epoch + 1, now + term)⟩, epoch + 1, 0)) :
    Calls Try.prog 37 #[.agg #[.int .i64 epoch, .int .i64 quiet, v], .int .i64 now, .int .i64 term, .int .i64 place, .int .i64 holder] w (GrantR w base v (grantL ⟨epoch, quiet, l⟩ now term place holder)) := by
  have hO : Hid (Only w.heap.size w.heap.size w w) := Lib.hid (Only.refl _ _ _)
  obtain ⟨a, n, c, rfl⟩ := own_val h
  have HOW := Lib.hid h
  have HBA := Lib.hid hbase
  have H := Lib.hid h.reads
  have HX : Hid (∀ W, Only ((w.alloc (.cells #[.int .i64 epoch, .int .i64 quiet, .slice a n c] 59)).alloc (.cells #[.int .i64 0, .int .i64 0, .slice none 0 0] 59)).heap.size ((w.alloc (.cells #[.int .i64 epoch, .int .i64 quiet, .slice a n c] 59)).alloc (.cells #[.int .i64 0, .int .i64 0, .slice none 0 0] 59)).heap.size ((w.alloc (.cells #[.int .i64 epoch, .int .i64 quiet, .slice a n c] 59)).alloc (.cells #[.int .i64 0, .int .i64 0, .slice none 0 0] 59)) W → XBox W w.heap.size epoch quiet (.slice a n c) ∧ XBox W (w.heap.size + 1) 0 0 (.slice none 0 0)) := Lib.hid (fun W o => by
    refine ⟨(XBox.of ((low_at _ _ _ (by simp)).trans (top_at _ _ _ rfl))).kept o (by simp; omega) (.inl (by simp; omega)), (XBox.of (top_at _ _ _ (by simp))).kept o (by simp) (.inl (by simp))⟩)
  have HE := Lib.hid he
  clear h he hbase
  have HF : Hid (∀ W, Only w.heap.size w.heap.size w W → Calls Try.prog 56 #[.agg #[.int .i64 epoch, .int .i64 quiet, .slice a n c], .int .i64 now, .int .i64 place] W (Found W (findR l now place))) := Lib.hid (fun W o => find_any W epoch quiet now place _ l (H.out.kept o))
  have HFR := Lib.hid hf
  clear hf
  have hm0 : ((now + term) == 0) = false := by simp; omega
  have HM := Lib.hid hm0
  have hw1 : IntKind.i64.wrap (epoch + 1) = epoch + 1 := IntWalk.i64_in _ (by omega)
  have hw2 : IntKind.i64.wrap (now + term) = now + term := IntWalk.i64_in _ (by omega)
  clear hle hln hlt hm0
  go_enter Try.func37, Try.ntmps37
  go_wp2_with (first
    | (go_at_call 56; refine (HF.out _ ((hO.out.alloc _).alloc _)).mono ?_; unfold Found; rw [HFR.out]; dsimp only [Option.getD, Option.isSome, rec4, zrec]; rintro e W1 ⟨rfl, ho1⟩; have o1 := Lib.hid ((((hO.out.alloc _).alloc _).then ho1 (by simp; omega)).alloc (.cells #[.int .i64 place, .int .i64 x0, .int .i64 x1, .int .i64 x2] 71)); have oX := Lib.hid (ho1.alloc (.cells #[.int .i64 place, .int .i64 x0, .int .i64 x1, .int .i64 x2] 71)); have HB := Lib.hid (HX.out _ oX.out); obtain ⟨⟨b0, b1, b2, _⟩, ⟨r0, r1, r2, rf⟩⟩ := HB.out; have rf0 := rf 0; have rf1 := rf 1; have rf2 := rf 2; clear rf ho1)
    | (go_at_call 57; refine (with_put _ epoch quiet now place _ l (H.out.kept o1.out) hll place holder (epoch + 1) (now + term) HM.out rfl).mono ?_; rintro e W2 ⟨v2, rfl, hr2, ho2⟩; obtain ⟨a2, n2, c2, rfl⟩ := own_val hr2; have HR2 := Lib.hid hr2; have o2 := Lib.hid ((o1.out.then ho2 o1.out.size).alloc (.cells #[.int .i64 (epoch + 1), .int .i64 quiet, .slice a2 n2 c2] 59)); have HB2 := Lib.hid (HX.out _ ((oX.out.then ho2 oX.out.size).alloc (.cells #[.int .i64 epoch, .int .i64 quiet, .slice a2 n2 c2] 59))); have HB3 := Lib.hid (HX.out _ ((oX.out.then ho2 oX.out.size).alloc (.cells #[.int .i64 (epoch + 1), .int .i64 quiet, .slice a2 n2 c2] 59))); have HZ2 : Hid (w.heap.size + 2 ≤ W2.heap.size) := Lib.hid (by have h1 := oX.out.size; have h2 := ho2.size; simp at h1 h2; omega); clear b0 b1 b2 r0 r1 r2 rf0 rf1 rf2 hr2 ho2; obtain ⟨⟨b0, b1, b2, _⟩, ⟨r0, r1, r2, rf⟩⟩ := HB2.out; have rf0 := rf 0; have rf1 := rf 1; have rf2 := rf 2; clear rf; unfold xval)
    | fail)
  clear b0 b1 b2 r0 r1 r2 rf0 rf1 rf2
  obtain ⟨_, ⟨r0, r1, r2, rf⟩⟩ := HB3.out
  have rf0 := rf 0
  have rf1 := rf 1
  have rf2 := rf 2
  clear rf
  have hz := HZ2.out
  have hne : ¬ (w.heap.size + 1 = W2.heap.size) := by omega
  have hne2 : ¬ (W2.heap.size = w.heap.size + 1) := by omega
  clear hz
  go_region_with fail
  all_goals go_wp2
  all_goals
    have hE := HB3.out.2.three (e' := epoch + 1) (q' := quiet) (v' := .slice a2 n2 c2)
    have hEO := xthree_only (W2.alloc (.cells #[.int .i64 (epoch + 1), .int .i64 quiet, .slice a2 n2 c2] 59)) (w.heap.size + 1) (epoch + 1) quiet (.slice a2 n2 c2)
    unfold World.xthree at hE hEO
    obtain ⟨k0, k1, k2, _⟩ := hE
    refine bodyPost_ret (v := .tuple #[xval (epoch + 1) quiet (.slice a2 n2 c2), .int .i64 (epoch + 1), .int .i64 0]) (by simp [results, Try.results37, go_sem, xval, k0, k1, k2]) rfl ?_
    rw [HE.out]
    have hF := (HR2.out.grown ((Only.refl _ _ W2).alloc (.cells #[.int .i64 (epoch + 1), .int .i64 quiet, .slice a2 n2 c2] 59))).keptOnly hEO.drew (by have := oX.out.size; simp at this; simp; omega)
    exact ⟨_, rfl, hF.mono (Nat.le_trans HBA.out o1.out.size), .inr (hF.mono o1.out.size), (o2.out.fresh (hEO.mono (by omega) (Nat.le_refl _))).drew⟩

theorem grantR_any (w : World) (epoch quiet now term place holder : Int) (v : Value) (l : Trips) (base : Nat) (hbase : base ≤ w.heap.size) (h : OwnS hold4 w base v l) (hr : Rising l) (hll : l.length ≤ 10000) (hep : -9223372036854775808 ≤ epoch) :
    Calls Try.prog 37 #[.agg #[.int .i64 epoch, .int .i64 quiet, v], .int .i64 now, .int .i64 term, .int .i64 place, .int .i64 holder] w (GrantR w base v (grantL ⟨epoch, quiet, l⟩ now term place holder)) := by
  by_cases d0 : term < 1
  · exact grantR_arg0 w epoch quiet now term place holder v l base hbase h (by simp [d0]) (grantL_bad (by omega))
  by_cases d1 : 1048576 < term
  · exact grantR_arg1 w epoch quiet now term place holder v l base hbase h (by simp [d0]) (by simp [d1]) (grantL_bad (by omega))
  by_cases d2 : now < 0
  · exact grantR_arg2 w epoch quiet now term place holder v l base hbase h (by simp [d0]) (by simp [d1]) (by simp [d2]) (grantL_bad (by omega))
  by_cases d3 : 1099511627776 < now
  · exact grantR_arg3 w epoch quiet now term place holder v l base hbase h (by simp [d0]) (by simp [d1]) (by simp [d2]) (by simp [d3]) (grantL_bad (by omega))
  by_cases d4 : holder < 0
  · exact grantR_arg4 w epoch quiet now term place holder v l base hbase h (by simp [d0]) (by simp [d1]) (by simp [d2]) (by simp [d3]) (by simp [d4]) (grantL_bad (by omega))
  have hn : ¬ (term < 1 ∨ 1048576 < term ∨ now < 0 ∨ 1099511627776 < now ∨ holder < 0) := by omega
  by_cases dq : now < quiet
  · exact grantR_late w epoch quiet now term place holder v l base hbase h (by simp [d0]) (by simp [d1]) (by simp [d2]) (by simp [d3]) (by simp [d4]) (by simp [dq]) (grantL_late' hn dq)
  have hf := findR_who now place hr
  cases hw : whoL l now place with
  | none =>
    rw [hw] at hf
    have hx : ∀ x, whoL l now place = some x → x.1 = holder := fun x hx => by rw [hw] at hx; cases hx
    by_cases db : 1099511627776 ≤ epoch
    · exact grantR_big0 w epoch quiet now term place holder v l base hbase h (by simp [d0]) (by simp [d1]) (by simp [d2]) (by simp [d3]) (by simp [d4]) (by simp [dq]) (by simp [db]) hf (grantL_big' hn dq hr hx db)
    · exact grantR_ok0 w epoch quiet now term place holder v l base hbase h hll (by omega) (by omega) (by omega) (by simp [d0]) (by simp [d1]) (by simp [d2]) (by simp [d3]) (by simp [d4]) (by simp [dq]) (by simp [db]) hf (grantL_ok' hn dq hr hx db)
  | some x =>
    obtain ⟨x0, x1, x2⟩ := x
    rw [hw] at hf
    by_cases he : x0 = holder
    · have hx : ∀ x, whoL l now place = some x → x.1 = holder := fun x hx => by rw [hw] at hx; cases hx; exact he
      by_cases db : 1099511627776 ≤ epoch
      · exact grantR_big1 w epoch quiet now term place holder v l base hbase h (by simp [d0]) (by simp [d1]) (by simp [d2]) (by simp [d3]) (by simp [d4]) (by simp [dq]) x0 x1 x2 (by simp [he]) (by simp [db]) hf (grantL_big' hn dq hr hx db)
      · exact grantR_ok1 w epoch quiet now term place holder v l base hbase h hll (by omega) (by omega) (by omega) (by simp [d0]) (by simp [d1]) (by simp [d2]) (by simp [d3]) (by simp [d4]) (by simp [dq]) x0 x1 x2 (by simp [he]) (by simp [db]) hf (grantL_ok' hn dq hr hx db)
    · exact grantR_busy w epoch quiet now term place holder v l base hbase h (by simp [d0]) (by simp [d1]) (by simp [d2]) (by simp [d3]) (by simp [d4]) (by simp [dq]) x0 x1 x2 (by simp [he]) hf (grantL_busy' hn dq hr hw he)

end Go.Proofs.Ytefllgpehhlkoaa
